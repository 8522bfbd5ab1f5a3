/- Caches: the program's Put. No statement of the seat is proved here. -/
import Derived.Test.YtfkdfnookacgiaaCa4
set_option linter.unusedVariables false
set_option linter.unusedSimpArgs false
namespace Go.Proofs.Ytfkdfnookacgiaa
open Go
attribute [local irreducible] Wp
theorem mput_sub (k : Ck) (u : Cv) : ∀ (m : CaM) (x : Ck × Cv), x ∈ mput k u m → x = (k, u) ∨ x ∈ m
  | [], x, h => by simp [mput] at h; exact .inl h
  | p :: m, x, h => by
    rw [mput] at h
    split at h
    · rcases List.mem_cons.1 h with h | h
      · exact .inl h
      · exact .inr (List.mem_cons_of_mem _ h)
    · rcases List.mem_cons.1 h with h | h
      · exact .inr (by rw [h]; exact List.mem_cons_self)
      · rcases mput_sub k u m x h with h | h
        · exact .inl h
        · exact .inr (List.mem_cons_of_mem _ h)
theorem overC_full {now : Int} {m : CaM} (h : ¬ (overC now m).length < m.length) : overC now m = m := by
  have h1 := List.length_filter_le (fun x : Ck × Cv => !(decide (x.2.till ≤ now))) m
  unfold overC at h ⊢
  exact List.Sublist.eq_of_length List.filter_sublist (by omega)
theorem filter_ck (m : CaM) (hn : (m.map (·.1)).Nodup) (x : Ck) : ∀ l : List (Ck × Cv × Nat), m = l.map (fun y => (y.1, y.2.1)) → (edel x l).map (fun y => (y.1, y.2.1)) = m.filter fun y => decide (¬ x = y.1) := by
  rintro l rfl
  rw [edel_filter x l (by rw [List.map_map] at hn; exact hn), List.filter_map]
  rfl
/-- What Put answers and leaves. -/
def PutC (p : Nat) (room : Int) (m : CaM) (l : List Ad) (ttl now : Int) (k : Ck) (u : Value) (h : G) : Prop :=
      if ttl < 1 then u = .tuple #[El.ck.val Ck.zero, .bool false] ∧ Cm h p room m
      else ∃ cv : Cv, cv.addrs = l ∧ cv.till = now + min ttl 604800 ∧ u = .tuple #[El.ck.val (preC room now k m).2.1, .bool (preC room now k m).2.2] ∧ Cm h p room (mput k cv (preC room now k m).1)
theorem Cache_Put (p : Nat) (room : Int) (m : CaM) (name : List UInt8) (t : Int) (l : List Ad) (vl : Value) (ttl now : Int) (g : G) (hb : Cm g p room m) (hnd : (m.map (·.1)).Nodup) (hl : m.length ≤ 1000) (hr1 : 1 ≤ room) (hn : name.length ≤ 1000000)
    (hrl : Rdx g El.ad vl l) (hll : l.length ≤ 1000000) (hnow : 0 ≤ now ∧ now ≤ 4398046511104) (k : Ck) (hk : (⟨lowB name, t⟩ : Ck) = k) :
    Fn Try.prog 13 [.pointer (some ⟨p, 0, none⟩), str name, .int .i64 t, vl, .int .i64 ttl, .int .i64 now] g [51, 52] (PutC p room m l ttl now k) := by
  refine enterG [51, 52] [41, 42, 43, 44, 53] Try.func13 rfl Try.ntmps13 rfl (by simp) fun g1 hv ho => ?_
  replace hb := hb.view hv
  replace hrl := hrl.seen hv ho
  repeat (first|refine q1 ?_|refine q2 ?_|refine q3 ?_|refine q4 ?_|refine q5 ?_|refine q6 ?_|refine w_seq ?_|refine w_region ?_|refine w_ops_nil ?_|refine w_skip ?_|refine w_block ?_|refine w_blk ?_|refine q7 ?_|refine q8 ?_|refine q9 ?_)
  refine w_alloc 41 (vs := El.ck.enc Ck.zero) rfl rfl fun h1 b12 hs1 hc12 => ?_
  have hst : Step [] [51, 52, 41, 42, 43, 44, 53] g1 h1 := hs1.nil
  replace hb := hb.go hs1; replace hrl := hrl.go hs1
  repeat (first|refine q1 ?_|refine q2 ?_|refine q3 ?_|refine q4 ?_|refine q5 ?_|refine q6 ?_|refine w_seq ?_|refine w_region ?_|refine w_ops_nil ?_|refine w_skip ?_|refine w_block ?_|refine w_blk ?_|refine q7 ?_|refine q8 ?_|refine q9 ?_)
  refine w_condP rfl (fun hle => ?_) (fun hle => ?_)
  · repeat (first|refine q1 ?_|refine q2 ?_|refine q3 ?_|refine q4 ?_|refine q5 ?_|refine q6 ?_|refine w_seq ?_|refine w_region ?_|refine w_ops_nil ?_|refine w_skip ?_|refine w_block ?_|refine w_blk ?_|refine q7 ?_|refine q8 ?_|refine q9 ?_)
    refine w_build (vs := []) (r := El.ck.enc Ck.zero) rfl rfl rfl ?_
    refine w_store (us := El.ck.enc Ck.zero) (vs' := El.ck.enc Ck.zero) hc12 rfl rfl rfl rfl (El.ck.flat _) (show 0 + 2 ≤ 2 by decide) rfl fun h3 hb3 hs3 hc3 => ?_
    replace hst := hst.go hs3; replace hb := hb.go hs3
    repeat (first|refine q1 ?_|refine q2 ?_|refine q3 ?_|refine q4 ?_|refine q5 ?_|refine q6 ?_|refine w_seq ?_|refine w_region ?_|refine w_ops_nil ?_|refine w_skip ?_|refine w_block ?_|refine w_blk ?_|refine q7 ?_|refine q8 ?_|refine q9 ?_)
    refine w_retG (resCs1 hc3 rfl rfl rfl rfl rfl) hst fun h' hv' => ?_
    unfold PutC
    rw [if_pos hle]
    exact ⟨rfl, hb.view hv'⟩
  repeat (first|refine q1 ?_|refine q2 ?_|refine q3 ?_|refine q4 ?_|refine q5 ?_|refine q6 ?_|refine w_seq ?_|refine w_region ?_|refine w_ops_nil ?_|refine w_skip ?_|refine w_block ?_|refine w_blk ?_|refine q7 ?_|refine q8 ?_|refine q9 ?_)
  refine w_alloc 42 (vs := El.ck.enc Ck.zero) rfl rfl fun h2 b14 hs2 hc14 => ?_
  replace hst := hst.go hs2; replace hb := hb.go hs2; replace hrl := hrl.go hs2; replace hc12 := hc12.go hs2
  repeat (first|refine q1 ?_|refine q2 ?_|refine q3 ?_|refine q4 ?_|refine q5 ?_|refine q6 ?_|refine w_seq ?_|refine w_region ?_|refine w_ops_nil ?_|refine w_skip ?_|refine w_block ?_|refine w_blk ?_|refine q7 ?_|refine q8 ?_|refine q9 ?_)
  refine w_callF (vs := [str name, .int .i64 t]) rfl (cache_key name t h2 hn) rfl fun u h3 hs3 hu => ?_
  rw [hk] at hu
  subst hu
  replace hst := hst.go hs3; replace hb := hb.go hs3; replace hrl := hrl.go hs3; replace hc12 := hc12.go hs3; replace hc14 := hc14.go hs3
  repeat (first|refine q1 ?_|refine q2 ?_|refine q3 ?_|refine q4 ?_|refine q5 ?_|refine q6 ?_|refine w_seq ?_|refine w_region ?_|refine w_ops_nil ?_|refine w_skip ?_|refine w_block ?_|refine w_blk ?_|refine q7 ?_|refine q8 ?_|refine q9 ?_)
  refine w_alloc 43 (vs := El.ck.enc Ck.zero) rfl rfl fun h4 b16 hs4 hc16 => ?_
  replace hst := hst.go hs4; replace hb := hb.go hs4; replace hrl := hrl.go hs4; replace hc12 := hc12.go hs4; replace hc14 := hc14.go hs4
  refine w_store (us := El.ck.enc k) (vs' := El.ck.enc k) hc16 rfl rfl rfl rfl (El.ck.flat _) (show 0 + 2 ≤ 2 by decide) rfl fun h5 hb5 hs5 hc16 => ?_
  replace hst := hst.go hs5; replace hb := hb.go hs5; replace hrl := hrl.go hs5; replace hc12 := hc12.go hs5; replace hc14 := hc14.go hs5
  clear hs1 hs2 hs3 hs4 hs5 hb5
  have hbk := hb
  obtain ⟨q, hcb, hmq, _⟩ := hb
  repeat (first|refine q1 ?_|refine q2 ?_|refine q3 ?_|refine q4 ?_|refine q5 ?_|refine q6 ?_|refine w_seq ?_|refine w_region ?_|refine w_ops_nil ?_|refine w_skip ?_|refine w_blk ?_|refine q7 ?_|refine q8 ?_|refine q9 ?_)
  refine d_begin none [44] (by kernel_rfl) fun g2 hsd => ?_
  replace hmq := hmq.step hsd (by simp) (by simp)
  replace hst := hst.go hsd; replace hbk := hbk.go hsd; replace hcb := hcb.go hsd; replace hrl := hrl.go hsd; replace hc12 := hc12.go hsd; replace hc14 := hc14.go hsd; replace hc16 := hc16.go hsd
  refine d_pure 0 calm_ret rfl (by kernel_rfl) rfl rfl ?_; refine d_pure 1 calm_ret rfl (by kernel_rfl) rfl rfl ?_
  refine d_read 2 calm_ret rfl (by kernel_rfl) rfl  (fun h hs => r_fldA (by decide) rfl) ?_
  refine d_read 3 calm_ret rfl (by kernel_rfl) rfl  (fun h hs => r_load1 (v := .map (some q)) (hcb.go hs) rfl rfl rfl) ?_
  refine d_read 4 calm_ret rfl (by kernel_rfl) rfl  (fun h hs => r_load (us := El.ck.enc k) (hc16.go hs) rfl rfl rfl (fun e => by cases e)) ?_
  refine d_read 5 calm_ret rfl (by kernel_rfl) rfl  (fun h hs => r_lookupOk (V := El.cv) (key := k) (hmq.step hs (by simp) (by simp)) rfl rfl) ?_
  refine d_known 31 (.tuple #[El.cv.val (getD m k), .bool (mget k m).isSome]) rfl (by rw [← opt_cv]; rfl) ?_
  refine d_pure 6 calm_ret rfl (by kernel_rfl) rfl rfl ?_; refine d_pure 7 calm_ret rfl (by kernel_rfl) rfl rfl ?_; refine d_pure 8 calm_ret rfl (by kernel_rfl) rfl rfl ?_
  refine d_exec1 9 (by kernel_rfl) rfl ?_
  refine w_alloc 44 (vs := El.cv.enc Cv.zero) rfl rfl fun h6 b17 hs6 hc17 => ?_
  have hss : Step [] [44] g2 h6 := hs6.nil
  replace hst := hst.go hs6; replace hbk := hbk.go hs6; replace hrl := hrl.go hs6; replace hc12 := hc12.go hs6; replace hc14 := hc14.go hs6; replace hc16 := hc16.go hs6
  repeat (first|refine q1 ?_|refine q2 ?_|refine q3 ?_|refine q4 ?_|refine q5 ?_|refine q6 ?_|refine w_seq ?_|refine w_region ?_|refine w_ops_nil ?_|refine w_skip ?_|refine w_block ?_|refine w_blk ?_|refine q7 ?_|refine q8 ?_|refine q9 ?_)
  refine d_next (fun _ => ⟨h6, rfl, hss⟩) ?_
  refine d_exec1 10 (by kernel_rfl) rfl ?_
  refine w_store (us := El.cv.enc (getD m k)) (vs' := El.cv.enc (getD m k)) hc17 rfl rfl rfl rfl (El.cv.flat _) (show 0 + 2 ≤ 2 by decide) rfl fun h7 hb7 hs7 hc17 => ?_
  replace hss := hss.go hs7
  replace hst := hst.go hs7; replace hbk := hbk.go hs7; replace hrl := hrl.go hs7; replace hc12 := hc12.go hs7; replace hc14 := hc14.go hs7; replace hc16 := hc16.go hs7
  repeat (first|refine q1 ?_|refine q2 ?_|refine q3 ?_|refine q4 ?_|refine q5 ?_|refine q6 ?_|refine w_seq ?_|refine w_region ?_|refine w_ops_nil ?_|refine w_skip ?_|refine w_block ?_|refine w_blk ?_|refine q7 ?_|refine q8 ?_|refine q9 ?_)
  refine d_next (fun _ => ⟨h7, rfl, hss⟩) ?_
  refine d_pure 11 calm_ret rfl (by kernel_rfl) rfl rfl ?_
  refine d_done (by kernel_rfl) ?_
  clear hss hs6 hs7 hb7 hc17 hcb hmq hsd
  repeat (first|refine q1 ?_|refine q2 ?_|refine q3 ?_|refine q4 ?_|refine q5 ?_|refine q6 ?_|refine w_seq ?_|refine w_region ?_|refine w_ops_nil ?_|refine w_skip ?_|refine w_blk ?_|refine q7 ?_|refine q8 ?_|refine q9 ?_)
  refine w_cut (ι := Bool × CaM) (fun x => [(0, .pointer (some ⟨p, 0, none⟩)), (3, vl), (4, .int .i64 ttl), (5, .int .i64 now), (12, .pointer (some ⟨b12, 0, none⟩)), (14, .pointer (some ⟨b14, 0, none⟩)), (15, .bool false), (16, .pointer (some ⟨b16, 0, none⟩)), (53, .bool x.1)])
    (fun x w => (((mget k m).isSome = false ∧ (m.length : Int) = room) ∧ x.2 = overC now m ∧ x.1 = decide (¬ (overC now m).length < m.length) ∨ ¬ ((mget k m).isSome = false ∧ (m.length : Int) = room) ∧ x.2 = m ∧ x.1 = false) ∧ ∃ h : G, h.w = w ∧ Step [] [51, 52] h7 h ∧ Cm h p room x.2) ?_ ?_
  · obtain ⟨q, hcb, hmq, hrdm⟩ := hbk
    by_cases hg : (mget k m).isSome = true
    · refine d_begin none [] (by kernel_rfl) fun g3 hsd3 => ?_
      have hbk3 : Cm g3 p room m := ⟨q, hcb.go hsd3, hmq.step hsd3 (by simp) (by simp), fun x hx => (hrdm x hx).step hsd3 (by simp)⟩
      have hmq3 := hmq.step hsd3 (by simp) (by simp)
      have hcb3 := hcb.go hsd3
      refine d_known 18 (.bool true) rfl (congrArg Value.bool hg) ?_
      refine d_pure 0 calm_ret rfl (by kernel_rfl) rfl rfl ?_; refine d_pure 1 calm_ret rfl (by kernel_rfl) rfl rfl ?_; refine d_pure 2 calm_ret rfl (by kernel_rfl) rfl rfl ?_
      refine d_guard_no 3 calm_ret rfl rfl rfl (by kernel_rfl) rfl ?_; refine d_guard_no 4 calm_ret rfl rfl rfl (by kernel_rfl) rfl ?_; refine d_guard_no 5 calm_ret rfl rfl rfl (by kernel_rfl) rfl ?_; refine d_guard_no 6 calm_ret rfl rfl rfl (by kernel_rfl) rfl ?_; refine d_guard_no 7 calm_ret rfl rfl rfl (by kernel_rfl) rfl ?_; refine d_guard_no 8 calm_ret rfl rfl rfl (by kernel_rfl) rfl ?_; refine d_guard_no 9 calm_ret rfl rfl rfl (by kernel_rfl) rfl ?_; refine d_guard_no 10 calm_ret rfl rfl rfl (by kernel_rfl) rfl ?_; refine d_guard_no 11 calm_ret rfl rfl rfl (by kernel_rfl) rfl ?_; refine d_guard_no 12 calm_ret rfl rfl rfl (by kernel_rfl) rfl ?_
      refine d_pure 13 calm_ret rfl (by kernel_rfl) rfl rfl ?_; refine d_pure 14 calm_ret rfl (by kernel_rfl) rfl rfl ?_
      refine d_guard_no 15 calm_ret rfl rfl rfl (by kernel_rfl) rfl ?_; refine d_guard_no 16 calm_ret rfl rfl rfl (by kernel_rfl) rfl ?_; refine d_guard_no 17 calm_ret rfl rfl rfl (by kernel_rfl) rfl ?_; refine d_guard_no 18 calm_ret rfl rfl rfl (by kernel_rfl) rfl ?_
      refine d_pure 19 calm_ret rfl (by kernel_rfl) rfl rfl ?_
      refine d_done (by kernel_rfl) ?_
      exact w_meet (false, m) ⟨.inr ⟨by simp [hg], rfl, rfl⟩, g3, rfl, hsd3.nil, hbk3⟩ ⟨rfl, rfl, rfl, rfl, rfl, rfl, rfl, rfl, rfl, trivial⟩
    have hg : (mget k m).isSome = false := by simpa using hg
    by_cases hne : (m.length : Int) = room
    · refine d_begin (some 17) [] (by kernel_rfl) fun g3 hsd3 => ?_
      have hbk3 : Cm g3 p room m := ⟨q, hcb.go hsd3, hmq.step hsd3 (by simp) (by simp), fun x hx => (hrdm x hx).step hsd3 (by simp)⟩
      have hmq3 := hmq.step hsd3 (by simp) (by simp)
      have hcb3 := hcb.go hsd3
      refine d_known 18 (.bool false) rfl (congrArg Value.bool hg) ?_
      refine d_pure 0 calm_ret rfl (by kernel_rfl) rfl rfl ?_; refine d_pure 1 calm_ret rfl (by kernel_rfl) rfl rfl ?_; refine d_pure 2 calm_ret rfl (by kernel_rfl) rfl rfl ?_
      refine d_guard_pure 3 calm_ret rfl rfl rfl (by kernel_rfl) rfl rfl ?_; refine d_guard_pure 4 calm_ret rfl rfl rfl (by kernel_rfl) rfl rfl ?_
      refine d_readG 5 calm_ret rfl rfl rfl (by kernel_rfl) rfl  (fun h hs => r_fldA (by decide) rfl) ?_
      refine d_readG 6 calm_ret rfl rfl rfl (by kernel_rfl) rfl  (fun h hs => r_load1 (v := .map (some q)) (hcb3.go hs) rfl rfl rfl) ?_
      refine d_readG 7 calm_ret rfl rfl rfl (by kernel_rfl) rfl  (fun h hs => r_lenMap (hmq3.step hs (by simp) (by simp)) rfl) ?_
      refine d_guard_pure 8 calm_ret rfl rfl rfl (by kernel_rfl) rfl rfl ?_; refine d_guard_pure 9 calm_ret rfl rfl rfl (by kernel_rfl) rfl rfl ?_
      refine d_readG 10 calm_ret rfl rfl rfl (by kernel_rfl) rfl  (fun h hs => r_fldA (by decide) rfl) ?_
      refine d_readG 11 calm_ret rfl rfl rfl (by kernel_rfl) rfl  (fun h hs => r_load1 (v := .int .i64 room) (hcb3.go hs) rfl rfl rfl) ?_
      refine d_guard_pure 12 calm_ret rfl rfl rfl (by kernel_rfl) rfl rfl ?_
      refine d_known 46 (.bool true) rfl (congrArg Value.bool (decide_eq_true hne)) ?_
      refine d_pure 13 calm_ret rfl (by kernel_rfl) rfl rfl ?_; refine d_pure 14 calm_ret rfl (by kernel_rfl) rfl rfl ?_
      refine d_guard_pure 15 calm_ret rfl rfl rfl (by kernel_rfl) rfl rfl ?_; refine d_guard_pure 16 calm_ret rfl rfl rfl (by kernel_rfl) rfl rfl ?_
      refine d_exec1 17 (by kernel_rfl) rfl ?_
      refine w_guard_yes' rfl rfl rfl rfl ?_
      refine w_callF (vs := [.pointer (some ⟨p, 0, none⟩), .int .i64 now]) rfl (Cache_Sweep p room m now g3 hbk3 hnd hl) rfl fun u h8 hs8 hR => ?_
      obtain ⟨rfl, hb8⟩ := hR
      have hfl2 : (overC now m).length ≤ m.length := List.length_filter_le _ _
      repeat (first|refine q1 ?_|refine q2 ?_|refine q3 ?_|refine q4 ?_|refine q5 ?_|refine q6 ?_|refine w_seq ?_|refine w_region ?_|refine w_ops_nil ?_|refine w_skip ?_|refine w_block ?_|refine w_blk ?_|refine q7 ?_|refine q8 ?_|refine q9 ?_)
      refine d_over (by kernel_rfl) ?_
      refine d_phase none [] (by kernel_rfl) ?_
      refine d_guard_pure 18 calm_ret rfl rfl rfl (by kernel_rfl) rfl rfl ?_
      refine d_pure 19 calm_ret rfl (by kernel_rfl) rfl rfl ?_
      refine d_done (by kernel_rfl) ?_
      refine w_meet (decide ((m.length : Int) - (overC now m).length = 0), overC now m) ⟨.inl ⟨⟨hg, hne⟩, rfl, ?_⟩, h8, rfl, hsd3.nil.trans hs8, hb8⟩ ⟨rfl, rfl, rfl, rfl, rfl, rfl, rfl, rfl, rfl, trivial⟩
      by_cases hz : (overC now m).length < m.length
      · rw [decide_eq_false (by omega), decide_eq_false (fun h => h hz)]
      · rw [decide_eq_true (by omega), decide_eq_true hz]
    · refine d_begin none [] (by kernel_rfl) fun g3 hsd3 => ?_
      have hbk3 : Cm g3 p room m := ⟨q, hcb.go hsd3, hmq.step hsd3 (by simp) (by simp), fun x hx => (hrdm x hx).step hsd3 (by simp)⟩
      have hmq3 := hmq.step hsd3 (by simp) (by simp)
      have hcb3 := hcb.go hsd3
      refine d_known 18 (.bool false) rfl (congrArg Value.bool hg) ?_
      refine d_pure 0 calm_ret rfl (by kernel_rfl) rfl rfl ?_; refine d_pure 1 calm_ret rfl (by kernel_rfl) rfl rfl ?_; refine d_pure 2 calm_ret rfl (by kernel_rfl) rfl rfl ?_
      refine d_guard_pure 3 calm_ret rfl rfl rfl (by kernel_rfl) rfl rfl ?_; refine d_guard_pure 4 calm_ret rfl rfl rfl (by kernel_rfl) rfl rfl ?_
      refine d_readG 5 calm_ret rfl rfl rfl (by kernel_rfl) rfl  (fun h hs => r_fldA (by decide) rfl) ?_
      refine d_readG 6 calm_ret rfl rfl rfl (by kernel_rfl) rfl  (fun h hs => r_load1 (v := .map (some q)) (hcb3.go hs) rfl rfl rfl) ?_
      refine d_readG 7 calm_ret rfl rfl rfl (by kernel_rfl) rfl  (fun h hs => r_lenMap (hmq3.step hs (by simp) (by simp)) rfl) ?_
      refine d_guard_pure 8 calm_ret rfl rfl rfl (by kernel_rfl) rfl rfl ?_; refine d_guard_pure 9 calm_ret rfl rfl rfl (by kernel_rfl) rfl rfl ?_
      refine d_readG 10 calm_ret rfl rfl rfl (by kernel_rfl) rfl  (fun h hs => r_fldA (by decide) rfl) ?_
      refine d_readG 11 calm_ret rfl rfl rfl (by kernel_rfl) rfl  (fun h hs => r_load1 (v := .int .i64 room) (hcb3.go hs) rfl rfl rfl) ?_
      refine d_guard_pure 12 calm_ret rfl rfl rfl (by kernel_rfl) rfl rfl ?_
      refine d_known 46 (.bool false) rfl (congrArg Value.bool (decide_eq_false hne)) ?_
      refine d_pure 13 calm_ret rfl (by kernel_rfl) rfl rfl ?_; refine d_pure 14 calm_ret rfl (by kernel_rfl) rfl rfl ?_
      refine d_guard_no 15 calm_ret rfl rfl rfl (by kernel_rfl) rfl ?_; refine d_guard_no 16 calm_ret rfl rfl rfl (by kernel_rfl) rfl ?_; refine d_guard_no 17 calm_ret rfl rfl rfl (by kernel_rfl) rfl ?_; refine d_guard_no 18 calm_ret rfl rfl rfl (by kernel_rfl) rfl ?_
      refine d_pure 19 calm_ret rfl (by kernel_rfl) rfl rfl ?_
      refine d_done (by kernel_rfl) ?_
      exact w_meet (false, m) ⟨.inr ⟨fun e => hne e.2, rfl, rfl⟩, g3, rfl, hsd3.nil, hbk3⟩ ⟨rfl, rfl, rfl, rfl, rfl, rfl, rfl, rfl, rfl, trivial⟩
  clear hbk
  rintro ⟨bx, mx⟩ _ ⟨hor, h, rfl, hs0, hbk⟩
  dsimp only at hor hbk ⊢
  replace hst := hst.trans (hs0.mono (by simp) (by simp))
  replace hrl := hrl.go hs0; replace hc12 := hc12.go hs0; replace hc14 := hc14.go hs0; replace hc16 := hc16.go hs0
  clear hs0
  obtain ⟨r, hr⟩ : ∃ r, preC room now k m = r := ⟨_, rfl⟩
  refine w_cut (ι := Unit) (fun _ => [(0, .pointer (some ⟨p, 0, none⟩)), (3, vl), (4, .int .i64 ttl), (5, .int .i64 now), (12, .pointer (some ⟨b12, 0, none⟩)), (14, .pointer (some ⟨b14, 0, none⟩)), (15, .bool r.2.2), (16, .pointer (some ⟨b16, 0, none⟩))])
    (fun _ w => ∃ h2 : G, h2.w = w ∧ Step [] [51, 52, 42] h h2 ∧ Cm h2 p room r.1 ∧ Cell h2 42 b14 37 (El.ck.enc r.2.1)) ?_ ?_
  · refine w_cond rfl (fun hx => ?_) (fun hx => ?_)
    · obtain ⟨hfull, rfl, hb2⟩ : ((mget k m).isSome = false ∧ (m.length : Int) = room) ∧ mx = overC now m ∧ bx = decide (¬ (overC now m).length < m.length) := by
        rcases hor with h | h
        · exact h
        · rw [hx] at h; exact absurd h.2.2 (by simp)
      rw [hx] at hb2
      have hno := of_decide_eq_true hb2.symm
      rw [overC_full hno] at hbk
      obtain ⟨b, ks, hks⟩ : ∃ b ks, keysC m = b :: ks := by
        cases hk2 : keysC m with
        | nil =>
          have := congrArg List.length hk2
          unfold keysC at this
          rw [srt_len, List.length_map] at this
          have h3 := hfull.2
          simp only [List.length_nil] at this
          omega
        | cons b ks => exact ⟨b, ks, rfl⟩
      obtain ⟨x, hxe⟩ : ∃ x, leastBy (tvC m) b ks = x := ⟨_, rfl⟩
      have er : r = (m.filter fun y => decide (¬ x = y.1), x, true) := by
        rw [← hr]; unfold preC mkRoomC; rw [if_pos hfull, if_neg hno, hks]; dsimp only; rw [hxe]
      repeat (first|refine q1 ?_|refine q2 ?_|refine q3 ?_|refine q4 ?_|refine q5 ?_|refine q6 ?_|refine w_seq ?_|refine w_region ?_|refine w_ops_nil ?_|refine w_skip ?_|refine w_block ?_|refine w_blk ?_|refine q7 ?_|refine q8 ?_|refine q9 ?_)
      refine w_callF (vs := [.pointer (some ⟨p, 0, none⟩)]) rfl (Cache_first p room m h hbk hl b ks hks) rfl fun u h4 hs4 hu => ?_
      rw [hxe] at hu
      subst hu
      replace hbk := hbk.go hs4; replace hc14 := hc14.go hs4
      have hk0 : Step [] [51, 52, 42] h h4 := hs4.nil
      refine w_store (us := El.ck.enc x) (vs' := El.ck.enc x) hc14 rfl rfl rfl rfl (El.ck.flat _) (show 0 + 2 ≤ 2 by decide) rfl fun h5 hb5 hs5 hc14 => ?_
      replace hk0 := hk0.trans (hs5.mono (by simp) (by simp))
      replace hbk := hbk.go hs5
      obtain ⟨q, hcb, hmq, hrdm⟩ := hbk
      repeat (first|refine q1 ?_|refine q2 ?_|refine q3 ?_|refine q4 ?_|refine q5 ?_|refine q6 ?_|refine w_seq ?_|refine w_region ?_|refine w_ops_nil ?_|refine w_skip ?_|refine w_blk ?_|refine q7 ?_|refine q8 ?_|refine q9 ?_)
      refine d_begin none [52] (by kernel_rfl) fun g3 hsd3 => ?_
      replace hk0 := hk0.trans hsd3.nil
      replace hmq := hmq.step hsd3 (by simp) (by simp)
      replace hrdm := fun x hx => (hrdm x hx).step hsd3 (by simp)
      replace hcb := hcb.go hsd3; replace hc14 := hc14.go hsd3
      refine d_pure 0 calm_ret rfl (by kernel_rfl) rfl rfl ?_; refine d_pure 1 calm_ret rfl (by kernel_rfl) rfl rfl ?_
      refine d_read 2 calm_ret rfl (by kernel_rfl) rfl  (fun h hs => r_fldA (by decide) rfl) ?_
      refine d_read 3 calm_ret rfl (by kernel_rfl) rfl  (fun h hs => r_load1 (v := .map (some q)) (hcb.go hs) rfl rfl rfl) ?_
      refine d_read 4 calm_ret rfl (by kernel_rfl) rfl  (fun h hs => r_load (us := El.ck.enc x) (hc14.go hs) rfl rfl rfl (fun e => by cases e)) ?_
      refine d_exec1 5 (by kernel_rfl) rfl ?_
      obtain ⟨l2, clock, hE, hml⟩ := hmq.ent
      refine w_delE (T := 66) (key := x) hE rfl rfl rfl fun h9 hb9 hs9 hE => ?_
      have hm9 := hE.is
      rw [filter_ck m hnd x l2 hml] at hm9
      have hsb := hs9
      replace hk0 := hk0.trans (hs9.mono (by simp) (by simp))
      replace hrdm := fun x hx => (hrdm x hx).step hs9 (by simp)
      replace hcb := hcb.go hs9; replace hc14 := hc14.go hs9
      repeat (first|refine q1 ?_|refine q2 ?_|refine q3 ?_|refine q4 ?_|refine q5 ?_|refine q6 ?_|refine w_seq ?_|refine w_region ?_|refine w_ops_nil ?_|refine w_skip ?_|refine w_block ?_|refine w_blk ?_|refine q7 ?_|refine q8 ?_|refine q9 ?_)
      refine d_next (fun _ => ⟨h9, rfl, hsb⟩) ?_
      refine d_done (by kernel_rfl) ?_
      repeat (first|refine q1 ?_|refine q2 ?_|refine q3 ?_|refine q4 ?_|refine q5 ?_|refine q6 ?_|refine w_seq ?_|refine w_region ?_|refine w_ops_nil ?_|refine w_skip ?_|refine w_block ?_|refine w_blk ?_|refine q7 ?_|refine q8 ?_|refine q9 ?_)
      exact w_meet () ⟨h9, rfl, hk0, by rw [er]; exact ⟨q, hcb, hm9, fun y hy => hrdm y (List.mem_filter.1 hy).1⟩, by rw [er]; exact hc14⟩ ⟨rfl, rfl, rfl, rfl, rfl, rfl, by rw [er]; rfl, rfl, trivial⟩
    · have er : r = (mx, Ck.zero, false) := by
        rw [← hr]
        unfold preC
        rcases hor with ⟨h1, h2, h3⟩ | ⟨h1, h2, h3⟩
        · rw [if_pos h1, h2]
          rw [hx] at h3
          have := of_decide_eq_false h3.symm
          unfold mkRoomC
          rw [if_pos (Decidable.not_not.1 this)]
        · rw [if_neg h1, h2]
      repeat (first|refine q1 ?_|refine q2 ?_|refine q3 ?_|refine q4 ?_|refine q5 ?_|refine q6 ?_|refine w_seq ?_|refine w_region ?_|refine w_ops_nil ?_|refine w_skip ?_|refine w_block ?_|refine w_blk ?_|refine q7 ?_|refine q8 ?_|refine q9 ?_)
      exact w_meet () ⟨h, rfl, Step.refl _ _ _, by rw [er]; exact hbk, by rw [er]; exact hc14⟩ ⟨rfl, rfl, rfl, rfl, rfl, rfl, by rw [er]; rfl, rfl, trivial⟩
  clear hbk hc14 hor
  rintro _ _ ⟨h2, rfl, hs0, hbk, hc14⟩
  replace hst := hst.trans (hs0.mono (by simp) (by simp))
  replace hrl := hrl.go hs0; replace hc12 := hc12.go hs0; replace hc16 := hc16.go hs0
  clear hs0
  obtain ⟨q, hcb, hmq, hrdm⟩ := hbk
  repeat (first|refine q1 ?_|refine q2 ?_|refine q3 ?_|refine q4 ?_|refine q5 ?_|refine q6 ?_|refine w_seq ?_|refine w_region ?_|refine w_ops_nil ?_|refine w_skip ?_|refine w_blk ?_|refine q7 ?_|refine q8 ?_|refine q9 ?_)
  refine d_begin none [52, 53] (by kernel_rfl) fun g3 hsd3 => ?_
  replace hmq := hmq.step hsd3 (by simp) (by simp)
  replace hrdm := fun x hx => (hrdm x hx).step hsd3 (by simp)
  replace hst := hst.go hsd3; replace hc12 := hc12.go hsd3; replace hc14 := hc14.go hsd3; replace hc16 := hc16.go hsd3; replace hcb := hcb.go hsd3; replace hrl := hrl.go hsd3
  refine d_pure 0 calm_ret rfl (by kernel_rfl) rfl rfl ?_; refine d_pure 1 calm_ret rfl (by kernel_rfl) rfl rfl ?_
  refine d_read 2 calm_ret rfl (by kernel_rfl) rfl  (fun h hs => r_fldA (by decide) rfl) ?_
  refine d_read 3 calm_ret rfl (by kernel_rfl) rfl  (fun h hs => r_load1 (v := .map (some q)) (hcb.go hs) rfl rfl rfl) ?_
  refine d_read 4 calm_ret rfl (by kernel_rfl) rfl  (fun h hs => r_load (us := El.ck.enc k) (hc16.go hs) rfl rfl rfl (fun e => by cases e)) ?_
  refine d_pure 5 calm_ret rfl (by kernel_rfl) rfl rfl ?_; refine d_pure 7 calm_ret rfl (by kernel_rfl) rfl rfl ?_; refine d_pure 8 calm_ret rfl (by kernel_rfl) rfl rfl ?_
  refine d_read 9 calm_ret rfl (by kernel_rfl) rfl  (fun h hs => r_min rfl rfl) ?_
  refine d_read 10 calm_ret rfl (by kernel_rfl) rfl  (fun h hs => r_add rfl rfl (by omega)) ?_
  refine d_exec1 6 (by kernel_rfl) rfl ?_
  refine w_callF (vs := [vl]) rfl (CloneO_ad l g3 hrl hll) rfl fun u h4 hs4 ho4 => ?_
  obtain ⟨h5, hw5, hs5, hr5⟩ := ho4.freeze (by decide)
  rw [← hw5]
  have hsb : Step [] [52, 53] g3 h5 := (hs4.mono (by simp) (by simp)).trans (hs5.mono (by simp) (by simp))
  have hs45 : Step [] [53] g3 h5 := hs4.trans hs5
  replace hmq := hmq.step hs45 (by simp) (by simp)
  replace hrdm := fun x hx => (hrdm x hx).step hs45 (by simp)
  replace hst := hst.go hs45; replace hc12 := hc12.go hs45; replace hc14 := hc14.go hs45; replace hc16 := hc16.go hs45; replace hcb := hcb.go hs45
  obtain ⟨A, cap, rfl, hcl1, hcl2⟩ := hr5.len
  repeat (first|refine q1 ?_|refine q2 ?_|refine q3 ?_|refine q4 ?_|refine q5 ?_|refine q6 ?_|refine w_seq ?_|refine w_region ?_|refine w_ops_nil ?_|refine w_skip ?_|refine w_block ?_|refine w_blk ?_|refine q7 ?_|refine q8 ?_|refine q9 ?_)
  refine d_next (fun _ => ⟨h5, rfl, hsb⟩) ?_
  obtain ⟨cv, hcv⟩ : ∃ cv : Cv, cv = ⟨⟨.slice A l.length cap, rfl⟩, now + min ttl 604800, l⟩ := ⟨_, rfl⟩
  refine d_read 11 calm_ret rfl (by kernel_rfl) rfl  (fun h hs => r_build (vs := [(0, .slice A l.length cap), (1, .int .i64 (now + min ttl 604800))]) (r := [.slice A l.length cap, .int .i64 (now + min ttl 604800)]) rfl rfl) ?_
  refine d_exec1 12 (by kernel_rfl) rfl ?_
  refine w_mapSet (key := k) (u := cv) hmq rfl rfl (by subst hcv; rfl) fun h6 hb6 hs6 hm6 => ?_
  have hsb6 := hsb.trans (hs6.mono (by simp) (by simp))
  replace hrdm := fun x hx => (hrdm x hx).step hs6 (by simp)
  replace hr5 := hr5.go hs6
  replace hst := hst.go hs6; replace hc12 := hc12.go hs6; replace hc14 := hc14.go hs6; replace hcb := hcb.go hs6
  repeat (first|refine q1 ?_|refine q2 ?_|refine q3 ?_|refine q4 ?_|refine q5 ?_|refine q6 ?_|refine w_seq ?_|refine w_region ?_|refine w_ops_nil ?_|refine w_skip ?_|refine w_block ?_|refine w_blk ?_|refine q7 ?_|refine q8 ?_|refine q9 ?_)
  refine d_next (fun _ => ⟨h6, rfl, hsb6⟩) ?_
  refine d_done (by kernel_rfl) ?_
  repeat (first|refine q1 ?_|refine q2 ?_|refine q3 ?_|refine q4 ?_|refine q5 ?_|refine q6 ?_|refine w_seq ?_|refine w_region ?_|refine w_ops_nil ?_|refine w_skip ?_|refine w_block ?_|refine w_blk ?_|refine q7 ?_|refine q8 ?_|refine q9 ?_)
  refine w_loadS (us := El.ck.enc r.2.1) hc14 rfl rfl rfl rfl rfl ?_
  repeat (first|refine q1 ?_|refine q2 ?_|refine q3 ?_|refine q4 ?_|refine q5 ?_|refine q6 ?_|refine w_seq ?_|refine w_region ?_|refine w_ops_nil ?_|refine w_skip ?_|refine w_block ?_|refine w_blk ?_|refine q7 ?_|refine q8 ?_|refine q9 ?_)
  refine w_store (us := El.ck.enc r.2.1) (vs' := El.ck.enc r.2.1) hc12 rfl rfl rfl rfl (El.ck.flat _) (show 0 + 2 ≤ 2 by decide) rfl fun h7 hb7 hs7 hc12 => ?_
  have hB : Cm h7 p room (mput k cv r.1) := ⟨q, hcb.go hs7, hm6.step hs7 (by simp) (by simp), fun x hx => by
    rcases mput_sub k cv r.1 x hx with e | e
    · rw [e, hcv]; exact hr5.go hs7
    · exact (hrdm x e).step hs7 (by simp)⟩
  repeat (first|refine q1 ?_|refine q2 ?_|refine q3 ?_|refine q4 ?_|refine q5 ?_|refine q6 ?_|refine w_seq ?_|refine w_region ?_|refine w_ops_nil ?_|refine w_skip ?_|refine w_block ?_|refine w_blk ?_|refine q7 ?_|refine q8 ?_|refine q9 ?_)
  exact w_retG (resCs1 hc12 rfl rfl rfl rfl rfl) (hst.go hs7) fun h' hv' => by
    unfold PutC
    rw [if_neg hle, hr]
    exact ⟨cv, by rw [hcv], by rw [hcv], rfl, hB.view hv'⟩
end Go.Proofs.Ytfkdfnookacgiaa
