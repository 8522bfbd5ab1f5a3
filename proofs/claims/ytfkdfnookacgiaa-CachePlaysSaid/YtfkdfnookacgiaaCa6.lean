/- Caches: the document's example; SameAddrs; what becomes of entries. No statement of the seat is proved here. -/
import Derived.Test.YtfkdfnookacgiaaCa5
set_option linter.unusedVariables false
set_option linter.unusedSimpArgs false
namespace Go.Proofs.Ytfkdfnookacgiaa
open Go
attribute [local irreducible] Wp
def aroundZ (n m : Int) : Int := if n < 0 then -(n + 1) % m else n % m
theorem ref01_Around (n m : Int) (g : G) (hn : -9223372036854775808 ≤ n ∧ n ≤ 9223372036854775807) (hm : 1 ≤ m ∧ m ≤ 9223372036854775807) : Fn Try.prog 10 [.int .i64 n, .int .i64 m] g [] fun u _ => u = .int .i64 (aroundZ n m) := by
  refine enterG [] [] Try.func10 rfl Try.ntmps10 rfl (by simp) fun g1 hv ho => ?_
  repeat (first|refine q1 ?_|refine q2 ?_|refine q3 ?_|refine q4 ?_|refine q5 ?_|refine q6 ?_|refine w_seq ?_|refine w_region ?_|refine w_ops_nil ?_|refine w_skip ?_|refine w_block ?_|refine w_blk ?_|refine q7 ?_|refine q8 ?_|refine q9 ?_)
  refine w_condP rfl (fun h => ?_) (fun h => ?_)
  · repeat (first|refine q1 ?_|refine q2 ?_|refine q3 ?_|refine q4 ?_|refine q5 ?_|refine q6 ?_|refine w_seq ?_|refine w_region ?_|refine w_ops_nil ?_|refine w_skip ?_|refine w_block ?_|refine w_blk ?_|refine q7 ?_|refine q8 ?_|refine q9 ?_)
    refine w_neg rfl (by omega) rfl ?_
    repeat (first|refine q1 ?_|refine q2 ?_|refine q3 ?_|refine q4 ?_|refine q5 ?_|refine q6 ?_|refine w_seq ?_|refine w_region ?_|refine w_ops_nil ?_|refine w_skip ?_|refine w_block ?_|refine w_blk ?_|refine q7 ?_|refine q8 ?_|refine q9 ?_)
    refine w_rem rfl rfl (by omega) rfl ?_
    repeat (first|refine q1 ?_|refine q2 ?_|refine q3 ?_|refine q4 ?_|refine q5 ?_|refine q6 ?_|refine w_seq ?_|refine w_region ?_|refine w_ops_nil ?_|refine w_skip ?_|refine w_block ?_|refine w_blk ?_|refine q7 ?_|refine q8 ?_|refine q9 ?_)
    exact w_retG (res1 rfl rfl) (Step.refl _ _ _) fun h' _ => by rw [aroundZ, if_pos h]
  · repeat (first|refine q1 ?_|refine q2 ?_|refine q3 ?_|refine q4 ?_|refine q5 ?_|refine q6 ?_|refine w_seq ?_|refine w_region ?_|refine w_ops_nil ?_|refine w_skip ?_|refine w_block ?_|refine w_blk ?_|refine q7 ?_|refine q8 ?_|refine q9 ?_)
    refine w_rem rfl rfl (by omega) rfl ?_
    repeat (first|refine q1 ?_|refine q2 ?_|refine q3 ?_|refine q4 ?_|refine q5 ?_|refine q6 ?_|refine w_seq ?_|refine w_region ?_|refine w_ops_nil ?_|refine w_skip ?_|refine w_block ?_|refine w_blk ?_|refine q7 ?_|refine q8 ?_|refine q9 ?_)
    exact w_retG (res1 rfl rfl) (Step.refl _ _ _) fun h' _ => by rw [aroundZ, if_neg h]
theorem around_range (n : Int) (m : Int) (h : 1 ≤ m) : 0 ≤ aroundZ n m ∧ aroundZ n m < m := by
  unfold aroundZ
  split
  · exact ⟨Int.emod_nonneg _ (by omega), Int.emod_lt_of_pos _ (by omega)⟩
  · exact ⟨Int.emod_nonneg _ (by omega), Int.emod_lt_of_pos _ (by omega)⟩



theorem srt_one {α : Type} (c : α → α → Int) (x : α) : srt c [x] = [x] := List.perm_singleton.1 (srt_perm c [x])
theorem pre_no {room now : Int} {k : Ck} {m : CaM} (h : ¬ (m.length : Int) = room) : preC room now k m = (m, Ck.zero, false) := by unfold preC; rw [if_neg (fun e => h e.2)]
theorem lives_pre (ka kb : Ck) (cv : Cv) (hne : ¬ kb = ka) (ht : cv.till = 60) : preC 1 1 kb [(ka, cv)] = ([], ka, true) := by
  have hg : mget kb [(ka, cv)] = none := by rw [mget, if_neg hne]; rfl
  have ho : overC 1 [(ka, cv)] = [(ka, cv)] := by unfold overC; simp [ht]
  have hk : keysC [(ka, cv)] = [ka] := srt_one _ _
  unfold preC mkRoomC
  rw [if_pos ⟨by rw [hg]; rfl, rfl⟩, ho, if_neg (Nat.lt_irrefl _), hk]
  simp [leastBy]
theorem law10_lives (g : G) : Fn Try.prog 16 [] g [] fun u _ => u = .bool true := by
  refine enterG [] [51, 52, 44] Try.func16 rfl Try.ntmps16 rfl (by simp) fun g1 hv ho => ?_
  repeat (first|refine q1 ?_|refine q2 ?_|refine q3 ?_|refine q4 ?_|refine q5 ?_|refine q6 ?_|refine w_seq ?_|refine w_region ?_|refine w_ops_nil ?_|refine w_skip ?_|refine w_block ?_|refine w_blk ?_|refine q7 ?_|refine q8 ?_|refine q9 ?_)
  refine w_callF (vs := [.int .i64 1]) rfl (cache_New 1 g1) rfl fun u h1 hs1 hR => ?_
  obtain ⟨p, rfl, hb⟩ := hR
  have hst : Step [] [51, 52, 44] g1 h1 := hs1.mono (by simp) (by simp)
  have h1z : roomZ 1 = 1 := by decide
  rw [h1z] at hb
  repeat (first|refine q1 ?_|refine q2 ?_|refine q3 ?_|refine q4 ?_|refine q5 ?_|refine q6 ?_|refine w_seq ?_|refine w_region ?_|refine w_ops_nil ?_|refine w_skip ?_|refine w_block ?_|refine w_blk ?_|refine q7 ?_|refine q8 ?_|refine q9 ?_)
  refine w_ptrEqNil rfl rfl rfl ?_
  repeat (first|refine q1 ?_|refine q2 ?_|refine q3 ?_|refine q4 ?_|refine q5 ?_|refine q6 ?_|refine w_seq ?_|refine w_region ?_|refine w_ops_nil ?_|refine w_skip ?_|refine w_block ?_|refine w_blk ?_|refine q7 ?_|refine q8 ?_|refine q9 ?_)
  refine w_cond rfl (fun h => by cases h) (fun _ => ?_)
  repeat (first|refine q1 ?_|refine q2 ?_|refine q3 ?_|refine q4 ?_|refine q5 ?_|refine q6 ?_|refine w_seq ?_|refine w_region ?_|refine w_ops_nil ?_|refine w_skip ?_|refine w_block ?_|refine w_blk ?_|refine q7 ?_|refine q8 ?_|refine q9 ?_)
  refine w_callF (vs := [.pointer (some ⟨p, 0, none⟩), str [97], .int .i64 1, .slice none 0 0, .int .i64 60, .int .i64 0]) rfl
    (Cache_Put p 1 [] [97] 1 [] (.slice none 0 0) 60 0 h1 hb List.nodup_nil (by simp) (by omega) (by simp) ⟨0, by omega, Rd.nil _ _ _ none 0 (by decide)⟩ (by simp) (by omega) ⟨[97], 1⟩ (by decide)) rfl fun u h2 hs2 hR => ?_
  unfold PutC at hR
  rw [if_neg (by omega), pre_no (by simp)] at hR
  obtain ⟨cv, _, hct, rfl, hb⟩ := hR
  have hm1 : mput (⟨[97], 1⟩ : Ck) cv [] = [(⟨[97], 1⟩, cv)] := rfl
  have hb : Cm h2 p 1 [(⟨[97], 1⟩, cv)] := hb
  replace hst := hst.go hs2
  repeat (first|refine q1 ?_|refine q2 ?_|refine q3 ?_|refine q4 ?_|refine q5 ?_|refine q6 ?_|refine w_seq ?_|refine w_region ?_|refine w_ops_nil ?_|refine w_skip ?_|refine w_block ?_|refine w_blk ?_|refine q7 ?_|refine q8 ?_|refine q9 ?_)
  refine w_callF (vs := [.pointer (some ⟨p, 0, none⟩), str [98], .int .i64 1, .slice none 0 0, .int .i64 60, .int .i64 1]) rfl
    (Cache_Put p 1 [(⟨[97], 1⟩, cv)] [98] 1 [] (.slice none 0 0) 60 1 h2 hb (by simp) (by simp) (by omega) (by simp) ⟨0, by omega, Rd.nil _ _ _ none 0 (by decide)⟩ (by simp) (by omega) ⟨[98], 1⟩ (by decide)) rfl fun u h3 hs3 hR => ?_
  unfold PutC at hR
  rw [if_neg (by omega), lives_pre ⟨[97], 1⟩ ⟨[98], 1⟩ cv (by decide) (by rw [hct]; decide)] at hR
  obtain ⟨cv2, _, _, rfl, hb⟩ := hR
  replace hst := hst.go hs3
  repeat (first|refine q1 ?_|refine q2 ?_|refine q3 ?_|refine q4 ?_|refine q5 ?_|refine q6 ?_|refine w_seq ?_|refine w_region ?_|refine w_ops_nil ?_|refine w_skip ?_|refine w_block ?_|refine w_blk ?_|refine q7 ?_|refine q8 ?_|refine q9 ?_)
  refine w_alloc 44 (vs := El.ck.enc Ck.zero) rfl rfl fun h4 b2 hs4 hc2 => ?_
  replace hst := hst.go hs4
  refine w_store (us := El.ck.enc ⟨[97], 1⟩) (vs' := El.ck.enc ⟨[97], 1⟩) hc2 rfl rfl rfl rfl (El.ck.flat _) (show 0 + 2 ≤ 2 by decide) rfl fun h5 hb5 hs5 hc2 => ?_
  replace hst := hst.go hs5
  repeat (first|refine q1 ?_|refine q2 ?_|refine q3 ?_|refine q4 ?_|refine q5 ?_|refine q6 ?_|refine w_seq ?_|refine w_region ?_|refine w_ops_nil ?_|refine w_skip ?_|refine w_block ?_|refine w_blk ?_|refine q7 ?_|refine q8 ?_|refine q9 ?_)
  refine w_known 3 (.bool true) rfl rfl ?_
  repeat (first|refine q1 ?_|refine q2 ?_|refine q3 ?_|refine q4 ?_|refine q5 ?_|refine q6 ?_|refine w_seq ?_|refine w_region ?_|refine w_ops_nil ?_|refine w_skip ?_|refine w_block ?_|refine w_blk ?_|refine q7 ?_|refine q8 ?_|refine q9 ?_)
  refine w_loadS (us := El.ck.enc ⟨[97], 1⟩) hc2 rfl rfl rfl rfl rfl ?_
  repeat (first|refine q1 ?_|refine q2 ?_|refine q3 ?_|refine q4 ?_|refine q5 ?_|refine q6 ?_|refine w_seq ?_|refine w_region ?_|refine w_ops_nil ?_|refine w_skip ?_|refine w_block ?_|refine w_blk ?_|refine q7 ?_|refine q8 ?_|refine q9 ?_)
  refine w_build (vs := [(0, str [97]), (1, .int .i64 1)]) (r := El.ck.enc ⟨[97], 1⟩) rfl rfl rfl ?_
  repeat (first|refine q1 ?_|refine q2 ?_|refine q3 ?_|refine q4 ?_|refine q5 ?_|refine q6 ?_|refine w_seq ?_|refine w_region ?_|refine w_ops_nil ?_|refine w_skip ?_|refine w_block ?_|refine w_blk ?_|refine q7 ?_|refine q8 ?_|refine q9 ?_)
  refine w_eqS (E := El.ck) (a := ⟨[97], 1⟩) (b := ⟨[97], 1⟩) rfl rfl rfl rfl ?_
  repeat (first|refine q1 ?_|refine q2 ?_|refine q3 ?_|refine q4 ?_|refine q5 ?_|refine q6 ?_|refine w_seq ?_|refine w_region ?_|refine w_ops_nil ?_|refine w_skip ?_|refine w_block ?_|refine w_blk ?_|refine q7 ?_|refine q8 ?_|refine q9 ?_)
  exact w_retG (res1 rfl rfl) hst fun h' _ => congrArg Value.bool (decide_eq_true rfl)

theorem ref10_SameAddrs {ca0 cb0 : Nat} (a b : List Ad) (va vb : Value) (g : G) (ha : Rd g ca0 El.ad va a) (hb : Rd g cb0 El.ad vb b) : Fn Try.prog 22 [va, vb] g [] fun u _ => u = .bool (decide (a = b)) := by
  refine enterG [] [] Try.func22 rfl Try.ntmps22 rfl (by simp) fun g1 hv ho => ?_
  obtain ⟨ca, hca, ha⟩ := ha.seen hv ho (by simp)
  obtain ⟨cb, hcb, hb⟩ := hb.seen hv ho (by simp)
  have hla := ha.isSl.le
  have hlb := hb.isSl.le
  repeat (first|refine q1 ?_|refine q2 ?_|refine q3 ?_|refine q4 ?_|refine q5 ?_|refine q6 ?_|refine w_seq ?_|refine w_region ?_|refine w_ops_nil ?_|refine w_skip ?_|refine w_block ?_|refine w_blk ?_|refine q7 ?_|refine q8 ?_|refine q9 ?_)
  refine w_lenSl ha.isSl rfl rfl ?_
  repeat (first|refine q1 ?_|refine q2 ?_|refine q3 ?_|refine q4 ?_|refine q5 ?_|refine q6 ?_|refine w_seq ?_|refine w_region ?_|refine w_ops_nil ?_|refine w_skip ?_|refine w_block ?_|refine w_blk ?_|refine q7 ?_|refine q8 ?_|refine q9 ?_)
  refine w_lenSl hb.isSl rfl rfl ?_
  repeat (first|refine q1 ?_|refine q2 ?_|refine q3 ?_|refine q4 ?_|refine q5 ?_|refine q6 ?_|refine w_seq ?_|refine w_region ?_|refine w_ops_nil ?_|refine w_skip ?_|refine w_block ?_|refine w_blk ?_|refine q7 ?_|refine q8 ?_|refine q9 ?_)
  refine w_condP rfl (fun hne => ?_) (fun hne => ?_)
  · repeat (first|refine q1 ?_|refine q2 ?_|refine q3 ?_|refine q4 ?_|refine q5 ?_|refine q6 ?_|refine w_seq ?_|refine w_region ?_|refine w_ops_nil ?_|refine w_skip ?_|refine w_block ?_|refine w_blk ?_|refine q7 ?_|refine q8 ?_|refine q9 ?_)
    refine w_retG (res1 rfl rfl) (Step.refl _ _ _) fun h' _ => congrArg Value.bool ?_
    exact (decide_eq_false (fun e => hne (by rw [e]))).symm
  have hl : a.length = b.length := by omega
  repeat (first|refine q1 ?_|refine q2 ?_|refine q3 ?_|refine q4 ?_|refine q5 ?_|refine q6 ?_|refine w_seq ?_|refine w_region ?_|refine w_ops_nil ?_|refine w_skip ?_|refine w_block ?_|refine w_blk ?_|refine q7 ?_|refine q8 ?_|refine q9 ?_)
  refine w_loop (ι := Nat) (fun i => [(0, va), (1, vb), (5, .int .i64 (i : Int))])
    (fun i w => ∃ h : G, h.w = w ∧ Step [] [] g1 h ∧ i ≤ a.length ∧ a.take i = b.take i) (fun i => a.length - i) 0 ⟨g1, rfl, Step.refl _ _ _, by omega, rfl⟩ ⟨rfl, rfl, rfl, trivial⟩ ?_
  rintro i _ ⟨h, rfl, hst, hi, htk⟩
  replace ha := ha.go hst
  replace hb := hb.go hst
  repeat (first|refine q1 ?_|refine q2 ?_|refine q3 ?_|refine q4 ?_|refine q5 ?_|refine q6 ?_|refine w_seq ?_|refine w_region ?_|refine w_ops_nil ?_|refine w_skip ?_|refine w_block ?_|refine w_blk ?_|refine q7 ?_|refine q8 ?_|refine q9 ?_)
  refine w_lenSl ha.isSl rfl rfl ?_
  repeat (first|refine q1 ?_|refine q2 ?_|refine q3 ?_|refine q4 ?_|refine q5 ?_|refine q6 ?_|refine w_seq ?_|refine w_region ?_|refine w_ops_nil ?_|refine w_skip ?_|refine w_block ?_|refine w_blk ?_|refine q7 ?_|refine q8 ?_|refine q9 ?_)
  refine w_condP rfl (fun hlt => ?_) (fun hlt => ?_)
  · have hlt : i < a.length := by omega
    have hlt2 : i < b.length := by omega
    repeat (first|refine q1 ?_|refine q2 ?_|refine q3 ?_|refine q4 ?_|refine q5 ?_|refine q6 ?_|refine w_seq ?_|refine w_region ?_|refine w_ops_nil ?_|refine w_skip ?_|refine w_block ?_|refine w_blk ?_|refine q7 ?_|refine q8 ?_|refine q9 ?_)
    refine d_begin none [] (by kernel_rfl) fun g2 hsd => ?_
    replace hst := hst.go hsd; replace ha := ha.go hsd; replace hb := hb.go hsd
    refine d_pure 0 calm_ret rfl (by kernel_rfl) rfl rfl ?_; refine d_pure 1 calm_ret rfl (by kernel_rfl) rfl rfl ?_
    refine d_read 2 calm_ret rfl (by kernel_rfl) rfl  (fun h hs => r_idx (ha.go hs) rfl rfl (by omega) (by omega)) ?_
    refine d_read 3 calm_ret rfl (by kernel_rfl) rfl  (fun h hs => r_loadE (i := i) (y := a[i]) (ha.go hs) rfl (by simp [hlt]) rfl) ?_
    refine d_pure 4 calm_ret rfl (by kernel_rfl) rfl rfl ?_; refine d_pure 5 calm_ret rfl (by kernel_rfl) rfl rfl ?_
    refine d_read 6 calm_ret rfl (by kernel_rfl) rfl  (fun h hs => r_idx (hb.go hs) rfl rfl (by omega) (by omega)) ?_
    refine d_read 7 calm_ret rfl (by kernel_rfl) rfl  (fun h hs => r_loadE (i := i) (y := b[i]) (hb.go hs) rfl (by simp [hlt2]) rfl) ?_
    refine d_read 8 calm_ret rfl (by kernel_rfl) rfl  (fun h hs => r_neS (E := El.ad) (a := a[i]) (b := b[i]) rfl rfl rfl) ?_
    refine d_done (by kernel_rfl) ?_
    repeat (first|refine q1 ?_|refine q2 ?_|refine q3 ?_|refine q4 ?_|refine q5 ?_|refine q6 ?_|refine w_seq ?_|refine w_region ?_|refine w_ops_nil ?_|refine w_skip ?_|refine w_block ?_|refine w_blk ?_|refine q7 ?_|refine q8 ?_|refine q9 ?_)
    refine w_condP rfl (fun hx => ?_) (fun hx => ?_)
    · repeat (first|refine q1 ?_|refine q2 ?_|refine q3 ?_|refine q4 ?_|refine q5 ?_|refine q6 ?_|refine w_seq ?_|refine w_region ?_|refine w_ops_nil ?_|refine w_skip ?_|refine w_block ?_|refine w_blk ?_|refine q7 ?_|refine q8 ?_|refine q9 ?_)
      refine w_retG (res1 rfl rfl) hst fun h' _ => congrArg Value.bool ?_
      refine (decide_eq_false fun e => hx ?_).symm
      subst e; rfl
    · have hx := Decidable.not_not.1 hx
      repeat (first|refine q1 ?_|refine q2 ?_|refine q3 ?_|refine q4 ?_|refine q5 ?_|refine q6 ?_|refine w_seq ?_|refine w_region ?_|refine w_ops_nil ?_|refine w_skip ?_|refine w_block ?_|refine w_blk ?_|refine q7 ?_|refine q8 ?_|refine q9 ?_)
      refine w_again (i + 1) (by omega) ⟨g2, rfl, hst, by omega, ?_⟩ ⟨rfl, rfl, rfl, trivial⟩
      rw [List.take_succ_eq_append_getElem hlt, List.take_succ_eq_append_getElem hlt2, htk, hx]
  · have e : i = a.length := by omega
    subst e
    rw [List.take_length, hl, List.take_length] at htk
    repeat (first|refine q1 ?_|refine q2 ?_|refine q3 ?_|refine q4 ?_|refine q5 ?_|refine q6 ?_|refine w_seq ?_|refine w_region ?_|refine w_ops_nil ?_|refine w_skip ?_|refine w_block ?_|refine w_blk ?_|refine q7 ?_|refine q8 ?_|refine q9 ?_)
    exact w_retG (res1 rfl rfl) hst fun h' _ => congrArg Value.bool (decide_eq_true htk).symm

/-! ### plain -/
def NdC (m : CaM) : Prop := (m.map (·.1)).Nodup
theorem NdC.sub {L L' : CaM} (h : NdC L) (hs : L'.Sublist L) : NdC L' := (hs.map _).nodup h
theorem NdC.perm {m L : CaM} (h : m.Perm L) (hn : NdC m) : NdC L := by
  unfold NdC at hn ⊢
  exact (h.map (fun x => x.1)).nodup_iff.1 hn
theorem mputC_perm (k : Ck) (t : Cv) : ∀ (m : CaM), NdC m → (mput k t m).Perm ((k, t) :: m.filter fun x => decide (¬ k = x.1))
  | [], _ => List.Perm.refl _
  | x :: m, h => by
    have h' : NdC m := by unfold NdC at h ⊢; simp only [List.map_cons, List.nodup_cons] at h; exact h.2
    rw [mput, List.filter_cons]
    by_cases hk : k = x.1
    · have : m.filter (fun y => decide (¬ k = y.1)) = m := by
        rw [List.filter_eq_self]
        intro y hy
        refine decide_eq_true fun e => ?_
        unfold NdC at h
        simp only [List.map_cons, List.nodup_cons] at h
        exact h.1 (by rw [← hk, e]; exact List.mem_map_of_mem hy)
      rw [if_pos hk, if_neg (by simp [hk]), this]
    · rw [if_neg hk, if_pos (by simp [hk])]
      exact ((mputC_perm k t m h').cons x).trans (List.Perm.swap _ _ _)
theorem NdC.put {m : CaM} (hn : NdC m) (k : Ck) (t : Cv) : NdC (mput k t m) := by
  refine NdC.perm (mputC_perm k t m hn).symm ?_
  unfold NdC
  simp only [List.map_cons, List.nodup_cons, List.mem_map, List.mem_filter, decide_eq_true_eq]
  refine ⟨fun ⟨x, ⟨_, h2⟩, e⟩ => h2 e.symm, (List.filter_sublist.map _).nodup hn⟩
theorem NdC.get {m : CaM} (hn : NdC m) {x : Ck × Cv} (hx : x ∈ m) : mget x.1 m = some x.2 := by
  induction m with
  | nil => simp at hx
  | cons a m ih =>
    unfold NdC at hn
    simp only [List.map_cons, List.nodup_cons] at hn
    rw [mget]
    rcases List.mem_cons.1 hx with h | h
    · rw [h, if_pos rfl]
    · rw [if_neg (fun e => hn.1 (by rw [← e]; exact List.mem_map_of_mem h))]
      exact ih hn.2 h
theorem mgetC_mem {k : Ck} {u : Cv} : ∀ {m : CaM}, mget k m = some u → (k, u) ∈ m
  | [], h => by cases h
  | a :: m, h => by
    rw [mget] at h
    split at h
    · rename_i e; injection h with h; subst h; rw [e]; exact List.mem_cons_self
    · exact List.mem_cons_of_mem _ (mgetC_mem h)
theorem mgetC_none {k : Ck} {m : CaM} : (mget k m).isSome = false ↔ ∀ x ∈ m, ¬ k = x.1 := by
  induction m with
  | nil => simp [mget]
  | cons a m ih =>
    rw [mget]
    by_cases h : k = a.1
    · rw [if_pos h]; simp; intro e; exact absurd h e
    · rw [if_neg h, ih]; simp [h]
theorem mgetC_perm (k : Ck) {m L : CaM} (hp : m.Perm L) (hn : NdC m) : mget k m = mget k L := by
  have hL := NdC.perm hp hn
  cases h : mget k m with
  | some u => exact (hL.get (hp.mem_iff.1 (mgetC_mem h))).symm
  | none =>
    cases h2 : mget k L with
    | none => rfl
    | some u =>
      have := hn.get (hp.mem_iff.2 (mgetC_mem h2))
      rw [h] at this; cases this
theorem putC_len {m : CaM} (hn : NdC m) (k : Ck) (t : Cv) : (mput k t m).length ≤ m.length + 1 := by
  have := (mputC_perm k t m hn).length_eq
  have h2 := List.length_filter_le (fun x : Ck × Cv => decide (¬ k = x.1)) m
  simp only [List.length_cons] at this; omega
theorem putC_len_new {m : CaM} (hn : NdC m) (k : Ck) (t : Cv) (h : ∀ x ∈ m, ¬ k = x.1) : (mput k t m).length = m.length + 1 := by
  have := (mputC_perm k t m hn).length_eq
  have h2 : (m.filter fun x => decide (¬ k = x.1)) = m := by rw [List.filter_eq_self]; intro x hx; exact decide_eq_true (h x hx)
  rw [h2] at this
  simpa using this
theorem mget_mput (k k' : Ck) (t : Cv) : ∀ m : CaM, mget k (mput k' t m) = if k = k' then some t else mget k m
  | [] => by simp [mput, mget]
  | p :: m => by
    rw [mput]
    by_cases h : k' = p.1
    · rw [if_pos h, mget, mget]
      by_cases e : k = k'
      · simp [e]
      · simp [e, ← h]
    · rw [if_neg h, mget, mget, mget_mput k k' t m]
      by_cases e : k = p.1
      · have : ¬ k = k' := fun e2 => h (by rw [← e2, e])
        rw [if_pos e, if_neg this, if_pos e]
      · rw [if_neg e, if_neg e]
end Go.Proofs.Ytfkdfnookacgiaa
