/- Caches: the law of types, as a contract. No statement of the seat is proved here. -/
import Derived.Test.YtfkdfnookacgiaaCa6
set_option linter.unusedVariables false
set_option linter.unusedSimpArgs false
namespace Go.Proofs.Ytfkdfnookacgiaa
open Go
attribute [local irreducible] Wp
def adN (n : Int) : Ad := ⟨n, fun _ => 0⟩
theorem hit_some {m : CaM} {k : Ck} {x : Cv} (h : mget k m = some x) (now : Int) : hitC m k now = decide (now < x.till) := by unfold hitC; rw [h]
theorem addrs_some {m : CaM} {k : Ck} {x : Cv} (h : mget k m = some x) {now : Int} (ht : now < x.till) : addrsC m k now = x.addrs := by
  unfold addrsC getD
  rw [hit_some h, decide_eq_true ht, h]; rfl
theorem lowB_take_len (l : List UInt8) (n : Nat) : (l.take n).length ≤ n := by rw [List.length_take]; omega
set_option maxRecDepth 4000 in
theorem law10_Types (nm0 : List UInt8) (one two ta tb : Int) (g : G) (ha : -9223372036854775808 ≤ ta ∧ ta ≤ 9223372036854775807) (hb : -9223372036854775808 ≤ tb ∧ tb ≤ 9223372036854775807) :
    Fn Try.prog 5 [str nm0, .int .i64 one, .int .i64 two, .agg #[.int .i64 ta, .int .i64 tb]] g [] fun u _ => u = .bool true := by
  refine enterG [] [51, 52, 53, 45, 46, 47] Try.func5 rfl Try.ntmps5 rfl (by simp) fun g1 hv ho => ?_
  repeat (first|refine q1 ?_|refine q2 ?_|refine q3 ?_|refine q4 ?_|refine q5 ?_|refine q6 ?_|refine w_seq ?_|refine w_region ?_|refine w_ops_nil ?_|refine w_skip ?_|refine w_block ?_|refine w_blk ?_|refine q7 ?_|refine q8 ?_|refine q9 ?_)
  refine w_box 45 (vs := [.int .i64 ta, .int .i64 tb]) rfl rfl rfl fun h1 b7 hs1 hc7 => ?_
  have hst : Step [] [51, 52, 53, 45, 46, 47] g1 h1 := hs1.nil
  repeat (first|refine q1 ?_|refine q2 ?_|refine q3 ?_|refine q4 ?_|refine q5 ?_|refine q6 ?_|refine w_seq ?_|refine w_region ?_|refine w_ops_nil ?_|refine w_skip ?_|refine w_block ?_|refine w_blk ?_|refine q7 ?_|refine q8 ?_|refine q9 ?_)
  refine w_callF (vs := [str nm0, .int .i64 20]) rfl (ref01_Few nm0 20 h1 (by omega)) rfl fun u h2 hs2 hu => ?_
  subst hu
  replace hst := hst.go hs2; replace hc7 := hc7.go hs2
  have hnl := lowB_take_len nm0 (20 : Int).toNat
  generalize nm0.take (20 : Int).toNat = nm at hnl
  replace hnl : nm.length ≤ 1000000 := by omega
  repeat (first|refine q1 ?_|refine q2 ?_|refine q3 ?_|refine q4 ?_|refine q5 ?_|refine q6 ?_|refine w_seq ?_|refine w_region ?_|refine w_ops_nil ?_|refine w_skip ?_|refine w_block ?_|refine w_blk ?_|refine q7 ?_|refine q8 ?_|refine q9 ?_)
  refine w_callF (vs := [.int .i64 4]) rfl (cache_New 4 h2) rfl fun u h3 hs3 hR => ?_
  obtain ⟨p, rfl, hcm⟩ := hR
  replace hst := hst.go hs3; replace hc7 := hc7.go hs3
  rw [show roomZ 4 = 4 by decide] at hcm
  repeat (first|refine q1 ?_|refine q2 ?_|refine q3 ?_|refine q4 ?_|refine q5 ?_|refine q6 ?_|refine w_seq ?_|refine w_region ?_|refine w_ops_nil ?_|refine w_skip ?_|refine w_block ?_|refine w_blk ?_|refine q7 ?_|refine q8 ?_|refine q9 ?_)
  refine w_ptrEqNil rfl rfl rfl ?_
  repeat (first|refine q1 ?_|refine q2 ?_|refine q3 ?_|refine q4 ?_|refine q5 ?_|refine q6 ?_|refine w_seq ?_|refine w_region ?_|refine w_ops_nil ?_|refine w_skip ?_|refine w_block ?_|refine w_blk ?_|refine q7 ?_|refine q8 ?_|refine q9 ?_)
  refine w_cond rfl (fun h => by cases h) (fun _ => ?_)
  repeat (first|refine q1 ?_|refine q2 ?_|refine q3 ?_|refine q4 ?_|refine q5 ?_|refine q6 ?_|refine w_seq ?_|refine w_region ?_|refine w_ops_nil ?_|refine w_skip ?_|refine w_block ?_|refine w_blk ?_|refine q7 ?_|refine q8 ?_|refine q9 ?_)
  refine w_build (vs := [(0, .int .i64 4)]) (r := El.ad.enc (adN 4)) rfl rfl rfl ?_
  refine w_alloc 46 (vs := El.ad.enc Ad.zero) rfl rfl fun h4 b10 hs4 hc10 => ?_
  replace hst := hst.go hs4; replace hc7 := hc7.go hs4; replace hcm := hcm.go hs4
  refine w_store (us := El.ad.enc (adN 4)) (vs' := El.ad.enc (adN 4)) hc10 rfl rfl rfl rfl (El.ad.flat _) (show 0 + 17 ≤ 17 by decide) rfl fun h5 hb5 hs5 hc10 => ?_
  replace hst := hst.go hs5; replace hc7 := hc7.go hs5; replace hcm := hcm.go hs5
  repeat (first|refine q1 ?_|refine q2 ?_|refine q3 ?_|refine q4 ?_|refine q5 ?_|refine q6 ?_|refine w_seq ?_|refine w_region ?_|refine w_ops_nil ?_|refine w_skip ?_|refine w_block ?_|refine w_blk ?_|refine q7 ?_|refine q8 ?_|refine q9 ?_)
  refine w_build (vs := [(0, .int .i64 6)]) (r := El.ad.enc (adN 6)) rfl rfl rfl ?_
  refine w_alloc 47 (vs := El.ad.enc Ad.zero) rfl rfl fun h6 b11 hs6 hc11 => ?_
  replace hst := hst.go hs6; replace hc7 := hc7.go hs6; replace hcm := hcm.go hs6; replace hc10 := hc10.go hs6
  refine w_store (us := El.ad.enc (adN 6)) (vs' := El.ad.enc (adN 6)) hc11 rfl rfl rfl rfl (El.ad.flat _) (show 0 + 17 ≤ 17 by decide) rfl fun h7 hb7 hs7 hc11 => ?_
  replace hst := hst.go hs7; replace hc7 := hc7.go hs7; replace hcm := hcm.go hs7; replace hc10 := hc10.go hs7
  repeat (first|refine q1 ?_|refine q2 ?_|refine q3 ?_|refine q4 ?_|refine q5 ?_|refine q6 ?_|refine w_seq ?_|refine w_region ?_|refine w_ops_nil ?_|refine w_skip ?_|refine w_block ?_|refine w_blk ?_|refine q7 ?_|refine q8 ?_|refine q9 ?_)
  refine w_idxA rfl rfl (by omega) (by decide) rfl ?_
  refine w_load1 (v := .int .i64 ta) hc7 rfl rfl rfl rfl ?_
  refine w_callF (vs := [.int .i64 ta, .int .i64 1000]) rfl (ref01_Around ta 1000 h7 ha (by omega)) rfl fun u h8 hs8 hu => ?_
  subst hu
  have hra := around_range ta 1000 (by omega)
  generalize hx : aroundZ ta 1000 = x0 at hra
  replace hst := hst.go hs8; replace hc7 := hc7.go hs8; replace hcm := hcm.go hs8; replace hc10 := hc10.go hs8; replace hc11 := hc11.go hs8
  repeat (first|refine q1 ?_|refine q2 ?_|refine q3 ?_|refine q4 ?_|refine q5 ?_|refine q6 ?_|refine w_seq ?_|refine w_region ?_|refine w_ops_nil ?_|refine w_skip ?_|refine w_block ?_|refine w_blk ?_|refine q7 ?_|refine q8 ?_|refine q9 ?_)
  refine w_idxA rfl rfl (by omega) (by decide) rfl ?_
  refine w_load1 (v := .int .i64 tb) hc7 rfl rfl rfl rfl ?_
  refine w_callF (vs := [.int .i64 tb, .int .i64 1000]) rfl (ref01_Around tb 1000 h8 hb (by omega)) rfl fun u h9 hs9 hu => ?_
  subst hu
  have hrb := around_range tb 1000 (by omega)
  generalize hy : aroundZ tb 1000 = y0 at hrb
  replace hst := hst.go hs9; replace hc7 := hc7.go hs9; replace hcm := hcm.go hs9; replace hc10 := hc10.go hs9; replace hc11 := hc11.go hs9
  repeat (first|refine q1 ?_|refine q2 ?_|refine q3 ?_|refine q4 ?_|refine q5 ?_|refine q6 ?_|refine w_seq ?_|refine w_region ?_|refine w_ops_nil ?_|refine w_skip ?_|refine w_block ?_|refine w_blk ?_|refine q7 ?_|refine q8 ?_|refine q9 ?_)
  obtain ⟨x, hx⟩ : ∃ x, 1 + x0 = x := ⟨_, rfl⟩
  obtain ⟨y, hy⟩ : ∃ y, 1 + y0 = y := ⟨_, rfl⟩
  refine w_known 12 (.int .i64 x) rfl (congrArg (Value.int .i64) hx) ?_
  refine w_known 13 (.int .i64 y) rfl (congrArg (Value.int .i64) hy) ?_
  refine w_loadS (us := El.ad.enc (adN 4)) hc10 rfl rfl rfl rfl rfl ?_
  refine w_buildSlR El.ad [adN 4] rfl rfl rfl rfl fun h10 v37 hs10 hr37 => ?_
  replace hst := hst.go hs10; replace hc7 := hc7.go hs10; replace hcm := hcm.go hs10; replace hc10 := hc10.go hs10; replace hc11 := hc11.go hs10
  repeat (first|refine q1 ?_|refine q2 ?_|refine q3 ?_|refine q4 ?_|refine q5 ?_|refine q6 ?_|refine w_seq ?_|refine w_region ?_|refine w_ops_nil ?_|refine w_skip ?_|refine w_block ?_|refine w_blk ?_|refine q7 ?_|refine q8 ?_|refine q9 ?_)
  refine w_callF (vs := [.pointer (some ⟨p, 0, none⟩), str nm, .int .i64 one, v37, .int .i64 x, .int .i64 0]) rfl
    (Cache_Put p 4 [] nm one [adN 4] v37 x 0 h10 hcm List.nodup_nil (by simp) (by omega) hnl hr37.x (by simp) (by omega) ⟨lowB nm, one⟩ rfl) rfl fun u h11 hs11 hR => ?_
  unfold PutC at hR
  rw [if_neg (by omega), pre_no (by simp)] at hR
  obtain ⟨cv1, hca1, hct1, rfl, hcm⟩ := hR
  have hcm : Cm h11 p 4 [((⟨lowB nm, one⟩ : Ck), cv1)] := hcm
  replace hst := hst.go hs11; replace hc7 := hc7.go hs11; replace hc10 := hc10.go hs11; replace hc11 := hc11.go hs11
  repeat (first|refine q1 ?_|refine q2 ?_|refine q3 ?_|refine q4 ?_|refine q5 ?_|refine q6 ?_|refine w_seq ?_|refine w_region ?_|refine w_ops_nil ?_|refine w_skip ?_|refine w_block ?_|refine w_blk ?_|refine q7 ?_|refine q8 ?_|refine q9 ?_)
  refine w_loadS (us := El.ad.enc (adN 6)) hc11 rfl rfl rfl rfl rfl ?_
  refine w_buildSlR El.ad [adN 6] rfl rfl rfl rfl fun h12 v44 hs12 hr44 => ?_
  replace hst := hst.go hs12; replace hc7 := hc7.go hs12; replace hcm := hcm.go hs12; replace hc10 := hc10.go hs12; replace hc11 := hc11.go hs12
  repeat (first|refine q1 ?_|refine q2 ?_|refine q3 ?_|refine q4 ?_|refine q5 ?_|refine q6 ?_|refine w_seq ?_|refine w_region ?_|refine w_ops_nil ?_|refine w_skip ?_|refine w_block ?_|refine w_blk ?_|refine q7 ?_|refine q8 ?_|refine q9 ?_)
  refine w_callF (vs := [.pointer (some ⟨p, 0, none⟩), str nm, .int .i64 two, v44, .int .i64 y, .int .i64 0]) rfl
    (Cache_Put p 4 [((⟨lowB nm, one⟩ : Ck), cv1)] nm two [adN 6] v44 y 0 h12 hcm (by simp) (by simp) (by omega) hnl hr44.x (by simp) (by omega) ⟨lowB nm, two⟩ rfl) rfl fun u h13 hs13 hR => ?_
  unfold PutC at hR
  rw [if_neg (by omega), pre_no (by simp)] at hR
  obtain ⟨cv2, hca2, hct2, rfl, hcm⟩ := hR
  obtain ⟨m, hm⟩ : ∃ m, mput (⟨lowB nm, two⟩ : Ck) cv2 [((⟨lowB nm, one⟩ : Ck), cv1)] = m := ⟨_, rfl⟩
  have hcm : Cm h13 p 4 m := by rw [← hm]; exact hcm
  have hct1 : cv1.till = x := by omega
  have hct2 : cv2.till = y := by omega
  have hg2 : mget ⟨lowB nm, two⟩ m = some cv2 := by rw [← hm, mget_mput, if_pos rfl]
  have hg1 : mget ⟨lowB nm, one⟩ m = some (if one = two then cv2 else cv1) := by
    rw [← hm, mget_mput]
    by_cases e : one = two
    · rw [if_pos (by rw [e]), if_pos e]
    · rw [if_neg (fun h => e (congrArg Ck.type_ h)), if_neg e, mget, if_pos rfl]
  have hlen : m.length = if one = two then 1 else 2 := by
    rw [← hm, mput]
    by_cases e : one = two
    · rw [if_pos (by rw [e]), if_pos e]; rfl
    · rw [if_neg (fun h => e (congrArg Ck.type_ h).symm), if_neg e]; rfl
  have hal : ∀ z ∈ m, z.2.addrs.length ≤ 1000000 := by
    intro z hz
    rw [← hm] at hz
    rcases mput_sub _ _ _ _ hz with e | e
    · rw [e]; dsimp only; rw [hca2]; simp
    · rw [List.mem_singleton.1 e]; dsimp only; rw [hca1]; simp
  clear hm
  replace hst := hst.go hs13; replace hc7 := hc7.go hs13; replace hc10 := hc10.go hs13; replace hc11 := hc11.go hs13
  repeat (first|refine q1 ?_|refine q2 ?_|refine q3 ?_|refine q4 ?_|refine q5 ?_|refine q6 ?_|refine w_seq ?_|refine w_region ?_|refine w_ops_nil ?_|refine w_skip ?_|refine w_block ?_|refine w_blk ?_|refine q7 ?_|refine q8 ?_|refine q9 ?_)
  refine w_callF (vs := [.pointer (some ⟨p, 0, none⟩), str nm, .int .i64 two, .int .i64 (y - 1)]) rfl
    (Cache_Get p 4 m nm two (y - 1) h13 hcm hnl hal) rfl fun u h14 hs14 hR => ?_
  obtain ⟨v54, rfl, ho⟩ := hR
  rw [hit_some hg2, decide_eq_true (by omega)]
  rw [addrs_some hg2 (by omega), hca2] at ho
  replace hst := hst.go hs14; replace hc7 := hc7.go hs14; replace hcm := hcm.go hs14; replace hc10 := hc10.go hs14; replace hc11 := hc11.go hs14
  obtain ⟨h15, hw15, hs15, hr⟩ := ho.freeze (by decide)
  rw [← hw15]
  replace hst := hst.go hs15; replace hc7 := hc7.go hs15; replace hcm := hcm.go hs15; replace hc10 := hc10.go hs15; replace hc11 := hc11.go hs15
  clear ho
  repeat (first|refine q1 ?_|refine q2 ?_|refine q3 ?_|refine q4 ?_|refine q5 ?_|refine q6 ?_|refine w_seq ?_|refine w_region ?_|refine w_ops_nil ?_|refine w_skip ?_|refine w_block ?_|refine w_blk ?_|refine q7 ?_|refine q8 ?_|refine q9 ?_)
  refine w_known 14 v54 rfl rfl ?_
  refine w_known 15 (.bool true) rfl rfl ?_
  refine d_begin none [] (by kernel_rfl) fun g2 hsd => ?_
  replace hst := hst.go hsd; replace hc7 := hc7.go hsd; replace hcm := hcm.go hsd; replace hc10 := hc10.go hsd; replace hc11 := hc11.go hsd; replace hr := hr.go hsd
  refine d_pure 0 calm_ret rfl (by kernel_rfl) rfl rfl ?_; refine d_pure 1 calm_ret rfl (by kernel_rfl) rfl rfl ?_; refine d_pure 2 calm_ret rfl (by kernel_rfl) rfl rfl ?_
  refine d_guard_pure 3 calm_ret rfl rfl rfl (by kernel_rfl) rfl rfl ?_
  refine d_readG 4 calm_ret rfl rfl rfl (by kernel_rfl) rfl  (fun h hs => r_lenSl (hr.go hs).isSl rfl) ?_
  refine d_guard_pure 5 calm_ret rfl rfl rfl (by kernel_rfl) rfl rfl ?_
  refine d_pure 6 calm_ret rfl (by kernel_rfl) rfl rfl ?_
  refine d_known 62 (.bool false) rfl rfl ?_
  refine d_pure 7 calm_ret rfl (by kernel_rfl) rfl rfl ?_
  refine d_guard_pure 8 calm_ret rfl rfl rfl (by kernel_rfl) rfl rfl ?_
  refine d_readG 9 calm_ret rfl rfl rfl (by kernel_rfl) rfl  (fun h hs => r_idx (hr.go hs) rfl rfl (by omega) (by simp)) ?_
  refine d_readG 10 calm_ret rfl rfl rfl (by kernel_rfl) rfl  (fun h hs => r_loadE (i := 0) (y := adN 6) (hr.go hs) rfl rfl rfl) ?_
  refine d_readG 11 calm_ret rfl rfl rfl (by kernel_rfl) rfl  (fun h hs => r_load (us := El.ad.enc (adN 6)) (hc11.go hs) rfl rfl rfl (fun e => by cases e)) ?_
  refine d_readG 12 calm_ret rfl rfl rfl (by kernel_rfl) rfl  (fun h hs => r_neS (E := El.ad) (a := adN 6) (b := adN 6) rfl rfl rfl) ?_
  refine d_pure 13 calm_ret rfl (by kernel_rfl) rfl rfl ?_
  refine d_known 69 (.bool false) rfl (congrArg Value.bool (decide_eq_false (fun h => h rfl))) ?_
  refine d_done (by kernel_rfl) ?_
  repeat (first|refine q1 ?_|refine q2 ?_|refine q3 ?_|refine q4 ?_|refine q5 ?_|refine q6 ?_|refine w_seq ?_|refine w_region ?_|refine w_ops_nil ?_|refine w_skip ?_|refine w_block ?_|refine w_blk ?_|refine q7 ?_|refine q8 ?_|refine q9 ?_)
  refine w_callF (vs := [.pointer (some ⟨p, 0, none⟩), str nm, .int .i64 one, .int .i64 (x - 1)]) rfl
    (Cache_Get p 4 m nm one (x - 1) g2 hcm hnl hal) rfl fun u h16 hs16 hR => ?_
  obtain ⟨v77, rfl, ho⟩ := hR
  rw [hit_some hg1]
  replace hst := hst.go hs16; replace hcm := hcm.go hs16; replace hc10 := hc10.go hs16
  obtain ⟨h17, hw17, hs17, hr⟩ := ho.freeze (by decide)
  rw [← hw17]
  replace hst := hst.go hs17; replace hcm := hcm.go hs17; replace hc10 := hc10.go hs17
  clear ho
  repeat (first|refine q1 ?_|refine q2 ?_|refine q3 ?_|refine q4 ?_|refine q5 ?_|refine q6 ?_|refine w_seq ?_|refine w_region ?_|refine w_ops_nil ?_|refine w_skip ?_|refine w_block ?_|refine w_blk ?_|refine q7 ?_|refine q8 ?_|refine q9 ?_)
  refine w_condP rfl (fun he => ?_) (fun he => ?_)
  · rw [if_pos he] at hlen ⊢
    repeat (first|refine q1 ?_|refine q2 ?_|refine q3 ?_|refine q4 ?_|refine q5 ?_|refine q6 ?_|refine w_seq ?_|refine w_region ?_|refine w_ops_nil ?_|refine w_skip ?_|refine w_block ?_|refine w_blk ?_|refine q7 ?_|refine q8 ?_|refine q9 ?_)
    refine w_callF (vs := [.pointer (some ⟨p, 0, none⟩)]) rfl (Cache_Len p 4 m h17 hcm) rfl fun u h18 hs18 hu => ?_
    subst hu
    replace hst := hst.go hs18
    repeat (first|refine q1 ?_|refine q2 ?_|refine q3 ?_|refine q4 ?_|refine q5 ?_|refine q6 ?_|refine w_seq ?_|refine w_region ?_|refine w_ops_nil ?_|refine w_skip ?_|refine w_block ?_|refine w_blk ?_|refine q7 ?_|refine q8 ?_|refine q9 ?_)
    refine w_known 85 (.bool true) rfl (congrArg Value.bool (decide_eq_true (by omega))) ?_
    repeat (first|refine q1 ?_|refine q2 ?_|refine q3 ?_|refine q4 ?_|refine q5 ?_|refine q6 ?_|refine w_seq ?_|refine w_region ?_|refine w_ops_nil ?_|refine w_skip ?_|refine w_block ?_|refine w_blk ?_|refine q7 ?_|refine q8 ?_|refine q9 ?_)
    refine w_eqBool rfl rfl rfl ?_
    repeat (first|refine q1 ?_|refine q2 ?_|refine q3 ?_|refine q4 ?_|refine q5 ?_|refine q6 ?_|refine w_seq ?_|refine w_region ?_|refine w_ops_nil ?_|refine w_skip ?_|refine w_block ?_|refine w_blk ?_|refine q7 ?_|refine q8 ?_|refine q9 ?_)
    refine w_known 92 (.bool true) rfl (congrArg Value.bool (decide_eq_true (decide_eq_decide.2 (by rw [hct2]; omega)))) ?_
    repeat (first|refine q1 ?_|refine q2 ?_|refine q3 ?_|refine q4 ?_|refine q5 ?_|refine q6 ?_|refine w_seq ?_|refine w_region ?_|refine w_ops_nil ?_|refine w_skip ?_|refine w_block ?_|refine w_blk ?_|refine q7 ?_|refine q8 ?_|refine q9 ?_)
    refine w_callF rfl (law10_lives h18) rfl fun u h19 hs19 hu => ?_
    subst hu
    repeat (first|refine q1 ?_|refine q2 ?_|refine q3 ?_|refine q4 ?_|refine q5 ?_|refine q6 ?_|refine w_seq ?_|refine w_region ?_|refine w_ops_nil ?_|refine w_skip ?_|refine w_block ?_|refine w_blk ?_|refine q7 ?_|refine q8 ?_|refine q9 ?_)
    exact w_retG (res1 rfl rfl) (hst.go hs19) fun h' _ => rfl
  · rw [if_neg he] at hlen ⊢
    rw [decide_eq_true (show x - 1 < cv1.till by omega)]
    rw [addrs_some hg1 (by rw [if_neg he]; omega), if_neg he, hca1] at hr
    repeat (first|refine q1 ?_|refine q2 ?_|refine q3 ?_|refine q4 ?_|refine q5 ?_|refine q6 ?_|refine w_seq ?_|refine w_region ?_|refine w_ops_nil ?_|refine w_skip ?_|refine w_block ?_|refine w_blk ?_|refine q7 ?_|refine q8 ?_|refine q9 ?_)
    refine w_known 16 v77 rfl rfl ?_
    refine w_known 17 (.bool true) rfl rfl ?_
    refine d_begin none [] (by kernel_rfl) fun g3 hsd => ?_
    replace hst := hst.go hsd; replace hcm := hcm.go hsd; replace hc10 := hc10.go hsd; replace hr := hr.go hsd
    refine d_pure 0 calm_ret rfl (by kernel_rfl) rfl rfl ?_
    refine d_exec1 1 (by kernel_rfl) rfl ?_
    refine w_callF (vs := [.pointer (some ⟨p, 0, none⟩)]) rfl (Cache_Len p 4 m g3 hcm) rfl fun u h18 hs18 hu => ?_
    subst hu
    repeat (first|refine q1 ?_|refine q2 ?_|refine q3 ?_|refine q4 ?_|refine q5 ?_|refine q6 ?_|refine w_seq ?_|refine w_region ?_|refine w_ops_nil ?_|refine w_skip ?_|refine w_block ?_|refine w_blk ?_|refine q7 ?_|refine q8 ?_|refine q9 ?_)
    refine d_next (fun _ => ⟨h18, rfl, hs18⟩) ?_
    refine d_pure 2 calm_ret rfl (by kernel_rfl) rfl rfl ?_
    refine d_known 97 (.bool true) rfl (congrArg Value.bool (decide_eq_true (by omega))) ?_
    refine d_pure 3 calm_ret rfl (by kernel_rfl) rfl rfl ?_
    refine d_guard_pure 4 calm_ret rfl rfl rfl (by kernel_rfl) rfl rfl ?_
    refine d_pure 5 calm_ret rfl (by kernel_rfl) rfl rfl ?_; refine d_pure 6 calm_ret rfl (by kernel_rfl) rfl rfl ?_
    refine d_guard_pure 7 calm_ret rfl rfl rfl (by kernel_rfl) rfl rfl ?_
    refine d_readG 8 calm_ret rfl rfl rfl (by kernel_rfl) rfl  (fun h hs => r_lenSl (hr.go hs).isSl rfl) ?_
    refine d_guard_pure 9 calm_ret rfl rfl rfl (by kernel_rfl) rfl rfl ?_
    refine d_pure 10 calm_ret rfl (by kernel_rfl) rfl rfl ?_; refine d_pure 11 calm_ret rfl (by kernel_rfl) rfl rfl ?_
    refine d_known 106 (.bool true) rfl rfl ?_
    refine d_guard_pure 12 calm_ret rfl rfl rfl (by kernel_rfl) rfl rfl ?_
    refine d_readG 13 calm_ret rfl rfl rfl (by kernel_rfl) rfl  (fun h hs => r_idx (hr.go hs) rfl rfl (by omega) (by simp)) ?_
    refine d_readG 14 calm_ret rfl rfl rfl (by kernel_rfl) rfl  (fun h hs => r_loadE (i := 0) (y := adN 4) (hr.go hs) rfl rfl rfl) ?_
    refine d_readG 15 calm_ret rfl rfl rfl (by kernel_rfl) rfl  (fun h hs => r_load (us := El.ad.enc (adN 4)) (hc10.go hs) rfl rfl rfl (fun e => by cases e)) ?_
    refine d_readG 16 calm_ret rfl rfl rfl (by kernel_rfl) rfl  (fun h hs => r_eqS (E := El.ad) (a := adN 4) (b := adN 4) rfl rfl rfl) ?_
    refine d_pure 17 calm_ret rfl (by kernel_rfl) rfl rfl ?_; refine d_pure 18 calm_ret rfl (by kernel_rfl) rfl rfl ?_
    refine d_known 113 (.bool true) rfl (congrArg Value.bool (decide_eq_true rfl)) ?_
    refine d_exec1 19 (by kernel_rfl) rfl ?_
    repeat (first|refine q1 ?_|refine q2 ?_|refine q3 ?_|refine q4 ?_|refine q5 ?_|refine q6 ?_|refine w_seq ?_|refine w_region ?_|refine w_ops_nil ?_|refine w_skip ?_|refine w_block ?_|refine w_blk ?_|refine q7 ?_|refine q8 ?_|refine q9 ?_)
    refine w_callF rfl (law10_lives h18) rfl fun u h19 hs19 hu => ?_
    subst hu
    repeat (first|refine q1 ?_|refine q2 ?_|refine q3 ?_|refine q4 ?_|refine q5 ?_|refine q6 ?_|refine w_seq ?_|refine w_region ?_|refine w_ops_nil ?_|refine w_skip ?_|refine w_block ?_|refine w_blk ?_|refine q7 ?_|refine q8 ?_|refine q9 ?_)
    refine d_next (fun _ => ⟨h19, rfl, hs18.go hs19⟩) ?_
    refine d_pure 20 calm_ret rfl (by kernel_rfl) rfl rfl ?_; refine d_pure 21 calm_ret rfl (by kernel_rfl) rfl rfl ?_
    refine d_done (by kernel_rfl) ?_
    repeat (first|refine q1 ?_|refine q2 ?_|refine q3 ?_|refine q4 ?_|refine q5 ?_|refine q6 ?_|refine w_seq ?_|refine w_region ?_|refine w_ops_nil ?_|refine w_skip ?_|refine w_block ?_|refine w_blk ?_|refine q7 ?_|refine q8 ?_|refine q9 ?_)
    exact w_retG (res1 rfl rfl) ((hst.go hs18).go hs19) fun h' _ => rfl
end Go.Proofs.Ytfkdfnookacgiaa
