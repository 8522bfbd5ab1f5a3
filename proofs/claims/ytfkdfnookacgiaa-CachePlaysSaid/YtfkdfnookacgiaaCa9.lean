/- Caches: the law of what is told, as a contract. No statement of the seat is proved here. -/
import Derived.Test.YtfkdfnookacgiaaCa8
set_option linter.unusedVariables false
set_option linter.unusedSimpArgs false
namespace Go.Proofs.Ytfkdfnookacgiaa
open Go
attribute [local irreducible] Wp
/-- An owned slice is given another colour. -/
theorem Own.recol {α : Type} {g : G} {c : Nat} {E : El α} {T : TypeId} {v : Value} {l : List α} (ho : Own g c E T v l) (c2 : Nat) : ∃ h : G, h.w = g.w ∧ Step [] [c] g h ∧ Own h c2 E T v l := by
  cases hv : v.ownBlock with
  | none => exact ⟨g, rfl, Step.refl _ _ _, ho.1, fun b e => by rw [hv] at e; cases e⟩
  | some q =>
    refine ⟨g.paint q c2, rfl, (Step.paint g q c2).cols (by intro x hx _; simp at hx; subst hx; rw [ho.2 _ hv]; simp) (by simp), ho.1, fun b e => ?_⟩
    rw [hv] at e
    injection e with e
    subst e
    simp [G.paint]
theorem hit_none {m : CaM} {k : Ck} (h : mget k m = none) (now : Int) : hitC m k now = false := by unfold hitC; rw [h]
theorem addrs_not {m : CaM} {k : Ck} {now : Int} (h : hitC m k now = false) : addrsC m k now = [] := by unfold addrsC; rw [h]; rfl
theorem wrap_succ_ne (n : Int) : IntKind.i64.wrap (n + 1) ≠ n := by
  simp [IntKind.wrap, IntKind.signed, IntKind.bits]
  omega
set_option maxRecDepth 4000 in
theorem law10_Tells (nm0 : List UInt8) (kind : Int) (l0 : List Ad) (vl0 : Value) (ttl0 now0 : Int) (g : G) (hl : Rdx g El.ad vl0 l0) (ht0 : -9223372036854775808 ≤ ttl0 ∧ ttl0 ≤ 9223372036854775807) (hn0 : -9223372036854775808 ≤ now0 ∧ now0 ≤ 9223372036854775807) :
    Fn Try.prog 6 [str nm0, .int .i64 kind, vl0, .int .i64 ttl0, .int .i64 now0] g [] fun u _ => u = .bool true := by
  refine enterG [] [51, 52, 53, 54] Try.func6 rfl Try.ntmps6 rfl (by simp) fun g1 hv ho => ?_
  replace hl := hl.seen hv ho
  repeat (first|refine q1 ?_|refine q2 ?_|refine q3 ?_|refine q4 ?_|refine q5 ?_|refine q6 ?_|refine w_seq ?_|refine w_region ?_|refine w_ops_nil ?_|refine w_skip ?_|refine w_block ?_|refine w_blk ?_|refine q7 ?_|refine q8 ?_|refine q9 ?_)
  refine w_callF (vs := [str nm0, .int .i64 20]) rfl (ref01_Few nm0 20 g1 (by omega)) rfl fun u h1 hs1 hu => ?_
  subst hu
  have hst : Step [] [51, 52, 53, 54] g1 h1 := hs1.mono (by simp) (by simp)
  replace hl := hl.go hs1
  have hnl := lowB_take_len nm0 (20 : Int).toNat
  generalize nm0.take (20 : Int).toNat = nm at hnl
  replace hnl : nm.length ≤ 1000000 := by omega
  repeat (first|refine q1 ?_|refine q2 ?_|refine q3 ?_|refine q4 ?_|refine q5 ?_|refine q6 ?_|refine w_seq ?_|refine w_region ?_|refine w_ops_nil ?_|refine w_skip ?_|refine w_block ?_|refine w_blk ?_|refine q7 ?_|refine q8 ?_|refine q9 ?_)
  refine w_lenSl hl.isSl rfl rfl ?_
  repeat (first|refine q1 ?_|refine q2 ?_|refine q3 ?_|refine q4 ?_|refine q5 ?_|refine q6 ?_|refine w_seq ?_|refine w_region ?_|refine w_ops_nil ?_|refine w_skip ?_|refine w_blk ?_|refine q7 ?_|refine q8 ?_|refine q9 ?_)
  refine w_cut (ι := Value × List Ad) (fun x => [(0, str nm), (1, .int .i64 kind), (2, x.1), (3, .int .i64 ttl0), (4, .int .i64 now0)])
    (fun x w => ∃ h : G, h.w = w ∧ Step [] [] h1 h ∧ Rdx h El.ad x.1 x.2 ∧ x.2.length ≤ 3) ?_ ?_
  · refine w_condP rfl (fun hx => ?_) (fun hx => ?_)
    · obtain ⟨c, hc, hr⟩ := hl
      repeat (first|refine q1 ?_|refine q2 ?_|refine q3 ?_|refine q4 ?_|refine q5 ?_|refine q6 ?_|refine w_seq ?_|refine w_region ?_|refine w_ops_nil ?_|refine w_skip ?_|refine w_block ?_|refine w_blk ?_|refine q7 ?_|refine q8 ?_|refine q9 ?_)
      refine w_cut_ (a := 0) (b := 3) hr rfl rfl ⟨_, rfl, rfl⟩ (by omega) (by omega) rfl fun hr1 => ?_
      repeat (first|refine q1 ?_|refine q2 ?_|refine q3 ?_|refine q4 ?_|refine q5 ?_|refine q6 ?_|refine w_seq ?_|refine w_region ?_|refine w_ops_nil ?_|refine w_skip ?_|refine w_block ?_|refine w_blk ?_|refine q7 ?_|refine q8 ?_|refine q9 ?_)
      exact w_meet (cutV vl0 El.ad.sz 0 3, (l0.take 3).drop 0) ⟨h1, rfl, Step.refl _ _ _, ⟨c, hc, hr1⟩, by simp; omega⟩ ⟨rfl, rfl, rfl, rfl, rfl, trivial⟩
    · repeat (first|refine q1 ?_|refine q2 ?_|refine q3 ?_|refine q4 ?_|refine q5 ?_|refine q6 ?_|refine w_seq ?_|refine w_region ?_|refine w_ops_nil ?_|refine w_skip ?_|refine w_block ?_|refine w_blk ?_|refine q7 ?_|refine q8 ?_|refine q9 ?_)
      exact w_meet (vl0, l0) ⟨h1, rfl, Step.refl _ _ _, hl, show l0.length ≤ 3 by omega⟩ ⟨rfl, rfl, rfl, rfl, rfl, trivial⟩
  clear hl
  rintro ⟨vl, l⟩ _ ⟨h2, rfl, hs2, hl, hl3⟩
  dsimp only at hl hl3 ⊢
  replace hst := hst.go hs2
  repeat (first|refine q1 ?_|refine q2 ?_|refine q3 ?_|refine q4 ?_|refine q5 ?_|refine q6 ?_|refine w_seq ?_|refine w_region ?_|refine w_ops_nil ?_|refine w_skip ?_|refine w_block ?_|refine w_blk ?_|refine q7 ?_|refine q8 ?_|refine q9 ?_)
  refine w_callF (vs := [.int .i64 now0, .int .i64 1099511627777]) rfl (ref01_Around now0 1099511627777 h2 hn0 (by omega)) rfl fun u h3 hs3 hu => ?_
  subst hu
  have har := around_range now0 1099511627777 (by omega)
  generalize aroundZ now0 1099511627777 = now at har
  replace hst := hst.go hs3; replace hl := hl.go hs3
  repeat (first|refine q1 ?_|refine q2 ?_|refine q3 ?_|refine q4 ?_|refine q5 ?_|refine q6 ?_|refine w_seq ?_|refine w_region ?_|refine w_ops_nil ?_|refine w_skip ?_|refine w_blk ?_|refine q7 ?_|refine q8 ?_|refine q9 ?_)
  refine w_cut (ι := Int) (fun x => [(0, str nm), (1, .int .i64 kind), (2, vl), (3, .int .i64 x), (4, .int .i64 now)])
    (fun x w => ∃ h : G, h.w = w ∧ Step [] [] h3 h ∧ 1 ≤ x) ?_ ?_
  · refine w_condP rfl (fun hx => ?_) (fun hx => ?_)
    · repeat (first|refine q1 ?_|refine q2 ?_|refine q3 ?_|refine q4 ?_|refine q5 ?_|refine q6 ?_|refine w_seq ?_|refine w_region ?_|refine w_ops_nil ?_|refine w_skip ?_|refine w_block ?_|refine w_blk ?_|refine q7 ?_|refine q8 ?_|refine q9 ?_)
      refine w_callF (vs := [.int .i64 ttl0, .int .i64 1000]) rfl (ref01_Around ttl0 1000 h3 ht0 (by omega)) rfl fun u h4 hs4 hu => ?_
      subst hu
      have hra := around_range ttl0 1000 (by omega)
      repeat (first|refine q1 ?_|refine q2 ?_|refine q3 ?_|refine q4 ?_|refine q5 ?_|refine q6 ?_|refine w_seq ?_|refine w_region ?_|refine w_ops_nil ?_|refine w_skip ?_|refine w_block ?_|refine w_blk ?_|refine q7 ?_|refine q8 ?_|refine q9 ?_)
      exact w_meet (1 + aroundZ ttl0 1000) ⟨h4, rfl, hs4, by omega⟩ ⟨rfl, rfl, rfl, rfl, rfl, trivial⟩
    · repeat (first|refine q1 ?_|refine q2 ?_|refine q3 ?_|refine q4 ?_|refine q5 ?_|refine q6 ?_|refine w_seq ?_|refine w_region ?_|refine w_ops_nil ?_|refine w_skip ?_|refine w_block ?_|refine w_blk ?_|refine q7 ?_|refine q8 ?_|refine q9 ?_)
      exact w_meet ttl0 ⟨h3, rfl, Step.refl _ _ _, by omega⟩ ⟨rfl, rfl, rfl, rfl, rfl, trivial⟩
  rintro ttl _ ⟨h4, rfl, hs4, ht1⟩
  replace hst := hst.go hs4; replace hl := hl.go hs4
  repeat (first|refine q1 ?_|refine q2 ?_|refine q3 ?_|refine q4 ?_|refine q5 ?_|refine q6 ?_|refine w_seq ?_|refine w_region ?_|refine w_ops_nil ?_|refine w_skip ?_|refine w_block ?_|refine w_blk ?_|refine q7 ?_|refine q8 ?_|refine q9 ?_)
  refine w_callF (vs := [.int .i64 2]) rfl (cache_New 2 h4) rfl fun u h5 hs5 hR => ?_
  obtain ⟨p, rfl, hcm⟩ := hR
  replace hst := hst.go hs5; replace hl := hl.go hs5
  rw [show roomZ 2 = 2 by decide] at hcm
  repeat (first|refine q1 ?_|refine q2 ?_|refine q3 ?_|refine q4 ?_|refine q5 ?_|refine q6 ?_|refine w_seq ?_|refine w_region ?_|refine w_ops_nil ?_|refine w_skip ?_|refine w_block ?_|refine w_blk ?_|refine q7 ?_|refine q8 ?_|refine q9 ?_)
  refine w_ptrEqNil rfl rfl rfl ?_
  repeat (first|refine q1 ?_|refine q2 ?_|refine q3 ?_|refine q4 ?_|refine q5 ?_|refine q6 ?_|refine w_seq ?_|refine w_region ?_|refine w_ops_nil ?_|refine w_skip ?_|refine w_block ?_|refine w_blk ?_|refine q7 ?_|refine q8 ?_|refine q9 ?_)
  refine w_cond rfl (fun h => by cases h) (fun _ => ?_)
  repeat (first|refine q1 ?_|refine q2 ?_|refine q3 ?_|refine q4 ?_|refine q5 ?_|refine q6 ?_|refine w_seq ?_|refine w_region ?_|refine w_ops_nil ?_|refine w_skip ?_|refine w_block ?_|refine w_blk ?_|refine q7 ?_|refine q8 ?_|refine q9 ?_)
  obtain ⟨k, hk⟩ : ∃ k : Ck, (⟨lowB nm, kind⟩ : Ck) = k := ⟨_, rfl⟩
  refine w_callF (vs := [.pointer (some ⟨p, 0, none⟩), str nm, .int .i64 kind, vl, .int .i64 ttl, .int .i64 now]) rfl
    (Cache_Put p 2 [] nm kind l vl ttl now h5 hcm List.nodup_nil (by simp) (by omega) hnl hl (by omega) (by omega) k hk) rfl fun u h6 hs6 hR => ?_
  unfold PutC at hR
  rw [if_neg (by omega), pre_no (by simp)] at hR
  obtain ⟨cv, hca, hct, rfl, hcm⟩ := hR
  have hcm : Cm h6 p 2 [(k, cv)] := hcm
  replace hst := hst.go hs6; replace hl := hl.go hs6
  have hg : mget k [(k, cv)] = some cv := by rw [mget, if_pos rfl]
  have hal : ∀ z ∈ [(k, cv)], z.2.addrs.length ≤ 1000000 := by
    intro z hz
    rw [List.mem_singleton.1 hz]; dsimp only; rw [hca]; omega
  generalize hm : [(k, cv)] = m at hcm hg hal
  repeat (first|refine q1 ?_|refine q2 ?_|refine q3 ?_|refine q4 ?_|refine q5 ?_|refine q6 ?_|refine w_seq ?_|refine w_region ?_|refine w_ops_nil ?_|refine w_skip ?_|refine w_block ?_|refine w_blk ?_|refine q7 ?_|refine q8 ?_|refine q9 ?_)
  refine w_min rfl rfl rfl ?_
  repeat (first|refine q1 ?_|refine q2 ?_|refine q3 ?_|refine q4 ?_|refine q5 ?_|refine q6 ?_|refine w_seq ?_|refine w_region ?_|refine w_ops_nil ?_|refine w_skip ?_|refine w_block ?_|refine w_blk ?_|refine q7 ?_|refine q8 ?_|refine q9 ?_)
  obtain ⟨un, hun⟩ : ∃ un, now + min ttl 604800 = un := ⟨_, rfl⟩
  rw [hun] at hct
  refine w_known 12 (.int .i64 un) rfl (congrArg (Value.int .i64) hun) ?_
  refine w_callF (vs := [str nm]) rfl (ref01_Lower nm h6 hnl) rfl fun u h7 hs7 hu => ?_
  subst hu
  replace hst := hst.go hs7; replace hl := hl.go hs7; replace hcm := hcm.go hs7
  repeat (first|refine q1 ?_|refine q2 ?_|refine q3 ?_|refine q4 ?_|refine q5 ?_|refine q6 ?_|refine w_seq ?_|refine w_region ?_|refine w_ops_nil ?_|refine w_skip ?_|refine w_block ?_|refine w_blk ?_|refine q7 ?_|refine q8 ?_|refine q9 ?_)
  refine w_callF (vs := [.pointer (some ⟨p, 0, none⟩), str (lowB nm), .int .i64 kind, .int .i64 now]) rfl
    (Cache_Get p 2 m (lowB nm) kind now h7 hcm (by rw [lowB_len]; exact hnl) hal) rfl fun u h8 hs8 hR => ?_
  obtain ⟨va, rfl, ho54⟩ := hR
  rw [lowB_idem, hk] at ho54 ⊢
  rw [hit_some hg, decide_eq_true (show now < cv.till by omega)]
  rw [addrs_some hg (by omega), hca] at ho54
  replace hst := hst.go hs8; replace hl := hl.go hs8; replace hcm := hcm.go hs8
  obtain ⟨h9, hw9, hs9, hoa⟩ := ho54.recol 54
  rw [← hw9]
  replace hst := hst.go hs9; replace hl := hl.go hs9; replace hcm := hcm.go hs9
  clear ho54
  repeat (first|refine q1 ?_|refine q2 ?_|refine q3 ?_|refine q4 ?_|refine q5 ?_|refine q6 ?_|refine w_seq ?_|refine w_region ?_|refine w_ops_nil ?_|refine w_skip ?_|refine w_block ?_|refine w_blk ?_|refine q7 ?_|refine q8 ?_|refine q9 ?_)
  refine w_known 13 va rfl rfl ?_
  refine w_known 14 (.bool true) rfl rfl ?_
  refine w_callF (vs := [.pointer (some ⟨p, 0, none⟩), str nm, .int .i64 kind, .int .i64 (un - 1)]) rfl
    (Cache_Get p 2 m nm kind (un - 1) h9 hcm hnl hal) rfl fun u h10 hs10 hR => ?_
  obtain ⟨vb, rfl, ho2⟩ := hR
  rw [hk] at ho2 ⊢
  rw [hit_some hg, decide_eq_true (show un - 1 < cv.till by omega)]
  rw [addrs_some hg (by omega), hca] at ho2
  replace hst := hst.go hs10; replace hl := hl.go hs10; replace hcm := hcm.go hs10; replace hoa := hoa.go hs10
  obtain ⟨h11, hw11, hs11, hrb⟩ := ho2.freeze (by decide)
  rw [← hw11]
  replace hst := hst.go hs11; replace hl := hl.go hs11; replace hcm := hcm.go hs11; replace hoa := hoa.go hs11
  clear ho2
  repeat (first|refine q1 ?_|refine q2 ?_|refine q3 ?_|refine q4 ?_|refine q5 ?_|refine q6 ?_|refine w_seq ?_|refine w_region ?_|refine w_ops_nil ?_|refine w_skip ?_|refine w_block ?_|refine w_blk ?_|refine q7 ?_|refine q8 ?_|refine q9 ?_)
  refine w_known 15 vb rfl rfl ?_
  refine w_known 16 (.bool true) rfl rfl ?_
  refine w_callF (vs := [.pointer (some ⟨p, 0, none⟩), str nm, .int .i64 kind, .int .i64 un]) rfl
    (Cache_Get p 2 m nm kind un h11 hcm hnl hal) rfl fun u h12 hs12 hR => ?_
  obtain ⟨vx, rfl, ho2⟩ := hR
  have hno : hitC m k un = false := by rw [hit_some hg]; exact decide_eq_false (by omega)
  rw [hk] at ho2 ⊢
  rw [addrs_not hno] at ho2
  rw [hno]
  replace hst := hst.go hs12; replace hl := hl.go hs12; replace hcm := hcm.go hs12; replace hoa := hoa.go hs12; replace hrb := hrb.go hs12
  obtain ⟨h13, hw13, hs13, hrx⟩ := ho2.freeze (by decide)
  rw [← hw13]
  replace hst := hst.go hs13; replace hl := hl.go hs13; replace hcm := hcm.go hs13; replace hoa := hoa.go hs13; replace hrb := hrb.go hs13
  clear ho2
  repeat (first|refine q1 ?_|refine q2 ?_|refine q3 ?_|refine q4 ?_|refine q5 ?_|refine q6 ?_|refine w_seq ?_|refine w_region ?_|refine w_ops_nil ?_|refine w_skip ?_|refine w_block ?_|refine w_blk ?_|refine q7 ?_|refine q8 ?_|refine q9 ?_)
  refine w_known 17 vx rfl rfl ?_
  refine w_known 18 (.bool false) rfl rfl ?_
  refine w_addW rfl rfl rfl ?_
  repeat (first|refine q1 ?_|refine q2 ?_|refine q3 ?_|refine q4 ?_|refine q5 ?_|refine q6 ?_|refine w_seq ?_|refine w_region ?_|refine w_ops_nil ?_|refine w_skip ?_|refine w_block ?_|refine w_blk ?_|refine q7 ?_|refine q8 ?_|refine q9 ?_)
  refine w_callF (vs := [.pointer (some ⟨p, 0, none⟩), str nm, .int .i64 (IntKind.i64.wrap (kind + 1)), .int .i64 now]) rfl
    (Cache_Get p 2 m nm (IntKind.i64.wrap (kind + 1)) now h13 hcm hnl hal) rfl fun u h14 hs14 hR => ?_
  obtain ⟨vy, rfl, ho2⟩ := hR
  have hno2 : hitC m ⟨lowB nm, IntKind.i64.wrap (kind + 1)⟩ now = false := hit_none (by
    rw [← hm, mget, if_neg]
    · rfl
    · intro e
      dsimp only at e
      rw [← hk] at e
      exact wrap_succ_ne kind (congrArg Ck.type_ e)) now
  rw [hno2]
  replace hst := hst.go hs14; replace hl := hl.go hs14; replace hcm := hcm.go hs14; replace hoa := hoa.go hs14; replace hrb := hrb.go hs14; replace hrx := hrx.go hs14
  repeat (first|refine q1 ?_|refine q2 ?_|refine q3 ?_|refine q4 ?_|refine q5 ?_|refine q6 ?_|refine w_seq ?_|refine w_region ?_|refine w_ops_nil ?_|refine w_skip ?_|refine w_block ?_|refine w_blk ?_|refine q7 ?_|refine q8 ?_|refine q9 ?_)
  refine w_known 20 (.bool false) rfl rfl ?_
  refine w_callF (vs := [.pointer (some ⟨p, 0, none⟩), str nm, .int .i64 kind]) rfl (Cache_Until p 2 m nm kind h14 hcm hnl) rfl fun u h15 hs15 hu => ?_
  rw [hk, hg] at hu
  have htv : tvC m k = un := by unfold tvC getD; rw [hg]; exact hct
  rw [htv] at hu
  subst hu
  replace hst := hst.go hs15; replace hl := hl.go hs15; replace hcm := hcm.go hs15; replace hoa := hoa.go hs15; replace hrb := hrb.go hs15; replace hrx := hrx.go hs15
  repeat (first|refine q1 ?_|refine q2 ?_|refine q3 ?_|refine q4 ?_|refine q5 ?_|refine q6 ?_|refine w_seq ?_|refine w_region ?_|refine w_ops_nil ?_|refine w_skip ?_|refine w_block ?_|refine w_blk ?_|refine q7 ?_|refine q8 ?_|refine q9 ?_)
  refine w_lenSl hrx.isSl rfl rfl ?_
  repeat (first|refine q1 ?_|refine q2 ?_|refine q3 ?_|refine q4 ?_|refine q5 ?_|refine q6 ?_|refine w_seq ?_|refine w_region ?_|refine w_ops_nil ?_|refine w_skip ?_|refine w_block ?_|refine w_blk ?_|refine q7 ?_|refine q8 ?_|refine q9 ?_)
  refine w_known 113 (.bool false) rfl (congrArg Value.bool (decide_eq_false (by simp))) ?_
  repeat (first|refine q1 ?_|refine q2 ?_|refine q3 ?_|refine q4 ?_|refine q5 ?_|refine q6 ?_|refine w_seq ?_|refine w_region ?_|refine w_ops_nil ?_|refine w_skip ?_|refine w_block ?_|refine w_blk ?_|refine q7 ?_|refine q8 ?_|refine q9 ?_)
  refine w_known 118 (.bool false) rfl (congrArg Value.bool (decide_eq_false (fun h => h rfl))) ?_
  repeat (first|refine q1 ?_|refine q2 ?_|refine q3 ?_|refine q4 ?_|refine q5 ?_|refine q6 ?_|refine w_seq ?_|refine w_region ?_|refine w_ops_nil ?_|refine w_skip ?_|refine w_block ?_|refine w_blk ?_|refine q7 ?_|refine q8 ?_|refine q9 ?_)
  refine w_known 122 (.bool false) rfl rfl ?_
  repeat (first|refine q1 ?_|refine q2 ?_|refine q3 ?_|refine q4 ?_|refine q5 ?_|refine q6 ?_|refine w_seq ?_|refine w_region ?_|refine w_ops_nil ?_|refine w_skip ?_|refine w_block ?_|refine w_blk ?_|refine q7 ?_|refine q8 ?_|refine q9 ?_)
  obtain ⟨cl, hcl, hlr⟩ := hl
  refine w_callF (vs := [va, vl]) rfl (ref10_SameAddrs l l va vl h15 hoa.rd hlr) rfl fun u h16 hs16 hu => ?_
  subst hu
  replace hst := hst.go hs16; replace hcm := hcm.go hs16; replace hoa := hoa.go hs16; replace hrb := hrb.go hs16; replace hlr := hlr.go hs16
  repeat (first|refine q1 ?_|refine q2 ?_|refine q3 ?_|refine q4 ?_|refine q5 ?_|refine q6 ?_|refine w_seq ?_|refine w_region ?_|refine w_ops_nil ?_|refine w_skip ?_|refine w_block ?_|refine w_blk ?_|refine q7 ?_|refine q8 ?_|refine q9 ?_)
  refine w_known 128 (.bool false) rfl (congrArg (fun b => Value.bool (!b)) (decide_eq_true rfl)) ?_
  repeat (first|refine q1 ?_|refine q2 ?_|refine q3 ?_|refine q4 ?_|refine q5 ?_|refine q6 ?_|refine w_seq ?_|refine w_region ?_|refine w_ops_nil ?_|refine w_skip ?_|refine w_block ?_|refine w_blk ?_|refine q7 ?_|refine q8 ?_|refine q9 ?_)
  refine w_callF (vs := [vb, vl]) rfl (ref10_SameAddrs l l vb vl h16 hrb hlr) rfl fun u h17 hs17 hu => ?_
  subst hu
  replace hst := hst.go hs17; replace hcm := hcm.go hs17; replace hoa := hoa.go hs17; replace hlr := hlr.go hs17
  repeat (first|refine q1 ?_|refine q2 ?_|refine q3 ?_|refine q4 ?_|refine q5 ?_|refine q6 ?_|refine w_seq ?_|refine w_region ?_|refine w_ops_nil ?_|refine w_skip ?_|refine w_block ?_|refine w_blk ?_|refine q7 ?_|refine q8 ?_|refine q9 ?_)
  refine w_known 133 (.bool false) rfl (congrArg (fun b => Value.bool (!b)) (decide_eq_true rfl)) ?_
  refine w_cond rfl (fun h => by cases h) (fun _ => ?_)
  repeat (first|refine q1 ?_|refine q2 ?_|refine q3 ?_|refine q4 ?_|refine q5 ?_|refine q6 ?_|refine w_seq ?_|refine w_region ?_|refine w_ops_nil ?_|refine w_skip ?_|refine w_block ?_|refine w_blk ?_|refine q7 ?_|refine q8 ?_|refine q9 ?_)
  refine w_loop (ι := Nat × List Ad) (fun x => [(0, str nm), (1, .int .i64 kind), (2, vl), (4, .int .i64 now), (11, .pointer (some ⟨p, 0, none⟩)), (13, va), (23, .int .i64 (x.1 : Int))])
    (fun x w => ∃ h : G, h.w = w ∧ Step [] [54] h17 h ∧ Own h 54 El.ad 51 va x.2 ∧ x.2.length ≤ 3 ∧ x.1 ≤ x.2.length) (fun x => x.2.length - x.1) (0, l) ⟨h17, rfl, Step.refl _ _ _, hoa, hl3, Nat.zero_le _⟩ ⟨rfl, rfl, rfl, rfl, rfl, rfl, rfl, trivial⟩ ?_
  clear hoa
  rintro ⟨i, L⟩ _ ⟨h, rfl, hs0, hoa, hL3, hiL⟩
  dsimp only at hoa hL3 hiL ⊢
  replace hst := hst.trans (hs0.mono (by simp) (by simp))
  replace hcm := hcm.go hs0; replace hlr := hlr.go hs0
  repeat (first|refine q1 ?_|refine q2 ?_|refine q3 ?_|refine q4 ?_|refine q5 ?_|refine q6 ?_|refine w_seq ?_|refine w_region ?_|refine w_ops_nil ?_|refine w_skip ?_|refine w_block ?_|refine w_blk ?_|refine q7 ?_|refine q8 ?_|refine q9 ?_)
  refine w_lenSl hoa.isSl rfl rfl ?_
  repeat (first|refine q1 ?_|refine q2 ?_|refine q3 ?_|refine q4 ?_|refine q5 ?_|refine q6 ?_|refine w_seq ?_|refine w_region ?_|refine w_ops_nil ?_|refine w_skip ?_|refine w_block ?_|refine w_blk ?_|refine q7 ?_|refine q8 ?_|refine q9 ?_)
  refine w_condP rfl (fun hlt => ?_) (fun hlt => ?_)
  · have hlt : i < L.length := by omega
    repeat (first|refine q1 ?_|refine q2 ?_|refine q3 ?_|refine q4 ?_|refine q5 ?_|refine q6 ?_|refine w_seq ?_|refine w_region ?_|refine w_ops_nil ?_|refine w_skip ?_|refine w_block ?_|refine w_blk ?_|refine q7 ?_|refine q8 ?_|refine q9 ?_)
    refine w_build (vs := [(0, .int .i64 99)]) (r := El.ad.enc (adN 99)) rfl rfl rfl ?_
    refine w_idx hoa.rd rfl rfl (by omega) (by omega) rfl ?_
    refine w_storeE (i := ((i : Int)).toNat) (y := adN 99) hoa rfl rfl (by omega) fun h18 hs18 ho18 => ?_
    repeat (first|refine q1 ?_|refine q2 ?_|refine q3 ?_|refine q4 ?_|refine q5 ?_|refine q6 ?_|refine w_seq ?_|refine w_region ?_|refine w_ops_nil ?_|refine w_skip ?_|refine w_block ?_|refine w_blk ?_|refine q7 ?_|refine q8 ?_|refine q9 ?_)
    exact w_again (i + 1, L.set ((i : Int)).toNat (adN 99)) (by simp; omega) ⟨h18, rfl, hs0.trans hs18, ho18, by simp; omega, by simp; omega⟩ ⟨rfl, rfl, rfl, rfl, rfl, rfl, rfl, trivial⟩
  · repeat (first|refine q1 ?_|refine q2 ?_|refine q3 ?_|refine q4 ?_|refine q5 ?_|refine q6 ?_|refine w_seq ?_|refine w_region ?_|refine w_ops_nil ?_|refine w_skip ?_|refine w_block ?_|refine w_blk ?_|refine q7 ?_|refine q8 ?_|refine q9 ?_)
    refine w_callF (vs := [.pointer (some ⟨p, 0, none⟩), str nm, .int .i64 kind, .int .i64 now]) rfl
      (Cache_Get p 2 m nm kind now h hcm hnl hal) rfl fun u h18 hs18 hR => ?_
    obtain ⟨vc, rfl, ho2⟩ := hR
    rw [hk] at ho2 ⊢
    rw [addrs_some hg (by omega), hca] at ho2
    replace hst := hst.go hs18; replace hlr := hlr.go hs18
    repeat (first|refine q1 ?_|refine q2 ?_|refine q3 ?_|refine q4 ?_|refine q5 ?_|refine q6 ?_|refine w_seq ?_|refine w_region ?_|refine w_ops_nil ?_|refine w_skip ?_|refine w_block ?_|refine w_blk ?_|refine q7 ?_|refine q8 ?_|refine q9 ?_)
    refine w_known 24 vc rfl rfl ?_
    refine w_callF (vs := [vc, vl]) rfl (ref10_SameAddrs l l vc vl h18 ho2.rd hlr) rfl fun u h19 hs19 hu => ?_
    subst hu
    replace hst := hst.go hs19
    repeat (first|refine q1 ?_|refine q2 ?_|refine q3 ?_|refine q4 ?_|refine q5 ?_|refine q6 ?_|refine w_seq ?_|refine w_region ?_|refine w_ops_nil ?_|refine w_skip ?_|refine w_block ?_|refine w_blk ?_|refine q7 ?_|refine q8 ?_|refine q9 ?_)
    refine w_known 155 (.bool true) rfl (congrArg Value.bool (decide_eq_true rfl)) ?_
    repeat (first|refine q1 ?_|refine q2 ?_|refine q3 ?_|refine q4 ?_|refine q5 ?_|refine q6 ?_|refine w_seq ?_|refine w_region ?_|refine w_ops_nil ?_|refine w_skip ?_|refine w_block ?_|refine w_blk ?_|refine q7 ?_|refine q8 ?_|refine q9 ?_)
    refine w_callF rfl (law10_lives h19) rfl fun u h20 hs20 hu => ?_
    subst hu
    repeat (first|refine q1 ?_|refine q2 ?_|refine q3 ?_|refine q4 ?_|refine q5 ?_|refine q6 ?_|refine w_seq ?_|refine w_region ?_|refine w_ops_nil ?_|refine w_skip ?_|refine w_block ?_|refine w_blk ?_|refine q7 ?_|refine q8 ?_|refine q9 ?_)
    exact w_retG (res1 rfl rfl) (hst.go hs20) fun h' _ => rfl
end Go.Proofs.Ytfkdfnookacgiaa
