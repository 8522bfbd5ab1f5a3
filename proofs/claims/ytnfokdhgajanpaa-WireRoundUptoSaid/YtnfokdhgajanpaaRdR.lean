/- Messages: the law that what was written is read as it was, as a contract. No statement of the seat is proved here. -/
import Derived.Test.YtnfokdhgajanpaaRdQ
import Derived.Test.YtnfokdhgajanpaaWirG
set_option linter.unusedVariables false
set_option linter.unusedSimpArgs false
namespace Go.Proofs.Ytnfokdhgajanpaa
open Go
attribute [local irreducible] Wp
theorem law09_Round (m : Ms) (vs : List Value) (g : G) (hm : MsR g vs m) (hok : MsOk m) : Fn Try.prog 10 [.agg vs.toArray] g [] fun u _ => u = .bool true := by
  refine enterG [] [31, 41, 42, 43] Try.func10 rfl Try.ntmps10 rfl (by simp) fun g1 hv ho => ?_
  replace hm := hm.seen hv ho
  repeat (first|refine q1 ?_|refine q2 ?_|refine q3 ?_|refine q4 ?_|refine q5 ?_|refine q6 ?_|refine w_seq ?_|refine w_region ?_|refine w_ops_nil ?_|refine w_skip ?_|refine w_block ?_|refine w_blk ?_|refine q7 ?_|refine q8 ?_|refine q9 ?_)
  have hvl := hm.len
  refine w_box 41 (vs := vs) rfl rfl rfl fun h1 b1 hs1 hc1 => ?_
  have hst : Step [] [31, 41, 42, 43] g1 h1 := hs1.nil
  replace hm := hm.go hs1
  repeat (first|refine q1 ?_|refine q2 ?_|refine q3 ?_|refine q4 ?_|refine q5 ?_|refine q6 ?_|refine w_seq ?_|refine w_region ?_|refine w_ops_nil ?_|refine w_skip ?_|refine w_block ?_|refine w_blk ?_|refine q7 ?_|refine q8 ?_|refine q9 ?_)
  refine w_loadS (us := vs) hc1 rfl (by rw [List.drop_zero, List.take_of_length_le (by omega)]) hvl rfl rfl ?_
  refine w_callF rfl (ref09_Good m vs h1 hm hok) rfl fun u h2 hs2 hR => ?_
  obtain ⟨ws, rfl, hO⟩ := hR
  replace hst := hst.go hs2
  obtain ⟨h3, hw3, hs3, hG⟩ := hO.freeze
  rw [← hw3]
  replace hst := hst.go hs3
  have hgm := good_ms m
  have hgs := good_small m
  have hgok := msMay_ok hgm
  generalize goodMs m = gm at hG hgm hgs hgok
  clear hm hc1 hs1 hs2 hs3 hO hw3
  obtain ⟨wq, wa, wu, wm, rfl, hq, ha, hu, hmo⟩ := hG
  let cs : List Value := [.int .i64 gm.id, .int .i64 gm.flags, wq, wa, wu, wm]
  have hG : MsR h3 cs gm := ⟨wq, wa, wu, wm, rfl, hq, ha, hu, hmo⟩
  clear hq ha hu hmo
  repeat (first|refine q1 ?_|refine q2 ?_|refine q3 ?_|refine q4 ?_|refine q5 ?_|refine q6 ?_|refine w_seq ?_|refine w_region ?_|refine w_ops_nil ?_|refine w_skip ?_|refine w_block ?_|refine w_blk ?_|refine q7 ?_|refine q8 ?_|refine q9 ?_)
  refine w_alloc 42 (vs := msZ) rfl rfl fun h4 b4 hs4 hc4 => ?_
  replace hst := hst.go hs4; replace hG := hG.go hs4
  repeat (first|refine q1 ?_|refine q2 ?_|refine q3 ?_|refine q4 ?_|refine q5 ?_|refine q6 ?_|refine w_seq ?_|refine w_region ?_|refine w_ops_nil ?_|refine w_skip ?_|refine w_block ?_|refine w_blk ?_|refine q7 ?_|refine q8 ?_|refine q9 ?_)
  refine w_store (us := cs) (vs' := cs) hc4 rfl rfl rfl rfl hG.one (show 0 + 6 ≤ 6 by decide) rfl fun h5 hb5 hs5 hc5 => ?_
  replace hst := hst.go hs5; replace hG := hG.go hs5
  repeat (first|refine q1 ?_|refine q2 ?_|refine q3 ?_|refine q4 ?_|refine q5 ?_|refine q6 ?_|refine w_seq ?_|refine w_region ?_|refine w_ops_nil ?_|refine w_skip ?_|refine w_block ?_|refine w_blk ?_|refine q7 ?_|refine q8 ?_|refine q9 ?_)
  refine w_loadS (us := cs) hc5 rfl rfl rfl rfl rfl ?_
  refine w_callF rfl (wire_Write gm cs h5 hG hgok (fun _ => hgs)) rfl fun u h6 hs6 hR => ?_
  obtain ⟨vb, rfl, hb⟩ := hR
  replace hst := hst.go hs6; replace hG := hG.go hs6; replace hc5 := hc5.go hs6
  rw [wrB, if_pos hgm] at hb ⊢
  obtain ⟨wr, hwr⟩ : ∃ wr, (if (msW gm).length ≤ 1232 then (msW gm, (0 : Int)) else ([], 3)) = wr := ⟨_, rfl⟩
  rw [hwr] at hb ⊢
  repeat (first|refine q1 ?_|refine q2 ?_|refine q3 ?_|refine q4 ?_|refine q5 ?_|refine q6 ?_|refine w_seq ?_|refine w_region ?_|refine w_ops_nil ?_|refine w_skip ?_|refine w_block ?_|refine w_blk ?_|refine q7 ?_|refine q8 ?_|refine q9 ?_)
  refine w_known 4 vb rfl rfl ?_
  refine w_known 5 (.int .i64 wr.2) rfl rfl ?_
  refine w_loadS (us := cs) hc5 rfl rfl rfl rfl rfl ?_
  refine w_callF rfl (ref09_Write gm cs h6 hG hgm hgs) rfl fun v6 h7 hs7 hb6 => ?_
  replace hst := hst.go hs7; replace hG := hG.go hs7; replace hc5 := hc5.go hs7; replace hb := hb.go hs7
  repeat (first|refine q1 ?_|refine q2 ?_|refine q3 ?_|refine q4 ?_|refine q5 ?_|refine q6 ?_|refine w_seq ?_|refine w_region ?_|refine w_ops_nil ?_|refine w_skip ?_|refine w_block ?_|refine w_blk ?_|refine q7 ?_|refine q8 ?_|refine q9 ?_)
  refine w_loadS (us := cs) hc5 rfl rfl rfl rfl rfl ?_
  refine w_callF rfl (wire_May gm cs h7 hG hgok) rfl fun u h8 hs8 hu => ?_
  rw [decide_eq_true hgm] at hu
  subst hu
  replace hst := hst.go hs8; replace hG := hG.go hs8; replace hc5 := hc5.go hs8; replace hb := hb.go hs8; replace hb6 := hb6.go hs8
  repeat (first|refine q1 ?_|refine q2 ?_|refine q3 ?_|refine q4 ?_|refine q5 ?_|refine q6 ?_|refine w_seq ?_|refine w_region ?_|refine w_ops_nil ?_|refine w_skip ?_|refine w_block ?_|refine w_blk ?_|refine q7 ?_|refine q8 ?_|refine q9 ?_)
  refine w_lenSl hb6.isSl rfl rfl ?_
  repeat (first|refine q1 ?_|refine q2 ?_|refine q3 ?_|refine q4 ?_|refine q5 ?_|refine q6 ?_|refine w_seq ?_|refine w_region ?_|refine w_ops_nil ?_|refine w_skip ?_|refine w_block ?_|refine w_blk ?_|refine q7 ?_|refine q8 ?_|refine q9 ?_)
  by_cases hlen : (msW gm).length ≤ 1232
  · rw [if_pos hlen] at hwr
    subst hwr
    dsimp only at hb ⊢
    refine w_condP rfl (fun h => absurd h (by omega)) (fun _ => ?_)
    repeat (first|refine q1 ?_|refine q2 ?_|refine q3 ?_|refine q4 ?_|refine q5 ?_|refine q6 ?_|refine w_seq ?_|refine w_region ?_|refine w_ops_nil ?_|refine w_skip ?_|refine w_block ?_|refine w_blk ?_|refine q7 ?_|refine q8 ?_|refine q9 ?_)
    refine w_callF (vs := [vb]) rfl (wire_Read (msW gm) vb h8 hb (by omega)) rfl fun u h9 hs9 hR => ?_
    rw [readP_msW hgm hlen] at hR
    obtain ⟨rs, rfl, hM⟩ := hR
    replace hst := hst.go hs9; replace hG := hG.go hs9; replace hc5 := hc5.go hs9; replace hb := hb.go hs9; replace hb6 := hb6.go hs9
    obtain ⟨rq, ra, ru, rm, rfl, r1, r2, r3, r4⟩ := hM.r
    let rs : List Value := [.int .i64 gm.id, .int .i64 gm.flags, rq, ra, ru, rm]
    replace hM : MsR h9 rs gm := ⟨rq, ra, ru, rm, rfl, r1, r2, r3, r4⟩
    clear r1 r2 r3 r4
    repeat (first|refine q1 ?_|refine q2 ?_|refine q3 ?_|refine q4 ?_|refine q5 ?_|refine q6 ?_|refine w_seq ?_|refine w_region ?_|refine w_ops_nil ?_|refine w_skip ?_|refine w_block ?_|refine w_blk ?_|refine q7 ?_|refine q8 ?_|refine q9 ?_)
    refine w_alloc 43 (vs := msZ) rfl rfl fun h10 b7 hs10 hc7 => ?_
    replace hst := hst.go hs10; replace hG := hG.go hs10; replace hc5 := hc5.go hs10; replace hb := hb.go hs10; replace hb6 := hb6.go hs10; replace hM := hM.go hs10
    refine w_store (us := rs) (vs' := rs) hc7 rfl rfl rfl rfl hM.one (show 0 + 6 ≤ 6 by decide) rfl fun h11 hb11 hs11 hc7 => ?_
    replace hst := hst.go hs11; replace hG := hG.go hs11; replace hc5 := hc5.go hs11; replace hb := hb.go hs11; replace hb6 := hb6.go hs11; replace hM := hM.go hs11
    repeat (first|refine q1 ?_|refine q2 ?_|refine q3 ?_|refine q4 ?_|refine q5 ?_|refine q6 ?_|refine w_seq ?_|refine w_region ?_|refine w_ops_nil ?_|refine w_skip ?_|refine w_block ?_|refine w_blk ?_|refine q7 ?_|refine q8 ?_|refine q9 ?_)
    refine w_known 51 (.bool true) rfl rfl ?_
    repeat (first|refine q1 ?_|refine q2 ?_|refine q3 ?_|refine q4 ?_|refine q5 ?_|refine q6 ?_|refine w_seq ?_|refine w_region ?_|refine w_ops_nil ?_|refine w_skip ?_|refine w_block ?_|refine w_blk ?_|refine q7 ?_|refine q8 ?_|refine q9 ?_)
    refine w_callF (vs := [vb, v6]) rfl (ref08_SameBytes (msW gm) (msW gm) h11 hb hb6) rfl fun u h12 hs12 hu => ?_
    rw [decide_eq_true rfl] at hu
    subst hu
    replace hst := hst.go hs12; replace hG := hG.go hs12; replace hc5 := hc5.go hs12; replace hM := hM.go hs12; replace hc7 := hc7.go hs12
    repeat (first|refine q1 ?_|refine q2 ?_|refine q3 ?_|refine q4 ?_|refine q5 ?_|refine q6 ?_|refine w_seq ?_|refine w_region ?_|refine w_ops_nil ?_|refine w_skip ?_|refine w_block ?_|refine w_blk ?_|refine q7 ?_|refine q8 ?_|refine q9 ?_)
    refine w_loadS (us := rs) hc7 rfl rfl rfl rfl rfl ?_
    repeat (first|refine q1 ?_|refine q2 ?_|refine q3 ?_|refine q4 ?_|refine q5 ?_|refine q6 ?_|refine w_seq ?_|refine w_region ?_|refine w_ops_nil ?_|refine w_skip ?_|refine w_block ?_|refine w_blk ?_|refine q7 ?_|refine q8 ?_|refine q9 ?_)
    refine w_loadS (us := cs) hc5 rfl rfl rfl rfl rfl ?_
    repeat (first|refine q1 ?_|refine q2 ?_|refine q3 ?_|refine q4 ?_|refine q5 ?_|refine q6 ?_|refine w_seq ?_|refine w_region ?_|refine w_ops_nil ?_|refine w_skip ?_|refine w_block ?_|refine w_blk ?_|refine q7 ?_|refine q8 ?_|refine q9 ?_)
    refine w_callF (vs := [.agg rs.toArray, .agg cs.toArray]) rfl (ref09_Same gm gm rs cs h12 hM hG) rfl fun u h13 hs13 hu => ?_
    rw [decide_eq_true rfl] at hu
    subst hu
    replace hst := hst.go hs13; replace hG := hG.go hs13; replace hc5 := hc5.go hs13; replace hM := hM.go hs13; replace hc7 := hc7.go hs13
    repeat (first|refine q1 ?_|refine q2 ?_|refine q3 ?_|refine q4 ?_|refine q5 ?_|refine q6 ?_|refine w_seq ?_|refine w_region ?_|refine w_ops_nil ?_|refine w_skip ?_|refine w_block ?_|refine w_blk ?_|refine q7 ?_|refine q8 ?_|refine q9 ?_)
    refine w_loadS (us := rs) hc7 rfl rfl rfl rfl rfl ?_
    repeat (first|refine q1 ?_|refine q2 ?_|refine q3 ?_|refine q4 ?_|refine q5 ?_|refine q6 ?_|refine w_seq ?_|refine w_region ?_|refine w_ops_nil ?_|refine w_skip ?_|refine w_block ?_|refine w_blk ?_|refine q7 ?_|refine q8 ?_|refine q9 ?_)
    refine w_loadS (us := cs) hc5 rfl rfl rfl rfl rfl ?_
    repeat (first|refine q1 ?_|refine q2 ?_|refine q3 ?_|refine q4 ?_|refine q5 ?_|refine q6 ?_|refine w_seq ?_|refine w_region ?_|refine w_ops_nil ?_|refine w_skip ?_|refine w_block ?_|refine w_blk ?_|refine q7 ?_|refine q8 ?_|refine q9 ?_)
    refine w_callF (vs := [.agg rs.toArray, .agg cs.toArray]) rfl (wire_Same gm gm rs cs h13 hM hG) rfl fun u h14 hs14 hu => ?_
    rw [decide_eq_true rfl] at hu
    subst hu
    replace hst := hst.go hs14
    repeat (first|refine q1 ?_|refine q2 ?_|refine q3 ?_|refine q4 ?_|refine q5 ?_|refine q6 ?_|refine w_seq ?_|refine w_region ?_|refine w_ops_nil ?_|refine w_skip ?_|refine w_block ?_|refine w_blk ?_|refine q7 ?_|refine q8 ?_|refine q9 ?_)
    refine w_callF rfl (law09_lives h14) rfl fun u h15 hs15 hu => ?_
    subst hu
    repeat (first|refine q1 ?_|refine q2 ?_|refine q3 ?_|refine q4 ?_|refine q5 ?_|refine q6 ?_|refine w_seq ?_|refine w_region ?_|refine w_ops_nil ?_|refine w_skip ?_|refine w_block ?_|refine w_blk ?_|refine q7 ?_|refine q8 ?_|refine q9 ?_)
    exact w_retG (res1 rfl rfl) (hst.go hs15) fun h' _ => rfl
  · rw [if_neg hlen] at hwr
    subst hwr
    dsimp only at hb ⊢
    refine w_condP rfl (fun _ => ?_) (fun h => absurd (show (1232 : Int) < ((msW gm).length : Int) by omega) h)
    repeat (first|refine q1 ?_|refine q2 ?_|refine q3 ?_|refine q4 ?_|refine q5 ?_|refine q6 ?_|refine w_seq ?_|refine w_region ?_|refine w_ops_nil ?_|refine w_skip ?_|refine w_block ?_|refine w_blk ?_|refine q7 ?_|refine q8 ?_|refine q9 ?_)
    refine w_loadS (us := cs) hc5 rfl rfl rfl rfl rfl ?_
    refine w_callF rfl (wire_May gm cs h8 hG hgok) rfl fun u h9 hs9 hu => ?_
    rw [decide_eq_true hgm] at hu
    subst hu
    replace hst := hst.go hs9; replace hb := hb.go hs9
    repeat (first|refine q1 ?_|refine q2 ?_|refine q3 ?_|refine q4 ?_|refine q5 ?_|refine q6 ?_|refine w_seq ?_|refine w_region ?_|refine w_ops_nil ?_|refine w_skip ?_|refine w_block ?_|refine w_blk ?_|refine q7 ?_|refine q8 ?_|refine q9 ?_)
    refine w_lenSl hb.isSl rfl rfl ?_
    repeat (first|refine q1 ?_|refine q2 ?_|refine q3 ?_|refine q4 ?_|refine q5 ?_|refine q6 ?_|refine w_seq ?_|refine w_region ?_|refine w_ops_nil ?_|refine w_skip ?_|refine w_block ?_|refine w_blk ?_|refine q7 ?_|refine q8 ?_|refine q9 ?_)
    refine w_callF rfl (law09_lives h9) rfl fun u h15 hs15 hu => ?_
    subst hu
    repeat (first|refine q1 ?_|refine q2 ?_|refine q3 ?_|refine q4 ?_|refine q5 ?_|refine q6 ?_|refine w_seq ?_|refine w_region ?_|refine w_ops_nil ?_|refine w_skip ?_|refine w_block ?_|refine w_blk ?_|refine q7 ?_|refine q8 ?_|refine q9 ?_)
    exact w_retG (res1 rfl rfl) (hst.go hs15) fun h' _ => rfl
end Go.Proofs.Ytnfokdhgajanpaa
