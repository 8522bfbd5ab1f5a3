/- Messages: what is written: the program's Write. No statement of the seat is proved here. -/
import Derived.Test.YtnfokdhgajanpaaWir7
set_option linter.unusedVariables false
set_option linter.unusedSimpArgs false
namespace Go.Proofs.Ytnfokdhgajanpaa
open Go
attribute [local irreducible] Wp

def wrB (m : Ms) : List UInt8 × Int := if msMay m then if (msW m).length ≤ 1232 then (msW m, 0) else ([], 3) else ([], 1)

set_option maxHeartbeats 1000000 in
set_option maxRecDepth 4000 in
theorem wire_Write (m : Ms) (vs : List Value) (g : G) (hm : MsR g vs m) (hok : MsOk m) (hsm : msMay m → Small m) : Fn Try.prog 24 [.agg vs.toArray] g [] fun u h => ∃ v, u = .tuple #[v, .int .i64 (wrB m).2] ∧ Rd h 0 El.u8 v (wrB m).1 := by
  refine enterG [] [21, 22, 23, 25, 26, 27, 28, 29] Try.func24 rfl Try.ntmps24 rfl (by simp) fun g1 hv ho => ?_
  replace hm := hm.seen hv ho
  obtain ⟨vq, va, vu, vm, rfl, hq, ha, hu, hmo⟩ := hm
  let cs : List Value := [.int .i64 m.id, .int .i64 m.flags, vq, va, vu, vm]
  repeat (first|refine q1 ?_|refine q2 ?_|refine q3 ?_|refine q4 ?_|refine q5 ?_|refine q6 ?_|refine w_seq ?_|refine w_region ?_|refine w_ops_nil ?_|refine w_skip ?_|refine w_block ?_|refine w_blk ?_|refine q7 ?_|refine q8 ?_|refine q9 ?_)
  refine w_box 26 (vs := cs) rfl rfl rfl fun h1 b1 hs1 hc1 => ?_
  have hst : Step [] [21, 22, 23, 25, 26, 27, 28, 29] g1 h1 := hs1.nil
  replace hq := hq.go hs1; replace ha := ha.go hs1; replace hu := hu.go hs1; replace hmo := hmo.go hs1
  clear hs1
  repeat (first|refine q1 ?_|refine q2 ?_|refine q3 ?_|refine q4 ?_|refine q5 ?_|refine q6 ?_|refine w_seq ?_|refine w_region ?_|refine w_ops_nil ?_|refine w_skip ?_|refine w_block ?_|refine w_blk ?_|refine q7 ?_|refine q8 ?_|refine q9 ?_)
  refine w_loadS (us := cs) hc1 rfl rfl rfl rfl rfl ?_
  refine w_callF rfl (wire_May m cs h1 ⟨vq, va, vu, vm, rfl, hq, ha, hu, hmo⟩ hok) rfl fun u h2 hs2 hU => ?_
  subst hU
  replace hst := hst.go hs2; replace hc1 := hc1.go hs2; replace hq := hq.go hs2; replace ha := ha.go hs2; replace hu := hu.go hs2; replace hmo := hmo.go hs2
  clear hs2
  repeat (first|refine q1 ?_|refine q2 ?_|refine q3 ?_|refine q4 ?_|refine q5 ?_|refine q6 ?_|refine w_seq ?_|refine w_region ?_|refine w_ops_nil ?_|refine w_skip ?_|refine w_block ?_|refine w_blk ?_|refine q7 ?_|refine q8 ?_|refine q9 ?_)
  refine w_cond rfl (fun hn => ?_) (fun hn => ?_)
  · have hn : ¬ msMay m := by simpa using hn
    repeat (first|refine q1 ?_|refine q2 ?_|refine q3 ?_|refine q4 ?_|refine q5 ?_|refine q6 ?_|refine w_seq ?_|refine w_region ?_|refine w_ops_nil ?_|refine w_skip ?_|refine w_block ?_|refine w_blk ?_|refine q7 ?_|refine q8 ?_|refine q9 ?_)
    refine w_retG (res2 rfl rfl rfl) hst fun h' _ => ⟨_, by simp only [wrB, if_neg hn]; rfl, by simp only [wrB, if_neg hn]; exact Rd.nil _ _ _ none 0 (by decide)⟩
  have hmay : msMay m := by simpa using hn
  obtain ⟨s1, s2⟩ := hsm hmay
  obtain ⟨y1, y2, y3, y4, y5, y6⟩ := id hmay
  unfold wordP at y2 y3
  have hlq := hq.isSl.le
  have hla := ha.isSl.le
  have hlu := hu.isSl.le
  have hlm := hmo.isSl.le
  repeat (first|refine q1 ?_|refine q2 ?_|refine q3 ?_|refine q4 ?_|refine q5 ?_|refine q6 ?_|refine w_seq ?_|refine w_region ?_|refine w_ops_nil ?_|refine w_skip ?_|refine w_block ?_|refine w_blk ?_|refine q7 ?_|refine q8 ?_|refine q9 ?_)
  refine w_alloc 21 (vs := [.slice none 0 0, .map none]) rfl rfl fun h3 wb hs3 hc3 => ?_
  have hw : Wr h3 wb [] [] := ⟨none, ⟨.slice none 0 0, hc3, Own.nil _ _ _ _, .inl ⟨rfl, rfl⟩⟩, by simp⟩
  clear hc3
  replace hst := hst.go hs3; replace hc1 := hc1.go hs3; replace hq := hq.go hs3; replace ha := ha.go hs3; replace hu := hu.go hs3; replace hmo := hmo.go hs3
  clear hs3
  repeat (first|refine q1 ?_|refine q2 ?_|refine q3 ?_|refine q4 ?_|refine q5 ?_|refine q6 ?_|refine w_seq ?_|refine w_region ?_|refine w_ops_nil ?_|refine w_skip ?_|refine w_block ?_|refine w_blk ?_|refine q7 ?_|refine q8 ?_|refine q9 ?_)
  refine w_makeMap 27 rfl fun h4 mb hs4 hma => ?_
  have hmp : MapIs h4 27 mb El.int El.int [] := hma.empty
  replace hst := hst.go hs4; replace hc1 := hc1.go hs4; replace hq := hq.go hs4; replace ha := ha.go hs4; replace hu := hu.go hs4; replace hmo := hmo.go hs4; replace hw := hw.go hs4
  clear hs4 hma
  repeat (first|refine q1 ?_|refine q2 ?_|refine q3 ?_|refine q4 ?_|refine q5 ?_|refine q6 ?_|refine w_seq ?_|refine w_region ?_|refine w_ops_nil ?_|refine w_skip ?_|refine w_block ?_|refine w_blk ?_|refine q7 ?_|refine q8 ?_|refine q9 ?_)
  refine w_fldA (by decide) rfl rfl ?_
  refine w_load1 (v := .int .i64 m.id) hc1 rfl rfl rfl rfl ?_
  refine w_fldA (by decide) rfl rfl ?_
  refine w_load1 (v := .int .i64 m.flags) hc1 rfl rfl rfl rfl ?_
  refine w_fldA (by decide) rfl rfl ?_
  refine w_load1 (v := vq) hc1 rfl rfl rfl rfl ?_
  refine w_lenSl hq.isSl rfl rfl ?_
  refine w_fldA (by decide) rfl rfl ?_
  refine w_load1 (v := va) hc1 rfl rfl rfl rfl ?_
  refine w_lenSl ha.isSl rfl rfl ?_
  refine w_fldA (by decide) rfl rfl ?_
  refine w_load1 (v := vu) hc1 rfl rfl rfl rfl ?_
  refine w_lenSl hu.isSl rfl rfl ?_
  refine w_fldA (by decide) rfl rfl ?_
  refine w_load1 (v := vm) hc1 rfl rfl rfl rfl ?_
  refine w_lenSl hmo.isSl rfl rfl ?_
  refine w_buildSlR El.int [m.id, m.flags, (m.asked.length : Int), (m.ans.length : Int), (m.auth.length : Int), (m.more.length : Int)] rfl rfl rfl rfl fun h5 v5 hs5 hr5 => ?_
  replace hmp := hmp.step hs5 (by simp) (by simp)
  replace hst := hst.go hs5; replace hc1 := hc1.go hs5; replace hq := hq.go hs5; replace ha := ha.go hs5; replace hu := hu.go hs5; replace hmo := hmo.go hs5; replace hw := hw.go hs5
  clear hs5
  refine w_callF rfl (wire_short wb [] [] _ h5 hw hr5 (by
    intro n hn
    simp only [List.mem_cons, List.not_mem_nil, or_false] at hn
    rcases hn with rfl | rfl | rfl | rfl | rfl | rfl <;> omega) (by simp) (by omega)) rfl fun u h6 hs6 hw6 => ?_
  rw [show [] ++ [m.id, m.flags, (m.asked.length : Int), (m.ans.length : Int), (m.auth.length : Int), (m.more.length : Int)].flatMap twoB = headB m from by simp [headB, List.append_assoc]] at hw6
  replace hmp := hmp.step hs6 (by simp) (by simp)
  replace hst := hst.go hs6; replace hc1 := hc1.go hs6; replace hq := hq.go hs6; replace ha := ha.go hs6; replace hu := hu.go hs6; replace hmo := hmo.go hs6
  clear hs6 hr5 hw
  repeat (first|refine q1 ?_|refine q2 ?_|refine q3 ?_|refine q4 ?_|refine q5 ?_|refine q6 ?_|refine w_seq ?_|refine w_region ?_|refine w_ops_nil ?_|refine w_skip ?_|refine w_block ?_|refine w_blk ?_|refine q7 ?_|refine q8 ?_|refine q9 ?_)
  refine w_fldA (by decide) rfl rfl ?_
  refine w_load1 (v := vq) hc1 rfl rfl rfl rfl ?_
  refine w_lenSl hq.isSl rfl rfl ?_
  repeat (first|refine q1 ?_|refine q2 ?_|refine q3 ?_|refine q4 ?_|refine q5 ?_|refine q6 ?_|refine w_seq ?_|refine w_region ?_|refine w_ops_nil ?_|refine w_skip ?_|refine w_block ?_|refine w_blk ?_|refine q7 ?_|refine q8 ?_|refine q9 ?_)
  refine w_loop (ι := Nat) (fun i => [(1, .pointer (some ⟨b1, 0, none⟩)), (4, .pointer (some ⟨wb, 0, none⟩)), (5, .map (some mb)), (39, vq), (40, .int .i64 (m.asked.length : Int)), (41, .int .i64 (i : Int))])
    (fun i w => ∃ h, h.w = w ∧ Step [] [21, 22, 23, 25, 26, 27, 28, 29] h6 h ∧ Cell h 26 b1 46 cs ∧ MapIs h 27 mb El.int El.int [] ∧ Wr h wb (headB m ++ (foldW qnW 12 [] (m.asked.take i)).1) (foldW qnW 12 [] (m.asked.take i)).2 ∧ i ≤ m.asked.length)
    (fun i => m.asked.length - i) 0 ⟨h6, rfl, Step.refl _ _ _, hc1, hmp, by simpa [foldW] using hw6, by omega⟩ ⟨rfl, rfl, rfl, rfl, rfl, rfl, trivial⟩ ?_
  clear hc1 hmp hw6
  rintro i _ ⟨h, rfl, hst2, hc1, hmp, hw, hi⟩
  replace hst := hst.go hst2
  obtain ⟨cq, hcq, hq1⟩ := hq.go hst2
  repeat (first|refine q1 ?_|refine q2 ?_|refine q3 ?_|refine q4 ?_|refine q5 ?_|refine q6 ?_|refine w_seq ?_|refine w_region ?_|refine w_ops_nil ?_|refine w_skip ?_|refine w_block ?_|refine w_blk ?_|refine q7 ?_|refine q8 ?_|refine q9 ?_)
  refine w_condP rfl (fun hlt => ?_) (fun hlt => ?_)
  · have hlt : i < m.asked.length := by omega
    obtain ⟨hnm, hty, hcl⟩ := y1 m.asked[i] (List.getElem_mem hlt)
    unfold wordP at hty hcl
    have hnl := may_len hnm
    have htake : m.asked.take (i + 1) = m.asked.take i ++ [m.asked[i]] := List.take_succ_eq_append_getElem hlt
    have hfs := foldW_snoc qnW (m.asked.take i) m.asked[i] 12 []
    rw [← htake] at hfs
    have hpre := foldW_prefix qnW (m.asked.take (i + 1)) (m.asked.drop (i + 1)) 12 []
    rw [List.take_append_drop] at hpre
    have hs1' : 12 + (foldW qnW 12 [] m.asked).1.length ≤ 900000 := by
      have := s1; simp only [msW, List.length_append, headB_len, askW] at this; omega
    generalize hq0 : m.asked[i] = qx at hnm hty hcl hnl hfs
    generalize hfo : foldW qnW 12 [] (m.asked.take i) = fo at hw hfs
    obtain ⟨fB, fm⟩ := fo
    dsimp only at hw hfs
    have hB12 : (headB m ++ fB).length = 12 + fB.length := by rw [List.length_append, headB_len]
    have hqw : qnW (12 + fB.length) fm qx = ((nameW (headB m ++ fB).length fm (labelsB qx.name)).1 ++ twoB qx.typ ++ twoB qx.cls, (nameW (headB m ++ fB).length fm (labelsB qx.name)).2) := by rw [hB12]; rfl
    obtain ⟨e1, l1, l2⟩ := end_len hnm (headB m ++ fB) fm
    generalize hz : nameW (headB m ++ fB).length fm (labelsB qx.name) = z at e1 l1 l2 hqw
    obtain ⟨z1, z2⟩ := z
    dsimp only at e1 l1 l2 hqw
    rw [hqw] at hfs
    rw [hfs] at hpre
    simp only [List.length_append, twoB_len] at hpre
    repeat (first|refine q1 ?_|refine q2 ?_|refine q3 ?_|refine q4 ?_|refine q5 ?_|refine q6 ?_|refine w_seq ?_|refine w_region ?_|refine w_ops_nil ?_|refine w_skip ?_|refine w_block ?_|refine w_blk ?_|refine q7 ?_|refine q8 ?_|refine q9 ?_)
    refine w_idx hq1 rfl rfl (by omega) (by omega) rfl ?_
    refine w_loadE (i := i) (y := qx) hq1 rfl (by simp [hlt, hq0]) rfl rfl ?_
    repeat (first|refine q1 ?_|refine q2 ?_|refine q3 ?_|refine q4 ?_|refine q5 ?_|refine q6 ?_|refine w_seq ?_|refine w_region ?_|refine w_ops_nil ?_|refine w_skip ?_|refine w_block ?_|refine w_blk ?_|refine q7 ?_|refine q8 ?_|refine q9 ?_)
    refine w_alloc 29 (vs := El.qn.enc ⟨[], 0, 0⟩) rfl rfl fun h7 b7 hs7 hc7 => ?_
    replace hmp := hmp.step hs7 (by simp) (by simp)
    replace hst2 := hst2.go hs7; replace hc1 := hc1.go hs7; replace hw := hw.go hs7
    repeat (first|refine q1 ?_|refine q2 ?_|refine q3 ?_|refine q4 ?_|refine q5 ?_|refine q6 ?_|refine w_seq ?_|refine w_region ?_|refine w_ops_nil ?_|refine w_skip ?_|refine w_block ?_|refine w_blk ?_|refine q7 ?_|refine q8 ?_|refine q9 ?_)
    refine w_store (us := El.qn.enc qx) (vs' := El.qn.enc qx) hc7 rfl rfl rfl rfl (El.qn.flat qx) (show 0 + 3 ≤ 3 by decide) rfl fun h8 hb8 hs8 hc8 => ?_
    replace hmp := hmp.step hs8 (by simp) (by simp)
    replace hst2 := hst2.go hs8; replace hc1 := hc1.go hs8; replace hw := hw.go hs8
    clear hc7 hs7 hs8 hb8
    repeat (first|refine q1 ?_|refine q2 ?_|refine q3 ?_|refine q4 ?_|refine q5 ?_|refine q6 ?_|refine w_seq ?_|refine w_region ?_|refine w_ops_nil ?_|refine w_skip ?_|refine w_block ?_|refine w_blk ?_|refine q7 ?_|refine q8 ?_|refine q9 ?_)
    refine w_fldA (by decide) rfl rfl ?_
    refine w_load1 (v := str qx.name) hc8 rfl rfl rfl rfl ?_
    refine w_callF rfl (Writer_Name wb qx.name (headB m ++ fB) fm h8 hw (by omega) (by omega)) rfl fun u h9 hs9 hR => ?_
    obtain ⟨_, hw9⟩ := hR
    rw [e1] at hw9
    dsimp only at hw9
    replace hmp := hmp.step hs9 (by simp) (by simp)
    replace hst2 := hst2.go hs9; replace hc1 := hc1.go hs9; replace hc8 := hc8.go hs9
    clear hs9 hw
    repeat (first|refine q1 ?_|refine q2 ?_|refine q3 ?_|refine q4 ?_|refine q5 ?_|refine q6 ?_|refine w_seq ?_|refine w_region ?_|refine w_ops_nil ?_|refine w_skip ?_|refine w_block ?_|refine w_blk ?_|refine q7 ?_|refine q8 ?_|refine q9 ?_)
    refine w_fldA (by decide) rfl rfl ?_
    refine w_load1 (v := .int .i64 qx.typ) hc8 rfl rfl rfl rfl ?_
    refine w_fldA (by decide) rfl rfl ?_
    refine w_load1 (v := .int .i64 qx.cls) hc8 rfl rfl rfl rfl ?_
    refine w_buildSlR El.int [qx.typ, qx.cls] rfl rfl rfl rfl fun h10 v10 hs10 hr10 => ?_
    replace hmp := hmp.step hs10 (by simp) (by simp)
    replace hst2 := hst2.go hs10; replace hc1 := hc1.go hs10; replace hc8 := hc8.go hs10; replace hw9 := hw9.go hs10
    refine w_callF rfl (wire_short wb _ _ _ h10 hw9 hr10 (by
      intro n hn
      simp only [List.mem_cons, List.not_mem_nil, or_false] at hn
      rcases hn with rfl | rfl <;> omega) (by simp only [List.length_append, List.length_cons, List.length_nil, headB_len]; omega) (by omega)) rfl fun u h11 hs11 hw11 => ?_
    replace hmp := hmp.step hs11 (by simp) (by simp)
    replace hst2 := hst2.go hs11; replace hc1 := hc1.go hs11
    repeat (first|refine q1 ?_|refine q2 ?_|refine q3 ?_|refine q4 ?_|refine q5 ?_|refine q6 ?_|refine w_seq ?_|refine w_region ?_|refine w_ops_nil ?_|refine w_skip ?_|refine w_block ?_|refine w_blk ?_|refine q7 ?_|refine q8 ?_|refine q9 ?_)
    refine w_again (i + 1) (by omega) ⟨h11, rfl, hst2, hc1, hmp, ?_, by omega⟩ ⟨rfl, rfl, rfl, rfl, rfl, rfl, trivial⟩
    rw [hfs]
    simpa [List.append_assoc] using hw11
  have : i = m.asked.length := by omega
  subst this
  rw [List.take_length] at hw
  replace hw : Wr h wb (headB m ++ (askW m).1) (askW m).2 := hw
  replace ha := ha.go hst2; replace hu := hu.go hst2; replace hmo := hmo.go hst2
  clear hq hq1 hcq hst2 hi hlt
  repeat (first|refine q1 ?_|refine q2 ?_|refine q3 ?_|refine q4 ?_|refine q5 ?_|refine q6 ?_|refine w_seq ?_|refine w_region ?_|refine w_ops_nil ?_|refine w_skip ?_|refine w_block ?_|refine w_blk ?_|refine q7 ?_|refine q8 ?_|refine q9 ?_)
  refine w_callF rfl (wire_lists b1 h) rfl fun vl h2 hs2 hl2 => ?_
  replace hmp := hmp.step hs2 (by simp) (by simp)
  replace hst := hst.go hs2; replace hc1 := hc1.go hs2; replace hw := hw.go hs2; replace ha := ha.go hs2; replace hu := hu.go hs2; replace hmo := hmo.go hs2
  clear hs2
  refine w_lenSl hl2.isSl rfl rfl ?_
  refine w_known 56 (.int .i64 3) rfl rfl ?_
  let L : List (List Rc) := [m.ans, m.auth, m.more]
  have hL : ∀ k : Nat, k < 3 → ∃ o v l, ([⟨b1, 3, none⟩, ⟨b1, 4, none⟩, ⟨b1, 5, none⟩] : List Addr)[k]? = some ⟨b1, o, none⟩ ∧ cs[o]? = some v ∧ Rdx h2 El.rc v l ∧ L.take (k + 1) = L.take k ++ [l] ∧ (∀ r ∈ l, recMay r) ∧ ∃ post, allR m = (L.take k).flatten ++ l ++ post := by
    intro k hk
    match k, hk with
    | 0, _ => exact ⟨3, va, m.ans, rfl, rfl, ha, rfl, y4, m.auth ++ m.more, by simp [allR, L]⟩
    | 1, _ => exact ⟨4, vu, m.auth, rfl, rfl, hu, rfl, y5, m.more, by simp [allR, L]⟩
    | 2, _ => exact ⟨5, vm, m.more, rfl, rfl, hmo, rfl, y6, [], by simp [allR, L]⟩
  have hLall : allR m = (L.take 3).flatten := by simp [allR, L]
  clear ha hu hmo
  repeat (first|refine q1 ?_|refine q2 ?_|refine q3 ?_|refine q4 ?_|refine q5 ?_|refine q6 ?_|refine w_seq ?_|refine w_region ?_|refine w_ops_nil ?_|refine w_skip ?_|refine w_block ?_|refine w_blk ?_|refine q7 ?_|refine q8 ?_|refine q9 ?_)
  refine w_loop (ι := Nat) (fun k => [(1, .pointer (some ⟨b1, 0, none⟩)), (4, .pointer (some ⟨wb, 0, none⟩)), (5, .map (some mb)), (55, vl), (56, .int .i64 3), (57, .int .i64 (k : Int))])
    (fun k w => ∃ h B' hm, h.w = w ∧ Step [] [21, 22, 23, 25, 26, 27, 28, 29] h2 h ∧ Cell h 26 b1 46 cs ∧ MapIs h 27 mb El.int El.int hm ∧ Wr h wb B' (ansW m (L.take k).flatten).2 ∧ Holes (headB m ++ (askW m).1 ++ (ansW m (L.take k).flatten).1) B' hm ∧ k ≤ 3)
    (fun k => 3 - k) 0 ⟨h2, _, [], rfl, Step.refl _ _ _, hc1, hmp, hw, by simpa [ansW, foldW] using Holes.none _, by omega⟩ ⟨rfl, rfl, rfl, rfl, rfl, rfl, trivial⟩ ?_
  clear hc1 hmp hw
  rintro k _ ⟨h, B', hm, rfl, hst2, hc1, hmp, hw, hh, hk⟩
  replace hst := hst.go hst2; replace hl2 := hl2.go hst2
  repeat (first|refine q1 ?_|refine q2 ?_|refine q3 ?_|refine q4 ?_|refine q5 ?_|refine q6 ?_|refine w_seq ?_|refine w_region ?_|refine w_ops_nil ?_|refine w_skip ?_|refine w_block ?_|refine w_blk ?_|refine q7 ?_|refine q8 ?_|refine q9 ?_)
  refine w_condP rfl (fun hlt => ?_) (fun hlt => ?_)
  · have hk3 : k < 3 := by omega
    obtain ⟨o, v, l, ho1, ho2, hr, htk, hl, post, hpost⟩ := hL k hk3
    obtain ⟨c, hc, hr⟩ := hr.go hst2
    have hlr := hr.isSl.le
    repeat (first|refine q1 ?_|refine q2 ?_|refine q3 ?_|refine q4 ?_|refine q5 ?_|refine q6 ?_|refine w_seq ?_|refine w_region ?_|refine w_ops_nil ?_|refine w_skip ?_|refine w_block ?_|refine w_blk ?_|refine q7 ?_|refine q8 ?_|refine q9 ?_)
    refine w_idx hl2 rfl rfl (by omega) (by simp only [List.length_cons, List.length_nil]; omega) rfl ?_
    refine w_loadE (i := k) (y := ⟨b1, o, none⟩) hl2 rfl (by simpa using ho1) rfl rfl ?_
    repeat (first|refine q1 ?_|refine q2 ?_|refine q3 ?_|refine q4 ?_|refine q5 ?_|refine q6 ?_|refine w_seq ?_|refine w_region ?_|refine w_ops_nil ?_|refine w_skip ?_|refine w_block ?_|refine w_blk ?_|refine q7 ?_|refine q8 ?_|refine q9 ?_)
    refine w_load1 (v := v) hc1 rfl ho2 rfl rfl ?_
    refine w_lenSl hr.isSl rfl rfl ?_
    repeat (first|refine q1 ?_|refine q2 ?_|refine q3 ?_|refine q4 ?_|refine q5 ?_|refine q6 ?_|refine w_seq ?_|refine w_region ?_|refine w_ops_nil ?_|refine w_skip ?_|refine w_block ?_|refine w_blk ?_|refine q7 ?_|refine q8 ?_|refine q9 ?_)
    refine w_loop (ι := Nat) (fun i => [(1, .pointer (some ⟨b1, 0, none⟩)), (4, .pointer (some ⟨wb, 0, none⟩)), (5, .map (some mb)), (55, vl), (56, .int .i64 3), (57, .int .i64 (k : Int)), (63, v), (64, .int .i64 (l.length : Int)), (65, .int .i64 (i : Int))])
      (fun i w => ∃ h3 B' hm, h3.w = w ∧ Step [] [21, 22, 23, 25, 26, 27, 28, 29] h h3 ∧ Cell h3 26 b1 46 cs ∧ MapIs h3 27 mb El.int El.int hm ∧ Wr h3 wb B' (ansW m ((L.take k).flatten ++ l.take i)).2 ∧ Holes (headB m ++ (askW m).1 ++ (ansW m ((L.take k).flatten ++ l.take i)).1) B' hm ∧ i ≤ l.length)
      (fun i => l.length - i) 0 ⟨h, B', hm, rfl, Step.refl _ _ _, hc1, hmp, by simpa using hw, by simpa using hh, by omega⟩ ⟨rfl, rfl, rfl, rfl, rfl, rfl, rfl, rfl, rfl, trivial⟩ ?_
    clear hc1 hmp hw hh
    clear B' hm
    rintro i _ ⟨h3, B', hm, rfl, hst3, hc1, hmp, hw, hh, hi⟩
    replace hst := hst.go hst3; replace hst2 := hst2.go hst3; replace hl2 := hl2.go hst3; replace hr := hr.go hst3
    repeat (first|refine q1 ?_|refine q2 ?_|refine q3 ?_|refine q4 ?_|refine q5 ?_|refine q6 ?_|refine w_seq ?_|refine w_region ?_|refine w_ops_nil ?_|refine w_skip ?_|refine w_block ?_|refine w_blk ?_|refine q7 ?_|refine q8 ?_|refine q9 ?_)
    refine w_condP rfl (fun hlt => ?_) (fun hlt => ?_)
    · have hlt : i < l.length := by omega
      have hrm := hl l[i] (List.getElem_mem hlt)
      have htake : (L.take k).flatten ++ l.take (i + 1) = ((L.take k).flatten ++ l.take i) ++ [l[i]] := by rw [List.take_succ_eq_append_getElem hlt, List.append_assoc]
      have hpo2 : allR m = ((L.take k).flatten ++ l.take (i + 1)) ++ (l.drop (i + 1) ++ post) := by
        rw [hpost]; simp only [List.append_assoc]; rw [← List.append_assoc (l.take (i + 1)), List.take_append_drop]
      have hpre := foldW_prefix recW ((L.take k).flatten ++ l.take (i + 1)) (l.drop (i + 1) ++ post) (12 + (askW m).1.length) (askW m).2
      have hpr0 := foldW_prefix recW ((L.take k).flatten ++ l.take i) [l[i]] (12 + (askW m).1.length) (askW m).2
      rw [← hpo2] at hpre
      rw [← htake] at hpr0
      have hfs := foldW_snoc recW ((L.take k).flatten ++ l.take i) l[i] (12 + (askW m).1.length) (askW m).2
      rw [← htake] at hfs
      have hMl : (msW m).length = 12 + (askW m).1.length + (foldW recW (12 + (askW m).1.length) (askW m).2 (allR m)).1.length := by
        simp only [msW, ansW, List.length_append, headB_len]
      have hBl := hh.len
      rw [List.length_append, List.length_append, headB_len] at hBl
      unfold ansW at hw hh hBl
      generalize hq0 : l[i] = rx at hrm hfs
      generalize hfo : foldW recW (12 + (askW m).1.length) (askW m).2 ((L.take k).flatten ++ l.take i) = fo at hw hh hBl hfs hpr0
      obtain ⟨fB, fm⟩ := fo
      dsimp only at hw hh hBl hfs hpr0
      obtain ⟨rl1, rl2⟩ := rec_len hrm
      obtain ⟨hnm, hty, hcl, httl, hdl, hrest⟩ := id hrm
      unfold wordP at hty hcl
      obtain ⟨e1, l1, l2⟩ := end_len hnm B' fm
      have hrw : recW (12 + (askW m).1.length + fB.length) fm rx = recW B'.length fm rx := by rw [hBl]
      rw [hrw] at hfs
      generalize hrq : recW B'.length fm rx = rq at hfs
      unfold recW at hrq
      dsimp only at hrq
      generalize hz : nameW B'.length fm (labelsB rx.name) = z at e1 l1 l2 hrq
      obtain ⟨z1, z2⟩ := z
      dsimp only at e1 l1 l2 hrq
      repeat (first|refine q1 ?_|refine q2 ?_|refine q3 ?_|refine q4 ?_|refine q5 ?_|refine q6 ?_|refine w_seq ?_|refine w_region ?_|refine w_ops_nil ?_|refine w_skip ?_|refine w_block ?_|refine w_blk ?_|refine q7 ?_|refine q8 ?_|refine q9 ?_)
      refine w_idx hr rfl rfl (by omega) (by omega) rfl ?_
      refine w_loadE (i := i) (y := rx) hr rfl (by simp [hlt, hq0]) rfl rfl ?_
      repeat (first|refine q1 ?_|refine q2 ?_|refine q3 ?_|refine q4 ?_|refine q5 ?_|refine q6 ?_|refine w_seq ?_|refine w_region ?_|refine w_ops_nil ?_|refine w_skip ?_|refine w_block ?_|refine w_blk ?_|refine q7 ?_|refine q8 ?_|refine q9 ?_)
      refine w_alloc 29 (vs := El.rc.enc Rc.zero) rfl rfl fun h7 b7 hs7 hc7 => ?_
      replace hmp := hmp.step hs7 (by simp) (by simp)
      replace hst := hst.go hs7; replace hst3 := hst3.go hs7; replace hc1 := hc1.go hs7; replace hw := hw.go hs7
      repeat (first|refine q1 ?_|refine q2 ?_|refine q3 ?_|refine q4 ?_|refine q5 ?_|refine q6 ?_|refine w_seq ?_|refine w_region ?_|refine w_ops_nil ?_|refine w_skip ?_|refine w_block ?_|refine w_blk ?_|refine q7 ?_|refine q8 ?_|refine q9 ?_)
      refine w_store (us := El.rc.enc rx) (vs' := El.rc.enc rx) hc7 rfl rfl rfl rfl (El.rc.flat rx) (show 0 + 23 ≤ 23 by decide) rfl fun h8 hb8 hs8 hc8 => ?_
      replace hmp := hmp.step hs8 (by simp) (by simp)
      replace hst := hst.go hs8; replace hst3 := hst3.go hs8; replace hc1 := hc1.go hs8; replace hw := hw.go hs8
      clear hc7 hs7 hs8 hb8
      repeat (first|refine q1 ?_|refine q2 ?_|refine q3 ?_|refine q4 ?_|refine q5 ?_|refine q6 ?_|refine w_seq ?_|refine w_region ?_|refine w_ops_nil ?_|refine w_skip ?_|refine w_block ?_|refine w_blk ?_|refine q7 ?_|refine q8 ?_|refine q9 ?_)
      refine w_callF rfl (Writer_Len wb B' fm h8 hw) rfl fun u h9 hs9 hU => ?_
      subst hU
      replace hmp := hmp.step hs9 (by simp) (by simp)
      replace hst := hst.go hs9; replace hst3 := hst3.go hs9; replace hc1 := hc1.go hs9; replace hw := hw.go hs9; replace hc8 := hc8.go hs9
      clear hs9
      repeat (first|refine q1 ?_|refine q2 ?_|refine q3 ?_|refine q4 ?_|refine q5 ?_|refine q6 ?_|refine w_seq ?_|refine w_region ?_|refine w_ops_nil ?_|refine w_skip ?_|refine w_block ?_|refine w_blk ?_|refine q7 ?_|refine q8 ?_|refine q9 ?_)
      refine w_condP rfl (fun hlong => ?_) (fun hlong => ?_)
      · repeat (first|refine q1 ?_|refine q2 ?_|refine q3 ?_|refine q4 ?_|refine q5 ?_|refine q6 ?_|refine w_seq ?_|refine w_region ?_|refine w_ops_nil ?_|refine w_skip ?_|refine w_block ?_|refine w_blk ?_|refine q7 ?_|refine q8 ?_|refine q9 ?_)
        have h12 : ¬ (msW m).length ≤ 1232 := by omega
        refine w_retG (res2 rfl rfl rfl) hst fun h' _ => ⟨_, by simp only [wrB, if_pos hmay, if_neg h12]; rfl, by simp only [wrB, if_pos hmay, if_neg h12]; exact Rd.nil _ _ _ none 0 (by decide)⟩
      repeat (first|refine q1 ?_|refine q2 ?_|refine q3 ?_|refine q4 ?_|refine q5 ?_|refine q6 ?_|refine w_seq ?_|refine w_region ?_|refine w_ops_nil ?_|refine w_skip ?_|refine w_block ?_|refine w_blk ?_|refine q7 ?_|refine q8 ?_|refine q9 ?_)
      refine w_fldA (by decide) rfl rfl ?_
      refine w_load1 (v := str rx.name) hc8 rfl rfl rfl rfl ?_
      refine w_callF rfl (Writer_Name wb rx.name B' fm h9 hw (by omega) (by omega)) rfl fun u h10 hs10 hR => ?_
      obtain ⟨_, hw10⟩ := hR
      rw [e1] at hw10
      dsimp only at hw10
      replace hmp := hmp.step hs10 (by simp) (by simp)
      replace hst := hst.go hs10; replace hst3 := hst3.go hs10; replace hc1 := hc1.go hs10; replace hc8 := hc8.go hs10
      clear hs10 hw
      repeat (first|refine q1 ?_|refine q2 ?_|refine q3 ?_|refine q4 ?_|refine q5 ?_|refine q6 ?_|refine w_seq ?_|refine w_region ?_|refine w_ops_nil ?_|refine w_skip ?_|refine w_block ?_|refine w_blk ?_|refine q7 ?_|refine q8 ?_|refine q9 ?_)
      refine w_fldA (by decide) rfl rfl ?_
      refine w_load1 (v := .int .i64 rx.typ) hc8 rfl rfl rfl rfl ?_
      refine w_fldA (by decide) rfl rfl ?_
      refine w_load1 (v := .int .i64 rx.cls) hc8 rfl rfl rfl rfl ?_
      refine w_fldA (by decide) rfl rfl ?_
      refine w_load1 (v := .int .i64 rx.ttl) hc8 rfl rfl rfl rfl ?_
      refine w_shr rfl rfl (by decide) rfl ?_
      refine w_fldA (by decide) rfl rfl ?_
      refine w_load1 (v := .int .i64 rx.ttl) hc8 rfl rfl rfl rfl ?_
      refine w_buildSlR El.int [rx.typ, rx.cls, rx.ttl / 65536, rx.ttl] rfl rfl rfl rfl fun h11 v11 hs11 hr11 => ?_
      replace hmp := hmp.step hs11 (by simp) (by simp)
      replace hst := hst.go hs11; replace hst3 := hst3.go hs11; replace hc1 := hc1.go hs11; replace hc8 := hc8.go hs11; replace hw10 := hw10.go hs11
      refine w_callF rfl (wire_short wb _ _ _ h11 hw10 hr11 (by
        intro n hn
        simp only [List.mem_cons, List.not_mem_nil, or_false] at hn
        rcases hn with rfl | rfl | rfl | rfl <;> omega) (by simp only [List.length_append, List.length_cons, List.length_nil]; omega) (by omega)) rfl fun u h12 hs12 hw12 => ?_
      rw [fix_short rx httl.1] at hw12
      replace hmp := hmp.step hs12 (by simp) (by simp)
      replace hst := hst.go hs12; replace hst3 := hst3.go hs12; replace hc1 := hc1.go hs12; replace hc8 := hc8.go hs12
      clear hs11 hs12 hr11 hw10
      repeat (first|refine q1 ?_|refine q2 ?_|refine q3 ?_|refine q4 ?_|refine q5 ?_|refine q6 ?_|refine w_seq ?_|refine w_region ?_|refine w_ops_nil ?_|refine w_skip ?_|refine w_block ?_|refine w_blk ?_|refine q7 ?_|refine q8 ?_|refine q9 ?_)
      refine w_fldA (by decide) rfl rfl ?_
      refine w_load1 (v := .int .i64 rx.typ) hc8 rfl rfl rfl rfl ?_
      repeat (first|refine q1 ?_|refine q2 ?_|refine q3 ?_|refine q4 ?_|refine q5 ?_|refine q6 ?_|refine w_seq ?_|refine w_region ?_|refine w_ops_nil ?_|refine w_skip ?_|refine w_block ?_|refine w_blk ?_|refine q7 ?_|refine q8 ?_|refine q9 ?_)
      refine w_condP rfl (fun ht => ?_) (fun ht => ?_)
      · rw [if_neg ht] at hrq
        subst hrq
        dsimp only at hfs
        repeat (first|refine q1 ?_|refine q2 ?_|refine q3 ?_|refine q4 ?_|refine q5 ?_|refine q6 ?_|refine w_seq ?_|refine w_region ?_|refine w_ops_nil ?_|refine w_skip ?_|refine w_block ?_|refine w_blk ?_|refine q7 ?_|refine q8 ?_|refine q9 ?_)
        refine w_loadS (us := El.rc.enc rx) hc8 rfl rfl rfl rfl rfl ?_
        refine w_callF rfl (wire_data wb _ _ rx h12 hw12 (by simp only [List.length_append, fixB_len]; omega) hdl) rfl fun u h13 hs13 hw13 => ?_
        replace hmp := hmp.step hs13 (by simp) (by simp)
        replace hst := hst.go hs13; replace hst3 := hst3.go hs13; replace hc1 := hc1.go hs13
        repeat (first|refine q1 ?_|refine q2 ?_|refine q3 ?_|refine q4 ?_|refine q5 ?_|refine q6 ?_|refine w_seq ?_|refine w_region ?_|refine w_ops_nil ?_|refine w_skip ?_|refine w_block ?_|refine w_blk ?_|refine q7 ?_|refine q8 ?_|refine q9 ?_)
        refine w_again (i + 1) (by omega) ⟨h13, B' ++ z1 ++ fixB rx ++ dataB rx, hm, rfl, hst3, hc1, hmp, ?_, ?_, by omega⟩ ⟨rfl, rfl, rfl, rfl, rfl, rfl, rfl, rfl, rfl, trivial⟩
        · unfold ansW; rw [hfs]; exact hw13
        · unfold ansW; rw [hfs]
          simpa [List.append_assoc] using hh.app (z1 ++ (fixB rx ++ dataB rx))
      · have ht : rx.typ = 5 := Decidable.not_not.1 ht
        rw [if_pos ht] at hrq
        have hmt : mayB rx.target = true := by
          rw [if_neg (by omega), if_neg (by omega), if_pos ht] at hrest; exact hrest.1
        have hBz : (B' ++ z1 ++ fixB rx ++ twoB 0).length = B'.length + z1.length + 10 := by simp only [List.length_append, fixB_len, twoB_len]
        obtain ⟨e3, l3, l4⟩ := end_len hmt (B' ++ z1 ++ fixB rx ++ twoB 0) z2
        rw [hBz] at e3 l3 l4
        generalize hy : nameW (B'.length + z1.length + 10) z2 (labelsB rx.target) = y at e3 l3 l4 hrq
        obtain ⟨w1, w2⟩ := y
        dsimp only at e3 l3 l4 hrq
        subst hrq
        dsimp only at hfs
        repeat (first|refine q1 ?_|refine q2 ?_|refine q3 ?_|refine q4 ?_|refine q5 ?_|refine q6 ?_|refine w_seq ?_|refine w_region ?_|refine w_ops_nil ?_|refine w_skip ?_|refine w_block ?_|refine w_blk ?_|refine q7 ?_|refine q8 ?_|refine q9 ?_)
        refine w_callF rfl (Writer_Len wb _ _ h12 hw12) rfl fun u h13 hs13 hU => ?_
        subst hU
        replace hmp := hmp.step hs13 (by simp) (by simp)
        replace hst := hst.go hs13; replace hst3 := hst3.go hs13; replace hc1 := hc1.go hs13; replace hc8 := hc8.go hs13; replace hw12 := hw12.go hs13
        repeat (first|refine q1 ?_|refine q2 ?_|refine q3 ?_|refine q4 ?_|refine q5 ?_|refine q6 ?_|refine w_seq ?_|refine w_region ?_|refine w_ops_nil ?_|refine w_skip ?_|refine w_block ?_|refine w_blk ?_|refine q7 ?_|refine q8 ?_|refine q9 ?_)
        refine w_buildSlR El.int [0] rfl rfl rfl rfl fun h14 v14 hs14 hr14 => ?_
        replace hmp := hmp.step hs14 (by simp) (by simp)
        replace hst := hst.go hs14; replace hst3 := hst3.go hs14; replace hc1 := hc1.go hs14; replace hc8 := hc8.go hs14; replace hw12 := hw12.go hs14
        refine w_callF rfl (wire_short wb _ _ _ h14 hw12 hr14 (by simp) (by simp only [List.length_append, List.length_cons, List.length_nil, fixB_len]; omega) (by omega)) rfl fun u h15 hs15 hw15 => ?_
        rw [show [(0 : Int)].flatMap twoB = twoB 0 from by simp] at hw15
        replace hmp := hmp.step hs15 (by simp) (by simp)
        replace hst := hst.go hs15; replace hst3 := hst3.go hs15; replace hc1 := hc1.go hs15; replace hc8 := hc8.go hs15
        repeat (first|refine q1 ?_|refine q2 ?_|refine q3 ?_|refine q4 ?_|refine q5 ?_|refine q6 ?_|refine w_seq ?_|refine w_region ?_|refine w_ops_nil ?_|refine w_skip ?_|refine w_block ?_|refine w_blk ?_|refine q7 ?_|refine q8 ?_|refine q9 ?_)
        refine w_fldA (by decide) rfl rfl ?_
        refine w_load1 (v := str rx.target) hc8 rfl rfl rfl rfl ?_
        refine w_callF rfl (Writer_Name wb rx.target _ _ h15 hw15 (by omega) (by omega)) rfl fun u h16 hs16 hR => ?_
        obtain ⟨_, hw16⟩ := hR
        rw [e3] at hw16
        dsimp only at hw16
        replace hmp := hmp.step hs16 (by simp) (by simp)
        replace hst := hst.go hs16; replace hst3 := hst3.go hs16; replace hc1 := hc1.go hs16
        repeat (first|refine q1 ?_|refine q2 ?_|refine q3 ?_|refine q4 ?_|refine q5 ?_|refine q6 ?_|refine w_seq ?_|refine w_region ?_|refine w_ops_nil ?_|refine w_skip ?_|refine w_block ?_|refine w_blk ?_|refine q7 ?_|refine q8 ?_|refine q9 ?_)
        refine w_callF rfl (Writer_Len wb _ _ h16 hw16) rfl fun u h17 hs17 hU => ?_
        subst hU
        replace hmp := hmp.step hs17 (by simp) (by simp)
        replace hst := hst.go hs17; replace hst3 := hst3.go hs17; replace hc1 := hc1.go hs17; replace hw16 := hw16.go hs17
        have hlz : (B' ++ z1 ++ fixB rx ++ twoB 0 ++ w1).length = B'.length + z1.length + 10 + w1.length := by rw [List.length_append, hBz]
        have hlf : (B' ++ z1 ++ fixB rx).length = B'.length + z1.length + 8 := by simp only [List.length_append, fixB_len]
        repeat (first|refine q1 ?_|refine q2 ?_|refine q3 ?_|refine q4 ?_|refine q5 ?_|refine q6 ?_|refine w_seq ?_|refine w_region ?_|refine w_ops_nil ?_|refine w_skip ?_|refine w_block ?_|refine w_blk ?_|refine q7 ?_|refine q8 ?_|refine q9 ?_)
        have hn : (((B' ++ z1 ++ fixB rx ++ twoB 0 ++ w1).length : Int) - ((B' ++ z1 ++ fixB rx).length : Int) - 2) = (w1.length : Int) := by omega
        refine w_mapSet (key := ((B' ++ z1 ++ fixB rx).length : Int)) (u := ((B' ++ z1 ++ fixB rx ++ twoB 0 ++ w1).length : Int) - ((B' ++ z1 ++ fixB rx).length : Int) - 2) hmp rfl rfl rfl fun h18 hb18 hs18 hmp18 => ?_
        rw [hn] at hmp18
        replace hst := hst.go hs18; replace hst3 := hst3.go hs18; replace hc1 := hc1.go hs18; replace hw16 := hw16.go hs18
        repeat (first|refine q1 ?_|refine q2 ?_|refine q3 ?_|refine q4 ?_|refine q5 ?_|refine q6 ?_|refine w_seq ?_|refine w_region ?_|refine w_ops_nil ?_|refine w_skip ?_|refine w_block ?_|refine w_blk ?_|refine q7 ?_|refine q8 ?_|refine q9 ?_)
        refine w_again (i + 1) (by omega) ⟨h18, B' ++ z1 ++ fixB rx ++ twoB 0 ++ w1, _, rfl, hst3, hc1, hmp18, ?_, ?_, by omega⟩ ⟨rfl, rfl, rfl, rfl, rfl, rfl, rfl, rfl, rfl, trivial⟩
        · unfold ansW; rw [hfs]; exact hw16
        · unfold ansW; rw [hfs]
          have := (hh.app (z1 ++ fixB rx)).hole' ((B' ++ z1 ++ fixB rx).length : Int) (w1.length : Int) (by simp only [List.length_append, fixB_len, headB_len]; omega) (by omega) w1
          simpa [List.append_assoc] using this
    · have : i = l.length := by omega
      subst this
      rw [List.take_length] at hw hh
      have hfl : (L.take k).flatten ++ l = (L.take (k + 1)).flatten := by rw [htk]; simp
      rw [hfl] at hw hh
      repeat (first|refine q1 ?_|refine q2 ?_|refine q3 ?_|refine q4 ?_|refine q5 ?_|refine q6 ?_|refine w_seq ?_|refine w_region ?_|refine w_ops_nil ?_|refine w_skip ?_|refine w_block ?_|refine w_blk ?_|refine q7 ?_|refine q8 ?_|refine q9 ?_)
      exact w_again (k + 1) (by omega) ⟨h3, B', hm, rfl, hst2, hc1, hmp, hw, hh, by omega⟩ ⟨rfl, rfl, rfl, rfl, rfl, rfl, trivial⟩
  have : k = 3 := by omega
  subst this
  rw [← hLall] at hw hh
  replace hh : Holes (msW m) B' hm := hh
  have hBl := hh.len
  clear hL hLall hl2 hst2 hlt hk
  repeat (first|refine q1 ?_|refine q2 ?_|refine q3 ?_|refine q4 ?_|refine q5 ?_|refine q6 ?_|refine w_seq ?_|refine w_region ?_|refine w_ops_nil ?_|refine w_skip ?_|refine w_block ?_|refine w_blk ?_|refine q7 ?_|refine q8 ?_|refine q9 ?_)
  refine w_callF rfl (Writer_BytesO wb B' _ h hw (by omega)) rfl fun vb h3 hs3 ho3 => ?_
  replace hmp := hmp.step hs3 (by simp) (by simp)
  replace hst := hst.go hs3
  clear hs3 hw hc1
  obtain ⟨es, clock, hma, hks, hvs, hsta⟩ := hmp
  repeat (first|refine q1 ?_|refine q2 ?_|refine q3 ?_|refine q4 ?_|refine q5 ?_|refine q6 ?_|refine w_seq ?_|refine w_region ?_|refine w_ops_nil ?_|refine w_skip ?_|refine w_block ?_|refine w_blk ?_|refine q7 ?_|refine q8 ?_|refine q9 ?_)
  refine w_range 28 hma rfl rfl fun h4 rb hs4 hit => ?_
  replace hma := hma.step hs4 (by simp) (by simp)
  replace hst := hst.go hs4; replace ho3 := ho3.go hs4
  repeat (first|refine q1 ?_|refine q2 ?_|refine q3 ?_|refine q4 ?_|refine q5 ?_|refine q6 ?_|refine w_seq ?_|refine w_region ?_|refine w_ops_nil ?_|refine w_skip ?_|refine w_block ?_|refine w_blk ?_|refine q7 ?_|refine q8 ?_|refine q9 ?_)
  refine w_loop (ι := Array Nat) (fun _ => [(13, vb), (106, .pointer (some ⟨rb, 0, none⟩))])
    (fun seen w => ∃ h C, h.w = w ∧ Step [] [21, 22, 23, 25, 26, 27, 28, 29] h4 h ∧ MapAt h 27 mb es clock ∧ IterIs h 28 rb mb es clock seen ∧ Own h 25 El.u8 5 vb C ∧ Fill (msW m) C hm es.toList seen)
    (fun seen => left es.toList seen) #[] ⟨h4, B', rfl, Step.refl _ _ _, hma, hit, ho3, Fill.begin hh hks hvs⟩ ⟨rfl, rfl, trivial⟩ ?_
  clear hma hit ho3
  rintro seen _ ⟨h5, C, rfl, hst5, hma, hit, ho3, hf⟩
  replace hst := hst.go hst5
  clear hs4
  repeat (first|refine q1 ?_|refine q2 ?_|refine q3 ?_|refine q4 ?_|refine q5 ?_|refine q6 ?_|refine w_seq ?_|refine w_region ?_|refine w_ops_nil ?_|refine w_skip ?_|refine w_block ?_|refine w_blk ?_|refine q7 ?_|refine q8 ?_|refine q9 ?_)
  refine w_next hit hma hsta rfl rfl (fun hall => ?_) (fun e h6 he hse hb6 hs6 hit6 => ?_)
  · have := hf.over hall
    subst this
    repeat (first|refine q1 ?_|refine q2 ?_|refine q3 ?_|refine q4 ?_|refine q5 ?_|refine q6 ?_|refine w_seq ?_|refine w_region ?_|refine w_ops_nil ?_|refine w_skip ?_|refine w_block ?_|refine w_blk ?_|refine q7 ?_|refine q8 ?_|refine q9 ?_)
    refine w_lenSl ho3.isSl rfl rfl ?_
    repeat (first|refine q1 ?_|refine q2 ?_|refine q3 ?_|refine q4 ?_|refine q5 ?_|refine q6 ?_|refine w_seq ?_|refine w_region ?_|refine w_ops_nil ?_|refine w_skip ?_|refine w_block ?_|refine w_blk ?_|refine q7 ?_|refine q8 ?_|refine q9 ?_)
    refine w_condP rfl (fun hlong => ?_) (fun hlong => ?_)
    · have h12 : ¬ (msW m).length ≤ 1232 := by omega
      repeat (first|refine q1 ?_|refine q2 ?_|refine q3 ?_|refine q4 ?_|refine q5 ?_|refine q6 ?_|refine w_seq ?_|refine w_region ?_|refine w_ops_nil ?_|refine w_skip ?_|refine w_block ?_|refine w_blk ?_|refine q7 ?_|refine q8 ?_|refine q9 ?_)
      refine w_retG (res2 rfl rfl rfl) hst fun h' _ => ⟨_, by simp only [wrB, if_pos hmay, if_neg h12]; rfl, by simp only [wrB, if_pos hmay, if_neg h12]; exact Rd.nil _ _ _ none 0 (by decide)⟩
    · have h12 : (msW m).length ≤ 1232 := by omega
      repeat (first|refine q1 ?_|refine q2 ?_|refine q3 ?_|refine q4 ?_|refine q5 ?_|refine q6 ?_|refine w_seq ?_|refine w_region ?_|refine w_ops_nil ?_|refine w_skip ?_|refine w_block ?_|refine w_blk ?_|refine q7 ?_|refine q8 ?_|refine q9 ?_)
      obtain ⟨h7, hw7, hs7, hr7⟩ := ho3.freeze (by decide)
      rw [← hw7]
      refine w_retG (res2 rfl rfl rfl) (hst.go hs7) fun h' hv' => ⟨_, by simp only [wrB, if_pos hmay, if_pos h12]; rfl, ?_⟩
      simp only [wrB, if_pos hmay, if_pos h12]
      exact hr7.view hv' (.inl rfl)
  · obtain ⟨p, hp, hk1, hv1⟩ := (entries hks hvs).1 e he
    obtain ⟨p0, p1, p2, p3, p4⟩ := hh.fits p hp
    have hf2 := hf.set hh hsta.2 he hp hk1
    replace hma := hma.step hs6 (by simp) (by simp)
    replace hst := hst.go hs6; replace hst5 := hst5.go hs6; replace ho3 := ho3.go hs6
    repeat (first|refine q1 ?_|refine q2 ?_|refine q3 ?_|refine q4 ?_|refine q5 ?_|refine q6 ?_|refine w_seq ?_|refine w_region ?_|refine w_ops_nil ?_|refine w_skip ?_|refine w_block ?_|refine w_blk ?_|refine q7 ?_|refine q8 ?_|refine q9 ?_)
    refine w_entry hit6 hma hsta he rfl rfl ?_
    rw [hk1, hv1]
    repeat (first|refine q1 ?_|refine q2 ?_|refine q3 ?_|refine q4 ?_|refine q5 ?_|refine q6 ?_|refine w_seq ?_|refine w_region ?_|refine w_ops_nil ?_|refine w_skip ?_|refine w_block ?_|refine w_blk ?_|refine q7 ?_|refine q8 ?_|refine q9 ?_)
    refine w_shr rfl rfl (by decide) rfl ?_
    refine w_convB rfl (by rw [shr8]; omega) rfl ?_
    repeat (first|refine q1 ?_|refine q2 ?_|refine q3 ?_|refine q4 ?_|refine q5 ?_|refine q6 ?_|refine w_seq ?_|refine w_region ?_|refine w_ops_nil ?_|refine w_skip ?_|refine w_block ?_|refine w_blk ?_|refine q7 ?_|refine q8 ?_|refine q9 ?_)
    refine w_convB rfl p2 rfl ?_
    have hCl := hf.1
    refine w_idx ho3.rd rfl rfl p0 (by omega) rfl ?_
    refine w_storeE (y := UInt8.ofNat (p.2 / 2 ^ min (8 : Int).toNat IntKind.i64.bits).toNat) ho3 rfl rfl (by omega) fun h7 hs7 ho7 => ?_
    replace hma := hma.step hs7 (by simp) (by simp)
    replace hst := hst.go hs7; replace hst5 := hst5.go hs7; replace hit6 := hit6.go hs7
    repeat (first|refine q1 ?_|refine q2 ?_|refine q3 ?_|refine q4 ?_|refine q5 ?_|refine q6 ?_|refine w_seq ?_|refine w_region ?_|refine w_ops_nil ?_|refine w_skip ?_|refine w_block ?_|refine w_blk ?_|refine q7 ?_|refine q8 ?_|refine q9 ?_)
    refine w_idx ho7.rd rfl rfl (by omega) (by rw [List.length_set]; omega) rfl ?_
    refine w_storeE (y := UInt8.ofNat p.2.toNat) ho7 rfl rfl (by rw [List.length_set]; omega) fun h8 hs8 ho8 => ?_
    replace hma := hma.step hs8 (by simp) (by simp)
    replace hst := hst.go hs8; replace hst5 := hst5.go hs8; replace hit6 := hit6.go hs8
    repeat (first|refine q1 ?_|refine q2 ?_|refine q3 ?_|refine q4 ?_|refine q5 ?_|refine q6 ?_|refine w_seq ?_|refine w_region ?_|refine w_ops_nil ?_|refine w_skip ?_|refine w_block ?_|refine w_blk ?_|refine q7 ?_|refine q8 ?_|refine q9 ?_)
    refine w_again (seen.push e.born) (left_lt seen _ e he hse) ⟨h8, _, rfl, hst5, hma, hit6, ho8, ?_⟩ ⟨rfl, rfl, trivial⟩
    rw [show (p.1 + 1).toNat = p.1.toNat + 1 by omega, shr8]
    exact hf2
end Go.Proofs.Ytnfokdhgajanpaa
