/- Messages: the law that what is read may be, and is read again as it was, as a contract. No statement of the seat is proved here. -/
import Derived.Test.YtnfokdhgajanpaaRdQ
import Derived.Test.YtnfokdhgajanpaaRdW
import Derived.Test.YtnfokdhgajanpaaWirF
set_option linter.unusedVariables false
set_option linter.unusedSimpArgs false
namespace Go.Proofs.Ytnfokdhgajanpaa
open Go
attribute [local irreducible] Wp
def aroundZ (n m : Int) : Int := if n < 0 then -(n + 1) % m else n % m
theorem ref01_Around (n m : Int) (g : G) (hn : -9223372036854775808 ≤ n ∧ n ≤ 9223372036854775807) (hm : 1 ≤ m ∧ m ≤ 9223372036854775807) : Fn Try.prog 28 [.int .i64 n, .int .i64 m] g [] fun u _ => u = .int .i64 (aroundZ n m) := by
  refine enterG [] [] Try.func28 rfl Try.ntmps28 rfl (by simp) fun g1 hv ho => ?_
  repeat (first|refine q1 ?_|refine q2 ?_|refine q3 ?_|refine q4 ?_|refine q5 ?_|refine q6 ?_|refine w_seq ?_|refine w_region ?_|refine w_ops_nil ?_|refine w_skip ?_|refine w_block ?_|refine w_blk ?_|refine q7 ?_|refine q8 ?_|refine q9 ?_)
  refine w_condP rfl (fun h => ?_) (fun h => ?_)
  · repeat (first|refine q1 ?_|refine q2 ?_|refine q3 ?_|refine q4 ?_|refine q5 ?_|refine q6 ?_|refine w_seq ?_|refine w_region ?_|refine w_ops_nil ?_|refine w_skip ?_|refine w_block ?_|refine w_blk ?_|refine q7 ?_|refine q8 ?_|refine q9 ?_)
    refine w_neg rfl (by omega) rfl ?_
    repeat (first|refine q1 ?_|refine q2 ?_|refine q3 ?_|refine q4 ?_|refine q5 ?_|refine q6 ?_|refine w_seq ?_|refine w_region ?_|refine w_ops_nil ?_|refine w_skip ?_|refine w_block ?_|refine w_blk ?_|refine q7 ?_|refine q8 ?_|refine q9 ?_)
    refine w_rem rfl rfl (by omega) rfl ?_
    repeat (first|refine q1 ?_|refine q2 ?_|refine q3 ?_|refine q4 ?_|refine q5 ?_|refine q6 ?_|refine w_seq ?_|refine w_region ?_|refine w_ops_nil ?_|refine w_skip ?_|refine w_block ?_|refine w_blk ?_|refine q7 ?_|refine q8 ?_|refine q9 ?_)
    exact w_retG (res1 rfl rfl) (Step.refl _ _ _) fun h' _ => by rw [aroundZ, if_pos h]
  · repeat (first|refine q1 ?_|refine q2 ?_|refine q3 ?_|refine q4 ?_|refine q5 ?_|refine q6 ?_|refine w_seq ?_|refine w_region ?_|refine w_ops_nil ?_|refine w_skip ?_|refine w_block ?_|refine w_blk ?_|refine q7 ?_|refine q8 ?_|refine q9 ?_)
    refine w_rem rfl rfl (by omega) rfl ?_
    repeat (first|refine q1 ?_|refine q2 ?_|refine q3 ?_|refine q4 ?_|refine q5 ?_|refine q6 ?_|refine w_seq ?_|refine w_region ?_|refine w_ops_nil ?_|refine w_skip ?_|refine w_block ?_|refine w_blk ?_|refine q7 ?_|refine q8 ?_|refine q9 ?_)
    exact w_retG (res1 rfl rfl) (Step.refl _ _ _) fun h' _ => by rw [aroundZ, if_neg h]
theorem around_range (n : Int) (m : Int) (h : 1 ≤ m) : 0 ≤ aroundZ n m ∧ aroundZ n m < m := by
  unfold aroundZ
  split
  · exact ⟨Int.emod_nonneg _ (by omega), Int.emod_lt_of_pos _ (by omega)⟩
  · exact ⟨Int.emod_nonneg _ (by omega), Int.emod_lt_of_pos _ (by omega)⟩



theorem u8_bv {z : Int} (h : 0 ≤ z ∧ z ≤ 255) : Value.int .u8 z = bv (UInt8.ofNat z.toNat) := by
  unfold bv
  rw [UInt8.toNat_ofNat']
  congr 1
  omega
theorem wrap_u8r (z : Int) : 0 ≤ IntKind.u8.wrap z ∧ IntKind.u8.wrap z ≤ 255 := by
  unfold IntKind.wrap
  simp only [IntKind.signed, IntKind.bits, Bool.false_and, Bool.false_eq_true, if_false]
  omega
theorem bits_u8 (op : BinOp) (a b : Int) : 0 ≤ bitsOf op .u8 a b ∧ bitsOf op .u8 a b ≤ 255 := wrap_u8r _
set_option maxRecDepth 4000 in
theorem law09_Again (B0 : List UInt8) (vb0 : Value) (m : Ms) (vs : List Value) (at0 : Int) (x : UInt8) (g : G) (hb : Rd g 0 El.u8 vb0 B0) (hm : MsR g vs m) (hok : MsOk m) (hat : -9223372036854775808 ≤ at0 ∧ at0 ≤ 9223372036854775807) :
    Fn Try.prog 9 [vb0, .agg vs.toArray, .int .i64 at0, bv x] g [] fun u _ => u = .bool true := by
  refine enterG [] [11, 31, 41, 42, 43] Try.func9 rfl Try.ntmps9 rfl (by simp) fun g1 hv ho => ?_
  replace hm := hm.seen hv ho
  replace hb := hb.view hv (.inl rfl)
  have hlm := hb.isSl.le
  repeat (first|refine q1 ?_|refine q2 ?_|refine q3 ?_|refine q4 ?_|refine q5 ?_|refine q6 ?_|refine w_seq ?_|refine w_region ?_|refine w_ops_nil ?_|refine w_skip ?_|refine w_block ?_|refine w_blk ?_|refine q7 ?_|refine q8 ?_|refine q9 ?_)
  have hvl := hm.len
  refine w_box 41 (vs := vs) rfl rfl rfl fun h1 b1 hs1 hc1 => ?_
  have hst : Step [] [11, 31, 41, 42, 43] g1 h1 := hs1.nil
  replace hm := hm.go hs1; replace hb := hb.go hs1
  repeat (first|refine q1 ?_|refine q2 ?_|refine q3 ?_|refine q4 ?_|refine q5 ?_|refine q6 ?_|refine w_seq ?_|refine w_region ?_|refine w_ops_nil ?_|refine w_skip ?_|refine w_block ?_|refine w_blk ?_|refine q7 ?_|refine q8 ?_|refine q9 ?_)
  refine w_lenSl hb.isSl rfl rfl ?_
  repeat (first|refine q1 ?_|refine q2 ?_|refine q3 ?_|refine q4 ?_|refine q5 ?_|refine q6 ?_|refine w_seq ?_|refine w_region ?_|refine w_ops_nil ?_|refine w_skip ?_|refine w_blk ?_|refine q7 ?_|refine q8 ?_|refine q9 ?_)
  refine w_cut (ι := Value × List UInt8) (fun y => [(0, y.1), (2, .int .i64 at0), (3, bv x), (5, .pointer (some ⟨b1, 0, none⟩))])
    (fun y w => h1.w = w ∧ Rd h1 0 El.u8 y.1 y.2 ∧ y.2.length ≤ 300) ?_ ?_
  · refine w_condP rfl (fun hx => ?_) (fun hx => ?_)
    · repeat (first|refine q1 ?_|refine q2 ?_|refine q3 ?_|refine q4 ?_|refine q5 ?_|refine q6 ?_|refine w_seq ?_|refine w_region ?_|refine w_ops_nil ?_|refine w_skip ?_|refine w_block ?_|refine w_blk ?_|refine q7 ?_|refine q8 ?_|refine q9 ?_)
      refine w_cut_ (a := 0) (b := 300) hb rfl rfl ⟨_, rfl, rfl⟩ (by omega) (by omega) rfl fun hr1 => ?_
      repeat (first|refine q1 ?_|refine q2 ?_|refine q3 ?_|refine q4 ?_|refine q5 ?_|refine q6 ?_|refine w_seq ?_|refine w_region ?_|refine w_ops_nil ?_|refine w_skip ?_|refine w_block ?_|refine w_blk ?_|refine q7 ?_|refine q8 ?_|refine q9 ?_)
      exact w_meet (cutV vb0 El.u8.sz 0 300, (B0.take 300).drop 0) ⟨rfl, hr1, by simp; omega⟩ ⟨rfl, rfl, rfl, rfl, trivial⟩
    · repeat (first|refine q1 ?_|refine q2 ?_|refine q3 ?_|refine q4 ?_|refine q5 ?_|refine q6 ?_|refine w_seq ?_|refine w_region ?_|refine w_ops_nil ?_|refine w_skip ?_|refine w_block ?_|refine w_blk ?_|refine q7 ?_|refine q8 ?_|refine q9 ?_)
      exact w_meet (vb0, B0) ⟨rfl, hb, show B0.length ≤ 300 by omega⟩ ⟨rfl, rfl, rfl, rfl, trivial⟩
  clear hb
  rintro ⟨vb, B⟩ _ ⟨rfl, hb, hbl⟩
  dsimp only at hb hbl ⊢
  repeat (first|refine q1 ?_|refine q2 ?_|refine q3 ?_|refine q4 ?_|refine q5 ?_|refine q6 ?_|refine w_seq ?_|refine w_region ?_|refine w_ops_nil ?_|refine w_skip ?_|refine w_block ?_|refine w_blk ?_|refine q7 ?_|refine q8 ?_|refine q9 ?_)
  refine w_loadS (us := vs) hc1 rfl (by rw [List.drop_zero, List.take_of_length_le (by omega)]) hvl rfl rfl ?_
  refine w_callF rfl (ref09_Good m vs h1 hm hok) rfl fun u h2 hs2 hR => ?_
  obtain ⟨ws, rfl, hO⟩ := hR
  replace hst := hst.go hs2
  replace hb := hb.go hs2
  obtain ⟨h3, hw3, hs3, hG⟩ := hO.freeze
  rw [← hw3]
  replace hst := hst.go hs3
  replace hb := hb.go hs3
  have hgm := good_ms m
  have hgs := good_small m
  generalize goodMs m = gm at hG hgm hgs
  clear hm hc1 hs1 hs2 hs3 hO hw3
  obtain ⟨wq, wa, wu, wm, rfl, hq, ha, hu, hmo⟩ := hG
  let cs : List Value := [.int .i64 gm.id, .int .i64 gm.flags, wq, wa, wu, wm]
  have hG : MsR h3 cs gm := ⟨wq, wa, wu, wm, rfl, hq, ha, hu, hmo⟩
  clear hq ha hu hmo
  refine w_callF (vs := [.agg cs.toArray]) rfl (ref09_WriteO gm cs h3 hG hgm hgs) rfl fun vo h4 hs4 ho4 => ?_
  replace hst := hst.trans (hs4.mono (by simp) (by simp))
  replace hb := hb.go hs4
  have hl12 : 12 ≤ (msW gm).length := by simp only [msW, List.length_append, headB_len]; omega
  have hlS := hgs.1
  generalize msW gm = W at ho4 hl12 hlS
  clear hG hgm hgs
  repeat (first|refine q1 ?_|refine q2 ?_|refine q3 ?_|refine q4 ?_|refine q5 ?_|refine q6 ?_|refine w_seq ?_|refine w_region ?_|refine w_ops_nil ?_|refine w_skip ?_|refine w_block ?_|refine w_blk ?_|refine q7 ?_|refine q8 ?_|refine q9 ?_)
  refine w_lenSl ho4.isSl rfl rfl ?_
  refine w_callF (vs := [.int .i64 at0, .int .i64 (W.length : Int)]) rfl (ref01_Around at0 (W.length : Int) h4 hat (by omega)) rfl fun u h5 hs5 hu => ?_
  subst hu
  have hra := around_range at0 (W.length : Int) (by omega)
  generalize aroundZ at0 (W.length : Int) = k0 at hra
  obtain ⟨k, rfl⟩ := Int.eq_ofNat_of_zero_le hra.1
  have hk : k < W.length := by omega
  replace hst := hst.go hs5; replace hb := hb.go hs5; replace ho4 := ho4.go hs5
  repeat (first|refine q1 ?_|refine q2 ?_|refine q3 ?_|refine q4 ?_|refine q5 ?_|refine q6 ?_|refine w_seq ?_|refine w_region ?_|refine w_ops_nil ?_|refine w_skip ?_|refine w_block ?_|refine w_blk ?_|refine q7 ?_|refine q8 ?_|refine q9 ?_)
  refine w_idx ho4.rd rfl rfl (by omega) (by omega) rfl ?_
  refine w_loadE (i := k) (y := W[k]) ho4.rd rfl (List.getElem?_eq_getElem hk) rfl rfl ?_
  repeat (first|refine q1 ?_|refine q2 ?_|refine q3 ?_|refine q4 ?_|refine q5 ?_|refine q6 ?_|refine w_seq ?_|refine w_region ?_|refine w_ops_nil ?_|refine w_skip ?_|refine w_block ?_|refine w_blk ?_|refine q7 ?_|refine q8 ?_|refine q9 ?_)
  refine w_bits (.inr (.inr (.inl rfl))) rfl rfl rfl ?_
  refine w_known 38 (bv (UInt8.ofNat (bitsOf .xor .u8 (W[k].toNat : Int) (x.toNat : Int)).toNat)) rfl (u8_bv (bits_u8 .xor _ _)) ?_
  generalize UInt8.ofNat (bitsOf .xor .u8 (W[k].toNat : Int) (x.toNat : Int)).toNat = y
  refine w_idx ho4.rd rfl rfl (by omega) (by omega) rfl ?_
  refine w_storeE (i := k) (y := y) ho4 rfl rfl hk fun h6 hs6 ho6 => ?_
  replace hst := hst.trans (hs6.mono (by simp) (by simp))
  replace hb := hb.go hs6
  obtain ⟨h7, hw7, hs7, hro⟩ := ho6.freeze (by decide)
  rw [← hw7]
  replace hst := hst.trans (hs7.mono (by simp) (by simp))
  replace hb := hb.go hs7
  have hwl : (W.set k y).length ≤ 900000 := by rw [List.length_set]; exact hlS
  generalize W.set k y = O at hro hwl
  clear ho4 ho6 hs4 hs5 hs6 hs7 hw7
  repeat (first|refine q1 ?_|refine q2 ?_|refine q3 ?_|refine q4 ?_|refine q5 ?_|refine q6 ?_|refine w_seq ?_|refine w_region ?_|refine w_ops_nil ?_|refine w_skip ?_|refine w_block ?_|refine w_blk ?_|refine q7 ?_|refine q8 ?_|refine q9 ?_)
  refine w_buildSlR El.fv [⟨vb, hb.isSl.one⟩, ⟨vo, hro.isSl.one⟩] rfl rfl rfl rfl fun h8 vall hs8 hall => ?_
  replace hst := hst.go hs8; replace hb := hb.go hs8; replace hro := hro.go hs8
  have hboth : ∀ i, i < 2 → ∃ (v : FV) (C : List UInt8), ([⟨vb, hb.isSl.one⟩, ⟨vo, hro.isSl.one⟩] : List FV)[i]? = some v ∧ Rd h8 0 El.u8 v.1 C ∧ C.length ≤ 900000 := by
    intro i hi
    match i, hi with
    | 0, _ => exact ⟨_, B, rfl, hb, by omega⟩
    | 1, _ => exact ⟨_, O, rfl, hro, hwl⟩
  clear hs8
  repeat (first|refine q1 ?_|refine q2 ?_|refine q3 ?_|refine q4 ?_|refine q5 ?_|refine q6 ?_|refine w_seq ?_|refine w_region ?_|refine w_ops_nil ?_|refine w_skip ?_|refine w_block ?_|refine w_blk ?_|refine q7 ?_|refine q8 ?_|refine q9 ?_)
  refine w_loop (ι := Nat) (fun i => [(11, vall), (12, .int .i64 (i : Int))])
    (fun i w => ∃ h : G, h.w = w ∧ Step [] [42, 43] h8 h ∧ i ≤ 2) (fun i => 2 - i) 0 ⟨h8, rfl, Step.refl _ _ _, by omega⟩ ⟨rfl, rfl, trivial⟩ ?_
  rintro i _ ⟨h, rfl, hst2, hi⟩
  replace hst := hst.trans (hst2.mono (by simp) (by simp))
  replace hall := hall.go hst2
  repeat (first|refine q1 ?_|refine q2 ?_|refine q3 ?_|refine q4 ?_|refine q5 ?_|refine q6 ?_|refine w_seq ?_|refine w_region ?_|refine w_ops_nil ?_|refine w_skip ?_|refine w_block ?_|refine w_blk ?_|refine q7 ?_|refine q8 ?_|refine q9 ?_)
  refine w_condP rfl (fun hlt => ?_) (fun hlt => ?_)
  · have hlt : i < 2 := by omega
    obtain ⟨v, C, hvi, hC, hCl⟩ := hboth i hlt
    replace hC := hC.go hst2
    repeat (first|refine q1 ?_|refine q2 ?_|refine q3 ?_|refine q4 ?_|refine q5 ?_|refine q6 ?_|refine w_seq ?_|refine w_region ?_|refine w_ops_nil ?_|refine w_skip ?_|refine w_block ?_|refine w_blk ?_|refine q7 ?_|refine q8 ?_|refine q9 ?_)
    refine w_idx hall rfl rfl (by omega) (by simp only [List.length_cons, List.length_nil]; omega) rfl ?_
    refine w_loadE (i := i) (y := v) hall rfl hvi rfl rfl ?_
    refine w_callF (vs := [v.1]) rfl (wire_Read C v.1 h hC (by omega)) rfl fun u h9 hs9 hR => ?_
    obtain ⟨rs, rfl, hM⟩ := hR
    replace hst2 := hst2.go hs9
    have hmay := readP_may (B := C)
    obtain ⟨rp, hrp⟩ : ∃ rp, readP C = rp := ⟨_, rfl⟩
    rw [hrp] at hM hmay ⊢
    obtain ⟨rm, e⟩ := rp
    dsimp only at hM hmay ⊢
    obtain ⟨rq, ra, ru, rmo, rfl, r1, r2, r3, r4⟩ := hM.r
    let rs : List Value := [.int .i64 rm.id, .int .i64 rm.flags, rq, ra, ru, rmo]
    replace hM : MsR h9 rs rm := ⟨rq, ra, ru, rmo, rfl, r1, r2, r3, r4⟩
    clear r1 r2 r3 r4
    repeat (first|refine q1 ?_|refine q2 ?_|refine q3 ?_|refine q4 ?_|refine q5 ?_|refine q6 ?_|refine w_seq ?_|refine w_region ?_|refine w_ops_nil ?_|refine w_skip ?_|refine w_block ?_|refine w_blk ?_|refine q7 ?_|refine q8 ?_|refine q9 ?_)
    refine w_alloc 42 (vs := msZ) rfl rfl fun h10 b13 hs10 hc13 => ?_
    replace hst2 := hst2.go hs10; replace hM := hM.go hs10
    refine w_store (us := rs) (vs' := rs) hc13 rfl rfl rfl rfl hM.one (show 0 + 6 ≤ 6 by decide) rfl fun h11 hb11 hs11 hc13 => ?_
    replace hst2 := hst2.go hs11; replace hM := hM.go hs11
    repeat (first|refine q1 ?_|refine q2 ?_|refine q3 ?_|refine q4 ?_|refine q5 ?_|refine q6 ?_|refine w_seq ?_|refine w_region ?_|refine w_ops_nil ?_|refine w_skip ?_|refine w_block ?_|refine w_blk ?_|refine q7 ?_|refine q8 ?_|refine q9 ?_)
    refine w_condP rfl (fun hne => ?_) (fun hne => ?_)
    · repeat (first|refine q1 ?_|refine q2 ?_|refine q3 ?_|refine q4 ?_|refine q5 ?_|refine q6 ?_|refine w_seq ?_|refine w_region ?_|refine w_ops_nil ?_|refine w_skip ?_|refine w_block ?_|refine w_blk ?_|refine q7 ?_|refine q8 ?_|refine q9 ?_)
      exact w_again (i + 1) (by omega) ⟨h11, rfl, hst2, by omega⟩ ⟨rfl, rfl, trivial⟩
    have he : e = 0 := Decidable.not_not.1 hne
    obtain ⟨hm1, hm2⟩ := hmay he
    have hok1 := msMay_ok hm1
    repeat (first|refine q1 ?_|refine q2 ?_|refine q3 ?_|refine q4 ?_|refine q5 ?_|refine q6 ?_|refine w_seq ?_|refine w_region ?_|refine w_ops_nil ?_|refine w_skip ?_|refine w_block ?_|refine w_blk ?_|refine q7 ?_|refine q8 ?_|refine q9 ?_)
    refine w_loadS (us := rs) hc13 rfl rfl rfl rfl rfl ?_
    refine w_callF (vs := [.agg rs.toArray]) rfl (wire_Write rm rs h11 hM hok1 (fun _ => hm2)) rfl fun u h12 hs12 hR => ?_
    obtain ⟨vw, rfl, hw⟩ := hR
    rw [wrB, if_pos hm1] at hw ⊢
    replace hst2 := hst2.go hs12; replace hM := hM.go hs12; replace hc13 := hc13.go hs12
    obtain ⟨wr, hwr⟩ : ∃ wr, (if (msW rm).length ≤ 1232 then (msW rm, (0 : Int)) else ([], 3)) = wr := ⟨_, rfl⟩
    rw [hwr] at hw ⊢
    repeat (first|refine q1 ?_|refine q2 ?_|refine q3 ?_|refine q4 ?_|refine q5 ?_|refine q6 ?_|refine w_seq ?_|refine w_region ?_|refine w_ops_nil ?_|refine w_skip ?_|refine w_block ?_|refine w_blk ?_|refine q7 ?_|refine q8 ?_|refine q9 ?_)
    refine w_known 15 vw rfl rfl ?_
    refine w_known 16 (.int .i64 wr.2) rfl rfl ?_
    refine w_loadS (us := rs) hc13 rfl rfl rfl rfl rfl ?_
    refine w_callF (vs := [.agg rs.toArray]) rfl (wire_May rm rs h12 hM hok1) rfl fun u h13 hs13 hu => ?_
    rw [decide_eq_true hm1] at hu
    subst hu
    replace hst2 := hst2.go hs13; replace hM := hM.go hs13; replace hc13 := hc13.go hs13; replace hw := hw.go hs13
    by_cases hlen : (msW rm).length ≤ 1232
    · rw [if_pos hlen] at hwr
      subst hwr
      dsimp only at hw ⊢
      repeat (first|refine q1 ?_|refine q2 ?_|refine q3 ?_|refine q4 ?_|refine q5 ?_|refine q6 ?_|refine w_seq ?_|refine w_region ?_|refine w_ops_nil ?_|refine w_skip ?_|refine w_block ?_|refine w_blk ?_|refine q7 ?_|refine q8 ?_|refine q9 ?_)
      refine w_callF (vs := [vw]) rfl (wire_Read (msW rm) vw h13 hw (by omega)) rfl fun u h14 hs14 hR => ?_
      rw [readP_msW hm1 hlen] at hR
      obtain ⟨ts, rfl, hT⟩ := hR
      replace hst2 := hst2.go hs14; replace hM := hM.go hs14; replace hc13 := hc13.go hs14
      obtain ⟨tq, ta, tu, tm, rfl, t1, t2, t3, t4⟩ := hT.r
      let ts : List Value := [.int .i64 rm.id, .int .i64 rm.flags, tq, ta, tu, tm]
      replace hT : MsR h14 ts rm := ⟨tq, ta, tu, tm, rfl, t1, t2, t3, t4⟩
      clear t1 t2 t3 t4
      repeat (first|refine q1 ?_|refine q2 ?_|refine q3 ?_|refine q4 ?_|refine q5 ?_|refine q6 ?_|refine w_seq ?_|refine w_region ?_|refine w_ops_nil ?_|refine w_skip ?_|refine w_block ?_|refine w_blk ?_|refine q7 ?_|refine q8 ?_|refine q9 ?_)
      refine w_alloc 43 (vs := msZ) rfl rfl fun h15 b17 hs15 hc17 => ?_
      replace hst2 := hst2.go hs15; replace hM := hM.go hs15; replace hT := hT.go hs15; replace hc13 := hc13.go hs15
      refine w_store (us := ts) (vs' := ts) hc17 rfl rfl rfl rfl hT.one (show 0 + 6 ≤ 6 by decide) rfl fun h16 hb16 hs16 hc17 => ?_
      replace hst2 := hst2.go hs16; replace hM := hM.go hs16; replace hT := hT.go hs16; replace hc13 := hc13.go hs16
      repeat (first|refine q1 ?_|refine q2 ?_|refine q3 ?_|refine q4 ?_|refine q5 ?_|refine q6 ?_|refine w_seq ?_|refine w_region ?_|refine w_ops_nil ?_|refine w_skip ?_|refine w_block ?_|refine w_blk ?_|refine q7 ?_|refine q8 ?_|refine q9 ?_)
      refine w_known 82 (.bool false) rfl rfl ?_
      repeat (first|refine q1 ?_|refine q2 ?_|refine q3 ?_|refine q4 ?_|refine q5 ?_|refine q6 ?_|refine w_seq ?_|refine w_region ?_|refine w_ops_nil ?_|refine w_skip ?_|refine w_block ?_|refine w_blk ?_|refine q7 ?_|refine q8 ?_|refine q9 ?_)
      refine w_loadS (us := rs) hc13 rfl rfl rfl rfl rfl ?_
      repeat (first|refine q1 ?_|refine q2 ?_|refine q3 ?_|refine q4 ?_|refine q5 ?_|refine q6 ?_|refine w_seq ?_|refine w_region ?_|refine w_ops_nil ?_|refine w_skip ?_|refine w_block ?_|refine w_blk ?_|refine q7 ?_|refine q8 ?_|refine q9 ?_)
      refine w_loadS (us := ts) hc17 rfl rfl rfl rfl rfl ?_
      repeat (first|refine q1 ?_|refine q2 ?_|refine q3 ?_|refine q4 ?_|refine q5 ?_|refine q6 ?_|refine w_seq ?_|refine w_region ?_|refine w_ops_nil ?_|refine w_skip ?_|refine w_block ?_|refine w_blk ?_|refine q7 ?_|refine q8 ?_|refine q9 ?_)
      refine w_callF (vs := [.agg rs.toArray, .agg ts.toArray]) rfl (ref09_Same rm rm rs ts h16 hM hT) rfl fun u h17 hs17 hu => ?_
      rw [decide_eq_true rfl] at hu
      subst hu
      replace hst2 := hst2.go hs17
      repeat (first|refine q1 ?_|refine q2 ?_|refine q3 ?_|refine q4 ?_|refine q5 ?_|refine q6 ?_|refine w_seq ?_|refine w_region ?_|refine w_ops_nil ?_|refine w_skip ?_|refine w_block ?_|refine w_blk ?_|refine q7 ?_|refine q8 ?_|refine q9 ?_)
      exact w_again (i + 1) (by omega) ⟨h17, rfl, hst2, by omega⟩ ⟨rfl, rfl, trivial⟩
    · rw [if_neg hlen] at hwr
      subst hwr
      dsimp only at hw ⊢
      repeat (first|refine q1 ?_|refine q2 ?_|refine q3 ?_|refine q4 ?_|refine q5 ?_|refine q6 ?_|refine w_seq ?_|refine w_region ?_|refine w_ops_nil ?_|refine w_skip ?_|refine w_block ?_|refine w_blk ?_|refine q7 ?_|refine q8 ?_|refine q9 ?_)
      exact w_again (i + 1) (by omega) ⟨h13, rfl, hst2, by omega⟩ ⟨rfl, rfl, trivial⟩
  · repeat (first|refine q1 ?_|refine q2 ?_|refine q3 ?_|refine q4 ?_|refine q5 ?_|refine q6 ?_|refine w_seq ?_|refine w_region ?_|refine w_ops_nil ?_|refine w_skip ?_|refine w_block ?_|refine w_blk ?_|refine q7 ?_|refine q8 ?_|refine q9 ?_)
    refine w_callF rfl (law09_lives h) rfl fun u h15 hs15 hu => ?_
    subst hu
    repeat (first|refine q1 ?_|refine q2 ?_|refine q3 ?_|refine q4 ?_|refine q5 ?_|refine q6 ?_|refine w_seq ?_|refine w_region ?_|refine w_ops_nil ?_|refine w_skip ?_|refine w_block ?_|refine w_blk ?_|refine q7 ?_|refine q8 ?_|refine q9 ?_)
    exact w_retG (res1 rfl rfl) (hst.go hs15) fun h' _ => rfl
end Go.Proofs.Ytnfokdhgajanpaa
