/- Addresses, more: the program's Of4, May; '==' of addresses. No statement of the seat is proved here. -/
import Derived.Test.YtnfokdhgajanpaaAdr2
set_option linter.unusedVariables false
set_option linter.unusedSimpArgs false
namespace Go.Proofs.Ytnfokdhgajanpaa
open Go
attribute [local irreducible] Wp

def b4 (n : Nat) : List UInt8 := [UInt8.ofNat (n / 16777216), UInt8.ofNat (n / 65536), UInt8.ofNat (n / 256), UInt8.ofNat n]
theorem four_Bytes (n : Nat) (g : G) (hn : n < 4294967296) : Fn Try.prog 116 [.int .u32 (n : Int)] g [] fun u _ => u = .agg ((b4 n).map bv).toArray := by
  refine enterG [] [2, 3] Try.func116 rfl Try.ntmps116 rfl (by simp) fun g1 hv ho => ?_
  repeat (first|refine q1 ?_|refine q2 ?_|refine q3 ?_|refine q4 ?_|refine q5 ?_|refine q6 ?_|refine w_seq ?_|refine w_region ?_|refine w_ops_nil ?_|refine w_skip ?_|refine w_block ?_|refine w_blk ?_|refine q7 ?_|refine q8 ?_|refine q9 ?_)
  refine w_alloc 2 (vs := [bv 0, bv 0, bv 0, bv 0]) rfl rfl fun h1 b1 hs1 hc1 => ?_
  repeat (first|refine q1 ?_|refine q2 ?_|refine q3 ?_|refine q4 ?_|refine q5 ?_|refine q6 ?_|refine w_seq ?_|refine w_region ?_|refine w_ops_nil ?_|refine w_skip ?_|refine w_block ?_|refine w_blk ?_|refine q7 ?_|refine q8 ?_|refine q9 ?_)
  refine w_alloc 3 (vs := [bv 0, bv 0, bv 0, bv 0]) rfl rfl fun h2 b2 hs2 hc2 => ?_
  replace hc1 := hc1.go hs2
  have hst := (hs1.go hs2 |>.mono (by simp) (by simp) : Step [] [2, 3] g1 h2)
  repeat (first|refine q1 ?_|refine q2 ?_|refine q3 ?_|refine q4 ?_|refine q5 ?_|refine q6 ?_|refine w_seq ?_|refine w_region ?_|refine w_ops_nil ?_|refine w_skip ?_|refine w_block ?_|refine w_blk ?_|refine q7 ?_|refine q8 ?_|refine q9 ?_)
  refine w_rounds 5 ?_
  refine w_round ?_
  repeat (first|refine q1 ?_|refine q2 ?_|refine q3 ?_|refine q4 ?_|refine q5 ?_|refine q6 ?_|refine w_seq ?_|refine w_region ?_|refine w_ops_nil ?_|refine w_skip ?_|refine w_block ?_|refine w_blk ?_|refine q7 ?_|refine q8 ?_|refine q9 ?_)
  refine w_mul rfl rfl (by omega) rfl ?_
  refine w_shr rfl rfl (by decide) rfl ?_
  refine w_convB rfl (Int.ediv_nonneg (by omega) (by decide)) rfl ?_
  refine w_known 14 (bv (UInt8.ofNat (n / 16777216))) rfl (congrArg bv (congrArg UInt8.ofNat (show ((n : Int) / 16777216).toNat = _ by omega))) ?_
  refine w_idxA rfl rfl (by decide) (by decide) rfl ?_
  refine w_store1 hc2 rfl rfl rfl (show 0 < 4 by decide) fun h3 hb3 hs3 hc3 => ?_
  repeat (first|refine q1 ?_|refine q2 ?_|refine q3 ?_|refine q4 ?_|refine q5 ?_|refine q6 ?_|refine w_seq ?_|refine w_region ?_|refine w_ops_nil ?_|refine w_skip ?_|refine w_block ?_|refine w_blk ?_|refine q7 ?_|refine q8 ?_|refine q9 ?_)
  refine w_round ?_
  repeat (first|refine q1 ?_|refine q2 ?_|refine q3 ?_|refine q4 ?_|refine q5 ?_|refine q6 ?_|refine w_seq ?_|refine w_region ?_|refine w_ops_nil ?_|refine w_skip ?_|refine w_block ?_|refine w_blk ?_|refine q7 ?_|refine q8 ?_|refine q9 ?_)
  refine w_mul rfl rfl (by omega) rfl ?_
  refine w_shr rfl rfl (by decide) rfl ?_
  refine w_convB rfl (Int.ediv_nonneg (by omega) (by decide)) rfl ?_
  refine w_known 14 (bv (UInt8.ofNat (n / 65536))) rfl (congrArg bv (congrArg UInt8.ofNat (show ((n : Int) / 65536).toNat = _ by omega))) ?_
  refine w_idxA rfl rfl (by decide) (by decide) rfl ?_
  refine w_store1 hc3 rfl rfl rfl (show 1 < 4 by decide) fun h4 hb4 hs4 hc4 => ?_
  repeat (first|refine q1 ?_|refine q2 ?_|refine q3 ?_|refine q4 ?_|refine q5 ?_|refine q6 ?_|refine w_seq ?_|refine w_region ?_|refine w_ops_nil ?_|refine w_skip ?_|refine w_block ?_|refine w_blk ?_|refine q7 ?_|refine q8 ?_|refine q9 ?_)
  refine w_round ?_
  repeat (first|refine q1 ?_|refine q2 ?_|refine q3 ?_|refine q4 ?_|refine q5 ?_|refine q6 ?_|refine w_seq ?_|refine w_region ?_|refine w_ops_nil ?_|refine w_skip ?_|refine w_block ?_|refine w_blk ?_|refine q7 ?_|refine q8 ?_|refine q9 ?_)
  refine w_mul rfl rfl (by omega) rfl ?_
  refine w_shr rfl rfl (by decide) rfl ?_
  refine w_convB rfl (Int.ediv_nonneg (by omega) (by decide)) rfl ?_
  refine w_known 14 (bv (UInt8.ofNat (n / 256))) rfl (congrArg bv (congrArg UInt8.ofNat (show ((n : Int) / 256).toNat = _ by omega))) ?_
  refine w_idxA rfl rfl (by decide) (by decide) rfl ?_
  refine w_store1 hc4 rfl rfl rfl (show 2 < 4 by decide) fun h5 hb5 hs5 hc5 => ?_
  repeat (first|refine q1 ?_|refine q2 ?_|refine q3 ?_|refine q4 ?_|refine q5 ?_|refine q6 ?_|refine w_seq ?_|refine w_region ?_|refine w_ops_nil ?_|refine w_skip ?_|refine w_block ?_|refine w_blk ?_|refine q7 ?_|refine q8 ?_|refine q9 ?_)
  refine w_round ?_
  repeat (first|refine q1 ?_|refine q2 ?_|refine q3 ?_|refine q4 ?_|refine q5 ?_|refine q6 ?_|refine w_seq ?_|refine w_region ?_|refine w_ops_nil ?_|refine w_skip ?_|refine w_block ?_|refine w_blk ?_|refine q7 ?_|refine q8 ?_|refine q9 ?_)
  refine w_mul rfl rfl (by omega) rfl ?_
  refine w_shr rfl rfl (by decide) rfl ?_
  refine w_convB rfl (Int.ediv_nonneg (by omega) (by decide)) rfl ?_
  refine w_known 14 (bv (UInt8.ofNat n)) rfl (congrArg bv (congrArg UInt8.ofNat (show ((n : Int) / 1).toNat = _ by omega))) ?_
  refine w_idxA rfl rfl (by decide) (by decide) rfl ?_
  refine w_store1 hc5 rfl rfl rfl (show 3 < 4 by decide) fun h6 hb6 hs6 hc6 => ?_
  repeat (first|refine q1 ?_|refine q2 ?_|refine q3 ?_|refine q4 ?_|refine q5 ?_|refine q6 ?_|refine w_seq ?_|refine w_region ?_|refine w_ops_nil ?_|refine w_skip ?_|refine w_block ?_|refine w_blk ?_|refine q7 ?_|refine q8 ?_|refine q9 ?_)
  refine w_round ?_
  repeat (first|refine q1 ?_|refine q2 ?_|refine q3 ?_|refine q4 ?_|refine q5 ?_|refine q6 ?_|refine w_seq ?_|refine w_region ?_|refine w_ops_nil ?_|refine w_skip ?_|refine w_block ?_|refine w_blk ?_|refine q7 ?_|refine q8 ?_|refine q9 ?_)
  refine w_loadS (us := (b4 n).map bv) hc6 rfl rfl rfl rfl rfl ?_
  refine w_store (us := (b4 n).map bv) (vs' := (b4 n).map bv) ((((hc1.go hs3).go hs4).go hs5).go hs6) rfl rfl rfl rfl (by intro u hu; obtain ⟨x, _, rfl⟩ := List.mem_map.1 hu; rfl) (Nat.le_refl 4) rfl fun h7 hb7 hs7 hc7 => ?_
  repeat (first|refine q1 ?_|refine q2 ?_|refine q3 ?_|refine q4 ?_|refine q5 ?_|refine q6 ?_|refine w_seq ?_|refine w_region ?_|refine w_ops_nil ?_|refine w_skip ?_|refine w_block ?_|refine w_blk ?_|refine q7 ?_|refine q8 ?_|refine q9 ?_)
  exact w_retG (resCs hc7 rfl rfl rfl rfl) (((((hst.go hs3).go hs4).go hs5).go hs6).go hs7) fun h' _ => rfl

theorem addr_Of4 (n : Nat) (g : G) (hn : n < 4294967296) : Fn Try.prog 106 [.int .u32 (n : Int)] g [] fun u _ => u = El.ad.val (of4 n) := by
  refine enterG [] [2, 3, 4] Try.func106 rfl Try.ntmps106 rfl (by simp) fun g1 hv ho => ?_
  repeat (first|refine q1 ?_|refine q2 ?_|refine q3 ?_|refine q4 ?_|refine q5 ?_|refine q6 ?_|refine w_seq ?_|refine w_region ?_|refine w_ops_nil ?_|refine w_skip ?_|refine w_block ?_|refine w_blk ?_|refine q7 ?_|refine q8 ?_|refine q9 ?_)
  refine w_alloc 2 (vs := El.ad.enc ⟨0, fun _ => 0⟩) rfl rfl fun h1 b1 hs1 hc1 => ?_
  repeat (first|refine q1 ?_|refine q2 ?_|refine q3 ?_|refine q4 ?_|refine q5 ?_|refine q6 ?_|refine w_seq ?_|refine w_region ?_|refine w_ops_nil ?_|refine w_skip ?_|refine w_block ?_|refine w_blk ?_|refine q7 ?_|refine q8 ?_|refine q9 ?_)
  refine w_build (vs := [(0, .int .i64 4)]) (r := .int .i64 4 :: cells16 fun _ => 0) rfl rfl rfl ?_
  refine w_alloc 3 (vs := El.ad.enc ⟨0, fun _ => 0⟩) rfl rfl fun h2 b2 hs2 hc2 => ?_
  replace hc1 := hc1.go hs2
  have hst := (hs1.go hs2 |>.mono (by simp) (by simp) : Step [] [2, 3, 4] g1 h2)
  repeat (first|refine q1 ?_|refine q2 ?_|refine q3 ?_|refine q4 ?_|refine q5 ?_|refine q6 ?_|refine w_seq ?_|refine w_region ?_|refine w_ops_nil ?_|refine w_skip ?_|refine w_block ?_|refine w_blk ?_|refine q7 ?_|refine q8 ?_|refine q9 ?_)
  refine w_store (us := El.ad.enc ⟨4, fun _ => 0⟩) (vs' := El.ad.enc ⟨4, fun _ => 0⟩) hc2 rfl rfl rfl rfl (El.ad.flat _) (Nat.le_refl 17) rfl fun h3 hb3 hs3 hc3 => ?_
  replace hc1 := hc1.go hs3; replace hst := hst.go hs3
  repeat (first|refine q1 ?_|refine q2 ?_|refine q3 ?_|refine q4 ?_|refine q5 ?_|refine q6 ?_|refine w_seq ?_|refine w_region ?_|refine w_ops_nil ?_|refine w_skip ?_|refine w_block ?_|refine w_blk ?_|refine q7 ?_|refine q8 ?_|refine q9 ?_)
  refine w_callF rfl (four_Bytes n h3 hn) rfl fun u h4 hs4 hu => ?_
  subst hu
  replace hc1 := hc1.go hs4; replace hc3 := hc3.go hs4; replace hst := hst.go hs4
  repeat (first|refine q1 ?_|refine q2 ?_|refine q3 ?_|refine q4 ?_|refine q5 ?_|refine q6 ?_|refine w_seq ?_|refine w_region ?_|refine w_ops_nil ?_|refine w_skip ?_|refine w_block ?_|refine w_blk ?_|refine q7 ?_|refine q8 ?_|refine q9 ?_)
  refine w_alloc 4 (vs := [bv 0, bv 0, bv 0, bv 0]) rfl rfl fun h5 b5 hs5 hc5 => ?_
  replace hc1 := hc1.go hs5; replace hc3 := hc3.go hs5; replace hst := hst.go hs5
  repeat (first|refine q1 ?_|refine q2 ?_|refine q3 ?_|refine q4 ?_|refine q5 ?_|refine q6 ?_|refine w_seq ?_|refine w_region ?_|refine w_ops_nil ?_|refine w_skip ?_|refine w_block ?_|refine w_blk ?_|refine q7 ?_|refine q8 ?_|refine q9 ?_)
  refine w_store (us := (b4 n).map bv) (vs' := (b4 n).map bv) hc5 rfl rfl rfl rfl (by intro u hu; obtain ⟨x, _, rfl⟩ := List.mem_map.1 hu; rfl) (Nat.le_refl 4) rfl fun h6 hb6 hs6 hc6 => ?_
  replace hc1 := hc1.go hs6; replace hc3 := hc3.go hs6; replace hst := hst.go hs6
  repeat (first|refine q1 ?_|refine q2 ?_|refine q3 ?_|refine q4 ?_|refine q5 ?_|refine q6 ?_|refine w_seq ?_|refine w_region ?_|refine w_ops_nil ?_|refine w_skip ?_|refine w_block ?_|refine w_blk ?_|refine q7 ?_|refine q8 ?_|refine q9 ?_)
  refine d_begin (some 3) [] (by kernel_rfl) fun g2 hsd => ?_
  replace hc1 := hc1.go hsd; replace hc3 := hc3.go hsd; replace hst := hst.go hsd; replace hc6 := hc6.go hsd
  refine d_read 0 calm_ret rfl (by kernel_rfl) rfl  (fun h hs => r_fldA (by decide) rfl) ?_
  refine d_read 1 calm_ret rfl (by kernel_rfl) rfl  (fun h hs => r_slA (h := 16) rfl rfl (by decide)) ?_
  refine d_read 2 calm_ret rfl (by kernel_rfl) rfl  (fun h hs => r_slA (h := 4) rfl rfl (by decide)) ?_
  refine d_exec1 3 (by kernel_rfl) rfl ?_
  refine w_copyB (vs' := El.ad.enc (of4 n)) hc3 (hc6.rdB (l := b4 n) (h := 4) rfl rfl (by decide) (by decide)) rfl rfl (show 0 + 1 + 4 ≤ 17 by decide) rfl rfl fun h7 hb7 hs7 hc7 => ?_
  replace hc1 := hc1.go hs7; replace hst := hst.go hs7
  repeat (first|refine q1 ?_|refine q2 ?_|refine q3 ?_|refine q4 ?_|refine q5 ?_|refine q6 ?_|refine w_seq ?_|refine w_region ?_|refine w_ops_nil ?_|refine w_skip ?_|refine w_block ?_|refine w_blk ?_|refine q7 ?_|refine q8 ?_|refine q9 ?_)
  refine d_over (by kernel_rfl) ?_
  refine d_done (by kernel_rfl) ?_
  repeat (first|refine q1 ?_|refine q2 ?_|refine q3 ?_|refine q4 ?_|refine q5 ?_|refine q6 ?_|refine w_seq ?_|refine w_region ?_|refine w_ops_nil ?_|refine w_skip ?_|refine w_block ?_|refine w_blk ?_|refine q7 ?_|refine q8 ?_|refine q9 ?_)
  refine w_loadS (us := El.ad.enc (of4 n)) hc7 rfl rfl rfl rfl rfl ?_
  refine w_store (us := El.ad.enc (of4 n)) (vs' := El.ad.enc (of4 n)) hc1 rfl rfl rfl rfl (El.ad.flat _) (Nat.le_refl 17) rfl fun h8 hb8 hs8 hc8 => ?_
  repeat (first|refine q1 ?_|refine q2 ?_|refine q3 ?_|refine q4 ?_|refine q5 ?_|refine q6 ?_|refine w_seq ?_|refine w_region ?_|refine w_ops_nil ?_|refine w_skip ?_|refine w_block ?_|refine w_blk ?_|refine q7 ?_|refine q8 ?_|refine q9 ?_)
  exact w_retG (resCs hc8 rfl rfl rfl rfl) (hst.go hs8) fun h' _ => rfl

theorem ad_part (a : Ad) (w : World) : (part 48 (El.ad.enc a).toArray 1).run Try.prog w = .ok (.agg (cells16 a.b).toArray) w := by
  have h := part_agg (P := Try.prog) (w := w) (T := 48) (cs := (El.ad.enc a).toArray) (off := 1) rfl
  have e : (El.ad.enc a).toArray.extract 1 (1 + 16) = (cells16 a.b).toArray := by simp [El.ad, cells16]
  rw [e] at h
  exact h
instance eqvAd : EqV Try.prog 50 El.ad := ⟨fun n w a b hn => by
  obtain ⟨m, rfl⟩ : ∃ m, n = m + 2 := ⟨n - 2, by omega⟩
  have hB : (Op.equalIn (m + 1) 48 (.agg (cells16 a.b).toArray) (.agg (cells16 b.b).toArray)).run Try.prog w = .ok ((List.range 16).all fun i => if h : i < 16 then decide (a.b ⟨i, h⟩ = b.b ⟨i, h⟩) else true) w := by
    refine eq_array (e := 5) Try.underlying48 fun i hi => ⟨bv (a.b ⟨i, hi⟩), bv (b.b ⟨i, hi⟩), ?_, ?_, ?_⟩
    · exact part_cell rfl (by rw [Nat.mul_one]; simpa using cells16_get a.b i hi)
    · exact part_cell rfl (by rw [Nat.mul_one]; simpa using cells16_get b.b i hi)
    · rw [dif_pos hi]; exact eqIn_u8 (by omega) _ _
  have h := eq_struct (P := Try.prog) (n := m + 1) (w := w) (T := 50) (xs := (El.ad.enc a).toArray) (ys := (El.ad.enc b).toArray) (bs := [decide (a.fam = b.fam), (List.range 16).all fun i => if h : i < 16 then decide (a.b ⟨i, h⟩ = b.b ⟨i, h⟩) else true])
    Try.underlying50 (by kernel_rfl) (by decide) rfl (fun i f c hf hc => by
      match i with
      | 0 =>
        simp only [List.getElem?_cons_zero, Option.some.injEq] at hf hc
        subst hf; subst hc
        exact ⟨.int .i64 a.fam, .int .i64 b.fam, part_cell rfl rfl, part_cell rfl rfl, eqIn_int (by omega) _ _⟩
      | 1 =>
        simp only [List.getElem?_cons_succ, List.getElem?_cons_zero, Option.some.injEq] at hf hc
        subst hf; subst hc
        exact ⟨.agg (cells16 a.b).toArray, .agg (cells16 b.b).toArray, ad_part a w, ad_part b w, hB⟩
      | k + 2 => simp at hf)
  have e : El.ad.val a = .agg (El.ad.enc a).toArray := rfl
  have e2 : El.ad.val b = .agg (El.ad.enc b).toArray := rfl
  rw [e, e2, h]
  refine congrArg (fun x => Result.ok x w) ?_
  rw [Bool.eq_iff_iff]
  simp only [List.all_cons, List.all_nil, id, Bool.and_true, Bool.and_eq_true, decide_eq_true_eq, List.all_eq_true, List.mem_range]
  constructor
  · rintro ⟨h1, h2⟩
    refine Ad.ext' h1 fun i => ?_
    have := h2 i.val i.isLt
    rw [dif_pos i.isLt] at this
    simpa using this
  · intro h; subst h
    exact ⟨rfl, fun i hi => by rw [dif_pos hi]; simp⟩⟩

theorem addr_May (a : Ad) (g : G) : Fn Try.prog 86 [El.ad.val a] g [] fun u _ => u = .bool (mayA a) := by
  refine enterG [] [2] Try.func86 rfl Try.ntmps86 rfl (by simp) fun g1 hv ho => ?_
  repeat (first|refine q1 ?_|refine q2 ?_|refine q3 ?_|refine q4 ?_|refine q5 ?_|refine q6 ?_|refine w_seq ?_|refine w_region ?_|refine w_ops_nil ?_|refine w_skip ?_|refine w_block ?_|refine w_blk ?_|refine q7 ?_|refine q8 ?_|refine q9 ?_)
  refine w_box 2 (vs := El.ad.enc a) rfl rfl rfl fun h1 b1 hs1 hc1 => ?_
  repeat (first|refine q1 ?_|refine q2 ?_|refine q3 ?_|refine q4 ?_|refine q5 ?_|refine q6 ?_|refine w_seq ?_|refine w_region ?_|refine w_ops_nil ?_|refine w_skip ?_|refine w_block ?_|refine w_blk ?_|refine q7 ?_|refine q8 ?_|refine q9 ?_)
  refine w_fldA (by decide) rfl rfl ?_
  refine w_load1 (v := .int .i64 a.fam) hc1 rfl rfl rfl rfl ?_
  repeat (first|refine q1 ?_|refine q2 ?_|refine q3 ?_|refine q4 ?_|refine q5 ?_|refine q6 ?_|refine w_seq ?_|refine w_region ?_|refine w_ops_nil ?_|refine w_skip ?_|refine w_block ?_|refine w_blk ?_|refine q7 ?_|refine q8 ?_|refine q9 ?_)
  refine w_condP rfl (fun h0 => ?_) (fun h0 => ?_)
  · repeat (first|refine q1 ?_|refine q2 ?_|refine q3 ?_|refine q4 ?_|refine q5 ?_|refine q6 ?_|refine w_seq ?_|refine w_region ?_|refine w_ops_nil ?_|refine w_skip ?_|refine w_block ?_|refine w_blk ?_|refine q7 ?_|refine q8 ?_|refine q9 ?_)
    refine w_loadS (us := El.ad.enc a) hc1 rfl rfl rfl rfl rfl ?_
    refine w_build (vs := []) (r := El.ad.enc ⟨0, fun _ => 0⟩) rfl rfl rfl ?_
    refine w_eqS (E := El.ad) (a := a) (b := ⟨0, fun _ => 0⟩) rfl rfl rfl rfl ?_
    repeat (first|refine q1 ?_|refine q2 ?_|refine q3 ?_|refine q4 ?_|refine q5 ?_|refine q6 ?_|refine w_seq ?_|refine w_region ?_|refine w_ops_nil ?_|refine w_skip ?_|refine w_block ?_|refine w_blk ?_|refine q7 ?_|refine q8 ?_|refine q9 ?_)
    refine w_retG (res1 rfl rfl) hs1.nil fun h' _ => congrArg Value.bool ?_
    unfold mayA
    rw [decide_eq_decide]
    constructor
    · intro h; exact .inl ⟨h0, fun i => by rw [h]⟩
    · rintro (h | h | h)
      · exact Ad.ext' h.1 h.2
      · omega
      · omega
  · repeat (first|refine q1 ?_|refine q2 ?_|refine q3 ?_|refine q4 ?_|refine q5 ?_|refine q6 ?_|refine w_seq ?_|refine w_region ?_|refine w_ops_nil ?_|refine w_skip ?_|refine w_block ?_|refine w_blk ?_|refine q7 ?_|refine q8 ?_|refine q9 ?_)
    refine w_condP rfl (fun h4 => ?_) (fun h4 => ?_)
    · refine w_seq ?_
      refine d_begin none [] (by kernel_rfl) fun g2 hsd => ?_
      replace hc1 := hc1.go hsd
      refine d_read 0 calm_ret rfl (by kernel_rfl) rfl  (fun h hs => r_load (us := El.ad.enc a) (hc1.go hs) rfl rfl rfl (fun e => by cases e)) ?_
      refine d_read 1 calm_ret rfl (by kernel_rfl) rfl  (fun h hs => r_load (us := El.ad.enc a) (hc1.go hs) rfl rfl rfl (fun e => by cases e)) ?_
      refine d_exec1 2 (by kernel_rfl) rfl ?_
      refine w_callF rfl (addr_Four a g2) rfl fun u h3 hs3 hu => ?_
      subst hu
      repeat (first|refine q1 ?_|refine q2 ?_|refine q3 ?_|refine q4 ?_|refine q5 ?_|refine q6 ?_|refine w_seq ?_|refine w_region ?_|refine w_ops_nil ?_|refine w_skip ?_|refine w_block ?_|refine w_blk ?_|refine q7 ?_|refine q8 ?_|refine q9 ?_)
      refine d_next (fun _ => ⟨h3, rfl, hs3⟩) ?_
      refine d_exec1 3 (by kernel_rfl) rfl ?_
      refine w_callF rfl (addr_Of4 (four4 a) h3 (n4_lt _ _ _ _)) rfl fun u h4' hs4 hu => ?_
      subst hu
      rw [show of4 (four4 a) = _ from of4_n4 _ _ _ _]
      repeat (first|refine q1 ?_|refine q2 ?_|refine q3 ?_|refine q4 ?_|refine q5 ?_|refine q6 ?_|refine w_seq ?_|refine w_region ?_|refine w_ops_nil ?_|refine w_skip ?_|refine w_block ?_|refine w_blk ?_|refine q7 ?_|refine q8 ?_|refine q9 ?_)
      refine d_next (fun _ => ⟨h4', rfl, hs3.go hs4⟩) ?_
      refine d_read 4 calm_ret rfl (by kernel_rfl) rfl  (fun h hs => r_eqS (E := El.ad) (a := a) (b := ⟨4, put4 (a.b 0) (a.b 1) (a.b 2) (a.b 3)⟩) rfl rfl rfl) ?_
      refine d_pure 5 calm_ret rfl (by kernel_rfl) rfl rfl ?_
      refine d_done (by kernel_rfl) ?_
      repeat (first|refine q1 ?_|refine q2 ?_|refine q3 ?_|refine q4 ?_|refine q5 ?_|refine q6 ?_|refine w_seq ?_|refine w_region ?_|refine w_ops_nil ?_|refine w_skip ?_|refine w_block ?_|refine w_blk ?_|refine q7 ?_|refine q8 ?_|refine q9 ?_)
      refine w_retG (res1 rfl rfl) (((hs1.go hsd).go hs3).go hs4).nil fun h' _ => congrArg Value.bool ?_
      unfold mayA
      rw [decide_eq_decide]
      constructor
      · intro h
        refine .inr (.inl ⟨h4, fun i hi => ?_⟩)
        rw [h]
        obtain ⟨i, hi'⟩ := i
        simp only [put4]
        split <;> first | rfl | (simp only at hi; omega)
      · rintro (h | h | h)
        · omega
        · refine Ad.ext' h4 fun i => ?_
          obtain ⟨i, hi'⟩ := i
          match i, hi' with
          | 0, _ => rfl
          | 1, _ => rfl
          | 2, _ => rfl
          | 3, _ => rfl
          | k + 4, hk => rw [h.2 _ (by simp only; omega)]; rfl
        · omega
    · repeat (first|refine q1 ?_|refine q2 ?_|refine q3 ?_|refine q4 ?_|refine q5 ?_|refine q6 ?_|refine w_seq ?_|refine w_region ?_|refine w_ops_nil ?_|refine w_skip ?_|refine w_block ?_|refine w_blk ?_|refine q7 ?_|refine q8 ?_|refine q9 ?_)
      refine w_fldA (by decide) rfl rfl ?_
      refine w_load1 (v := .int .i64 a.fam) hc1 rfl rfl rfl rfl ?_
      repeat (first|refine q1 ?_|refine q2 ?_|refine q3 ?_|refine q4 ?_|refine q5 ?_|refine q6 ?_|refine w_seq ?_|refine w_region ?_|refine w_ops_nil ?_|refine w_skip ?_|refine w_block ?_|refine w_blk ?_|refine q7 ?_|refine q8 ?_|refine q9 ?_)
      refine w_retG (res1 rfl rfl) hs1.nil fun h' _ => congrArg Value.bool ?_
      unfold mayA
      rw [decide_eq_decide]
      constructor
      · intro h; exact .inr (.inr h)
      · rintro (h | h | h)
        · exact absurd h.1 h0
        · exact absurd h.1 h4
        · exact h
end Go.Proofs.Ytnfokdhgajanpaa
