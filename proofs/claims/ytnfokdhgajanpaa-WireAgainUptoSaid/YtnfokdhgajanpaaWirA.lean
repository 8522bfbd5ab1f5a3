/- Messages that may be, made of any: the reference's Good. No statement of the seat is proved here. -/
import Derived.Test.YtnfokdhgajanpaaWir9
set_option linter.unusedVariables false
set_option linter.unusedSimpArgs false
namespace Go.Proofs.Ytnfokdhgajanpaa
open Go
attribute [local irreducible] Wp

theorem and_mask (x : Int) (k : Nat) (hk : k ≤ 31) : bitsOf .and .i64 x (((2 ^ k : Nat) : Int) - 1) = x % ((2 ^ k : Nat) : Int) := by
  have h1 : (1 : Nat) ≤ 2 ^ k := Nat.one_le_two_pow
  have h3 : 2 ^ k ≤ 2 ^ 31 := Nat.pow_le_pow_right (by decide) hk
  unfold bitsOf
  dsimp only
  have e1 : (BitVec.ofInt IntKind.i64.bits x &&& BitVec.ofInt IntKind.i64.bits (((2 ^ k : Nat) : Int) - 1)).toNat = (x % ((2 ^ k : Nat) : Int)).toNat := by
    rw [BitVec.toNat_and, BitVec.toNat_ofInt, BitVec.toNat_ofInt]
    rw [show IntKind.i64.bits = 64 from rfl]
    rw [show ((((2 ^ k : Nat) : Int) - 1) % ((2 ^ 64 : Nat) : Int)).toNat = 2 ^ k - 1 by omega]
    rw [Nat.and_two_pow_sub_one_eq_mod]
    have hd : ((2 ^ k : Nat) : Int) ∣ ((2 ^ 64 : Nat) : Int) := Int.natCast_dvd_natCast.2 (Nat.pow_dvd_pow 2 (by omega))
    have hm : x % ((2 ^ 64 : Nat) : Int) % ((2 ^ k : Nat) : Int) = x % ((2 ^ k : Nat) : Int) := Int.emod_emod_of_dvd x hd
    have h0 : 0 ≤ x % ((2 ^ 64 : Nat) : Int) := Int.emod_nonneg _ (by decide)
    rw [← hm]
    generalize x % ((2 ^ 64 : Nat) : Int) = y at h0
    obtain ⟨n, rfl⟩ := Int.eq_ofNat_of_zero_le h0
    rw [Int.toNat_natCast, ← Int.natCast_emod, Int.toNat_natCast]
  rw [e1]
  have h0 : 0 ≤ x % ((2 ^ k : Nat) : Int) := Int.emod_nonneg _ (by omega)
  have h4 : x % ((2 ^ k : Nat) : Int) < ((2 ^ k : Nat) : Int) := Int.emod_lt_of_pos _ (by omega)
  rw [Int.toNat_of_nonneg h0]
  exact IntWalk.i64_in _ (by omega)
theorem mask16 (x : Int) : bitsOf .and .i64 x 65535 = x % 65536 := and_mask x 16 (by decide)
theorem mask31 (x : Int) : bitsOf .and .i64 x 2147483647 = x % 2147483648 := and_mask x 31 (by decide)
theorem mask2 (x : Int) : bitsOf .and .i64 x 3 = x % 4 := and_mask x 2 (by decide)

def goodRc (r : Rc) : Rc :=
  if r.typ % 4 = 0 then ⟨goodB r.name, 1, r.cls % 65536, r.ttl % 2147483648, of4 (four4 (goodA r.addr)), [], []⟩
  else if r.typ % 4 = 1 then ⟨goodB r.name, 28, r.cls % 65536, r.ttl % 2147483648, mapA (goodA r.addr), [], []⟩
  else if r.typ % 4 = 2 then ⟨goodB r.name, 5, r.cls % 65536, r.ttl % 2147483648, Ad.zero, goodB r.target, []⟩
  else ⟨goodB r.name, 41, r.cls % 65536, r.ttl % 2147483648, Ad.zero, [], r.data.take 20⟩
def goodQn (q : Qn) : Qn := ⟨goodB q.name, q.typ % 65536, q.cls % 65536⟩
def goodMs (m : Ms) : Ms := ⟨m.id % 65536, m.flags % 65536, (m.asked.take 3).map goodQn, (m.ans.take 3).map goodRc, (m.auth.take 3).map goodRc, (m.more.take 3).map goodRc⟩
theorem four4_lt (a : Ad) : four4 a < 4294967296 := by
  unfold four4 n4
  have h0 := (a.b 0).toNat_lt
  have h1 := (a.b 1).toNat_lt
  have h2 := (a.b 2).toNat_lt
  have h3 := (a.b 3).toNat_lt
  omega

theorem ref09_GoodRecord (r : Rc) (g : G) (hok : RcOk r) : Fn Try.prog 84 [El.rc.val r] g [] fun u _ => u = El.rc.val (goodRc r) := by
  refine enterG [] [41, 42, 43, 44] Try.func84 rfl Try.ntmps84 rfl (by simp) fun g1 hv ho => ?_
  obtain ⟨k1, k2⟩ := hok
  repeat (first|refine q1 ?_|refine q2 ?_|refine q3 ?_|refine q4 ?_|refine q5 ?_|refine q6 ?_|refine w_seq ?_|refine w_region ?_|refine w_ops_nil ?_|refine w_skip ?_|refine w_block ?_|refine w_blk ?_|refine q7 ?_|refine q8 ?_|refine q9 ?_)
  refine w_box 41 (vs := El.rc.enc r) rfl rfl rfl fun h1 b1 hs1 hc1 => ?_
  have hst : Step [] [41, 42, 43, 44] g1 h1 := hs1.nil
  repeat (first|refine q1 ?_|refine q2 ?_|refine q3 ?_|refine q4 ?_|refine q5 ?_|refine q6 ?_|refine w_seq ?_|refine w_region ?_|refine w_ops_nil ?_|refine w_skip ?_|refine w_block ?_|refine w_blk ?_|refine q7 ?_|refine q8 ?_|refine q9 ?_)
  refine w_alloc 42 (vs := El.rc.enc Rc.zero) rfl rfl fun h2 b2 hs2 hc2 => ?_
  replace hst := hst.go hs2; replace hc1 := hc1.go hs2
  clear hs1 hs2
  repeat (first|refine q1 ?_|refine q2 ?_|refine q3 ?_|refine q4 ?_|refine q5 ?_|refine q6 ?_|refine w_seq ?_|refine w_region ?_|refine w_ops_nil ?_|refine w_skip ?_|refine w_blk ?_|refine q7 ?_|refine q8 ?_|refine q9 ?_)
  refine w_cut (ι := Nat) (fun b3 => [(1, .pointer (some ⟨b1, 0, none⟩)), (2, .pointer (some ⟨b2, 0, none⟩)), (3, .pointer (some ⟨b3, 0, none⟩))])
    (fun b3 w => ∃ h, h.w = w ∧ Step [] [41, 42, 43, 44] g1 h ∧ Cell h 41 b1 52 (El.rc.enc r) ∧ Cell h 42 b2 52 (El.rc.enc Rc.zero) ∧
      Cell h 43 b3 52 (El.rc.enc ⟨goodB r.name, 0, r.cls % 65536, r.ttl % 2147483648, Ad.zero, [], []⟩)) ?_ ?_
  · refine d_begin none [43] (by kernel_rfl) fun g2 hsd => ?_
    replace hst := hst.go hsd; replace hc1 := hc1.go hsd; replace hc2 := hc2.go hsd
    refine d_read 0 calm_ret rfl (by kernel_rfl) rfl  (fun h hs => r_fldA (by decide) rfl) ?_
    refine d_read 1 calm_ret rfl (by kernel_rfl) rfl  (fun h hs => r_load1 (v := str r.name) (hc1.go hs) rfl rfl rfl) ?_
    refine d_read 3 calm_ret rfl (by kernel_rfl) rfl  (fun h hs => r_fldA (by decide) rfl) ?_
    refine d_read 4 calm_ret rfl (by kernel_rfl) rfl  (fun h hs => r_load1 (v := .int .i64 r.cls) (hc1.go hs) rfl rfl rfl) ?_
    refine d_read 5 calm_ret rfl (by kernel_rfl) rfl  (fun h hs => r_bits (.inl rfl) rfl rfl) ?_
    refine d_read 6 calm_ret rfl (by kernel_rfl) rfl  (fun h hs => r_fldA (by decide) rfl) ?_
    refine d_read 7 calm_ret rfl (by kernel_rfl) rfl  (fun h hs => r_load1 (v := .int .i64 r.ttl) (hc1.go hs) rfl rfl rfl) ?_
    refine d_read 8 calm_ret rfl (by kernel_rfl) rfl  (fun h hs => r_bits (.inl rfl) rfl rfl) ?_
    refine d_exec2 2 10 (by kernel_rfl) rfl rfl ?_ ?_
    · refine w_callF rfl (ref08_Good r.name g2 k1) rfl fun u h3 hs3 hU => ?_
      subst hU
      repeat (first|refine q1 ?_|refine q2 ?_|refine q3 ?_|refine q4 ?_|refine q5 ?_|refine q6 ?_|refine w_seq ?_|refine w_region ?_|refine w_ops_nil ?_|refine w_skip ?_|refine w_block ?_|refine w_blk ?_|refine q7 ?_|refine q8 ?_|refine q9 ?_)
      refine d_next (fun _ => ⟨h3, rfl, hs3.nil⟩) ?_
      refine d_read 9 calm_ret rfl (by kernel_rfl) rfl  (fun h hs => r_build (vs := [(0, str (goodB r.name)), (2, .int .i64 (bitsOf .and .i64 r.cls 65535)), (3, .int .i64 (bitsOf .and .i64 r.ttl 2147483647))]) (r := El.rc.enc ⟨goodB r.name, 0, bitsOf .and .i64 r.cls 65535, bitsOf .and .i64 r.ttl 2147483647, Ad.zero, [], []⟩) rfl rfl) ?_
      refine d_exec1 10 (by kernel_rfl) rfl ?_
      refine w_alloc 43 (vs := El.rc.enc Rc.zero) rfl rfl fun h4 b3 hs4 hc3 => ?_
      have hss : Step [] [43] g2 h4 := (hs3.nil.go hs4)
      repeat (first|refine q1 ?_|refine q2 ?_|refine q3 ?_|refine q4 ?_|refine q5 ?_|refine q6 ?_|refine w_seq ?_|refine w_region ?_|refine w_ops_nil ?_|refine w_skip ?_|refine w_block ?_|refine w_blk ?_|refine q7 ?_|refine q8 ?_|refine q9 ?_)
      refine d_next (fun _ => ⟨h4, rfl, hss⟩) ?_
      refine d_exec1 11 (by kernel_rfl) rfl ?_
      refine w_store (us := El.rc.enc ⟨goodB r.name, 0, bitsOf .and .i64 r.cls 65535, bitsOf .and .i64 r.ttl 2147483647, Ad.zero, [], []⟩) (vs' := El.rc.enc ⟨goodB r.name, 0, bitsOf .and .i64 r.cls 65535, bitsOf .and .i64 r.ttl 2147483647, Ad.zero, [], []⟩) hc3 rfl rfl rfl rfl (El.rc.flat _) (show 0 + 23 ≤ 23 by decide) rfl fun h5 hb5 hs5 hc5 => ?_
      rw [mask16, mask31] at hc5
      repeat (first|refine q1 ?_|refine q2 ?_|refine q3 ?_|refine q4 ?_|refine q5 ?_|refine q6 ?_|refine w_seq ?_|refine w_region ?_|refine w_ops_nil ?_|refine w_skip ?_|refine w_block ?_|refine w_blk ?_|refine q7 ?_|refine q8 ?_|refine q9 ?_)
      refine d_next (fun _ => ⟨h5, rfl, hss.go hs5⟩) ?_
      refine d_done (by kernel_rfl) ?_
      exact w_meet b3 ⟨h5, rfl, (hst.go hss).go hs5, (hc1.go hss).go hs5, (hc2.go hss).go hs5, hc5⟩ ⟨rfl, rfl, rfl, trivial⟩
    · refine w_alloc 43 (vs := El.rc.enc Rc.zero) rfl rfl fun h4 b3 hs4 hc3 => ?_
      repeat (first|refine q1 ?_|refine q2 ?_|refine q3 ?_|refine q4 ?_|refine q5 ?_|refine q6 ?_|refine w_seq ?_|refine w_region ?_|refine w_ops_nil ?_|refine w_skip ?_|refine w_block ?_|refine w_blk ?_|refine q7 ?_|refine q8 ?_|refine q9 ?_)
      refine d_next (fun _ => ⟨h4, rfl, hs4.nil⟩) ?_
      refine d_exec1 2 (by kernel_rfl) rfl ?_
      refine w_callF rfl (ref08_Good r.name h4 k1) rfl fun u h3 hs3 hU => ?_
      subst hU
      replace hc3 := hc3.go hs3
      have hss : Step [] [43] g2 h3 := (hs4.nil.go hs3)
      repeat (first|refine q1 ?_|refine q2 ?_|refine q3 ?_|refine q4 ?_|refine q5 ?_|refine q6 ?_|refine w_seq ?_|refine w_region ?_|refine w_ops_nil ?_|refine w_skip ?_|refine w_block ?_|refine w_blk ?_|refine q7 ?_|refine q8 ?_|refine q9 ?_)
      refine d_next (fun _ => ⟨h3, rfl, hss⟩) ?_
      refine d_read 9 calm_ret rfl (by kernel_rfl) rfl  (fun h hs => r_build (vs := [(0, str (goodB r.name)), (2, .int .i64 (bitsOf .and .i64 r.cls 65535)), (3, .int .i64 (bitsOf .and .i64 r.ttl 2147483647))]) (r := El.rc.enc ⟨goodB r.name, 0, bitsOf .and .i64 r.cls 65535, bitsOf .and .i64 r.ttl 2147483647, Ad.zero, [], []⟩) rfl rfl) ?_
      refine d_exec1 11 (by kernel_rfl) rfl ?_
      refine w_store (us := El.rc.enc ⟨goodB r.name, 0, bitsOf .and .i64 r.cls 65535, bitsOf .and .i64 r.ttl 2147483647, Ad.zero, [], []⟩) (vs' := El.rc.enc ⟨goodB r.name, 0, bitsOf .and .i64 r.cls 65535, bitsOf .and .i64 r.ttl 2147483647, Ad.zero, [], []⟩) hc3 rfl rfl rfl rfl (El.rc.flat _) (show 0 + 23 ≤ 23 by decide) rfl fun h5 hb5 hs5 hc5 => ?_
      rw [mask16, mask31] at hc5
      repeat (first|refine q1 ?_|refine q2 ?_|refine q3 ?_|refine q4 ?_|refine q5 ?_|refine q6 ?_|refine w_seq ?_|refine w_region ?_|refine w_ops_nil ?_|refine w_skip ?_|refine w_block ?_|refine w_blk ?_|refine q7 ?_|refine q8 ?_|refine q9 ?_)
      refine d_next (fun _ => ⟨h5, rfl, hss.go hs5⟩) ?_
      refine d_done (by kernel_rfl) ?_
      exact w_meet b3 ⟨h5, rfl, (hst.go hss).go hs5, (hc1.go hss).go hs5, (hc2.go hss).go hs5, hc5⟩ ⟨rfl, rfl, rfl, trivial⟩
  clear hst hc1 hc2
  rintro b3 _ ⟨h, rfl, hst, hc1, hc2, hc3⟩
  repeat (first|refine q1 ?_|refine q2 ?_|refine q3 ?_|refine q4 ?_|refine q5 ?_|refine q6 ?_|refine w_seq ?_|refine w_region ?_|refine w_ops_nil ?_|refine w_skip ?_|refine w_block ?_|refine w_blk ?_|refine q7 ?_|refine q8 ?_|refine q9 ?_)
  refine w_fldA (by decide) rfl rfl ?_
  refine w_loadS (us := El.ad.enc r.addr) hc1 rfl rfl rfl rfl rfl ?_
  refine w_callF rfl (ref04_Good r.addr h) rfl fun u h4 hs4 hU => ?_
  subst hU
  replace hst := hst.go hs4; replace hc1 := hc1.go hs4; replace hc2 := hc2.go hs4; replace hc3 := hc3.go hs4
  repeat (first|refine q1 ?_|refine q2 ?_|refine q3 ?_|refine q4 ?_|refine q5 ?_|refine q6 ?_|refine w_seq ?_|refine w_region ?_|refine w_ops_nil ?_|refine w_skip ?_|refine w_block ?_|refine w_blk ?_|refine q7 ?_|refine q8 ?_|refine q9 ?_)
  refine w_alloc 44 (vs := El.ad.enc Ad.zero) rfl rfl fun h5 b4 hs5 hc4 => ?_
  replace hst := hst.go hs5; replace hc1 := hc1.go hs5; replace hc2 := hc2.go hs5; replace hc3 := hc3.go hs5
  repeat (first|refine q1 ?_|refine q2 ?_|refine q3 ?_|refine q4 ?_|refine q5 ?_|refine q6 ?_|refine w_seq ?_|refine w_region ?_|refine w_ops_nil ?_|refine w_skip ?_|refine w_block ?_|refine w_blk ?_|refine q7 ?_|refine q8 ?_|refine q9 ?_)
  refine w_store (us := El.ad.enc (goodA r.addr)) (vs' := El.ad.enc (goodA r.addr)) hc4 rfl rfl rfl rfl (El.ad.flat _) (show 0 + 17 ≤ 17 by decide) rfl fun h6 hb6 hs6 hc4 => ?_
  replace hst := hst.go hs6; replace hc1 := hc1.go hs6; replace hc2 := hc2.go hs6; replace hc3 := hc3.go hs6
  repeat (first|refine q1 ?_|refine q2 ?_|refine q3 ?_|refine q4 ?_|refine q5 ?_|refine q6 ?_|refine w_seq ?_|refine w_region ?_|refine w_ops_nil ?_|refine w_skip ?_|refine w_block ?_|refine w_blk ?_|refine q7 ?_|refine q8 ?_|refine q9 ?_)
  refine w_fldA (by decide) rfl rfl ?_
  refine w_load1 (v := .int .i64 r.typ) hc1 rfl rfl rfl rfl ?_
  refine w_bits (.inl rfl) rfl rfl rfl ?_
  refine w_known 20 (.int .i64 (r.typ % 4)) rfl (congrArg (Value.int .i64) (mask2 _)) ?_
  clear hs4 hs5 hs6 hb6
  repeat (first|refine q1 ?_|refine q2 ?_|refine q3 ?_|refine q4 ?_|refine q5 ?_|refine q6 ?_|refine w_seq ?_|refine w_region ?_|refine w_ops_nil ?_|refine w_skip ?_|refine w_blk ?_|refine q7 ?_|refine q8 ?_|refine q9 ?_)
  refine w_cut (ι := Unit) (fun _ => [(2, .pointer (some ⟨b2, 0, none⟩)), (3, .pointer (some ⟨b3, 0, none⟩))])
    (fun _ w => ∃ h, h.w = w ∧ Step [] [41, 42, 43, 44] g1 h ∧ Cell h 42 b2 52 (El.rc.enc Rc.zero) ∧ Cell h 43 b3 52 (El.rc.enc (goodRc r))) ?_ ?_
  · repeat (first|refine q1 ?_|refine q2 ?_|refine q3 ?_|refine q4 ?_|refine q5 ?_|refine q6 ?_|refine w_seq ?_|refine w_region ?_|refine w_ops_nil ?_|refine w_skip ?_|refine w_block ?_|refine w_blk ?_|refine q7 ?_|refine q8 ?_|refine q9 ?_)
    refine w_condP rfl (fun t0 => ?_) (fun t0 => ?_)
    · repeat (first|refine q1 ?_|refine q2 ?_|refine q3 ?_|refine q4 ?_|refine q5 ?_|refine q6 ?_|refine w_seq ?_|refine w_region ?_|refine w_ops_nil ?_|refine w_skip ?_|refine w_block ?_|refine w_blk ?_|refine q7 ?_|refine q8 ?_|refine q9 ?_)
      refine w_fldA (by decide) rfl rfl ?_
      refine w_store1 hc3 rfl rfl rfl (show 1 < 23 by decide) fun h7 hb7 hs7 hc3 => ?_
      replace hst := hst.go hs7; replace hc2 := hc2.go hs7; replace hc4 := hc4.go hs7
      repeat (first|refine q1 ?_|refine q2 ?_|refine q3 ?_|refine q4 ?_|refine q5 ?_|refine q6 ?_|refine w_seq ?_|refine w_region ?_|refine w_ops_nil ?_|refine w_skip ?_|refine w_block ?_|refine w_blk ?_|refine q7 ?_|refine q8 ?_|refine q9 ?_)
      refine w_loadS (us := El.ad.enc (goodA r.addr)) hc4 rfl rfl rfl rfl rfl ?_
      refine w_callF rfl (ref04_Four (goodA r.addr) h7) rfl fun u h8 hs8 hU => ?_
      subst hU
      replace hst := hst.go hs8; replace hc2 := hc2.go hs8; replace hc3 := hc3.go hs8
      refine w_callF rfl (ref04_Of4 (four4 (goodA r.addr)) h8 (four4_lt _)) rfl fun u h9 hs9 hU => ?_
      subst hU
      replace hst := hst.go hs9; replace hc2 := hc2.go hs9; replace hc3 := hc3.go hs9
      repeat (first|refine q1 ?_|refine q2 ?_|refine q3 ?_|refine q4 ?_|refine q5 ?_|refine q6 ?_|refine w_seq ?_|refine w_region ?_|refine w_ops_nil ?_|refine w_skip ?_|refine w_block ?_|refine w_blk ?_|refine q7 ?_|refine q8 ?_|refine q9 ?_)
      refine w_fldA (by decide) rfl rfl ?_
      refine w_store (us := El.ad.enc (of4 (four4 (goodA r.addr)))) (vs' := El.rc.enc ⟨goodB r.name, 1, r.cls % 65536, r.ttl % 2147483648, of4 (four4 (goodA r.addr)), [], []⟩) hc3 rfl rfl rfl rfl (El.ad.flat _) (show 4 + 17 ≤ 23 by decide) rfl fun h10 hb10 hs10 hc3 => ?_
      repeat (first|refine q1 ?_|refine q2 ?_|refine q3 ?_|refine q4 ?_|refine q5 ?_|refine q6 ?_|refine w_seq ?_|refine w_region ?_|refine w_ops_nil ?_|refine w_skip ?_|refine w_block ?_|refine w_blk ?_|refine q7 ?_|refine q8 ?_|refine q9 ?_)
      exact w_meet () ⟨h10, rfl, hst.go hs10, hc2.go hs10, by rw [goodRc, if_pos t0]; exact hc3⟩ ⟨rfl, rfl, trivial⟩
    repeat (first|refine q1 ?_|refine q2 ?_|refine q3 ?_|refine q4 ?_|refine q5 ?_|refine q6 ?_|refine w_seq ?_|refine w_region ?_|refine w_ops_nil ?_|refine w_skip ?_|refine w_block ?_|refine w_blk ?_|refine q7 ?_|refine q8 ?_|refine q9 ?_)
    refine w_condP rfl (fun t1 => ?_) (fun t1 => ?_)
    · repeat (first|refine q1 ?_|refine q2 ?_|refine q3 ?_|refine q4 ?_|refine q5 ?_|refine q6 ?_|refine w_seq ?_|refine w_region ?_|refine w_ops_nil ?_|refine w_skip ?_|refine w_block ?_|refine w_blk ?_|refine q7 ?_|refine q8 ?_|refine q9 ?_)
      refine w_fldA (by decide) rfl rfl ?_
      refine w_store1 hc3 rfl rfl rfl (show 1 < 23 by decide) fun h7 hb7 hs7 hc3 => ?_
      replace hst := hst.go hs7; replace hc2 := hc2.go hs7; replace hc4 := hc4.go hs7
      repeat (first|refine q1 ?_|refine q2 ?_|refine q3 ?_|refine q4 ?_|refine q5 ?_|refine q6 ?_|refine w_seq ?_|refine w_region ?_|refine w_ops_nil ?_|refine w_skip ?_|refine w_block ?_|refine w_blk ?_|refine q7 ?_|refine q8 ?_|refine q9 ?_)
      refine w_loadS (us := El.ad.enc (goodA r.addr)) hc4 rfl rfl rfl rfl rfl ?_
      refine w_callF rfl (ref04_Map (goodA r.addr) h7) rfl fun u h8 hs8 hU => ?_
      subst hU
      replace hst := hst.go hs8; replace hc2 := hc2.go hs8; replace hc3 := hc3.go hs8
      repeat (first|refine q1 ?_|refine q2 ?_|refine q3 ?_|refine q4 ?_|refine q5 ?_|refine q6 ?_|refine w_seq ?_|refine w_region ?_|refine w_ops_nil ?_|refine w_skip ?_|refine w_block ?_|refine w_blk ?_|refine q7 ?_|refine q8 ?_|refine q9 ?_)
      refine w_fldA (by decide) rfl rfl ?_
      refine w_store (us := El.ad.enc (mapA (goodA r.addr))) (vs' := El.rc.enc ⟨goodB r.name, 28, r.cls % 65536, r.ttl % 2147483648, mapA (goodA r.addr), [], []⟩) hc3 rfl rfl rfl rfl (El.ad.flat _) (show 4 + 17 ≤ 23 by decide) rfl fun h10 hb10 hs10 hc3 => ?_
      repeat (first|refine q1 ?_|refine q2 ?_|refine q3 ?_|refine q4 ?_|refine q5 ?_|refine q6 ?_|refine w_seq ?_|refine w_region ?_|refine w_ops_nil ?_|refine w_skip ?_|refine w_block ?_|refine w_blk ?_|refine q7 ?_|refine q8 ?_|refine q9 ?_)
      exact w_meet () ⟨h10, rfl, hst.go hs10, hc2.go hs10, by rw [goodRc, if_neg t0, if_pos t1]; exact hc3⟩ ⟨rfl, rfl, trivial⟩
    repeat (first|refine q1 ?_|refine q2 ?_|refine q3 ?_|refine q4 ?_|refine q5 ?_|refine q6 ?_|refine w_seq ?_|refine w_region ?_|refine w_ops_nil ?_|refine w_skip ?_|refine w_block ?_|refine w_blk ?_|refine q7 ?_|refine q8 ?_|refine q9 ?_)
    refine w_condP rfl (fun t2 => ?_) (fun t2 => ?_)
    · repeat (first|refine q1 ?_|refine q2 ?_|refine q3 ?_|refine q4 ?_|refine q5 ?_|refine q6 ?_|refine w_seq ?_|refine w_region ?_|refine w_ops_nil ?_|refine w_skip ?_|refine w_block ?_|refine w_blk ?_|refine q7 ?_|refine q8 ?_|refine q9 ?_)
      refine w_fldA (by decide) rfl rfl ?_
      refine w_store1 hc3 rfl rfl rfl (show 1 < 23 by decide) fun h7 hb7 hs7 hc3 => ?_
      replace hst := hst.go hs7; replace hc1 := hc1.go hs7; replace hc2 := hc2.go hs7
      repeat (first|refine q1 ?_|refine q2 ?_|refine q3 ?_|refine q4 ?_|refine q5 ?_|refine q6 ?_|refine w_seq ?_|refine w_region ?_|refine w_ops_nil ?_|refine w_skip ?_|refine w_block ?_|refine w_blk ?_|refine q7 ?_|refine q8 ?_|refine q9 ?_)
      refine w_fldA (by decide) rfl rfl ?_
      refine w_load1 (v := str r.target) hc1 rfl rfl rfl rfl ?_
      refine w_callF rfl (ref08_Good r.target h7 k2) rfl fun u h8 hs8 hU => ?_
      subst hU
      replace hst := hst.go hs8; replace hc2 := hc2.go hs8; replace hc3 := hc3.go hs8
      repeat (first|refine q1 ?_|refine q2 ?_|refine q3 ?_|refine q4 ?_|refine q5 ?_|refine q6 ?_|refine w_seq ?_|refine w_region ?_|refine w_ops_nil ?_|refine w_skip ?_|refine w_block ?_|refine w_blk ?_|refine q7 ?_|refine q8 ?_|refine q9 ?_)
      refine w_fldA (by decide) rfl rfl ?_
      refine w_store1 hc3 rfl rfl rfl (show 21 < 23 by decide) fun h10 hb10 hs10 hc3 => ?_
      repeat (first|refine q1 ?_|refine q2 ?_|refine q3 ?_|refine q4 ?_|refine q5 ?_|refine q6 ?_|refine w_seq ?_|refine w_region ?_|refine w_ops_nil ?_|refine w_skip ?_|refine w_block ?_|refine w_blk ?_|refine q7 ?_|refine q8 ?_|refine q9 ?_)
      exact w_meet () ⟨h10, rfl, hst.go hs10, hc2.go hs10, by rw [goodRc, if_neg t0, if_neg t1, if_pos t2]; exact hc3⟩ ⟨rfl, rfl, trivial⟩
    · repeat (first|refine q1 ?_|refine q2 ?_|refine q3 ?_|refine q4 ?_|refine q5 ?_|refine q6 ?_|refine w_seq ?_|refine w_region ?_|refine w_ops_nil ?_|refine w_skip ?_|refine w_block ?_|refine w_blk ?_|refine q7 ?_|refine q8 ?_|refine q9 ?_)
      refine w_fldA (by decide) rfl rfl ?_
      refine w_store1 hc3 rfl rfl rfl (show 1 < 23 by decide) fun h7 hb7 hs7 hc3 => ?_
      replace hst := hst.go hs7; replace hc1 := hc1.go hs7; replace hc2 := hc2.go hs7
      repeat (first|refine q1 ?_|refine q2 ?_|refine q3 ?_|refine q4 ?_|refine q5 ?_|refine q6 ?_|refine w_seq ?_|refine w_region ?_|refine w_ops_nil ?_|refine w_skip ?_|refine w_block ?_|refine w_blk ?_|refine q7 ?_|refine q8 ?_|refine q9 ?_)
      refine w_fldA (by decide) rfl rfl ?_
      refine w_load1 (v := str r.data) hc1 rfl rfl rfl rfl ?_
      refine w_fldA (by decide) rfl rfl ?_
      refine w_store1 hc3 rfl rfl rfl (show 22 < 23 by decide) fun h8 hb8 hs8 hc3 => ?_
      replace hst := hst.go hs8; replace hc2 := hc2.go hs8
      repeat (first|refine q1 ?_|refine q2 ?_|refine q3 ?_|refine q4 ?_|refine q5 ?_|refine q6 ?_|refine w_seq ?_|refine w_region ?_|refine w_ops_nil ?_|refine w_skip ?_|refine w_block ?_|refine w_blk ?_|refine q7 ?_|refine q8 ?_|refine q9 ?_)
      refine w_fldA (by decide) rfl rfl ?_
      refine w_load1 (v := str r.data) hc3 rfl rfl rfl rfl ?_
      repeat (first|refine q1 ?_|refine q2 ?_|refine q3 ?_|refine q4 ?_|refine q5 ?_|refine q6 ?_|refine w_seq ?_|refine w_region ?_|refine w_ops_nil ?_|refine w_skip ?_|refine w_block ?_|refine w_blk ?_|refine q7 ?_|refine q8 ?_|refine q9 ?_)
      refine w_condP rfl (fun hlong => ?_) (fun hlong => ?_)
      · repeat (first|refine q1 ?_|refine q2 ?_|refine q3 ?_|refine q4 ?_|refine q5 ?_|refine q6 ?_|refine w_seq ?_|refine w_region ?_|refine w_ops_nil ?_|refine w_skip ?_|refine w_block ?_|refine w_blk ?_|refine q7 ?_|refine q8 ?_|refine q9 ?_)
        refine w_fldA (by decide) rfl rfl ?_
        refine w_load1 (v := str r.data) hc3 rfl rfl rfl rfl ?_
        refine w_sliceStr (l := r.data) (a := 0) (b := 20) rfl rfl ⟨_, _, rfl, rfl⟩ (by omega) (by omega) rfl ?_
        repeat (first|refine q1 ?_|refine q2 ?_|refine q3 ?_|refine q4 ?_|refine q5 ?_|refine q6 ?_|refine w_seq ?_|refine w_region ?_|refine w_ops_nil ?_|refine w_skip ?_|refine w_block ?_|refine w_blk ?_|refine q7 ?_|refine q8 ?_|refine q9 ?_)
        refine w_fldA (by decide) rfl rfl ?_
        refine w_store1 hc3 rfl rfl rfl (show 22 < 23 by decide) fun h9 hb9 hs9 hc3 => ?_
        repeat (first|refine q1 ?_|refine q2 ?_|refine q3 ?_|refine q4 ?_|refine q5 ?_|refine q6 ?_|refine w_seq ?_|refine w_region ?_|refine w_ops_nil ?_|refine w_skip ?_|refine w_block ?_|refine w_blk ?_|refine q7 ?_|refine q8 ?_|refine q9 ?_)
        exact w_meet () ⟨h9, rfl, hst.go hs9, hc2.go hs9, by rw [goodRc, if_neg t0, if_neg t1, if_neg t2]; exact hc3⟩ ⟨rfl, rfl, trivial⟩
      · repeat (first|refine q1 ?_|refine q2 ?_|refine q3 ?_|refine q4 ?_|refine q5 ?_|refine q6 ?_|refine w_seq ?_|refine w_region ?_|refine w_ops_nil ?_|refine w_skip ?_|refine w_block ?_|refine w_blk ?_|refine q7 ?_|refine q8 ?_|refine q9 ?_)
        refine w_meet () ⟨h8, rfl, hst, hc2, ?_⟩ ⟨rfl, rfl, trivial⟩
        rw [goodRc, if_neg t0, if_neg t1, if_neg t2, List.take_of_length_le (by omega)]
        exact hc3
  clear hst hc1 hc2 hc3 hc4
  rintro _ _ ⟨h, rfl, hst, hc2, hc3⟩
  repeat (first|refine q1 ?_|refine q2 ?_|refine q3 ?_|refine q4 ?_|refine q5 ?_|refine q6 ?_|refine w_seq ?_|refine w_region ?_|refine w_ops_nil ?_|refine w_skip ?_|refine w_block ?_|refine w_blk ?_|refine q7 ?_|refine q8 ?_|refine q9 ?_)
  refine w_loadS (us := El.rc.enc (goodRc r)) hc3 rfl rfl rfl rfl rfl ?_
  refine w_store (us := El.rc.enc (goodRc r)) (vs' := El.rc.enc (goodRc r)) hc2 rfl rfl rfl rfl (El.rc.flat _) (show 0 + 23 ≤ 23 by decide) rfl fun h5 hb5 hs5 hc2 => ?_
  repeat (first|refine q1 ?_|refine q2 ?_|refine q3 ?_|refine q4 ?_|refine q5 ?_|refine q6 ?_|refine w_seq ?_|refine w_region ?_|refine w_ops_nil ?_|refine w_skip ?_|refine w_block ?_|refine w_blk ?_|refine q7 ?_|refine q8 ?_|refine q9 ?_)
  exact w_retG (resCs hc2 rfl rfl rfl rfl) (hst.go hs5) fun h' _ => rfl

theorem ref09_GoodRecordsO (l : List Rc) (g : G) (hl : ∀ r ∈ l, RcOk r) {v : Value} (hr : Rdx g El.rc v l) : Fn Try.prog 47 [v] g [31] fun u h => Own h 31 El.rc 52 u ((l.take 3).map goodRc) := by
  refine enterG [31] [] Try.func47 rfl Try.ntmps47 rfl (by simp) fun g1 hv ho => ?_
  replace hr := hr.seen hv ho
  have hlm := hr.isSl.le
  repeat (first|refine q1 ?_|refine q2 ?_|refine q3 ?_|refine q4 ?_|refine q5 ?_|refine q6 ?_|refine w_seq ?_|refine w_region ?_|refine w_ops_nil ?_|refine w_skip ?_|refine w_block ?_|refine w_blk ?_|refine q7 ?_|refine q8 ?_|refine q9 ?_)
  refine w_loop (ι := Value × Nat) (fun x => [(0, v), (3, x.1), (4, .int .i64 (x.2 : Int))])
    (fun x w => ∃ h : G, h.w = w ∧ Step [] [31] g1 h ∧ Own h 31 El.rc 52 x.1 ((l.take x.2).map goodRc) ∧ x.2 ≤ l.length ∧ x.2 ≤ 3) (fun x => l.length - x.2)
    (.slice none 0 0, 0) ⟨g1, rfl, Step.refl _ _ _, Own.nil _ _ _ _, by dsimp only; omega, by dsimp only; omega⟩ ⟨rfl, rfl, rfl, trivial⟩ ?_
  rintro ⟨vO, i⟩ _ ⟨h, rfl, hst, hown, hi, h3⟩
  dsimp only at hst hown hi h3 ⊢
  obtain ⟨c, hc, hr1⟩ := hr.go hst
  repeat (first|refine q1 ?_|refine q2 ?_|refine q3 ?_|refine q4 ?_|refine q5 ?_|refine q6 ?_|refine w_seq ?_|refine w_region ?_|refine w_ops_nil ?_|refine w_skip ?_|refine w_block ?_|refine w_blk ?_|refine q7 ?_|refine q8 ?_|refine q9 ?_)
  refine w_lenSl hr1.isSl rfl rfl ?_
  repeat (first|refine q1 ?_|refine q2 ?_|refine q3 ?_|refine q4 ?_|refine q5 ?_|refine q6 ?_|refine w_seq ?_|refine w_region ?_|refine w_ops_nil ?_|refine w_skip ?_|refine w_block ?_|refine w_blk ?_|refine q7 ?_|refine q8 ?_|refine q9 ?_)
  refine w_splitP 9 rfl (fun hc => ?_) (fun hc => ?_)
  · repeat (first|refine q1 ?_|refine q2 ?_|refine q3 ?_|refine q4 ?_|refine q5 ?_|refine q6 ?_|refine w_seq ?_|refine w_region ?_|refine w_ops_nil ?_|refine w_skip ?_|refine w_block ?_|refine w_blk ?_|refine q7 ?_|refine q8 ?_|refine q9 ?_)
    refine w_condP rfl (fun h5 => ?_) (fun h5 => ?_)
    · have hlt : i < l.length := by omega
      repeat (first|refine q1 ?_|refine q2 ?_|refine q3 ?_|refine q4 ?_|refine q5 ?_|refine q6 ?_|refine w_seq ?_|refine w_region ?_|refine w_ops_nil ?_|refine w_skip ?_|refine w_block ?_|refine w_blk ?_|refine q7 ?_|refine q8 ?_|refine q9 ?_)
      refine w_idx hr1 rfl rfl (by omega) (by omega) rfl ?_
      refine w_loadE (i := i) (y := l[i]) hr1 rfl (by simp [hlt]) rfl rfl ?_
      refine w_callF rfl (ref09_GoodRecord l[i] h (hl _ (List.getElem_mem hlt))) rfl fun u h2 hs2 hu => ?_
      subst hu
      replace hown := hown.go hs2; replace hst := hst.go hs2
      repeat (first|refine q1 ?_|refine q2 ?_|refine q3 ?_|refine q4 ?_|refine q5 ?_|refine q6 ?_|refine w_seq ?_|refine w_region ?_|refine w_ops_nil ?_|refine w_skip ?_|refine w_block ?_|refine w_blk ?_|refine q7 ?_|refine q8 ?_|refine q9 ?_)
      refine w_buildSlR El.rc [goodRc l[i]] rfl rfl rfl rfl fun h3 v3 hs3 hr3 => ?_
      refine w_append (hown.go hs3) hr3 rfl rfl rfl (by decide) (by simp only [List.length_map, List.length_take, List.length_cons, List.length_nil]; omega) rfl fun h4 v4 hs4 ho4 => ?_
      repeat (first|refine q1 ?_|refine q2 ?_|refine q3 ?_|refine q4 ?_|refine q5 ?_|refine q6 ?_|refine w_seq ?_|refine w_region ?_|refine w_ops_nil ?_|refine w_skip ?_|refine w_block ?_|refine w_blk ?_|refine q7 ?_|refine q8 ?_|refine q9 ?_)
      refine w_again (v4, i + 1) (by dsimp only; omega) ⟨h4, rfl, (hst.go hs3).go hs4, ?_, by dsimp only; omega, by dsimp only; omega⟩ ⟨rfl, rfl, rfl, trivial⟩
      dsimp only
      rw [List.take_succ_eq_append_getElem hlt, List.map_append]
      exact ho4
    · have : i = 3 := by omega
      subst this
      repeat (first|refine q1 ?_|refine q2 ?_|refine q3 ?_|refine q4 ?_|refine q5 ?_|refine q6 ?_|refine w_seq ?_|refine w_region ?_|refine w_ops_nil ?_|refine w_skip ?_|refine w_block ?_|refine w_blk ?_|refine q7 ?_|refine q8 ?_|refine q9 ?_)
      exact w_retG (res1 rfl rfl) hst fun h' hv' => hown.view hv' (.inr (by simp))
  · have : i = l.length := by omega
    subst this
    rw [List.take_length] at hown
    rw [List.take_of_length_le h3]
    repeat (first|refine q1 ?_|refine q2 ?_|refine q3 ?_|refine q4 ?_|refine q5 ?_|refine q6 ?_|refine w_seq ?_|refine w_region ?_|refine w_ops_nil ?_|refine w_skip ?_|refine w_block ?_|refine w_blk ?_|refine q7 ?_|refine q8 ?_|refine q9 ?_)
    exact w_retG (res1 rfl rfl) hst fun h' hv' => hown.view hv' (.inr (by simp))
theorem ref09_GoodRecordsR (l : List Rc) (g : G) (hl : ∀ r ∈ l, RcOk r) {v : Value} (hr : Rdx g El.rc v l) : Fn Try.prog 47 [v] g [] fun u h => Rd h 0 El.rc u ((l.take 3).map goodRc) := by
  refine enterG [] [46] Try.func47 rfl Try.ntmps47 rfl (by simp) fun g1 hv ho => ?_
  replace hr := hr.seen hv ho
  have hlm := hr.isSl.le
  repeat (first|refine q1 ?_|refine q2 ?_|refine q3 ?_|refine q4 ?_|refine q5 ?_|refine q6 ?_|refine w_seq ?_|refine w_region ?_|refine w_ops_nil ?_|refine w_skip ?_|refine w_block ?_|refine w_blk ?_|refine q7 ?_|refine q8 ?_|refine q9 ?_)
  refine w_loop (ι := Value × Nat) (fun x => [(0, v), (3, x.1), (4, .int .i64 (x.2 : Int))])
    (fun x w => ∃ h : G, h.w = w ∧ Step [] [46] g1 h ∧ Own h 46 El.rc 52 x.1 ((l.take x.2).map goodRc) ∧ x.2 ≤ l.length ∧ x.2 ≤ 3) (fun x => l.length - x.2)
    (.slice none 0 0, 0) ⟨g1, rfl, Step.refl _ _ _, Own.nil _ _ _ _, by dsimp only; omega, by dsimp only; omega⟩ ⟨rfl, rfl, rfl, trivial⟩ ?_
  rintro ⟨vO, i⟩ _ ⟨h, rfl, hst, hown, hi, h3⟩
  dsimp only at hst hown hi h3 ⊢
  obtain ⟨c, hc, hr1⟩ := hr.go hst
  repeat (first|refine q1 ?_|refine q2 ?_|refine q3 ?_|refine q4 ?_|refine q5 ?_|refine q6 ?_|refine w_seq ?_|refine w_region ?_|refine w_ops_nil ?_|refine w_skip ?_|refine w_block ?_|refine w_blk ?_|refine q7 ?_|refine q8 ?_|refine q9 ?_)
  refine w_lenSl hr1.isSl rfl rfl ?_
  repeat (first|refine q1 ?_|refine q2 ?_|refine q3 ?_|refine q4 ?_|refine q5 ?_|refine q6 ?_|refine w_seq ?_|refine w_region ?_|refine w_ops_nil ?_|refine w_skip ?_|refine w_block ?_|refine w_blk ?_|refine q7 ?_|refine q8 ?_|refine q9 ?_)
  refine w_splitP 9 rfl (fun hc => ?_) (fun hc => ?_)
  · repeat (first|refine q1 ?_|refine q2 ?_|refine q3 ?_|refine q4 ?_|refine q5 ?_|refine q6 ?_|refine w_seq ?_|refine w_region ?_|refine w_ops_nil ?_|refine w_skip ?_|refine w_block ?_|refine w_blk ?_|refine q7 ?_|refine q8 ?_|refine q9 ?_)
    refine w_condP rfl (fun h5 => ?_) (fun h5 => ?_)
    · have hlt : i < l.length := by omega
      repeat (first|refine q1 ?_|refine q2 ?_|refine q3 ?_|refine q4 ?_|refine q5 ?_|refine q6 ?_|refine w_seq ?_|refine w_region ?_|refine w_ops_nil ?_|refine w_skip ?_|refine w_block ?_|refine w_blk ?_|refine q7 ?_|refine q8 ?_|refine q9 ?_)
      refine w_idx hr1 rfl rfl (by omega) (by omega) rfl ?_
      refine w_loadE (i := i) (y := l[i]) hr1 rfl (by simp [hlt]) rfl rfl ?_
      refine w_callF rfl (ref09_GoodRecord l[i] h (hl _ (List.getElem_mem hlt))) rfl fun u h2 hs2 hu => ?_
      subst hu
      replace hown := hown.go hs2; replace hst := hst.go hs2
      repeat (first|refine q1 ?_|refine q2 ?_|refine q3 ?_|refine q4 ?_|refine q5 ?_|refine q6 ?_|refine w_seq ?_|refine w_region ?_|refine w_ops_nil ?_|refine w_skip ?_|refine w_block ?_|refine w_blk ?_|refine q7 ?_|refine q8 ?_|refine q9 ?_)
      refine w_buildSlR El.rc [goodRc l[i]] rfl rfl rfl rfl fun h3 v3 hs3 hr3 => ?_
      refine w_append (hown.go hs3) hr3 rfl rfl rfl (by decide) (by simp only [List.length_map, List.length_take, List.length_cons, List.length_nil]; omega) rfl fun h4 v4 hs4 ho4 => ?_
      repeat (first|refine q1 ?_|refine q2 ?_|refine q3 ?_|refine q4 ?_|refine q5 ?_|refine q6 ?_|refine w_seq ?_|refine w_region ?_|refine w_ops_nil ?_|refine w_skip ?_|refine w_block ?_|refine w_blk ?_|refine q7 ?_|refine q8 ?_|refine q9 ?_)
      refine w_again (v4, i + 1) (by dsimp only; omega) ⟨h4, rfl, (hst.go hs3).go hs4, ?_, by dsimp only; omega, by dsimp only; omega⟩ ⟨rfl, rfl, rfl, trivial⟩
      dsimp only
      rw [List.take_succ_eq_append_getElem hlt, List.map_append]
      exact ho4
    · have : i = 3 := by omega
      subst this
      repeat (first|refine q1 ?_|refine q2 ?_|refine q3 ?_|refine q4 ?_|refine q5 ?_|refine q6 ?_|refine w_seq ?_|refine w_region ?_|refine w_ops_nil ?_|refine w_skip ?_|refine w_block ?_|refine w_blk ?_|refine q7 ?_|refine q8 ?_|refine q9 ?_)
      obtain ⟨h7, hw7, hs7, hr7⟩ := hown.freeze (by decide)
      rw [← hw7]
      exact w_retG (res1 rfl rfl) (hst.go hs7) fun h' hv' => hr7.view hv' (.inl rfl)
  · have : i = l.length := by omega
    subst this
    rw [List.take_length] at hown
    rw [List.take_of_length_le h3]
    repeat (first|refine q1 ?_|refine q2 ?_|refine q3 ?_|refine q4 ?_|refine q5 ?_|refine q6 ?_|refine w_seq ?_|refine w_region ?_|refine w_ops_nil ?_|refine w_skip ?_|refine w_block ?_|refine w_blk ?_|refine q7 ?_|refine q8 ?_|refine q9 ?_)
    obtain ⟨h7, hw7, hs7, hr7⟩ := hown.freeze (by decide)
    rw [← hw7]
    exact w_retG (res1 rfl rfl) (hst.go hs7) fun h' hv' => hr7.view hv' (.inl rfl)

/-- A message in memory whose answers may be appended to. -/
def MsO (g : G) (vs : List Value) (m : Ms) : Prop :=
  ∃ vq va vu vm, vs = [.int .i64 m.id, .int .i64 m.flags, vq, va, vu, vm] ∧ Rd g 0 El.qn vq m.asked ∧ Own g 31 El.rc 52 va m.ans ∧ Rd g 0 El.rc vu m.auth ∧ Rd g 0 El.rc vm m.more
theorem MsO.freeze {g : G} {vs : List Value} {m : Ms} (hm : MsO g vs m) : ∃ h : G, h.w = g.w ∧ Step [] [31] g h ∧ MsR h vs m := by
  obtain ⟨vq, va, vu, vm, e, h1, h2, h3, h4⟩ := hm
  obtain ⟨h, hw, hs, hr⟩ := h2.freeze (by decide)
  exact ⟨h, hw, hs, vq, va, vu, vm, e, (h1.go hs).x, hr.x, (h3.go hs).x, (h4.go hs).x⟩

theorem ref09_Good (m : Ms) (vs : List Value) (g : G) (hm : MsR g vs m) (hok : MsOk m) : Fn Try.prog 22 [.agg vs.toArray] g [31] fun u h => ∃ vs, u = .agg vs.toArray ∧ MsO h vs (goodMs m) := by
  refine enterG [31] [41, 42, 43, 44, 45] Try.func22 rfl Try.ntmps22 rfl (by simp) fun g1 hv ho => ?_
  replace hm := hm.seen hv ho
  obtain ⟨vq, va, vu, vm, rfl, hq, ha, hu, hmo⟩ := hm
  obtain ⟨ok1, ok2, ok3, ok4⟩ := hok
  let cs : List Value := [.int .i64 m.id, .int .i64 m.flags, vq, va, vu, vm]
  repeat (first|refine q1 ?_|refine q2 ?_|refine q3 ?_|refine q4 ?_|refine q5 ?_|refine q6 ?_|refine w_seq ?_|refine w_region ?_|refine w_ops_nil ?_|refine w_skip ?_|refine w_block ?_|refine w_blk ?_|refine q7 ?_|refine q8 ?_|refine q9 ?_)
  refine w_box 41 (vs := cs) rfl rfl rfl fun h1 b1 hs1 hc1 => ?_
  have hst : Step [] [31, 41, 42, 43, 44, 45] g1 h1 := hs1.nil
  replace hq := hq.go hs1; replace ha := ha.go hs1; replace hu := hu.go hs1; replace hmo := hmo.go hs1
  repeat (first|refine q1 ?_|refine q2 ?_|refine q3 ?_|refine q4 ?_|refine q5 ?_|refine q6 ?_|refine w_seq ?_|refine w_region ?_|refine w_ops_nil ?_|refine w_skip ?_|refine w_block ?_|refine w_blk ?_|refine q7 ?_|refine q8 ?_|refine q9 ?_)
  refine w_alloc 42 (vs := msZ) rfl rfl fun h2 b2 hs2 hc2 => ?_
  replace hst := hst.go hs2; replace hq := hq.go hs2; replace ha := ha.go hs2; replace hu := hu.go hs2; replace hmo := hmo.go hs2; replace hc1 := hc1.go hs2
  clear hs1 hs2
  repeat (first|refine q1 ?_|refine q2 ?_|refine q3 ?_|refine q4 ?_|refine q5 ?_|refine q6 ?_|refine w_seq ?_|refine w_region ?_|refine w_ops_nil ?_|refine w_skip ?_|refine w_blk ?_|refine q7 ?_|refine q8 ?_|refine q9 ?_)
  refine w_cut (ι := Nat) (fun b3 => [(1, .pointer (some ⟨b1, 0, none⟩)), (2, .pointer (some ⟨b2, 0, none⟩)), (3, .pointer (some ⟨b3, 0, none⟩))])
    (fun b3 w => ∃ h ua uu um, h.w = w ∧ Step [] [31, 41, 42, 43, 44, 45] h2 h ∧ Step [] [31, 41, 42, 43, 44, 45] g1 h ∧ Cell h 41 b1 46 cs ∧ Cell h 42 b2 46 msZ ∧
      Cell h 43 b3 46 [.int .i64 (m.id % 65536), .int .i64 (m.flags % 65536), .slice none 0 0, ua, uu, um] ∧ Own h 31 El.rc 52 ua ((m.ans.take 3).map goodRc) ∧ Rd h 0 El.rc uu ((m.auth.take 3).map goodRc) ∧ Rd h 0 El.rc um ((m.more.take 3).map goodRc)) ?_ ?_
  · refine d_begin none [31, 43] (by kernel_rfl) fun g2 hsd => ?_
    have hsd0 : Step [] [31, 41, 42, 43, 44, 45] h2 g2 := hsd.nil
    replace hst := hst.go hsd; replace hc1 := hc1.go hsd; replace hc2 := hc2.go hsd; replace ha := ha.go hsd; replace hu := hu.go hsd; replace hmo := hmo.go hsd
    refine d_read 0 calm_ret rfl (by kernel_rfl) rfl  (fun h hs => r_fldA (by decide) rfl) ?_
    refine d_read 1 calm_ret rfl (by kernel_rfl) rfl  (fun h hs => r_load1 (v := .int .i64 m.id) (hc1.go hs) rfl rfl rfl) ?_
    refine d_read 2 calm_ret rfl (by kernel_rfl) rfl  (fun h hs => r_bits (.inl rfl) rfl rfl) ?_
    refine d_read 3 calm_ret rfl (by kernel_rfl) rfl  (fun h hs => r_fldA (by decide) rfl) ?_
    refine d_read 4 calm_ret rfl (by kernel_rfl) rfl  (fun h hs => r_load1 (v := .int .i64 m.flags) (hc1.go hs) rfl rfl rfl) ?_
    refine d_read 5 calm_ret rfl (by kernel_rfl) rfl  (fun h hs => r_bits (.inl rfl) rfl rfl) ?_
    refine d_read 6 calm_ret rfl (by kernel_rfl) rfl  (fun h hs => r_fldA (by decide) rfl) ?_
    refine d_read 7 calm_ret rfl (by kernel_rfl) rfl  (fun h hs => r_load1 (v := va) (hc1.go hs) rfl rfl rfl) ?_
    refine d_read 9 calm_ret rfl (by kernel_rfl) rfl  (fun h hs => r_fldA (by decide) rfl) ?_
    refine d_read 10 calm_ret rfl (by kernel_rfl) rfl  (fun h hs => r_load1 (v := vu) (hc1.go hs) rfl rfl rfl) ?_
    refine d_read 12 calm_ret rfl (by kernel_rfl) rfl  (fun h hs => r_fldA (by decide) rfl) ?_
    refine d_read 13 calm_ret rfl (by kernel_rfl) rfl  (fun h hs => r_load1 (v := vm) (hc1.go hs) rfl rfl rfl) ?_
    have hss : Step [] [31, 43] g2 g2 := Step.refl _ _ _
    refine d_exec2 8 16 (by kernel_rfl) rfl rfl ?_ ?_
    · refine w_callF rfl (ref09_GoodRecordsO m.ans g2 ok2 (ha.go hss)) rfl fun ua k1 ks ho1 => ?_
      replace hss := hss.go ks
      clear ks
      repeat (first|refine q1 ?_|refine q2 ?_|refine q3 ?_|refine q4 ?_|refine q5 ?_|refine q6 ?_|refine w_seq ?_|refine w_region ?_|refine w_ops_nil ?_|refine w_skip ?_|refine w_block ?_|refine w_blk ?_|refine q7 ?_|refine q8 ?_|refine q9 ?_)
      refine d_next (fun _ => ⟨k1, rfl, hss⟩) ?_
      refine d_exec2 11 16 (by kernel_rfl) rfl rfl ?_ ?_
      · refine w_callF rfl (ref09_GoodRecordsR m.auth k1 ok3 (hu.go hss)) rfl fun uu k2 ks hr2 => ?_
        replace ho1 := ho1.go ks
        replace hss := hss.go ks
        clear ks
        repeat (first|refine q1 ?_|refine q2 ?_|refine q3 ?_|refine q4 ?_|refine q5 ?_|refine q6 ?_|refine w_seq ?_|refine w_region ?_|refine w_ops_nil ?_|refine w_skip ?_|refine w_block ?_|refine w_blk ?_|refine q7 ?_|refine q8 ?_|refine q9 ?_)
        refine d_next (fun _ => ⟨k2, rfl, hss⟩) ?_
        refine d_exec2 14 16 (by kernel_rfl) rfl rfl ?_ ?_
        · refine w_callF rfl (ref09_GoodRecordsR m.more k2 ok4 (hmo.go hss)) rfl fun um k3 ks hr3 => ?_
          replace ho1 := ho1.go ks; replace hr2 := hr2.go ks
          replace hss := hss.go ks
          clear ks
          repeat (first|refine q1 ?_|refine q2 ?_|refine q3 ?_|refine q4 ?_|refine q5 ?_|refine q6 ?_|refine w_seq ?_|refine w_region ?_|refine w_ops_nil ?_|refine w_skip ?_|refine w_block ?_|refine w_blk ?_|refine q7 ?_|refine q8 ?_|refine q9 ?_)
          refine d_next (fun _ => ⟨k3, rfl, hss⟩) ?_
          obtain ⟨A1, c1, rfl, _⟩ := ho1.isSl
          obtain ⟨A2, c2, rfl, _⟩ := hr2.isSl
          obtain ⟨A3, c3, rfl, _⟩ := hr3.isSl
          refine d_read 15 calm_ret rfl (by kernel_rfl) rfl  (fun h hs => r_build (vs := [(0, .int .i64 (bitsOf .and .i64 m.id 65535)), (1, .int .i64 (bitsOf .and .i64 m.flags 65535)), (3, .slice A1 _ c1), (4, .slice A2 _ c2), (5, .slice A3 _ c3)]) (r := [.int .i64 (bitsOf .and .i64 m.id 65535), .int .i64 (bitsOf .and .i64 m.flags 65535), .slice none 0 0, .slice A1 _ c1, .slice A2 _ c2, .slice A3 _ c3]) rfl rfl) ?_
          refine d_exec1 16 (by kernel_rfl) rfl ?_
          refine w_alloc 43 (vs := msZ) rfl rfl fun k4 b3 ks hc3 => ?_
          replace ho1 := ho1.go ks; replace hr2 := hr2.go ks; replace hr3 := hr3.go ks
          replace hss := hss.go ks
          clear ks
          repeat (first|refine q1 ?_|refine q2 ?_|refine q3 ?_|refine q4 ?_|refine q5 ?_|refine q6 ?_|refine w_seq ?_|refine w_region ?_|refine w_ops_nil ?_|refine w_skip ?_|refine w_block ?_|refine w_blk ?_|refine q7 ?_|refine q8 ?_|refine q9 ?_)
          refine d_next (fun _ => ⟨k4, rfl, hss⟩) ?_
          refine d_exec1 17 (by kernel_rfl) rfl ?_
          refine w_store (us := [.int .i64 (bitsOf .and .i64 m.id 65535), .int .i64 (bitsOf .and .i64 m.flags 65535), .slice none 0 0, .slice A1 _ c1, .slice A2 _ c2, .slice A3 _ c3]) (vs' := [.int .i64 (bitsOf .and .i64 m.id 65535), .int .i64 (bitsOf .and .i64 m.flags 65535), .slice none 0 0, .slice A1 _ c1, .slice A2 _ c2, .slice A3 _ c3]) hc3 rfl rfl rfl rfl (by
            intro u hu
            simp only [List.mem_cons, List.not_mem_nil, or_false] at hu
            rcases hu with rfl | rfl | rfl | rfl | rfl | rfl <;> rfl) (show 0 + 6 ≤ 6 by decide) rfl fun h5 hb5 hs5 hc5 => ?_
          rw [mask16, mask16] at hc5
          repeat (first|refine q1 ?_|refine q2 ?_|refine q3 ?_|refine q4 ?_|refine q5 ?_|refine q6 ?_|refine w_seq ?_|refine w_region ?_|refine w_ops_nil ?_|refine w_skip ?_|refine w_block ?_|refine w_blk ?_|refine q7 ?_|refine q8 ?_|refine q9 ?_)
          refine d_next (fun _ => ⟨h5, rfl, hss.go hs5⟩) ?_
          refine d_done (by kernel_rfl) ?_
          exact w_meet b3 ⟨h5, _, _, _, rfl, (hsd0.go hss).go hs5, (hst.go hss).go hs5, (hc1.go hss).go hs5, (hc2.go hss).go hs5, hc5, ho1.go hs5, hr2.go hs5, hr3.go hs5⟩ ⟨rfl, rfl, rfl, trivial⟩
        · refine w_alloc 43 (vs := msZ) rfl rfl fun k3 b3 ks hc3 => ?_
          replace ho1 := ho1.go ks; replace hr2 := hr2.go ks
          replace hss := hss.go ks
          clear ks
          repeat (first|refine q1 ?_|refine q2 ?_|refine q3 ?_|refine q4 ?_|refine q5 ?_|refine q6 ?_|refine w_seq ?_|refine w_region ?_|refine w_ops_nil ?_|refine w_skip ?_|refine w_block ?_|refine w_blk ?_|refine q7 ?_|refine q8 ?_|refine q9 ?_)
          refine d_next (fun _ => ⟨k3, rfl, hss⟩) ?_
          refine d_exec1 14 (by kernel_rfl) rfl ?_
          refine w_callF rfl (ref09_GoodRecordsR m.more k3 ok4 (hmo.go hss)) rfl fun um k4 ks hr3 => ?_
          replace ho1 := ho1.go ks; replace hr2 := hr2.go ks; replace hc3 := hc3.go ks
          replace hss := hss.go ks
          clear ks
          repeat (first|refine q1 ?_|refine q2 ?_|refine q3 ?_|refine q4 ?_|refine q5 ?_|refine q6 ?_|refine w_seq ?_|refine w_region ?_|refine w_ops_nil ?_|refine w_skip ?_|refine w_block ?_|refine w_blk ?_|refine q7 ?_|refine q8 ?_|refine q9 ?_)
          refine d_next (fun _ => ⟨k4, rfl, hss⟩) ?_
          obtain ⟨A1, c1, rfl, _⟩ := ho1.isSl
          obtain ⟨A2, c2, rfl, _⟩ := hr2.isSl
          obtain ⟨A3, c3, rfl, _⟩ := hr3.isSl
          refine d_read 15 calm_ret rfl (by kernel_rfl) rfl  (fun h hs => r_build (vs := [(0, .int .i64 (bitsOf .and .i64 m.id 65535)), (1, .int .i64 (bitsOf .and .i64 m.flags 65535)), (3, .slice A1 _ c1), (4, .slice A2 _ c2), (5, .slice A3 _ c3)]) (r := [.int .i64 (bitsOf .and .i64 m.id 65535), .int .i64 (bitsOf .and .i64 m.flags 65535), .slice none 0 0, .slice A1 _ c1, .slice A2 _ c2, .slice A3 _ c3]) rfl rfl) ?_
          refine d_exec1 17 (by kernel_rfl) rfl ?_
          refine w_store (us := [.int .i64 (bitsOf .and .i64 m.id 65535), .int .i64 (bitsOf .and .i64 m.flags 65535), .slice none 0 0, .slice A1 _ c1, .slice A2 _ c2, .slice A3 _ c3]) (vs' := [.int .i64 (bitsOf .and .i64 m.id 65535), .int .i64 (bitsOf .and .i64 m.flags 65535), .slice none 0 0, .slice A1 _ c1, .slice A2 _ c2, .slice A3 _ c3]) hc3 rfl rfl rfl rfl (by
            intro u hu
            simp only [List.mem_cons, List.not_mem_nil, or_false] at hu
            rcases hu with rfl | rfl | rfl | rfl | rfl | rfl <;> rfl) (show 0 + 6 ≤ 6 by decide) rfl fun h5 hb5 hs5 hc5 => ?_
          rw [mask16, mask16] at hc5
          repeat (first|refine q1 ?_|refine q2 ?_|refine q3 ?_|refine q4 ?_|refine q5 ?_|refine q6 ?_|refine w_seq ?_|refine w_region ?_|refine w_ops_nil ?_|refine w_skip ?_|refine w_block ?_|refine w_blk ?_|refine q7 ?_|refine q8 ?_|refine q9 ?_)
          refine d_next (fun _ => ⟨h5, rfl, hss.go hs5⟩) ?_
          refine d_done (by kernel_rfl) ?_
          exact w_meet b3 ⟨h5, _, _, _, rfl, (hsd0.go hss).go hs5, (hst.go hss).go hs5, (hc1.go hss).go hs5, (hc2.go hss).go hs5, hc5, ho1.go hs5, hr2.go hs5, hr3.go hs5⟩ ⟨rfl, rfl, rfl, trivial⟩
      · refine w_alloc 43 (vs := msZ) rfl rfl fun k2 b3 ks hc3 => ?_
        replace ho1 := ho1.go ks
        replace hss := hss.go ks
        clear ks
        repeat (first|refine q1 ?_|refine q2 ?_|refine q3 ?_|refine q4 ?_|refine q5 ?_|refine q6 ?_|refine w_seq ?_|refine w_region ?_|refine w_ops_nil ?_|refine w_skip ?_|refine w_block ?_|refine w_blk ?_|refine q7 ?_|refine q8 ?_|refine q9 ?_)
        refine d_next (fun _ => ⟨k2, rfl, hss⟩) ?_
        refine d_exec1 11 (by kernel_rfl) rfl ?_
        refine w_callF rfl (ref09_GoodRecordsR m.auth k2 ok3 (hu.go hss)) rfl fun uu k3 ks hr2 => ?_
        replace ho1 := ho1.go ks; replace hc3 := hc3.go ks
        replace hss := hss.go ks
        clear ks
        repeat (first|refine q1 ?_|refine q2 ?_|refine q3 ?_|refine q4 ?_|refine q5 ?_|refine q6 ?_|refine w_seq ?_|refine w_region ?_|refine w_ops_nil ?_|refine w_skip ?_|refine w_block ?_|refine w_blk ?_|refine q7 ?_|refine q8 ?_|refine q9 ?_)
        refine d_next (fun _ => ⟨k3, rfl, hss⟩) ?_
        refine d_exec1 14 (by kernel_rfl) rfl ?_
        refine w_callF rfl (ref09_GoodRecordsR m.more k3 ok4 (hmo.go hss)) rfl fun um k4 ks hr3 => ?_
        replace ho1 := ho1.go ks; replace hr2 := hr2.go ks; replace hc3 := hc3.go ks
        replace hss := hss.go ks
        clear ks
        repeat (first|refine q1 ?_|refine q2 ?_|refine q3 ?_|refine q4 ?_|refine q5 ?_|refine q6 ?_|refine w_seq ?_|refine w_region ?_|refine w_ops_nil ?_|refine w_skip ?_|refine w_block ?_|refine w_blk ?_|refine q7 ?_|refine q8 ?_|refine q9 ?_)
        refine d_next (fun _ => ⟨k4, rfl, hss⟩) ?_
        obtain ⟨A1, c1, rfl, _⟩ := ho1.isSl
        obtain ⟨A2, c2, rfl, _⟩ := hr2.isSl
        obtain ⟨A3, c3, rfl, _⟩ := hr3.isSl
        refine d_read 15 calm_ret rfl (by kernel_rfl) rfl  (fun h hs => r_build (vs := [(0, .int .i64 (bitsOf .and .i64 m.id 65535)), (1, .int .i64 (bitsOf .and .i64 m.flags 65535)), (3, .slice A1 _ c1), (4, .slice A2 _ c2), (5, .slice A3 _ c3)]) (r := [.int .i64 (bitsOf .and .i64 m.id 65535), .int .i64 (bitsOf .and .i64 m.flags 65535), .slice none 0 0, .slice A1 _ c1, .slice A2 _ c2, .slice A3 _ c3]) rfl rfl) ?_
        refine d_exec1 17 (by kernel_rfl) rfl ?_
        refine w_store (us := [.int .i64 (bitsOf .and .i64 m.id 65535), .int .i64 (bitsOf .and .i64 m.flags 65535), .slice none 0 0, .slice A1 _ c1, .slice A2 _ c2, .slice A3 _ c3]) (vs' := [.int .i64 (bitsOf .and .i64 m.id 65535), .int .i64 (bitsOf .and .i64 m.flags 65535), .slice none 0 0, .slice A1 _ c1, .slice A2 _ c2, .slice A3 _ c3]) hc3 rfl rfl rfl rfl (by
          intro u hu
          simp only [List.mem_cons, List.not_mem_nil, or_false] at hu
          rcases hu with rfl | rfl | rfl | rfl | rfl | rfl <;> rfl) (show 0 + 6 ≤ 6 by decide) rfl fun h5 hb5 hs5 hc5 => ?_
        rw [mask16, mask16] at hc5
        repeat (first|refine q1 ?_|refine q2 ?_|refine q3 ?_|refine q4 ?_|refine q5 ?_|refine q6 ?_|refine w_seq ?_|refine w_region ?_|refine w_ops_nil ?_|refine w_skip ?_|refine w_block ?_|refine w_blk ?_|refine q7 ?_|refine q8 ?_|refine q9 ?_)
        refine d_next (fun _ => ⟨h5, rfl, hss.go hs5⟩) ?_
        refine d_done (by kernel_rfl) ?_
        exact w_meet b3 ⟨h5, _, _, _, rfl, (hsd0.go hss).go hs5, (hst.go hss).go hs5, (hc1.go hss).go hs5, (hc2.go hss).go hs5, hc5, ho1.go hs5, hr2.go hs5, hr3.go hs5⟩ ⟨rfl, rfl, rfl, trivial⟩
    · refine w_alloc 43 (vs := msZ) rfl rfl fun k1 b3 ks hc3 => ?_
      replace hss := hss.go ks
      clear ks
      repeat (first|refine q1 ?_|refine q2 ?_|refine q3 ?_|refine q4 ?_|refine q5 ?_|refine q6 ?_|refine w_seq ?_|refine w_region ?_|refine w_ops_nil ?_|refine w_skip ?_|refine w_block ?_|refine w_blk ?_|refine q7 ?_|refine q8 ?_|refine q9 ?_)
      refine d_next (fun _ => ⟨k1, rfl, hss⟩) ?_
      refine d_exec1 8 (by kernel_rfl) rfl ?_
      refine w_callF rfl (ref09_GoodRecordsO m.ans k1 ok2 (ha.go hss)) rfl fun ua k2 ks ho1 => ?_
      replace hc3 := hc3.go ks
      replace hss := hss.go ks
      clear ks
      repeat (first|refine q1 ?_|refine q2 ?_|refine q3 ?_|refine q4 ?_|refine q5 ?_|refine q6 ?_|refine w_seq ?_|refine w_region ?_|refine w_ops_nil ?_|refine w_skip ?_|refine w_block ?_|refine w_blk ?_|refine q7 ?_|refine q8 ?_|refine q9 ?_)
      refine d_next (fun _ => ⟨k2, rfl, hss⟩) ?_
      refine d_exec1 11 (by kernel_rfl) rfl ?_
      refine w_callF rfl (ref09_GoodRecordsR m.auth k2 ok3 (hu.go hss)) rfl fun uu k3 ks hr2 => ?_
      replace ho1 := ho1.go ks; replace hc3 := hc3.go ks
      replace hss := hss.go ks
      clear ks
      repeat (first|refine q1 ?_|refine q2 ?_|refine q3 ?_|refine q4 ?_|refine q5 ?_|refine q6 ?_|refine w_seq ?_|refine w_region ?_|refine w_ops_nil ?_|refine w_skip ?_|refine w_block ?_|refine w_blk ?_|refine q7 ?_|refine q8 ?_|refine q9 ?_)
      refine d_next (fun _ => ⟨k3, rfl, hss⟩) ?_
      refine d_exec1 14 (by kernel_rfl) rfl ?_
      refine w_callF rfl (ref09_GoodRecordsR m.more k3 ok4 (hmo.go hss)) rfl fun um k4 ks hr3 => ?_
      replace ho1 := ho1.go ks; replace hr2 := hr2.go ks; replace hc3 := hc3.go ks
      replace hss := hss.go ks
      clear ks
      repeat (first|refine q1 ?_|refine q2 ?_|refine q3 ?_|refine q4 ?_|refine q5 ?_|refine q6 ?_|refine w_seq ?_|refine w_region ?_|refine w_ops_nil ?_|refine w_skip ?_|refine w_block ?_|refine w_blk ?_|refine q7 ?_|refine q8 ?_|refine q9 ?_)
      refine d_next (fun _ => ⟨k4, rfl, hss⟩) ?_
      obtain ⟨A1, c1, rfl, _⟩ := ho1.isSl
      obtain ⟨A2, c2, rfl, _⟩ := hr2.isSl
      obtain ⟨A3, c3, rfl, _⟩ := hr3.isSl
      refine d_read 15 calm_ret rfl (by kernel_rfl) rfl  (fun h hs => r_build (vs := [(0, .int .i64 (bitsOf .and .i64 m.id 65535)), (1, .int .i64 (bitsOf .and .i64 m.flags 65535)), (3, .slice A1 _ c1), (4, .slice A2 _ c2), (5, .slice A3 _ c3)]) (r := [.int .i64 (bitsOf .and .i64 m.id 65535), .int .i64 (bitsOf .and .i64 m.flags 65535), .slice none 0 0, .slice A1 _ c1, .slice A2 _ c2, .slice A3 _ c3]) rfl rfl) ?_
      refine d_exec1 17 (by kernel_rfl) rfl ?_
      refine w_store (us := [.int .i64 (bitsOf .and .i64 m.id 65535), .int .i64 (bitsOf .and .i64 m.flags 65535), .slice none 0 0, .slice A1 _ c1, .slice A2 _ c2, .slice A3 _ c3]) (vs' := [.int .i64 (bitsOf .and .i64 m.id 65535), .int .i64 (bitsOf .and .i64 m.flags 65535), .slice none 0 0, .slice A1 _ c1, .slice A2 _ c2, .slice A3 _ c3]) hc3 rfl rfl rfl rfl (by
        intro u hu
        simp only [List.mem_cons, List.not_mem_nil, or_false] at hu
        rcases hu with rfl | rfl | rfl | rfl | rfl | rfl <;> rfl) (show 0 + 6 ≤ 6 by decide) rfl fun h5 hb5 hs5 hc5 => ?_
      rw [mask16, mask16] at hc5
      repeat (first|refine q1 ?_|refine q2 ?_|refine q3 ?_|refine q4 ?_|refine q5 ?_|refine q6 ?_|refine w_seq ?_|refine w_region ?_|refine w_ops_nil ?_|refine w_skip ?_|refine w_block ?_|refine w_blk ?_|refine q7 ?_|refine q8 ?_|refine q9 ?_)
      refine d_next (fun _ => ⟨h5, rfl, hss.go hs5⟩) ?_
      refine d_done (by kernel_rfl) ?_
      exact w_meet b3 ⟨h5, _, _, _, rfl, (hsd0.go hss).go hs5, (hst.go hss).go hs5, (hc1.go hss).go hs5, (hc2.go hss).go hs5, hc5, ho1.go hs5, hr2.go hs5, hr3.go hs5⟩ ⟨rfl, rfl, rfl, trivial⟩
  clear hst hc1 hc2 ha hu hmo
  rintro b3 _ ⟨h, ua, uu, um, rfl, hs0, hst, hc1, hc2, hc3, ho1, hr2, hr3⟩
  replace hq := hq.go hs0
  have hlm := hq.isSl.le
  clear hs0
  repeat (first|refine q1 ?_|refine q2 ?_|refine q3 ?_|refine q4 ?_|refine q5 ?_|refine q6 ?_|refine w_seq ?_|refine w_region ?_|refine w_ops_nil ?_|refine w_skip ?_|refine w_block ?_|refine w_blk ?_|refine q7 ?_|refine q8 ?_|refine q9 ?_)
  refine w_loop (ι := Value × Nat) (fun x => [(1, .pointer (some ⟨b1, 0, none⟩)), (2, .pointer (some ⟨b2, 0, none⟩)), (3, .pointer (some ⟨b3, 0, none⟩)), (4, .int .i64 (x.2 : Int))])
    (fun x w => ∃ k : G, k.w = w ∧ Step [] [42, 43, 44, 45] h k ∧ Cell k 42 b2 46 msZ ∧ Cell k 43 b3 46 [.int .i64 (m.id % 65536), .int .i64 (m.flags % 65536), x.1, ua, uu, um] ∧ Own k 45 El.qn 68 x.1 ((m.asked.take x.2).map goodQn) ∧ x.2 ≤ m.asked.length ∧ x.2 ≤ 3) (fun x => m.asked.length - x.2)
    (.slice none 0 0, 0) ⟨h, rfl, Step.refl _ _ _, hc2, hc3, Own.nil _ _ _ _, by dsimp only; omega, by dsimp only; omega⟩ ⟨rfl, rfl, rfl, rfl, trivial⟩ ?_
  clear hc2 hc3
  rintro ⟨vO, i⟩ _ ⟨k, rfl, hst2, hc2, hc3, hown, hi, h3⟩
  dsimp only at hst2 hc2 hc3 hown hi h3 ⊢
  have hc1' := hc1.go hst2
  obtain ⟨c, hc, hq1⟩ := hq.go hst2
  have fin : (m.asked.take 3).map goodQn = (m.asked.take i).map goodQn → ∀ (h' : G) (w : Value), True := fun _ _ _ => trivial
  repeat (first|refine q1 ?_|refine q2 ?_|refine q3 ?_|refine q4 ?_|refine q5 ?_|refine q6 ?_|refine w_seq ?_|refine w_region ?_|refine w_ops_nil ?_|refine w_skip ?_|refine w_block ?_|refine w_blk ?_|refine q7 ?_|refine q8 ?_|refine q9 ?_)
  refine w_fldA (by decide) rfl rfl ?_
  refine w_load1 (v := vq) hc1' rfl rfl rfl rfl ?_
  refine w_lenSl hq1.isSl rfl rfl ?_
  repeat (first|refine q1 ?_|refine q2 ?_|refine q3 ?_|refine q4 ?_|refine q5 ?_|refine q6 ?_|refine w_seq ?_|refine w_region ?_|refine w_ops_nil ?_|refine w_skip ?_|refine w_block ?_|refine w_blk ?_|refine q7 ?_|refine q8 ?_|refine q9 ?_)
  refine w_splitP 27 rfl (fun hc => ?_) (fun hc => ?_)
  · repeat (first|refine q1 ?_|refine q2 ?_|refine q3 ?_|refine q4 ?_|refine q5 ?_|refine q6 ?_|refine w_seq ?_|refine w_region ?_|refine w_ops_nil ?_|refine w_skip ?_|refine w_block ?_|refine w_blk ?_|refine q7 ?_|refine q8 ?_|refine q9 ?_)
    refine w_condP rfl (fun h5 => ?_) (fun h5 => ?_)
    · have hlt : i < m.asked.length := by omega
      have hnl := ok1 m.asked[i] (List.getElem_mem hlt)
      have htake : (m.asked.take (i + 1)).map goodQn = (m.asked.take i).map goodQn ++ [goodQn m.asked[i]] := by rw [List.take_succ_eq_append_getElem hlt, List.map_append]; rfl
      generalize hqx : m.asked[i] = qx at hnl htake
      repeat (first|refine q1 ?_|refine q2 ?_|refine q3 ?_|refine q4 ?_|refine q5 ?_|refine q6 ?_|refine w_seq ?_|refine w_region ?_|refine w_ops_nil ?_|refine w_skip ?_|refine w_block ?_|refine w_blk ?_|refine q7 ?_|refine q8 ?_|refine q9 ?_)
      refine w_fldA (by decide) rfl rfl ?_
      refine w_load1 (v := vq) hc1' rfl rfl rfl rfl ?_
      repeat (first|refine q1 ?_|refine q2 ?_|refine q3 ?_|refine q4 ?_|refine q5 ?_|refine q6 ?_|refine w_seq ?_|refine w_region ?_|refine w_ops_nil ?_|refine w_skip ?_|refine w_block ?_|refine w_blk ?_|refine q7 ?_|refine q8 ?_|refine q9 ?_)
      refine w_idx hq1 rfl rfl (by omega) (by omega) rfl ?_
      refine w_loadE (i := i) (y := qx) hq1 rfl (by simp [hlt, hqx]) rfl rfl ?_
      repeat (first|refine q1 ?_|refine q2 ?_|refine q3 ?_|refine q4 ?_|refine q5 ?_|refine q6 ?_|refine w_seq ?_|refine w_region ?_|refine w_ops_nil ?_|refine w_skip ?_|refine w_block ?_|refine w_blk ?_|refine q7 ?_|refine q8 ?_|refine q9 ?_)
      refine w_alloc 44 (vs := El.qn.enc ⟨[], 0, 0⟩) rfl rfl fun k7 b7 hs7 hc7 => ?_
      replace hst2 := hst2.go hs7; replace hc1' := hc1'.go hs7; replace hc2 := hc2.go hs7; replace hc3 := hc3.go hs7; replace hown := hown.go hs7
      repeat (first|refine q1 ?_|refine q2 ?_|refine q3 ?_|refine q4 ?_|refine q5 ?_|refine q6 ?_|refine w_seq ?_|refine w_region ?_|refine w_ops_nil ?_|refine w_skip ?_|refine w_block ?_|refine w_blk ?_|refine q7 ?_|refine q8 ?_|refine q9 ?_)
      refine w_store (us := El.qn.enc qx) (vs' := El.qn.enc qx) hc7 rfl rfl rfl rfl (El.qn.flat qx) (show 0 + 3 ≤ 3 by decide) rfl fun k8 hb8 hs8 hc8 => ?_
      replace hst2 := hst2.go hs8; replace hc1' := hc1'.go hs8; replace hc2 := hc2.go hs8; replace hc3 := hc3.go hs8; replace hown := hown.go hs8
      repeat (first|refine q1 ?_|refine q2 ?_|refine q3 ?_|refine q4 ?_|refine q5 ?_|refine q6 ?_|refine w_seq ?_|refine w_region ?_|refine w_ops_nil ?_|refine w_skip ?_|refine w_blk ?_|refine q7 ?_|refine q8 ?_|refine q9 ?_)
      refine d_begin (some 13) [45] (by kernel_rfl) fun g2 hsd => ?_
      replace hown := hown.go hsd
      replace hst2 := hst2.go hsd; replace hc2 := hc2.go hsd; replace hc3 := hc3.go hsd; replace hc8 := hc8.go hsd
      refine d_read 0 calm_ret rfl (by kernel_rfl) rfl  (fun h hs => r_fldA (by decide) rfl) ?_
      refine d_read 1 calm_ret rfl (by kernel_rfl) rfl  (fun h hs => r_load1 (v := vO) (hc3.go hs) rfl rfl rfl) ?_
      refine d_read 2 calm_ret rfl (by kernel_rfl) rfl  (fun h hs => r_fldA (by decide) rfl) ?_
      refine d_read 3 calm_ret rfl (by kernel_rfl) rfl  (fun h hs => r_load1 (v := str qx.name) (hc8.go hs) rfl rfl rfl) ?_
      refine d_read 5 calm_ret rfl (by kernel_rfl) rfl  (fun h hs => r_fldA (by decide) rfl) ?_
      refine d_read 6 calm_ret rfl (by kernel_rfl) rfl  (fun h hs => r_load1 (v := .int .i64 qx.typ) (hc8.go hs) rfl rfl rfl) ?_
      refine d_read 7 calm_ret rfl (by kernel_rfl) rfl  (fun h hs => r_bits (.inl rfl) rfl rfl) ?_
      refine d_read 8 calm_ret rfl (by kernel_rfl) rfl  (fun h hs => r_fldA (by decide) rfl) ?_
      refine d_read 9 calm_ret rfl (by kernel_rfl) rfl  (fun h hs => r_load1 (v := .int .i64 qx.cls) (hc8.go hs) rfl rfl rfl) ?_
      refine d_read 10 calm_ret rfl (by kernel_rfl) rfl  (fun h hs => r_bits (.inl rfl) rfl rfl) ?_
      refine d_exec1 4 (by kernel_rfl) rfl ?_
      refine w_callF rfl (ref08_Good qx.name g2 hnl) rfl fun u k9 hs9 hU => ?_
      subst hU
      repeat (first|refine q1 ?_|refine q2 ?_|refine q3 ?_|refine q4 ?_|refine q5 ?_|refine q6 ?_|refine w_seq ?_|refine w_region ?_|refine w_ops_nil ?_|refine w_skip ?_|refine w_block ?_|refine w_blk ?_|refine q7 ?_|refine q8 ?_|refine q9 ?_)
      refine d_next (fun _ => ⟨k9, rfl, hs9.nil⟩) ?_
      refine d_read 11 calm_ret rfl (by kernel_rfl) rfl  (fun h hs => r_build (vs := [(0, str (goodB qx.name)), (1, .int .i64 (bitsOf .and .i64 qx.typ 65535)), (2, .int .i64 (bitsOf .and .i64 qx.cls 65535))]) (r := El.qn.enc ⟨goodB qx.name, bitsOf .and .i64 qx.typ 65535, bitsOf .and .i64 qx.cls 65535⟩) rfl rfl) ?_
      refine d_exec1 12 (by kernel_rfl) rfl ?_
      refine w_buildSlR El.qn [⟨goodB qx.name, bitsOf .and .i64 qx.typ 65535, bitsOf .and .i64 qx.cls 65535⟩] rfl rfl rfl rfl fun k10 v10 hs10 hr10 => ?_
      have hss : Step [] [45] g2 k10 := hs9.nil.go hs10
      repeat (first|refine q1 ?_|refine q2 ?_|refine q3 ?_|refine q4 ?_|refine q5 ?_|refine q6 ?_|refine w_seq ?_|refine w_region ?_|refine w_ops_nil ?_|refine w_skip ?_|refine w_block ?_|refine w_blk ?_|refine q7 ?_|refine q8 ?_|refine q9 ?_)
      refine d_next (fun _ => ⟨k10, rfl, hss⟩) ?_
      refine d_exec1 13 (by kernel_rfl) rfl ?_
      refine w_append ((hown.go hs9).go hs10) hr10 rfl rfl rfl (by decide) (by simp only [List.length_map, List.length_take, List.length_cons, List.length_nil]; omega) rfl fun k11 v11 hs11 ho11 => ?_
      rw [mask16, mask16] at ho11
      replace hss := hss.go hs11
      replace hst2 := hst2.go hss; replace hc2 := hc2.go hss; replace hc3 := hc3.go hss
      repeat (first|refine q1 ?_|refine q2 ?_|refine q3 ?_|refine q4 ?_|refine q5 ?_|refine q6 ?_|refine w_seq ?_|refine w_region ?_|refine w_ops_nil ?_|refine w_skip ?_|refine w_block ?_|refine w_blk ?_|refine q7 ?_|refine q8 ?_|refine q9 ?_)
      refine d_over (by kernel_rfl) ?_
      refine d_phase none [43] (by kernel_rfl) ?_
      refine d_read 14 calm_ret rfl (by kernel_rfl) rfl  (fun h hs => r_fldA (by decide) rfl) ?_
      refine d_exec1 15 (by kernel_rfl) rfl ?_
      refine w_store1 hc3 rfl rfl ho11.isSl.one (by simp) fun k12 hb12 hs12 hc12 => ?_
      repeat (first|refine q1 ?_|refine q2 ?_|refine q3 ?_|refine q4 ?_|refine q5 ?_|refine q6 ?_|refine w_seq ?_|refine w_region ?_|refine w_ops_nil ?_|refine w_skip ?_|refine w_block ?_|refine w_blk ?_|refine q7 ?_|refine q8 ?_|refine q9 ?_)
      refine d_next (fun _ => ⟨k12, rfl, hs12⟩) ?_
      refine d_done (by kernel_rfl) ?_
      repeat (first|refine q1 ?_|refine q2 ?_|refine q3 ?_|refine q4 ?_|refine q5 ?_|refine q6 ?_|refine w_seq ?_|refine w_region ?_|refine w_ops_nil ?_|refine w_skip ?_|refine w_block ?_|refine w_blk ?_|refine q7 ?_|refine q8 ?_|refine q9 ?_)
      refine w_again (v11, i + 1) (by dsimp only; omega) ⟨k12, rfl, hst2.go hs12, hc2.go hs12, hc12, ?_, by dsimp only; omega, by dsimp only; omega⟩ ⟨rfl, rfl, rfl, rfl, trivial⟩
      dsimp only
      rw [htake]
      exact ho11.go hs12
    · have : i = 3 := by omega
      subst this
      repeat (first|refine q1 ?_|refine q2 ?_|refine q3 ?_|refine q4 ?_|refine q5 ?_|refine q6 ?_|refine w_seq ?_|refine w_region ?_|refine w_ops_nil ?_|refine w_skip ?_|refine w_block ?_|refine w_blk ?_|refine q7 ?_|refine q8 ?_|refine q9 ?_)
      refine w_loadS (us := [.int .i64 (m.id % 65536), .int .i64 (m.flags % 65536), vO, ua, uu, um]) hc3 rfl rfl rfl rfl rfl ?_
      refine w_store (us := [.int .i64 (m.id % 65536), .int .i64 (m.flags % 65536), vO, ua, uu, um]) (vs' := [.int .i64 (m.id % 65536), .int .i64 (m.flags % 65536), vO, ua, uu, um]) hc2 rfl rfl rfl rfl (by
        intro u hu
        simp only [List.mem_cons, List.not_mem_nil, or_false] at hu
        rcases hu with rfl | rfl | rfl | rfl | rfl | rfl
        · rfl
        · rfl
        · exact hown.isSl.one
        · exact ho1.isSl.one
        · exact hr2.isSl.one
        · exact hr3.isSl.one) (show 0 + 6 ≤ 6 by decide) rfl fun k5 hb5 hs5 hc5 => ?_
      have hown5 := hown.go hs5
      obtain ⟨k6, hw6, hs6, hr6⟩ := hown5.freeze (by decide)
      replace hst2 := (hst2.go hs5).go hs6
      have hc6 := hc5.go hs6
      repeat (first|refine q1 ?_|refine q2 ?_|refine q3 ?_|refine q4 ?_|refine q5 ?_|refine q6 ?_|refine w_seq ?_|refine w_region ?_|refine w_ops_nil ?_|refine w_skip ?_|refine w_block ?_|refine w_blk ?_|refine q7 ?_|refine q8 ?_|refine q9 ?_)
      rw [← hw6]
      refine w_retG (resCs hc6 rfl rfl rfl rfl) (hst.go hst2) fun h' hv' => ⟨_, rfl, vO, ua, uu, um, rfl, hr6.view hv' (.inl rfl), (ho1.go hst2).view hv' (.inr (by simp)), (hr2.go hst2).view hv' (.inl rfl), (hr3.go hst2).view hv' (.inl rfl)⟩
  · have e3 : (m.asked.take i).map goodQn = (m.asked.take 3).map goodQn := by
      rw [List.take_of_length_le (by omega), List.take_of_length_le (by omega)]
    rw [e3] at hown
    repeat (first|refine q1 ?_|refine q2 ?_|refine q3 ?_|refine q4 ?_|refine q5 ?_|refine q6 ?_|refine w_seq ?_|refine w_region ?_|refine w_ops_nil ?_|refine w_skip ?_|refine w_block ?_|refine w_blk ?_|refine q7 ?_|refine q8 ?_|refine q9 ?_)
    refine w_loadS (us := [.int .i64 (m.id % 65536), .int .i64 (m.flags % 65536), vO, ua, uu, um]) hc3 rfl rfl rfl rfl rfl ?_
    refine w_store (us := [.int .i64 (m.id % 65536), .int .i64 (m.flags % 65536), vO, ua, uu, um]) (vs' := [.int .i64 (m.id % 65536), .int .i64 (m.flags % 65536), vO, ua, uu, um]) hc2 rfl rfl rfl rfl (by
      intro u hu
      simp only [List.mem_cons, List.not_mem_nil, or_false] at hu
      rcases hu with rfl | rfl | rfl | rfl | rfl | rfl
      · rfl
      · rfl
      · exact hown.isSl.one
      · exact ho1.isSl.one
      · exact hr2.isSl.one
      · exact hr3.isSl.one) (show 0 + 6 ≤ 6 by decide) rfl fun k5 hb5 hs5 hc5 => ?_
    have hown5 := hown.go hs5
    obtain ⟨k6, hw6, hs6, hr6⟩ := hown5.freeze (by decide)
    replace hst2 := (hst2.go hs5).go hs6
    have hc6 := hc5.go hs6
    repeat (first|refine q1 ?_|refine q2 ?_|refine q3 ?_|refine q4 ?_|refine q5 ?_|refine q6 ?_|refine w_seq ?_|refine w_region ?_|refine w_ops_nil ?_|refine w_skip ?_|refine w_block ?_|refine w_blk ?_|refine q7 ?_|refine q8 ?_|refine q9 ?_)
    rw [← hw6]
    refine w_retG (resCs hc6 rfl rfl rfl rfl) (hst.go hst2) fun h' hv' => ⟨_, rfl, vO, ua, uu, um, rfl, hr6.view hv' (.inl rfl), (ho1.go hst2).view hv' (.inr (by simp)), (hr2.go hst2).view hv' (.inl rfl), (hr3.go hst2).view hv' (.inl rfl)⟩
end Go.Proofs.Ytnfokdhgajanpaa
