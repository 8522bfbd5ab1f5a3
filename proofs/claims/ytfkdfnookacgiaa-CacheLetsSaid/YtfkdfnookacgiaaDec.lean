/- The reference's Decimal, of numbers below 100. No statement of the seat is proved here. -/
import Derived.Test.YtfkdfnookacgiaaEng9
import Derived.Test.YtfkdfnookacgiaaTypes
set_option linter.unusedVariables false
set_option linter.unusedSimpArgs false
namespace Go.Proofs.Ytfkdfnookacgiaa
open Go
attribute [local irreducible] Wp
def digB (n : Nat) : UInt8 := UInt8.ofNat (48 + n)
def decB (n : Nat) : List UInt8 := if n < 10 then [digB n] else [digB (n / 10), digB (n % 10)]
theorem digB_inj {i j : Nat} (hi : i < 10) (hj : j < 10) (h : digB i = digB j) : i = j := by
  have := congrArg UInt8.toNat h
  simp [digB] at this
  omega
theorem decB_inj {i j : Nat} (hi : i < 100) (hj : j < 100) (h : decB i = decB j) : i = j := by
  unfold decB at h
  split at h <;> split at h
  · rename_i h1 h2
    simp only [List.cons.injEq, and_true] at h
    exact digB_inj h1 h2 h
  · simp at h
  · simp at h
  · simp only [List.cons.injEq, and_true] at h
    have a := digB_inj (by omega) (by omega) h.1
    have b := digB_inj (by omega) (by omega) h.2
    omega
theorem dig_conv (n : Int) (h : 0 ≤ n) : UInt8.ofNat (48 + n % 10).toNat = digB (n.toNat % 10) := by
  unfold digB
  congr 1
  omega
theorem ref01_Dec1 (n : Nat) (g : G) (hn : n < 10) : Fn Try.prog 11 [.int .i64 (n : Int)] g [] fun u _ => u = str (decB n) := by
  refine enterG [] [41] Try.func11 rfl Try.ntmps11 rfl (by simp) fun g1 hv ho => ?_
  repeat (first|refine q1 ?_|refine q2 ?_|refine q3 ?_|refine q4 ?_|refine q5 ?_|refine q6 ?_|refine w_seq ?_|refine w_region ?_|refine w_ops_nil ?_|refine w_skip ?_|refine w_block ?_|refine w_blk ?_|refine q7 ?_|refine q8 ?_|refine q9 ?_)
  refine w_condP rfl (fun h => by omega) (fun _ => ?_)
  repeat (first|refine q1 ?_|refine q2 ?_|refine q3 ?_|refine q4 ?_|refine q5 ?_|refine q6 ?_|refine w_seq ?_|refine w_region ?_|refine w_ops_nil ?_|refine w_skip ?_|refine w_block ?_|refine w_blk ?_|refine q7 ?_|refine q8 ?_|refine q9 ?_)
  refine w_condP rfl (fun h => by omega) (fun _ => ?_)
  repeat (first|refine q1 ?_|refine q2 ?_|refine q3 ?_|refine q4 ?_|refine q5 ?_|refine q6 ?_|refine w_seq ?_|refine w_region ?_|refine w_ops_nil ?_|refine w_skip ?_|refine w_block ?_|refine w_blk ?_|refine q7 ?_|refine q8 ?_|refine q9 ?_)
  refine w_rem rfl rfl (by omega) rfl ?_
  repeat (first|refine q1 ?_|refine q2 ?_|refine q3 ?_|refine q4 ?_|refine q5 ?_|refine q6 ?_|refine w_seq ?_|refine w_region ?_|refine w_ops_nil ?_|refine w_skip ?_|refine w_block ?_|refine w_blk ?_|refine q7 ?_|refine q8 ?_|refine q9 ?_)
  refine w_convB rfl (by omega) rfl ?_
  rw [dig_conv (n : Int) (by omega)]
  refine w_buildSlR El.u8 [digB ((n : Int).toNat % 10)] rfl rfl rfl rfl fun h1 v1 hs1 hr1 => ?_
  refine w_b2s hr1 rfl rfl ?_
  repeat (first|refine q1 ?_|refine q2 ?_|refine q3 ?_|refine q4 ?_|refine q5 ?_|refine q6 ?_|refine w_seq ?_|refine w_region ?_|refine w_ops_nil ?_|refine w_skip ?_|refine w_block ?_|refine w_blk ?_|refine q7 ?_|refine q8 ?_|refine q9 ?_)
  refine w_condP rfl (fun _ => ?_) (fun h => by omega)
  repeat (first|refine q1 ?_|refine q2 ?_|refine q3 ?_|refine q4 ?_|refine q5 ?_|refine q6 ?_|refine w_seq ?_|refine w_region ?_|refine w_ops_nil ?_|refine w_skip ?_|refine w_block ?_|refine w_blk ?_|refine q7 ?_|refine q8 ?_|refine q9 ?_)
  refine w_retG (res1 rfl rfl) hs1.nil fun h' _ => ?_
  have e : [digB ((n : Int).toNat % 10)] = decB n := by
    unfold decB
    rw [if_pos hn, show (n : Int).toNat % 10 = n by omega]
  exact congrArg str e
theorem ref01_Dec (n : Nat) (g : G) (hn : n < 100) : Fn Try.prog 11 [.int .i64 (n : Int)] g [] fun u _ => u = str (decB n) := by
  by_cases h10 : n < 10
  · exact ref01_Dec1 n g h10
  refine enterG [] [41] Try.func11 rfl Try.ntmps11 rfl (by simp) fun g1 hv ho => ?_
  repeat (first|refine q1 ?_|refine q2 ?_|refine q3 ?_|refine q4 ?_|refine q5 ?_|refine q6 ?_|refine w_seq ?_|refine w_region ?_|refine w_ops_nil ?_|refine w_skip ?_|refine w_block ?_|refine w_blk ?_|refine q7 ?_|refine q8 ?_|refine q9 ?_)
  refine w_condP rfl (fun h => by omega) (fun _ => ?_)
  repeat (first|refine q1 ?_|refine q2 ?_|refine q3 ?_|refine q4 ?_|refine q5 ?_|refine q6 ?_|refine w_seq ?_|refine w_region ?_|refine w_ops_nil ?_|refine w_skip ?_|refine w_block ?_|refine w_blk ?_|refine q7 ?_|refine q8 ?_|refine q9 ?_)
  refine w_condP rfl (fun h => by omega) (fun _ => ?_)
  repeat (first|refine q1 ?_|refine q2 ?_|refine q3 ?_|refine q4 ?_|refine q5 ?_|refine q6 ?_|refine w_seq ?_|refine w_region ?_|refine w_ops_nil ?_|refine w_skip ?_|refine w_block ?_|refine w_blk ?_|refine q7 ?_|refine q8 ?_|refine q9 ?_)
  refine w_rem rfl rfl (by omega) rfl ?_
  repeat (first|refine q1 ?_|refine q2 ?_|refine q3 ?_|refine q4 ?_|refine q5 ?_|refine q6 ?_|refine w_seq ?_|refine w_region ?_|refine w_ops_nil ?_|refine w_skip ?_|refine w_block ?_|refine w_blk ?_|refine q7 ?_|refine q8 ?_|refine q9 ?_)
  refine w_convB rfl (by omega) rfl ?_
  rw [dig_conv (n : Int) (by omega)]
  refine w_buildSlR El.u8 [digB ((n : Int).toNat % 10)] rfl rfl rfl rfl fun h1 v1 hs1 hr1 => ?_
  refine w_b2s hr1 rfl rfl ?_
  repeat (first|refine q1 ?_|refine q2 ?_|refine q3 ?_|refine q4 ?_|refine q5 ?_|refine q6 ?_|refine w_seq ?_|refine w_region ?_|refine w_ops_nil ?_|refine w_skip ?_|refine w_block ?_|refine w_blk ?_|refine q7 ?_|refine q8 ?_|refine q9 ?_)
  refine w_condP rfl (fun h => by omega) (fun _ => ?_)
  repeat (first|refine q1 ?_|refine q2 ?_|refine q3 ?_|refine q4 ?_|refine q5 ?_|refine q6 ?_|refine w_seq ?_|refine w_region ?_|refine w_ops_nil ?_|refine w_skip ?_|refine w_block ?_|refine w_blk ?_|refine q7 ?_|refine q8 ?_|refine q9 ?_)
  refine w_quo rfl rfl (by omega) rfl ?_
  rw [show (n : Int) / 10 = ((n / 10 : Nat) : Int) by omega]
  refine w_callF (vs := [.int .i64 ((n / 10 : Nat) : Int)]) rfl (ref01_Dec1 (n / 10) h1 (by omega)) rfl fun u h2 hs2 hu => ?_
  subst hu
  repeat (first|refine q1 ?_|refine q2 ?_|refine q3 ?_|refine q4 ?_|refine q5 ?_|refine q6 ?_|refine w_seq ?_|refine w_region ?_|refine w_ops_nil ?_|refine w_skip ?_|refine w_block ?_|refine w_blk ?_|refine q7 ?_|refine q8 ?_|refine q9 ?_)
  refine w_concat (l := decB (n / 10)) (m := [digB ((n : Int).toNat % 10)]) rfl rfl (by unfold decB; rw [if_pos (by omega)]; simp) rfl ?_
  repeat (first|refine q1 ?_|refine q2 ?_|refine q3 ?_|refine q4 ?_|refine q5 ?_|refine q6 ?_|refine w_seq ?_|refine w_region ?_|refine w_ops_nil ?_|refine w_skip ?_|refine w_block ?_|refine w_blk ?_|refine q7 ?_|refine q8 ?_|refine q9 ?_)
  refine w_retG (res1 rfl rfl) (hs1.nil.go hs2) fun h' _ => ?_
  have e : decB (n / 10) ++ [digB ((n : Int).toNat % 10)] = decB n := by
    unfold decB
    rw [if_neg h10, if_pos (by omega), show (n : Int).toNat % 10 = n % 10 by omega]; rfl
  exact congrArg str e
end Go.Proofs.Ytfkdfnookacgiaa
