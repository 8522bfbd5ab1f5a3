/- Messages are read: Read (printed by wip/tools/genRd5.py). No statement of the seat is proved here. -/
import Derived.Test.YtnfokdhgajanpaaRd4
import Derived.Test.YtnfokdhgajanpaaWirB
set_option linter.unusedVariables false
set_option linter.unusedSimpArgs false
namespace Go.Proofs.Ytnfokdhgajanpaa
open Go
attribute [local irreducible] Wp
theorem dataStep_at {B : List UInt8} {n : Nat} {r : Rc} {s : Rs} (h : s.at_ ≤ B.length) : (dataStep B n r s).2.at_ ≤ B.length := by
  unfold dataStep addrP
  split
  · split
    · exact h
    · exact rawP_at h
  · split
    · split
      · exact h
      · exact rawP_at h
    · split
      · exact nameP_at h
      · exact rawP_at h
theorem numP_at {B : List UInt8} {n : Nat} {s : Rs} (h : s.at_ ≤ B.length) : (numP B n s).2.at_ ≤ B.length := rawP_at h
theorem rdRec_at {B : List UInt8} {s : Rs} (h : s.at_ ≤ B.length) : (rdRec B s).2.at_ ≤ B.length := by
  have h1 : (headP B s).2.2.at_ ≤ B.length := by
    unfold headP
    exact numP_at (numP_at (numP_at (numP_at (nameP_at h))))
  unfold rdRec
  split
  · exact h1
  · split
    · exact dataStep_at h1
    · exact dataStep_at h1
def recsP (B : List UInt8) : Nat → Rs → List Rc × Rs
  | 0, s => ([], s)
  | k + 1, s => if s.e = 0 then ((rdRec B s).1 :: (recsP B k (rdRec B s).2).1, (recsP B k (rdRec B s).2).2) else ([], s)
theorem recsP_stop (B : List UInt8) (k : Nat) (s : Rs) (h : ¬ s.e = 0) : recsP B k s = ([], s) := by
  cases k with
  | zero => rfl
  | succ k => rw [recsP, if_neg h]
theorem recsP_at {B : List UInt8} : ∀ {k : Nat} {s : Rs}, s.at_ ≤ B.length → (recsP B k s).2.at_ ≤ B.length
  | 0, s, h => h
  | k + 1, s, h => by
    rw [recsP]
    split
    · exact recsP_at (rdRec_at h)
    · exact h
def askP (B : List UInt8) (s : Rs) : Qn × Rs :=
  (⟨(nameP B s).1, ((numP B 2 (nameP B s).2).1 : Int), ((numP B 2 (numP B 2 (nameP B s).2).2).1 : Int)⟩, (numP B 2 (numP B 2 (nameP B s).2).2).2)
theorem askP_at {B : List UInt8} {s : Rs} (h : s.at_ ≤ B.length) : (askP B s).2.at_ ≤ B.length := numP_at (numP_at (nameP_at h))
def asksP (B : List UInt8) : Nat → Rs → List Qn × Rs
  | 0, s => ([], s)
  | k + 1, s => if s.e = 0 then ((askP B s).1 :: (asksP B k (askP B s).2).1, (asksP B k (askP B s).2).2) else ([], s)
theorem asksP_stop (B : List UInt8) (k : Nat) (s : Rs) (h : ¬ s.e = 0) : asksP B k s = ([], s) := by
  cases k with
  | zero => rfl
  | succ k => rw [asksP, if_neg h]
theorem asksP_at {B : List UInt8} : ∀ {k : Nat} {s : Rs}, s.at_ ≤ B.length → (asksP B k s).2.at_ ≤ B.length
  | 0, s, h => h
  | k + 1, s, h => by
    rw [asksP]
    split
    · exact asksP_at (askP_at h)
    · exact h
/-- The head's numbers, one after the other. -/
def nB (B : List UInt8) : Nat → Nat × Rs
  | 0 => (0, ⟨0, 0⟩)
  | k + 1 => numP B 2 (nB B k).2
theorem nB_at (B : List UInt8) : ∀ k, (nB B k).2.at_ ≤ B.length
  | 0 => Nat.zero_le _
  | k + 1 => numP_at (nB_at B k)
theorem nB_le (B : List UInt8) (k : Nat) : (nB B k).1 ≤ 65535 := by
  cases k with
  | zero => simp [nB]
  | succ k =>
    have := beN_le (rawP B 2 (nB B k).2).1
    rw [rawP_len] at this
    rw [nB]
    unfold numP; dsimp only; omega
def Ms.zero : Ms := ⟨0, 0, [], [], [], []⟩
def lastP (B : List UInt8) : Rs := (recsP B (nB B 6).1 (recsP B (nB B 5).1 (recsP B (nB B 4).1 (asksP B (nB B 3).1 (nB B 6).2).2).2).2).2
def endP (B : List UInt8) : Rs := if (lastP B).at_ ≠ B.length then failP (lastP B) 2 else lastP B
/-- What Read answers. -/
def readP (B : List UInt8) : Ms × Int :=
  if 1232 < B.length then (Ms.zero, 3)
  else if (endP B).e ≠ 0 then (Ms.zero, (endP B).e)
  else (⟨((nB B 1).1 : Int), ((nB B 2).1 : Int), (asksP B (nB B 3).1 (nB B 6).2).1, (recsP B (nB B 4).1 (asksP B (nB B 3).1 (nB B 6).2).2).1, (recsP B (nB B 5).1 (recsP B (nB B 4).1 (asksP B (nB B 3).1 (nB B 6).2).2).2).1,
    (recsP B (nB B 6).1 (recsP B (nB B 5).1 (recsP B (nB B 4).1 (asksP B (nB B 3).1 (nB B 6).2).2).2).2).1⟩, 0)
theorem Ms0.zero (g : G) : Ms0 g [.int .i64 0, .int .i64 0, .slice none 0 0, .slice none 0 0, .slice none 0 0, .slice none 0 0] Ms.zero :=
  ⟨_, _, _, _, rfl, Rd.nil _ _ _ none 0 (by decide), Rd.nil _ _ _ none 0 (by decide), Rd.nil _ _ _ none 0 (by decide), Rd.nil _ _ _ none 0 (by decide)⟩
theorem one6 {a b : Int} {v w x y : Value} (h1 : v.oneCell' = true) (h2 : w.oneCell' = true) (h3 : x.oneCell' = true) (h4 : y.oneCell' = true) : ∀ u ∈ [Value.int .i64 a, .int .i64 b, v, w, x, y], u.oneCell' = true := by
  intro u hu
  simp only [List.mem_cons, List.not_mem_nil, or_false] at hu
  rcases hu with rfl | rfl | rfl | rfl | rfl | rfl
  · rfl
  · rfl
  · exact h1
  · exact h2
  · exact h3
  · exact h4

set_option maxHeartbeats 1000000 in
set_option maxRecDepth 4000 in
theorem wire_Read (B : List UInt8) (vB : Value) (g : G) (hB : Rd g 0 El.u8 vB B) (hl : B.length ≤ 1000000000) :
    Fn Try.prog 36 [vB] g [] fun u h => ∃ vs, u = .tuple #[.agg vs.toArray, .int .i64 (readP B).2] ∧ Ms0 h vs (readP B).1 := by
  refine enterG [] [61, 70, 71, 72, 73, 74, 76] Try.func36 rfl Try.ntmps36 rfl (by simp) fun g1 hv ho => ?_
  replace hB := hB.view hv (.inl rfl)
  repeat (first|refine q1 ?_|refine q2 ?_|refine q3 ?_|refine q4 ?_|refine q5 ?_|refine q6 ?_|refine w_seq ?_|refine w_region ?_|refine w_ops_nil ?_|refine w_skip ?_|refine w_block ?_|refine w_blk ?_|refine q7 ?_|refine q8 ?_|refine q9 ?_)
  refine w_alloc 70 (vs := [.int .i64 0, .int .i64 0, .slice none 0 0, .slice none 0 0, .slice none 0 0, .slice none 0 0]) rfl rfl fun h1 b2 hs1 hc2 => ?_
  have hst : Step [] [61, 70, 71, 72, 73, 74, 76] g1 h1 := hs1.nil
  replace hB := hB.go hs1
  repeat (first|refine q1 ?_|refine q2 ?_|refine q3 ?_|refine q4 ?_|refine q5 ?_|refine q6 ?_|refine w_seq ?_|refine w_region ?_|refine w_ops_nil ?_|refine w_skip ?_|refine w_block ?_|refine w_blk ?_|refine q7 ?_|refine q8 ?_|refine q9 ?_)
  refine w_lenSl hB.isSl rfl rfl ?_
  repeat (first|refine q1 ?_|refine q2 ?_|refine q3 ?_|refine q4 ?_|refine q5 ?_|refine q6 ?_|refine w_seq ?_|refine w_region ?_|refine w_ops_nil ?_|refine w_skip ?_|refine w_block ?_|refine w_blk ?_|refine q7 ?_|refine q8 ?_|refine q9 ?_)
  refine w_condP rfl (fun hx => ?_) (fun hx => ?_)
  · repeat (first|refine q1 ?_|refine q2 ?_|refine q3 ?_|refine q4 ?_|refine q5 ?_|refine q6 ?_|refine w_seq ?_|refine w_region ?_|refine w_ops_nil ?_|refine w_skip ?_|refine w_block ?_|refine w_blk ?_|refine q7 ?_|refine q8 ?_|refine q9 ?_)
    refine w_build (vs := []) (r := [.int .i64 0, .int .i64 0, .slice none 0 0, .slice none 0 0, .slice none 0 0, .slice none 0 0]) rfl rfl rfl ?_
    refine w_store (us := [.int .i64 0, .int .i64 0, .slice none 0 0, .slice none 0 0, .slice none 0 0, .slice none 0 0]) (vs' := [.int .i64 0, .int .i64 0, .slice none 0 0, .slice none 0 0, .slice none 0 0, .slice none 0 0]) hc2 rfl rfl rfl rfl (one6 rfl rfl rfl rfl) (show 0 + 6 ≤ 6 by decide) rfl fun h2 hb2 hs2 hc2 => ?_
    replace hst := hst.go hs2
    repeat (first|refine q1 ?_|refine q2 ?_|refine q3 ?_|refine q4 ?_|refine q5 ?_|refine q6 ?_|refine w_seq ?_|refine w_region ?_|refine w_ops_nil ?_|refine w_skip ?_|refine w_block ?_|refine w_blk ?_|refine q7 ?_|refine q8 ?_|refine q9 ?_)
    refine w_retG (resCs1 hc2 rfl rfl rfl rfl rfl) hst fun h' hv' => ?_
    unfold readP; rw [if_pos (by omega)]
    exact ⟨_, rfl, Ms0.zero _⟩
  have hl2 : B.length ≤ 1232 := by omega
  have hrd : readP B = if (endP B).e ≠ 0 then (Ms.zero, (endP B).e) else (⟨((nB B 1).1 : Int), ((nB B 2).1 : Int), (asksP B (nB B 3).1 (nB B 6).2).1, (recsP B (nB B 4).1 (asksP B (nB B 3).1 (nB B 6).2).2).1, (recsP B (nB B 5).1 (recsP B (nB B 4).1 (asksP B (nB B 3).1 (nB B 6).2).2).2).1,
    (recsP B (nB B 6).1 (recsP B (nB B 5).1 (recsP B (nB B 4).1 (asksP B (nB B 3).1 (nB B 6).2).2).2).2).1⟩, 0) := by
    show (if 1232 < B.length then _ else _) = _
    rw [if_neg (by omega)]
  rw [hrd]
  clear hrd
  have hnl := fun k => nB_le B k
  have hna := fun k => nB_at B k
  obtain ⟨A, cap, hvB, _⟩ := hB.len
  repeat (first|refine q1 ?_|refine q2 ?_|refine q3 ?_|refine q4 ?_|refine q5 ?_|refine q6 ?_|refine w_seq ?_|refine w_region ?_|refine w_ops_nil ?_|refine w_skip ?_|refine w_block ?_|refine w_blk ?_|refine q7 ?_|refine q8 ?_|refine q9 ?_)
  refine w_build (vs := [(0, vB)]) (r := [vB, .int .i64 0, .int .i64 0]) rfl (by rw [hvB]; rfl) rfl ?_
  refine w_box 61 (vs := [vB, .int .i64 0, .int .i64 0]) rfl rfl rfl fun h2 p hs2 hr => ?_
  have hr : Rr h2 p vB (nB B 0).2 := hr
  replace hst := hst.go hs2; replace hB := hB.go hs2; replace hc2 := hc2.go hs2
  repeat (first|refine q1 ?_|refine q2 ?_|refine q3 ?_|refine q4 ?_|refine q5 ?_|refine q6 ?_|refine w_seq ?_|refine w_region ?_|refine w_ops_nil ?_|refine w_skip ?_|refine w_block ?_|refine w_blk ?_|refine q7 ?_|refine q8 ?_|refine q9 ?_)
  refine w_callF (vs := [.pointer (some ⟨p, 0, none⟩), .int .i64 2]) rfl (rd_number p vB B 2 (nB B 0).2 h2 hr hB (by omega) (by omega) (by have := hna 0; omega)) rfl fun u h3 hs3 hR => ?_
  obtain ⟨rfl, hr⟩ := hR
  have hr : Rr h3 p vB (nB B 1).2 := hr
  replace hst := hst.trans (hs3.mono (by simp) (by simp))
  replace hB := hB.go hs3; replace hc2 := hc2.go hs3
  repeat (first|refine q1 ?_|refine q2 ?_|refine q3 ?_|refine q4 ?_|refine q5 ?_|refine q6 ?_|refine w_seq ?_|refine w_region ?_|refine w_ops_nil ?_|refine w_skip ?_|refine w_block ?_|refine w_blk ?_|refine q7 ?_|refine q8 ?_|refine q9 ?_)
  refine w_known 22 (.int .i64 ((nB B 1).1 : Int)) rfl rfl ?_
  refine w_callF (vs := [.pointer (some ⟨p, 0, none⟩), .int .i64 2]) rfl (rd_number p vB B 2 (nB B 1).2 h3 hr hB (by omega) (by omega) (by have := hna 1; omega)) rfl fun u h4 hs4 hR => ?_
  obtain ⟨rfl, hr⟩ := hR
  have hr : Rr h4 p vB (nB B 2).2 := hr
  replace hst := hst.trans (hs4.mono (by simp) (by simp))
  replace hB := hB.go hs4; replace hc2 := hc2.go hs4
  refine w_known 24 (.int .i64 ((nB B 2).1 : Int)) rfl rfl ?_
  refine w_build (vs := [(0, .int .i64 ((nB B 1).1 : Int)), (1, .int .i64 ((nB B 2).1 : Int))]) (r := [.int .i64 ((nB B 1).1 : Int), .int .i64 ((nB B 2).1 : Int), .slice none 0 0, .slice none 0 0, .slice none 0 0, .slice none 0 0]) rfl rfl rfl ?_
  refine w_alloc 71 (vs := [.int .i64 0, .int .i64 0, .slice none 0 0, .slice none 0 0, .slice none 0 0, .slice none 0 0]) rfl rfl fun h5 b5 hs5 hc5 => ?_
  replace hst := hst.go hs5; replace hB := hB.go hs5; replace hc2 := hc2.go hs5; replace hr := hr.go hs5
  refine w_store (us := [.int .i64 ((nB B 1).1 : Int), .int .i64 ((nB B 2).1 : Int), .slice none 0 0, .slice none 0 0, .slice none 0 0, .slice none 0 0]) (vs' := [.int .i64 ((nB B 1).1 : Int), .int .i64 ((nB B 2).1 : Int), .slice none 0 0, .slice none 0 0, .slice none 0 0, .slice none 0 0]) hc5 rfl rfl rfl rfl (one6 rfl rfl rfl rfl) (show 0 + 6 ≤ 6 by decide) rfl fun h6 hb6 hs6 hc5 => ?_
  replace hst := hst.go hs6; replace hB := hB.go hs6; replace hc2 := hc2.go hs6; replace hr := hr.go hs6
  repeat (first|refine q1 ?_|refine q2 ?_|refine q3 ?_|refine q4 ?_|refine q5 ?_|refine q6 ?_|refine w_seq ?_|refine w_region ?_|refine w_ops_nil ?_|refine w_skip ?_|refine w_block ?_|refine w_blk ?_|refine q7 ?_|refine q8 ?_|refine q9 ?_)
  refine w_callF (vs := [.pointer (some ⟨p, 0, none⟩), .int .i64 2]) rfl (rd_number p vB B 2 (nB B 2).2 h6 hr hB (by omega) (by omega) (by have := hna 2; omega)) rfl fun u h7 hs7 hR => ?_
  obtain ⟨rfl, hr⟩ := hR
  have hr : Rr h7 p vB (nB B 3).2 := hr
  replace hst := hst.trans (hs7.mono (by simp) (by simp))
  replace hB := hB.go hs7; replace hc2 := hc2.go hs7; replace hc5 := hc5.go hs7
  repeat (first|refine q1 ?_|refine q2 ?_|refine q3 ?_|refine q4 ?_|refine q5 ?_|refine q6 ?_|refine w_seq ?_|refine w_region ?_|refine w_ops_nil ?_|refine w_skip ?_|refine w_block ?_|refine w_blk ?_|refine q7 ?_|refine q8 ?_|refine q9 ?_)
  refine w_known 6 (.int .i64 ((nB B 3).1 : Int)) rfl rfl ?_
  refine w_alloc 76 (vs := [.int .i64 0, .int .i64 0, .int .i64 0]) rfl rfl fun h8 b7 hs8 hc7 => ?_
  replace hst := hst.go hs8; replace hB := hB.go hs8; replace hc2 := hc2.go hs8; replace hc5 := hc5.go hs8; replace hr := hr.go hs8
  clear hs1 hs2 hs3 hs4 hs5 hs6 hs7 hs8 hb6
  repeat (first|refine q1 ?_|refine q2 ?_|refine q3 ?_|refine q4 ?_|refine q5 ?_|refine q6 ?_|refine w_seq ?_|refine w_region ?_|refine w_ops_nil ?_|refine w_skip ?_|refine w_block ?_|refine w_blk ?_|refine q7 ?_|refine q8 ?_|refine q9 ?_)
  refine w_rounds 4 ?_
  refine w_round ?_
  repeat (first|refine q1 ?_|refine q2 ?_|refine q3 ?_|refine q4 ?_|refine q5 ?_|refine q6 ?_|refine w_seq ?_|refine w_region ?_|refine w_ops_nil ?_|refine w_skip ?_|refine w_block ?_|refine w_blk ?_|refine q7 ?_|refine q8 ?_|refine q9 ?_)
  refine w_callF (vs := [.pointer (some ⟨p, 0, none⟩), .int .i64 2]) rfl (rd_number p vB B 2 (nB B 3).2 h8 hr hB (by omega) (by omega) (by have := hna 3; omega)) rfl fun u h9 hs9 hR => ?_
  obtain ⟨rfl, hr⟩ := hR
  have hr : Rr h9 p vB (nB B 4).2 := hr
  replace hst := hst.trans (hs9.mono (by simp) (by simp))
  replace hB := hB.go hs9; replace hc2 := hc2.go hs9; replace hc5 := hc5.go hs9; replace hc7 := hc7.go hs9
  refine w_idxA rfl rfl (by omega) (by decide) rfl ?_
  refine w_store1 hc7 rfl rfl rfl (show 0 < 3 by decide) fun h10 hb10 hs10 hc7 => ?_
  replace hst := hst.go hs10; replace hB := hB.go hs10; replace hc2 := hc2.go hs10; replace hc5 := hc5.go hs10; replace hr := hr.go hs10
  repeat (first|refine q1 ?_|refine q2 ?_|refine q3 ?_|refine q4 ?_|refine q5 ?_|refine q6 ?_|refine w_seq ?_|refine w_region ?_|refine w_ops_nil ?_|refine w_skip ?_|refine w_block ?_|refine w_blk ?_|refine q7 ?_|refine q8 ?_|refine q9 ?_)
  refine w_round ?_
  repeat (first|refine q1 ?_|refine q2 ?_|refine q3 ?_|refine q4 ?_|refine q5 ?_|refine q6 ?_|refine w_seq ?_|refine w_region ?_|refine w_ops_nil ?_|refine w_skip ?_|refine w_block ?_|refine w_blk ?_|refine q7 ?_|refine q8 ?_|refine q9 ?_)
  refine w_callF (vs := [.pointer (some ⟨p, 0, none⟩), .int .i64 2]) rfl (rd_number p vB B 2 (nB B 4).2 h10 hr hB (by omega) (by omega) (by have := hna 4; omega)) rfl fun u h11 hs11 hR => ?_
  obtain ⟨rfl, hr⟩ := hR
  have hr : Rr h11 p vB (nB B 5).2 := hr
  replace hst := hst.trans (hs11.mono (by simp) (by simp))
  replace hB := hB.go hs11; replace hc2 := hc2.go hs11; replace hc5 := hc5.go hs11; replace hc7 := hc7.go hs11
  refine w_idxA rfl rfl (by omega) (by decide) rfl ?_
  refine w_store1 hc7 rfl rfl rfl (show 1 < 3 by decide) fun h12 hb12 hs12 hc7 => ?_
  replace hst := hst.go hs12; replace hB := hB.go hs12; replace hc2 := hc2.go hs12; replace hc5 := hc5.go hs12; replace hr := hr.go hs12
  repeat (first|refine q1 ?_|refine q2 ?_|refine q3 ?_|refine q4 ?_|refine q5 ?_|refine q6 ?_|refine w_seq ?_|refine w_region ?_|refine w_ops_nil ?_|refine w_skip ?_|refine w_block ?_|refine w_blk ?_|refine q7 ?_|refine q8 ?_|refine q9 ?_)
  refine w_round ?_
  repeat (first|refine q1 ?_|refine q2 ?_|refine q3 ?_|refine q4 ?_|refine q5 ?_|refine q6 ?_|refine w_seq ?_|refine w_region ?_|refine w_ops_nil ?_|refine w_skip ?_|refine w_block ?_|refine w_blk ?_|refine q7 ?_|refine q8 ?_|refine q9 ?_)
  refine w_callF (vs := [.pointer (some ⟨p, 0, none⟩), .int .i64 2]) rfl (rd_number p vB B 2 (nB B 5).2 h12 hr hB (by omega) (by omega) (by have := hna 5; omega)) rfl fun u h13 hs13 hR => ?_
  obtain ⟨rfl, hr⟩ := hR
  have hr : Rr h13 p vB (nB B 6).2 := hr
  replace hst := hst.trans (hs13.mono (by simp) (by simp))
  replace hB := hB.go hs13; replace hc2 := hc2.go hs13; replace hc5 := hc5.go hs13; replace hc7 := hc7.go hs13
  refine w_idxA rfl rfl (by omega) (by decide) rfl ?_
  refine w_store1 hc7 rfl rfl rfl (show 2 < 3 by decide) fun h14 hb14 hs14 hc7 => ?_
  have hc7 : Cell h14 76 b7 111 [.int .i64 ((nB B 4).1 : Int), .int .i64 ((nB B 5).1 : Int), .int .i64 ((nB B 6).1 : Int)] := hc7
  replace hst := hst.go hs14; replace hB := hB.go hs14; replace hc2 := hc2.go hs14; replace hc5 := hc5.go hs14; replace hr := hr.go hs14
  clear hs9 hs10 hs11 hs12 hs13 hs14 hb10 hb12 hb14
  repeat (first|refine q1 ?_|refine q2 ?_|refine q3 ?_|refine q4 ?_|refine q5 ?_|refine q6 ?_|refine w_seq ?_|refine w_region ?_|refine w_ops_nil ?_|refine w_skip ?_|refine w_block ?_|refine w_blk ?_|refine q7 ?_|refine q8 ?_|refine q9 ?_)
  refine w_round ?_
  repeat (first|refine q1 ?_|refine q2 ?_|refine q3 ?_|refine q4 ?_|refine q5 ?_|refine q6 ?_|refine w_seq ?_|refine w_region ?_|refine w_ops_nil ?_|refine w_skip ?_|refine w_blk ?_|refine q7 ?_|refine q8 ?_|refine q9 ?_)
  have hat := hna 6
  refine w_cut (ι := Value) (fun v => [(0, vB), (2, .pointer (some ⟨b2, 0, none⟩)), (4, .pointer (some ⟨p, 0, none⟩)), (5, .pointer (some ⟨b5, 0, none⟩)), (7, .pointer (some ⟨b7, 0, none⟩))])
    (fun v w => ∃ h : G, h.w = w ∧ Step [] [61, 71, 72, 74] h14 h ∧ Rr h p vB (asksP B (nB B 3).1 (nB B 6).2).2 ∧ Cell h 71 b5 46 [.int .i64 ((nB B 1).1 : Int), .int .i64 ((nB B 2).1 : Int), v, .slice none 0 0, .slice none 0 0, .slice none 0 0] ∧ Rd h 0 El.qn v (asksP B (nB B 3).1 (nB B 6).2).1) ?_ ?_
  · repeat (first|refine q1 ?_|refine q2 ?_|refine q3 ?_|refine q4 ?_|refine q5 ?_|refine q6 ?_|refine w_seq ?_|refine w_region ?_|refine w_ops_nil ?_|refine w_skip ?_|refine w_block ?_|refine w_blk ?_|refine q7 ?_|refine q8 ?_|refine q9 ?_)
    refine w_loop (ι := Value × List Qn × Rs) (fun x => [(0, vB), (2, .pointer (some ⟨b2, 0, none⟩)), (4, .pointer (some ⟨p, 0, none⟩)), (5, .pointer (some ⟨b5, 0, none⟩)), (6, .int .i64 ((nB B 3).1 : Int)), (7, .pointer (some ⟨b7, 0, none⟩)), (9, .int .i64 (x.2.1.length : Int))])
      (fun x w => ∃ h : G, h.w = w ∧ Step [] [61, 71, 72, 74] h14 h ∧ Rr h p vB x.2.2 ∧ Cell h 71 b5 46 [.int .i64 ((nB B 1).1 : Int), .int .i64 ((nB B 2).1 : Int), x.1, .slice none 0 0, .slice none 0 0, .slice none 0 0] ∧ Own h 72 El.qn 68 x.1 x.2.1 ∧ x.2.1.length ≤ (nB B 3).1 ∧ x.2.2.at_ ≤ B.length ∧ asksP B (nB B 3).1 (nB B 6).2 = (x.2.1 ++ (asksP B ((nB B 3).1 - x.2.1.length) x.2.2).1, (asksP B ((nB B 3).1 - x.2.1.length) x.2.2).2))
      (fun x => (nB B 3).1 - x.2.1.length) (.slice none 0 0, [], (nB B 6).2) ⟨h14, rfl, Step.refl _ _ _, hr, hc5, Own.nil _ _ _ _, Nat.zero_le _, hat, by simp⟩ ⟨rfl, rfl, rfl, rfl, rfl, rfl, rfl, trivial⟩ ?_
    clear hr hc5
    rintro ⟨vo, L, s⟩ _ ⟨h, rfl, hs0, hr, hc5, hown, hLc, hats, heq⟩
    dsimp only at hr hc5 hown hLc hats heq ⊢
    have hn3 := hnl 3
    replace hB := hB.step hs0 (by simp)
    have hr0 : Cell h 61 p 109 [vB, .int .i64 (s.at_ : Int), .int .i64 s.e] := hr
    repeat (first|refine q1 ?_|refine q2 ?_|refine q3 ?_|refine q4 ?_|refine q5 ?_|refine q6 ?_|refine w_seq ?_|refine w_region ?_|refine w_ops_nil ?_|refine w_skip ?_|refine w_block ?_|refine w_blk ?_|refine q7 ?_|refine q8 ?_|refine q9 ?_)
    refine w_splitP 39 rfl (fun hlt => ?_) (fun hlt => ?_)
    · repeat (first|refine q1 ?_|refine q2 ?_|refine q3 ?_|refine q4 ?_|refine q5 ?_|refine q6 ?_|refine w_seq ?_|refine w_region ?_|refine w_ops_nil ?_|refine w_skip ?_|refine w_block ?_|refine w_blk ?_|refine q7 ?_|refine q8 ?_|refine q9 ?_)
      refine w_fldA (by decide) rfl rfl ?_
      repeat (first|refine q1 ?_|refine q2 ?_|refine q3 ?_|refine q4 ?_|refine q5 ?_|refine q6 ?_|refine w_seq ?_|refine w_region ?_|refine w_ops_nil ?_|refine w_skip ?_|refine w_block ?_|refine w_blk ?_|refine q7 ?_|refine q8 ?_|refine q9 ?_)
      refine w_load1 (v := .int .i64 s.e) hr0 rfl rfl rfl rfl ?_
      repeat (first|refine q1 ?_|refine q2 ?_|refine q3 ?_|refine q4 ?_|refine q5 ?_|refine q6 ?_|refine w_seq ?_|refine w_region ?_|refine w_ops_nil ?_|refine w_skip ?_|refine w_block ?_|refine w_blk ?_|refine q7 ?_|refine q8 ?_|refine q9 ?_)
      refine w_condP rfl (fun he => ?_) (fun he => ?_)
      · have hlt2 : L.length < (nB B 3).1 := by omega
        have hstep : asksP B ((nB B 3).1 - L.length) s = ((askP B s).1 :: (asksP B ((nB B 3).1 - (L.length + 1)) (askP B s).2).1, (asksP B ((nB B 3).1 - (L.length + 1)) (askP B s).2).2) := by
          rw [show (nB B 3).1 - L.length = ((nB B 3).1 - (L.length + 1)) + 1 by omega, asksP, if_pos he]
        have hat1 := nameP_at hats
        have hat2 := numP_at (n := 2) hat1
        have hat3 := askP_at hats
        have hnu : ∀ s : Rs, (numP B 2 s).1 ≤ 65535 := fun s => by
          have := beN_le (rawP B 2 s).1
          rw [rawP_len] at this
          unfold numP; dsimp only; omega
        repeat (first|refine q1 ?_|refine q2 ?_|refine q3 ?_|refine q4 ?_|refine q5 ?_|refine q6 ?_|refine w_seq ?_|refine w_region ?_|refine w_ops_nil ?_|refine w_skip ?_|refine w_block ?_|refine w_blk ?_|refine q7 ?_|refine q8 ?_|refine q9 ?_)
        refine w_callF (vs := [.pointer (some ⟨p, 0, none⟩)]) rfl (rd_name p vB B s h hr hB (by omega) (by omega)) rfl fun u y1 hy1 hR => ?_
        obtain ⟨rfl, hr⟩ := hR
        replace hs0 := hs0.trans (hy1.mono (by simp) (by simp))
        replace hB := hB.go hy1; replace hc5 := hc5.go hy1; replace hown := hown.go hy1
        repeat (first|refine q1 ?_|refine q2 ?_|refine q3 ?_|refine q4 ?_|refine q5 ?_|refine q6 ?_|refine w_seq ?_|refine w_region ?_|refine w_ops_nil ?_|refine w_skip ?_|refine w_block ?_|refine w_blk ?_|refine q7 ?_|refine q8 ?_|refine q9 ?_)
        refine w_build (vs := [(0, str (nameP B s).1)]) (r := El.qn.enc ⟨(nameP B s).1, 0, 0⟩) rfl rfl rfl ?_
        refine w_alloc 74 (vs := El.qn.enc ⟨[], 0, 0⟩) rfl rfl fun y2 b10 hy2 hc10 => ?_
        replace hs0 := hs0.go hy2; replace hB := hB.go hy2; replace hc5 := hc5.go hy2; replace hown := hown.go hy2; replace hr := hr.go hy2
        refine w_store (us := El.qn.enc ⟨(nameP B s).1, 0, 0⟩) (vs' := El.qn.enc ⟨(nameP B s).1, 0, 0⟩) hc10 rfl rfl rfl rfl (El.qn.flat _) (show 0 + 3 ≤ 3 by decide) rfl fun y3 hyb3 hy3 hc10 => ?_
        replace hs0 := hs0.trans (hy3.mono (by simp) (by simp))
        replace hB := hB.go hy3; replace hc5 := hc5.go hy3; replace hown := hown.go hy3; replace hr := hr.go hy3
        repeat (first|refine q1 ?_|refine q2 ?_|refine q3 ?_|refine q4 ?_|refine q5 ?_|refine q6 ?_|refine w_seq ?_|refine w_region ?_|refine w_ops_nil ?_|refine w_skip ?_|refine w_block ?_|refine w_blk ?_|refine q7 ?_|refine q8 ?_|refine q9 ?_)
        refine w_callF (vs := [.pointer (some ⟨p, 0, none⟩), .int .i64 2]) rfl (rd_number p vB B 2 (nameP B s).2 y3 hr hB (by omega) (by omega) (by omega)) rfl fun u y4 hy4 hR => ?_
        obtain ⟨rfl, hr⟩ := hR
        replace hs0 := hs0.trans (hy4.mono (by simp) (by simp))
        replace hB := hB.go hy4; replace hc5 := hc5.go hy4; replace hown := hown.go hy4; replace hc10 := hc10.go hy4
        repeat (first|refine q1 ?_|refine q2 ?_|refine q3 ?_|refine q4 ?_|refine q5 ?_|refine q6 ?_|refine w_seq ?_|refine w_region ?_|refine w_ops_nil ?_|refine w_skip ?_|refine w_block ?_|refine w_blk ?_|refine q7 ?_|refine q8 ?_|refine q9 ?_)
        refine w_callF (vs := [.pointer (some ⟨p, 0, none⟩), .int .i64 2]) rfl (rd_number p vB B 2 (numP B 2 (nameP B s).2).2 y4 hr hB (by omega) (by omega) (by omega)) rfl fun u y5 hy5 hR => ?_
        obtain ⟨rfl, hr⟩ := hR
        replace hs0 := hs0.trans (hy5.mono (by simp) (by simp))
        replace hB := hB.go hy5; replace hc5 := hc5.go hy5; replace hown := hown.go hy5; replace hc10 := hc10.go hy5
        repeat (first|refine q1 ?_|refine q2 ?_|refine q3 ?_|refine q4 ?_|refine q5 ?_|refine q6 ?_|refine w_seq ?_|refine w_region ?_|refine w_ops_nil ?_|refine w_skip ?_|refine w_block ?_|refine w_blk ?_|refine q7 ?_|refine q8 ?_|refine q9 ?_)
        refine w_fldA (by decide) rfl rfl ?_
        refine w_store1 hc10 rfl rfl rfl (show 1 < 3 by decide) fun y6 hyb6 hy6 hc10 => ?_
        replace hs0 := hs0.trans (hy6.mono (by simp) (by simp))
        replace hB := hB.go hy6; replace hc5 := hc5.go hy6; replace hown := hown.go hy6; replace hr := hr.go hy6
        repeat (first|refine q1 ?_|refine q2 ?_|refine q3 ?_|refine q4 ?_|refine q5 ?_|refine q6 ?_|refine w_seq ?_|refine w_region ?_|refine w_ops_nil ?_|refine w_skip ?_|refine w_block ?_|refine w_blk ?_|refine q7 ?_|refine q8 ?_|refine q9 ?_)
        refine w_fldA (by decide) rfl rfl ?_
        refine w_store1 hc10 rfl rfl rfl (show 2 < 3 by decide) fun y7 hyb7 hy7 hc10 => ?_
        replace hs0 := hs0.trans (hy7.mono (by simp) (by simp))
        have hc10 : Cell y7 74 b10 68 (El.qn.enc (askP B s).1) := hc10
        replace hB := hB.go hy7; replace hc5 := hc5.go hy7; replace hown := hown.go hy7; replace hr := hr.go hy7
        repeat (first|refine q1 ?_|refine q2 ?_|refine q3 ?_|refine q4 ?_|refine q5 ?_|refine q6 ?_|refine w_seq ?_|refine w_region ?_|refine w_ops_nil ?_|refine w_skip ?_|refine w_block ?_|refine w_blk ?_|refine q7 ?_|refine q8 ?_|refine q9 ?_)
        refine w_fldA (by decide) rfl rfl ?_
        refine w_load1 (v := vo) hc5 rfl rfl rfl rfl ?_
        repeat (first|refine q1 ?_|refine q2 ?_|refine q3 ?_|refine q4 ?_|refine q5 ?_|refine q6 ?_|refine w_seq ?_|refine w_region ?_|refine w_ops_nil ?_|refine w_skip ?_|refine w_block ?_|refine w_blk ?_|refine q7 ?_|refine q8 ?_|refine q9 ?_)
        refine w_loadS (us := El.qn.enc (askP B s).1) hc10 rfl rfl rfl rfl rfl ?_
        refine w_buildSlR El.qn [(askP B s).1] rfl rfl rfl rfl fun y8 v8 hy8 hr8 => ?_
        replace hs0 := hs0.go hy8; replace hB := hB.go hy8; replace hc5 := hc5.go hy8; replace hown := hown.go hy8; replace hr := hr.go hy8
        refine w_append hown hr8 rfl rfl rfl (by decide) (by simp only [List.length_cons, List.length_nil]; omega) rfl fun y9 v9 hy9 ho9 => ?_
        replace hs0 := hs0.trans (hy9.mono (by simp) (by simp))
        replace hB := hB.go hy9; replace hc5 := hc5.go hy9; replace hr := hr.go hy9
        repeat (first|refine q1 ?_|refine q2 ?_|refine q3 ?_|refine q4 ?_|refine q5 ?_|refine q6 ?_|refine w_seq ?_|refine w_region ?_|refine w_ops_nil ?_|refine w_skip ?_|refine w_block ?_|refine w_blk ?_|refine q7 ?_|refine q8 ?_|refine q9 ?_)
        refine w_fldA (by decide) rfl rfl ?_
        refine w_store1 hc5 rfl rfl ho9.isSl.one (show 2 < 6 by decide) fun y10 hyb10 hy10 hc5 => ?_
        replace hs0 := hs0.trans (hy10.mono (by simp) (by simp))
        replace hr := hr.go hy10; replace ho9 := ho9.go hy10
        repeat (first|refine q1 ?_|refine q2 ?_|refine q3 ?_|refine q4 ?_|refine q5 ?_|refine q6 ?_|refine w_seq ?_|refine w_region ?_|refine w_ops_nil ?_|refine w_skip ?_|refine w_block ?_|refine w_blk ?_|refine q7 ?_|refine q8 ?_|refine q9 ?_)
        refine w_again (v9, L ++ [(askP B s).1], (askP B s).2) (by simp only [List.length_append, List.length_cons, List.length_nil]; omega) ⟨y10, rfl, hs0, hr, hc5, ho9, by simp only [List.length_append, List.length_cons, List.length_nil]; omega, hat3, ?_⟩ ⟨rfl, rfl, rfl, rfl, rfl, rfl, congrArg (fun z => some (Value.int .i64 z)) (by simp only [List.length_append, List.length_cons, List.length_nil]; push_cast; rfl), trivial⟩
        rw [heq, hstep]
        simp only [List.length_append, List.length_cons, List.length_nil, List.append_assoc, List.cons_append, List.nil_append]
      · have : asksP B ((nB B 3).1 - L.length) s = ([], s) := asksP_stop _ _ _ he
        rw [this, List.append_nil] at heq
        repeat (first|refine q1 ?_|refine q2 ?_|refine q3 ?_|refine q4 ?_|refine q5 ?_|refine q6 ?_|refine w_seq ?_|refine w_region ?_|refine w_ops_nil ?_|refine w_skip ?_|refine w_block ?_|refine w_blk ?_|refine q7 ?_|refine q8 ?_|refine q9 ?_)
        obtain ⟨h2, hw2, hs2, hrd⟩ := hown.freeze (by decide)
        rw [← hw2]
        exact w_meet vo ⟨h2, rfl, hs0.trans (hs2.mono (by simp) (by simp)), by rw [heq]; exact hr.go hs2, hc5.go hs2, by rw [heq]; exact hrd⟩ ⟨rfl, rfl, rfl, rfl, rfl, trivial⟩
    · rw [show (nB B 3).1 - L.length = 0 by omega, asksP, List.append_nil] at heq
      repeat (first|refine q1 ?_|refine q2 ?_|refine q3 ?_|refine q4 ?_|refine q5 ?_|refine q6 ?_|refine w_seq ?_|refine w_region ?_|refine w_ops_nil ?_|refine w_skip ?_|refine w_block ?_|refine w_blk ?_|refine q7 ?_|refine q8 ?_|refine q9 ?_)
      obtain ⟨h2, hw2, hs2, hrd⟩ := hown.freeze (by decide)
      rw [← hw2]
      exact w_meet vo ⟨h2, rfl, hs0.trans (hs2.mono (by simp) (by simp)), by rw [heq]; exact hr.go hs2, hc5.go hs2, by rw [heq]; exact hrd⟩ ⟨rfl, rfl, rfl, rfl, rfl, trivial⟩
  clear hr hc5
  rintro vq _ ⟨y0, rfl, hs0, hr, hc5, hrq⟩
  have hat := asksP_at (k := (nB B 3).1) hat
  replace hst := hst.trans (hs0.mono (by simp) (by simp))
  replace hB := hB.step hs0 (by simp)
  replace hc7 := hc7.step hs0 (by simp) (by simp)
  replace hc2 := hc2.step hs0 (by simp) (by simp)
  clear hs0
  have hn4 := hnl 4
  have hn5 := hnl 5
  have hn6 := hnl 6
  repeat (first|refine q1 ?_|refine q2 ?_|refine q3 ?_|refine q4 ?_|refine q5 ?_|refine q6 ?_|refine w_seq ?_|refine w_region ?_|refine w_ops_nil ?_|refine w_skip ?_|refine w_block ?_|refine w_blk ?_|refine q7 ?_|refine q8 ?_|refine q9 ?_)
  refine w_callF (vs := [.pointer (some ⟨b5, 0, none⟩)]) rfl (wire_lists b5 y0) rfl fun vl k0 hs0 hl2 => ?_
  replace hst := hst.go hs0; replace hB := hB.go hs0; replace hc7 := hc7.go hs0; replace hc2 := hc2.go hs0; replace hc5 := hc5.go hs0; replace hr := hr.go hs0; replace hrq := hrq.go hs0
  clear hs0
  refine w_lenSl hl2.isSl rfl rfl ?_
  refine w_known 64 (.int .i64 3) rfl rfl ?_
  repeat (first|refine q1 ?_|refine q2 ?_|refine q3 ?_|refine q4 ?_|refine q5 ?_|refine q6 ?_|refine w_seq ?_|refine w_region ?_|refine w_ops_nil ?_|refine w_skip ?_|refine w_block ?_|refine w_blk ?_|refine q7 ?_|refine q8 ?_|refine q9 ?_)
  refine w_rounds 4 ?_
  refine w_round ?_
  repeat (first|refine q1 ?_|refine q2 ?_|refine q3 ?_|refine q4 ?_|refine q5 ?_|refine q6 ?_|refine w_seq ?_|refine w_region ?_|refine w_ops_nil ?_|refine w_skip ?_|refine w_block ?_|refine w_blk ?_|refine q7 ?_|refine q8 ?_|refine q9 ?_)
  refine w_idx hl2 rfl rfl (by omega) (by simp only [List.length_cons, List.length_nil]; omega) rfl ?_
  refine w_loadE (i := 0) (y := ⟨b5, 3, none⟩) hl2 rfl rfl rfl rfl ?_
  repeat (first|refine q1 ?_|refine q2 ?_|refine q3 ?_|refine q4 ?_|refine q5 ?_|refine q6 ?_|refine w_seq ?_|refine w_region ?_|refine w_ops_nil ?_|refine w_skip ?_|refine w_blk ?_|refine q7 ?_|refine q8 ?_|refine q9 ?_)
  refine w_cut (ι := Value) (fun v => [(0, vB), (2, .pointer (some ⟨b2, 0, none⟩)), (4, .pointer (some ⟨p, 0, none⟩)), (5, .pointer (some ⟨b5, 0, none⟩)), (7, .pointer (some ⟨b7, 0, none⟩)), (63, vl), (64, .int .i64 3), (65, .int .i64 0)])
    (fun v w => ∃ h : G, h.w = w ∧ Step [] [61, 71, 73] k0 h ∧ Rr h p vB (recsP B (nB B 4).1 (asksP B (nB B 3).1 (nB B 6).2).2).2 ∧ Cell h 71 b5 46 [.int .i64 ((nB B 1).1 : Int), .int .i64 ((nB B 2).1 : Int), vq, v, .slice none 0 0, .slice none 0 0] ∧ Rd h 0 El.rc v (recsP B (nB B 4).1 (asksP B (nB B 3).1 (nB B 6).2).2).1) ?_ ?_
  · repeat (first|refine q1 ?_|refine q2 ?_|refine q3 ?_|refine q4 ?_|refine q5 ?_|refine q6 ?_|refine w_seq ?_|refine w_region ?_|refine w_ops_nil ?_|refine w_skip ?_|refine w_block ?_|refine w_blk ?_|refine q7 ?_|refine q8 ?_|refine q9 ?_)
    refine w_loop (ι := Value × List Rc × Rs) (fun x => [(0, vB), (2, .pointer (some ⟨b2, 0, none⟩)), (4, .pointer (some ⟨p, 0, none⟩)), (5, .pointer (some ⟨b5, 0, none⟩)), (7, .pointer (some ⟨b7, 0, none⟩)), (63, vl), (64, .int .i64 3), (65, .int .i64 0), (11, .int .i64 0), (12, .pointer (some ⟨b5, 3, none⟩)), (13, .int .i64 (x.2.1.length : Int))])
      (fun x w => ∃ h : G, h.w = w ∧ Step [] [61, 71, 73] k0 h ∧ Rr h p vB x.2.2 ∧ Cell h 71 b5 46 [.int .i64 ((nB B 1).1 : Int), .int .i64 ((nB B 2).1 : Int), vq, x.1, .slice none 0 0, .slice none 0 0] ∧ Own h 73 El.rc 52 x.1 x.2.1 ∧ x.2.1.length ≤ (nB B 4).1 ∧ x.2.2.at_ ≤ B.length ∧ recsP B (nB B 4).1 (asksP B (nB B 3).1 (nB B 6).2).2 = (x.2.1 ++ (recsP B ((nB B 4).1 - x.2.1.length) x.2.2).1, (recsP B ((nB B 4).1 - x.2.1.length) x.2.2).2))
      (fun x => (nB B 4).1 - x.2.1.length) (.slice none 0 0, [], (asksP B (nB B 3).1 (nB B 6).2).2) ⟨k0, rfl, Step.refl _ _ _, hr, hc5, Own.nil _ _ _ _, Nat.zero_le _, hat, by simp⟩ ⟨rfl, rfl, rfl, rfl, rfl, rfl, rfl, rfl, rfl, rfl, rfl, trivial⟩ ?_
    clear hr hc5
    rintro ⟨vo, L, s⟩ _ ⟨h, rfl, hs0, hr, hc5, hown, hLc, hats, heq⟩
    dsimp only at hr hc5 hown hLc hats heq ⊢
    replace hB := hB.step hs0 (by simp)
    replace hc7 := hc7.step hs0 (by simp) (by simp)
    have hr0 : Cell h 61 p 109 [vB, .int .i64 (s.at_ : Int), .int .i64 s.e] := hr
    repeat (first|refine q1 ?_|refine q2 ?_|refine q3 ?_|refine q4 ?_|refine q5 ?_|refine q6 ?_|refine w_seq ?_|refine w_region ?_|refine w_ops_nil ?_|refine w_skip ?_|refine w_block ?_|refine w_blk ?_|refine q7 ?_|refine q8 ?_|refine q9 ?_)
    refine w_idxA rfl rfl (by omega) (by decide) rfl ?_
    refine w_load1 (v := .int .i64 ((nB B 4).1 : Int)) hc7 rfl rfl rfl rfl ?_
    repeat (first|refine q1 ?_|refine q2 ?_|refine q3 ?_|refine q4 ?_|refine q5 ?_|refine q6 ?_|refine w_seq ?_|refine w_region ?_|refine w_ops_nil ?_|refine w_skip ?_|refine w_block ?_|refine w_blk ?_|refine q7 ?_|refine q8 ?_|refine q9 ?_)
    refine w_splitP 75 rfl (fun hlt => ?_) (fun hlt => ?_)
    · repeat (first|refine q1 ?_|refine q2 ?_|refine q3 ?_|refine q4 ?_|refine q5 ?_|refine q6 ?_|refine w_seq ?_|refine w_region ?_|refine w_ops_nil ?_|refine w_skip ?_|refine w_block ?_|refine w_blk ?_|refine q7 ?_|refine q8 ?_|refine q9 ?_)
      refine w_fldA (by decide) rfl rfl ?_
      repeat (first|refine q1 ?_|refine q2 ?_|refine q3 ?_|refine q4 ?_|refine q5 ?_|refine q6 ?_|refine w_seq ?_|refine w_region ?_|refine w_ops_nil ?_|refine w_skip ?_|refine w_block ?_|refine w_blk ?_|refine q7 ?_|refine q8 ?_|refine q9 ?_)
      refine w_load1 (v := .int .i64 s.e) hr0 rfl rfl rfl rfl ?_
      repeat (first|refine q1 ?_|refine q2 ?_|refine q3 ?_|refine q4 ?_|refine q5 ?_|refine q6 ?_|refine w_seq ?_|refine w_region ?_|refine w_ops_nil ?_|refine w_skip ?_|refine w_block ?_|refine w_blk ?_|refine q7 ?_|refine q8 ?_|refine q9 ?_)
      refine w_condP rfl (fun he => ?_) (fun he => ?_)
      · have hlt2 : L.length < (nB B 4).1 := by omega
        have hstep : recsP B ((nB B 4).1 - L.length) s = ((rdRec B s).1 :: (recsP B ((nB B 4).1 - (L.length + 1)) (rdRec B s).2).1, (recsP B ((nB B 4).1 - (L.length + 1)) (rdRec B s).2).2) := by
          rw [show (nB B 4).1 - L.length = ((nB B 4).1 - (L.length + 1)) + 1 by omega, recsP, if_pos he]
        have hat2 := rdRec_at hats
        repeat (first|refine q1 ?_|refine q2 ?_|refine q3 ?_|refine q4 ?_|refine q5 ?_|refine q6 ?_|refine w_seq ?_|refine w_region ?_|refine w_ops_nil ?_|refine w_skip ?_|refine w_block ?_|refine w_blk ?_|refine q7 ?_|refine q8 ?_|refine q9 ?_)
        refine d_begin (some 9) [61, 73] (by kernel_rfl) fun g2 hsd => ?_
        replace hr := hr.go hsd; replace hc5 := hc5.go hsd; replace hB := hB.go hsd; replace hown := hown.go hsd; replace hs0 := hs0.go hsd
        refine d_pure 0 calm_ret rfl (by kernel_rfl) rfl rfl ?_; refine d_pure 1 calm_ret rfl (by kernel_rfl) rfl rfl ?_; refine d_pure 2 calm_ret rfl (by kernel_rfl) rfl rfl ?_
        refine d_read 3 calm_ret rfl (by kernel_rfl) rfl  (fun h hs => r_load1 (v := vo) (hc5.step hs (by simp) (by simp)) rfl rfl rfl) ?_
        refine d_pure 4 calm_ret rfl (by kernel_rfl) rfl rfl ?_
        refine d_exec1 5 (by kernel_rfl) rfl ?_
        refine w_callF (vs := [.pointer (some ⟨p, 0, none⟩)]) rfl (rd_record p vB B s g2 hr hB (by omega) hats) rfl fun u y1 hy1 hR => ?_
        obtain ⟨rfl, hr⟩ := hR
        have hss : Step [] [61, 73] g2 y1 := hy1.mono (by simp) (by simp)
        replace hs0 := hs0.trans (hy1.mono (by simp) (by simp))
        replace hc5 := hc5.go hy1; replace hown := hown.go hy1
        repeat (first|refine q1 ?_|refine q2 ?_|refine q3 ?_|refine q4 ?_|refine q5 ?_|refine q6 ?_|refine w_seq ?_|refine w_region ?_|refine w_ops_nil ?_|refine w_skip ?_|refine w_block ?_|refine w_blk ?_|refine q7 ?_|refine q8 ?_|refine q9 ?_)
        refine d_next (fun _ => ⟨y1, rfl, hss⟩) ?_
        refine d_exec1 6 (by kernel_rfl) rfl ?_
        refine w_buildSlR El.rc [(rdRec B s).1] rfl rfl rfl rfl fun y2 v2 hy2 hr2 => ?_
        replace hss := hss.go hy2; replace hs0 := hs0.go hy2; replace hr := hr.go hy2; replace hc5 := hc5.go hy2; replace hown := hown.go hy2
        repeat (first|refine q1 ?_|refine q2 ?_|refine q3 ?_|refine q4 ?_|refine q5 ?_|refine q6 ?_|refine w_seq ?_|refine w_region ?_|refine w_ops_nil ?_|refine w_skip ?_|refine w_block ?_|refine w_blk ?_|refine q7 ?_|refine q8 ?_|refine q9 ?_)
        refine d_next (fun _ => ⟨y2, rfl, hss⟩) ?_
        refine d_exec1 7 (by kernel_rfl) rfl ?_
        refine w_append hown hr2 rfl rfl rfl (by decide) (by simp only [List.length_cons, List.length_nil]; omega) rfl fun y3 v3 hy3 ho3 => ?_
        replace hss := hss.trans (hy3.mono (by simp) (by simp))
        replace hs0 := hs0.trans (hy3.mono (by simp) (by simp))
        replace hr := hr.go hy3; replace hc5 := hc5.go hy3
        repeat (first|refine q1 ?_|refine q2 ?_|refine q3 ?_|refine q4 ?_|refine q5 ?_|refine q6 ?_|refine w_seq ?_|refine w_region ?_|refine w_ops_nil ?_|refine w_skip ?_|refine w_block ?_|refine w_blk ?_|refine q7 ?_|refine q8 ?_|refine q9 ?_)
        refine d_next (fun _ => ⟨y3, rfl, hss⟩) ?_
        refine d_pure 8 calm_ret rfl (by kernel_rfl) rfl rfl ?_
        refine d_exec1 9 (by kernel_rfl) rfl ?_
        refine w_store1 hc5 rfl rfl ho3.isSl.one (show 3 < 6 by decide) fun y4 hyb4 hy4 hc5 => ?_
        replace hs0 := hs0.trans (hy4.mono (by simp) (by simp))
        replace hr := hr.go hy4; replace ho3 := ho3.go hy4
        repeat (first|refine q1 ?_|refine q2 ?_|refine q3 ?_|refine q4 ?_|refine q5 ?_|refine q6 ?_|refine w_seq ?_|refine w_region ?_|refine w_ops_nil ?_|refine w_skip ?_|refine w_block ?_|refine w_blk ?_|refine q7 ?_|refine q8 ?_|refine q9 ?_)
        refine d_over (by kernel_rfl) ?_
        refine d_done (by kernel_rfl) ?_
        repeat (first|refine q1 ?_|refine q2 ?_|refine q3 ?_|refine q4 ?_|refine q5 ?_|refine q6 ?_|refine w_seq ?_|refine w_region ?_|refine w_ops_nil ?_|refine w_skip ?_|refine w_block ?_|refine w_blk ?_|refine q7 ?_|refine q8 ?_|refine q9 ?_)
        refine w_again (v3, L ++ [(rdRec B s).1], (rdRec B s).2) (by simp only [List.length_append, List.length_cons, List.length_nil]; omega) ⟨y4, rfl, hs0, hr, hc5, ho3, by simp only [List.length_append, List.length_cons, List.length_nil]; omega, hat2, ?_⟩ ⟨rfl, rfl, rfl, rfl, rfl, rfl, rfl, rfl, rfl, rfl, congrArg (fun z => some (Value.int .i64 z)) (by simp only [List.length_append, List.length_cons, List.length_nil]; push_cast; rfl), trivial⟩
        rw [heq, hstep]
        simp only [List.length_append, List.length_cons, List.length_nil, List.append_assoc, List.cons_append, List.nil_append]
      · have : recsP B ((nB B 4).1 - L.length) s = ([], s) := recsP_stop _ _ _ he
        rw [this, List.append_nil] at heq
        repeat (first|refine q1 ?_|refine q2 ?_|refine q3 ?_|refine q4 ?_|refine q5 ?_|refine q6 ?_|refine w_seq ?_|refine w_region ?_|refine w_ops_nil ?_|refine w_skip ?_|refine w_block ?_|refine w_blk ?_|refine q7 ?_|refine q8 ?_|refine q9 ?_)
        obtain ⟨h2, hw2, hs2, hrd⟩ := hown.freeze (by decide)
        rw [← hw2]
        exact w_meet vo ⟨h2, rfl, hs0.trans (hs2.mono (by simp) (by simp)), by rw [heq]; exact hr.go hs2, hc5.go hs2, by rw [heq]; exact hrd⟩ ⟨rfl, rfl, rfl, rfl, rfl, rfl, rfl, rfl, trivial⟩
    · have hLe : L.length = (nB B 4).1 := by omega
      rw [show (nB B 4).1 - L.length = 0 by omega, recsP, List.append_nil] at heq
      repeat (first|refine q1 ?_|refine q2 ?_|refine q3 ?_|refine q4 ?_|refine q5 ?_|refine q6 ?_|refine w_seq ?_|refine w_region ?_|refine w_ops_nil ?_|refine w_skip ?_|refine w_block ?_|refine w_blk ?_|refine q7 ?_|refine q8 ?_|refine q9 ?_)
      obtain ⟨h2, hw2, hs2, hrd⟩ := hown.freeze (by decide)
      rw [← hw2]
      exact w_meet vo ⟨h2, rfl, hs0.trans (hs2.mono (by simp) (by simp)), by rw [heq]; exact hr.go hs2, hc5.go hs2, by rw [heq]; exact hrd⟩ ⟨rfl, rfl, rfl, rfl, rfl, rfl, rfl, rfl, trivial⟩
  clear hr hc5
  rintro va _ ⟨k1, rfl, hs0, hr, hc5, hra⟩
  have hat := recsP_at (k := (nB B 4).1) hat
  replace hst := hst.trans (hs0.mono (by simp) (by simp))
  replace hB := hB.step hs0 (by simp)
  replace hc7 := hc7.step hs0 (by simp) (by simp)
  replace hc2 := hc2.step hs0 (by simp) (by simp)
  replace hl2 := hl2.step hs0 (by simp)
  replace hrq := hrq.step hs0 (by simp)
  clear hs0
  repeat (first|refine q1 ?_|refine q2 ?_|refine q3 ?_|refine q4 ?_|refine q5 ?_|refine q6 ?_|refine w_seq ?_|refine w_region ?_|refine w_ops_nil ?_|refine w_skip ?_|refine w_block ?_|refine w_blk ?_|refine q7 ?_|refine q8 ?_|refine q9 ?_)
  refine w_round ?_
  repeat (first|refine q1 ?_|refine q2 ?_|refine q3 ?_|refine q4 ?_|refine q5 ?_|refine q6 ?_|refine w_seq ?_|refine w_region ?_|refine w_ops_nil ?_|refine w_skip ?_|refine w_block ?_|refine w_blk ?_|refine q7 ?_|refine q8 ?_|refine q9 ?_)
  refine w_idx hl2 rfl rfl (by omega) (by simp only [List.length_cons, List.length_nil]; omega) rfl ?_
  refine w_loadE (i := 1) (y := ⟨b5, 4, none⟩) hl2 rfl rfl rfl rfl ?_
  repeat (first|refine q1 ?_|refine q2 ?_|refine q3 ?_|refine q4 ?_|refine q5 ?_|refine q6 ?_|refine w_seq ?_|refine w_region ?_|refine w_ops_nil ?_|refine w_skip ?_|refine w_blk ?_|refine q7 ?_|refine q8 ?_|refine q9 ?_)
  refine w_cut (ι := Value) (fun v => [(0, vB), (2, .pointer (some ⟨b2, 0, none⟩)), (4, .pointer (some ⟨p, 0, none⟩)), (5, .pointer (some ⟨b5, 0, none⟩)), (7, .pointer (some ⟨b7, 0, none⟩)), (63, vl), (64, .int .i64 3), (65, .int .i64 1)])
    (fun v w => ∃ h : G, h.w = w ∧ Step [] [61, 71, 73] k1 h ∧ Rr h p vB (recsP B (nB B 5).1 (recsP B (nB B 4).1 (asksP B (nB B 3).1 (nB B 6).2).2).2).2 ∧ Cell h 71 b5 46 [.int .i64 ((nB B 1).1 : Int), .int .i64 ((nB B 2).1 : Int), vq, va, v, .slice none 0 0] ∧ Rd h 0 El.rc v (recsP B (nB B 5).1 (recsP B (nB B 4).1 (asksP B (nB B 3).1 (nB B 6).2).2).2).1) ?_ ?_
  · repeat (first|refine q1 ?_|refine q2 ?_|refine q3 ?_|refine q4 ?_|refine q5 ?_|refine q6 ?_|refine w_seq ?_|refine w_region ?_|refine w_ops_nil ?_|refine w_skip ?_|refine w_block ?_|refine w_blk ?_|refine q7 ?_|refine q8 ?_|refine q9 ?_)
    refine w_loop (ι := Value × List Rc × Rs) (fun x => [(0, vB), (2, .pointer (some ⟨b2, 0, none⟩)), (4, .pointer (some ⟨p, 0, none⟩)), (5, .pointer (some ⟨b5, 0, none⟩)), (7, .pointer (some ⟨b7, 0, none⟩)), (63, vl), (64, .int .i64 3), (65, .int .i64 1), (11, .int .i64 1), (12, .pointer (some ⟨b5, 4, none⟩)), (13, .int .i64 (x.2.1.length : Int))])
      (fun x w => ∃ h : G, h.w = w ∧ Step [] [61, 71, 73] k1 h ∧ Rr h p vB x.2.2 ∧ Cell h 71 b5 46 [.int .i64 ((nB B 1).1 : Int), .int .i64 ((nB B 2).1 : Int), vq, va, x.1, .slice none 0 0] ∧ Own h 73 El.rc 52 x.1 x.2.1 ∧ x.2.1.length ≤ (nB B 5).1 ∧ x.2.2.at_ ≤ B.length ∧ recsP B (nB B 5).1 (recsP B (nB B 4).1 (asksP B (nB B 3).1 (nB B 6).2).2).2 = (x.2.1 ++ (recsP B ((nB B 5).1 - x.2.1.length) x.2.2).1, (recsP B ((nB B 5).1 - x.2.1.length) x.2.2).2))
      (fun x => (nB B 5).1 - x.2.1.length) (.slice none 0 0, [], (recsP B (nB B 4).1 (asksP B (nB B 3).1 (nB B 6).2).2).2) ⟨k1, rfl, Step.refl _ _ _, hr, hc5, Own.nil _ _ _ _, Nat.zero_le _, hat, by simp⟩ ⟨rfl, rfl, rfl, rfl, rfl, rfl, rfl, rfl, rfl, rfl, rfl, trivial⟩ ?_
    clear hr hc5
    rintro ⟨vo, L, s⟩ _ ⟨h, rfl, hs0, hr, hc5, hown, hLc, hats, heq⟩
    dsimp only at hr hc5 hown hLc hats heq ⊢
    replace hB := hB.step hs0 (by simp)
    replace hc7 := hc7.step hs0 (by simp) (by simp)
    have hr0 : Cell h 61 p 109 [vB, .int .i64 (s.at_ : Int), .int .i64 s.e] := hr
    repeat (first|refine q1 ?_|refine q2 ?_|refine q3 ?_|refine q4 ?_|refine q5 ?_|refine q6 ?_|refine w_seq ?_|refine w_region ?_|refine w_ops_nil ?_|refine w_skip ?_|refine w_block ?_|refine w_blk ?_|refine q7 ?_|refine q8 ?_|refine q9 ?_)
    refine w_idxA rfl rfl (by omega) (by decide) rfl ?_
    refine w_load1 (v := .int .i64 ((nB B 5).1 : Int)) hc7 rfl rfl rfl rfl ?_
    repeat (first|refine q1 ?_|refine q2 ?_|refine q3 ?_|refine q4 ?_|refine q5 ?_|refine q6 ?_|refine w_seq ?_|refine w_region ?_|refine w_ops_nil ?_|refine w_skip ?_|refine w_block ?_|refine w_blk ?_|refine q7 ?_|refine q8 ?_|refine q9 ?_)
    refine w_splitP 75 rfl (fun hlt => ?_) (fun hlt => ?_)
    · repeat (first|refine q1 ?_|refine q2 ?_|refine q3 ?_|refine q4 ?_|refine q5 ?_|refine q6 ?_|refine w_seq ?_|refine w_region ?_|refine w_ops_nil ?_|refine w_skip ?_|refine w_block ?_|refine w_blk ?_|refine q7 ?_|refine q8 ?_|refine q9 ?_)
      refine w_fldA (by decide) rfl rfl ?_
      repeat (first|refine q1 ?_|refine q2 ?_|refine q3 ?_|refine q4 ?_|refine q5 ?_|refine q6 ?_|refine w_seq ?_|refine w_region ?_|refine w_ops_nil ?_|refine w_skip ?_|refine w_block ?_|refine w_blk ?_|refine q7 ?_|refine q8 ?_|refine q9 ?_)
      refine w_load1 (v := .int .i64 s.e) hr0 rfl rfl rfl rfl ?_
      repeat (first|refine q1 ?_|refine q2 ?_|refine q3 ?_|refine q4 ?_|refine q5 ?_|refine q6 ?_|refine w_seq ?_|refine w_region ?_|refine w_ops_nil ?_|refine w_skip ?_|refine w_block ?_|refine w_blk ?_|refine q7 ?_|refine q8 ?_|refine q9 ?_)
      refine w_condP rfl (fun he => ?_) (fun he => ?_)
      · have hlt2 : L.length < (nB B 5).1 := by omega
        have hstep : recsP B ((nB B 5).1 - L.length) s = ((rdRec B s).1 :: (recsP B ((nB B 5).1 - (L.length + 1)) (rdRec B s).2).1, (recsP B ((nB B 5).1 - (L.length + 1)) (rdRec B s).2).2) := by
          rw [show (nB B 5).1 - L.length = ((nB B 5).1 - (L.length + 1)) + 1 by omega, recsP, if_pos he]
        have hat2 := rdRec_at hats
        repeat (first|refine q1 ?_|refine q2 ?_|refine q3 ?_|refine q4 ?_|refine q5 ?_|refine q6 ?_|refine w_seq ?_|refine w_region ?_|refine w_ops_nil ?_|refine w_skip ?_|refine w_block ?_|refine w_blk ?_|refine q7 ?_|refine q8 ?_|refine q9 ?_)
        refine d_begin (some 9) [61, 73] (by kernel_rfl) fun g2 hsd => ?_
        replace hr := hr.go hsd; replace hc5 := hc5.go hsd; replace hB := hB.go hsd; replace hown := hown.go hsd; replace hs0 := hs0.go hsd
        refine d_pure 0 calm_ret rfl (by kernel_rfl) rfl rfl ?_; refine d_pure 1 calm_ret rfl (by kernel_rfl) rfl rfl ?_; refine d_pure 2 calm_ret rfl (by kernel_rfl) rfl rfl ?_
        refine d_read 3 calm_ret rfl (by kernel_rfl) rfl  (fun h hs => r_load1 (v := vo) (hc5.step hs (by simp) (by simp)) rfl rfl rfl) ?_
        refine d_pure 4 calm_ret rfl (by kernel_rfl) rfl rfl ?_
        refine d_exec1 5 (by kernel_rfl) rfl ?_
        refine w_callF (vs := [.pointer (some ⟨p, 0, none⟩)]) rfl (rd_record p vB B s g2 hr hB (by omega) hats) rfl fun u y1 hy1 hR => ?_
        obtain ⟨rfl, hr⟩ := hR
        have hss : Step [] [61, 73] g2 y1 := hy1.mono (by simp) (by simp)
        replace hs0 := hs0.trans (hy1.mono (by simp) (by simp))
        replace hc5 := hc5.go hy1; replace hown := hown.go hy1
        repeat (first|refine q1 ?_|refine q2 ?_|refine q3 ?_|refine q4 ?_|refine q5 ?_|refine q6 ?_|refine w_seq ?_|refine w_region ?_|refine w_ops_nil ?_|refine w_skip ?_|refine w_block ?_|refine w_blk ?_|refine q7 ?_|refine q8 ?_|refine q9 ?_)
        refine d_next (fun _ => ⟨y1, rfl, hss⟩) ?_
        refine d_exec1 6 (by kernel_rfl) rfl ?_
        refine w_buildSlR El.rc [(rdRec B s).1] rfl rfl rfl rfl fun y2 v2 hy2 hr2 => ?_
        replace hss := hss.go hy2; replace hs0 := hs0.go hy2; replace hr := hr.go hy2; replace hc5 := hc5.go hy2; replace hown := hown.go hy2
        repeat (first|refine q1 ?_|refine q2 ?_|refine q3 ?_|refine q4 ?_|refine q5 ?_|refine q6 ?_|refine w_seq ?_|refine w_region ?_|refine w_ops_nil ?_|refine w_skip ?_|refine w_block ?_|refine w_blk ?_|refine q7 ?_|refine q8 ?_|refine q9 ?_)
        refine d_next (fun _ => ⟨y2, rfl, hss⟩) ?_
        refine d_exec1 7 (by kernel_rfl) rfl ?_
        refine w_append hown hr2 rfl rfl rfl (by decide) (by simp only [List.length_cons, List.length_nil]; omega) rfl fun y3 v3 hy3 ho3 => ?_
        replace hss := hss.trans (hy3.mono (by simp) (by simp))
        replace hs0 := hs0.trans (hy3.mono (by simp) (by simp))
        replace hr := hr.go hy3; replace hc5 := hc5.go hy3
        repeat (first|refine q1 ?_|refine q2 ?_|refine q3 ?_|refine q4 ?_|refine q5 ?_|refine q6 ?_|refine w_seq ?_|refine w_region ?_|refine w_ops_nil ?_|refine w_skip ?_|refine w_block ?_|refine w_blk ?_|refine q7 ?_|refine q8 ?_|refine q9 ?_)
        refine d_next (fun _ => ⟨y3, rfl, hss⟩) ?_
        refine d_pure 8 calm_ret rfl (by kernel_rfl) rfl rfl ?_
        refine d_exec1 9 (by kernel_rfl) rfl ?_
        refine w_store1 hc5 rfl rfl ho3.isSl.one (show 4 < 6 by decide) fun y4 hyb4 hy4 hc5 => ?_
        replace hs0 := hs0.trans (hy4.mono (by simp) (by simp))
        replace hr := hr.go hy4; replace ho3 := ho3.go hy4
        repeat (first|refine q1 ?_|refine q2 ?_|refine q3 ?_|refine q4 ?_|refine q5 ?_|refine q6 ?_|refine w_seq ?_|refine w_region ?_|refine w_ops_nil ?_|refine w_skip ?_|refine w_block ?_|refine w_blk ?_|refine q7 ?_|refine q8 ?_|refine q9 ?_)
        refine d_over (by kernel_rfl) ?_
        refine d_done (by kernel_rfl) ?_
        repeat (first|refine q1 ?_|refine q2 ?_|refine q3 ?_|refine q4 ?_|refine q5 ?_|refine q6 ?_|refine w_seq ?_|refine w_region ?_|refine w_ops_nil ?_|refine w_skip ?_|refine w_block ?_|refine w_blk ?_|refine q7 ?_|refine q8 ?_|refine q9 ?_)
        refine w_again (v3, L ++ [(rdRec B s).1], (rdRec B s).2) (by simp only [List.length_append, List.length_cons, List.length_nil]; omega) ⟨y4, rfl, hs0, hr, hc5, ho3, by simp only [List.length_append, List.length_cons, List.length_nil]; omega, hat2, ?_⟩ ⟨rfl, rfl, rfl, rfl, rfl, rfl, rfl, rfl, rfl, rfl, congrArg (fun z => some (Value.int .i64 z)) (by simp only [List.length_append, List.length_cons, List.length_nil]; push_cast; rfl), trivial⟩
        rw [heq, hstep]
        simp only [List.length_append, List.length_cons, List.length_nil, List.append_assoc, List.cons_append, List.nil_append]
      · have : recsP B ((nB B 5).1 - L.length) s = ([], s) := recsP_stop _ _ _ he
        rw [this, List.append_nil] at heq
        repeat (first|refine q1 ?_|refine q2 ?_|refine q3 ?_|refine q4 ?_|refine q5 ?_|refine q6 ?_|refine w_seq ?_|refine w_region ?_|refine w_ops_nil ?_|refine w_skip ?_|refine w_block ?_|refine w_blk ?_|refine q7 ?_|refine q8 ?_|refine q9 ?_)
        obtain ⟨h2, hw2, hs2, hrd⟩ := hown.freeze (by decide)
        rw [← hw2]
        exact w_meet vo ⟨h2, rfl, hs0.trans (hs2.mono (by simp) (by simp)), by rw [heq]; exact hr.go hs2, hc5.go hs2, by rw [heq]; exact hrd⟩ ⟨rfl, rfl, rfl, rfl, rfl, rfl, rfl, rfl, trivial⟩
    · have hLe : L.length = (nB B 5).1 := by omega
      rw [show (nB B 5).1 - L.length = 0 by omega, recsP, List.append_nil] at heq
      repeat (first|refine q1 ?_|refine q2 ?_|refine q3 ?_|refine q4 ?_|refine q5 ?_|refine q6 ?_|refine w_seq ?_|refine w_region ?_|refine w_ops_nil ?_|refine w_skip ?_|refine w_block ?_|refine w_blk ?_|refine q7 ?_|refine q8 ?_|refine q9 ?_)
      obtain ⟨h2, hw2, hs2, hrd⟩ := hown.freeze (by decide)
      rw [← hw2]
      exact w_meet vo ⟨h2, rfl, hs0.trans (hs2.mono (by simp) (by simp)), by rw [heq]; exact hr.go hs2, hc5.go hs2, by rw [heq]; exact hrd⟩ ⟨rfl, rfl, rfl, rfl, rfl, rfl, rfl, rfl, trivial⟩
  clear hr hc5
  rintro vu _ ⟨k2, rfl, hs0, hr, hc5, hru⟩
  have hat := recsP_at (k := (nB B 5).1) hat
  replace hst := hst.trans (hs0.mono (by simp) (by simp))
  replace hB := hB.step hs0 (by simp)
  replace hc7 := hc7.step hs0 (by simp) (by simp)
  replace hc2 := hc2.step hs0 (by simp) (by simp)
  replace hl2 := hl2.step hs0 (by simp)
  replace hrq := hrq.step hs0 (by simp)
  replace hra := hra.step hs0 (by simp)
  clear hs0
  repeat (first|refine q1 ?_|refine q2 ?_|refine q3 ?_|refine q4 ?_|refine q5 ?_|refine q6 ?_|refine w_seq ?_|refine w_region ?_|refine w_ops_nil ?_|refine w_skip ?_|refine w_block ?_|refine w_blk ?_|refine q7 ?_|refine q8 ?_|refine q9 ?_)
  refine w_round ?_
  repeat (first|refine q1 ?_|refine q2 ?_|refine q3 ?_|refine q4 ?_|refine q5 ?_|refine q6 ?_|refine w_seq ?_|refine w_region ?_|refine w_ops_nil ?_|refine w_skip ?_|refine w_block ?_|refine w_blk ?_|refine q7 ?_|refine q8 ?_|refine q9 ?_)
  refine w_idx hl2 rfl rfl (by omega) (by simp only [List.length_cons, List.length_nil]; omega) rfl ?_
  refine w_loadE (i := 2) (y := ⟨b5, 5, none⟩) hl2 rfl rfl rfl rfl ?_
  repeat (first|refine q1 ?_|refine q2 ?_|refine q3 ?_|refine q4 ?_|refine q5 ?_|refine q6 ?_|refine w_seq ?_|refine w_region ?_|refine w_ops_nil ?_|refine w_skip ?_|refine w_blk ?_|refine q7 ?_|refine q8 ?_|refine q9 ?_)
  refine w_cut (ι := Value) (fun v => [(0, vB), (2, .pointer (some ⟨b2, 0, none⟩)), (4, .pointer (some ⟨p, 0, none⟩)), (5, .pointer (some ⟨b5, 0, none⟩)), (7, .pointer (some ⟨b7, 0, none⟩)), (63, vl), (64, .int .i64 3), (65, .int .i64 2)])
    (fun v w => ∃ h : G, h.w = w ∧ Step [] [61, 71, 73] k2 h ∧ Rr h p vB (recsP B (nB B 6).1 (recsP B (nB B 5).1 (recsP B (nB B 4).1 (asksP B (nB B 3).1 (nB B 6).2).2).2).2).2 ∧ Cell h 71 b5 46 [.int .i64 ((nB B 1).1 : Int), .int .i64 ((nB B 2).1 : Int), vq, va, vu, v] ∧ Rd h 0 El.rc v (recsP B (nB B 6).1 (recsP B (nB B 5).1 (recsP B (nB B 4).1 (asksP B (nB B 3).1 (nB B 6).2).2).2).2).1) ?_ ?_
  · repeat (first|refine q1 ?_|refine q2 ?_|refine q3 ?_|refine q4 ?_|refine q5 ?_|refine q6 ?_|refine w_seq ?_|refine w_region ?_|refine w_ops_nil ?_|refine w_skip ?_|refine w_block ?_|refine w_blk ?_|refine q7 ?_|refine q8 ?_|refine q9 ?_)
    refine w_loop (ι := Value × List Rc × Rs) (fun x => [(0, vB), (2, .pointer (some ⟨b2, 0, none⟩)), (4, .pointer (some ⟨p, 0, none⟩)), (5, .pointer (some ⟨b5, 0, none⟩)), (7, .pointer (some ⟨b7, 0, none⟩)), (63, vl), (64, .int .i64 3), (65, .int .i64 2), (11, .int .i64 2), (12, .pointer (some ⟨b5, 5, none⟩)), (13, .int .i64 (x.2.1.length : Int))])
      (fun x w => ∃ h : G, h.w = w ∧ Step [] [61, 71, 73] k2 h ∧ Rr h p vB x.2.2 ∧ Cell h 71 b5 46 [.int .i64 ((nB B 1).1 : Int), .int .i64 ((nB B 2).1 : Int), vq, va, vu, x.1] ∧ Own h 73 El.rc 52 x.1 x.2.1 ∧ x.2.1.length ≤ (nB B 6).1 ∧ x.2.2.at_ ≤ B.length ∧ recsP B (nB B 6).1 (recsP B (nB B 5).1 (recsP B (nB B 4).1 (asksP B (nB B 3).1 (nB B 6).2).2).2).2 = (x.2.1 ++ (recsP B ((nB B 6).1 - x.2.1.length) x.2.2).1, (recsP B ((nB B 6).1 - x.2.1.length) x.2.2).2))
      (fun x => (nB B 6).1 - x.2.1.length) (.slice none 0 0, [], (recsP B (nB B 5).1 (recsP B (nB B 4).1 (asksP B (nB B 3).1 (nB B 6).2).2).2).2) ⟨k2, rfl, Step.refl _ _ _, hr, hc5, Own.nil _ _ _ _, Nat.zero_le _, hat, by simp⟩ ⟨rfl, rfl, rfl, rfl, rfl, rfl, rfl, rfl, rfl, rfl, rfl, trivial⟩ ?_
    clear hr hc5
    rintro ⟨vo, L, s⟩ _ ⟨h, rfl, hs0, hr, hc5, hown, hLc, hats, heq⟩
    dsimp only at hr hc5 hown hLc hats heq ⊢
    replace hB := hB.step hs0 (by simp)
    replace hc7 := hc7.step hs0 (by simp) (by simp)
    have hr0 : Cell h 61 p 109 [vB, .int .i64 (s.at_ : Int), .int .i64 s.e] := hr
    repeat (first|refine q1 ?_|refine q2 ?_|refine q3 ?_|refine q4 ?_|refine q5 ?_|refine q6 ?_|refine w_seq ?_|refine w_region ?_|refine w_ops_nil ?_|refine w_skip ?_|refine w_block ?_|refine w_blk ?_|refine q7 ?_|refine q8 ?_|refine q9 ?_)
    refine w_idxA rfl rfl (by omega) (by decide) rfl ?_
    refine w_load1 (v := .int .i64 ((nB B 6).1 : Int)) hc7 rfl rfl rfl rfl ?_
    repeat (first|refine q1 ?_|refine q2 ?_|refine q3 ?_|refine q4 ?_|refine q5 ?_|refine q6 ?_|refine w_seq ?_|refine w_region ?_|refine w_ops_nil ?_|refine w_skip ?_|refine w_block ?_|refine w_blk ?_|refine q7 ?_|refine q8 ?_|refine q9 ?_)
    refine w_splitP 75 rfl (fun hlt => ?_) (fun hlt => ?_)
    · repeat (first|refine q1 ?_|refine q2 ?_|refine q3 ?_|refine q4 ?_|refine q5 ?_|refine q6 ?_|refine w_seq ?_|refine w_region ?_|refine w_ops_nil ?_|refine w_skip ?_|refine w_block ?_|refine w_blk ?_|refine q7 ?_|refine q8 ?_|refine q9 ?_)
      refine w_fldA (by decide) rfl rfl ?_
      repeat (first|refine q1 ?_|refine q2 ?_|refine q3 ?_|refine q4 ?_|refine q5 ?_|refine q6 ?_|refine w_seq ?_|refine w_region ?_|refine w_ops_nil ?_|refine w_skip ?_|refine w_block ?_|refine w_blk ?_|refine q7 ?_|refine q8 ?_|refine q9 ?_)
      refine w_load1 (v := .int .i64 s.e) hr0 rfl rfl rfl rfl ?_
      repeat (first|refine q1 ?_|refine q2 ?_|refine q3 ?_|refine q4 ?_|refine q5 ?_|refine q6 ?_|refine w_seq ?_|refine w_region ?_|refine w_ops_nil ?_|refine w_skip ?_|refine w_block ?_|refine w_blk ?_|refine q7 ?_|refine q8 ?_|refine q9 ?_)
      refine w_condP rfl (fun he => ?_) (fun he => ?_)
      · have hlt2 : L.length < (nB B 6).1 := by omega
        have hstep : recsP B ((nB B 6).1 - L.length) s = ((rdRec B s).1 :: (recsP B ((nB B 6).1 - (L.length + 1)) (rdRec B s).2).1, (recsP B ((nB B 6).1 - (L.length + 1)) (rdRec B s).2).2) := by
          rw [show (nB B 6).1 - L.length = ((nB B 6).1 - (L.length + 1)) + 1 by omega, recsP, if_pos he]
        have hat2 := rdRec_at hats
        repeat (first|refine q1 ?_|refine q2 ?_|refine q3 ?_|refine q4 ?_|refine q5 ?_|refine q6 ?_|refine w_seq ?_|refine w_region ?_|refine w_ops_nil ?_|refine w_skip ?_|refine w_block ?_|refine w_blk ?_|refine q7 ?_|refine q8 ?_|refine q9 ?_)
        refine d_begin (some 9) [61, 73] (by kernel_rfl) fun g2 hsd => ?_
        replace hr := hr.go hsd; replace hc5 := hc5.go hsd; replace hB := hB.go hsd; replace hown := hown.go hsd; replace hs0 := hs0.go hsd
        refine d_pure 0 calm_ret rfl (by kernel_rfl) rfl rfl ?_; refine d_pure 1 calm_ret rfl (by kernel_rfl) rfl rfl ?_; refine d_pure 2 calm_ret rfl (by kernel_rfl) rfl rfl ?_
        refine d_read 3 calm_ret rfl (by kernel_rfl) rfl  (fun h hs => r_load1 (v := vo) (hc5.step hs (by simp) (by simp)) rfl rfl rfl) ?_
        refine d_pure 4 calm_ret rfl (by kernel_rfl) rfl rfl ?_
        refine d_exec1 5 (by kernel_rfl) rfl ?_
        refine w_callF (vs := [.pointer (some ⟨p, 0, none⟩)]) rfl (rd_record p vB B s g2 hr hB (by omega) hats) rfl fun u y1 hy1 hR => ?_
        obtain ⟨rfl, hr⟩ := hR
        have hss : Step [] [61, 73] g2 y1 := hy1.mono (by simp) (by simp)
        replace hs0 := hs0.trans (hy1.mono (by simp) (by simp))
        replace hc5 := hc5.go hy1; replace hown := hown.go hy1
        repeat (first|refine q1 ?_|refine q2 ?_|refine q3 ?_|refine q4 ?_|refine q5 ?_|refine q6 ?_|refine w_seq ?_|refine w_region ?_|refine w_ops_nil ?_|refine w_skip ?_|refine w_block ?_|refine w_blk ?_|refine q7 ?_|refine q8 ?_|refine q9 ?_)
        refine d_next (fun _ => ⟨y1, rfl, hss⟩) ?_
        refine d_exec1 6 (by kernel_rfl) rfl ?_
        refine w_buildSlR El.rc [(rdRec B s).1] rfl rfl rfl rfl fun y2 v2 hy2 hr2 => ?_
        replace hss := hss.go hy2; replace hs0 := hs0.go hy2; replace hr := hr.go hy2; replace hc5 := hc5.go hy2; replace hown := hown.go hy2
        repeat (first|refine q1 ?_|refine q2 ?_|refine q3 ?_|refine q4 ?_|refine q5 ?_|refine q6 ?_|refine w_seq ?_|refine w_region ?_|refine w_ops_nil ?_|refine w_skip ?_|refine w_block ?_|refine w_blk ?_|refine q7 ?_|refine q8 ?_|refine q9 ?_)
        refine d_next (fun _ => ⟨y2, rfl, hss⟩) ?_
        refine d_exec1 7 (by kernel_rfl) rfl ?_
        refine w_append hown hr2 rfl rfl rfl (by decide) (by simp only [List.length_cons, List.length_nil]; omega) rfl fun y3 v3 hy3 ho3 => ?_
        replace hss := hss.trans (hy3.mono (by simp) (by simp))
        replace hs0 := hs0.trans (hy3.mono (by simp) (by simp))
        replace hr := hr.go hy3; replace hc5 := hc5.go hy3
        repeat (first|refine q1 ?_|refine q2 ?_|refine q3 ?_|refine q4 ?_|refine q5 ?_|refine q6 ?_|refine w_seq ?_|refine w_region ?_|refine w_ops_nil ?_|refine w_skip ?_|refine w_block ?_|refine w_blk ?_|refine q7 ?_|refine q8 ?_|refine q9 ?_)
        refine d_next (fun _ => ⟨y3, rfl, hss⟩) ?_
        refine d_pure 8 calm_ret rfl (by kernel_rfl) rfl rfl ?_
        refine d_exec1 9 (by kernel_rfl) rfl ?_
        refine w_store1 hc5 rfl rfl ho3.isSl.one (show 5 < 6 by decide) fun y4 hyb4 hy4 hc5 => ?_
        replace hs0 := hs0.trans (hy4.mono (by simp) (by simp))
        replace hr := hr.go hy4; replace ho3 := ho3.go hy4
        repeat (first|refine q1 ?_|refine q2 ?_|refine q3 ?_|refine q4 ?_|refine q5 ?_|refine q6 ?_|refine w_seq ?_|refine w_region ?_|refine w_ops_nil ?_|refine w_skip ?_|refine w_block ?_|refine w_blk ?_|refine q7 ?_|refine q8 ?_|refine q9 ?_)
        refine d_over (by kernel_rfl) ?_
        refine d_done (by kernel_rfl) ?_
        repeat (first|refine q1 ?_|refine q2 ?_|refine q3 ?_|refine q4 ?_|refine q5 ?_|refine q6 ?_|refine w_seq ?_|refine w_region ?_|refine w_ops_nil ?_|refine w_skip ?_|refine w_block ?_|refine w_blk ?_|refine q7 ?_|refine q8 ?_|refine q9 ?_)
        refine w_again (v3, L ++ [(rdRec B s).1], (rdRec B s).2) (by simp only [List.length_append, List.length_cons, List.length_nil]; omega) ⟨y4, rfl, hs0, hr, hc5, ho3, by simp only [List.length_append, List.length_cons, List.length_nil]; omega, hat2, ?_⟩ ⟨rfl, rfl, rfl, rfl, rfl, rfl, rfl, rfl, rfl, rfl, congrArg (fun z => some (Value.int .i64 z)) (by simp only [List.length_append, List.length_cons, List.length_nil]; push_cast; rfl), trivial⟩
        rw [heq, hstep]
        simp only [List.length_append, List.length_cons, List.length_nil, List.append_assoc, List.cons_append, List.nil_append]
      · have : recsP B ((nB B 6).1 - L.length) s = ([], s) := recsP_stop _ _ _ he
        rw [this, List.append_nil] at heq
        repeat (first|refine q1 ?_|refine q2 ?_|refine q3 ?_|refine q4 ?_|refine q5 ?_|refine q6 ?_|refine w_seq ?_|refine w_region ?_|refine w_ops_nil ?_|refine w_skip ?_|refine w_block ?_|refine w_blk ?_|refine q7 ?_|refine q8 ?_|refine q9 ?_)
        obtain ⟨h2, hw2, hs2, hrd⟩ := hown.freeze (by decide)
        rw [← hw2]
        exact w_meet vo ⟨h2, rfl, hs0.trans (hs2.mono (by simp) (by simp)), by rw [heq]; exact hr.go hs2, hc5.go hs2, by rw [heq]; exact hrd⟩ ⟨rfl, rfl, rfl, rfl, rfl, rfl, rfl, rfl, trivial⟩
    · have hLe : L.length = (nB B 6).1 := by omega
      rw [show (nB B 6).1 - L.length = 0 by omega, recsP, List.append_nil] at heq
      repeat (first|refine q1 ?_|refine q2 ?_|refine q3 ?_|refine q4 ?_|refine q5 ?_|refine q6 ?_|refine w_seq ?_|refine w_region ?_|refine w_ops_nil ?_|refine w_skip ?_|refine w_block ?_|refine w_blk ?_|refine q7 ?_|refine q8 ?_|refine q9 ?_)
      obtain ⟨h2, hw2, hs2, hrd⟩ := hown.freeze (by decide)
      rw [← hw2]
      exact w_meet vo ⟨h2, rfl, hs0.trans (hs2.mono (by simp) (by simp)), by rw [heq]; exact hr.go hs2, hc5.go hs2, by rw [heq]; exact hrd⟩ ⟨rfl, rfl, rfl, rfl, rfl, rfl, rfl, rfl, trivial⟩
  clear hr hc5
  rintro vm _ ⟨k3, rfl, hs0, hr, hc5, hrm⟩
  have hat := recsP_at (k := (nB B 6).1) hat
  replace hst := hst.trans (hs0.mono (by simp) (by simp))
  replace hB := hB.step hs0 (by simp)
  replace hc7 := hc7.step hs0 (by simp) (by simp)
  replace hc2 := hc2.step hs0 (by simp) (by simp)
  replace hl2 := hl2.step hs0 (by simp)
  replace hrq := hrq.step hs0 (by simp)
  replace hra := hra.step hs0 (by simp)
  replace hru := hru.step hs0 (by simp)
  clear hs0
  repeat (first|refine q1 ?_|refine q2 ?_|refine q3 ?_|refine q4 ?_|refine q5 ?_|refine q6 ?_|refine w_seq ?_|refine w_region ?_|refine w_ops_nil ?_|refine w_skip ?_|refine w_block ?_|refine w_blk ?_|refine q7 ?_|refine q8 ?_|refine q9 ?_)
  refine w_round ?_
  repeat (first|refine q1 ?_|refine q2 ?_|refine q3 ?_|refine q4 ?_|refine q5 ?_|refine q6 ?_|refine w_seq ?_|refine w_region ?_|refine w_ops_nil ?_|refine w_skip ?_|refine w_block ?_|refine w_blk ?_|refine q7 ?_|refine q8 ?_|refine q9 ?_)
  have hr : Rr k3 p vB (lastP B) := hr
  have hr0 : Cell k3 61 p 109 [vB, .int .i64 ((lastP B).at_ : Int), .int .i64 (lastP B).e] := hr
  refine w_fldA (by decide) rfl rfl ?_
  refine w_load1 (v := .int .i64 ((lastP B).at_ : Int)) hr0 rfl rfl rfl rfl ?_
  repeat (first|refine q1 ?_|refine q2 ?_|refine q3 ?_|refine q4 ?_|refine q5 ?_|refine q6 ?_|refine w_seq ?_|refine w_region ?_|refine w_ops_nil ?_|refine w_skip ?_|refine w_block ?_|refine w_blk ?_|refine q7 ?_|refine q8 ?_|refine q9 ?_)
  refine w_lenSl hB.isSl rfl rfl ?_
  repeat (first|refine q1 ?_|refine q2 ?_|refine q3 ?_|refine q4 ?_|refine q5 ?_|refine q6 ?_|refine w_seq ?_|refine w_region ?_|refine w_ops_nil ?_|refine w_skip ?_|refine w_blk ?_|refine q7 ?_|refine q8 ?_|refine q9 ?_)
  refine w_cut (ι := Unit) (fun _ => [(2, .pointer (some ⟨b2, 0, none⟩)), (4, .pointer (some ⟨p, 0, none⟩)), (5, .pointer (some ⟨b5, 0, none⟩))])
    (fun _ w => ∃ h : G, h.w = w ∧ Step [] [61] k3 h ∧ Rr h p vB (endP B)) ?_ ?_
  · refine w_condP rfl (fun hy => ?_) (fun hy => ?_)
    · repeat (first|refine q1 ?_|refine q2 ?_|refine q3 ?_|refine q4 ?_|refine q5 ?_|refine q6 ?_|refine w_seq ?_|refine w_region ?_|refine w_ops_nil ?_|refine w_skip ?_|refine w_block ?_|refine w_blk ?_|refine q7 ?_|refine q8 ?_|refine q9 ?_)
      refine w_callF (vs := [.pointer (some ⟨p, 0, none⟩), .int .i64 2]) rfl (rd_fail p vB (lastP B) 2 k3 hr) rfl fun u y1 hy1 hr2 => ?_
      repeat (first|refine q1 ?_|refine q2 ?_|refine q3 ?_|refine q4 ?_|refine q5 ?_|refine q6 ?_|refine w_seq ?_|refine w_region ?_|refine w_ops_nil ?_|refine w_skip ?_|refine w_block ?_|refine w_blk ?_|refine q7 ?_|refine q8 ?_|refine q9 ?_)
      exact w_meet () ⟨y1, rfl, hy1, by unfold endP; rw [if_pos (by omega)]; exact hr2⟩ ⟨rfl, rfl, rfl, trivial⟩
    · repeat (first|refine q1 ?_|refine q2 ?_|refine q3 ?_|refine q4 ?_|refine q5 ?_|refine q6 ?_|refine w_seq ?_|refine w_region ?_|refine w_ops_nil ?_|refine w_skip ?_|refine w_block ?_|refine w_blk ?_|refine q7 ?_|refine q8 ?_|refine q9 ?_)
      exact w_meet () ⟨k3, rfl, Step.refl _ _ _, by unfold endP; rw [if_neg (by omega)]; exact hr⟩ ⟨rfl, rfl, rfl, trivial⟩
  clear hr hr0
  rintro _ _ ⟨y0, rfl, hs0, hr⟩
  replace hst := hst.trans (hs0.mono (by simp) (by simp))
  replace hc2 := hc2.go hs0; replace hc5 := hc5.go hs0; replace hrq := hrq.go hs0; replace hra := hra.go hs0; replace hru := hru.go hs0; replace hrm := hrm.go hs0
  have hr0 : Cell y0 61 p 109 [vB, .int .i64 ((endP B).at_ : Int), .int .i64 (endP B).e] := hr
  repeat (first|refine q1 ?_|refine q2 ?_|refine q3 ?_|refine q4 ?_|refine q5 ?_|refine q6 ?_|refine w_seq ?_|refine w_region ?_|refine w_ops_nil ?_|refine w_skip ?_|refine w_block ?_|refine w_blk ?_|refine q7 ?_|refine q8 ?_|refine q9 ?_)
  refine w_fldA (by decide) rfl rfl ?_
  refine w_load1 (v := .int .i64 (endP B).e) hr0 rfl rfl rfl rfl ?_
  repeat (first|refine q1 ?_|refine q2 ?_|refine q3 ?_|refine q4 ?_|refine q5 ?_|refine q6 ?_|refine w_seq ?_|refine w_region ?_|refine w_ops_nil ?_|refine w_skip ?_|refine w_block ?_|refine w_blk ?_|refine q7 ?_|refine q8 ?_|refine q9 ?_)
  refine w_condP rfl (fun hy => ?_) (fun hy => ?_)
  · rw [if_pos hy]
    repeat (first|refine q1 ?_|refine q2 ?_|refine q3 ?_|refine q4 ?_|refine q5 ?_|refine q6 ?_|refine w_seq ?_|refine w_region ?_|refine w_ops_nil ?_|refine w_skip ?_|refine w_block ?_|refine w_blk ?_|refine q7 ?_|refine q8 ?_|refine q9 ?_)
    refine d_begin none [70] (by kernel_rfl) fun g2 hsd => ?_
    replace hst := hst.go hsd; replace hc2 := hc2.go hsd; replace hr0 := hr0.go hsd
    refine d_read 0 calm_ret rfl (by kernel_rfl) rfl  (fun h hs => r_build (vs := []) (r := [.int .i64 0, .int .i64 0, .slice none 0 0, .slice none 0 0, .slice none 0 0, .slice none 0 0]) rfl rfl) ?_
    refine d_pure 1 calm_ret rfl (by kernel_rfl) rfl rfl ?_; refine d_pure 2 calm_ret rfl (by kernel_rfl) rfl rfl ?_
    refine d_read 3 calm_ret rfl (by kernel_rfl) rfl  (fun h hs => r_fldA (by decide) rfl) ?_
    refine d_read 4 calm_ret rfl (by kernel_rfl) rfl  (fun h hs => r_load1 (v := .int .i64 (endP B).e) (hr0.step hs (by simp) (by simp)) rfl rfl rfl) ?_
    refine d_exec1 5 (by kernel_rfl) rfl ?_
    refine w_store (us := [.int .i64 0, .int .i64 0, .slice none 0 0, .slice none 0 0, .slice none 0 0, .slice none 0 0]) (vs' := [.int .i64 0, .int .i64 0, .slice none 0 0, .slice none 0 0, .slice none 0 0, .slice none 0 0]) hc2 rfl rfl rfl rfl (one6 rfl rfl rfl rfl) (show 0 + 6 ≤ 6 by decide) rfl fun y1 hyb1 hy1 hc2 => ?_
    replace hst := hst.trans (hy1.mono (by simp) (by simp))
    repeat (first|refine q1 ?_|refine q2 ?_|refine q3 ?_|refine q4 ?_|refine q5 ?_|refine q6 ?_|refine w_seq ?_|refine w_region ?_|refine w_ops_nil ?_|refine w_skip ?_|refine w_block ?_|refine w_blk ?_|refine q7 ?_|refine q8 ?_|refine q9 ?_)
    refine d_next (fun _ => ⟨y1, rfl, hy1⟩) ?_
    refine d_pure 6 calm_ret rfl (by kernel_rfl) rfl rfl ?_
    refine d_done (by kernel_rfl) ?_
    repeat (first|refine q1 ?_|refine q2 ?_|refine q3 ?_|refine q4 ?_|refine q5 ?_|refine q6 ?_|refine w_seq ?_|refine w_region ?_|refine w_ops_nil ?_|refine w_skip ?_|refine w_block ?_|refine w_blk ?_|refine q7 ?_|refine q8 ?_|refine q9 ?_)
    exact w_retG (resCs1 hc2 rfl rfl rfl rfl rfl) hst fun h' hv' => ⟨_, rfl, Ms0.zero _⟩
  · rw [if_neg hy]
    repeat (first|refine q1 ?_|refine q2 ?_|refine q3 ?_|refine q4 ?_|refine q5 ?_|refine q6 ?_|refine w_seq ?_|refine w_region ?_|refine w_ops_nil ?_|refine w_skip ?_|refine w_block ?_|refine w_blk ?_|refine q7 ?_|refine q8 ?_|refine q9 ?_)
    refine w_loadS (us := [.int .i64 ((nB B 1).1 : Int), .int .i64 ((nB B 2).1 : Int), vq, va, vu, vm]) hc5 rfl rfl rfl rfl rfl ?_
    refine w_store (us := [.int .i64 ((nB B 1).1 : Int), .int .i64 ((nB B 2).1 : Int), vq, va, vu, vm]) (vs' := [.int .i64 ((nB B 1).1 : Int), .int .i64 ((nB B 2).1 : Int), vq, va, vu, vm]) hc2 rfl rfl rfl rfl (one6 hrq.isSl.one hra.isSl.one hru.isSl.one hrm.isSl.one) (show 0 + 6 ≤ 6 by decide) rfl fun y1 hyb1 hy1 hc2 => ?_
    replace hst := hst.trans (hy1.mono (by simp) (by simp))
    replace hrq := hrq.go hy1; replace hra := hra.go hy1; replace hru := hru.go hy1; replace hrm := hrm.go hy1
    repeat (first|refine q1 ?_|refine q2 ?_|refine q3 ?_|refine q4 ?_|refine q5 ?_|refine q6 ?_|refine w_seq ?_|refine w_region ?_|refine w_ops_nil ?_|refine w_skip ?_|refine w_block ?_|refine w_blk ?_|refine q7 ?_|refine q8 ?_|refine q9 ?_)
    exact w_retG (resCs1 hc2 rfl rfl rfl rfl rfl) hst fun h' hv' => ⟨_, rfl, vq, va, vu, vm, rfl, hrq.view hv' (.inl rfl), hra.view hv' (.inl rfl), hru.view hv' (.inl rfl), hrm.view hv' (.inl rfl)⟩
end Go.Proofs.Ytnfokdhgajanpaa
