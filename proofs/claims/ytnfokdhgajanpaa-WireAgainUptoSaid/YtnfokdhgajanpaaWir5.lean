/- Messages: what is written: the reference's Write. No statement of the seat is proved here. -/
import Derived.Test.YtnfokdhgajanpaaWir4
set_option linter.unusedVariables false
set_option linter.unusedSimpArgs false
namespace Go.Proofs.Ytnfokdhgajanpaa
open Go
attribute [local irreducible] Wp

def El.anyV : El {v : Value // v.oneCell' = true} := ⟨1, false, fun v => [v.1], fun _ => rfl, fun _ => rfl, by decide, by intro x u hu; simp at hu; subst hu; exact x.2⟩

def foldW {α : Type} (f : Nat → WM → α → List UInt8 × WM) : Nat → WM → List α → List UInt8 × WM
  | _, m, [] => ([], m)
  | n, m, x :: l => ((f n m x).1 ++ (foldW f (n + (f n m x).1.length) (f n m x).2 l).1, (foldW f (n + (f n m x).1.length) (f n m x).2 l).2)
theorem foldW_append {α : Type} (f : Nat → WM → α → List UInt8 × WM) : ∀ (l k : List α) (n : Nat) (m : WM), foldW f n m (l ++ k) = ((foldW f n m l).1 ++ (foldW f (n + (foldW f n m l).1.length) (foldW f n m l).2 k).1, (foldW f (n + (foldW f n m l).1.length) (foldW f n m l).2 k).2)
  | [], k, n, m => by simp [foldW]
  | x :: l, k, n, m => by
    have ih := foldW_append f l k (n + (f n m x).1.length) (f n m x).2
    simp only [List.cons_append, foldW, ih, List.append_assoc, List.length_append, Nat.add_assoc]
theorem foldW_snoc {α : Type} (f : Nat → WM → α → List UInt8 × WM) (l : List α) (x : α) (n : Nat) (m : WM) : foldW f n m (l ++ [x]) = ((foldW f n m l).1 ++ (f (n + (foldW f n m l).1.length) (foldW f n m l).2 x).1, (f (n + (foldW f n m l).1.length) (foldW f n m l).2 x).2) := by
  rw [foldW_append]; simp [foldW]
theorem foldW_prefix {α : Type} (f : Nat → WM → α → List UInt8 × WM) (l k : List α) (n : Nat) (m : WM) : (foldW f n m l).1.length ≤ (foldW f n m (l ++ k)).1.length := by
  rw [foldW_append]; dsimp only; rw [List.length_append]; omega
def qnW (n : Nat) (m : WM) (q : Qn) : List UInt8 × WM := ((nameW n m (labelsB q.name)).1 ++ twoB q.typ ++ twoB q.cls, (nameW n m (labelsB q.name)).2)
def headB (m : Ms) : List UInt8 := twoB m.id ++ twoB m.flags ++ twoB m.asked.length ++ twoB m.ans.length ++ twoB m.auth.length ++ twoB m.more.length
theorem headB_len (m : Ms) : (headB m).length = 12 := rfl
def allR (m : Ms) : List Rc := m.ans ++ m.auth ++ m.more
def askW (m : Ms) : List UInt8 × WM := foldW qnW 12 [] m.asked
def ansW (m : Ms) (l : List Rc) : List UInt8 × WM := foldW recW (12 + (askW m).1.length) (askW m).2 l
def msW (m : Ms) : List UInt8 := headB m ++ (askW m).1 ++ (ansW m (allR m)).1
/-- The message is small enough for this model's walk. -/
def Small (m : Ms) : Prop := (msW m).length ≤ 900000 ∧ m.asked.length + 2 * (allR m).length ≤ 3500

theorem may_len {s : List UInt8} (h : mayB s = true) : s.length ≤ 253 := by
  have h1 := may_size h
  by_cases h0 : s = []
  · subst h0; simp
  · have := splitB_total 46 s
    rw [labelsB, if_neg h0, sizeB] at h1
    omega
theorem rec_len {r : Rc} (h : recMay r) : r.name.length ≤ 253 ∧ r.target.length ≤ 253 := by
  refine ⟨may_len h.1, ?_⟩
  have h6 := h.2.2.2.2.2
  by_cases h1 : r.typ = 1
  · rw [if_pos h1] at h6; rw [h6.2.2.1]; simp
  · rw [if_neg h1] at h6
    by_cases h28 : r.typ = 28
    · rw [if_pos h28] at h6; rw [h6.2.2.1]; simp
    · rw [if_neg h28] at h6
      by_cases h5 : r.typ = 5
      · rw [if_pos h5] at h6; exact may_len h6.1
      · rw [if_neg h5] at h6; rw [h6.2]; simp
theorem foldq_len : ∀ (l : List Qn) (n : Nat) (m : WM), (∀ q ∈ l, qnMay q) → (foldW qnW n m l).2.length ≤ m.length + 255 * l.length
  | [], n, m, _ => by simp [foldW]
  | q :: l, n, m, h => by
    have ih := foldq_len l (n + (qnW n m q).1.length) (qnW n m q).2 (fun x hx => h x (by simp [hx]))
    have h4 := nameW_len (labelsB q.name) n m
    have h5 := may_size (h q (by simp)).1
    unfold sizeB at h5
    simp only [foldW, List.length_cons]
    have : (qnW n m q).2.length ≤ m.length + 255 := by simp only [qnW]; omega
    omega
theorem recW_len2 {r : Rc} (h : recMay r) (n : Nat) (m : WM) : (recW n m r).2.length ≤ m.length + 510 := by
  have h4 := nameW_len (labelsB r.name) n m
  have h5 := may_size h.1
  unfold sizeB at h5
  unfold recW
  dsimp only
  split
  · rename_i ht
    have hmt : mayB r.target = true := by
      have h6 := h.2.2.2.2.2
      rw [if_neg (by omega), if_neg (by omega), if_pos ht] at h6; exact h6.1
    have h7 := may_size hmt
    unfold sizeB at h7
    have h8 := nameW_len (labelsB r.target) (n + (nameW n m (labelsB r.name)).1.length + 10) (nameW n m (labelsB r.name)).2
    dsimp only; omega
  · dsimp only; omega
theorem foldr_len : ∀ (l : List Rc) (n : Nat) (m : WM), (∀ r ∈ l, recMay r) → (foldW recW n m l).2.length ≤ m.length + 510 * l.length
  | [], n, m, _ => by simp [foldW]
  | r :: l, n, m, h => by
    have ih := foldr_len l (n + (recW n m r).1.length) (recW n m r).2 (fun x hx => h x (by simp [hx]))
    have := recW_len2 (h r (by simp)) n m
    simp only [foldW, List.length_cons]
    omega

theorem ref09_Write (m : Ms) (vs : List Value) (g : G) (hm : MsR g vs m) (hmay : msMay m) (hsm : Small m) : Fn Try.prog 26 [.agg vs.toArray] g [] fun u h => Rd h 0 El.u8 u (msW m) := by
  refine enterG [] [11, 12, 13, 41, 44, 45] Try.func26 rfl Try.ntmps26 rfl (by simp) fun g1 hv ho => ?_
  replace hm := hm.seen hv ho
  obtain ⟨vq, va, vu, vm, rfl, hq, ha, hu, hmo⟩ := hm
  obtain ⟨y1, y2, y3, y4, y5, y6⟩ := hmay
  unfold wordP at y2 y3
  obtain ⟨s1, s2⟩ := hsm
  have hall : ∀ r ∈ allR m, recMay r := by
    intro r hr
    simp only [allR, List.mem_append] at hr
    rcases hr with (h | h) | h
    · exact y4 r h
    · exact y5 r h
    · exact y6 r h
  have hql := foldq_len m.asked 12 [] y1
  have hL : (allR m).length = m.ans.length + m.auth.length + m.more.length := by simp only [allR, List.length_append]
  let cs : List Value := [.int .i64 m.id, .int .i64 m.flags, vq, va, vu, vm]
  repeat (first|refine q1 ?_|refine q2 ?_|refine q3 ?_|refine q4 ?_|refine q5 ?_|refine q6 ?_|refine w_seq ?_|refine w_region ?_|refine w_ops_nil ?_|refine w_skip ?_|refine w_block ?_|refine w_blk ?_|refine q7 ?_|refine q8 ?_|refine q9 ?_)
  refine w_box 41 (vs := cs) rfl rfl rfl fun h1 b1 hs1 hc1 => ?_
  repeat (first|refine q1 ?_|refine q2 ?_|refine q3 ?_|refine q4 ?_|refine q5 ?_|refine q6 ?_|refine w_seq ?_|refine w_region ?_|refine w_ops_nil ?_|refine w_skip ?_|refine w_block ?_|refine w_blk ?_|refine q7 ?_|refine q8 ?_|refine q9 ?_)
  refine w_alloc 44 (vs := [.slice none 0 0, .slice none 0 0, .slice none 0 0]) rfl rfl fun h2 b2 hs2 hc2 => ?_
  replace hc1 := hc1.go hs2
  have hst : Step [] [11, 12, 13, 41, 44, 45] g1 h2 := (hs1.go hs2).nil
  have hw : RW h2 (.slice none 0 0) (.slice none 0 0) (.slice none 0 0) [] [] := ⟨Own.nil _ _ _ _, Own.nil _ _ _ _, Own.nil _ _ _ _, by simp⟩
  clear hs1 hs2
  obtain ⟨cq, hcq, hq⟩ := hq
  obtain ⟨ca, hca, ha⟩ := ha
  obtain ⟨cu, hcu, hu⟩ := hu
  obtain ⟨cm, hcm, hmo⟩ := hmo
  replace hq := hq.go hst
  replace ha := ha.go hst
  replace hu := hu.go hst
  replace hmo := hmo.go hst
  repeat (first|refine q1 ?_|refine q2 ?_|refine q3 ?_|refine q4 ?_|refine q5 ?_|refine q6 ?_|refine w_seq ?_|refine w_region ?_|refine w_ops_nil ?_|refine w_skip ?_|refine w_blk ?_|refine q7 ?_|refine q8 ?_|refine q9 ?_)
  refine d_begin (some 4) [11, 12, 13] (by kernel_rfl) fun d0 hsd => ?_
  replace hw := hw.go hsd
  replace hq := hq.go hsd; replace ha := ha.go hsd; replace hu := hu.go hsd; replace hmo := hmo.go hsd; replace hc1 := hc1.go hsd; replace hst := hst.go hsd; replace hc2 := hc2.go hsd
  refine d_read 0 calm_ret rfl (by kernel_rfl) rfl  (fun h hs => r_load (us := [(.slice none 0 0), (.slice none 0 0), (.slice none 0 0)]) (hc2.go hs) rfl rfl rfl (fun e => by cases e)) ?_
  refine d_read 1 calm_ret rfl (by kernel_rfl) rfl  (fun h hs => r_fldA (by decide) rfl) ?_
  refine d_read 2 calm_ret rfl (by kernel_rfl) rfl  (fun h hs => r_load1 (v := .int .i64 m.id) (hc1.go hs) rfl rfl rfl) ?_
  refine d_exec1 3 (by kernel_rfl) rfl ?_
  refine w_callF rfl (ref09_two m.id d0 (by omega)) rfl fun v5 h5 hs5 hr5 => ?_
  repeat (first|refine q1 ?_|refine q2 ?_|refine q3 ?_|refine q4 ?_|refine q5 ?_|refine q6 ?_|refine w_seq ?_|refine w_region ?_|refine w_ops_nil ?_|refine w_skip ?_|refine w_block ?_|refine w_blk ?_|refine q7 ?_|refine q8 ?_|refine q9 ?_)
  refine d_next (fun _ => ⟨h5, rfl, hs5.nil⟩) ?_
  refine d_exec1 4 (by kernel_rfl) rfl ?_
  refine w_callF rfl (ref09_put ([]) (twoB m.id) [] h5 (hw.go hs5) hr5 (by (try simp only [List.length_append, List.length_cons, List.length_nil, twoB_len, first4, bytes16, fixB_len]); omega)) rfl fun u e0 hs6 hR => ?_
  obtain ⟨vB0, vN0, vA0, rfl, hw0⟩ := hR
  rw [List.nil_append] at hw0
  have hss : Step [] [11, 12, 13] d0 e0 := hs5.nil.go hs6
  replace hq := hq.go hss; replace ha := ha.go hss; replace hu := hu.go hss; replace hmo := hmo.go hss; replace hc1 := hc1.go hss; replace hst := hst.go hss; replace hc2 := hc2.go hss
  repeat (first|refine q1 ?_|refine q2 ?_|refine q3 ?_|refine q4 ?_|refine q5 ?_|refine q6 ?_|refine w_seq ?_|refine w_region ?_|refine w_ops_nil ?_|refine w_skip ?_|refine w_block ?_|refine w_blk ?_|refine q7 ?_|refine q8 ?_|refine q9 ?_)
  refine d_over (by kernel_rfl) ?_
  refine d_phase (some 5) [] (by kernel_rfl) ?_
  refine d_exec1 5 (by kernel_rfl) rfl ?_
  refine w_store (us := [vB0, vN0, vA0]) (vs' := [vB0, vN0, vA0]) hc2 rfl rfl rfl rfl hw0.one (by simp) rfl fun f0 hb7 hs7 hc100 => ?_
  replace hw0 := hw0.go hs7
  replace hq := hq.go hs7; replace ha := ha.go hs7; replace hu := hu.go hs7; replace hmo := hmo.go hs7; replace hc1 := hc1.go hs7; replace hst := hst.go hs7
  clear hc2 hss hs5 hs6 hs7 hsd hr5 hb7 hw
  have hc2 := hc100
  clear hc100
  repeat (first|refine q1 ?_|refine q2 ?_|refine q3 ?_|refine q4 ?_|refine q5 ?_|refine q6 ?_|refine w_seq ?_|refine w_region ?_|refine w_ops_nil ?_|refine w_skip ?_|refine w_block ?_|refine w_blk ?_|refine q7 ?_|refine q8 ?_|refine q9 ?_)
  refine d_over (by kernel_rfl) ?_
  refine d_done (by kernel_rfl) ?_
  repeat (first|refine q1 ?_|refine q2 ?_|refine q3 ?_|refine q4 ?_|refine q5 ?_|refine q6 ?_|refine w_seq ?_|refine w_region ?_|refine w_ops_nil ?_|refine w_skip ?_|refine w_blk ?_|refine q7 ?_|refine q8 ?_|refine q9 ?_)
  refine d_begin (some 4) [11, 12, 13] (by kernel_rfl) fun d1 hsd => ?_
  replace hw0 := hw0.go hsd
  replace hq := hq.go hsd; replace ha := ha.go hsd; replace hu := hu.go hsd; replace hmo := hmo.go hsd; replace hc1 := hc1.go hsd; replace hst := hst.go hsd; replace hc2 := hc2.go hsd
  refine d_read 0 calm_ret rfl (by kernel_rfl) rfl  (fun h hs => r_load (us := [vB0, vN0, vA0]) (hc2.go hs) rfl rfl rfl (fun e => by cases e)) ?_
  refine d_read 1 calm_ret rfl (by kernel_rfl) rfl  (fun h hs => r_fldA (by decide) rfl) ?_
  refine d_read 2 calm_ret rfl (by kernel_rfl) rfl  (fun h hs => r_load1 (v := .int .i64 m.flags) (hc1.go hs) rfl rfl rfl) ?_
  refine d_exec1 3 (by kernel_rfl) rfl ?_
  refine w_callF rfl (ref09_two m.flags d1 (by omega)) rfl fun v5 h5 hs5 hr5 => ?_
  repeat (first|refine q1 ?_|refine q2 ?_|refine q3 ?_|refine q4 ?_|refine q5 ?_|refine q6 ?_|refine w_seq ?_|refine w_region ?_|refine w_ops_nil ?_|refine w_skip ?_|refine w_block ?_|refine w_blk ?_|refine q7 ?_|refine q8 ?_|refine q9 ?_)
  refine d_next (fun _ => ⟨h5, rfl, hs5.nil⟩) ?_
  refine d_exec1 4 (by kernel_rfl) rfl ?_
  refine w_callF rfl (ref09_put (twoB m.id) (twoB m.flags) [] h5 (hw0.go hs5) hr5 (by (try simp only [List.length_append, List.length_cons, List.length_nil, twoB_len, first4, bytes16, fixB_len]); omega)) rfl fun u e1 hs6 hR => ?_
  obtain ⟨vB1, vN1, vA1, rfl, hw1⟩ := hR
  have hss : Step [] [11, 12, 13] d1 e1 := hs5.nil.go hs6
  replace hq := hq.go hss; replace ha := ha.go hss; replace hu := hu.go hss; replace hmo := hmo.go hss; replace hc1 := hc1.go hss; replace hst := hst.go hss; replace hc2 := hc2.go hss
  repeat (first|refine q1 ?_|refine q2 ?_|refine q3 ?_|refine q4 ?_|refine q5 ?_|refine q6 ?_|refine w_seq ?_|refine w_region ?_|refine w_ops_nil ?_|refine w_skip ?_|refine w_block ?_|refine w_blk ?_|refine q7 ?_|refine q8 ?_|refine q9 ?_)
  refine d_over (by kernel_rfl) ?_
  refine d_phase (some 5) [] (by kernel_rfl) ?_
  refine d_exec1 5 (by kernel_rfl) rfl ?_
  refine w_store (us := [vB1, vN1, vA1]) (vs' := [vB1, vN1, vA1]) hc2 rfl rfl rfl rfl hw1.one (by simp) rfl fun f1 hb7 hs7 hc101 => ?_
  replace hw1 := hw1.go hs7
  replace hq := hq.go hs7; replace ha := ha.go hs7; replace hu := hu.go hs7; replace hmo := hmo.go hs7; replace hc1 := hc1.go hs7; replace hst := hst.go hs7
  clear hc2 hss hs5 hs6 hs7 hsd hr5 hb7 hw0
  have hc2 := hc101
  clear hc101
  repeat (first|refine q1 ?_|refine q2 ?_|refine q3 ?_|refine q4 ?_|refine q5 ?_|refine q6 ?_|refine w_seq ?_|refine w_region ?_|refine w_ops_nil ?_|refine w_skip ?_|refine w_block ?_|refine w_blk ?_|refine q7 ?_|refine q8 ?_|refine q9 ?_)
  refine d_over (by kernel_rfl) ?_
  refine d_done (by kernel_rfl) ?_
  repeat (first|refine q1 ?_|refine q2 ?_|refine q3 ?_|refine q4 ?_|refine q5 ?_|refine q6 ?_|refine w_seq ?_|refine w_region ?_|refine w_ops_nil ?_|refine w_skip ?_|refine w_blk ?_|refine q7 ?_|refine q8 ?_|refine q9 ?_)
  refine d_begin (some 5) [11, 12, 13] (by kernel_rfl) fun d2 hsd => ?_
  replace hw1 := hw1.go hsd
  replace hq := hq.go hsd; replace ha := ha.go hsd; replace hu := hu.go hsd; replace hmo := hmo.go hsd; replace hc1 := hc1.go hsd; replace hst := hst.go hsd; replace hc2 := hc2.go hsd
  refine d_read 0 calm_ret rfl (by kernel_rfl) rfl  (fun h hs => r_load (us := [vB1, vN1, vA1]) (hc2.go hs) rfl rfl rfl (fun e => by cases e)) ?_
  refine d_read 1 calm_ret rfl (by kernel_rfl) rfl  (fun h hs => r_fldA (by decide) rfl) ?_
  refine d_read 2 calm_ret rfl (by kernel_rfl) rfl  (fun h hs => r_load1 (v := vq) (hc1.go hs) rfl rfl rfl) ?_
  refine d_read 3 calm_ret rfl (by kernel_rfl) rfl  (fun h hs => r_lenSl hq.isSl rfl) ?_
  refine d_exec1 4 (by kernel_rfl) rfl ?_
  refine w_callF rfl (ref09_two (m.asked.length : Int) d2 (by omega)) rfl fun v5 h5 hs5 hr5 => ?_
  repeat (first|refine q1 ?_|refine q2 ?_|refine q3 ?_|refine q4 ?_|refine q5 ?_|refine q6 ?_|refine w_seq ?_|refine w_region ?_|refine w_ops_nil ?_|refine w_skip ?_|refine w_block ?_|refine w_blk ?_|refine q7 ?_|refine q8 ?_|refine q9 ?_)
  refine d_next (fun _ => ⟨h5, rfl, hs5.nil⟩) ?_
  refine d_exec1 5 (by kernel_rfl) rfl ?_
  refine w_callF rfl (ref09_put (twoB m.id ++ twoB m.flags) (twoB (m.asked.length : Int)) [] h5 (hw1.go hs5) hr5 (by (try simp only [List.length_append, List.length_cons, List.length_nil, twoB_len, first4, bytes16, fixB_len]); omega)) rfl fun u e2 hs6 hR => ?_
  obtain ⟨vB2, vN2, vA2, rfl, hw2⟩ := hR
  have hss : Step [] [11, 12, 13] d2 e2 := hs5.nil.go hs6
  replace hq := hq.go hss; replace ha := ha.go hss; replace hu := hu.go hss; replace hmo := hmo.go hss; replace hc1 := hc1.go hss; replace hst := hst.go hss; replace hc2 := hc2.go hss
  repeat (first|refine q1 ?_|refine q2 ?_|refine q3 ?_|refine q4 ?_|refine q5 ?_|refine q6 ?_|refine w_seq ?_|refine w_region ?_|refine w_ops_nil ?_|refine w_skip ?_|refine w_block ?_|refine w_blk ?_|refine q7 ?_|refine q8 ?_|refine q9 ?_)
  refine d_over (by kernel_rfl) ?_
  refine d_phase (some 6) [] (by kernel_rfl) ?_
  refine d_exec1 6 (by kernel_rfl) rfl ?_
  refine w_store (us := [vB2, vN2, vA2]) (vs' := [vB2, vN2, vA2]) hc2 rfl rfl rfl rfl hw2.one (by simp) rfl fun f2 hb7 hs7 hc102 => ?_
  replace hw2 := hw2.go hs7
  replace hq := hq.go hs7; replace ha := ha.go hs7; replace hu := hu.go hs7; replace hmo := hmo.go hs7; replace hc1 := hc1.go hs7; replace hst := hst.go hs7
  clear hc2 hss hs5 hs6 hs7 hsd hr5 hb7 hw1
  have hc2 := hc102
  clear hc102
  repeat (first|refine q1 ?_|refine q2 ?_|refine q3 ?_|refine q4 ?_|refine q5 ?_|refine q6 ?_|refine w_seq ?_|refine w_region ?_|refine w_ops_nil ?_|refine w_skip ?_|refine w_block ?_|refine w_blk ?_|refine q7 ?_|refine q8 ?_|refine q9 ?_)
  refine d_over (by kernel_rfl) ?_
  refine d_done (by kernel_rfl) ?_
  repeat (first|refine q1 ?_|refine q2 ?_|refine q3 ?_|refine q4 ?_|refine q5 ?_|refine q6 ?_|refine w_seq ?_|refine w_region ?_|refine w_ops_nil ?_|refine w_skip ?_|refine w_blk ?_|refine q7 ?_|refine q8 ?_|refine q9 ?_)
  refine d_begin (some 5) [11, 12, 13] (by kernel_rfl) fun d3 hsd => ?_
  replace hw2 := hw2.go hsd
  replace hq := hq.go hsd; replace ha := ha.go hsd; replace hu := hu.go hsd; replace hmo := hmo.go hsd; replace hc1 := hc1.go hsd; replace hst := hst.go hsd; replace hc2 := hc2.go hsd
  refine d_read 0 calm_ret rfl (by kernel_rfl) rfl  (fun h hs => r_load (us := [vB2, vN2, vA2]) (hc2.go hs) rfl rfl rfl (fun e => by cases e)) ?_
  refine d_read 1 calm_ret rfl (by kernel_rfl) rfl  (fun h hs => r_fldA (by decide) rfl) ?_
  refine d_read 2 calm_ret rfl (by kernel_rfl) rfl  (fun h hs => r_load1 (v := va) (hc1.go hs) rfl rfl rfl) ?_
  refine d_read 3 calm_ret rfl (by kernel_rfl) rfl  (fun h hs => r_lenSl ha.isSl rfl) ?_
  refine d_exec1 4 (by kernel_rfl) rfl ?_
  refine w_callF rfl (ref09_two (m.ans.length : Int) d3 (by omega)) rfl fun v5 h5 hs5 hr5 => ?_
  repeat (first|refine q1 ?_|refine q2 ?_|refine q3 ?_|refine q4 ?_|refine q5 ?_|refine q6 ?_|refine w_seq ?_|refine w_region ?_|refine w_ops_nil ?_|refine w_skip ?_|refine w_block ?_|refine w_blk ?_|refine q7 ?_|refine q8 ?_|refine q9 ?_)
  refine d_next (fun _ => ⟨h5, rfl, hs5.nil⟩) ?_
  refine d_exec1 5 (by kernel_rfl) rfl ?_
  refine w_callF rfl (ref09_put (twoB m.id ++ twoB m.flags ++ twoB (m.asked.length : Int)) (twoB (m.ans.length : Int)) [] h5 (hw2.go hs5) hr5 (by (try simp only [List.length_append, List.length_cons, List.length_nil, twoB_len, first4, bytes16, fixB_len]); omega)) rfl fun u e3 hs6 hR => ?_
  obtain ⟨vB3, vN3, vA3, rfl, hw3⟩ := hR
  have hss : Step [] [11, 12, 13] d3 e3 := hs5.nil.go hs6
  replace hq := hq.go hss; replace ha := ha.go hss; replace hu := hu.go hss; replace hmo := hmo.go hss; replace hc1 := hc1.go hss; replace hst := hst.go hss; replace hc2 := hc2.go hss
  repeat (first|refine q1 ?_|refine q2 ?_|refine q3 ?_|refine q4 ?_|refine q5 ?_|refine q6 ?_|refine w_seq ?_|refine w_region ?_|refine w_ops_nil ?_|refine w_skip ?_|refine w_block ?_|refine w_blk ?_|refine q7 ?_|refine q8 ?_|refine q9 ?_)
  refine d_over (by kernel_rfl) ?_
  refine d_phase (some 6) [] (by kernel_rfl) ?_
  refine d_exec1 6 (by kernel_rfl) rfl ?_
  refine w_store (us := [vB3, vN3, vA3]) (vs' := [vB3, vN3, vA3]) hc2 rfl rfl rfl rfl hw3.one (by simp) rfl fun f3 hb7 hs7 hc103 => ?_
  replace hw3 := hw3.go hs7
  replace hq := hq.go hs7; replace ha := ha.go hs7; replace hu := hu.go hs7; replace hmo := hmo.go hs7; replace hc1 := hc1.go hs7; replace hst := hst.go hs7
  clear hc2 hss hs5 hs6 hs7 hsd hr5 hb7 hw2
  have hc2 := hc103
  clear hc103
  repeat (first|refine q1 ?_|refine q2 ?_|refine q3 ?_|refine q4 ?_|refine q5 ?_|refine q6 ?_|refine w_seq ?_|refine w_region ?_|refine w_ops_nil ?_|refine w_skip ?_|refine w_block ?_|refine w_blk ?_|refine q7 ?_|refine q8 ?_|refine q9 ?_)
  refine d_over (by kernel_rfl) ?_
  refine d_done (by kernel_rfl) ?_
  repeat (first|refine q1 ?_|refine q2 ?_|refine q3 ?_|refine q4 ?_|refine q5 ?_|refine q6 ?_|refine w_seq ?_|refine w_region ?_|refine w_ops_nil ?_|refine w_skip ?_|refine w_blk ?_|refine q7 ?_|refine q8 ?_|refine q9 ?_)
  refine d_begin (some 5) [11, 12, 13] (by kernel_rfl) fun d4 hsd => ?_
  replace hw3 := hw3.go hsd
  replace hq := hq.go hsd; replace ha := ha.go hsd; replace hu := hu.go hsd; replace hmo := hmo.go hsd; replace hc1 := hc1.go hsd; replace hst := hst.go hsd; replace hc2 := hc2.go hsd
  refine d_read 0 calm_ret rfl (by kernel_rfl) rfl  (fun h hs => r_load (us := [vB3, vN3, vA3]) (hc2.go hs) rfl rfl rfl (fun e => by cases e)) ?_
  refine d_read 1 calm_ret rfl (by kernel_rfl) rfl  (fun h hs => r_fldA (by decide) rfl) ?_
  refine d_read 2 calm_ret rfl (by kernel_rfl) rfl  (fun h hs => r_load1 (v := vu) (hc1.go hs) rfl rfl rfl) ?_
  refine d_read 3 calm_ret rfl (by kernel_rfl) rfl  (fun h hs => r_lenSl hu.isSl rfl) ?_
  refine d_exec1 4 (by kernel_rfl) rfl ?_
  refine w_callF rfl (ref09_two (m.auth.length : Int) d4 (by omega)) rfl fun v5 h5 hs5 hr5 => ?_
  repeat (first|refine q1 ?_|refine q2 ?_|refine q3 ?_|refine q4 ?_|refine q5 ?_|refine q6 ?_|refine w_seq ?_|refine w_region ?_|refine w_ops_nil ?_|refine w_skip ?_|refine w_block ?_|refine w_blk ?_|refine q7 ?_|refine q8 ?_|refine q9 ?_)
  refine d_next (fun _ => ⟨h5, rfl, hs5.nil⟩) ?_
  refine d_exec1 5 (by kernel_rfl) rfl ?_
  refine w_callF rfl (ref09_put (twoB m.id ++ twoB m.flags ++ twoB (m.asked.length : Int) ++ twoB (m.ans.length : Int)) (twoB (m.auth.length : Int)) [] h5 (hw3.go hs5) hr5 (by (try simp only [List.length_append, List.length_cons, List.length_nil, twoB_len, first4, bytes16, fixB_len]); omega)) rfl fun u e4 hs6 hR => ?_
  obtain ⟨vB4, vN4, vA4, rfl, hw4⟩ := hR
  have hss : Step [] [11, 12, 13] d4 e4 := hs5.nil.go hs6
  replace hq := hq.go hss; replace ha := ha.go hss; replace hu := hu.go hss; replace hmo := hmo.go hss; replace hc1 := hc1.go hss; replace hst := hst.go hss; replace hc2 := hc2.go hss
  repeat (first|refine q1 ?_|refine q2 ?_|refine q3 ?_|refine q4 ?_|refine q5 ?_|refine q6 ?_|refine w_seq ?_|refine w_region ?_|refine w_ops_nil ?_|refine w_skip ?_|refine w_block ?_|refine w_blk ?_|refine q7 ?_|refine q8 ?_|refine q9 ?_)
  refine d_over (by kernel_rfl) ?_
  refine d_phase (some 6) [] (by kernel_rfl) ?_
  refine d_exec1 6 (by kernel_rfl) rfl ?_
  refine w_store (us := [vB4, vN4, vA4]) (vs' := [vB4, vN4, vA4]) hc2 rfl rfl rfl rfl hw4.one (by simp) rfl fun f4 hb7 hs7 hc104 => ?_
  replace hw4 := hw4.go hs7
  replace hq := hq.go hs7; replace ha := ha.go hs7; replace hu := hu.go hs7; replace hmo := hmo.go hs7; replace hc1 := hc1.go hs7; replace hst := hst.go hs7
  clear hc2 hss hs5 hs6 hs7 hsd hr5 hb7 hw3
  have hc2 := hc104
  clear hc104
  repeat (first|refine q1 ?_|refine q2 ?_|refine q3 ?_|refine q4 ?_|refine q5 ?_|refine q6 ?_|refine w_seq ?_|refine w_region ?_|refine w_ops_nil ?_|refine w_skip ?_|refine w_block ?_|refine w_blk ?_|refine q7 ?_|refine q8 ?_|refine q9 ?_)
  refine d_over (by kernel_rfl) ?_
  refine d_done (by kernel_rfl) ?_
  repeat (first|refine q1 ?_|refine q2 ?_|refine q3 ?_|refine q4 ?_|refine q5 ?_|refine q6 ?_|refine w_seq ?_|refine w_region ?_|refine w_ops_nil ?_|refine w_skip ?_|refine w_blk ?_|refine q7 ?_|refine q8 ?_|refine q9 ?_)
  refine d_begin (some 5) [11, 12, 13] (by kernel_rfl) fun d5 hsd => ?_
  replace hw4 := hw4.go hsd
  replace hq := hq.go hsd; replace ha := ha.go hsd; replace hu := hu.go hsd; replace hmo := hmo.go hsd; replace hc1 := hc1.go hsd; replace hst := hst.go hsd; replace hc2 := hc2.go hsd
  refine d_read 0 calm_ret rfl (by kernel_rfl) rfl  (fun h hs => r_load (us := [vB4, vN4, vA4]) (hc2.go hs) rfl rfl rfl (fun e => by cases e)) ?_
  refine d_read 1 calm_ret rfl (by kernel_rfl) rfl  (fun h hs => r_fldA (by decide) rfl) ?_
  refine d_read 2 calm_ret rfl (by kernel_rfl) rfl  (fun h hs => r_load1 (v := vm) (hc1.go hs) rfl rfl rfl) ?_
  refine d_read 3 calm_ret rfl (by kernel_rfl) rfl  (fun h hs => r_lenSl hmo.isSl rfl) ?_
  refine d_exec1 4 (by kernel_rfl) rfl ?_
  refine w_callF rfl (ref09_two (m.more.length : Int) d5 (by omega)) rfl fun v5 h5 hs5 hr5 => ?_
  repeat (first|refine q1 ?_|refine q2 ?_|refine q3 ?_|refine q4 ?_|refine q5 ?_|refine q6 ?_|refine w_seq ?_|refine w_region ?_|refine w_ops_nil ?_|refine w_skip ?_|refine w_block ?_|refine w_blk ?_|refine q7 ?_|refine q8 ?_|refine q9 ?_)
  refine d_next (fun _ => ⟨h5, rfl, hs5.nil⟩) ?_
  refine d_exec1 5 (by kernel_rfl) rfl ?_
  refine w_callF rfl (ref09_put (twoB m.id ++ twoB m.flags ++ twoB (m.asked.length : Int) ++ twoB (m.ans.length : Int) ++ twoB (m.auth.length : Int)) (twoB (m.more.length : Int)) [] h5 (hw4.go hs5) hr5 (by (try simp only [List.length_append, List.length_cons, List.length_nil, twoB_len, first4, bytes16, fixB_len]); omega)) rfl fun u e5 hs6 hR => ?_
  obtain ⟨vB5, vN5, vA5, rfl, hw5⟩ := hR
  have hss : Step [] [11, 12, 13] d5 e5 := hs5.nil.go hs6
  replace hq := hq.go hss; replace ha := ha.go hss; replace hu := hu.go hss; replace hmo := hmo.go hss; replace hc1 := hc1.go hss; replace hst := hst.go hss; replace hc2 := hc2.go hss
  repeat (first|refine q1 ?_|refine q2 ?_|refine q3 ?_|refine q4 ?_|refine q5 ?_|refine q6 ?_|refine w_seq ?_|refine w_region ?_|refine w_ops_nil ?_|refine w_skip ?_|refine w_block ?_|refine w_blk ?_|refine q7 ?_|refine q8 ?_|refine q9 ?_)
  refine d_over (by kernel_rfl) ?_
  refine d_phase (some 6) [] (by kernel_rfl) ?_
  refine d_exec1 6 (by kernel_rfl) rfl ?_
  refine w_store (us := [vB5, vN5, vA5]) (vs' := [vB5, vN5, vA5]) hc2 rfl rfl rfl rfl hw5.one (by simp) rfl fun f5 hb7 hs7 hc105 => ?_
  replace hw5 := hw5.go hs7
  replace hq := hq.go hs7; replace ha := ha.go hs7; replace hu := hu.go hs7; replace hmo := hmo.go hs7; replace hc1 := hc1.go hs7; replace hst := hst.go hs7
  clear hc2 hss hs5 hs6 hs7 hsd hr5 hb7 hw4
  have hc2 := hc105
  clear hc105
  repeat (first|refine q1 ?_|refine q2 ?_|refine q3 ?_|refine q4 ?_|refine q5 ?_|refine q6 ?_|refine w_seq ?_|refine w_region ?_|refine w_ops_nil ?_|refine w_skip ?_|refine w_block ?_|refine w_blk ?_|refine q7 ?_|refine q8 ?_|refine q9 ?_)
  refine d_over (by kernel_rfl) ?_
  refine d_done (by kernel_rfl) ?_
  rw [show twoB m.id ++ twoB m.flags ++ twoB (m.asked.length : Int) ++ twoB (m.ans.length : Int) ++ twoB (m.auth.length : Int) ++ twoB (m.more.length : Int) = headB m from rfl] at hw5
  have hlm := hq.isSl.le
  repeat (first|refine q1 ?_|refine q2 ?_|refine q3 ?_|refine q4 ?_|refine q5 ?_|refine q6 ?_|refine w_seq ?_|refine w_region ?_|refine w_ops_nil ?_|refine w_skip ?_|refine w_blk ?_|refine q7 ?_|refine q8 ?_|refine q9 ?_)
  refine w_cut (ι := Unit) (fun _ => [(1, .pointer (some ⟨b1, 0, none⟩)), (3, .pointer (some ⟨b2, 0, none⟩))])
    (fun _ w => ∃ h vB vN vA, h.w = w ∧ Step [] [11, 12, 13, 41, 44, 45] f5 h ∧ Cell h 41 b1 46 cs ∧ RW h vB vN vA (headB m ++ (askW m).1) (askW m).2 ∧ Cell h 44 b2 29 [vB, vN, vA]) ?_ ?_
  · repeat (first|refine q1 ?_|refine q2 ?_|refine q3 ?_|refine q4 ?_|refine q5 ?_|refine q6 ?_|refine w_seq ?_|refine w_region ?_|refine w_ops_nil ?_|refine w_skip ?_|refine w_block ?_|refine w_blk ?_|refine q7 ?_|refine q8 ?_|refine q9 ?_)
    refine w_loop (ι := Nat) (fun i => [(1, .pointer (some ⟨b1, 0, none⟩)), (3, .pointer (some ⟨b2, 0, none⟩)), (4, .int .i64 (i : Int))])
      (fun i w => ∃ h vB vN vA, h.w = w ∧ Step [] [11, 12, 13, 41, 44, 45] f5 h ∧ Cell h 41 b1 46 cs ∧ RW h vB vN vA (headB m ++ (foldW qnW 12 [] (m.asked.take i)).1) (foldW qnW 12 [] (m.asked.take i)).2 ∧ Cell h 44 b2 29 [vB, vN, vA] ∧ i ≤ m.asked.length)
      (fun i => m.asked.length - i) 0 ⟨f5, vB5, vN5, vA5, rfl, Step.refl _ _ _, hc1, by simpa [foldW] using hw5, hc2, by omega⟩ ⟨rfl, rfl, rfl, trivial⟩ ?_
    clear hw5 hc1 hc2
    rintro i _ ⟨h, vB, vN, vA, rfl, hst2, hc1, hw, hc2, hi⟩
    replace hq := hq.go hst2
    replace hst := hst.go hst2
    repeat (first|refine q1 ?_|refine q2 ?_|refine q3 ?_|refine q4 ?_|refine q5 ?_|refine q6 ?_|refine w_seq ?_|refine w_region ?_|refine w_ops_nil ?_|refine w_skip ?_|refine w_block ?_|refine w_blk ?_|refine q7 ?_|refine q8 ?_|refine q9 ?_)
    refine w_fldA (by decide) rfl rfl ?_
    refine w_load1 (v := vq) hc1 rfl rfl rfl rfl ?_
    refine w_lenSl hq.isSl rfl rfl ?_
    repeat (first|refine q1 ?_|refine q2 ?_|refine q3 ?_|refine q4 ?_|refine q5 ?_|refine q6 ?_|refine w_seq ?_|refine w_region ?_|refine w_ops_nil ?_|refine w_skip ?_|refine w_block ?_|refine w_blk ?_|refine q7 ?_|refine q8 ?_|refine q9 ?_)
    refine w_condP rfl (fun hlt => ?_) (fun hlt => ?_)
    · have hlt : i < m.asked.length := by omega
      obtain ⟨hnm, hty, hcl⟩ := y1 m.asked[i] (List.getElem_mem hlt)
      unfold wordP at hty hcl
      have hnl := may_len hnm
      have htake : m.asked.take (i + 1) = m.asked.take i ++ [m.asked[i]] := List.take_succ_eq_append_getElem hlt
      have hfs := foldW_snoc qnW (m.asked.take i) m.asked[i] 12 []
      rw [← htake] at hfs
      have hpre := foldW_prefix qnW (m.asked.take (i + 1)) (m.asked.drop (i + 1)) 12 []
      rw [List.take_append_drop] at hpre
      have hml := foldq_len (m.asked.take i) 12 [] (fun q hq => y1 q (List.mem_of_mem_take hq))
      simp only [List.length_nil, Nat.zero_add] at hml
      have htl : (m.asked.take i).length ≤ m.asked.length := by rw [List.length_take]; omega
      have hs1' : 12 + (foldW qnW 12 [] m.asked).1.length ≤ 900000 := by
        have := s1; simp only [msW, List.length_append, headB_len, askW] at this; omega
      generalize hq0 : m.asked[i] = qx at hnm hty hcl hnl hfs
      generalize hfo : foldW qnW 12 [] (m.asked.take i) = fo at hw hfs hml
      obtain ⟨fB, fm⟩ := fo
      dsimp only at hw hfs hml
      have hB12 : (headB m ++ fB).length = 12 + fB.length := by rw [List.length_append, headB_len]
      have hqw : qnW (12 + fB.length) fm qx = ((nameW (headB m ++ fB).length fm (labelsB qx.name)).1 ++ twoB qx.typ ++ twoB qx.cls, (nameW (headB m ++ fB).length fm (labelsB qx.name)).2) := by rw [hB12]; rfl
      obtain ⟨e1, l1, l2⟩ := end_len hnm (headB m ++ fB) fm
      generalize hz : nameW (headB m ++ fB).length fm (labelsB qx.name) = z at e1 l1 l2 hqw
      obtain ⟨z1, z2⟩ := z
      dsimp only at e1 l1 l2 hqw
      rw [hqw] at hfs
      rw [hfs] at hpre
      simp only [List.length_append, twoB_len] at hpre
      have hget : ∀ (h : G), Step [] [11, 12, 13] h h → True := fun _ _ => trivial
      repeat (first|refine q1 ?_|refine q2 ?_|refine q3 ?_|refine q4 ?_|refine q5 ?_|refine q6 ?_|refine w_seq ?_|refine w_region ?_|refine w_ops_nil ?_|refine w_skip ?_|refine w_blk ?_|refine q7 ?_|refine q8 ?_|refine q9 ?_)
      refine w_block ?_
      refine w_seq ?_
      refine w_cut (ι := Nat) (fun kb => [(1, .pointer (some ⟨b1, 0, none⟩)), (3, .pointer (some ⟨b2, 0, none⟩)), (4, .int .i64 (i : Int)), (5, .pointer (some ⟨kb, 0, none⟩))])
        (fun kb w => ∃ h' vB' vN' vA', h'.w = w ∧ Step [] [11, 12, 13, 41, 44, 45] h h' ∧ Cell h' 41 b1 46 cs ∧ RW h' vB' vN' vA' (headB m ++ fB ++ z1) z2 ∧ Cell h' 45 kb 29 [vB', vN', vA'] ∧ Cell h' 44 b2 29 [vB, vN, vA]) ?_ ?_
      · refine d_begin (some 7) [11, 12, 13] (by kernel_rfl) fun g3 hsd => ?_
        have hw0 := hw.go hsd
        have hc10 := hc1.go hsd
        have hc20 := hc2.go hsd
        have hq00 := hq.go hsd
        refine d_read 0 calm_ret rfl (by kernel_rfl) rfl  (fun h hs => r_load (us := [vB, vN, vA]) (hc20.go hs) rfl rfl rfl (fun e => by cases e)) ?_
        refine d_read 1 calm_ret rfl (by kernel_rfl) rfl  (fun h hs => r_fldA (by decide) rfl) ?_
        refine d_read 2 calm_ret rfl (by kernel_rfl) rfl  (fun h hs => r_load1 (v := vq) (hc10.go hs) rfl rfl rfl) ?_
        refine d_pure 3 calm_ret rfl (by kernel_rfl) rfl rfl ?_
        refine d_read 4 calm_ret rfl (by kernel_rfl) rfl  (fun h hs => r_idx (hq00.go hs) rfl rfl (by omega) (by omega)) ?_
        refine d_read 5 calm_ret rfl (by kernel_rfl) rfl  (fun h hs => r_fldE (hq00.base hlt) (by decide) rfl) ?_
        refine d_read 6 calm_ret rfl (by kernel_rfl) rfl  (fun h hs => r_loadEF (i := i) (y := qx) (u := str qx.name) (hq00.go hs) rfl (by simp [hlt, hq0]) rfl rfl) ?_
        refine d_exec2 7 11 (by kernel_rfl) rfl rfl ?_ ?_
        · refine w_callF rfl (ref08_Name qx.name (headB m ++ fB) fm g3 hw0 (by omega) (by omega) (by omega)) rfl fun u h4 hs4 hR => ?_
          obtain ⟨vB1, vN1, vA1, rfl, hw4⟩ := hR
          rw [e1] at hw4; dsimp only at hw4
          repeat (first|refine q1 ?_|refine q2 ?_|refine q3 ?_|refine q4 ?_|refine q5 ?_|refine q6 ?_|refine w_seq ?_|refine w_region ?_|refine w_ops_nil ?_|refine w_skip ?_|refine w_block ?_|refine w_blk ?_|refine q7 ?_|refine q8 ?_|refine q9 ?_)
          refine d_over (by kernel_rfl) ?_
          refine d_phase none [45] (by kernel_rfl) ?_
          refine d_pure 8 calm_ret rfl (by kernel_rfl) rfl rfl ?_; refine d_pure 9 calm_ret rfl (by kernel_rfl) rfl rfl ?_; refine d_pure 10 calm_ret rfl (by kernel_rfl) rfl rfl ?_
          refine d_exec1 11 (by kernel_rfl) rfl ?_
          refine w_alloc 45 (vs := [.slice none 0 0, .slice none 0 0, .slice none 0 0]) rfl rfl fun h5 b5 hs5 hc5 => ?_
          repeat (first|refine q1 ?_|refine q2 ?_|refine q3 ?_|refine q4 ?_|refine q5 ?_|refine q6 ?_|refine w_seq ?_|refine w_region ?_|refine w_ops_nil ?_|refine w_skip ?_|refine w_block ?_|refine w_blk ?_|refine q7 ?_|refine q8 ?_|refine q9 ?_)
          refine d_next (fun _ => ⟨h5, rfl, hs5.nil⟩) ?_
          refine d_exec1 12 (by kernel_rfl) rfl ?_
          refine w_store (us := [vB1, vN1, vA1]) (vs' := [vB1, vN1, vA1]) hc5 rfl rfl rfl rfl hw4.one (by simp) rfl fun h6 hb6 hs6 hc6 => ?_
          repeat (first|refine q1 ?_|refine q2 ?_|refine q3 ?_|refine q4 ?_|refine q5 ?_|refine q6 ?_|refine w_seq ?_|refine w_region ?_|refine w_ops_nil ?_|refine w_skip ?_|refine w_block ?_|refine w_blk ?_|refine q7 ?_|refine q8 ?_|refine q9 ?_)
          refine d_next (fun _ => ⟨h6, rfl, hs5.nil.go hs6⟩) ?_
          refine d_pure 13 calm_ret rfl (by kernel_rfl) rfl rfl ?_
          refine d_done (by kernel_rfl) ?_
          have hs46 : Step [] [11, 12, 13, 41, 44, 45] g3 h6 := ((hs4.mono (by simp) (by simp) : Step [] [11, 12, 13, 41, 44, 45] g3 h4).go hs5).go hs6
          exact w_meet b5 ⟨h6, vB1, vN1, vA1, rfl, (hsd.nil.go hs46), ((hc10.go hs4).go hs5).go hs6, (hw4.go hs5).go hs6, hc6, ((hc20.go hs4).go hs5).go hs6⟩ ⟨rfl, rfl, rfl, rfl, trivial⟩
        · refine w_alloc 45 (vs := [.slice none 0 0, .slice none 0 0, .slice none 0 0]) rfl rfl fun h4 b5 hs4 hc5 => ?_
          repeat (first|refine q1 ?_|refine q2 ?_|refine q3 ?_|refine q4 ?_|refine q5 ?_|refine q6 ?_|refine w_seq ?_|refine w_region ?_|refine w_ops_nil ?_|refine w_skip ?_|refine w_block ?_|refine w_blk ?_|refine q7 ?_|refine q8 ?_|refine q9 ?_)
          refine d_next (fun _ => ⟨h4, rfl, hs4.nil⟩) ?_
          refine d_exec1 7 (by kernel_rfl) rfl ?_
          refine w_callF rfl (ref08_Name qx.name (headB m ++ fB) fm h4 (hw0.go hs4) (by omega) (by omega) (by omega)) rfl fun u h5 hs5 hR => ?_
          obtain ⟨vB1, vN1, vA1, rfl, hw4⟩ := hR
          rw [e1] at hw4; dsimp only at hw4
          repeat (first|refine q1 ?_|refine q2 ?_|refine q3 ?_|refine q4 ?_|refine q5 ?_|refine q6 ?_|refine w_seq ?_|refine w_region ?_|refine w_ops_nil ?_|refine w_skip ?_|refine w_block ?_|refine w_blk ?_|refine q7 ?_|refine q8 ?_|refine q9 ?_)
          refine d_over (by kernel_rfl) ?_
          refine d_phase none [45] (by kernel_rfl) ?_
          refine d_pure 8 calm_ret rfl (by kernel_rfl) rfl rfl ?_; refine d_pure 9 calm_ret rfl (by kernel_rfl) rfl rfl ?_; refine d_pure 10 calm_ret rfl (by kernel_rfl) rfl rfl ?_
          refine d_exec1 12 (by kernel_rfl) rfl ?_
          refine w_store (us := [vB1, vN1, vA1]) (vs' := [vB1, vN1, vA1]) (hc5.go hs5) rfl rfl rfl rfl hw4.one (by simp) rfl fun h6 hb6 hs6 hc6 => ?_
          repeat (first|refine q1 ?_|refine q2 ?_|refine q3 ?_|refine q4 ?_|refine q5 ?_|refine q6 ?_|refine w_seq ?_|refine w_region ?_|refine w_ops_nil ?_|refine w_skip ?_|refine w_block ?_|refine w_blk ?_|refine q7 ?_|refine q8 ?_|refine q9 ?_)
          refine d_next (fun _ => ⟨h6, rfl, hs6⟩) ?_
          refine d_pure 13 calm_ret rfl (by kernel_rfl) rfl rfl ?_
          refine d_done (by kernel_rfl) ?_
          have hs46 : Step [] [11, 12, 13, 41, 44, 45] g3 h6 := ((hs4.nil : Step [] [11, 12, 13, 41, 44, 45] g3 h4).go hs5).go hs6
          exact w_meet b5 ⟨h6, vB1, vN1, vA1, rfl, (hsd.nil.go hs46), ((hc10.go hs4).go hs5).go hs6, hw4.go hs6, hc6, ((hc20.go hs4).go hs5).go hs6⟩ ⟨rfl, rfl, rfl, rfl, trivial⟩
      rintro kb _ ⟨h', vB1, vN1, vA1, rfl, hst3, hc1', hw1, hc5, hc2'⟩
      have hst4 := hst2.go hst3
      repeat (first|refine q1 ?_|refine q2 ?_|refine q3 ?_|refine q4 ?_|refine q5 ?_|refine q6 ?_|refine w_seq ?_|refine w_region ?_|refine w_ops_nil ?_|refine w_skip ?_|refine w_blk ?_|refine q7 ?_|refine q8 ?_|refine q9 ?_)
      refine d_begin (some 16) [11, 12, 13] (by kernel_rfl) fun g3 hsd => ?_
      replace hw1 := hw1.go hsd
      replace hst4 := hst4.go hsd
      replace hc1' := hc1'.go hsd
      replace hc2' := hc2'.go hsd
      replace hc5 := hc5.go hsd
      have hq1 := (hq.go hst3).go hsd
      refine d_read 0 calm_ret rfl (by kernel_rfl) rfl  (fun h hs => r_load (us := [vB1, vN1, vA1]) (hc5.go hs) rfl rfl rfl (fun e => by cases e)) ?_
      refine d_read 1 calm_ret rfl (by kernel_rfl) rfl  (fun h hs => r_fldA (by decide) rfl) ?_
      refine d_read 2 calm_ret rfl (by kernel_rfl) rfl  (fun h hs => r_load1 (v := vq) (hc1'.go hs) rfl rfl rfl) ?_
      refine d_pure 3 calm_ret rfl (by kernel_rfl) rfl rfl ?_
      refine d_read 4 calm_ret rfl (by kernel_rfl) rfl  (fun h hs => r_idx (hq1.go hs) rfl rfl (by omega) (by omega)) ?_
      refine d_read 5 calm_ret rfl (by kernel_rfl) rfl  (fun h hs => r_fldE (hq1.base hlt) (by decide) rfl) ?_
      refine d_read 6 calm_ret rfl (by kernel_rfl) rfl  (fun h hs => r_loadEF (i := i) (y := qx) (u := .int .i64 qx.typ) (hq1.go hs) rfl (by simp [hlt, hq0]) rfl rfl) ?_
      refine d_read 9 calm_ret rfl (by kernel_rfl) rfl  (fun h hs => r_fldA (by decide) rfl) ?_
      refine d_read 10 calm_ret rfl (by kernel_rfl) rfl  (fun h hs => r_load1 (v := vq) (hc1'.go hs) rfl rfl rfl) ?_
      refine d_pure 11 calm_ret rfl (by kernel_rfl) rfl rfl ?_
      refine d_read 12 calm_ret rfl (by kernel_rfl) rfl  (fun h hs => r_idx (hq1.go hs) rfl rfl (by omega) (by omega)) ?_
      refine d_read 13 calm_ret rfl (by kernel_rfl) rfl  (fun h hs => r_fldE (hq1.base hlt) (by decide) rfl) ?_
      refine d_read 14 calm_ret rfl (by kernel_rfl) rfl  (fun h hs => r_loadEF (i := i) (y := qx) (u := .int .i64 qx.cls) (hq1.go hs) rfl (by simp [hlt, hq0]) rfl rfl) ?_
      refine d_exec1 7 (by kernel_rfl) rfl ?_
      refine w_callF rfl (ref09_two qx.typ g3 (by omega)) rfl fun v7 h7 hs7 hr7 => ?_
      repeat (first|refine q1 ?_|refine q2 ?_|refine q3 ?_|refine q4 ?_|refine q5 ?_|refine q6 ?_|refine w_seq ?_|refine w_region ?_|refine w_ops_nil ?_|refine w_skip ?_|refine w_block ?_|refine w_blk ?_|refine q7 ?_|refine q8 ?_|refine q9 ?_)
      refine d_next (fun _ => ⟨h7, rfl, hs7.nil⟩) ?_
      refine d_exec1 8 (by kernel_rfl) rfl ?_
      refine w_callF rfl (ref09_put (headB m ++ fB ++ z1) (twoB qx.typ) z2 h7 (hw1.go hs7) hr7 (by simp only [List.length_append, twoB_len, headB_len]; omega)) rfl fun u h8 hs8 hR => ?_
      obtain ⟨vB2, vN2, vA2, rfl, hw8⟩ := hR
      repeat (first|refine q1 ?_|refine q2 ?_|refine q3 ?_|refine q4 ?_|refine q5 ?_|refine q6 ?_|refine w_seq ?_|refine w_region ?_|refine w_ops_nil ?_|refine w_skip ?_|refine w_block ?_|refine w_blk ?_|refine q7 ?_|refine q8 ?_|refine q9 ?_)
      refine d_next (fun _ => ⟨h8, rfl, hs7.nil.go hs8⟩) ?_
      refine d_exec1 15 (by kernel_rfl) rfl ?_
      refine w_callF rfl (ref09_two qx.cls h8 (by omega)) rfl fun v9 h9 hs9 hr9 => ?_
      repeat (first|refine q1 ?_|refine q2 ?_|refine q3 ?_|refine q4 ?_|refine q5 ?_|refine q6 ?_|refine w_seq ?_|refine w_region ?_|refine w_ops_nil ?_|refine w_skip ?_|refine w_block ?_|refine w_blk ?_|refine q7 ?_|refine q8 ?_|refine q9 ?_)
      refine d_next (fun _ => ⟨h9, rfl, (hs7.nil.go hs8).go hs9⟩) ?_
      refine d_exec1 16 (by kernel_rfl) rfl ?_
      refine w_callF rfl (ref09_put (headB m ++ fB ++ z1 ++ twoB qx.typ) (twoB qx.cls) z2 h9 (hw8.go hs9) hr9 (by simp only [List.length_append, twoB_len, headB_len]; omega)) rfl fun u h10 hs10 hR => ?_
      obtain ⟨vB3, vN3, vA3, rfl, hw10⟩ := hR
      have hss : Step [] [11, 12, 13] g3 h10 := ((hs7.nil.go hs8).go hs9).go hs10
      replace hst4 := hst4.go hss
      replace hc1' := hc1'.go hss
      replace hc2' := hc2'.go hss
      repeat (first|refine q1 ?_|refine q2 ?_|refine q3 ?_|refine q4 ?_|refine q5 ?_|refine q6 ?_|refine w_seq ?_|refine w_region ?_|refine w_ops_nil ?_|refine w_skip ?_|refine w_block ?_|refine w_blk ?_|refine q7 ?_|refine q8 ?_|refine q9 ?_)
      refine d_over (by kernel_rfl) ?_
      refine d_phase (some 17) [] (by kernel_rfl) ?_
      refine d_exec1 17 (by kernel_rfl) rfl ?_
      refine w_store (us := [vB3, vN3, vA3]) (vs' := [vB3, vN3, vA3]) hc2' rfl rfl rfl rfl hw10.one (by simp) rfl fun h11 hb11 hs11 hc11 => ?_
      repeat (first|refine q1 ?_|refine q2 ?_|refine q3 ?_|refine q4 ?_|refine q5 ?_|refine q6 ?_|refine w_seq ?_|refine w_region ?_|refine w_ops_nil ?_|refine w_skip ?_|refine w_block ?_|refine w_blk ?_|refine q7 ?_|refine q8 ?_|refine q9 ?_)
      refine d_over (by kernel_rfl) ?_
      refine d_done (by kernel_rfl) ?_
      repeat (first|refine q1 ?_|refine q2 ?_|refine q3 ?_|refine q4 ?_|refine q5 ?_|refine q6 ?_|refine w_seq ?_|refine w_region ?_|refine w_ops_nil ?_|refine w_skip ?_|refine w_block ?_|refine w_blk ?_|refine q7 ?_|refine q8 ?_|refine q9 ?_)
      refine w_again (i + 1) (by omega) ⟨h11, vB3, vN3, vA3, rfl, hst4.go hs11, hc1'.go hs11, ?_, hc11, by omega⟩ ⟨rfl, rfl, rfl, trivial⟩
      rw [hfs]
      have := hw10.go hs11
      simpa [List.append_assoc] using this
    · have : i = m.asked.length := by omega
      subst this
      rw [List.take_length] at hw
      repeat (first|refine q1 ?_|refine q2 ?_|refine q3 ?_|refine q4 ?_|refine q5 ?_|refine q6 ?_|refine w_seq ?_|refine w_region ?_|refine w_ops_nil ?_|refine w_skip ?_|refine w_block ?_|refine w_blk ?_|refine q7 ?_|refine q8 ?_|refine q9 ?_)
      exact w_meet () ⟨h, vB, vN, vA, rfl, hst2, hc1, hw, hc2⟩ ⟨rfl, rfl, trivial⟩
  clear hw5 hc1 hc2
  rintro _ _ ⟨h, vB, vN, vA, rfl, hst2, hc1, hw, hc2⟩
  replace ha := ha.go hst2
  replace hu := hu.go hst2
  replace hmo := hmo.go hst2
  replace hst := hst.go hst2
  clear hst2
  repeat (first|refine q1 ?_|refine q2 ?_|refine q3 ?_|refine q4 ?_|refine q5 ?_|refine q6 ?_|refine w_seq ?_|refine w_region ?_|refine w_ops_nil ?_|refine w_skip ?_|refine w_block ?_|refine w_blk ?_|refine q7 ?_|refine q8 ?_|refine q9 ?_)
  refine w_fldA (by decide) rfl rfl ?_
  refine w_load1 (v := va) hc1 rfl rfl rfl rfl ?_
  refine w_fldA (by decide) rfl rfl ?_
  refine w_load1 (v := vu) hc1 rfl rfl rfl rfl ?_
  refine w_fldA (by decide) rfl rfl ?_
  refine w_load1 (v := vm) hc1 rfl rfl rfl rfl ?_
  refine w_buildSlR El.anyV [⟨va, ha.isSl.one⟩, ⟨vu, hu.isSl.one⟩, ⟨vm, hmo.isSl.one⟩] rfl rfl rfl rfl fun h6 vall hs6 hall6 => ?_
  replace hw := hw.go hs6
  replace ha := ha.go hs6; replace hu := hu.go hs6; replace hmo := hmo.go hs6; replace hst := hst.go hs6; replace hc2 := hc2.go hs6
  clear hc1
  have hlens : ∀ (l k : List Rc), allR m = l ++ k → (headB m ++ (askW m).1 ++ (ansW m l).1).length ≤ 900000 ∧ (ansW m l).2.length ≤ 900000 := by
    intro l k he
    have h1 := foldW_prefix recW l k (12 + (askW m).1.length) (askW m).2
    have h2 := foldr_len l (12 + (askW m).1.length) (askW m).2 (fun r hr => hall r (by rw [he]; simp [hr]))
    rw [← he] at h1
    have h3 := s1
    simp only [msW, ansW, List.length_append] at h1 h3 ⊢
    have h4 : l.length ≤ (allR m).length := by rw [he, List.length_append]; omega
    have h5 : (askW m).2.length ≤ 255 * m.asked.length := by have := hql; simp only [List.length_nil] at this; unfold askW; omega
    omega
  rw [show headB m ++ (askW m).1 = headB m ++ (askW m).1 ++ (ansW m []).1 by simp [ansW, foldW], show (askW m).2 = (ansW m []).2 from rfl] at hw
  repeat (first|refine q1 ?_|refine q2 ?_|refine q3 ?_|refine q4 ?_|refine q5 ?_|refine q6 ?_|refine w_seq ?_|refine w_region ?_|refine w_ops_nil ?_|refine w_skip ?_|refine w_blk ?_|refine q7 ?_|refine q8 ?_|refine q9 ?_)
  refine w_cut (ι := Unit) (fun _ => [(3, .pointer (some ⟨b2, 0, none⟩))])
    (fun _ w => ∃ h vB vN vA, h.w = w ∧ Step [] [11, 12, 13, 41, 44, 45] g1 h ∧ RW h vB vN vA (msW m) (ansW m (allR m)).2 ∧ Cell h 44 b2 29 [vB, vN, vA]) ?_ ?_
  · repeat (first|refine q1 ?_|refine q2 ?_|refine q3 ?_|refine q4 ?_|refine q5 ?_|refine q6 ?_|refine w_seq ?_|refine w_region ?_|refine w_ops_nil ?_|refine w_skip ?_|refine w_block ?_|refine w_blk ?_|refine q7 ?_|refine q8 ?_|refine q9 ?_)
    refine w_rounds 4 ?_
    refine w_round ?_
    repeat (first|refine q1 ?_|refine q2 ?_|refine q3 ?_|refine q4 ?_|refine q5 ?_|refine q6 ?_|refine w_seq ?_|refine w_region ?_|refine w_ops_nil ?_|refine w_skip ?_|refine w_blk ?_|refine q7 ?_|refine q8 ?_|refine q9 ?_)
    repeat (first|refine q1 ?_|refine q2 ?_|refine q3 ?_|refine q4 ?_|refine q5 ?_|refine q6 ?_|refine w_seq ?_|refine w_region ?_|refine w_ops_nil ?_|refine w_skip ?_|refine w_blk ?_|refine q7 ?_|refine q8 ?_|refine q9 ?_)
    refine w_cut (ι := Unit) (fun _ => [(3, .pointer (some ⟨b2, 0, none⟩)), (7, vall), (8, .int .i64 (0))])
      (fun _ w => ∃ h vB vN vA, h.w = w ∧ Step [] [11, 12, 13, 41, 44, 45] g1 h ∧ RW h vB vN vA (headB m ++ (askW m).1 ++ (ansW m m.ans).1) (ansW m m.ans).2 ∧ Cell h 44 b2 29 [vB, vN, vA] ∧ Step [] [11, 12, 13, 41, 44, 45] h6 h) ?_ ?_
    · repeat (first|refine q1 ?_|refine q2 ?_|refine q3 ?_|refine q4 ?_|refine q5 ?_|refine q6 ?_|refine w_seq ?_|refine w_region ?_|refine w_ops_nil ?_|refine w_skip ?_|refine w_block ?_|refine w_blk ?_|refine q7 ?_|refine q8 ?_|refine q9 ?_)
      refine w_loop (ι := Nat) (fun i => [(3, .pointer (some ⟨b2, 0, none⟩)), (7, vall), (8, .int .i64 (0)), (9, .int .i64 (i : Int))])
        (fun i w => ∃ h vB vN vA, h.w = w ∧ Step [] [11, 12, 13, 41, 44, 45] g1 h ∧ RW h vB vN vA (headB m ++ (askW m).1 ++ (ansW m ([] ++ m.ans.take i)).1) (ansW m ([] ++ m.ans.take i)).2 ∧ Cell h 44 b2 29 [vB, vN, vA] ∧ i ≤ m.ans.length ∧ Step [] [11, 12, 13, 41, 44, 45] h6 h)
        (fun i => m.ans.length - i) 0 ⟨h6, vB, vN, vA, rfl, hst, by simpa using hw, hc2, by omega, Step.refl _ _ _⟩ ⟨rfl, rfl, rfl, rfl, trivial⟩ ?_
      rintro i _ ⟨h, vB, vN, vA, rfl, hst, hw, hc2, hi, hsh⟩
      have hlm := ha.isSl.le
      repeat (first|refine q1 ?_|refine q2 ?_|refine q3 ?_|refine q4 ?_|refine q5 ?_|refine q6 ?_|refine w_seq ?_|refine w_region ?_|refine w_ops_nil ?_|refine w_skip ?_|refine w_block ?_|refine w_blk ?_|refine q7 ?_|refine q8 ?_|refine q9 ?_)
      refine w_idx (hall6.go hsh) rfl rfl (by omega) (by simp only [List.length_cons, List.length_nil]; omega) rfl ?_
      refine w_loadE (i := 0) (y := ⟨va, ha.isSl.one⟩) (hall6.go hsh) rfl rfl rfl rfl ?_
      refine w_lenSl (v := va) ha.isSl rfl rfl ?_
      repeat (first|refine q1 ?_|refine q2 ?_|refine q3 ?_|refine q4 ?_|refine q5 ?_|refine q6 ?_|refine w_seq ?_|refine w_region ?_|refine w_ops_nil ?_|refine w_skip ?_|refine w_block ?_|refine w_blk ?_|refine q7 ?_|refine q8 ?_|refine q9 ?_)
      refine w_condP rfl (fun hlt => ?_) (fun hlt => ?_)
      · have hlt : i < m.ans.length := by omega
        have hmem : m.ans[i] ∈ allR m := by simp only [allR, List.mem_append]; have := List.getElem_mem hlt; simp [this]
        have hrm := hall _ hmem
        have hrl := rec_len hrm
        have htake : m.ans.take (i + 1) = m.ans.take i ++ [m.ans[i]] := List.take_succ_eq_append_getElem hlt
        have hfs := foldW_snoc recW ([] ++ m.ans.take i) m.ans[i] (12 + (askW m).1.length) (askW m).2
        rw [List.append_assoc, ← htake] at hfs
        obtain ⟨n1, n2⟩ := hlens ([] ++ m.ans.take i) (m.ans.drop i ++ (m.auth ++ m.more)) (by simp [allR, ← List.append_assoc]; try simp [List.append_assoc])
        generalize hr0 : m.ans[i] = r0 at hrm hrl hfs
        repeat (first|refine q1 ?_|refine q2 ?_|refine q3 ?_|refine q4 ?_|refine q5 ?_|refine q6 ?_|refine w_seq ?_|refine w_region ?_|refine w_ops_nil ?_|refine w_skip ?_|refine w_blk ?_|refine q7 ?_|refine q8 ?_|refine q9 ?_)
        refine w_block ?_
        refine d_begin (some 8) [11, 12, 13] (by kernel_rfl) fun g3 hsd => ?_
        replace hw := hw.go hsd
        replace hst := hst.go hsd
        replace hc2 := hc2.go hsd
        replace hsh := hsh.go hsd
        have ha3 := hall6.go hsh
        have hl3 := ha.go hsh
        refine d_read 0 calm_ret rfl (by kernel_rfl) rfl  (fun h hs => r_load (us := [vB, vN, vA]) (hc2.go hs) rfl rfl rfl (fun e => by cases e)) ?_
        refine d_pure 1 calm_ret rfl (by kernel_rfl) rfl rfl ?_; refine d_pure 2 calm_ret rfl (by kernel_rfl) rfl rfl ?_
        refine d_read 3 calm_ret rfl (by kernel_rfl) rfl  (fun h hs => r_idx (ha3.go hs) rfl rfl (by omega) (by simp only [List.length_cons, List.length_nil]; omega)) ?_
        refine d_read 4 calm_ret rfl (by kernel_rfl) rfl  (fun h hs => r_loadE (i := 0) (y := ⟨va, ha.isSl.one⟩) (ha3.go hs) rfl rfl rfl) ?_
        refine d_pure 5 calm_ret rfl (by kernel_rfl) rfl rfl ?_
        refine d_read 6 calm_ret rfl (by kernel_rfl) rfl  (fun h hs => r_idx (v := va) (hl3.go hs) rfl rfl (by omega) (by omega)) ?_
        refine d_read 7 calm_ret rfl (by kernel_rfl) rfl  (fun h hs => r_loadE (i := i) (y := r0) (hl3.go hs) rfl (by simp [hlt, hr0]) rfl) ?_
        refine d_exec1 8 (by kernel_rfl) rfl ?_
        refine w_callF rfl (ref09_record r0 _ _ g3 hw hrm n1 n2 (by omega)) rfl fun u h8 hs8 hR => ?_
        obtain ⟨vB2, vN2, vA2, rfl, hw8⟩ := hR
        replace hst := hst.go hs8
        replace hc2 := hc2.go hs8
        replace hsh := hsh.go hs8
        repeat (first|refine q1 ?_|refine q2 ?_|refine q3 ?_|refine q4 ?_|refine q5 ?_|refine q6 ?_|refine w_seq ?_|refine w_region ?_|refine w_ops_nil ?_|refine w_skip ?_|refine w_block ?_|refine w_blk ?_|refine q7 ?_|refine q8 ?_|refine q9 ?_)
        refine d_over (by kernel_rfl) ?_
        refine d_phase (some 9) [] (by kernel_rfl) ?_
        refine d_exec1 9 (by kernel_rfl) rfl ?_
        refine w_store (us := [vB2, vN2, vA2]) (vs' := [vB2, vN2, vA2]) hc2 rfl rfl rfl rfl hw8.one (by simp) rfl fun h9 hb9 hs9 hc9 => ?_
        repeat (first|refine q1 ?_|refine q2 ?_|refine q3 ?_|refine q4 ?_|refine q5 ?_|refine q6 ?_|refine w_seq ?_|refine w_region ?_|refine w_ops_nil ?_|refine w_skip ?_|refine w_block ?_|refine w_blk ?_|refine q7 ?_|refine q8 ?_|refine q9 ?_)
        refine d_over (by kernel_rfl) ?_
        refine d_done (by kernel_rfl) ?_
        repeat (first|refine q1 ?_|refine q2 ?_|refine q3 ?_|refine q4 ?_|refine q5 ?_|refine q6 ?_|refine w_seq ?_|refine w_region ?_|refine w_ops_nil ?_|refine w_skip ?_|refine w_block ?_|refine w_blk ?_|refine q7 ?_|refine q8 ?_|refine q9 ?_)
        refine w_again (i + 1) (by omega) ⟨h9, vB2, vN2, vA2, rfl, hst.go hs9, ?_, hc9, by omega, hsh.go hs9⟩ ⟨rfl, rfl, rfl, rfl, trivial⟩
        have e2 : ansW m ([] ++ m.ans.take (i + 1)) = ((ansW m ([] ++ m.ans.take i)).1 ++ (recW (headB m ++ (askW m).1 ++ (ansW m ([] ++ m.ans.take i)).1).length (ansW m ([] ++ m.ans.take i)).2 r0).1, (recW (headB m ++ (askW m).1 ++ (ansW m ([] ++ m.ans.take i)).1).length (ansW m ([] ++ m.ans.take i)).2 r0).2) := by
          rw [show (headB m ++ (askW m).1 ++ (ansW m ([] ++ m.ans.take i)).1).length = 12 + (askW m).1.length + (ansW m ([] ++ m.ans.take i)).1.length by simp only [List.length_append, headB_len]]
          exact hfs
        rw [e2]
        have := hw8.go hs9
        simpa [List.append_assoc] using this
      · have : i = m.ans.length := by omega
        subst this
        rw [List.take_length] at hw
        repeat (first|refine q1 ?_|refine q2 ?_|refine q3 ?_|refine q4 ?_|refine q5 ?_|refine q6 ?_|refine w_seq ?_|refine w_region ?_|refine w_ops_nil ?_|refine w_skip ?_|refine w_block ?_|refine w_blk ?_|refine q7 ?_|refine q8 ?_|refine q9 ?_)
        exact w_meet () ⟨h, vB, vN, vA, rfl, hst, by simpa using hw, hc2, hsh⟩ ⟨rfl, rfl, rfl, trivial⟩
    clear hw hc2
    rintro _ _ ⟨st0, st0B, st0N, st0A, rfl, st0st, st0w, st0c, st0sh⟩
    replace hall6 := hall6.go st0sh
    replace ha := ha.go st0sh
    replace hu := hu.go st0sh
    replace hmo := hmo.go st0sh
    repeat (first|refine q1 ?_|refine q2 ?_|refine q3 ?_|refine q4 ?_|refine q5 ?_|refine q6 ?_|refine w_seq ?_|refine w_region ?_|refine w_ops_nil ?_|refine w_skip ?_|refine w_block ?_|refine w_blk ?_|refine q7 ?_|refine q8 ?_|refine q9 ?_)
    refine w_round ?_
    repeat (first|refine q1 ?_|refine q2 ?_|refine q3 ?_|refine q4 ?_|refine q5 ?_|refine q6 ?_|refine w_seq ?_|refine w_region ?_|refine w_ops_nil ?_|refine w_skip ?_|refine w_blk ?_|refine q7 ?_|refine q8 ?_|refine q9 ?_)
    repeat (first|refine q1 ?_|refine q2 ?_|refine q3 ?_|refine q4 ?_|refine q5 ?_|refine q6 ?_|refine w_seq ?_|refine w_region ?_|refine w_ops_nil ?_|refine w_skip ?_|refine w_blk ?_|refine q7 ?_|refine q8 ?_|refine q9 ?_)
    refine w_cut (ι := Unit) (fun _ => [(3, .pointer (some ⟨b2, 0, none⟩)), (7, vall), (8, .int .i64 (0 + 1))])
      (fun _ w => ∃ h vB vN vA, h.w = w ∧ Step [] [11, 12, 13, 41, 44, 45] g1 h ∧ RW h vB vN vA (headB m ++ (askW m).1 ++ (ansW m (m.ans ++ m.auth)).1) (ansW m (m.ans ++ m.auth)).2 ∧ Cell h 44 b2 29 [vB, vN, vA] ∧ Step [] [11, 12, 13, 41, 44, 45] st0 h) ?_ ?_
    · repeat (first|refine q1 ?_|refine q2 ?_|refine q3 ?_|refine q4 ?_|refine q5 ?_|refine q6 ?_|refine w_seq ?_|refine w_region ?_|refine w_ops_nil ?_|refine w_skip ?_|refine w_block ?_|refine w_blk ?_|refine q7 ?_|refine q8 ?_|refine q9 ?_)
      refine w_loop (ι := Nat) (fun i => [(3, .pointer (some ⟨b2, 0, none⟩)), (7, vall), (8, .int .i64 (0 + 1)), (9, .int .i64 (i : Int))])
        (fun i w => ∃ h vB vN vA, h.w = w ∧ Step [] [11, 12, 13, 41, 44, 45] g1 h ∧ RW h vB vN vA (headB m ++ (askW m).1 ++ (ansW m (m.ans ++ m.auth.take i)).1) (ansW m (m.ans ++ m.auth.take i)).2 ∧ Cell h 44 b2 29 [vB, vN, vA] ∧ i ≤ m.auth.length ∧ Step [] [11, 12, 13, 41, 44, 45] st0 h)
        (fun i => m.auth.length - i) 0 ⟨st0, st0B, st0N, st0A, rfl, st0st, by simpa using st0w, st0c, by omega, Step.refl _ _ _⟩ ⟨rfl, rfl, rfl, rfl, trivial⟩ ?_
      rintro i _ ⟨h, vB, vN, vA, rfl, hst, hw, hc2, hi, hsh⟩
      have hlm := hu.isSl.le
      repeat (first|refine q1 ?_|refine q2 ?_|refine q3 ?_|refine q4 ?_|refine q5 ?_|refine q6 ?_|refine w_seq ?_|refine w_region ?_|refine w_ops_nil ?_|refine w_skip ?_|refine w_block ?_|refine w_blk ?_|refine q7 ?_|refine q8 ?_|refine q9 ?_)
      refine w_idx (hall6.go hsh) rfl rfl (by omega) (by simp only [List.length_cons, List.length_nil]; omega) rfl ?_
      refine w_loadE (i := 1) (y := ⟨vu, hu.isSl.one⟩) (hall6.go hsh) rfl rfl rfl rfl ?_
      refine w_lenSl (v := vu) hu.isSl rfl rfl ?_
      repeat (first|refine q1 ?_|refine q2 ?_|refine q3 ?_|refine q4 ?_|refine q5 ?_|refine q6 ?_|refine w_seq ?_|refine w_region ?_|refine w_ops_nil ?_|refine w_skip ?_|refine w_block ?_|refine w_blk ?_|refine q7 ?_|refine q8 ?_|refine q9 ?_)
      refine w_condP rfl (fun hlt => ?_) (fun hlt => ?_)
      · have hlt : i < m.auth.length := by omega
        have hmem : m.auth[i] ∈ allR m := by simp only [allR, List.mem_append]; have := List.getElem_mem hlt; simp [this]
        have hrm := hall _ hmem
        have hrl := rec_len hrm
        have htake : m.auth.take (i + 1) = m.auth.take i ++ [m.auth[i]] := List.take_succ_eq_append_getElem hlt
        have hfs := foldW_snoc recW (m.ans ++ m.auth.take i) m.auth[i] (12 + (askW m).1.length) (askW m).2
        rw [List.append_assoc, ← htake] at hfs
        obtain ⟨n1, n2⟩ := hlens (m.ans ++ m.auth.take i) (m.auth.drop i ++ (m.more)) (by simp [allR, ← List.append_assoc]; try simp [List.append_assoc])
        generalize hr0 : m.auth[i] = r0 at hrm hrl hfs
        repeat (first|refine q1 ?_|refine q2 ?_|refine q3 ?_|refine q4 ?_|refine q5 ?_|refine q6 ?_|refine w_seq ?_|refine w_region ?_|refine w_ops_nil ?_|refine w_skip ?_|refine w_blk ?_|refine q7 ?_|refine q8 ?_|refine q9 ?_)
        refine w_block ?_
        refine d_begin (some 8) [11, 12, 13] (by kernel_rfl) fun g3 hsd => ?_
        replace hw := hw.go hsd
        replace hst := hst.go hsd
        replace hc2 := hc2.go hsd
        replace hsh := hsh.go hsd
        have ha3 := hall6.go hsh
        have hl3 := hu.go hsh
        refine d_read 0 calm_ret rfl (by kernel_rfl) rfl  (fun h hs => r_load (us := [vB, vN, vA]) (hc2.go hs) rfl rfl rfl (fun e => by cases e)) ?_
        refine d_pure 1 calm_ret rfl (by kernel_rfl) rfl rfl ?_; refine d_pure 2 calm_ret rfl (by kernel_rfl) rfl rfl ?_
        refine d_read 3 calm_ret rfl (by kernel_rfl) rfl  (fun h hs => r_idx (ha3.go hs) rfl rfl (by omega) (by simp only [List.length_cons, List.length_nil]; omega)) ?_
        refine d_read 4 calm_ret rfl (by kernel_rfl) rfl  (fun h hs => r_loadE (i := 1) (y := ⟨vu, hu.isSl.one⟩) (ha3.go hs) rfl rfl rfl) ?_
        refine d_pure 5 calm_ret rfl (by kernel_rfl) rfl rfl ?_
        refine d_read 6 calm_ret rfl (by kernel_rfl) rfl  (fun h hs => r_idx (v := vu) (hl3.go hs) rfl rfl (by omega) (by omega)) ?_
        refine d_read 7 calm_ret rfl (by kernel_rfl) rfl  (fun h hs => r_loadE (i := i) (y := r0) (hl3.go hs) rfl (by simp [hlt, hr0]) rfl) ?_
        refine d_exec1 8 (by kernel_rfl) rfl ?_
        refine w_callF rfl (ref09_record r0 _ _ g3 hw hrm n1 n2 (by omega)) rfl fun u h8 hs8 hR => ?_
        obtain ⟨vB2, vN2, vA2, rfl, hw8⟩ := hR
        replace hst := hst.go hs8
        replace hc2 := hc2.go hs8
        replace hsh := hsh.go hs8
        repeat (first|refine q1 ?_|refine q2 ?_|refine q3 ?_|refine q4 ?_|refine q5 ?_|refine q6 ?_|refine w_seq ?_|refine w_region ?_|refine w_ops_nil ?_|refine w_skip ?_|refine w_block ?_|refine w_blk ?_|refine q7 ?_|refine q8 ?_|refine q9 ?_)
        refine d_over (by kernel_rfl) ?_
        refine d_phase (some 9) [] (by kernel_rfl) ?_
        refine d_exec1 9 (by kernel_rfl) rfl ?_
        refine w_store (us := [vB2, vN2, vA2]) (vs' := [vB2, vN2, vA2]) hc2 rfl rfl rfl rfl hw8.one (by simp) rfl fun h9 hb9 hs9 hc9 => ?_
        repeat (first|refine q1 ?_|refine q2 ?_|refine q3 ?_|refine q4 ?_|refine q5 ?_|refine q6 ?_|refine w_seq ?_|refine w_region ?_|refine w_ops_nil ?_|refine w_skip ?_|refine w_block ?_|refine w_blk ?_|refine q7 ?_|refine q8 ?_|refine q9 ?_)
        refine d_over (by kernel_rfl) ?_
        refine d_done (by kernel_rfl) ?_
        repeat (first|refine q1 ?_|refine q2 ?_|refine q3 ?_|refine q4 ?_|refine q5 ?_|refine q6 ?_|refine w_seq ?_|refine w_region ?_|refine w_ops_nil ?_|refine w_skip ?_|refine w_block ?_|refine w_blk ?_|refine q7 ?_|refine q8 ?_|refine q9 ?_)
        refine w_again (i + 1) (by omega) ⟨h9, vB2, vN2, vA2, rfl, hst.go hs9, ?_, hc9, by omega, hsh.go hs9⟩ ⟨rfl, rfl, rfl, rfl, trivial⟩
        have e2 : ansW m (m.ans ++ m.auth.take (i + 1)) = ((ansW m (m.ans ++ m.auth.take i)).1 ++ (recW (headB m ++ (askW m).1 ++ (ansW m (m.ans ++ m.auth.take i)).1).length (ansW m (m.ans ++ m.auth.take i)).2 r0).1, (recW (headB m ++ (askW m).1 ++ (ansW m (m.ans ++ m.auth.take i)).1).length (ansW m (m.ans ++ m.auth.take i)).2 r0).2) := by
          rw [show (headB m ++ (askW m).1 ++ (ansW m (m.ans ++ m.auth.take i)).1).length = 12 + (askW m).1.length + (ansW m (m.ans ++ m.auth.take i)).1.length by simp only [List.length_append, headB_len]]
          exact hfs
        rw [e2]
        have := hw8.go hs9
        simpa [List.append_assoc] using this
      · have : i = m.auth.length := by omega
        subst this
        rw [List.take_length] at hw
        repeat (first|refine q1 ?_|refine q2 ?_|refine q3 ?_|refine q4 ?_|refine q5 ?_|refine q6 ?_|refine w_seq ?_|refine w_region ?_|refine w_ops_nil ?_|refine w_skip ?_|refine w_block ?_|refine w_blk ?_|refine q7 ?_|refine q8 ?_|refine q9 ?_)
        exact w_meet () ⟨h, vB, vN, vA, rfl, hst, by simpa using hw, hc2, hsh⟩ ⟨rfl, rfl, rfl, trivial⟩
    clear st0w st0c
    rintro _ _ ⟨st1, st1B, st1N, st1A, rfl, st1st, st1w, st1c, st1sh⟩
    replace hall6 := hall6.go st1sh
    replace ha := ha.go st1sh
    replace hu := hu.go st1sh
    replace hmo := hmo.go st1sh
    repeat (first|refine q1 ?_|refine q2 ?_|refine q3 ?_|refine q4 ?_|refine q5 ?_|refine q6 ?_|refine w_seq ?_|refine w_region ?_|refine w_ops_nil ?_|refine w_skip ?_|refine w_block ?_|refine w_blk ?_|refine q7 ?_|refine q8 ?_|refine q9 ?_)
    refine w_round ?_
    repeat (first|refine q1 ?_|refine q2 ?_|refine q3 ?_|refine q4 ?_|refine q5 ?_|refine q6 ?_|refine w_seq ?_|refine w_region ?_|refine w_ops_nil ?_|refine w_skip ?_|refine w_blk ?_|refine q7 ?_|refine q8 ?_|refine q9 ?_)
    repeat (first|refine q1 ?_|refine q2 ?_|refine q3 ?_|refine q4 ?_|refine q5 ?_|refine q6 ?_|refine w_seq ?_|refine w_region ?_|refine w_ops_nil ?_|refine w_skip ?_|refine w_blk ?_|refine q7 ?_|refine q8 ?_|refine q9 ?_)
    refine w_cut (ι := Unit) (fun _ => [(3, .pointer (some ⟨b2, 0, none⟩)), (7, vall), (8, .int .i64 (0 + 1 + 1))])
      (fun _ w => ∃ h vB vN vA, h.w = w ∧ Step [] [11, 12, 13, 41, 44, 45] g1 h ∧ RW h vB vN vA (headB m ++ (askW m).1 ++ (ansW m (m.ans ++ m.auth ++ m.more)).1) (ansW m (m.ans ++ m.auth ++ m.more)).2 ∧ Cell h 44 b2 29 [vB, vN, vA] ∧ Step [] [11, 12, 13, 41, 44, 45] st1 h) ?_ ?_
    · repeat (first|refine q1 ?_|refine q2 ?_|refine q3 ?_|refine q4 ?_|refine q5 ?_|refine q6 ?_|refine w_seq ?_|refine w_region ?_|refine w_ops_nil ?_|refine w_skip ?_|refine w_block ?_|refine w_blk ?_|refine q7 ?_|refine q8 ?_|refine q9 ?_)
      refine w_loop (ι := Nat) (fun i => [(3, .pointer (some ⟨b2, 0, none⟩)), (7, vall), (8, .int .i64 (0 + 1 + 1)), (9, .int .i64 (i : Int))])
        (fun i w => ∃ h vB vN vA, h.w = w ∧ Step [] [11, 12, 13, 41, 44, 45] g1 h ∧ RW h vB vN vA (headB m ++ (askW m).1 ++ (ansW m (m.ans ++ m.auth ++ m.more.take i)).1) (ansW m (m.ans ++ m.auth ++ m.more.take i)).2 ∧ Cell h 44 b2 29 [vB, vN, vA] ∧ i ≤ m.more.length ∧ Step [] [11, 12, 13, 41, 44, 45] st1 h)
        (fun i => m.more.length - i) 0 ⟨st1, st1B, st1N, st1A, rfl, st1st, by simpa using st1w, st1c, by omega, Step.refl _ _ _⟩ ⟨rfl, rfl, rfl, rfl, trivial⟩ ?_
      rintro i _ ⟨h, vB, vN, vA, rfl, hst, hw, hc2, hi, hsh⟩
      have hlm := hmo.isSl.le
      repeat (first|refine q1 ?_|refine q2 ?_|refine q3 ?_|refine q4 ?_|refine q5 ?_|refine q6 ?_|refine w_seq ?_|refine w_region ?_|refine w_ops_nil ?_|refine w_skip ?_|refine w_block ?_|refine w_blk ?_|refine q7 ?_|refine q8 ?_|refine q9 ?_)
      refine w_idx (hall6.go hsh) rfl rfl (by omega) (by simp only [List.length_cons, List.length_nil]; omega) rfl ?_
      refine w_loadE (i := 2) (y := ⟨vm, hmo.isSl.one⟩) (hall6.go hsh) rfl rfl rfl rfl ?_
      refine w_lenSl (v := vm) hmo.isSl rfl rfl ?_
      repeat (first|refine q1 ?_|refine q2 ?_|refine q3 ?_|refine q4 ?_|refine q5 ?_|refine q6 ?_|refine w_seq ?_|refine w_region ?_|refine w_ops_nil ?_|refine w_skip ?_|refine w_block ?_|refine w_blk ?_|refine q7 ?_|refine q8 ?_|refine q9 ?_)
      refine w_condP rfl (fun hlt => ?_) (fun hlt => ?_)
      · have hlt : i < m.more.length := by omega
        have hmem : m.more[i] ∈ allR m := by simp only [allR, List.mem_append]; have := List.getElem_mem hlt; simp [this]
        have hrm := hall _ hmem
        have hrl := rec_len hrm
        have htake : m.more.take (i + 1) = m.more.take i ++ [m.more[i]] := List.take_succ_eq_append_getElem hlt
        have hfs := foldW_snoc recW (m.ans ++ m.auth ++ m.more.take i) m.more[i] (12 + (askW m).1.length) (askW m).2
        rw [List.append_assoc, ← htake] at hfs
        obtain ⟨n1, n2⟩ := hlens (m.ans ++ m.auth ++ m.more.take i) (m.more.drop i ++ ([])) (by simp [allR, ← List.append_assoc]; try simp [List.append_assoc])
        generalize hr0 : m.more[i] = r0 at hrm hrl hfs
        repeat (first|refine q1 ?_|refine q2 ?_|refine q3 ?_|refine q4 ?_|refine q5 ?_|refine q6 ?_|refine w_seq ?_|refine w_region ?_|refine w_ops_nil ?_|refine w_skip ?_|refine w_blk ?_|refine q7 ?_|refine q8 ?_|refine q9 ?_)
        refine w_block ?_
        refine d_begin (some 8) [11, 12, 13] (by kernel_rfl) fun g3 hsd => ?_
        replace hw := hw.go hsd
        replace hst := hst.go hsd
        replace hc2 := hc2.go hsd
        replace hsh := hsh.go hsd
        have ha3 := hall6.go hsh
        have hl3 := hmo.go hsh
        refine d_read 0 calm_ret rfl (by kernel_rfl) rfl  (fun h hs => r_load (us := [vB, vN, vA]) (hc2.go hs) rfl rfl rfl (fun e => by cases e)) ?_
        refine d_pure 1 calm_ret rfl (by kernel_rfl) rfl rfl ?_; refine d_pure 2 calm_ret rfl (by kernel_rfl) rfl rfl ?_
        refine d_read 3 calm_ret rfl (by kernel_rfl) rfl  (fun h hs => r_idx (ha3.go hs) rfl rfl (by omega) (by simp only [List.length_cons, List.length_nil]; omega)) ?_
        refine d_read 4 calm_ret rfl (by kernel_rfl) rfl  (fun h hs => r_loadE (i := 2) (y := ⟨vm, hmo.isSl.one⟩) (ha3.go hs) rfl rfl rfl) ?_
        refine d_pure 5 calm_ret rfl (by kernel_rfl) rfl rfl ?_
        refine d_read 6 calm_ret rfl (by kernel_rfl) rfl  (fun h hs => r_idx (v := vm) (hl3.go hs) rfl rfl (by omega) (by omega)) ?_
        refine d_read 7 calm_ret rfl (by kernel_rfl) rfl  (fun h hs => r_loadE (i := i) (y := r0) (hl3.go hs) rfl (by simp [hlt, hr0]) rfl) ?_
        refine d_exec1 8 (by kernel_rfl) rfl ?_
        refine w_callF rfl (ref09_record r0 _ _ g3 hw hrm n1 n2 (by omega)) rfl fun u h8 hs8 hR => ?_
        obtain ⟨vB2, vN2, vA2, rfl, hw8⟩ := hR
        replace hst := hst.go hs8
        replace hc2 := hc2.go hs8
        replace hsh := hsh.go hs8
        repeat (first|refine q1 ?_|refine q2 ?_|refine q3 ?_|refine q4 ?_|refine q5 ?_|refine q6 ?_|refine w_seq ?_|refine w_region ?_|refine w_ops_nil ?_|refine w_skip ?_|refine w_block ?_|refine w_blk ?_|refine q7 ?_|refine q8 ?_|refine q9 ?_)
        refine d_over (by kernel_rfl) ?_
        refine d_phase (some 9) [] (by kernel_rfl) ?_
        refine d_exec1 9 (by kernel_rfl) rfl ?_
        refine w_store (us := [vB2, vN2, vA2]) (vs' := [vB2, vN2, vA2]) hc2 rfl rfl rfl rfl hw8.one (by simp) rfl fun h9 hb9 hs9 hc9 => ?_
        repeat (first|refine q1 ?_|refine q2 ?_|refine q3 ?_|refine q4 ?_|refine q5 ?_|refine q6 ?_|refine w_seq ?_|refine w_region ?_|refine w_ops_nil ?_|refine w_skip ?_|refine w_block ?_|refine w_blk ?_|refine q7 ?_|refine q8 ?_|refine q9 ?_)
        refine d_over (by kernel_rfl) ?_
        refine d_done (by kernel_rfl) ?_
        repeat (first|refine q1 ?_|refine q2 ?_|refine q3 ?_|refine q4 ?_|refine q5 ?_|refine q6 ?_|refine w_seq ?_|refine w_region ?_|refine w_ops_nil ?_|refine w_skip ?_|refine w_block ?_|refine w_blk ?_|refine q7 ?_|refine q8 ?_|refine q9 ?_)
        refine w_again (i + 1) (by omega) ⟨h9, vB2, vN2, vA2, rfl, hst.go hs9, ?_, hc9, by omega, hsh.go hs9⟩ ⟨rfl, rfl, rfl, rfl, trivial⟩
        have e2 : ansW m (m.ans ++ m.auth ++ m.more.take (i + 1)) = ((ansW m (m.ans ++ m.auth ++ m.more.take i)).1 ++ (recW (headB m ++ (askW m).1 ++ (ansW m (m.ans ++ m.auth ++ m.more.take i)).1).length (ansW m (m.ans ++ m.auth ++ m.more.take i)).2 r0).1, (recW (headB m ++ (askW m).1 ++ (ansW m (m.ans ++ m.auth ++ m.more.take i)).1).length (ansW m (m.ans ++ m.auth ++ m.more.take i)).2 r0).2) := by
          rw [show (headB m ++ (askW m).1 ++ (ansW m (m.ans ++ m.auth ++ m.more.take i)).1).length = 12 + (askW m).1.length + (ansW m (m.ans ++ m.auth ++ m.more.take i)).1.length by simp only [List.length_append, headB_len]]
          exact hfs
        rw [e2]
        have := hw8.go hs9
        simpa [List.append_assoc] using this
      · have : i = m.more.length := by omega
        subst this
        rw [List.take_length] at hw
        repeat (first|refine q1 ?_|refine q2 ?_|refine q3 ?_|refine q4 ?_|refine q5 ?_|refine q6 ?_|refine w_seq ?_|refine w_region ?_|refine w_ops_nil ?_|refine w_skip ?_|refine w_block ?_|refine w_blk ?_|refine q7 ?_|refine q8 ?_|refine q9 ?_)
        exact w_meet () ⟨h, vB, vN, vA, rfl, hst, by simpa using hw, hc2, hsh⟩ ⟨rfl, rfl, rfl, trivial⟩
    clear st1w st1c
    rintro _ _ ⟨st2, st2B, st2N, st2A, rfl, st2st, st2w, st2c, st2sh⟩
    replace hall6 := hall6.go st2sh
    replace ha := ha.go st2sh
    replace hu := hu.go st2sh
    replace hmo := hmo.go st2sh
    repeat (first|refine q1 ?_|refine q2 ?_|refine q3 ?_|refine q4 ?_|refine q5 ?_|refine q6 ?_|refine w_seq ?_|refine w_region ?_|refine w_ops_nil ?_|refine w_skip ?_|refine w_block ?_|refine w_blk ?_|refine q7 ?_|refine q8 ?_|refine q9 ?_)
    refine w_round ?_
    repeat (first|refine q1 ?_|refine q2 ?_|refine q3 ?_|refine q4 ?_|refine q5 ?_|refine q6 ?_|refine w_seq ?_|refine w_region ?_|refine w_ops_nil ?_|refine w_skip ?_|refine w_block ?_|refine w_blk ?_|refine q7 ?_|refine q8 ?_|refine q9 ?_)
    exact w_meet () ⟨st2, st2B, st2N, st2A, rfl, st2st, by simpa [msW, allR] using st2w, st2c⟩ ⟨rfl, trivial⟩
  clear hw hc2
  rintro _ _ ⟨h, vB, vN, vA, rfl, hst, hw, hc2⟩
  repeat (first|refine q1 ?_|refine q2 ?_|refine q3 ?_|refine q4 ?_|refine q5 ?_|refine q6 ?_|refine w_seq ?_|refine w_region ?_|refine w_ops_nil ?_|refine w_skip ?_|refine w_block ?_|refine w_blk ?_|refine q7 ?_|refine q8 ?_|refine q9 ?_)
  refine w_fldA (by decide) rfl rfl ?_
  refine w_load1 (v := vB) hc2 rfl rfl rfl rfl ?_
  repeat (first|refine q1 ?_|refine q2 ?_|refine q3 ?_|refine q4 ?_|refine q5 ?_|refine q6 ?_|refine w_seq ?_|refine w_region ?_|refine w_ops_nil ?_|refine w_skip ?_|refine w_block ?_|refine w_blk ?_|refine q7 ?_|refine q8 ?_|refine q9 ?_)
  obtain ⟨h4, hw4, hs4, hr4⟩ := hw.b.freeze (by decide)
  rw [← hw4]
  exact w_retG (res1 rfl rfl) (hst.go hs4) fun h' hv' => hr4.view hv' (.inl rfl)
end Go.Proofs.Ytnfokdhgajanpaa
