/- Messages are read: raw bytes, numbers, names. No statement of the seat is proved here. -/
import Derived.Test.YtnfokdhgajanpaaRd1
set_option linter.unusedVariables false
set_option linter.unusedSimpArgs false
namespace Go.Proofs.Ytnfokdhgajanpaa
open Go
attribute [local irreducible] Wp
section
variable {P : Program} {N : Nat} {s : Env} {g : G} {ty : TypeId} {pos : String} {af : Array Edge} {d : Nat} {v : Value}
theorem r_cut2 {x o1 o2 : Operand} {T e : TypeId} [hT : Und P T (.slice e)] {α : Type} {E : El α} {bts : Nat} {z : Value} [hi : Inf P e E.sz bts z] {c : Nat} {l : List α} {a b : Nat} {na nb : Int} (hr : Rd g c E v l) (hx : evalS s x = some v)
    (h1 : evalS s o1 = some (.int .i64 na)) (e1 : na = (a : Int)) (h2 : evalS s o2 = some (.int .i64 nb)) (e2 : nb = (b : Int)) (hab : a ≤ b) (hb : b ≤ l.length) :
    ∀ ac, Fits N s ac → (execOp ac.eval ⟨some d, .slice T x (some o1) (some o2) none, ty, pos, af, none⟩).run P g.w = .ok (.value (cutV v E.sz a b)) g.w :=
  fun ac ha => by
    subst e1 e2
    have hrun := run_cutSl (P := P) (T := T) (e := e) (z := z) (bts := bts) hr hab hb (lo := some (.int .i64 a)) (hi' := some (.int .i64 b)) (.inl rfl) (.inl rfl)
    simp only [execOp, ha.eval hx, Option.map_some, ha.eval h1, ha.eval h2, Option.map_none]
    rw [Sem.run_bind, hrun]; rfl
end
theorem rd_raw (p : Nat) (vB : Value) (B : List UInt8) (n : Nat) (s : Rs) (g : G) (hr : Rr g p vB s) (hB : Rd g 0 El.u8 vB B) (hl : B.length ≤ 100000) (hn : n ≤ 100000) (hs : s.at_ ≤ 100000) :
    Fn Try.prog 91 [.pointer (some ⟨p, 0, none⟩), .int .i64 (n : Int)] g [61] fun u h => Rd h 0 El.u8 u (rawP B n s).1 ∧ Rr h p vB (rawP B n s).2 := by
  refine enterG [61] [41] Try.func91 rfl Try.ntmps91 rfl (by simp) fun g1 hv ho => ?_
  replace hr := hr.view hv
  replace hB := hB.view hv (.inl rfl)
  repeat (first|refine q1 ?_|refine q2 ?_|refine q3 ?_|refine q4 ?_|refine q5 ?_|refine q6 ?_|refine w_seq ?_|refine w_region ?_|refine w_ops_nil ?_|refine w_skip ?_|refine w_block ?_|refine w_blk ?_|refine q7 ?_|refine q8 ?_|refine q9 ?_)
  refine w_cut (ι := Bool) (fun b => [(0, .pointer (some ⟨p, 0, none⟩)), (1, .int .i64 (n : Int)), (23, .bool b)])
    (fun b w => b = decide (s.e ≠ 0 ∨ B.length < s.at_ + n) ∧ ∃ h : G, h.w = w ∧ Step [] [] g1 h) ?_ ?_
  · refine d_begin none [] (by kernel_rfl) fun g2 hsd => ?_
    have hsd0 := hsd
    replace hr : Cell g2 61 p 109 [vB, .int .i64 (s.at_ : Int), .int .i64 s.e] := hr.go hsd
    replace hB := hB.go hsd
    refine d_pure 0 calm_ret rfl (by kernel_rfl) rfl rfl ?_; refine d_pure 1 calm_ret rfl (by kernel_rfl) rfl rfl ?_
    refine d_read 2 calm_ret rfl (by kernel_rfl) rfl  (fun h hs => r_fldA (by decide) rfl) ?_
    refine d_read 3 calm_ret rfl (by kernel_rfl) rfl  (fun h hs => r_load1 (v := .int .i64 s.e) (hr.go hs) rfl rfl rfl) ?_
    refine d_pure 4 calm_ret rfl (by kernel_rfl) rfl rfl ?_; refine d_pure 5 calm_ret rfl (by kernel_rfl) rfl rfl ?_
    refine d_splitP 10 rfl (fun hx => ?_) (fun hx => ?_)
    · refine d_guard_no 6 calm_ret rfl rfl rfl (by kernel_rfl) rfl ?_; refine d_guard_no 7 calm_ret rfl rfl rfl (by kernel_rfl) rfl ?_; refine d_guard_no 8 calm_ret rfl rfl rfl (by kernel_rfl) rfl ?_; refine d_guard_no 9 calm_ret rfl rfl rfl (by kernel_rfl) rfl ?_; refine d_guard_no 10 calm_ret rfl rfl rfl (by kernel_rfl) rfl ?_; refine d_guard_no 11 calm_ret rfl rfl rfl (by kernel_rfl) rfl ?_; refine d_guard_no 12 calm_ret rfl rfl rfl (by kernel_rfl) rfl ?_; refine d_guard_no 13 calm_ret rfl rfl rfl (by kernel_rfl) rfl ?_; refine d_guard_no 14 calm_ret rfl rfl rfl (by kernel_rfl) rfl ?_; refine d_guard_no 15 calm_ret rfl rfl rfl (by kernel_rfl) rfl ?_; refine d_guard_no 16 calm_ret rfl rfl rfl (by kernel_rfl) rfl ?_; refine d_guard_no 17 calm_ret rfl rfl rfl (by kernel_rfl) rfl ?_
      refine d_pure 18 calm_ret rfl (by kernel_rfl) rfl rfl ?_
      refine d_done (by kernel_rfl) ?_
      exact w_meet true ⟨(decide_eq_true (.inl hx)).symm, g2, rfl, hsd0⟩ ⟨rfl, rfl, rfl, trivial⟩
    · refine d_guard_pure 6 calm_ret rfl rfl rfl (by kernel_rfl) rfl rfl ?_; refine d_guard_pure 7 calm_ret rfl rfl rfl (by kernel_rfl) rfl rfl ?_; refine d_guard_pure 8 calm_ret rfl rfl rfl (by kernel_rfl) rfl rfl ?_
      refine d_readG 9 calm_ret rfl rfl rfl (by kernel_rfl) rfl  (fun h hs => r_fldA (by decide) rfl) ?_
      refine d_readG 10 calm_ret rfl rfl rfl (by kernel_rfl) rfl  (fun h hs => r_load1 (v := vB) (hr.go hs) rfl rfl rfl) ?_
      refine d_readG 11 calm_ret rfl rfl rfl (by kernel_rfl) rfl  (fun h hs => r_lenSl hB.isSl rfl) ?_
      refine d_guard_pure 12 calm_ret rfl rfl rfl (by kernel_rfl) rfl rfl ?_; refine d_guard_pure 13 calm_ret rfl rfl rfl (by kernel_rfl) rfl rfl ?_
      refine d_readG 14 calm_ret rfl rfl rfl (by kernel_rfl) rfl  (fun h hs => r_fldA (by decide) rfl) ?_
      refine d_readG 15 calm_ret rfl rfl rfl (by kernel_rfl) rfl  (fun h hs => r_load1 (v := .int .i64 (s.at_ : Int)) (hr.go hs) rfl rfl rfl) ?_
      refine d_readG 16 calm_ret rfl rfl rfl (by kernel_rfl) rfl  (fun h hs => r_sub rfl rfl (by omega)) ?_
      refine d_guard_pure 17 calm_ret rfl rfl rfl (by kernel_rfl) rfl rfl ?_
      refine d_pure 18 calm_ret rfl (by kernel_rfl) rfl rfl ?_
      refine d_done (by kernel_rfl) ?_
      refine w_meet (decide ((B.length : Int) - (s.at_ : Int) < (n : Int))) ⟨?_, g2, rfl, hsd0⟩ ⟨rfl, rfl, rfl, trivial⟩
      rw [decide_eq_decide]
      constructor
      · intro h; exact .inr (by omega)
      · intro h; have := h.resolve_left hx; omega
  rintro b _ ⟨hb, h1, rfl, hs1⟩
  replace hr := hr.go hs1
  replace hB := hB.go hs1
  have hst : Step [] [61, 41] g1 h1 := hs1.nil
  refine w_cond rfl (fun hx => ?_) (fun hx => ?_)
  · rw [hx] at hb
    have hp := of_decide_eq_true hb.symm
    repeat (first|refine q1 ?_|refine q2 ?_|refine q3 ?_|refine q4 ?_|refine q5 ?_|refine q6 ?_|refine w_seq ?_|refine w_region ?_|refine w_ops_nil ?_|refine w_skip ?_|refine w_block ?_|refine w_blk ?_|refine q7 ?_|refine q8 ?_|refine q9 ?_)
    refine w_callF (vs := [.pointer (some ⟨p, 0, none⟩), .int .i64 2]) rfl (rd_fail p vB s 2 h1 hr) rfl fun u h2 hs2 hr2 => ?_
    replace hst := hst.trans (hs2.mono (by simp) (by simp))
    repeat (first|refine q1 ?_|refine q2 ?_|refine q3 ?_|refine q4 ?_|refine q5 ?_|refine q6 ?_|refine w_seq ?_|refine w_region ?_|refine w_ops_nil ?_|refine w_skip ?_|refine w_block ?_|refine w_blk ?_|refine q7 ?_|refine q8 ?_|refine q9 ?_)
    refine w_makeB 41 (n := n) rfl rfl (by omega) rfl fun h3 v3 hs3 ho3 => ?_
    replace hst := hst.go hs3; replace hr2 := hr2.go hs3
    obtain ⟨h4, hw4, hs4, hr4⟩ := ho3.freeze (by decide)
    rw [← hw4]
    replace hst := hst.trans (hs4.mono (by simp) (by simp))
    replace hr2 := hr2.go hs4
    repeat (first|refine q1 ?_|refine q2 ?_|refine q3 ?_|refine q4 ?_|refine q5 ?_|refine q6 ?_|refine w_seq ?_|refine w_region ?_|refine w_ops_nil ?_|refine w_skip ?_|refine w_block ?_|refine w_blk ?_|refine q7 ?_|refine q8 ?_|refine q9 ?_)
    refine w_retG (res1 rfl rfl) hst fun h' hv' => ?_
    unfold rawP; rw [if_pos hp]
    exact ⟨hr4.view hv' (.inl rfl), hr2.view hv'⟩
  · rw [hx] at hb
    have hp := of_decide_eq_false hb.symm
    have hr : Cell h1 61 p 109 [vB, .int .i64 (s.at_ : Int), .int .i64 s.e] := hr
    repeat (first|refine q1 ?_|refine q2 ?_|refine q3 ?_|refine q4 ?_|refine q5 ?_|refine q6 ?_|refine w_seq ?_|refine w_region ?_|refine w_ops_nil ?_|refine w_skip ?_|refine w_block ?_|refine w_blk ?_|refine q7 ?_|refine q8 ?_|refine q9 ?_)
    refine w_fldA (by decide) rfl rfl ?_
    refine w_load1 (v := .int .i64 (s.at_ : Int)) hr rfl rfl rfl rfl ?_
    repeat (first|refine q1 ?_|refine q2 ?_|refine q3 ?_|refine q4 ?_|refine q5 ?_|refine q6 ?_|refine w_seq ?_|refine w_region ?_|refine w_ops_nil ?_|refine w_skip ?_|refine w_block ?_|refine w_blk ?_|refine q7 ?_|refine q8 ?_|refine q9 ?_)
    refine w_fldA (by decide) rfl rfl ?_
    refine w_store1 hr rfl rfl rfl (show 1 < 3 by decide) fun h2 hb2 hs2 hr => ?_
    replace hst := hst.trans (hs2.mono (by simp) (by simp))
    replace hB := hB.go hs2
    have hr : Cell h2 61 p 109 [vB, .int .i64 ((s.at_ : Int) + (n : Int)), .int .i64 s.e] := hr
    repeat (first|refine q1 ?_|refine q2 ?_|refine q3 ?_|refine q4 ?_|refine q5 ?_|refine q6 ?_|refine w_seq ?_|refine w_region ?_|refine w_ops_nil ?_|refine w_skip ?_|refine w_block ?_|refine w_blk ?_|refine q7 ?_|refine q8 ?_|refine q9 ?_)
    refine d_begin none [] (by kernel_rfl) fun g2 hsd => ?_
    replace hst := hst.go hsd; replace hB := hB.go hsd; replace hr := hr.go hsd
    refine d_pure 0 calm_ret rfl (by kernel_rfl) rfl rfl ?_; refine d_pure 1 calm_ret rfl (by kernel_rfl) rfl rfl ?_
    refine d_read 2 calm_ret rfl (by kernel_rfl) rfl  (fun h hs => r_fldA (by decide) rfl) ?_
    refine d_read 3 calm_ret rfl (by kernel_rfl) rfl  (fun h hs => r_load1 (v := vB) (hr.go hs) rfl rfl rfl) ?_
    refine d_pure 4 calm_ret rfl (by kernel_rfl) rfl rfl ?_; refine d_pure 5 calm_ret rfl (by kernel_rfl) rfl rfl ?_
    refine d_read 6 calm_ret rfl (by kernel_rfl) rfl  (fun h hs => r_fldA (by decide) rfl) ?_
    refine d_read 7 calm_ret rfl (by kernel_rfl) rfl  (fun h hs => r_load1 (v := .int .i64 ((s.at_ : Int) + (n : Int))) (hr.go hs) rfl rfl rfl) ?_
    refine d_pure 8 calm_ret rfl (by kernel_rfl) rfl rfl ?_
    refine d_read 9 calm_ret rfl (by kernel_rfl) rfl  (fun h hs => r_sub rfl rfl (by omega)) ?_
    refine d_pure 10 calm_ret rfl (by kernel_rfl) rfl rfl ?_; refine d_pure 11 calm_ret rfl (by kernel_rfl) rfl rfl ?_
    refine d_read 12 calm_ret rfl (by kernel_rfl) rfl  (fun h hs => r_fldA (by decide) rfl) ?_
    refine d_read 13 calm_ret rfl (by kernel_rfl) rfl  (fun h hs => r_load1 (v := .int .i64 ((s.at_ : Int) + (n : Int))) (hr.go hs) rfl rfl rfl) ?_
    refine d_read 14 calm_ret rfl (by kernel_rfl) rfl  (fun h hs => r_cut2 (a := s.at_) (b := s.at_ + n) (hB.go hs) rfl rfl (by omega) rfl (by omega) (by omega) (by omega)) ?_
    refine d_pure 15 calm_ret rfl (by kernel_rfl) rfl rfl ?_
    refine d_done (by kernel_rfl) ?_
    repeat (first|refine q1 ?_|refine q2 ?_|refine q3 ?_|refine q4 ?_|refine q5 ?_|refine q6 ?_|refine w_seq ?_|refine w_region ?_|refine w_ops_nil ?_|refine w_skip ?_|refine w_block ?_|refine w_blk ?_|refine q7 ?_|refine q8 ?_|refine q9 ?_)
    have hcut := hB.cut (a := s.at_) (b := s.at_ + n) (by omega) (by omega)
    refine w_retG (res1 rfl rfl) hst fun h' hv' => ?_
    unfold rawP; rw [if_neg hp]
    exact ⟨hcut.view hv' (.inl rfl), Rr.view (s := ⟨s.at_ + n, s.e⟩) (show Cell g2 61 p 109 [vB, .int .i64 ((s.at_ + n : Nat) : Int), .int .i64 s.e] by rw [show ((s.at_ + n : Nat) : Int) = (s.at_ : Int) + (n : Int) by omega]; exact hr) hv'⟩

theorem beN_take (l : List UInt8) (i : Nat) (h : i < l.length) : beN (l.take (i + 1)) = beN (l.take i) * 256 + l[i].toNat := by
  unfold beN
  rw [List.take_succ_eq_append_getElem h, List.foldl_append]; rfl
theorem rd_number (p : Nat) (vB : Value) (B : List UInt8) (n : Nat) (s : Rs) (g : G) (hr : Rr g p vB s) (hB : Rd g 0 El.u8 vB B) (hl : B.length ≤ 100000) (hn : n ≤ 4) (hs : s.at_ ≤ 100000) :
    Fn Try.prog 70 [.pointer (some ⟨p, 0, none⟩), .int .i64 (n : Int)] g [61] fun u h => u = .int .i64 ((numP B n s).1 : Int) ∧ Rr h p vB (numP B n s).2 := by
  refine enterG [61] [] Try.func70 rfl Try.ntmps70 rfl (by simp) fun g1 hv ho => ?_
  replace hr := hr.view hv
  replace hB := hB.view hv (.inl rfl)
  repeat (first|refine q1 ?_|refine q2 ?_|refine q3 ?_|refine q4 ?_|refine q5 ?_|refine q6 ?_|refine w_seq ?_|refine w_region ?_|refine w_ops_nil ?_|refine w_skip ?_|refine w_block ?_|refine w_blk ?_|refine q7 ?_|refine q8 ?_|refine q9 ?_)
  refine w_callF (vs := [.pointer (some ⟨p, 0, none⟩), .int .i64 (n : Int)]) rfl (rd_raw p vB B n s g1 hr hB hl (by omega) hs) rfl fun v1 h1 hs1 hR => ?_
  obtain ⟨hrr, hr⟩ := hR
  have hst := hs1
  have hlen := rawP_len B n s
  obtain ⟨R, hR⟩ : ∃ R, (rawP B n s).1 = R := ⟨_, rfl⟩
  unfold numP
  rw [hR] at hrr hlen ⊢
  repeat (first|refine q1 ?_|refine q2 ?_|refine q3 ?_|refine q4 ?_|refine q5 ?_|refine q6 ?_|refine w_seq ?_|refine w_region ?_|refine w_ops_nil ?_|refine w_skip ?_|refine w_block ?_|refine w_blk ?_|refine q7 ?_|refine q8 ?_|refine q9 ?_)
  refine w_lenSl hrr.isSl rfl rfl ?_
  repeat (first|refine q1 ?_|refine q2 ?_|refine q3 ?_|refine q4 ?_|refine q5 ?_|refine q6 ?_|refine w_seq ?_|refine w_region ?_|refine w_ops_nil ?_|refine w_skip ?_|refine w_block ?_|refine w_blk ?_|refine q7 ?_|refine q8 ?_|refine q9 ?_)
  refine w_loop (ι := Nat) (fun i => [(5, .int .i64 (beN (R.take i) : Int)), (10, v1), (11, .int .i64 (R.length : Int)), (12, .int .i64 (i : Int))])
    (fun i w => ∃ h : G, h.w = w ∧ Step [] [] h1 h ∧ i ≤ R.length) (fun i => R.length - i) 0 ⟨h1, rfl, Step.refl _ _ _, by omega⟩ ⟨rfl, rfl, rfl, rfl, trivial⟩ ?_
  rintro i _ ⟨h, rfl, hst2, hi⟩
  replace hst := hst.trans (hst2.mono (by simp) (by simp))
  replace hrr := hrr.go hst2; replace hr := hr.go hst2
  have hle := beN_le (R.take i)
  have hpw : 256 ^ (R.take i).length ≤ 256 ^ 4 := Nat.pow_le_pow_right (by omega) (by rw [List.length_take]; omega)
  have h4 : 256 ^ 4 = 4294967296 := rfl
  repeat (first|refine q1 ?_|refine q2 ?_|refine q3 ?_|refine q4 ?_|refine q5 ?_|refine q6 ?_|refine w_seq ?_|refine w_region ?_|refine w_ops_nil ?_|refine w_skip ?_|refine w_block ?_|refine w_blk ?_|refine q7 ?_|refine q8 ?_|refine q9 ?_)
  refine w_condP rfl (fun hlt => ?_) (fun hlt => ?_)
  · have hlt : i < R.length := by omega
    have hgi : R[i]? = some R[i] := List.getElem?_eq_getElem hlt
    have hbn := beN_take R i hlt
    have hc := R[i].toNat_lt
    repeat (first|refine q1 ?_|refine q2 ?_|refine q3 ?_|refine q4 ?_|refine q5 ?_|refine q6 ?_|refine w_seq ?_|refine w_region ?_|refine w_ops_nil ?_|refine w_skip ?_|refine w_block ?_|refine w_blk ?_|refine q7 ?_|refine q8 ?_|refine q9 ?_)
    refine w_idx hrr rfl rfl (by omega) (by omega) rfl ?_
    refine w_loadE (i := i) (y := R[i]) hrr rfl hgi rfl rfl ?_
    repeat (first|refine q1 ?_|refine q2 ?_|refine q3 ?_|refine q4 ?_|refine q5 ?_|refine q6 ?_|refine w_seq ?_|refine w_region ?_|refine w_ops_nil ?_|refine w_skip ?_|refine w_block ?_|refine w_blk ?_|refine q7 ?_|refine q8 ?_|refine q9 ?_)
    refine w_shl rfl rfl (by omega) rfl ?_
    rw [shl_place _ (by omega) (by omega)]
    repeat (first|refine q1 ?_|refine q2 ?_|refine q3 ?_|refine q4 ?_|refine q5 ?_|refine q6 ?_|refine w_seq ?_|refine w_region ?_|refine w_ops_nil ?_|refine w_skip ?_|refine w_block ?_|refine w_blk ?_|refine q7 ?_|refine q8 ?_|refine q9 ?_)
    refine w_conv64 rfl (by omega) rfl ?_
    refine w_bits (.inr (.inl rfl)) rfl rfl rfl ?_
    repeat (first|refine q1 ?_|refine q2 ?_|refine q3 ?_|refine q4 ?_|refine q5 ?_|refine q6 ?_|refine w_seq ?_|refine w_region ?_|refine w_ops_nil ?_|refine w_skip ?_|refine w_block ?_|refine w_blk ?_|refine q7 ?_|refine q8 ?_|refine q9 ?_)
    refine w_again (i + 1) (by omega) ⟨h, rfl, hst2, by omega⟩ ⟨?_, rfl, rfl, rfl, trivial⟩
    refine congrArg (fun z => some (Value.int .i64 z)) ?_
    rw [hbn]
    exact or_place2 _ _ (by omega) hc
  · have e : i = R.length := by omega
    subst e
    rw [List.take_length]
    repeat (first|refine q1 ?_|refine q2 ?_|refine q3 ?_|refine q4 ?_|refine q5 ?_|refine q6 ?_|refine w_seq ?_|refine w_region ?_|refine w_ops_nil ?_|refine w_skip ?_|refine w_block ?_|refine w_blk ?_|refine q7 ?_|refine q8 ?_|refine q9 ?_)
    exact w_retG (res1 rfl rfl) hst fun h' hv' => ⟨rfl, hr.view hv'⟩

theorem rd_name (p : Nat) (vB : Value) (B : List UInt8) (s : Rs) (g : G) (hr : Rr g p vB s) (hB : Rd g 0 El.u8 vB B) (hl : B.length ≤ 100000) (hs : s.at_ ≤ 100000) :
    Fn Try.prog 71 [.pointer (some ⟨p, 0, none⟩)] g [61] fun u h => u = str (nameP B s).1 ∧ Rr h p vB (nameP B s).2 := by
  refine enterG [61] [] Try.func71 rfl Try.ntmps71 rfl (by simp) fun g1 hv ho => ?_
  replace hr := hr.view hv
  replace hB := hB.view hv (.inl rfl)
  have hr : Cell g1 61 p 109 [vB, .int .i64 (s.at_ : Int), .int .i64 s.e] := hr
  repeat (first|refine q1 ?_|refine q2 ?_|refine q3 ?_|refine q4 ?_|refine q5 ?_|refine q6 ?_|refine w_seq ?_|refine w_region ?_|refine w_ops_nil ?_|refine w_skip ?_|refine w_block ?_|refine w_blk ?_|refine q7 ?_|refine q8 ?_|refine q9 ?_)
  refine w_fldA (by decide) rfl rfl ?_
  refine w_load1 (v := .int .i64 s.e) hr rfl rfl rfl rfl ?_
  repeat (first|refine q1 ?_|refine q2 ?_|refine q3 ?_|refine q4 ?_|refine q5 ?_|refine q6 ?_|refine w_seq ?_|refine w_region ?_|refine w_ops_nil ?_|refine w_skip ?_|refine w_block ?_|refine w_blk ?_|refine q7 ?_|refine q8 ?_|refine q9 ?_)
  refine w_condP rfl (fun hx => ?_) (fun hx => ?_)
  · repeat (first|refine q1 ?_|refine q2 ?_|refine q3 ?_|refine q4 ?_|refine q5 ?_|refine q6 ?_|refine w_seq ?_|refine w_region ?_|refine w_ops_nil ?_|refine w_skip ?_|refine w_block ?_|refine w_blk ?_|refine q7 ?_|refine q8 ?_|refine q9 ?_)
    refine w_retG (res1 rfl rfl) (Step.refl _ _ _) fun h' hv' => ?_
    unfold nameP; rw [if_pos hx]
    exact ⟨rfl, Rr.view hr hv'⟩
  obtain ⟨x, hgo⟩ : ∃ x, readGo B s.at_ s.at_ [] 1 0 = x := ⟨_, rfl⟩
  repeat (first|refine q1 ?_|refine q2 ?_|refine q3 ?_|refine q4 ?_|refine q5 ?_|refine q6 ?_|refine w_seq ?_|refine w_region ?_|refine w_ops_nil ?_|refine w_skip ?_|refine w_block ?_|refine w_blk ?_|refine q7 ?_|refine q8 ?_|refine q9 ?_)
  refine d_begin none [] (by kernel_rfl) fun g2 hsd => ?_
  have hst : Step [] [61] g1 g2 := hsd.nil
  replace hB := hB.go hsd; replace hr := hr.go hsd
  refine d_pure 0 calm_ret rfl (by kernel_rfl) rfl rfl ?_; refine d_pure 1 calm_ret rfl (by kernel_rfl) rfl rfl ?_
  refine d_read 2 calm_ret rfl (by kernel_rfl) rfl  (fun h hs => r_fldA (by decide) rfl) ?_
  refine d_read 3 calm_ret rfl (by kernel_rfl) rfl  (fun h hs => r_load1 (v := vB) (hr.go hs) rfl rfl rfl) ?_
  refine d_pure 4 calm_ret rfl (by kernel_rfl) rfl rfl ?_; refine d_pure 5 calm_ret rfl (by kernel_rfl) rfl rfl ?_
  refine d_read 6 calm_ret rfl (by kernel_rfl) rfl  (fun h hs => r_fldA (by decide) rfl) ?_
  refine d_read 7 calm_ret rfl (by kernel_rfl) rfl  (fun h hs => r_load1 (v := .int .i64 (s.at_ : Int)) (hr.go hs) rfl rfl rfl) ?_
  refine d_exec1 8 (by kernel_rfl) rfl ?_
  refine w_callF (vs := [vB, .int .i64 (s.at_ : Int)]) rfl (label_Read B s.at_ g2 hB (by omega) (by omega)) rfl fun u k1 hk1 hu => ?_
  rw [hgo] at hu
  subst hu
  replace hst := hst.go hk1; replace hr := hr.go hk1
  repeat (first|refine q1 ?_|refine q2 ?_|refine q3 ?_|refine q4 ?_|refine q5 ?_|refine q6 ?_|refine w_seq ?_|refine w_region ?_|refine w_ops_nil ?_|refine w_skip ?_|refine w_block ?_|refine w_blk ?_|refine q7 ?_|refine q8 ?_|refine q9 ?_)
  refine d_next (fun _ => ⟨k1, rfl, hk1⟩) ?_
  refine d_pure 9 calm_ret rfl (by kernel_rfl) rfl rfl ?_; refine d_pure 10 calm_ret rfl (by kernel_rfl) rfl rfl ?_; refine d_pure 11 calm_ret rfl (by kernel_rfl) rfl rfl ?_; refine d_pure 12 calm_ret rfl (by kernel_rfl) rfl rfl ?_; refine d_pure 13 calm_ret rfl (by kernel_rfl) rfl rfl ?_; refine d_pure 14 calm_ret rfl (by kernel_rfl) rfl rfl ?_; refine d_pure 15 calm_ret rfl (by kernel_rfl) rfl rfl ?_
  refine d_done (by kernel_rfl) ?_
  repeat (first|refine q1 ?_|refine q2 ?_|refine q3 ?_|refine q4 ?_|refine q5 ?_|refine q6 ?_|refine w_seq ?_|refine w_region ?_|refine w_ops_nil ?_|refine w_skip ?_|refine w_block ?_|refine w_blk ?_|refine q7 ?_|refine q8 ?_|refine q9 ?_)
  refine w_known 3 (str x.1) rfl rfl ?_
  refine w_known 4 (.int .i64 (x.2.1 : Int)) rfl rfl ?_
  refine w_known 5 (.int .i64 x.2.2) rfl rfl ?_
  have he : s.e = 0 := Decidable.not_not.1 hx
  repeat (first|refine q1 ?_|refine q2 ?_|refine q3 ?_|refine q4 ?_|refine q5 ?_|refine q6 ?_|refine w_seq ?_|refine w_region ?_|refine w_ops_nil ?_|refine w_skip ?_|refine w_block ?_|refine w_blk ?_|refine q7 ?_|refine q8 ?_|refine q9 ?_)
  refine w_condP rfl (fun hy => ?_) (fun hy => ?_)
  · repeat (first|refine q1 ?_|refine q2 ?_|refine q3 ?_|refine q4 ?_|refine q5 ?_|refine q6 ?_|refine w_seq ?_|refine w_region ?_|refine w_ops_nil ?_|refine w_skip ?_|refine w_block ?_|refine w_blk ?_|refine q7 ?_|refine q8 ?_|refine q9 ?_)
    refine w_callF (vs := [.pointer (some ⟨p, 0, none⟩), .int .i64 x.2.2]) rfl (rd_fail p vB s x.2.2 k1 hr) rfl fun u h2 hs2 hr2 => ?_
    replace hst := hst.trans hs2
    repeat (first|refine q1 ?_|refine q2 ?_|refine q3 ?_|refine q4 ?_|refine q5 ?_|refine q6 ?_|refine w_seq ?_|refine w_region ?_|refine w_ops_nil ?_|refine w_skip ?_|refine w_block ?_|refine w_blk ?_|refine q7 ?_|refine q8 ?_|refine q9 ?_)
    refine w_retG (res1 rfl rfl) hst fun h' hv' => ?_
    unfold nameP
    rw [if_neg hx, hgo, if_pos hy]
    refine ⟨rfl, ?_⟩
    have e : failP s x.2.2 = ⟨s.at_, x.2.2⟩ := by unfold failP; rw [if_pos he]
    rw [e] at hr2
    exact hr2.view hv'
  · repeat (first|refine q1 ?_|refine q2 ?_|refine q3 ?_|refine q4 ?_|refine q5 ?_|refine q6 ?_|refine w_seq ?_|refine w_region ?_|refine w_ops_nil ?_|refine w_skip ?_|refine w_block ?_|refine w_blk ?_|refine q7 ?_|refine q8 ?_|refine q9 ?_)
    refine w_fldA (by decide) rfl rfl ?_
    refine w_store1 hr rfl rfl rfl (show 1 < 3 by decide) fun h2 hb2 hs2 hr => ?_
    replace hst := hst.trans hs2
    have hr : Cell h2 61 p 109 [vB, .int .i64 (x.2.1 : Int), .int .i64 s.e] := hr
    repeat (first|refine q1 ?_|refine q2 ?_|refine q3 ?_|refine q4 ?_|refine q5 ?_|refine q6 ?_|refine w_seq ?_|refine w_region ?_|refine w_ops_nil ?_|refine w_skip ?_|refine w_block ?_|refine w_blk ?_|refine q7 ?_|refine q8 ?_|refine q9 ?_)
    refine w_retG (res1 rfl rfl) hst fun h' hv' => ?_
    unfold nameP
    rw [if_neg hx, hgo, if_neg hy]
    refine ⟨rfl, Rr.view (s := ⟨x.2.1, 0⟩) ?_ hv'⟩
    rw [he] at hr
    exact hr
end Go.Proofs.Ytnfokdhgajanpaa
