/- Grants: the reference's Put where room is left, and Drop. No statement of the seat is proved here. -/
import Derived.Test.YtkgbodmlmeholaaGr8
set_option linter.unusedVariables false
set_option linter.unusedSimpArgs false
namespace Go.Proofs.Ytkgbodmlmeholaa
open Go
attribute [local irreducible] Wp

/-- The list without a key's first entry. -/
def without (k : Ky) (L : BkM) : BkM := if findK k L < 0 then L else L.eraseIdx (findK k L).toNat
/-- A key's place: ahead of all that come behind it. -/
def PlaceK (k : Ky) (L : BkM) (n : Nat) : Prop := n ≤ L.length ∧ (∀ j x, n ≤ j → L[j]? = some x → cmpK k x.1 < 0) ∧ (n = 0 ∨ ∃ x, L[n - 1]? = some x ∧ ¬ cmpK k x.1 < 0)
/-- What is there when (k, t) was put. -/
def PutR (k : Ky) (t : Int) (L L' : BkM) : Prop := ∃ n, PlaceK k (without k L) n ∧ L' = (without k L).take n ++ (k, t) :: (without k L).drop n
theorem without_len (k : Ky) (L : BkM) : (without k L).length ≤ L.length := by
  unfold without; split
  · exact Nat.le_refl _
  · rw [List.length_eraseIdx]; split <;> omega

theorem ref18_Put (room : Int) (L : BkM) (vL : Value) (k : Ky) (t now : Int) (g : G) (hr : Rd g 0 El.gr vL L) (hL : L.length ≤ 1000) (hfit : 0 ≤ findK k L ∨ ¬ (L.length : Int) = room) :
    Fn Try.prog 17 [.agg #[.int .i64 room, vL], El.ky.val k, .int .i64 t, .int .i64 now] g [] fun u h => ∃ v' L', u = .tuple #[.agg #[.int .i64 room, v'], El.ky.val Ky.zero, .bool false] ∧ Rd h 0 El.gr v' L' ∧ (if t ≤ now then L' = L else PutR k t L L') := by
  refine enterG [] [41, 42, 43, 44, 45, 46] Try.func17 rfl Try.ntmps17 rfl (by simp) fun g1 hv ho => ?_
  replace hr := hr.view hv (.inl rfl)
  repeat (first|refine q1 ?_|refine q2 ?_|refine q3 ?_|refine q4 ?_|refine q5 ?_|refine q6 ?_|refine w_seq ?_|refine w_region ?_|refine w_ops_nil ?_|refine w_skip ?_|refine w_block ?_|refine w_blk ?_|refine q7 ?_|refine q8 ?_|refine q9 ?_)
  refine w_box 41 (vs := [.int .i64 room, vL]) rfl rfl rfl fun h1 b4 hs1 hc4 => ?_
  have hst : Step [] [41, 42, 43, 44, 45, 46] g1 h1 := hs1.nil
  replace hr := hr.go hs1
  repeat (first|refine q1 ?_|refine q2 ?_|refine q3 ?_|refine q4 ?_|refine q5 ?_|refine q6 ?_|refine w_seq ?_|refine w_region ?_|refine w_ops_nil ?_|refine w_skip ?_|refine w_block ?_|refine w_blk ?_|refine q7 ?_|refine q8 ?_|refine q9 ?_)
  refine w_box 42 (vs := El.ky.enc k) rfl rfl rfl fun h2 b5 hs2 hc5 => ?_
  replace hst := hst.go hs2; replace hc4 := hc4.go hs2; replace hr := hr.go hs2
  repeat (first|refine q1 ?_|refine q2 ?_|refine q3 ?_|refine q4 ?_|refine q5 ?_|refine q6 ?_|refine w_seq ?_|refine w_region ?_|refine w_ops_nil ?_|refine w_skip ?_|refine w_block ?_|refine w_blk ?_|refine q7 ?_|refine q8 ?_|refine q9 ?_)
  refine w_alloc 43 (vs := [.int .i64 0, .slice none 0 0]) rfl rfl fun h3 b8 hs3 hc8 => ?_
  replace hst := hst.go hs3; replace hc4 := hc4.go hs3; replace hc5 := hc5.go hs3; replace hr := hr.go hs3
  repeat (first|refine q1 ?_|refine q2 ?_|refine q3 ?_|refine q4 ?_|refine q5 ?_|refine q6 ?_|refine w_seq ?_|refine w_region ?_|refine w_ops_nil ?_|refine w_skip ?_|refine w_block ?_|refine w_blk ?_|refine q7 ?_|refine q8 ?_|refine q9 ?_)
  refine w_alloc 44 (vs := El.ky.enc Ky.zero) rfl rfl fun h4 b9 hs4 hc9 => ?_
  replace hst := hst.go hs4; replace hc4 := hc4.go hs4; replace hc5 := hc5.go hs4; replace hc8 := hc8.go hs4; replace hr := hr.go hs4
  have one : ∀ v : Value, v.oneCell' = true → ∀ u ∈ [Value.int .i64 room, v], u.oneCell' = true := by
    intro v hv u hu
    simp only [List.mem_cons, List.not_mem_nil, or_false] at hu
    rcases hu with rfl | rfl
    · rfl
    · exact hv
  clear hs1 hs2 hs3 hs4
  repeat (first|refine q1 ?_|refine q2 ?_|refine q3 ?_|refine q4 ?_|refine q5 ?_|refine q6 ?_|refine w_seq ?_|refine w_region ?_|refine w_ops_nil ?_|refine w_skip ?_|refine w_block ?_|refine w_blk ?_|refine q7 ?_|refine q8 ?_|refine q9 ?_)
  refine w_condP rfl (fun hle => ?_) (fun hle => ?_)
  · repeat (first|refine q1 ?_|refine q2 ?_|refine q3 ?_|refine q4 ?_|refine q5 ?_|refine q6 ?_|refine w_seq ?_|refine w_region ?_|refine w_ops_nil ?_|refine w_skip ?_|refine w_block ?_|refine w_blk ?_|refine q7 ?_|refine q8 ?_|refine q9 ?_)
    refine w_loadS (us := [.int .i64 room, vL]) hc4 rfl rfl rfl rfl rfl ?_
    refine w_build (vs := []) (r := El.ky.enc Ky.zero) rfl rfl rfl ?_
    refine w_store (us := [.int .i64 room, vL]) (vs' := [.int .i64 room, vL]) hc8 rfl rfl rfl rfl (one vL hr.isSl.one) (show 0 + 2 ≤ 2 by decide) rfl fun h5 hb5 hs5 hc8 => ?_
    replace hst := hst.go hs5; replace hc9 := hc9.go hs5; replace hr := hr.go hs5
    refine w_store (us := El.ky.enc Ky.zero) (vs' := El.ky.enc Ky.zero) hc9 rfl rfl rfl rfl (El.ky.flat _) (show 0 + 24 ≤ 24 by decide) rfl fun h6 hb6 hs6 hc9 => ?_
    replace hst := hst.go hs6; replace hc8 := hc8.go hs6; replace hr := hr.go hs6
    repeat (first|refine q1 ?_|refine q2 ?_|refine q3 ?_|refine q4 ?_|refine q5 ?_|refine q6 ?_|refine w_seq ?_|refine w_region ?_|refine w_ops_nil ?_|refine w_skip ?_|refine w_block ?_|refine w_blk ?_|refine q7 ?_|refine q8 ?_|refine q9 ?_)
    exact w_retG (resCC1s hc8 hc9 rfl rfl rfl rfl rfl rfl rfl rfl) hst fun h' hv' => ⟨vL, L, rfl, hr.view hv' (.inl rfl), by rw [if_pos hle]⟩
  repeat (first|refine q1 ?_|refine q2 ?_|refine q3 ?_|refine q4 ?_|refine q5 ?_|refine q6 ?_|refine w_seq ?_|refine w_region ?_|refine w_ops_nil ?_|refine w_skip ?_|refine w_block ?_|refine w_blk ?_|refine q7 ?_|refine q8 ?_|refine q9 ?_)
  refine w_alloc 46 (vs := El.ky.enc Ky.zero) rfl rfl fun h5 b11 hs5 hc11 => ?_
  replace hst := hst.go hs5; replace hc4 := hc4.go hs5; replace hc5 := hc5.go hs5; replace hc8 := hc8.go hs5; replace hc9 := hc9.go hs5; replace hr := hr.go hs5
  clear hs5
  repeat (first|refine q1 ?_|refine q2 ?_|refine q3 ?_|refine q4 ?_|refine q5 ?_|refine q6 ?_|refine w_seq ?_|refine w_region ?_|refine w_ops_nil ?_|refine w_skip ?_|refine w_block ?_|refine w_blk ?_|refine q7 ?_|refine q8 ?_|refine q9 ?_)
  refine w_loadS (us := [.int .i64 room, vL]) hc4 rfl rfl rfl rfl rfl ?_
  refine w_loadS (us := El.ky.enc k) hc5 rfl rfl rfl rfl rfl ?_
  refine w_callF rfl (ref18_Find room L vL k h5 hr) rfl fun u h6 hs6 hu => ?_
  subst hu
  replace hst := hst.go hs6; replace hc4 := hc4.go hs6; replace hc5 := hc5.go hs6; replace hc8 := hc8.go hs6; replace hc9 := hc9.go hs6; replace hc11 := hc11.go hs6; replace hr := hr.go hs6
  clear hs6
  have hwl := without_len k L
  repeat (first|refine q1 ?_|refine q2 ?_|refine q3 ?_|refine q4 ?_|refine q5 ?_|refine q6 ?_|refine w_seq ?_|refine w_region ?_|refine w_ops_nil ?_|refine w_skip ?_|refine w_block ?_|refine w_blk ?_|refine q7 ?_|refine q8 ?_|refine q9 ?_)
  refine w_cut (ι := Unit) (fun _ => [(2, .int .i64 t), (4, .pointer (some ⟨b4, 0, none⟩)), (5, .pointer (some ⟨b5, 0, none⟩)), (8, .pointer (some ⟨b8, 0, none⟩)), (9, .pointer (some ⟨b9, 0, none⟩)), (11, .pointer (some ⟨b11, 0, none⟩)), (12, .bool false)])
    (fun _ w => ∃ h v1, h.w = w ∧ Step [] [41] h6 h ∧ Cell h 41 b4 44 [.int .i64 room, v1] ∧ Rd h 0 El.gr v1 (without k L)) ?_ ?_
  · refine w_condP rfl (fun hf => ?_) (fun hf => ?_)
    · have hlt := findK_lt k L
      repeat (first|refine q1 ?_|refine q2 ?_|refine q3 ?_|refine q4 ?_|refine q5 ?_|refine q6 ?_|refine w_seq ?_|refine w_region ?_|refine w_ops_nil ?_|refine w_skip ?_|refine w_block ?_|refine w_blk ?_|refine q7 ?_|refine q8 ?_|refine q9 ?_)
      refine w_fldA (by decide) rfl rfl ?_
      refine w_load1 (v := vL) hc4 rfl rfl rfl rfl ?_
      repeat (first|refine q1 ?_|refine q2 ?_|refine q3 ?_|refine q4 ?_|refine q5 ?_|refine q6 ?_|refine w_seq ?_|refine w_region ?_|refine w_ops_nil ?_|refine w_skip ?_|refine w_block ?_|refine w_blk ?_|refine q7 ?_|refine q8 ?_|refine q9 ?_)
      obtain ⟨i, hi⟩ := Int.eq_ofNat_of_zero_le hf
      rw [hi]
      refine w_callF rfl (ref18_cut L vL i h6 hr (by omega) (by omega)) rfl fun v1 h7 hs7 hr7 => ?_
      replace hc4 := hc4.go hs7
      repeat (first|refine q1 ?_|refine q2 ?_|refine q3 ?_|refine q4 ?_|refine q5 ?_|refine q6 ?_|refine w_seq ?_|refine w_region ?_|refine w_ops_nil ?_|refine w_skip ?_|refine w_block ?_|refine w_blk ?_|refine q7 ?_|refine q8 ?_|refine q9 ?_)
      refine w_fldA (by decide) rfl rfl ?_
      refine w_store1 hc4 rfl rfl hr7.isSl.one (show 1 < 2 by decide) fun h8 hb8 hs8 hc4 => ?_
      repeat (first|refine q1 ?_|refine q2 ?_|refine q3 ?_|refine q4 ?_|refine q5 ?_|refine q6 ?_|refine w_seq ?_|refine w_region ?_|refine w_ops_nil ?_|refine w_skip ?_|refine w_block ?_|refine w_blk ?_|refine q7 ?_|refine q8 ?_|refine q9 ?_)
      refine w_meet () ⟨h8, v1, rfl, hs7.nil.go hs8, hc4, ?_⟩ ⟨rfl, rfl, rfl, rfl, rfl, rfl, rfl, trivial⟩
      have e : without k L = L.eraseIdx i := by rw [without, if_neg (by omega), hi]; rfl
      rw [e]
      exact hr7.go hs8
    · have e : without k L = L := by rw [without, if_pos (by omega)]
      have hne := hfit.resolve_left hf
      rw [e]
      repeat (first|refine q1 ?_|refine q2 ?_|refine q3 ?_|refine q4 ?_|refine q5 ?_|refine q6 ?_|refine w_seq ?_|refine w_region ?_|refine w_ops_nil ?_|refine w_skip ?_|refine w_block ?_|refine w_blk ?_|refine q7 ?_|refine q8 ?_|refine q9 ?_)
      refine w_fldA (by decide) rfl rfl ?_
      refine w_load1 (v := vL) hc4 rfl rfl rfl rfl ?_
      refine w_lenSl hr.isSl rfl rfl ?_
      refine w_fldA (by decide) rfl rfl ?_
      refine w_load1 (v := .int .i64 room) hc4 rfl rfl rfl rfl ?_
      repeat (first|refine q1 ?_|refine q2 ?_|refine q3 ?_|refine q4 ?_|refine q5 ?_|refine q6 ?_|refine w_seq ?_|refine w_region ?_|refine w_ops_nil ?_|refine w_skip ?_|refine w_block ?_|refine w_blk ?_|refine q7 ?_|refine q8 ?_|refine q9 ?_)
      refine w_condP rfl (fun hx => absurd hx hne) (fun _ => ?_)
      repeat (first|refine q1 ?_|refine q2 ?_|refine q3 ?_|refine q4 ?_|refine q5 ?_|refine q6 ?_|refine w_seq ?_|refine w_region ?_|refine w_ops_nil ?_|refine w_skip ?_|refine w_block ?_|refine w_blk ?_|refine q7 ?_|refine q8 ?_|refine q9 ?_)
      exact w_meet () ⟨h6, vL, rfl, Step.refl _ _ _, hc4, hr⟩ ⟨rfl, rfl, rfl, rfl, rfl, rfl, rfl, trivial⟩
  clear hr hc4
  rintro _ _ ⟨h, v1, rfl, hs0, hc4, hr⟩
  replace hst := hst.go hs0; replace hc5 := hc5.go hs0; replace hc8 := hc8.go hs0; replace hc9 := hc9.go hs0; replace hc11 := hc11.go hs0
  clear hs0
  generalize hL1 : without k L = L1 at hr hwl
  have hlm : L1.length ≤ 1000 := by omega
  repeat (first|refine q1 ?_|refine q2 ?_|refine q3 ?_|refine q4 ?_|refine q5 ?_|refine q6 ?_|refine w_seq ?_|refine w_region ?_|refine w_ops_nil ?_|refine w_skip ?_|refine w_block ?_|refine w_blk ?_|refine q7 ?_|refine q8 ?_|refine q9 ?_)
  refine w_fldA (by decide) rfl rfl ?_
  refine w_load1 (v := v1) hc4 rfl rfl rfl rfl ?_
  refine w_lenSl hr.isSl rfl rfl ?_
  repeat (first|refine q1 ?_|refine q2 ?_|refine q3 ?_|refine q4 ?_|refine q5 ?_|refine q6 ?_|refine w_seq ?_|refine w_region ?_|refine w_ops_nil ?_|refine w_skip ?_|refine w_blk ?_|refine q7 ?_|refine q8 ?_|refine q9 ?_)
  refine w_cut (ι := Nat) (fun n => [(2, .int .i64 t), (4, .pointer (some ⟨b4, 0, none⟩)), (5, .pointer (some ⟨b5, 0, none⟩)), (8, .pointer (some ⟨b8, 0, none⟩)), (9, .pointer (some ⟨b9, 0, none⟩)), (11, .pointer (some ⟨b11, 0, none⟩)), (12, .bool false), (17, .int .i64 (n : Int))])
    (fun n w => ∃ h2 : G, h2.w = w ∧ Step [] [] h h2 ∧ PlaceK k L1 n) ?_ ?_
  · repeat (first|refine q1 ?_|refine q2 ?_|refine q3 ?_|refine q4 ?_|refine q5 ?_|refine q6 ?_|refine w_seq ?_|refine w_region ?_|refine w_ops_nil ?_|refine w_skip ?_|refine w_block ?_|refine w_blk ?_|refine q7 ?_|refine q8 ?_|refine q9 ?_)
    refine w_loop (ι := Nat) (fun n => [(2, .int .i64 t), (4, .pointer (some ⟨b4, 0, none⟩)), (5, .pointer (some ⟨b5, 0, none⟩)), (8, .pointer (some ⟨b8, 0, none⟩)), (9, .pointer (some ⟨b9, 0, none⟩)), (11, .pointer (some ⟨b11, 0, none⟩)), (12, .bool false), (17, .int .i64 (n : Int))])
      (fun n w => ∃ h2 : G, h2.w = w ∧ Step [] [] h h2 ∧ n ≤ L1.length ∧ ∀ j x, n ≤ j → L1[j]? = some x → cmpK k x.1 < 0) (fun n => n) L1.length ⟨h, rfl, Step.refl _ _ _, Nat.le_refl _, fun j x hj hx => by
        have := (List.getElem?_eq_some_iff.1 hx).1; omega⟩ ⟨rfl, rfl, rfl, rfl, rfl, rfl, rfl, rfl, trivial⟩ ?_
    rintro n _ ⟨h2, rfl, hst2, hn, hall⟩
    replace hc4 := hc4.go hst2; replace hc5 := hc5.go hst2; replace hr := hr.go hst2
    repeat (first|refine q1 ?_|refine q2 ?_|refine q3 ?_|refine q4 ?_|refine q5 ?_|refine q6 ?_|refine w_seq ?_|refine w_region ?_|refine w_ops_nil ?_|refine w_skip ?_|refine w_block ?_|refine w_blk ?_|refine q7 ?_|refine q8 ?_|refine q9 ?_)
    refine d_begin none [] (by kernel_rfl) fun g2 hsd => ?_
    replace hc4 := hc4.go hsd; replace hc5 := hc5.go hsd; replace hr := hr.go hsd; replace hst2 := hst2.go hsd
    refine d_pure 0 calm_ret rfl (by kernel_rfl) rfl rfl ?_; refine d_pure 1 calm_ret rfl (by kernel_rfl) rfl rfl ?_; refine d_pure 2 calm_ret rfl (by kernel_rfl) rfl rfl ?_
    refine d_splitP 99 rfl (fun hp => ?_) (fun hp => ?_)
    · have hlt : n - 1 < L1.length := by omega
      have hy1 : L1[((n : Int) - 1).toNat]? = some L1[n - 1] := by rw [show ((n : Int) - 1).toNat = n - 1 by omega]; simp [hlt]
      refine d_readG 3 calm_ret rfl rfl rfl (by kernel_rfl) rfl  (fun h hs => r_load (us := El.ky.enc k) (hc5.go hs) rfl rfl rfl (fun e => by cases e)) ?_
      refine d_readG 4 calm_ret rfl rfl rfl (by kernel_rfl) rfl  (fun h hs => r_fldA (by decide) rfl) ?_
      refine d_readG 5 calm_ret rfl rfl rfl (by kernel_rfl) rfl  (fun h hs => r_load1 (v := v1) (hc4.go hs) rfl rfl rfl) ?_
      refine d_guard_pure 6 calm_ret rfl rfl rfl (by kernel_rfl) rfl rfl ?_
      refine d_readG 7 calm_ret rfl rfl rfl (by kernel_rfl) rfl  (fun h hs => r_sub rfl rfl (by omega)) ?_
      refine d_readG 8 calm_ret rfl rfl rfl (by kernel_rfl) rfl  (fun h hs => r_idx (hr.go hs) rfl rfl (by omega) (by omega)) ?_
      refine d_readG 9 calm_ret rfl rfl rfl (by kernel_rfl) rfl  (fun h hs => r_fldE (hr.base hlt) (by decide) rfl) ?_
      refine d_readG 10 calm_ret rfl rfl rfl (by kernel_rfl) rfl  (fun h hs => r_loadES (i := ((n : Int) - 1).toNat) (off := 0) (y := L1[n - 1]) (us := El.ky.enc L1[n - 1].1) (hr.go hs) rfl hy1 rfl rfl rfl) ?_
      refine d_exec1 11 (by kernel_rfl) rfl ?_
      refine w_guard_yes' rfl rfl rfl rfl ?_
      refine w_callF rfl (ref18_Compare k L1[n - 1].1 g2) rfl fun u k1 ks1 hu => ?_
      subst hu
      repeat (first|refine q1 ?_|refine q2 ?_|refine q3 ?_|refine q4 ?_|refine q5 ?_|refine q6 ?_|refine w_seq ?_|refine w_region ?_|refine w_ops_nil ?_|refine w_skip ?_|refine w_block ?_|refine w_blk ?_|refine q7 ?_|refine q8 ?_|refine q9 ?_)
      refine d_next (fun _ => ⟨k1, rfl, ks1⟩) ?_
      refine d_guard_pure 12 calm_ret rfl rfl rfl (by kernel_rfl) rfl rfl ?_
      refine d_pure 13 calm_ret rfl (by kernel_rfl) rfl rfl ?_
      refine d_done (by kernel_rfl) ?_
      repeat (first|refine q1 ?_|refine q2 ?_|refine q3 ?_|refine q4 ?_|refine q5 ?_|refine q6 ?_|refine w_seq ?_|refine w_region ?_|refine w_ops_nil ?_|refine w_skip ?_|refine w_block ?_|refine w_blk ?_|refine q7 ?_|refine q8 ?_|refine q9 ?_)
      refine w_condP rfl (fun hc => ?_) (fun hc => ?_)
      · repeat (first|refine q1 ?_|refine q2 ?_|refine q3 ?_|refine q4 ?_|refine q5 ?_|refine q6 ?_|refine w_seq ?_|refine w_region ?_|refine w_ops_nil ?_|refine w_skip ?_|refine w_block ?_|refine w_blk ?_|refine q7 ?_|refine q8 ?_|refine q9 ?_)
        refine w_again (n - 1) (by omega) ⟨k1, rfl, hst2.go ks1, by omega, fun j x hj hx => ?_⟩ ⟨rfl, rfl, rfl, rfl, rfl, rfl, rfl, ?_, trivial⟩
        · by_cases e : j = n - 1
          · subst e; rw [List.getElem?_eq_getElem hlt] at hx; injection hx with hx; subst hx; exact hc
          · exact hall j x (by omega) hx
        · exact congrArg (fun z => some (Value.int .i64 z)) (show (n : Int) - 1 = ((n - 1 : Nat) : Int) by omega)
      · repeat (first|refine q1 ?_|refine q2 ?_|refine q3 ?_|refine q4 ?_|refine q5 ?_|refine q6 ?_|refine w_seq ?_|refine w_region ?_|refine w_ops_nil ?_|refine w_skip ?_|refine w_block ?_|refine w_blk ?_|refine q7 ?_|refine q8 ?_|refine q9 ?_)
        exact w_meet n ⟨k1, rfl, hst2.go ks1, hn, hall, .inr ⟨L1[n - 1], by simp [hlt], hc⟩⟩ ⟨rfl, rfl, rfl, rfl, rfl, rfl, rfl, rfl, trivial⟩
    · refine d_guard_no 3 calm_ret rfl rfl rfl (by kernel_rfl) rfl ?_; refine d_guard_no 4 calm_ret rfl rfl rfl (by kernel_rfl) rfl ?_; refine d_guard_no 5 calm_ret rfl rfl rfl (by kernel_rfl) rfl ?_; refine d_guard_no 6 calm_ret rfl rfl rfl (by kernel_rfl) rfl ?_; refine d_guard_no 7 calm_ret rfl rfl rfl (by kernel_rfl) rfl ?_; refine d_guard_no 8 calm_ret rfl rfl rfl (by kernel_rfl) rfl ?_; refine d_guard_no 9 calm_ret rfl rfl rfl (by kernel_rfl) rfl ?_; refine d_guard_no 10 calm_ret rfl rfl rfl (by kernel_rfl) rfl ?_; refine d_guard_no 11 calm_ret rfl rfl rfl (by kernel_rfl) rfl ?_; refine d_guard_no 12 calm_ret rfl rfl rfl (by kernel_rfl) rfl ?_
      refine d_pure 13 calm_ret rfl (by kernel_rfl) rfl rfl ?_
      refine d_done (by kernel_rfl) ?_
      repeat (first|refine q1 ?_|refine q2 ?_|refine q3 ?_|refine q4 ?_|refine q5 ?_|refine q6 ?_|refine w_seq ?_|refine w_region ?_|refine w_ops_nil ?_|refine w_skip ?_|refine w_block ?_|refine w_blk ?_|refine q7 ?_|refine q8 ?_|refine q9 ?_)
      exact w_meet n ⟨g2, rfl, hst2, hn, hall, .inl (by omega)⟩ ⟨rfl, rfl, rfl, rfl, rfl, rfl, rfl, rfl, trivial⟩
  rintro n _ ⟨h2, rfl, hs0, hpl⟩
  have hn := hpl.1
  replace hst := hst.go hs0; replace hc4 := hc4.go hs0; replace hc5 := hc5.go hs0; replace hc8 := hc8.go hs0; replace hc9 := hc9.go hs0; replace hc11 := hc11.go hs0; replace hr := hr.go hs0
  clear hs0
  repeat (first|refine q1 ?_|refine q2 ?_|refine q3 ?_|refine q4 ?_|refine q5 ?_|refine q6 ?_|refine w_seq ?_|refine w_region ?_|refine w_ops_nil ?_|refine w_skip ?_|refine w_block ?_|refine w_blk ?_|refine q7 ?_|refine q8 ?_|refine q9 ?_)
  refine w_fldA (by decide) rfl rfl ?_
  refine w_load1 (v := v1) hc4 rfl rfl rfl rfl ?_
  repeat (first|refine q1 ?_|refine q2 ?_|refine q3 ?_|refine q4 ?_|refine q5 ?_|refine q6 ?_|refine w_seq ?_|refine w_region ?_|refine w_ops_nil ?_|refine w_skip ?_|refine w_block ?_|refine w_blk ?_|refine q7 ?_|refine q8 ?_|refine q9 ?_)
  refine w_cut_ (a := 0) (b := n) hr rfl rfl ⟨_, rfl, rfl⟩ (by omega) (by omega) rfl fun hr1 => ?_
  refine w_append (Own.nil h2 45 El.gr 48) hr1 rfl rfl rfl (by decide) (by simp; omega) rfl fun h3 v3 hs3 ho3 => ?_
  replace hst := hst.go hs3; replace hc4 := hc4.go hs3; replace hc5 := hc5.go hs3; replace hc8 := hc8.go hs3; replace hc9 := hc9.go hs3; replace hc11 := hc11.go hs3; replace hr := hr.go hs3
  repeat (first|refine q1 ?_|refine q2 ?_|refine q3 ?_|refine q4 ?_|refine q5 ?_|refine q6 ?_|refine w_seq ?_|refine w_region ?_|refine w_ops_nil ?_|refine w_skip ?_|refine w_block ?_|refine w_blk ?_|refine q7 ?_|refine q8 ?_|refine q9 ?_)
  refine w_loadS (us := El.ky.enc k) hc5 rfl rfl rfl rfl rfl ?_
  repeat (first|refine q1 ?_|refine q2 ?_|refine q3 ?_|refine q4 ?_|refine q5 ?_|refine q6 ?_|refine w_seq ?_|refine w_region ?_|refine w_ops_nil ?_|refine w_skip ?_|refine w_block ?_|refine w_blk ?_|refine q7 ?_|refine q8 ?_|refine q9 ?_)
  refine w_build (vs := [(0, .agg (El.ky.enc k).toArray), (1, .int .i64 t)]) (r := El.gr.enc (k, t)) rfl rfl rfl ?_
  refine w_buildSlR El.gr [(k, t)] rfl rfl rfl rfl fun h4 v4 hs4 hr4 => ?_
  replace hst := hst.go hs4; replace hc4 := hc4.go hs4; replace hc5 := hc5.go hs4; replace hc8 := hc8.go hs4; replace hc9 := hc9.go hs4; replace hc11 := hc11.go hs4; replace hr := hr.go hs4
  refine w_append (ho3.go hs4) hr4 rfl rfl rfl (by decide) (by simp; omega) rfl fun h5 v5 hs5 ho5 => ?_
  replace hst := hst.go hs5; replace hc4 := hc4.go hs5; replace hc5 := hc5.go hs5; replace hc8 := hc8.go hs5; replace hc9 := hc9.go hs5; replace hc11 := hc11.go hs5; replace hr := hr.go hs5
  repeat (first|refine q1 ?_|refine q2 ?_|refine q3 ?_|refine q4 ?_|refine q5 ?_|refine q6 ?_|refine w_seq ?_|refine w_region ?_|refine w_ops_nil ?_|refine w_skip ?_|refine w_block ?_|refine w_blk ?_|refine q7 ?_|refine q8 ?_|refine q9 ?_)
  refine w_fldA (by decide) rfl rfl ?_
  refine w_load1 (v := v1) hc4 rfl rfl rfl rfl ?_
  repeat (first|refine q1 ?_|refine q2 ?_|refine q3 ?_|refine q4 ?_|refine q5 ?_|refine q6 ?_|refine w_seq ?_|refine w_region ?_|refine w_ops_nil ?_|refine w_skip ?_|refine w_block ?_|refine w_blk ?_|refine q7 ?_|refine q8 ?_|refine q9 ?_)
  refine w_cut_ (a := n) (b := L1.length) hr rfl ⟨_, rfl, rfl⟩ rfl (by omega) (by omega) rfl fun hr6 => ?_
  refine w_append ho5 hr6 rfl rfl rfl (by decide) (by simp; omega) rfl fun h6 v6 hs6 ho6 => ?_
  replace hst := hst.go hs6; replace hc4 := hc4.go hs6; replace hc8 := hc8.go hs6; replace hc9 := hc9.go hs6; replace hc11 := hc11.go hs6
  clear hs3 hs4 hs5 hs6
  obtain ⟨h7, hw7, hs7, hr7⟩ := ho6.freeze (by decide)
  rw [← hw7]
  replace hst := hst.go hs7; replace hc4 := hc4.go hs7; replace hc8 := hc8.go hs7; replace hc9 := hc9.go hs7; replace hc11 := hc11.go hs7
  refine w_fldA (by decide) rfl rfl ?_
  refine w_store1 hc4 rfl rfl hr7.isSl.one (show 1 < 2 by decide) fun h8 hb8 hs8 hc4 => ?_
  replace hst := hst.go hs8; replace hc8 := hc8.go hs8; replace hc9 := hc9.go hs8; replace hc11 := hc11.go hs8; replace hr7 := hr7.go hs8
  repeat (first|refine q1 ?_|refine q2 ?_|refine q3 ?_|refine q4 ?_|refine q5 ?_|refine q6 ?_|refine w_seq ?_|refine w_region ?_|refine w_ops_nil ?_|refine w_skip ?_|refine w_block ?_|refine w_blk ?_|refine q7 ?_|refine q8 ?_|refine q9 ?_)
  refine d_begin none [43, 44] (by kernel_rfl) fun g2 hsd => ?_
  replace hst := hst.go hsd; replace hc4 := hc4.go hsd; replace hc8 := hc8.go hsd; replace hc9 := hc9.go hsd; replace hc11 := hc11.go hsd; replace hr7 := hr7.go hsd
  refine d_read 0 calm_ret rfl (by kernel_rfl) rfl  (fun h hs => r_load (us := [.int .i64 room, v6]) (hc4.go hs) rfl rfl rfl (fun e => by cases e)) ?_
  refine d_read 1 calm_ret rfl (by kernel_rfl) rfl  (fun h hs => r_load (us := El.ky.enc Ky.zero) (hc11.go hs) rfl rfl rfl (fun e => by cases e)) ?_
  refine d_pure 2 calm_ret rfl (by kernel_rfl) rfl rfl ?_
  refine d_exec1 3 (by kernel_rfl) rfl ?_
  refine w_store (us := [.int .i64 room, v6]) (vs' := [.int .i64 room, v6]) hc8 rfl rfl rfl rfl (one v6 hr7.isSl.one) (show 0 + 2 ≤ 2 by decide) rfl fun k1 hb1 ks1 hc8 => ?_
  have kt1 : Step [] [43, 44] g2 k1 := ks1.mono (by simp) (by simp)
  replace hst := hst.go ks1; replace hc9 := hc9.go ks1; replace hr7 := hr7.go ks1
  repeat (first|refine q1 ?_|refine q2 ?_|refine q3 ?_|refine q4 ?_|refine q5 ?_|refine q6 ?_|refine w_seq ?_|refine w_region ?_|refine w_ops_nil ?_|refine w_skip ?_|refine w_block ?_|refine w_blk ?_|refine q7 ?_|refine q8 ?_|refine q9 ?_)
  refine d_next (fun _ => ⟨k1, rfl, kt1⟩) ?_
  refine d_exec1 4 (by kernel_rfl) rfl ?_
  refine w_store (us := El.ky.enc Ky.zero) (vs' := El.ky.enc Ky.zero) hc9 rfl rfl rfl rfl (El.ky.flat _) (show 0 + 24 ≤ 24 by decide) rfl fun k2 hb2 ks2 hc9 => ?_
  replace kt1 := kt1.go ks2
  replace hst := hst.go ks2; replace hc8 := hc8.go ks2; replace hr7 := hr7.go ks2
  repeat (first|refine q1 ?_|refine q2 ?_|refine q3 ?_|refine q4 ?_|refine q5 ?_|refine q6 ?_|refine w_seq ?_|refine w_region ?_|refine w_ops_nil ?_|refine w_skip ?_|refine w_block ?_|refine w_blk ?_|refine q7 ?_|refine q8 ?_|refine q9 ?_)
  refine d_next (fun _ => ⟨k2, rfl, kt1⟩) ?_
  refine d_pure 5 calm_ret rfl (by kernel_rfl) rfl rfl ?_
  refine d_done (by kernel_rfl) ?_
  repeat (first|refine q1 ?_|refine q2 ?_|refine q3 ?_|refine q4 ?_|refine q5 ?_|refine q6 ?_|refine w_seq ?_|refine w_region ?_|refine w_ops_nil ?_|refine w_skip ?_|refine w_block ?_|refine w_blk ?_|refine q7 ?_|refine q8 ?_|refine q9 ?_)
  refine w_retG (resCC1s hc8 hc9 rfl rfl rfl rfl rfl rfl rfl rfl) hst fun h' hv' => ⟨v6, _, rfl, hr7.view hv' (.inl rfl), ?_⟩
  rw [if_neg hle]
  refine ⟨n, by rw [hL1]; exact hpl, ?_⟩
  rw [hL1]
  simp

theorem ref18_Drop (room : Int) (L : BkM) (vL : Value) (o : Og) (g : G) (hr : Rd g 0 El.gr vL L) (hL : L.length ≤ 1000) :
    Fn Try.prog 19 [.agg #[.int .i64 room, vL], El.og.val o] g [] fun u h => ∃ v', u = .tuple #[.agg #[.int .i64 room, v'], .int .i64 ((L.length : Int) - (L.filter fun x => decide (¬ x.1.page = o)).length)] ∧ Rd h 0 El.gr v' (L.filter fun x => decide (¬ x.1.page = o)) := by
  refine enterG [] [41, 42, 43, 45] Try.func19 rfl Try.ntmps19 rfl (by simp) fun g1 hv ho => ?_
  replace hr := hr.view hv (.inl rfl)
  have hlm := hr.isSl.le
  repeat (first|refine q1 ?_|refine q2 ?_|refine q3 ?_|refine q4 ?_|refine q5 ?_|refine q6 ?_|refine w_seq ?_|refine w_region ?_|refine w_ops_nil ?_|refine w_skip ?_|refine w_block ?_|refine w_blk ?_|refine q7 ?_|refine q8 ?_|refine q9 ?_)
  refine w_box 41 (vs := [.int .i64 room, vL]) rfl rfl rfl fun h1 b2 hs1 hc2 => ?_
  have hst : Step [] [41, 42, 43, 45] g1 h1 := hs1.nil
  replace hr := hr.go hs1
  repeat (first|refine q1 ?_|refine q2 ?_|refine q3 ?_|refine q4 ?_|refine q5 ?_|refine q6 ?_|refine w_seq ?_|refine w_region ?_|refine w_ops_nil ?_|refine w_skip ?_|refine w_block ?_|refine w_blk ?_|refine q7 ?_|refine q8 ?_|refine q9 ?_)
  refine w_box 42 (vs := El.og.enc o) rfl rfl rfl fun h2 b3 hs2 hc3 => ?_
  replace hst := hst.go hs2; replace hc2 := hc2.go hs2; replace hr := hr.go hs2
  repeat (first|refine q1 ?_|refine q2 ?_|refine q3 ?_|refine q4 ?_|refine q5 ?_|refine q6 ?_|refine w_seq ?_|refine w_region ?_|refine w_ops_nil ?_|refine w_skip ?_|refine w_block ?_|refine w_blk ?_|refine q7 ?_|refine q8 ?_|refine q9 ?_)
  refine w_alloc 43 (vs := [.int .i64 0, .slice none 0 0]) rfl rfl fun h3 b4 hs3 hc4 => ?_
  replace hst := hst.go hs3; replace hc2 := hc2.go hs3; replace hc3 := hc3.go hs3; replace hr := hr.go hs3
  clear hs1 hs2 hs3
  let F := fun (l : BkM) => l.filter fun x => decide (¬ x.1.page = o)
  have hF : ∀ l : BkM, (F l).length ≤ l.length := fun l => List.length_filter_le _ _
  repeat (first|refine q1 ?_|refine q2 ?_|refine q3 ?_|refine q4 ?_|refine q5 ?_|refine q6 ?_|refine w_seq ?_|refine w_region ?_|refine w_ops_nil ?_|refine w_skip ?_|refine w_block ?_|refine w_blk ?_|refine q7 ?_|refine q8 ?_|refine q9 ?_)
  refine w_loop (ι := Value × Nat) (fun x => [(2, .pointer (some ⟨b2, 0, none⟩)), (3, .pointer (some ⟨b3, 0, none⟩)), (4, .pointer (some ⟨b4, 0, none⟩)), (6, x.1), (7, .int .i64 (x.2 : Int))])
    (fun x w => ∃ h : G, h.w = w ∧ Step [] [45] h3 h ∧ Own h 45 El.gr 48 x.1 (F (L.take x.2)) ∧ x.2 ≤ L.length) (fun x => L.length - x.2)
    (.slice none 0 0, 0) ⟨h3, rfl, Step.refl _ _ _, Own.nil _ _ _ _, by dsimp only; omega⟩ ⟨rfl, rfl, rfl, rfl, rfl, trivial⟩ ?_
  rintro ⟨vO, i⟩ _ ⟨h, rfl, hst2, hown, hi⟩
  dsimp only at hst2 hown hi ⊢
  replace hst := hst.go hst2; replace hc2 := hc2.go hst2; replace hc3 := hc3.go hst2; replace hc4 := hc4.go hst2; replace hr := hr.go hst2
  have hFi := hF (L.take i)
  rw [List.length_take] at hFi
  repeat (first|refine q1 ?_|refine q2 ?_|refine q3 ?_|refine q4 ?_|refine q5 ?_|refine q6 ?_|refine w_seq ?_|refine w_region ?_|refine w_ops_nil ?_|refine w_skip ?_|refine w_block ?_|refine w_blk ?_|refine q7 ?_|refine q8 ?_|refine q9 ?_)
  refine w_fldA (by decide) rfl rfl ?_
  refine w_load1 (v := vL) hc2 rfl rfl rfl rfl ?_
  refine w_lenSl hr.isSl rfl rfl ?_
  repeat (first|refine q1 ?_|refine q2 ?_|refine q3 ?_|refine q4 ?_|refine q5 ?_|refine q6 ?_|refine w_seq ?_|refine w_region ?_|refine w_ops_nil ?_|refine w_skip ?_|refine w_block ?_|refine w_blk ?_|refine q7 ?_|refine q8 ?_|refine q9 ?_)
  refine w_condP rfl (fun hlt => ?_) (fun hlt => ?_)
  · have hlt : i < L.length := by omega
    have htake : F (L.take (i + 1)) = F (L.take i) ++ F [L[i]] := by simp only [F]; rw [List.take_succ_eq_append_getElem hlt, List.filter_append]
    repeat (first|refine q1 ?_|refine q2 ?_|refine q3 ?_|refine q4 ?_|refine q5 ?_|refine q6 ?_|refine w_seq ?_|refine w_region ?_|refine w_ops_nil ?_|refine w_skip ?_|refine w_block ?_|refine w_blk ?_|refine q7 ?_|refine q8 ?_|refine q9 ?_)
    refine d_begin none [] (by kernel_rfl) fun g2 hsd => ?_
    replace hown := hown.go hsd
    replace hst := hst.go hsd; replace hst2 := hst2.go hsd; replace hc2 := hc2.go hsd; replace hc3 := hc3.go hsd; replace hc4 := hc4.go hsd; replace hr := hr.go hsd
    refine d_read 0 calm_ret rfl (by kernel_rfl) rfl  (fun h hs => r_fldA (by decide) rfl) ?_
    refine d_read 1 calm_ret rfl (by kernel_rfl) rfl  (fun h hs => r_load1 (v := vL) (hc2.go hs) rfl rfl rfl) ?_
    refine d_pure 2 calm_ret rfl (by kernel_rfl) rfl rfl ?_
    refine d_read 3 calm_ret rfl (by kernel_rfl) rfl  (fun h hs => r_idx (hr.go hs) rfl rfl (by omega) (by omega)) ?_
    refine d_read 4 calm_ret rfl (by kernel_rfl) rfl  (fun h hs => r_fldE (hr.base hlt) (by decide) rfl) ?_
    refine d_read 5 calm_ret rfl (by kernel_rfl) rfl  (fun h hs => r_fldE (hr.base hlt) (by decide) rfl) ?_
    refine d_read 6 calm_ret rfl (by kernel_rfl) rfl  (fun h hs => r_loadES (i := i) (off := 0) (y := L[i]) (us := El.og.enc L[i].1.page) (hr.go hs) rfl (by simp [hlt]) rfl rfl rfl) ?_
    refine d_read 7 calm_ret rfl (by kernel_rfl) rfl  (fun h hs => r_load (us := El.og.enc o) (hc3.go hs) rfl rfl rfl (fun e => by cases e)) ?_
    refine d_read 8 calm_ret rfl (by kernel_rfl) rfl  (fun h hs => r_neS (E := El.og) (a := L[i].1.page) (b := o) rfl rfl rfl) ?_
    refine d_done (by kernel_rfl) ?_
    repeat (first|refine q1 ?_|refine q2 ?_|refine q3 ?_|refine q4 ?_|refine q5 ?_|refine q6 ?_|refine w_seq ?_|refine w_region ?_|refine w_ops_nil ?_|refine w_skip ?_|refine w_block ?_|refine w_blk ?_|refine q7 ?_|refine q8 ?_|refine q9 ?_)
    refine w_condP rfl (fun hx => ?_) (fun hx => ?_)
    · repeat (first|refine q1 ?_|refine q2 ?_|refine q3 ?_|refine q4 ?_|refine q5 ?_|refine q6 ?_|refine w_seq ?_|refine w_region ?_|refine w_ops_nil ?_|refine w_skip ?_|refine w_block ?_|refine w_blk ?_|refine q7 ?_|refine q8 ?_|refine q9 ?_)
      refine w_fldA (by decide) rfl rfl ?_
      refine w_load1 (v := vL) hc2 rfl rfl rfl rfl ?_
      repeat (first|refine q1 ?_|refine q2 ?_|refine q3 ?_|refine q4 ?_|refine q5 ?_|refine q6 ?_|refine w_seq ?_|refine w_region ?_|refine w_ops_nil ?_|refine w_skip ?_|refine w_block ?_|refine w_blk ?_|refine q7 ?_|refine q8 ?_|refine q9 ?_)
      refine w_idx hr rfl rfl (by omega) (by omega) rfl ?_
      refine w_loadE (i := i) (y := L[i]) hr rfl (by simp [hlt]) rfl rfl ?_
      refine w_buildSlR El.gr [L[i]] rfl rfl rfl rfl fun h4 v4 hs4 hr4 => ?_
      refine w_append (hown.go hs4) hr4 rfl rfl rfl (by decide) (by simp only [List.length_cons, List.length_nil]; omega) rfl fun h5 v5 hs5 ho5 => ?_
      repeat (first|refine q1 ?_|refine q2 ?_|refine q3 ?_|refine q4 ?_|refine q5 ?_|refine q6 ?_|refine w_seq ?_|refine w_region ?_|refine w_ops_nil ?_|refine w_skip ?_|refine w_block ?_|refine w_blk ?_|refine q7 ?_|refine q8 ?_|refine q9 ?_)
      refine w_again (v5, i + 1) (by dsimp only; omega) ⟨h5, rfl, (hst2.go hs4).go hs5, ?_, by dsimp only; omega⟩ ⟨rfl, rfl, rfl, rfl, rfl, trivial⟩
      dsimp only
      rw [htake, show F [L[i]] = [L[i]] from by simp [F, hx]]
      exact ho5
    · have hx := Decidable.not_not.1 hx
      repeat (first|refine q1 ?_|refine q2 ?_|refine q3 ?_|refine q4 ?_|refine q5 ?_|refine q6 ?_|refine w_seq ?_|refine w_region ?_|refine w_ops_nil ?_|refine w_skip ?_|refine w_block ?_|refine w_blk ?_|refine q7 ?_|refine q8 ?_|refine q9 ?_)
      refine w_again (vO, i + 1) (by dsimp only; omega) ⟨g2, rfl, hst2, ?_, by dsimp only; omega⟩ ⟨rfl, rfl, rfl, rfl, rfl, trivial⟩
      dsimp only
      rw [htake, show F [L[i]] = [] from by simp [F, hx], List.append_nil]
      exact hown
  have ei : i = L.length := by omega
  subst ei
  rw [List.take_length] at hown
  have hFL := hF L
  repeat (first|refine q1 ?_|refine q2 ?_|refine q3 ?_|refine q4 ?_|refine q5 ?_|refine q6 ?_|refine w_seq ?_|refine w_region ?_|refine w_ops_nil ?_|refine w_skip ?_|refine w_block ?_|refine w_blk ?_|refine q7 ?_|refine q8 ?_|refine q9 ?_)
  refine w_fldA (by decide) rfl rfl ?_
  refine w_load1 (v := vL) hc2 rfl rfl rfl rfl ?_
  refine w_lenSl hr.isSl rfl rfl ?_
  repeat (first|refine q1 ?_|refine q2 ?_|refine q3 ?_|refine q4 ?_|refine q5 ?_|refine q6 ?_|refine w_seq ?_|refine w_region ?_|refine w_ops_nil ?_|refine w_skip ?_|refine w_block ?_|refine w_blk ?_|refine q7 ?_|refine q8 ?_|refine q9 ?_)
  refine w_lenSl hown.isSl rfl rfl ?_
  repeat (first|refine q1 ?_|refine q2 ?_|refine q3 ?_|refine q4 ?_|refine q5 ?_|refine q6 ?_|refine w_seq ?_|refine w_region ?_|refine w_ops_nil ?_|refine w_skip ?_|refine w_block ?_|refine w_blk ?_|refine q7 ?_|refine q8 ?_|refine q9 ?_)
  obtain ⟨h7, hw7, hs7, hr7⟩ := hown.freeze (by decide)
  rw [← hw7]
  replace hst := hst.go hs7; replace hc2 := hc2.go hs7; replace hc4 := hc4.go hs7
  refine w_fldA (by decide) rfl rfl ?_
  refine w_store1 hc2 rfl rfl hr7.isSl.one (show 1 < 2 by decide) fun h8 hb8 hs8 hc2 => ?_
  replace hst := hst.go hs8; replace hc4 := hc4.go hs8; replace hr7 := hr7.go hs8
  repeat (first|refine q1 ?_|refine q2 ?_|refine q3 ?_|refine q4 ?_|refine q5 ?_|refine q6 ?_|refine w_seq ?_|refine w_region ?_|refine w_ops_nil ?_|refine w_skip ?_|refine w_block ?_|refine w_blk ?_|refine q7 ?_|refine q8 ?_|refine q9 ?_)
  refine w_loadS (us := [.int .i64 room, vO]) hc2 rfl rfl rfl rfl rfl ?_
  repeat (first|refine q1 ?_|refine q2 ?_|refine q3 ?_|refine q4 ?_|refine q5 ?_|refine q6 ?_|refine w_seq ?_|refine w_region ?_|refine w_ops_nil ?_|refine w_skip ?_|refine w_block ?_|refine w_blk ?_|refine q7 ?_|refine q8 ?_|refine q9 ?_)
  refine w_store (us := [.int .i64 room, vO]) (vs' := [.int .i64 room, vO]) hc4 rfl rfl rfl rfl (by
    intro u hu
    simp only [List.mem_cons, List.not_mem_nil, or_false] at hu
    rcases hu with rfl | rfl
    · rfl
    · exact hr7.isSl.one) (show 0 + 2 ≤ 2 by decide) rfl fun h9 hb9 hs9 hc4 => ?_
  replace hst := hst.go hs9; replace hr7 := hr7.go hs9
  repeat (first|refine q1 ?_|refine q2 ?_|refine q3 ?_|refine q4 ?_|refine q5 ?_|refine q6 ?_|refine w_seq ?_|refine w_region ?_|refine w_ops_nil ?_|refine w_skip ?_|refine w_block ?_|refine w_blk ?_|refine q7 ?_|refine q8 ?_|refine q9 ?_)
  exact w_retG (resCs1 hc4 rfl rfl rfl rfl rfl) hst fun h' hv' => ⟨vO, rfl, hr7.view hv' (.inl rfl)⟩
end Go.Proofs.Ytkgbodmlmeholaa
