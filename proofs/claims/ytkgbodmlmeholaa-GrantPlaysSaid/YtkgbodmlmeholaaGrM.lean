/- Grants: one deed of both books. No statement of the seat is proved here. -/
import Derived.Test.YtkgbodmlmeholaaGrK
set_option linter.unusedVariables false
set_option linter.unusedSimpArgs false
namespace Go.Proofs.Ytkgbodmlmeholaa
open Go
attribute [local irreducible] Wp
structure Dd where
  kind : Int
  for_ : Int
  wait : Int
  k : Ky
def El.dd : El Dd := ⟨27, true, fun d => .int .i64 d.kind :: .int .i64 d.for_ :: .int .i64 d.wait :: El.ky.enc d.k, fun _ => rfl, fun h => (by cases h), by decide, by
  intro x u hu
  simp only [List.mem_cons] at hu
  rcases hu with h | h | h | h
  · subst h; rfl
  · subst h; rfl
  · subst h; rfl
  · exact El.ky.flat x.k u (by simpa using h)⟩

set_option maxRecDepth 4000 in
theorem law18_does (p : Nat) (room : Int) (m L : BkM) (vL : Value) (d : Dd) (now : Int) (g : G) (hb : Bk g p room m) (hr : Rd g 0 El.gr vL L) (hbk : Books m L) (hl : L.length ≤ 900) (hr1 : 1 ≤ room) (hf : -9223372036854775808 ≤ d.for_ ∧ d.for_ ≤ 9223372036854775807) (hnow : 0 ≤ now ∧ now ≤ 1000000) :
    Fn Try.prog 21 [.pointer (some ⟨p, 0, none⟩), .agg #[.int .i64 room, vL], El.dd.val d, .int .i64 now] g [51, 52] fun u h => ∃ v' m' L', u = .tuple #[.agg #[.int .i64 room, v'], .bool true] ∧ Rd h 0 El.gr v' L' ∧ Bk h p room m' ∧ Books m' L' ∧ L'.length ≤ L.length + 1 := by
  refine enterG [51, 52] [41, 42, 43, 44, 45, 46, 47] Try.func21 rfl Try.ntmps21 rfl (by simp) fun g1 hv ho => ?_
  replace hb := hb.view hv
  replace hr := hr.view hv (.inl rfl)
  have hlm := hbk.len
  have one : ∀ v : Value, v.oneCell' = true → ∀ u ∈ [Value.int .i64 room, v], u.oneCell' = true := by
    intro v hv u hu
    simp only [List.mem_cons, List.not_mem_nil, or_false] at hu
    rcases hu with rfl | rfl
    · rfl
    · exact hv
  repeat (first|refine q1 ?_|refine q2 ?_|refine q3 ?_|refine q4 ?_|refine q5 ?_|refine q6 ?_|refine w_seq ?_|refine w_region ?_|refine w_ops_nil ?_|refine w_skip ?_|refine w_block ?_|refine w_blk ?_|refine q7 ?_|refine q8 ?_|refine q9 ?_)
  refine w_box 41 (vs := [.int .i64 room, vL]) rfl rfl rfl fun h1 b5 hs1 hc5 => ?_
  have hst : Step [] [51, 52, 41, 42, 43, 44, 45, 46, 47] g1 h1 := hs1.nil
  replace hb := hb.go hs1; replace hr := hr.go hs1
  repeat (first|refine q1 ?_|refine q2 ?_|refine q3 ?_|refine q4 ?_|refine q5 ?_|refine q6 ?_|refine w_seq ?_|refine w_region ?_|refine w_ops_nil ?_|refine w_skip ?_|refine w_block ?_|refine w_blk ?_|refine q7 ?_|refine q8 ?_|refine q9 ?_)
  refine w_box 42 (vs := El.dd.enc d) rfl rfl rfl fun h2 b6 hs2 hc6 => ?_
  replace hst := hst.go hs2; replace hb := hb.go hs2; replace hr := hr.go hs2; replace hc5 := hc5.go hs2
  repeat (first|refine q1 ?_|refine q2 ?_|refine q3 ?_|refine q4 ?_|refine q5 ?_|refine q6 ?_|refine w_seq ?_|refine w_region ?_|refine w_ops_nil ?_|refine w_skip ?_|refine w_block ?_|refine w_blk ?_|refine q7 ?_|refine q8 ?_|refine q9 ?_)
  refine w_alloc 43 (vs := [.int .i64 0, .slice none 0 0]) rfl rfl fun h3 b8 hs3 hc8 => ?_
  replace hst := hst.go hs3; replace hb := hb.go hs3; replace hr := hr.go hs3; replace hc5 := hc5.go hs3; replace hc6 := hc6.go hs3
  repeat (first|refine q1 ?_|refine q2 ?_|refine q3 ?_|refine q4 ?_|refine q5 ?_|refine q6 ?_|refine w_seq ?_|refine w_region ?_|refine w_ops_nil ?_|refine w_skip ?_|refine w_block ?_|refine w_blk ?_|refine q7 ?_|refine q8 ?_|refine q9 ?_)
  refine w_fldA (by decide) rfl rfl ?_
  refine w_loadS (us := El.ky.enc d.k) hc6 rfl rfl rfl rfl rfl ?_
  repeat (first|refine q1 ?_|refine q2 ?_|refine q3 ?_|refine q4 ?_|refine q5 ?_|refine q6 ?_|refine w_seq ?_|refine w_region ?_|refine w_ops_nil ?_|refine w_skip ?_|refine w_block ?_|refine w_blk ?_|refine q7 ?_|refine q8 ?_|refine q9 ?_)
  refine w_alloc 44 (vs := El.ky.enc Ky.zero) rfl rfl fun h4 b10 hs4 hc10 => ?_
  replace hst := hst.go hs4; replace hb := hb.go hs4; replace hr := hr.go hs4; replace hc5 := hc5.go hs4; replace hc6 := hc6.go hs4; replace hc8 := hc8.go hs4
  refine w_store (us := El.ky.enc d.k) (vs' := El.ky.enc d.k) hc10 rfl rfl rfl rfl (El.ky.flat _) (show 0 + 24 ≤ 24 by decide) rfl fun h5 hb5 hs5 hc10 => ?_
  replace hst := hst.go hs5; replace hb := hb.go hs5; replace hr := hr.go hs5; replace hc5 := hc5.go hs5; replace hc6 := hc6.go hs5; replace hc8 := hc8.go hs5
  clear hs1 hs2 hs3 hs4 hs5 hb5
  repeat (first|refine q1 ?_|refine q2 ?_|refine q3 ?_|refine q4 ?_|refine q5 ?_|refine q6 ?_|refine w_seq ?_|refine w_region ?_|refine w_ops_nil ?_|refine w_skip ?_|refine w_block ?_|refine w_blk ?_|refine q7 ?_|refine q8 ?_|refine q9 ?_)
  refine w_fldA (by decide) rfl rfl ?_
  refine w_load1 (v := .int .i64 d.kind) hc6 rfl rfl rfl rfl ?_
  repeat (first|refine q1 ?_|refine q2 ?_|refine q3 ?_|refine q4 ?_|refine q5 ?_|refine q6 ?_|refine w_seq ?_|refine w_region ?_|refine w_ops_nil ?_|refine w_skip ?_|refine w_block ?_|refine w_blk ?_|refine q7 ?_|refine q8 ?_|refine q9 ?_)
  refine w_condP rfl (fun hk0 => ?_) (fun hk0 => ?_)
  · have har := around_range d.for_ 30 (by omega)
    repeat (first|refine q1 ?_|refine q2 ?_|refine q3 ?_|refine q4 ?_|refine q5 ?_|refine q6 ?_|refine w_seq ?_|refine w_region ?_|refine w_ops_nil ?_|refine w_skip ?_|refine w_block ?_|refine w_blk ?_|refine q7 ?_|refine q8 ?_|refine q9 ?_)
    refine w_fldA (by decide) rfl rfl ?_
    refine w_load1 (v := .int .i64 d.for_) hc6 rfl rfl rfl rfl ?_
    refine w_callF (vs := [.int .i64 d.for_, .int .i64 30]) rfl (ref01_Around d.for_ 30 h5 hf (by omega)) rfl fun u h6 hs6 hu => ?_
    subst hu
    generalize aroundZ d.for_ 30 = ar at har
    replace hst := hst.go hs6; replace hb := hb.go hs6; replace hr := hr.go hs6; replace hc5 := hc5.go hs6; replace hc6 := hc6.go hs6; replace hc8 := hc8.go hs6; replace hc10 := hc10.go hs6
    repeat (first|refine q1 ?_|refine q2 ?_|refine q3 ?_|refine q4 ?_|refine q5 ?_|refine q6 ?_|refine w_seq ?_|refine w_region ?_|refine w_ops_nil ?_|refine w_skip ?_|refine w_block ?_|refine w_blk ?_|refine q7 ?_|refine q8 ?_|refine q9 ?_)
    refine w_loadS (us := [.int .i64 room, vL]) hc5 rfl rfl rfl rfl rfl ?_
    refine w_fldA (by decide) rfl rfl ?_
    refine w_loadS (us := El.ky.enc d.k) hc6 rfl rfl rfl rfl rfl ?_
    repeat (first|refine q1 ?_|refine q2 ?_|refine q3 ?_|refine q4 ?_|refine q5 ?_|refine q6 ?_|refine w_seq ?_|refine w_region ?_|refine w_ops_nil ?_|refine w_skip ?_|refine w_block ?_|refine w_blk ?_|refine q7 ?_|refine q8 ?_|refine q9 ?_)
    generalize htt : now + ar - 2 = tt
    refine w_callF (vs := [.agg #[.int .i64 room, vL], El.ky.val d.k, .int .i64 tt, .int .i64 now]) rfl (ref18_PutF room L vL d.k tt now h6 hr (by omega) hbk.nd2 hr1) rfl fun u h7 hs7 hR => ?_
    obtain ⟨v', L', gone, lt, rfl, hr', hput⟩ := hR
    replace hst := hst.go hs7; replace hb := hb.go hs7; replace hc5 := hc5.go hs7; replace hc6 := hc6.go hs7; replace hc8 := hc8.go hs7; replace hc10 := hc10.go hs7
    obtain ⟨hbk', hsame, hlen'⟩ : Books (putP room tt now d.k m).1 L' ∧ (putP room tt now d.k m).2 = (gone, lt) ∧ L'.length ≤ L.length + 1 := by
      by_cases hle : tt ≤ now
      · rw [if_pos hle] at hput
        obtain ⟨rfl, rfl, rfl⟩ := hput
        unfold putP
        rw [if_pos hle]
        exact ⟨hbk, rfl, by omega⟩
      · rw [if_neg hle] at hput
        obtain ⟨hins, rfl, rfl⟩ := hput
        obtain ⟨a1, a2⟩ := hbk.put room tt now d.k hle hins
        refine ⟨a1, a2, ?_⟩
        have h1 := (ins_perm hins).length_eq
        have h2 := preL_len room now d.k L
        simp only [List.length_cons] at h1
        omega
    clear hs6 hs7 hr hput
    repeat (first|refine q1 ?_|refine q2 ?_|refine q3 ?_|refine q4 ?_|refine q5 ?_|refine q6 ?_|refine w_seq ?_|refine w_region ?_|refine w_ops_nil ?_|refine w_skip ?_|refine w_block ?_|refine w_blk ?_|refine q7 ?_|refine q8 ?_|refine q9 ?_)
    refine w_alloc 45 (vs := [.int .i64 0, .slice none 0 0]) rfl rfl fun h8 b12 hs8 hc12 => ?_
    replace hst := hst.go hs8; replace hb := hb.go hs8; replace hr' := hr'.go hs8; replace hc8 := hc8.go hs8; replace hc10 := hc10.go hs8
    refine w_alloc 46 (vs := El.ky.enc Ky.zero) rfl rfl fun h9 b13 hs9 hc13 => ?_
    replace hst := hst.go hs9; replace hb := hb.go hs9; replace hr' := hr'.go hs9; replace hc8 := hc8.go hs9; replace hc10 := hc10.go hs9; replace hc12 := hc12.go hs9
    refine w_store (us := [.int .i64 room, v']) (vs' := [.int .i64 room, v']) hc12 rfl rfl rfl rfl (one v' hr'.isSl.one) (show 0 + 2 ≤ 2 by decide) rfl fun h10 hb10 hs10 hc12 => ?_
    replace hst := hst.go hs10; replace hb := hb.go hs10; replace hr' := hr'.go hs10; replace hc8 := hc8.go hs10; replace hc10 := hc10.go hs10; replace hc13 := hc13.go hs10
    refine w_store (us := El.ky.enc gone) (vs' := El.ky.enc gone) hc13 rfl rfl rfl rfl (El.ky.flat _) (show 0 + 24 ≤ 24 by decide) rfl fun h11 hb11 hs11 hc13 => ?_
    replace hst := hst.go hs11; replace hb := hb.go hs11; replace hr' := hr'.go hs11; replace hc8 := hc8.go hs11; replace hc10 := hc10.go hs11; replace hc12 := hc12.go hs11
    repeat (first|refine q1 ?_|refine q2 ?_|refine q3 ?_|refine q4 ?_|refine q5 ?_|refine q6 ?_|refine w_seq ?_|refine w_region ?_|refine w_ops_nil ?_|refine w_skip ?_|refine w_block ?_|refine w_blk ?_|refine q7 ?_|refine q8 ?_|refine q9 ?_)
    refine w_loadS (us := El.ky.enc d.k) hc10 rfl rfl rfl rfl rfl ?_
    repeat (first|refine q1 ?_|refine q2 ?_|refine q3 ?_|refine q4 ?_|refine q5 ?_|refine q6 ?_|refine w_seq ?_|refine w_region ?_|refine w_ops_nil ?_|refine w_skip ?_|refine w_block ?_|refine w_blk ?_|refine q7 ?_|refine q8 ?_|refine q9 ?_)
    refine w_callF (vs := [.pointer (some ⟨p, 0, none⟩), El.ky.val d.k, .int .i64 tt, .int .i64 now]) rfl (Book_PutF p room m d.k tt now h11 hb hbk.nd (by omega) hr1) rfl fun u h12 hs12 hR => ?_
    obtain ⟨rfl, hb⟩ := hR
    rw [hsame]
    replace hst := hst.go hs12; replace hr' := hr'.go hs12; replace hc8 := hc8.go hs12; replace hc12 := hc12.go hs12; replace hc13 := hc13.go hs12
    generalize (putP room tt now d.k m).1 = m' at hb hbk'
    repeat (first|refine q1 ?_|refine q2 ?_|refine q3 ?_|refine q4 ?_|refine q5 ?_|refine q6 ?_|refine w_seq ?_|refine w_region ?_|refine w_ops_nil ?_|refine w_skip ?_|refine w_block ?_|refine w_blk ?_|refine q7 ?_|refine q8 ?_|refine q9 ?_)
    refine w_alloc 47 (vs := El.ky.enc Ky.zero) rfl rfl fun h13 b15 hs13 hc15 => ?_
    replace hst := hst.go hs13; replace hb := hb.go hs13; replace hr' := hr'.go hs13; replace hc8 := hc8.go hs13; replace hc12 := hc12.go hs13; replace hc13 := hc13.go hs13
    refine w_store (us := El.ky.enc gone) (vs' := El.ky.enc gone) hc15 rfl rfl rfl rfl (El.ky.flat _) (show 0 + 24 ≤ 24 by decide) rfl fun h14 hb14 hs14 hc15 => ?_
    replace hst := hst.go hs14; replace hb := hb.go hs14; replace hr' := hr'.go hs14; replace hc8 := hc8.go hs14; replace hc12 := hc12.go hs14; replace hc13 := hc13.go hs14
    clear hs8 hs9 hs10 hs11 hs12 hs13 hs14 hb10 hb11 hb14
    repeat (first|refine q1 ?_|refine q2 ?_|refine q3 ?_|refine q4 ?_|refine q5 ?_|refine q6 ?_|refine w_seq ?_|refine w_region ?_|refine w_ops_nil ?_|refine w_skip ?_|refine w_blk ?_|refine q7 ?_|refine q8 ?_|refine q9 ?_)
    refine d_begin none [43] (by kernel_rfl) fun g2 hsd => ?_
    replace hst := hst.go hsd; replace hb := hb.go hsd; replace hr' := hr'.go hsd; replace hc8 := hc8.go hsd; replace hc12 := hc12.go hsd; replace hc13 := hc13.go hsd; replace hc15 := hc15.go hsd
    refine d_read 0 calm_ret rfl (by kernel_rfl) rfl  (fun h hs => r_load (us := [.int .i64 room, v']) (hc12.go hs) rfl rfl rfl (fun e => by cases e)) ?_
    refine d_read 1 calm_ret rfl (by kernel_rfl) rfl  (fun h hs => r_load (us := El.ky.enc gone) (hc15.go hs) rfl rfl rfl (fun e => by cases e)) ?_
    refine d_read 2 calm_ret rfl (by kernel_rfl) rfl  (fun h hs => r_load (us := El.ky.enc gone) (hc13.go hs) rfl rfl rfl (fun e => by cases e)) ?_
    refine d_read 3 calm_ret rfl (by kernel_rfl) rfl  (fun h hs => r_eqS (E := El.ky) (a := gone) (b := gone) rfl rfl rfl) ?_
    refine d_known 58 (.bool true) rfl (congrArg Value.bool (decide_eq_true rfl)) ?_
    refine d_pure 4 calm_ret rfl (by kernel_rfl) rfl rfl ?_
    refine d_guard_pure 5 calm_ret rfl rfl rfl (by kernel_rfl) rfl rfl ?_; refine d_guard_pure 6 calm_ret rfl rfl rfl (by kernel_rfl) rfl rfl ?_
    refine d_known 60 (.bool lt) rfl rfl ?_
    refine d_known 61 (.bool lt) rfl rfl ?_
    refine d_readG 7 calm_ret rfl rfl rfl (by kernel_rfl) rfl  (fun h hs => r_eqBool rfl rfl) ?_
    refine d_known 62 (.bool true) rfl (congrArg Value.bool (decide_eq_true rfl)) ?_
    refine d_pure 8 calm_ret rfl (by kernel_rfl) rfl rfl ?_
    refine d_exec1 9 (by kernel_rfl) rfl ?_
    refine w_store (us := [.int .i64 room, v']) (vs' := [.int .i64 room, v']) hc8 rfl rfl rfl rfl (one v' hr'.isSl.one) (show 0 + 2 ≤ 2 by decide) rfl fun k1 hkb1 hk1 hc8 => ?_
    have hsb := hk1
    replace hst := hst.go hk1; replace hb := hb.go hk1; replace hr' := hr'.go hk1
    repeat (first|refine q1 ?_|refine q2 ?_|refine q3 ?_|refine q4 ?_|refine q5 ?_|refine q6 ?_|refine w_seq ?_|refine w_region ?_|refine w_ops_nil ?_|refine w_skip ?_|refine w_block ?_|refine w_blk ?_|refine q7 ?_|refine q8 ?_|refine q9 ?_)
    refine d_next (fun _ => ⟨k1, rfl, hsb⟩) ?_
    refine d_pure 10 calm_ret rfl (by kernel_rfl) rfl rfl ?_
    refine d_done (by kernel_rfl) ?_
    repeat (first|refine q1 ?_|refine q2 ?_|refine q3 ?_|refine q4 ?_|refine q5 ?_|refine q6 ?_|refine w_seq ?_|refine w_region ?_|refine w_ops_nil ?_|refine w_skip ?_|refine w_block ?_|refine w_blk ?_|refine q7 ?_|refine q8 ?_|refine q9 ?_)
    exact w_retG (resCs1 hc8 rfl rfl rfl rfl rfl) hst fun h' hv' => ⟨v', m', L', rfl, hr'.view hv' (.inl rfl), hb.view hv', hbk', hlen'⟩
  repeat (first|refine q1 ?_|refine q2 ?_|refine q3 ?_|refine q4 ?_|refine q5 ?_|refine q6 ?_|refine w_seq ?_|refine w_region ?_|refine w_ops_nil ?_|refine w_skip ?_|refine w_block ?_|refine w_blk ?_|refine q7 ?_|refine q8 ?_|refine q9 ?_)
  refine w_condP rfl (fun hk1 => ?_) (fun hk1 => ?_)
  · repeat (first|refine q1 ?_|refine q2 ?_|refine q3 ?_|refine q4 ?_|refine q5 ?_|refine q6 ?_|refine w_seq ?_|refine w_region ?_|refine w_ops_nil ?_|refine w_skip ?_|refine w_block ?_|refine w_blk ?_|refine q7 ?_|refine q8 ?_|refine q9 ?_)
    refine w_loadS (us := [.int .i64 room, vL]) hc5 rfl rfl rfl rfl rfl ?_
    refine w_fldA (by decide) rfl rfl ?_
    refine w_loadS (us := El.ky.enc d.k) hc6 rfl rfl rfl rfl rfl ?_
    refine w_callF (vs := [.agg #[.int .i64 room, vL], El.ky.val d.k]) rfl (ref18_Until room L vL d.k h5 hr) rfl fun u h6 hs6 hu => ?_
    subst hu
    replace hst := hst.go hs6; replace hb := hb.go hs6; replace hr := hr.go hs6; replace hc5 := hc5.go hs6; replace hc6 := hc6.go hs6; replace hc8 := hc8.go hs6; replace hc10 := hc10.go hs6
    repeat (first|refine q1 ?_|refine q2 ?_|refine q3 ?_|refine q4 ?_|refine q5 ?_|refine q6 ?_|refine w_seq ?_|refine w_region ?_|refine w_ops_nil ?_|refine w_skip ?_|refine w_block ?_|refine w_blk ?_|refine q7 ?_|refine q8 ?_|refine q9 ?_)
    refine w_known 17 (.int .i64 (tvOf L d.k)) rfl rfl ?_
    refine w_known 18 (.bool (mget d.k L).isSome) rfl rfl ?_
    refine d_begin none [43] (by kernel_rfl) fun g2 hsd => ?_
    replace hst := hst.go hsd; replace hb := hb.go hsd; replace hr := hr.go hsd; replace hc5 := hc5.go hsd; replace hc8 := hc8.go hsd; replace hc10 := hc10.go hsd
    have hold : holdB m d.k now = ((mget d.k L).isSome && decide (now < tvOf L d.k)) := by
      unfold holdB tvOf
      rw [hbk.get d.k]
      cases mget d.k L <;> rfl
    refine d_read 0 calm_ret rfl (by kernel_rfl) rfl  (fun h hs => r_load (us := [.int .i64 room, vL]) (hc5.go hs) rfl rfl rfl (fun e => by cases e)) ?_
    refine d_pure 1 calm_ret rfl (by kernel_rfl) rfl rfl ?_
    refine d_read 2 calm_ret rfl (by kernel_rfl) rfl  (fun h hs => r_load (us := El.ky.enc d.k) (hc10.go hs) rfl rfl rfl (fun e => by cases e)) ?_
    refine d_pure 3 calm_ret rfl (by kernel_rfl) rfl rfl ?_; refine d_pure 5 calm_ret rfl (by kernel_rfl) rfl rfl ?_
    refine d_exec1 4 (by kernel_rfl) rfl ?_
    refine w_callF (vs := [.pointer (some ⟨p, 0, none⟩), El.ky.val d.k, .int .i64 now]) rfl (Book_Holds p room m d.k now g2 hb) rfl fun u k0 hk0' hu => ?_
    subst hu
    rw [hold]
    have hsb0 : Step [] [43] g2 k0 := hk0'.nil
    replace hst := hst.go hk0'; replace hb := hb.go hk0'; replace hr := hr.go hk0'; replace hc8 := hc8.go hk0'
    repeat (first|refine q1 ?_|refine q2 ?_|refine q3 ?_|refine q4 ?_|refine q5 ?_|refine q6 ?_|refine w_seq ?_|refine w_region ?_|refine w_ops_nil ?_|refine w_skip ?_|refine w_block ?_|refine w_blk ?_|refine q7 ?_|refine q8 ?_|refine q9 ?_)
    refine d_next (fun _ => ⟨k0, rfl, hsb0⟩) ?_
    cases hsm : (mget d.k L).isSome with
    | true =>
      refine d_pure 6 calm_ret rfl (by kernel_rfl) rfl rfl ?_
      refine d_guard_pure 7 calm_ret rfl rfl rfl (by kernel_rfl) rfl rfl ?_; refine d_guard_pure 8 calm_ret rfl rfl rfl (by kernel_rfl) rfl rfl ?_; refine d_guard_pure 9 calm_ret rfl rfl rfl (by kernel_rfl) rfl rfl ?_
      refine d_pure 10 calm_ret rfl (by kernel_rfl) rfl rfl ?_
      refine d_known 83 (.bool (decide (now < tvOf L d.k))) rfl rfl ?_
      refine d_known 77 (.bool (decide (now < tvOf L d.k))) rfl rfl ?_
      refine d_read 11 calm_ret rfl (by kernel_rfl) rfl  (fun h hs => r_eqBool rfl rfl) ?_
      refine d_known 84 (.bool true) rfl (congrArg Value.bool (decide_eq_true rfl)) ?_
      refine d_exec1 12 (by kernel_rfl) rfl ?_
      refine w_store (us := [.int .i64 room, vL]) (vs' := [.int .i64 room, vL]) hc8 rfl rfl rfl rfl (one vL hr.isSl.one) (show 0 + 2 ≤ 2 by decide) rfl fun k1 hkb1 hk1' hc8 => ?_
      have hsb := hsb0.go hk1'
      replace hst := hst.go hk1'; replace hb := hb.go hk1'; replace hr := hr.go hk1'
      repeat (first|refine q1 ?_|refine q2 ?_|refine q3 ?_|refine q4 ?_|refine q5 ?_|refine q6 ?_|refine w_seq ?_|refine w_region ?_|refine w_ops_nil ?_|refine w_skip ?_|refine w_block ?_|refine w_blk ?_|refine q7 ?_|refine q8 ?_|refine q9 ?_)
      refine d_next (fun _ => ⟨k1, rfl, hsb⟩) ?_
      refine d_pure 13 calm_ret rfl (by kernel_rfl) rfl rfl ?_
      refine d_done (by kernel_rfl) ?_
      repeat (first|refine q1 ?_|refine q2 ?_|refine q3 ?_|refine q4 ?_|refine q5 ?_|refine q6 ?_|refine w_seq ?_|refine w_region ?_|refine w_ops_nil ?_|refine w_skip ?_|refine w_block ?_|refine w_blk ?_|refine q7 ?_|refine q8 ?_|refine q9 ?_)
      exact w_retG (resCs1 hc8 rfl rfl rfl rfl rfl) hst fun h' hv' => ⟨vL, m, L, rfl, hr.view hv' (.inl rfl), hb.view hv', hbk, by omega⟩
    | false =>
      refine d_pure 6 calm_ret rfl (by kernel_rfl) rfl rfl ?_
      refine d_guard_no 7 calm_ret rfl rfl rfl (by kernel_rfl) rfl ?_; refine d_guard_no 8 calm_ret rfl rfl rfl (by kernel_rfl) rfl ?_; refine d_guard_no 9 calm_ret rfl rfl rfl (by kernel_rfl) rfl ?_
      refine d_pure 10 calm_ret rfl (by kernel_rfl) rfl rfl ?_
      refine d_known 77 (.bool false) rfl rfl ?_
      refine d_read 11 calm_ret rfl (by kernel_rfl) rfl  (fun h hs => r_eqBool rfl rfl) ?_
      refine d_known 84 (.bool true) rfl (congrArg Value.bool (decide_eq_true rfl)) ?_
      refine d_exec1 12 (by kernel_rfl) rfl ?_
      refine w_store (us := [.int .i64 room, vL]) (vs' := [.int .i64 room, vL]) hc8 rfl rfl rfl rfl (one vL hr.isSl.one) (show 0 + 2 ≤ 2 by decide) rfl fun k1 hkb1 hk1' hc8 => ?_
      have hsb := hsb0.go hk1'
      replace hst := hst.go hk1'; replace hb := hb.go hk1'; replace hr := hr.go hk1'
      repeat (first|refine q1 ?_|refine q2 ?_|refine q3 ?_|refine q4 ?_|refine q5 ?_|refine q6 ?_|refine w_seq ?_|refine w_region ?_|refine w_ops_nil ?_|refine w_skip ?_|refine w_block ?_|refine w_blk ?_|refine q7 ?_|refine q8 ?_|refine q9 ?_)
      refine d_next (fun _ => ⟨k1, rfl, hsb⟩) ?_
      refine d_pure 13 calm_ret rfl (by kernel_rfl) rfl rfl ?_
      refine d_done (by kernel_rfl) ?_
      repeat (first|refine q1 ?_|refine q2 ?_|refine q3 ?_|refine q4 ?_|refine q5 ?_|refine q6 ?_|refine w_seq ?_|refine w_region ?_|refine w_ops_nil ?_|refine w_skip ?_|refine w_block ?_|refine w_blk ?_|refine q7 ?_|refine q8 ?_|refine q9 ?_)
      exact w_retG (resCs1 hc8 rfl rfl rfl rfl rfl) hst fun h' hv' => ⟨vL, m, L, rfl, hr.view hv' (.inl rfl), hb.view hv', hbk, by omega⟩
  repeat (first|refine q1 ?_|refine q2 ?_|refine q3 ?_|refine q4 ?_|refine q5 ?_|refine q6 ?_|refine w_seq ?_|refine w_region ?_|refine w_ops_nil ?_|refine w_skip ?_|refine w_block ?_|refine w_blk ?_|refine q7 ?_|refine q8 ?_|refine q9 ?_)
  refine w_condP rfl (fun hk2 => ?_) (fun hk2 => ?_)
  · repeat (first|refine q1 ?_|refine q2 ?_|refine q3 ?_|refine q4 ?_|refine q5 ?_|refine q6 ?_|refine w_seq ?_|refine w_region ?_|refine w_ops_nil ?_|refine w_skip ?_|refine w_block ?_|refine w_blk ?_|refine q7 ?_|refine q8 ?_|refine q9 ?_)
    refine w_loadS (us := El.ky.enc d.k) hc10 rfl rfl rfl rfl rfl ?_
    refine w_callF (vs := [.pointer (some ⟨p, 0, none⟩), El.ky.val d.k]) rfl (Book_Until p room m d.k h5 hb) rfl fun u h6 hs6 hu => ?_
    subst hu
    replace hst := hst.go hs6; replace hb := hb.go hs6; replace hr := hr.go hs6; replace hc5 := hc5.go hs6; replace hc6 := hc6.go hs6; replace hc8 := hc8.go hs6
    repeat (first|refine q1 ?_|refine q2 ?_|refine q3 ?_|refine q4 ?_|refine q5 ?_|refine q6 ?_|refine w_seq ?_|refine w_region ?_|refine w_ops_nil ?_|refine w_skip ?_|refine w_block ?_|refine w_blk ?_|refine q7 ?_|refine q8 ?_|refine q9 ?_)
    refine w_known 19 (.int .i64 (tvOf m d.k)) rfl rfl ?_
    refine w_known 20 (.bool (mget d.k m).isSome) rfl rfl ?_
    repeat (first|refine q1 ?_|refine q2 ?_|refine q3 ?_|refine q4 ?_|refine q5 ?_|refine q6 ?_|refine w_seq ?_|refine w_region ?_|refine w_ops_nil ?_|refine w_skip ?_|refine w_block ?_|refine w_blk ?_|refine q7 ?_|refine q8 ?_|refine q9 ?_)
    refine w_loadS (us := [.int .i64 room, vL]) hc5 rfl rfl rfl rfl rfl ?_
    refine w_fldA (by decide) rfl rfl ?_
    refine w_loadS (us := El.ky.enc d.k) hc6 rfl rfl rfl rfl rfl ?_
    refine w_callF (vs := [.agg #[.int .i64 room, vL], El.ky.val d.k]) rfl (ref18_Until room L vL d.k h6 hr) rfl fun u h7 hs7 hu => ?_
    subst hu
    replace hst := hst.go hs7; replace hb := hb.go hs7; replace hr := hr.go hs7; replace hc5 := hc5.go hs7; replace hc8 := hc8.go hs7
    have ht : tvOf m d.k = tvOf L d.k := by unfold tvOf; rw [hbk.get]
    rw [ht, hbk.get]
    repeat (first|refine q1 ?_|refine q2 ?_|refine q3 ?_|refine q4 ?_|refine q5 ?_|refine q6 ?_|refine w_seq ?_|refine w_region ?_|refine w_ops_nil ?_|refine w_skip ?_|refine w_block ?_|refine w_blk ?_|refine q7 ?_|refine q8 ?_|refine q9 ?_)
    refine w_known 21 (.int .i64 (tvOf L d.k)) rfl rfl ?_
    refine w_known 22 (.bool (mget d.k L).isSome) rfl rfl ?_
    repeat (first|refine q1 ?_|refine q2 ?_|refine q3 ?_|refine q4 ?_|refine q5 ?_|refine q6 ?_|refine w_seq ?_|refine w_region ?_|refine w_ops_nil ?_|refine w_skip ?_|refine w_block ?_|refine w_blk ?_|refine q7 ?_|refine q8 ?_|refine q9 ?_)
    refine w_loadS (us := [.int .i64 room, vL]) hc5 rfl rfl rfl rfl rfl ?_
    repeat (first|refine q1 ?_|refine q2 ?_|refine q3 ?_|refine q4 ?_|refine q5 ?_|refine q6 ?_|refine w_seq ?_|refine w_region ?_|refine w_ops_nil ?_|refine w_skip ?_|refine w_block ?_|refine w_blk ?_|refine q7 ?_|refine q8 ?_|refine q9 ?_)
    refine w_known 104 (.bool true) rfl (congrArg Value.bool (decide_eq_true rfl)) ?_
    repeat (first|refine q1 ?_|refine q2 ?_|refine q3 ?_|refine q4 ?_|refine q5 ?_|refine q6 ?_|refine w_seq ?_|refine w_region ?_|refine w_ops_nil ?_|refine w_skip ?_|refine w_block ?_|refine w_blk ?_|refine q7 ?_|refine q8 ?_|refine q9 ?_)
    refine w_eqBool rfl rfl rfl ?_
    refine w_known 107 (.bool true) rfl (congrArg Value.bool (decide_eq_true rfl)) ?_
    repeat (first|refine q1 ?_|refine q2 ?_|refine q3 ?_|refine q4 ?_|refine q5 ?_|refine q6 ?_|refine w_seq ?_|refine w_region ?_|refine w_ops_nil ?_|refine w_skip ?_|refine w_block ?_|refine w_blk ?_|refine q7 ?_|refine q8 ?_|refine q9 ?_)
    refine w_store (us := [.int .i64 room, vL]) (vs' := [.int .i64 room, vL]) hc8 rfl rfl rfl rfl (one vL hr.isSl.one) (show 0 + 2 ≤ 2 by decide) rfl fun k1 hkb1 hk1' hc8 => ?_
    replace hst := hst.go hk1'; replace hb := hb.go hk1'; replace hr := hr.go hk1'
    repeat (first|refine q1 ?_|refine q2 ?_|refine q3 ?_|refine q4 ?_|refine q5 ?_|refine q6 ?_|refine w_seq ?_|refine w_region ?_|refine w_ops_nil ?_|refine w_skip ?_|refine w_block ?_|refine w_blk ?_|refine q7 ?_|refine q8 ?_|refine q9 ?_)
    exact w_retG (resCs1 hc8 rfl rfl rfl rfl rfl) hst fun h' hv' => ⟨vL, m, L, rfl, hr.view hv' (.inl rfl), hb.view hv', hbk, by omega⟩
  repeat (first|refine q1 ?_|refine q2 ?_|refine q3 ?_|refine q4 ?_|refine q5 ?_|refine q6 ?_|refine w_seq ?_|refine w_region ?_|refine w_ops_nil ?_|refine w_skip ?_|refine w_block ?_|refine w_blk ?_|refine q7 ?_|refine q8 ?_|refine q9 ?_)
  refine w_loadS (us := [.int .i64 room, vL]) hc5 rfl rfl rfl rfl rfl ?_
  refine w_fldA (by decide) rfl rfl ?_
  refine w_fldA (by decide) rfl rfl ?_
  refine w_loadS (us := El.og.enc d.k.page) hc6 rfl rfl rfl rfl rfl ?_
  refine w_callF (vs := [.agg #[.int .i64 room, vL], El.og.val d.k.page]) rfl (ref18_Drop room L vL d.k.page h5 hr (by omega)) rfl fun u h6 hs6 hR => ?_
  obtain ⟨v', rfl, hr'⟩ := hR
  replace hst := hst.go hs6; replace hb := hb.go hs6; replace hc6 := hc6.go hs6; replace hc8 := hc8.go hs6
  have hpq : (fun x : Ky × Int => decide (¬ x.1.page = d.k.page)) = fun x => !(decide (x.1.page = d.k.page)) := by funext x; simp
  rw [hpq] at hr' ⊢
  have hfb := hbk.filter fun x => !(decide (x.1.page = d.k.page))
  have hfl := hfb.len
  have hLl := List.length_filter_le (fun x : Ky × Int => !(decide (x.1.page = d.k.page))) L
  repeat (first|refine q1 ?_|refine q2 ?_|refine q3 ?_|refine q4 ?_|refine q5 ?_|refine q6 ?_|refine w_seq ?_|refine w_region ?_|refine w_ops_nil ?_|refine w_skip ?_|refine w_block ?_|refine w_blk ?_|refine q7 ?_|refine q8 ?_|refine q9 ?_)
  refine w_alloc 45 (vs := [.int .i64 0, .slice none 0 0]) rfl rfl fun h8 b23 hs8 hc23 => ?_
  replace hst := hst.go hs8; replace hb := hb.go hs8; replace hr' := hr'.go hs8; replace hc6 := hc6.go hs8; replace hc8 := hc8.go hs8
  refine w_store (us := [.int .i64 room, v']) (vs' := [.int .i64 room, v']) hc23 rfl rfl rfl rfl (one v' hr'.isSl.one) (show 0 + 2 ≤ 2 by decide) rfl fun h10 hb10 hs10 hc23 => ?_
  replace hst := hst.go hs10; replace hb := hb.go hs10; replace hr' := hr'.go hs10; replace hc6 := hc6.go hs10; replace hc8 := hc8.go hs10
  repeat (first|refine q1 ?_|refine q2 ?_|refine q3 ?_|refine q4 ?_|refine q5 ?_|refine q6 ?_|refine w_seq ?_|refine w_region ?_|refine w_ops_nil ?_|refine w_skip ?_|refine w_block ?_|refine w_blk ?_|refine q7 ?_|refine q8 ?_|refine q9 ?_)
  refine w_known 24 (.int .i64 ((L.length : Int) - (L.filter fun x => !(decide (x.1.page = d.k.page))).length)) rfl rfl ?_
  repeat (first|refine q1 ?_|refine q2 ?_|refine q3 ?_|refine q4 ?_|refine q5 ?_|refine q6 ?_|refine w_seq ?_|refine w_region ?_|refine w_ops_nil ?_|refine w_skip ?_|refine w_blk ?_|refine q7 ?_|refine q8 ?_|refine q9 ?_)
  refine d_begin none [43, 51, 52] (by kernel_rfl) fun g2 hsd => ?_
  replace hst := hst.go hsd; replace hb := hb.go hsd; replace hr' := hr'.go hsd; replace hc6 := hc6.go hsd; replace hc8 := hc8.go hsd; replace hc23 := hc23.go hsd
  refine d_read 0 calm_ret rfl (by kernel_rfl) rfl  (fun h hs => r_load (us := [.int .i64 room, v']) (hc23.go hs) rfl rfl rfl (fun e => by cases e)) ?_
  refine d_pure 1 calm_ret rfl (by kernel_rfl) rfl rfl ?_
  refine d_read 2 calm_ret rfl (by kernel_rfl) rfl  (fun h hs => r_fldA (by decide) rfl) ?_
  refine d_read 3 calm_ret rfl (by kernel_rfl) rfl  (fun h hs => r_fldA (by decide) rfl) ?_
  refine d_read 4 calm_ret rfl (by kernel_rfl) rfl  (fun h hs => r_load (us := El.og.enc d.k.page) (hc6.go hs) rfl rfl rfl (fun e => by cases e)) ?_
  refine d_pure 6 calm_ret rfl (by kernel_rfl) rfl rfl ?_
  refine d_exec1 5 (by kernel_rfl) rfl ?_
  refine w_callF (vs := [.pointer (some ⟨p, 0, none⟩), El.og.val d.k.page]) rfl (Book_Drop p room m d.k.page g2 hb hbk.nd (by omega)) rfl fun u k0 hk0' hR => ?_
  obtain ⟨rfl, hb⟩ := hR
  have hsb0 : Step [] [43, 51, 52] g2 k0 := hk0'.mono (by simp) (by simp)
  replace hst := hst.go hk0'; replace hr' := hr'.go hk0'; replace hc8 := hc8.go hk0'
  repeat (first|refine q1 ?_|refine q2 ?_|refine q3 ?_|refine q4 ?_|refine q5 ?_|refine q6 ?_|refine w_seq ?_|refine w_region ?_|refine w_ops_nil ?_|refine w_skip ?_|refine w_block ?_|refine w_blk ?_|refine q7 ?_|refine q8 ?_|refine q9 ?_)
  refine d_next (fun _ => ⟨k0, rfl, hsb0⟩) ?_
  refine d_pure 7 calm_ret rfl (by kernel_rfl) rfl rfl ?_
  refine d_known 124 (.bool true) rfl (congrArg Value.bool (decide_eq_true (by rw [hlm, hfl]))) ?_
  refine d_exec1 8 (by kernel_rfl) rfl ?_
  refine w_store (us := [.int .i64 room, v']) (vs' := [.int .i64 room, v']) hc8 rfl rfl rfl rfl (one v' hr'.isSl.one) (show 0 + 2 ≤ 2 by decide) rfl fun k1 hkb1 hk1' hc8 => ?_
  have hsb := hsb0.go hk1'
  replace hst := hst.go hk1'; replace hb := hb.go hk1'; replace hr' := hr'.go hk1'
  repeat (first|refine q1 ?_|refine q2 ?_|refine q3 ?_|refine q4 ?_|refine q5 ?_|refine q6 ?_|refine w_seq ?_|refine w_region ?_|refine w_ops_nil ?_|refine w_skip ?_|refine w_block ?_|refine w_blk ?_|refine q7 ?_|refine q8 ?_|refine q9 ?_)
  refine d_next (fun _ => ⟨k1, rfl, hsb⟩) ?_
  refine d_pure 9 calm_ret rfl (by kernel_rfl) rfl rfl ?_
  refine d_done (by kernel_rfl) ?_
  repeat (first|refine q1 ?_|refine q2 ?_|refine q3 ?_|refine q4 ?_|refine q5 ?_|refine q6 ?_|refine w_seq ?_|refine w_region ?_|refine w_ops_nil ?_|refine w_skip ?_|refine w_block ?_|refine w_blk ?_|refine q7 ?_|refine q8 ?_|refine q9 ?_)
  exact w_retG (resCs1 hc8 rfl rfl rfl rfl rfl) hst fun h' hv' => ⟨v', _, _, rfl, hr'.view hv' (.inl rfl), hb.view hv', hfb, by omega⟩
end Go.Proofs.Ytkgbodmlmeholaa
