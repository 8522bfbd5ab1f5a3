/- Grants: the reference's Put, whole; Until. No statement of the seat is proved here. -/
import Derived.Test.YtkgbodmlmeholaaGrH
set_option linter.unusedVariables false
set_option linter.unusedSimpArgs false
namespace Go.Proofs.Ytkgbodmlmeholaa
open Go
attribute [local irreducible] Wp
/-- Room for one more, in the reference's list. -/
def mkRoomL (now : Int) (L : BkM) : BkM × Ky × Bool :=
  if (overB now L).length < L.length then (overB now L, Ky.zero, false)
  else match L with
    | [] => (L, Ky.zero, false)
    | b :: l => (L.filter fun y => decide (¬ (leastBy (·.2) b l).1 = y.1), (leastBy (·.2) b l).1, true)
def preL (room now : Int) (k : Ky) (L : BkM) : BkM × Ky × Bool :=
  if 0 ≤ findK k L then (L.filter fun y => decide (¬ k = y.1), Ky.zero, false) else if (L.length : Int) = room then mkRoomL now L else (L, Ky.zero, false)
/-- What is there when (k, t) was put into L1. -/
def InsR (k : Ky) (t : Int) (L1 L' : BkM) : Prop := ∃ n, PlaceK k L1 n ∧ L' = L1.take n ++ (k, t) :: L1.drop n
theorem mkRoomL_len (now : Int) (L : BkM) : (mkRoomL now L).1.length ≤ L.length := by
  unfold mkRoomL
  split
  · exact Nat.le_of_lt (by assumption)
  · split
    · exact Nat.le_refl _
    · exact List.length_filter_le _ _
theorem preL_len (room now : Int) (k : Ky) (L : BkM) : (preL room now k L).1.length ≤ L.length := by
  unfold preL
  split
  · exact List.length_filter_le _ _
  · split
    · exact mkRoomL_len _ _
    · exact Nat.le_refl _
theorem erase_filter (x : Ky × Int) : ∀ (L : BkM) (i : Nat), Nd L → L[i]? = some x → L.eraseIdx i = L.filter fun y => decide (¬ x.1 = y.1)
  | [], i, _, h => by simp at h
  | a :: L, 0, hn, h => by
    simp at h; subst h
    rw [List.eraseIdx_cons_zero, List.filter_cons, if_neg (by simp), List.filter_eq_self.2]
    intro y hy
    unfold Nd at hn
    simp only [List.map_cons, List.nodup_cons] at hn
    exact decide_eq_true fun e => hn.1 (by rw [e]; exact List.mem_map_of_mem hy)
  | a :: L, i + 1, hn, h => by
    have h' : L[i]? = some x := by simpa using h
    have hn' : Nd L := by unfold Nd at hn ⊢; simp only [List.map_cons, List.nodup_cons] at hn; exact hn.2
    have hne : ¬ x.1 = a.1 := fun e => by
      unfold Nd at hn
      simp only [List.map_cons, List.nodup_cons] at hn
      exact hn.1 (by rw [← e]; exact List.mem_map_of_mem (List.mem_of_getElem? h'))
    rw [List.eraseIdx_cons_succ, List.filter_cons, if_pos (by simp [hne]), erase_filter x L i hn' h']

theorem ref18_PutF (room : Int) (L : BkM) (vL : Value) (k : Ky) (t now : Int) (g : G) (hr : Rd g 0 El.gr vL L) (hL : L.length ≤ 1000) (hnd : Nd L) (hr1 : 1 ≤ room) :
    Fn Try.prog 17 [.agg #[.int .i64 room, vL], El.ky.val k, .int .i64 t, .int .i64 now] g [] fun u h => ∃ v' L' gone lt, u = .tuple #[.agg #[.int .i64 room, v'], El.ky.val gone, .bool lt] ∧ Rd h 0 El.gr v' L' ∧ (if t ≤ now then L' = L ∧ gone = Ky.zero ∧ lt = false else InsR k t (preL room now k L).1 L' ∧ gone = (preL room now k L).2.1 ∧ lt = (preL room now k L).2.2) := by
  refine enterG [] [41, 42, 43, 44, 45, 46] Try.func17 rfl Try.ntmps17 rfl (by simp) fun g1 hv ho => ?_
  replace hr := hr.view hv (.inl rfl)
  repeat (first|refine q1 ?_|refine q2 ?_|refine q3 ?_|refine q4 ?_|refine q5 ?_|refine q6 ?_|refine w_seq ?_|refine w_region ?_|refine w_ops_nil ?_|refine w_skip ?_|refine w_block ?_|refine w_blk ?_|refine q7 ?_|refine q8 ?_|refine q9 ?_)
  refine w_box 41 (vs := [.int .i64 room, vL]) rfl rfl rfl fun h1 b4 hs1 hc4 => ?_
  have hst : Step [] [41, 42, 43, 44, 45, 46] g1 h1 := hs1.nil
  replace hr := hr.go hs1
  repeat (first|refine q1 ?_|refine q2 ?_|refine q3 ?_|refine q4 ?_|refine q5 ?_|refine q6 ?_|refine w_seq ?_|refine w_region ?_|refine w_ops_nil ?_|refine w_skip ?_|refine w_block ?_|refine w_blk ?_|refine q7 ?_|refine q8 ?_|refine q9 ?_)
  refine w_box 42 (vs := El.ky.enc k) rfl rfl rfl fun h2 b5 hs2 hc5 => ?_
  replace hst := hst.go hs2; replace hc4 := hc4.go hs2; replace hr := hr.go hs2
  repeat (first|refine q1 ?_|refine q2 ?_|refine q3 ?_|refine q4 ?_|refine q5 ?_|refine q6 ?_|refine w_seq ?_|refine w_region ?_|refine w_ops_nil ?_|refine w_skip ?_|refine w_block ?_|refine w_blk ?_|refine q7 ?_|refine q8 ?_|refine q9 ?_)
  refine w_alloc 43 (vs := [.int .i64 0, .slice none 0 0]) rfl rfl fun h3 b8 hs3 hc8 => ?_
  replace hst := hst.go hs3; replace hc4 := hc4.go hs3; replace hc5 := hc5.go hs3; replace hr := hr.go hs3
  repeat (first|refine q1 ?_|refine q2 ?_|refine q3 ?_|refine q4 ?_|refine q5 ?_|refine q6 ?_|refine w_seq ?_|refine w_region ?_|refine w_ops_nil ?_|refine w_skip ?_|refine w_block ?_|refine w_blk ?_|refine q7 ?_|refine q8 ?_|refine q9 ?_)
  refine w_alloc 44 (vs := El.ky.enc Ky.zero) rfl rfl fun h4 b9 hs4 hc9 => ?_
  replace hst := hst.go hs4; replace hc4 := hc4.go hs4; replace hc5 := hc5.go hs4; replace hc8 := hc8.go hs4; replace hr := hr.go hs4
  have one : ∀ v : Value, v.oneCell' = true → ∀ u ∈ [Value.int .i64 room, v], u.oneCell' = true := by
    intro v hv u hu
    simp only [List.mem_cons, List.not_mem_nil, or_false] at hu
    rcases hu with rfl | rfl
    · rfl
    · exact hv
  clear hs1 hs2 hs3 hs4
  repeat (first|refine q1 ?_|refine q2 ?_|refine q3 ?_|refine q4 ?_|refine q5 ?_|refine q6 ?_|refine w_seq ?_|refine w_region ?_|refine w_ops_nil ?_|refine w_skip ?_|refine w_block ?_|refine w_blk ?_|refine q7 ?_|refine q8 ?_|refine q9 ?_)
  refine w_condP rfl (fun hle => ?_) (fun hle => ?_)
  · repeat (first|refine q1 ?_|refine q2 ?_|refine q3 ?_|refine q4 ?_|refine q5 ?_|refine q6 ?_|refine w_seq ?_|refine w_region ?_|refine w_ops_nil ?_|refine w_skip ?_|refine w_block ?_|refine w_blk ?_|refine q7 ?_|refine q8 ?_|refine q9 ?_)
    refine w_loadS (us := [.int .i64 room, vL]) hc4 rfl rfl rfl rfl rfl ?_
    refine w_build (vs := []) (r := El.ky.enc Ky.zero) rfl rfl rfl ?_
    refine w_store (us := [.int .i64 room, vL]) (vs' := [.int .i64 room, vL]) hc8 rfl rfl rfl rfl (one vL hr.isSl.one) (show 0 + 2 ≤ 2 by decide) rfl fun h5 hb5 hs5 hc8 => ?_
    replace hst := hst.go hs5; replace hc9 := hc9.go hs5; replace hr := hr.go hs5
    refine w_store (us := El.ky.enc Ky.zero) (vs' := El.ky.enc Ky.zero) hc9 rfl rfl rfl rfl (El.ky.flat _) (show 0 + 24 ≤ 24 by decide) rfl fun h6 hb6 hs6 hc9 => ?_
    replace hst := hst.go hs6; replace hc8 := hc8.go hs6; replace hr := hr.go hs6
    repeat (first|refine q1 ?_|refine q2 ?_|refine q3 ?_|refine q4 ?_|refine q5 ?_|refine q6 ?_|refine w_seq ?_|refine w_region ?_|refine w_ops_nil ?_|refine w_skip ?_|refine w_block ?_|refine w_blk ?_|refine q7 ?_|refine q8 ?_|refine q9 ?_)
    exact w_retG (resCC1s hc8 hc9 rfl rfl rfl rfl rfl rfl rfl rfl) hst fun h' hv' => ⟨vL, L, _, _, rfl, hr.view hv' (.inl rfl), by rw [if_pos hle]; exact ⟨rfl, rfl, rfl⟩⟩
  repeat (first|refine q1 ?_|refine q2 ?_|refine q3 ?_|refine q4 ?_|refine q5 ?_|refine q6 ?_|refine w_seq ?_|refine w_region ?_|refine w_ops_nil ?_|refine w_skip ?_|refine w_block ?_|refine w_blk ?_|refine q7 ?_|refine q8 ?_|refine q9 ?_)
  refine w_alloc 46 (vs := El.ky.enc Ky.zero) rfl rfl fun h5 b11 hs5 hc11 => ?_
  replace hst := hst.go hs5; replace hc4 := hc4.go hs5; replace hc5 := hc5.go hs5; replace hc8 := hc8.go hs5; replace hc9 := hc9.go hs5; replace hr := hr.go hs5
  clear hs5
  repeat (first|refine q1 ?_|refine q2 ?_|refine q3 ?_|refine q4 ?_|refine q5 ?_|refine q6 ?_|refine w_seq ?_|refine w_region ?_|refine w_ops_nil ?_|refine w_skip ?_|refine w_block ?_|refine w_blk ?_|refine q7 ?_|refine q8 ?_|refine q9 ?_)
  refine w_loadS (us := [.int .i64 room, vL]) hc4 rfl rfl rfl rfl rfl ?_
  refine w_loadS (us := El.ky.enc k) hc5 rfl rfl rfl rfl rfl ?_
  refine w_callF rfl (ref18_Find room L vL k h5 hr) rfl fun u h6 hs6 hu => ?_
  subst hu
  replace hst := hst.go hs6; replace hc4 := hc4.go hs6; replace hc5 := hc5.go hs6; replace hc8 := hc8.go hs6; replace hc9 := hc9.go hs6; replace hc11 := hc11.go hs6; replace hr := hr.go hs6
  clear hs6
  have hwl := preL_len room now k L
  obtain ⟨r, hpre⟩ : ∃ r, preL room now k L = r := ⟨_, rfl⟩
  rw [hpre] at hwl ⊢
  repeat (first|refine q1 ?_|refine q2 ?_|refine q3 ?_|refine q4 ?_|refine q5 ?_|refine q6 ?_|refine w_seq ?_|refine w_region ?_|refine w_ops_nil ?_|refine w_skip ?_|refine w_block ?_|refine w_blk ?_|refine q7 ?_|refine q8 ?_|refine q9 ?_)
  refine w_cut (ι := Unit) (fun _ => [(2, .int .i64 t), (4, .pointer (some ⟨b4, 0, none⟩)), (5, .pointer (some ⟨b5, 0, none⟩)), (8, .pointer (some ⟨b8, 0, none⟩)), (9, .pointer (some ⟨b9, 0, none⟩)), (11, .pointer (some ⟨b11, 0, none⟩)), (12, .bool r.2.2)])
    (fun _ w => ∃ h v1, h.w = w ∧ Step [] [41, 45, 46] h6 h ∧ Cell h 41 b4 44 [.int .i64 room, v1] ∧ Rd h 0 El.gr v1 r.1 ∧ Cell h 46 b11 28 (El.ky.enc r.2.1)) ?_ ?_
  · refine w_condP rfl (fun hf => ?_) (fun hf => ?_)
    · have hlt := findK_lt k L
      have er : r = (L.filter fun y => decide (¬ k = y.1), Ky.zero, false) := by rw [← hpre]; unfold preL; rw [if_pos hf]
      repeat (first|refine q1 ?_|refine q2 ?_|refine q3 ?_|refine q4 ?_|refine q5 ?_|refine q6 ?_|refine w_seq ?_|refine w_region ?_|refine w_ops_nil ?_|refine w_skip ?_|refine w_block ?_|refine w_blk ?_|refine q7 ?_|refine q8 ?_|refine q9 ?_)
      refine w_fldA (by decide) rfl rfl ?_
      refine w_load1 (v := vL) hc4 rfl rfl rfl rfl ?_
      repeat (first|refine q1 ?_|refine q2 ?_|refine q3 ?_|refine q4 ?_|refine q5 ?_|refine q6 ?_|refine w_seq ?_|refine w_region ?_|refine w_ops_nil ?_|refine w_skip ?_|refine w_block ?_|refine w_blk ?_|refine q7 ?_|refine q8 ?_|refine q9 ?_)
      obtain ⟨i, hi⟩ := Int.eq_ofNat_of_zero_le hf
      rw [hi]
      refine w_callF rfl (ref18_cut L vL i h6 hr (by omega) (by omega)) rfl fun v1 h7 hs7 hr7 => ?_
      replace hc4 := hc4.go hs7
      replace hc11 := hc11.go hs7
      repeat (first|refine q1 ?_|refine q2 ?_|refine q3 ?_|refine q4 ?_|refine q5 ?_|refine q6 ?_|refine w_seq ?_|refine w_region ?_|refine w_ops_nil ?_|refine w_skip ?_|refine w_block ?_|refine w_blk ?_|refine q7 ?_|refine q8 ?_|refine q9 ?_)
      refine w_fldA (by decide) rfl rfl ?_
      refine w_store1 hc4 rfl rfl hr7.isSl.one (show 1 < 2 by decide) fun h8 hb8 hs8 hc4 => ?_
      replace hc11 := hc11.go hs8
      repeat (first|refine q1 ?_|refine q2 ?_|refine q3 ?_|refine q4 ?_|refine q5 ?_|refine q6 ?_|refine w_seq ?_|refine w_region ?_|refine w_ops_nil ?_|refine w_skip ?_|refine w_block ?_|refine w_blk ?_|refine q7 ?_|refine q8 ?_|refine q9 ?_)
      refine w_meet () ⟨h8, v1, rfl, hs7.nil.trans (hs8.mono (by simp) (by simp)), hc4, ?_, by rw [er]; exact hc11⟩ ⟨rfl, rfl, rfl, rfl, rfl, rfl, by rw [er]; rfl, trivial⟩
      have e : r.1 = L.eraseIdx i := by
        rw [er]; dsimp only
        rw [← without_perm k L hnd, without, if_neg (by omega), hi]; rfl
      rw [e]
      exact hr7.go hs8
    · repeat (first|refine q1 ?_|refine q2 ?_|refine q3 ?_|refine q4 ?_|refine q5 ?_|refine q6 ?_|refine w_seq ?_|refine w_region ?_|refine w_ops_nil ?_|refine w_skip ?_|refine w_block ?_|refine w_blk ?_|refine q7 ?_|refine q8 ?_|refine q9 ?_)
      refine w_fldA (by decide) rfl rfl ?_
      refine w_load1 (v := vL) hc4 rfl rfl rfl rfl ?_
      refine w_lenSl hr.isSl rfl rfl ?_
      refine w_fldA (by decide) rfl rfl ?_
      refine w_load1 (v := .int .i64 room) hc4 rfl rfl rfl rfl ?_
      repeat (first|refine q1 ?_|refine q2 ?_|refine q3 ?_|refine q4 ?_|refine q5 ?_|refine q6 ?_|refine w_seq ?_|refine w_region ?_|refine w_ops_nil ?_|refine w_skip ?_|refine w_block ?_|refine w_blk ?_|refine q7 ?_|refine q8 ?_|refine q9 ?_)
      refine w_condP rfl (fun hx => ?_) (fun hx => ?_)
      · obtain ⟨b, l, rfl⟩ : ∃ b l, L = b :: l := by
          cases L with
          | nil => simp only [List.length_nil] at hx; omega
          | cons b l => exact ⟨b, l, rfl⟩
        have er : r = mkRoomL now (b :: l) := by rw [← hpre]; unfold preL; rw [if_neg hf, if_pos hx]
        generalize hLL : b :: l = L at hr hL hnd hx er hpre hf hwl
        have hFeq : ∀ m : BkM, (m.filter fun x => decide (now < x.2)) = overB now m := fun m => by
          unfold overB
          refine List.filter_congr fun x _ => ?_
          by_cases h : x.2 ≤ now
          · simp [h]
          · simp [h]; omega
        have hFl : ∀ m : BkM, (overB now m).length ≤ m.length := fun m => List.length_filter_le _ _
        have hLl : l.length + 1 = L.length := by rw [← hLL]; rfl
        have hc4' := hc4
        have hr' := hr
        repeat (first|refine q1 ?_|refine q2 ?_|refine q3 ?_|refine q4 ?_|refine q5 ?_|refine q6 ?_|refine w_seq ?_|refine w_region ?_|refine w_ops_nil ?_|refine w_skip ?_|refine w_blk ?_|refine q7 ?_|refine q8 ?_|refine q9 ?_)
        refine w_cut (ι := Value × Nat) (fun x => [(2, .int .i64 t), (4, .pointer (some ⟨b4, 0, none⟩)), (5, .pointer (some ⟨b5, 0, none⟩)), (8, .pointer (some ⟨b8, 0, none⟩)), (9, .pointer (some ⟨b9, 0, none⟩)), (11, .pointer (some ⟨b11, 0, none⟩)), (12, .bool false), (14, x.1), (15, .int .i64 (x.2 : Int))])
          (fun x w => ∃ h : G, h.w = w ∧ Step [] [45] h6 h ∧ Own h 45 El.gr 48 x.1 (overB now L) ∧ L[x.2]? = some (leastBy (·.2) b l)) ?_ ?_
        · repeat (first|refine q1 ?_|refine q2 ?_|refine q3 ?_|refine q4 ?_|refine q5 ?_|refine q6 ?_|refine w_seq ?_|refine w_region ?_|refine w_ops_nil ?_|refine w_skip ?_|refine w_block ?_|refine w_blk ?_|refine q7 ?_|refine q8 ?_|refine q9 ?_)
          refine w_loop (ι := Value × Nat × Nat) (fun x => [(2, .int .i64 t), (3, .int .i64 now), (4, .pointer (some ⟨b4, 0, none⟩)), (5, .pointer (some ⟨b5, 0, none⟩)), (8, .pointer (some ⟨b8, 0, none⟩)), (9, .pointer (some ⟨b9, 0, none⟩)), (11, .pointer (some ⟨b11, 0, none⟩)), (12, .bool false), (14, x.1), (15, .int .i64 (x.2.1 : Int)), (16, .int .i64 (x.2.2 : Int))])
            (fun x w => ∃ h : G, h.w = w ∧ Step [] [45] h6 h ∧ Own h 45 El.gr 48 x.1 (overB now (L.take x.2.2)) ∧ L[x.2.1]? = some (leastBy (·.2) b (L.take x.2.2)) ∧ x.2.2 ≤ L.length) (fun x => L.length - x.2.2)
            (.slice none 0 0, 0, 0) ⟨h6, rfl, Step.refl _ _ _, Own.nil _ _ _ _, by rw [← hLL]; rfl, by dsimp only; omega⟩ ⟨rfl, rfl, rfl, rfl, rfl, rfl, rfl, rfl, rfl, rfl, rfl, trivial⟩ ?_
          rintro ⟨vO, be, i⟩ _ ⟨h, rfl, hst2, hown, hbe, hi⟩
          dsimp only at hst2 hown hbe hi ⊢
          replace hc4 := hc4.go hst2; replace hr := hr.go hst2
          have hFi := hFl (L.take i)
          rw [List.length_take] at hFi
          obtain ⟨hbl, hbe'⟩ := List.getElem?_eq_some_iff.1 hbe
          repeat (first|refine q1 ?_|refine q2 ?_|refine q3 ?_|refine q4 ?_|refine q5 ?_|refine q6 ?_|refine w_seq ?_|refine w_region ?_|refine w_ops_nil ?_|refine w_skip ?_|refine w_block ?_|refine w_blk ?_|refine q7 ?_|refine q8 ?_|refine q9 ?_)
          refine w_fldA (by decide) rfl rfl ?_
          refine w_load1 (v := vL) hc4 rfl rfl rfl rfl ?_
          refine w_lenSl hr.isSl rfl rfl ?_
          repeat (first|refine q1 ?_|refine q2 ?_|refine q3 ?_|refine q4 ?_|refine q5 ?_|refine q6 ?_|refine w_seq ?_|refine w_region ?_|refine w_ops_nil ?_|refine w_skip ?_|refine w_block ?_|refine w_blk ?_|refine q7 ?_|refine q8 ?_|refine q9 ?_)
          refine w_condP rfl (fun hlt => ?_) (fun hlt => ?_)
          · have hlt : i < L.length := by omega
            have htk : L.take (i + 1) = L.take i ++ [L[i]] := List.take_succ_eq_append_getElem hlt
            have hleast : leastBy (·.2) b (L.take (i + 1)) = if L[i].2 < (leastBy (·.2) b (L.take i)).2 then L[i] else leastBy (·.2) b (L.take i) := by rw [htk, leastBy_append]; rfl
            have hover : overB now (L.take (i + 1)) = overB now (L.take i) ++ overB now [L[i]] := by rw [htk]; unfold overB; rw [List.filter_append]
            repeat (first|refine q1 ?_|refine q2 ?_|refine q3 ?_|refine q4 ?_|refine q5 ?_|refine q6 ?_|refine w_seq ?_|refine w_region ?_|refine w_ops_nil ?_|refine w_skip ?_|refine w_block ?_|refine w_blk ?_|refine q7 ?_|refine q8 ?_|refine q9 ?_)
            refine w_fldA (by decide) rfl rfl ?_
            refine w_load1 (v := vL) hc4 rfl rfl rfl rfl ?_
            repeat (first|refine q1 ?_|refine q2 ?_|refine q3 ?_|refine q4 ?_|refine q5 ?_|refine q6 ?_|refine w_seq ?_|refine w_region ?_|refine w_ops_nil ?_|refine w_skip ?_|refine w_block ?_|refine w_blk ?_|refine q7 ?_|refine q8 ?_|refine q9 ?_)
            refine w_idx hr rfl rfl (by omega) (by omega) rfl ?_
            refine w_fldE (hr.base hlt) (by decide) rfl rfl ?_
            refine w_loadEF (i := i) (off := 24) (y := L[i]) (u := .int .i64 L[i].2) hr rfl (by simp [hlt]) rfl rfl rfl ?_
            repeat (first|refine q1 ?_|refine q2 ?_|refine q3 ?_|refine q4 ?_|refine q5 ?_|refine q6 ?_|refine w_seq ?_|refine w_region ?_|refine w_ops_nil ?_|refine w_skip ?_|refine w_block ?_|refine w_blk ?_|refine q7 ?_|refine q8 ?_|refine q9 ?_)
            refine w_cut (ι := Value) (fun v => [(2, .int .i64 t), (3, .int .i64 now), (4, .pointer (some ⟨b4, 0, none⟩)), (5, .pointer (some ⟨b5, 0, none⟩)), (8, .pointer (some ⟨b8, 0, none⟩)), (9, .pointer (some ⟨b9, 0, none⟩)), (11, .pointer (some ⟨b11, 0, none⟩)), (12, .bool false), (14, v), (15, .int .i64 (be : Int)), (16, .int .i64 (i : Int))])
              (fun v w => ∃ k : G, k.w = w ∧ Step [] [45] h6 k ∧ Own k 45 El.gr 48 v (overB now (L.take (i + 1)))) ?_ ?_
            · refine w_condP rfl (fun hx => ?_) (fun hx => ?_)
              · repeat (first|refine q1 ?_|refine q2 ?_|refine q3 ?_|refine q4 ?_|refine q5 ?_|refine q6 ?_|refine w_seq ?_|refine w_region ?_|refine w_ops_nil ?_|refine w_skip ?_|refine w_block ?_|refine w_blk ?_|refine q7 ?_|refine q8 ?_|refine q9 ?_)
                refine w_fldA (by decide) rfl rfl ?_
                refine w_load1 (v := vL) hc4 rfl rfl rfl rfl ?_
                repeat (first|refine q1 ?_|refine q2 ?_|refine q3 ?_|refine q4 ?_|refine q5 ?_|refine q6 ?_|refine w_seq ?_|refine w_region ?_|refine w_ops_nil ?_|refine w_skip ?_|refine w_block ?_|refine w_blk ?_|refine q7 ?_|refine q8 ?_|refine q9 ?_)
                refine w_idx hr rfl rfl (by omega) (by omega) rfl ?_
                refine w_loadE (i := i) (y := L[i]) hr rfl (by simp [hlt]) rfl rfl ?_
                refine w_buildSlR El.gr [L[i]] rfl rfl rfl rfl fun h4 v4 hs4 hr4 => ?_
                refine w_append (hown.go hs4) hr4 rfl rfl rfl (by decide) (by simp only [List.length_cons, List.length_nil]; omega) rfl fun h5 v5 hs5 ho5 => ?_
                repeat (first|refine q1 ?_|refine q2 ?_|refine q3 ?_|refine q4 ?_|refine q5 ?_|refine q6 ?_|refine w_seq ?_|refine w_region ?_|refine w_ops_nil ?_|refine w_skip ?_|refine w_block ?_|refine w_blk ?_|refine q7 ?_|refine q8 ?_|refine q9 ?_)
                refine w_meet v5 ⟨h5, rfl, (hst2.go hs4).go hs5, ?_⟩ ⟨rfl, rfl, rfl, rfl, rfl, rfl, rfl, rfl, rfl, rfl, rfl, trivial⟩
                rw [hover, ← hFeq [L[i]], show ([L[i]].filter fun x => decide (now < x.2)) = [L[i]] from by simp [hx]]
                exact ho5
              · repeat (first|refine q1 ?_|refine q2 ?_|refine q3 ?_|refine q4 ?_|refine q5 ?_|refine q6 ?_|refine w_seq ?_|refine w_region ?_|refine w_ops_nil ?_|refine w_skip ?_|refine w_block ?_|refine w_blk ?_|refine q7 ?_|refine q8 ?_|refine q9 ?_)
                refine w_meet vO ⟨h, rfl, hst2, ?_⟩ ⟨rfl, rfl, rfl, rfl, rfl, rfl, rfl, rfl, rfl, rfl, rfl, trivial⟩
                rw [hover, ← hFeq [L[i]], show ([L[i]].filter fun x => decide (now < x.2)) = [] from by simp [hx], List.append_nil]
                exact hown
            clear hown hc4 hr
            rintro v14 _ ⟨h, rfl, hst2, hown⟩
            have hc4 := hc4'.go hst2
            have hr := hr'.go hst2
            repeat (first|refine q1 ?_|refine q2 ?_|refine q3 ?_|refine q4 ?_|refine q5 ?_|refine q6 ?_|refine w_seq ?_|refine w_region ?_|refine w_ops_nil ?_|refine w_skip ?_|refine w_blk ?_|refine q7 ?_|refine q8 ?_|refine q9 ?_)
            refine d_begin none [] (by kernel_rfl) fun g2 hsd => ?_
            replace hst2 := hst2.go hsd; replace hown := hown.go hsd; replace hc4 := hc4.go hsd; replace hr := hr.go hsd
            refine d_read 0 calm_ret rfl (by kernel_rfl) rfl  (fun h hs => r_fldA (by decide) rfl) ?_
            refine d_read 1 calm_ret rfl (by kernel_rfl) rfl  (fun h hs => r_load1 (v := vL) (hc4.go hs) rfl rfl rfl) ?_
            refine d_pure 2 calm_ret rfl (by kernel_rfl) rfl rfl ?_
            refine d_read 3 calm_ret rfl (by kernel_rfl) rfl  (fun h hs => r_idx (hr.go hs) rfl rfl (by omega) (by omega)) ?_
            refine d_read 4 calm_ret rfl (by kernel_rfl) rfl  (fun h hs => r_fldE (hr.base hlt) (by decide) rfl) ?_
            refine d_read 5 calm_ret rfl (by kernel_rfl) rfl  (fun h hs => r_loadEF (i := i) (off := 24) (y := L[i]) (u := .int .i64 L[i].2) (hr.go hs) rfl (by simp [hlt]) rfl rfl) ?_
            refine d_read 6 calm_ret rfl (by kernel_rfl) rfl  (fun h hs => r_fldA (by decide) rfl) ?_
            refine d_read 7 calm_ret rfl (by kernel_rfl) rfl  (fun h hs => r_load1 (v := vL) (hc4.go hs) rfl rfl rfl) ?_
            refine d_pure 8 calm_ret rfl (by kernel_rfl) rfl rfl ?_
            refine d_read 9 calm_ret rfl (by kernel_rfl) rfl  (fun h hs => r_idx (hr.go hs) rfl rfl (by omega) (by omega)) ?_
            refine d_read 10 calm_ret rfl (by kernel_rfl) rfl  (fun h hs => r_fldE (hr.base hlt) (by decide) rfl) ?_
            refine d_read 11 calm_ret rfl (by kernel_rfl) rfl  (fun h hs => r_loadEF (i := be) (off := 24) (y := leastBy (·.2) b (L.take i)) (u := .int .i64 (leastBy (·.2) b (L.take i)).2) (hr.go hs) rfl hbe rfl rfl) ?_
            refine d_pure 12 calm_ret rfl (by kernel_rfl) rfl rfl ?_
            refine d_done (by kernel_rfl) ?_
            repeat (first|refine q1 ?_|refine q2 ?_|refine q3 ?_|refine q4 ?_|refine q5 ?_|refine q6 ?_|refine w_seq ?_|refine w_region ?_|refine w_ops_nil ?_|refine w_skip ?_|refine w_block ?_|refine w_blk ?_|refine q7 ?_|refine q8 ?_|refine q9 ?_)
            refine w_condP rfl (fun hx => ?_) (fun hx => ?_)
            · rw [if_pos hx] at hleast
              repeat (first|refine q1 ?_|refine q2 ?_|refine q3 ?_|refine q4 ?_|refine q5 ?_|refine q6 ?_|refine w_seq ?_|refine w_region ?_|refine w_ops_nil ?_|refine w_skip ?_|refine w_block ?_|refine w_blk ?_|refine q7 ?_|refine q8 ?_|refine q9 ?_)
              exact w_again (v14, i, i + 1) (by dsimp only; omega) ⟨g2, rfl, hst2, hown, by dsimp only; rw [hleast]; simp [hlt], by dsimp only; omega⟩ ⟨rfl, rfl, rfl, rfl, rfl, rfl, rfl, rfl, rfl, rfl, rfl, trivial⟩
            · rw [if_neg hx] at hleast
              repeat (first|refine q1 ?_|refine q2 ?_|refine q3 ?_|refine q4 ?_|refine q5 ?_|refine q6 ?_|refine w_seq ?_|refine w_region ?_|refine w_ops_nil ?_|refine w_skip ?_|refine w_block ?_|refine w_blk ?_|refine q7 ?_|refine q8 ?_|refine q9 ?_)
              exact w_again (v14, be, i + 1) (by dsimp only; omega) ⟨g2, rfl, hst2, hown, by dsimp only; rw [hleast]; exact hbe, by dsimp only; omega⟩ ⟨rfl, rfl, rfl, rfl, rfl, rfl, rfl, rfl, rfl, rfl, rfl, trivial⟩
          · have e : i = L.length := by omega
            subst e
            rw [List.take_length] at hown hbe
            repeat (first|refine q1 ?_|refine q2 ?_|refine q3 ?_|refine q4 ?_|refine q5 ?_|refine q6 ?_|refine w_seq ?_|refine w_region ?_|refine w_ops_nil ?_|refine w_skip ?_|refine w_block ?_|refine w_blk ?_|refine q7 ?_|refine q8 ?_|refine q9 ?_)
            exact w_meet (vO, be) ⟨h, rfl, hst2, hown, by rw [hbe, ← hLL, leastBy, if_neg (by omega)]⟩ ⟨rfl, rfl, rfl, rfl, rfl, rfl, rfl, rfl, rfl, trivial⟩
        rintro ⟨vO, be⟩ _ ⟨h, rfl, hst2, hown, hbe⟩
        dsimp only at hst2 hown hbe ⊢
        replace hc4 := hc4.go hst2; replace hr := hr.go hst2; replace hc11 := hc11.go hst2
        have hFL := hFl L
        obtain ⟨hbl, hbe'⟩ := List.getElem?_eq_some_iff.1 hbe
        repeat (first|refine q1 ?_|refine q2 ?_|refine q3 ?_|refine q4 ?_|refine q5 ?_|refine q6 ?_|refine w_seq ?_|refine w_region ?_|refine w_ops_nil ?_|refine w_skip ?_|refine w_block ?_|refine w_blk ?_|refine q7 ?_|refine q8 ?_|refine q9 ?_)
        refine w_lenSl hown.isSl rfl rfl ?_
        refine w_fldA (by decide) rfl rfl ?_
        refine w_load1 (v := .int .i64 room) hc4 rfl rfl rfl rfl ?_
        repeat (first|refine q1 ?_|refine q2 ?_|refine q3 ?_|refine q4 ?_|refine q5 ?_|refine q6 ?_|refine w_seq ?_|refine w_region ?_|refine w_ops_nil ?_|refine w_skip ?_|refine w_block ?_|refine w_blk ?_|refine q7 ?_|refine q8 ?_|refine q9 ?_)
        refine w_condP rfl (fun hy => ?_) (fun hy => ?_)
        · have er2 : r = (L.filter fun y => decide (¬ (leastBy (·.2) b l).1 = y.1), (leastBy (·.2) b l).1, true) := by
            rw [er]; unfold mkRoomL; rw [if_neg (by omega), ← hLL]
          generalize hlst : leastBy (·.2) b l = x at er2 hbe hbe'
          repeat (first|refine q1 ?_|refine q2 ?_|refine q3 ?_|refine q4 ?_|refine q5 ?_|refine q6 ?_|refine w_seq ?_|refine w_region ?_|refine w_ops_nil ?_|refine w_skip ?_|refine w_block ?_|refine w_blk ?_|refine q7 ?_|refine q8 ?_|refine q9 ?_)
          refine w_fldA (by decide) rfl rfl ?_
          refine w_load1 (v := vL) hc4 rfl rfl rfl rfl ?_
          repeat (first|refine q1 ?_|refine q2 ?_|refine q3 ?_|refine q4 ?_|refine q5 ?_|refine q6 ?_|refine w_seq ?_|refine w_region ?_|refine w_ops_nil ?_|refine w_skip ?_|refine w_block ?_|refine w_blk ?_|refine q7 ?_|refine q8 ?_|refine q9 ?_)
          refine w_idx hr rfl rfl (by omega) (by omega) rfl ?_
          refine w_fldE (hr.base hbl) (by decide) rfl rfl ?_
          refine w_loadES (i := be) (off := 0) (y := x) (us := El.ky.enc x.1) hr rfl hbe rfl rfl rfl rfl ?_
          refine w_store (us := El.ky.enc x.1) (vs' := El.ky.enc x.1) hc11 rfl rfl rfl rfl (El.ky.flat _) (show 0 + 24 ≤ 24 by decide) rfl fun h7 hb7 hs7 hc11 => ?_
          replace hc4 := hc4.go hs7; replace hr := hr.go hs7
          repeat (first|refine q1 ?_|refine q2 ?_|refine q3 ?_|refine q4 ?_|refine q5 ?_|refine q6 ?_|refine w_seq ?_|refine w_region ?_|refine w_ops_nil ?_|refine w_skip ?_|refine w_block ?_|refine w_blk ?_|refine q7 ?_|refine q8 ?_|refine q9 ?_)
          refine w_fldA (by decide) rfl rfl ?_
          refine w_load1 (v := vL) hc4 rfl rfl rfl rfl ?_
          repeat (first|refine q1 ?_|refine q2 ?_|refine q3 ?_|refine q4 ?_|refine q5 ?_|refine q6 ?_|refine w_seq ?_|refine w_region ?_|refine w_ops_nil ?_|refine w_skip ?_|refine w_block ?_|refine w_blk ?_|refine q7 ?_|refine q8 ?_|refine q9 ?_)
          refine w_callF rfl (ref18_cut L vL be h7 hr hbl (by omega)) rfl fun v1 h8 hs8 hr8 => ?_
          replace hc4 := hc4.go hs8; replace hc11 := hc11.go hs8
          repeat (first|refine q1 ?_|refine q2 ?_|refine q3 ?_|refine q4 ?_|refine q5 ?_|refine q6 ?_|refine w_seq ?_|refine w_region ?_|refine w_ops_nil ?_|refine w_skip ?_|refine w_block ?_|refine w_blk ?_|refine q7 ?_|refine q8 ?_|refine q9 ?_)
          refine w_fldA (by decide) rfl rfl ?_
          refine w_store1 hc4 rfl rfl hr8.isSl.one (show 1 < 2 by decide) fun h9 hb9 hs9 hc4 => ?_
          replace hc11 := hc11.go hs9
          repeat (first|refine q1 ?_|refine q2 ?_|refine q3 ?_|refine q4 ?_|refine q5 ?_|refine q6 ?_|refine w_seq ?_|refine w_region ?_|refine w_ops_nil ?_|refine w_skip ?_|refine w_block ?_|refine w_blk ?_|refine q7 ?_|refine q8 ?_|refine q9 ?_)
          refine w_meet () ⟨h9, v1, rfl, (hst2.mono (by simp) (by simp)).trans ((hs7.mono (by simp) (by simp)).trans ((hs8.mono (by simp) (by simp)).trans (hs9.mono (by simp) (by simp)))), hc4, ?_, by rw [er2]; exact hc11⟩ ⟨rfl, rfl, rfl, rfl, rfl, rfl, by rw [er2]; rfl, trivial⟩
          rw [er2]
          dsimp only
          rw [← erase_filter x L be hnd hbe]
          exact hr8.go hs9
        · have er2 : r = (overB now L, Ky.zero, false) := by
            rw [er]; unfold mkRoomL; rw [if_pos (by omega)]
          repeat (first|refine q1 ?_|refine q2 ?_|refine q3 ?_|refine q4 ?_|refine q5 ?_|refine q6 ?_|refine w_seq ?_|refine w_region ?_|refine w_ops_nil ?_|refine w_skip ?_|refine w_block ?_|refine w_blk ?_|refine q7 ?_|refine q8 ?_|refine q9 ?_)
          obtain ⟨h7, hw7, hs7, hr7⟩ := hown.freeze (by decide)
          rw [← hw7]
          replace hc4 := hc4.go hs7; replace hc11 := hc11.go hs7
          refine w_fldA (by decide) rfl rfl ?_
          refine w_store1 hc4 rfl rfl hr7.isSl.one (show 1 < 2 by decide) fun h9 hb9 hs9 hc4 => ?_
          replace hc11 := hc11.go hs9
          repeat (first|refine q1 ?_|refine q2 ?_|refine q3 ?_|refine q4 ?_|refine q5 ?_|refine q6 ?_|refine w_seq ?_|refine w_region ?_|refine w_ops_nil ?_|refine w_skip ?_|refine w_block ?_|refine w_blk ?_|refine q7 ?_|refine q8 ?_|refine q9 ?_)
          refine w_meet () ⟨h9, vO, rfl, (hst2.mono (by simp) (by simp)).trans ((hs7.mono (by simp) (by simp)).trans (hs9.mono (by simp) (by simp))), hc4, by rw [er2]; exact hr7.go hs9, by rw [er2]; exact hc11⟩ ⟨rfl, rfl, rfl, rfl, rfl, rfl, by rw [er2]; rfl, trivial⟩
      · have er : r = (L, Ky.zero, false) := by rw [← hpre]; unfold preL; rw [if_neg hf, if_neg hx]
        repeat (first|refine q1 ?_|refine q2 ?_|refine q3 ?_|refine q4 ?_|refine q5 ?_|refine q6 ?_|refine w_seq ?_|refine w_region ?_|refine w_ops_nil ?_|refine w_skip ?_|refine w_block ?_|refine w_blk ?_|refine q7 ?_|refine q8 ?_|refine q9 ?_)
        exact w_meet () ⟨h6, vL, rfl, Step.refl _ _ _, hc4, by rw [er]; exact hr, by rw [er]; exact hc11⟩ ⟨rfl, rfl, rfl, rfl, rfl, rfl, by rw [er]; rfl, trivial⟩
  clear hr hc4 hc11
  rintro _ _ ⟨h, v1, rfl, hs0, hc4, hr, hc11⟩
  replace hst := hst.go hs0; replace hc5 := hc5.go hs0; replace hc8 := hc8.go hs0; replace hc9 := hc9.go hs0
  clear hs0
  generalize hL1 : r.1 = L1 at hr hwl ⊢
  have hlm : L1.length ≤ 1000 := by omega
  repeat (first|refine q1 ?_|refine q2 ?_|refine q3 ?_|refine q4 ?_|refine q5 ?_|refine q6 ?_|refine w_seq ?_|refine w_region ?_|refine w_ops_nil ?_|refine w_skip ?_|refine w_block ?_|refine w_blk ?_|refine q7 ?_|refine q8 ?_|refine q9 ?_)
  refine w_fldA (by decide) rfl rfl ?_
  refine w_load1 (v := v1) hc4 rfl rfl rfl rfl ?_
  refine w_lenSl hr.isSl rfl rfl ?_
  repeat (first|refine q1 ?_|refine q2 ?_|refine q3 ?_|refine q4 ?_|refine q5 ?_|refine q6 ?_|refine w_seq ?_|refine w_region ?_|refine w_ops_nil ?_|refine w_skip ?_|refine w_blk ?_|refine q7 ?_|refine q8 ?_|refine q9 ?_)
  refine w_cut (ι := Nat) (fun n => [(2, .int .i64 t), (4, .pointer (some ⟨b4, 0, none⟩)), (5, .pointer (some ⟨b5, 0, none⟩)), (8, .pointer (some ⟨b8, 0, none⟩)), (9, .pointer (some ⟨b9, 0, none⟩)), (11, .pointer (some ⟨b11, 0, none⟩)), (12, .bool r.2.2), (17, .int .i64 (n : Int))])
    (fun n w => ∃ h2 : G, h2.w = w ∧ Step [] [] h h2 ∧ PlaceK k L1 n) ?_ ?_
  · repeat (first|refine q1 ?_|refine q2 ?_|refine q3 ?_|refine q4 ?_|refine q5 ?_|refine q6 ?_|refine w_seq ?_|refine w_region ?_|refine w_ops_nil ?_|refine w_skip ?_|refine w_block ?_|refine w_blk ?_|refine q7 ?_|refine q8 ?_|refine q9 ?_)
    refine w_loop (ι := Nat) (fun n => [(2, .int .i64 t), (4, .pointer (some ⟨b4, 0, none⟩)), (5, .pointer (some ⟨b5, 0, none⟩)), (8, .pointer (some ⟨b8, 0, none⟩)), (9, .pointer (some ⟨b9, 0, none⟩)), (11, .pointer (some ⟨b11, 0, none⟩)), (12, .bool r.2.2), (17, .int .i64 (n : Int))])
      (fun n w => ∃ h2 : G, h2.w = w ∧ Step [] [] h h2 ∧ n ≤ L1.length ∧ ∀ j x, n ≤ j → L1[j]? = some x → cmpK k x.1 < 0) (fun n => n) L1.length ⟨h, rfl, Step.refl _ _ _, Nat.le_refl _, fun j x hj hx => by
        have := (List.getElem?_eq_some_iff.1 hx).1; omega⟩ ⟨rfl, rfl, rfl, rfl, rfl, rfl, rfl, rfl, trivial⟩ ?_
    rintro n _ ⟨h2, rfl, hst2, hn, hall⟩
    replace hc4 := hc4.go hst2; replace hc5 := hc5.go hst2; replace hr := hr.go hst2
    repeat (first|refine q1 ?_|refine q2 ?_|refine q3 ?_|refine q4 ?_|refine q5 ?_|refine q6 ?_|refine w_seq ?_|refine w_region ?_|refine w_ops_nil ?_|refine w_skip ?_|refine w_block ?_|refine w_blk ?_|refine q7 ?_|refine q8 ?_|refine q9 ?_)
    refine d_begin none [] (by kernel_rfl) fun g2 hsd => ?_
    replace hc4 := hc4.go hsd; replace hc5 := hc5.go hsd; replace hr := hr.go hsd; replace hst2 := hst2.go hsd
    refine d_pure 0 calm_ret rfl (by kernel_rfl) rfl rfl ?_; refine d_pure 1 calm_ret rfl (by kernel_rfl) rfl rfl ?_; refine d_pure 2 calm_ret rfl (by kernel_rfl) rfl rfl ?_
    refine d_splitP 99 rfl (fun hp => ?_) (fun hp => ?_)
    · have hlt : n - 1 < L1.length := by omega
      have hy1 : L1[((n : Int) - 1).toNat]? = some L1[n - 1] := by rw [show ((n : Int) - 1).toNat = n - 1 by omega]; simp [hlt]
      refine d_readG 3 calm_ret rfl rfl rfl (by kernel_rfl) rfl  (fun h hs => r_load (us := El.ky.enc k) (hc5.go hs) rfl rfl rfl (fun e => by cases e)) ?_
      refine d_readG 4 calm_ret rfl rfl rfl (by kernel_rfl) rfl  (fun h hs => r_fldA (by decide) rfl) ?_
      refine d_readG 5 calm_ret rfl rfl rfl (by kernel_rfl) rfl  (fun h hs => r_load1 (v := v1) (hc4.go hs) rfl rfl rfl) ?_
      refine d_guard_pure 6 calm_ret rfl rfl rfl (by kernel_rfl) rfl rfl ?_
      refine d_readG 7 calm_ret rfl rfl rfl (by kernel_rfl) rfl  (fun h hs => r_sub rfl rfl (by omega)) ?_
      refine d_readG 8 calm_ret rfl rfl rfl (by kernel_rfl) rfl  (fun h hs => r_idx (hr.go hs) rfl rfl (by omega) (by omega)) ?_
      refine d_readG 9 calm_ret rfl rfl rfl (by kernel_rfl) rfl  (fun h hs => r_fldE (hr.base hlt) (by decide) rfl) ?_
      refine d_readG 10 calm_ret rfl rfl rfl (by kernel_rfl) rfl  (fun h hs => r_loadES (i := ((n : Int) - 1).toNat) (off := 0) (y := L1[n - 1]) (us := El.ky.enc L1[n - 1].1) (hr.go hs) rfl hy1 rfl rfl rfl) ?_
      refine d_exec1 11 (by kernel_rfl) rfl ?_
      refine w_guard_yes' rfl rfl rfl rfl ?_
      refine w_callF rfl (ref18_Compare k L1[n - 1].1 g2) rfl fun u k1 ks1 hu => ?_
      subst hu
      repeat (first|refine q1 ?_|refine q2 ?_|refine q3 ?_|refine q4 ?_|refine q5 ?_|refine q6 ?_|refine w_seq ?_|refine w_region ?_|refine w_ops_nil ?_|refine w_skip ?_|refine w_block ?_|refine w_blk ?_|refine q7 ?_|refine q8 ?_|refine q9 ?_)
      refine d_next (fun _ => ⟨k1, rfl, ks1⟩) ?_
      refine d_guard_pure 12 calm_ret rfl rfl rfl (by kernel_rfl) rfl rfl ?_
      refine d_pure 13 calm_ret rfl (by kernel_rfl) rfl rfl ?_
      refine d_done (by kernel_rfl) ?_
      repeat (first|refine q1 ?_|refine q2 ?_|refine q3 ?_|refine q4 ?_|refine q5 ?_|refine q6 ?_|refine w_seq ?_|refine w_region ?_|refine w_ops_nil ?_|refine w_skip ?_|refine w_block ?_|refine w_blk ?_|refine q7 ?_|refine q8 ?_|refine q9 ?_)
      refine w_condP rfl (fun hc => ?_) (fun hc => ?_)
      · repeat (first|refine q1 ?_|refine q2 ?_|refine q3 ?_|refine q4 ?_|refine q5 ?_|refine q6 ?_|refine w_seq ?_|refine w_region ?_|refine w_ops_nil ?_|refine w_skip ?_|refine w_block ?_|refine w_blk ?_|refine q7 ?_|refine q8 ?_|refine q9 ?_)
        refine w_again (n - 1) (by omega) ⟨k1, rfl, hst2.go ks1, by omega, fun j x hj hx => ?_⟩ ⟨rfl, rfl, rfl, rfl, rfl, rfl, rfl, ?_, trivial⟩
        · by_cases e : j = n - 1
          · subst e; rw [List.getElem?_eq_getElem hlt] at hx; injection hx with hx; subst hx; exact hc
          · exact hall j x (by omega) hx
        · exact congrArg (fun z => some (Value.int .i64 z)) (show (n : Int) - 1 = ((n - 1 : Nat) : Int) by omega)
      · repeat (first|refine q1 ?_|refine q2 ?_|refine q3 ?_|refine q4 ?_|refine q5 ?_|refine q6 ?_|refine w_seq ?_|refine w_region ?_|refine w_ops_nil ?_|refine w_skip ?_|refine w_block ?_|refine w_blk ?_|refine q7 ?_|refine q8 ?_|refine q9 ?_)
        exact w_meet n ⟨k1, rfl, hst2.go ks1, hn, hall, .inr ⟨L1[n - 1], by simp [hlt], hc⟩⟩ ⟨rfl, rfl, rfl, rfl, rfl, rfl, rfl, rfl, trivial⟩
    · refine d_guard_no 3 calm_ret rfl rfl rfl (by kernel_rfl) rfl ?_; refine d_guard_no 4 calm_ret rfl rfl rfl (by kernel_rfl) rfl ?_; refine d_guard_no 5 calm_ret rfl rfl rfl (by kernel_rfl) rfl ?_; refine d_guard_no 6 calm_ret rfl rfl rfl (by kernel_rfl) rfl ?_; refine d_guard_no 7 calm_ret rfl rfl rfl (by kernel_rfl) rfl ?_; refine d_guard_no 8 calm_ret rfl rfl rfl (by kernel_rfl) rfl ?_; refine d_guard_no 9 calm_ret rfl rfl rfl (by kernel_rfl) rfl ?_; refine d_guard_no 10 calm_ret rfl rfl rfl (by kernel_rfl) rfl ?_; refine d_guard_no 11 calm_ret rfl rfl rfl (by kernel_rfl) rfl ?_; refine d_guard_no 12 calm_ret rfl rfl rfl (by kernel_rfl) rfl ?_
      refine d_pure 13 calm_ret rfl (by kernel_rfl) rfl rfl ?_
      refine d_done (by kernel_rfl) ?_
      repeat (first|refine q1 ?_|refine q2 ?_|refine q3 ?_|refine q4 ?_|refine q5 ?_|refine q6 ?_|refine w_seq ?_|refine w_region ?_|refine w_ops_nil ?_|refine w_skip ?_|refine w_block ?_|refine w_blk ?_|refine q7 ?_|refine q8 ?_|refine q9 ?_)
      exact w_meet n ⟨g2, rfl, hst2, hn, hall, .inl (by omega)⟩ ⟨rfl, rfl, rfl, rfl, rfl, rfl, rfl, rfl, trivial⟩
  rintro n _ ⟨h2, rfl, hs0, hpl⟩
  have hn := hpl.1
  replace hst := hst.go hs0; replace hc4 := hc4.go hs0; replace hc5 := hc5.go hs0; replace hc8 := hc8.go hs0; replace hc9 := hc9.go hs0; replace hc11 := hc11.go hs0; replace hr := hr.go hs0
  clear hs0
  repeat (first|refine q1 ?_|refine q2 ?_|refine q3 ?_|refine q4 ?_|refine q5 ?_|refine q6 ?_|refine w_seq ?_|refine w_region ?_|refine w_ops_nil ?_|refine w_skip ?_|refine w_block ?_|refine w_blk ?_|refine q7 ?_|refine q8 ?_|refine q9 ?_)
  refine w_fldA (by decide) rfl rfl ?_
  refine w_load1 (v := v1) hc4 rfl rfl rfl rfl ?_
  repeat (first|refine q1 ?_|refine q2 ?_|refine q3 ?_|refine q4 ?_|refine q5 ?_|refine q6 ?_|refine w_seq ?_|refine w_region ?_|refine w_ops_nil ?_|refine w_skip ?_|refine w_block ?_|refine w_blk ?_|refine q7 ?_|refine q8 ?_|refine q9 ?_)
  refine w_cut_ (a := 0) (b := n) hr rfl rfl ⟨_, rfl, rfl⟩ (by omega) (by omega) rfl fun hr1 => ?_
  refine w_append (Own.nil h2 45 El.gr 48) hr1 rfl rfl rfl (by decide) (by simp; omega) rfl fun h3 v3 hs3 ho3 => ?_
  replace hst := hst.go hs3; replace hc4 := hc4.go hs3; replace hc5 := hc5.go hs3; replace hc8 := hc8.go hs3; replace hc9 := hc9.go hs3; replace hc11 := hc11.go hs3; replace hr := hr.go hs3
  repeat (first|refine q1 ?_|refine q2 ?_|refine q3 ?_|refine q4 ?_|refine q5 ?_|refine q6 ?_|refine w_seq ?_|refine w_region ?_|refine w_ops_nil ?_|refine w_skip ?_|refine w_block ?_|refine w_blk ?_|refine q7 ?_|refine q8 ?_|refine q9 ?_)
  refine w_loadS (us := El.ky.enc k) hc5 rfl rfl rfl rfl rfl ?_
  repeat (first|refine q1 ?_|refine q2 ?_|refine q3 ?_|refine q4 ?_|refine q5 ?_|refine q6 ?_|refine w_seq ?_|refine w_region ?_|refine w_ops_nil ?_|refine w_skip ?_|refine w_block ?_|refine w_blk ?_|refine q7 ?_|refine q8 ?_|refine q9 ?_)
  refine w_build (vs := [(0, .agg (El.ky.enc k).toArray), (1, .int .i64 t)]) (r := El.gr.enc (k, t)) rfl rfl rfl ?_
  refine w_buildSlR El.gr [(k, t)] rfl rfl rfl rfl fun h4 v4 hs4 hr4 => ?_
  replace hst := hst.go hs4; replace hc4 := hc4.go hs4; replace hc5 := hc5.go hs4; replace hc8 := hc8.go hs4; replace hc9 := hc9.go hs4; replace hc11 := hc11.go hs4; replace hr := hr.go hs4
  refine w_append (ho3.go hs4) hr4 rfl rfl rfl (by decide) (by simp; omega) rfl fun h5 v5 hs5 ho5 => ?_
  replace hst := hst.go hs5; replace hc4 := hc4.go hs5; replace hc5 := hc5.go hs5; replace hc8 := hc8.go hs5; replace hc9 := hc9.go hs5; replace hc11 := hc11.go hs5; replace hr := hr.go hs5
  repeat (first|refine q1 ?_|refine q2 ?_|refine q3 ?_|refine q4 ?_|refine q5 ?_|refine q6 ?_|refine w_seq ?_|refine w_region ?_|refine w_ops_nil ?_|refine w_skip ?_|refine w_block ?_|refine w_blk ?_|refine q7 ?_|refine q8 ?_|refine q9 ?_)
  refine w_fldA (by decide) rfl rfl ?_
  refine w_load1 (v := v1) hc4 rfl rfl rfl rfl ?_
  repeat (first|refine q1 ?_|refine q2 ?_|refine q3 ?_|refine q4 ?_|refine q5 ?_|refine q6 ?_|refine w_seq ?_|refine w_region ?_|refine w_ops_nil ?_|refine w_skip ?_|refine w_block ?_|refine w_blk ?_|refine q7 ?_|refine q8 ?_|refine q9 ?_)
  refine w_cut_ (a := n) (b := L1.length) hr rfl ⟨_, rfl, rfl⟩ rfl (by omega) (by omega) rfl fun hr6 => ?_
  refine w_append ho5 hr6 rfl rfl rfl (by decide) (by simp; omega) rfl fun h6 v6 hs6 ho6 => ?_
  replace hst := hst.go hs6; replace hc4 := hc4.go hs6; replace hc8 := hc8.go hs6; replace hc9 := hc9.go hs6; replace hc11 := hc11.go hs6
  clear hs3 hs4 hs5 hs6
  obtain ⟨h7, hw7, hs7, hr7⟩ := ho6.freeze (by decide)
  rw [← hw7]
  replace hst := hst.go hs7; replace hc4 := hc4.go hs7; replace hc8 := hc8.go hs7; replace hc9 := hc9.go hs7; replace hc11 := hc11.go hs7
  refine w_fldA (by decide) rfl rfl ?_
  refine w_store1 hc4 rfl rfl hr7.isSl.one (show 1 < 2 by decide) fun h8 hb8 hs8 hc4 => ?_
  replace hst := hst.go hs8; replace hc8 := hc8.go hs8; replace hc9 := hc9.go hs8; replace hc11 := hc11.go hs8; replace hr7 := hr7.go hs8
  repeat (first|refine q1 ?_|refine q2 ?_|refine q3 ?_|refine q4 ?_|refine q5 ?_|refine q6 ?_|refine w_seq ?_|refine w_region ?_|refine w_ops_nil ?_|refine w_skip ?_|refine w_block ?_|refine w_blk ?_|refine q7 ?_|refine q8 ?_|refine q9 ?_)
  refine d_begin none [43, 44] (by kernel_rfl) fun g2 hsd => ?_
  replace hst := hst.go hsd; replace hc4 := hc4.go hsd; replace hc8 := hc8.go hsd; replace hc9 := hc9.go hsd; replace hc11 := hc11.go hsd; replace hr7 := hr7.go hsd
  refine d_read 0 calm_ret rfl (by kernel_rfl) rfl  (fun h hs => r_load (us := [.int .i64 room, v6]) (hc4.go hs) rfl rfl rfl (fun e => by cases e)) ?_
  refine d_read 1 calm_ret rfl (by kernel_rfl) rfl  (fun h hs => r_load (us := El.ky.enc r.2.1) (hc11.go hs) rfl rfl rfl (fun e => by cases e)) ?_
  refine d_pure 2 calm_ret rfl (by kernel_rfl) rfl rfl ?_
  refine d_exec1 3 (by kernel_rfl) rfl ?_
  refine w_store (us := [.int .i64 room, v6]) (vs' := [.int .i64 room, v6]) hc8 rfl rfl rfl rfl (one v6 hr7.isSl.one) (show 0 + 2 ≤ 2 by decide) rfl fun k1 hb1 ks1 hc8 => ?_
  have kt1 : Step [] [43, 44] g2 k1 := ks1.mono (by simp) (by simp)
  replace hst := hst.go ks1; replace hc9 := hc9.go ks1; replace hr7 := hr7.go ks1
  repeat (first|refine q1 ?_|refine q2 ?_|refine q3 ?_|refine q4 ?_|refine q5 ?_|refine q6 ?_|refine w_seq ?_|refine w_region ?_|refine w_ops_nil ?_|refine w_skip ?_|refine w_block ?_|refine w_blk ?_|refine q7 ?_|refine q8 ?_|refine q9 ?_)
  refine d_next (fun _ => ⟨k1, rfl, kt1⟩) ?_
  refine d_exec1 4 (by kernel_rfl) rfl ?_
  refine w_store (us := El.ky.enc r.2.1) (vs' := El.ky.enc r.2.1) hc9 rfl rfl rfl rfl (El.ky.flat _) (show 0 + 24 ≤ 24 by decide) rfl fun k2 hb2 ks2 hc9 => ?_
  replace kt1 := kt1.go ks2
  replace hst := hst.go ks2; replace hc8 := hc8.go ks2; replace hr7 := hr7.go ks2
  repeat (first|refine q1 ?_|refine q2 ?_|refine q3 ?_|refine q4 ?_|refine q5 ?_|refine q6 ?_|refine w_seq ?_|refine w_region ?_|refine w_ops_nil ?_|refine w_skip ?_|refine w_block ?_|refine w_blk ?_|refine q7 ?_|refine q8 ?_|refine q9 ?_)
  refine d_next (fun _ => ⟨k2, rfl, kt1⟩) ?_
  refine d_pure 5 calm_ret rfl (by kernel_rfl) rfl rfl ?_
  refine d_done (by kernel_rfl) ?_
  repeat (first|refine q1 ?_|refine q2 ?_|refine q3 ?_|refine q4 ?_|refine q5 ?_|refine q6 ?_|refine w_seq ?_|refine w_region ?_|refine w_ops_nil ?_|refine w_skip ?_|refine w_block ?_|refine w_blk ?_|refine q7 ?_|refine q8 ?_|refine q9 ?_)
  refine w_retG (resCC1s hc8 hc9 rfl rfl rfl rfl rfl rfl rfl rfl) hst fun h' hv' => ⟨v6, _, _, _, rfl, hr7.view hv' (.inl rfl), ?_⟩
  rw [if_neg hle]
  exact ⟨⟨n, hpl, by simp⟩, rfl, rfl⟩
end Go.Proofs.Ytkgbodmlmeholaa
