/- Grants: both books hold the same; the reference's Until. No statement of the seat is proved here. -/
import Derived.Test.YtkgbodmlmeholaaGrI
set_option linter.unusedVariables false
set_option linter.unusedSimpArgs false
namespace Go.Proofs.Ytkgbodmlmeholaa
open Go
attribute [local irreducible] Wp
theorem findK_get (k : Ky) : ∀ (L : BkM), (findK k L = -1 ∧ mget k L = none) ∨ (0 ≤ findK k L ∧ ∃ v, L[(findK k L).toNat]? = some (k, v) ∧ mget k L = some v)
  | [] => .inl ⟨rfl, rfl⟩
  | x :: L => by
    have ih := findK_get k L
    rw [findK, mget]
    by_cases h : x.1 = k
    · rw [if_pos h, if_pos h.symm]
      exact .inr ⟨by omega, x.2, by simp [← h], rfl⟩
    · rw [if_neg h, if_neg (show ¬ k = x.1 from fun e => h e.symm)]
      rcases ih with ⟨h1, h2⟩ | ⟨h1, v, h2, h3⟩
      · rw [if_pos h1]; exact .inl ⟨rfl, h2⟩
      · rw [if_neg (by omega), show (findK k L + 1).toNat = (findK k L).toNat + 1 by omega]
        exact .inr ⟨by omega, v, by simpa using h2, h3⟩
theorem findK_some (k : Ky) (L : BkM) : 0 ≤ findK k L ↔ (mget k L).isSome = true := by
  rcases findK_get k L with ⟨h1, h2⟩ | ⟨h1, v, h2, h3⟩
  · rw [h2]; simp; omega
  · rw [h3]; simp; exact h1
theorem ref18_Until (room : Int) (L : BkM) (vL : Value) (k : Ky) (g : G) (hr : Rd g 0 El.gr vL L) : Fn Try.prog 36 [.agg #[.int .i64 room, vL], El.ky.val k] g [] fun u _ => u = .tuple #[.int .i64 (tvOf L k), .bool (mget k L).isSome] := by
  refine enterG [] [41, 42] Try.func36 rfl Try.ntmps36 rfl (by simp) fun g1 hv ho => ?_
  replace hr := hr.view hv (.inl rfl)
  have hlm := hr.isSl.le
  repeat (first|refine q1 ?_|refine q2 ?_|refine q3 ?_|refine q4 ?_|refine q5 ?_|refine q6 ?_|refine w_seq ?_|refine w_region ?_|refine w_ops_nil ?_|refine w_skip ?_|refine w_block ?_|refine w_blk ?_|refine q7 ?_|refine q8 ?_|refine q9 ?_)
  refine w_box 41 (vs := [.int .i64 room, vL]) rfl rfl rfl fun h1 b1 hs1 hc1 => ?_
  have hst : Step [] [41, 42] g1 h1 := hs1.nil
  replace hr := hr.go hs1
  repeat (first|refine q1 ?_|refine q2 ?_|refine q3 ?_|refine q4 ?_|refine q5 ?_|refine q6 ?_|refine w_seq ?_|refine w_region ?_|refine w_ops_nil ?_|refine w_skip ?_|refine w_block ?_|refine w_blk ?_|refine q7 ?_|refine q8 ?_|refine q9 ?_)
  refine w_box 42 (vs := El.ky.enc k) rfl rfl rfl fun h2 b2 hs2 hc2 => ?_
  replace hst := hst.go hs2; replace hc1 := hc1.go hs2; replace hr := hr.go hs2
  repeat (first|refine q1 ?_|refine q2 ?_|refine q3 ?_|refine q4 ?_|refine q5 ?_|refine q6 ?_|refine w_seq ?_|refine w_region ?_|refine w_ops_nil ?_|refine w_skip ?_|refine w_block ?_|refine w_blk ?_|refine q7 ?_|refine q8 ?_|refine q9 ?_)
  refine w_loadS (us := [.int .i64 room, vL]) hc1 rfl rfl rfl rfl rfl ?_
  refine w_loadS (us := El.ky.enc k) hc2 rfl rfl rfl rfl rfl ?_
  refine w_callF rfl (ref18_Find room L vL k h2 hr) rfl fun u h6 hs6 hu => ?_
  subst hu
  replace hst := hst.go hs6; replace hc1 := hc1.go hs6; replace hr := hr.go hs6
  repeat (first|refine q1 ?_|refine q2 ?_|refine q3 ?_|refine q4 ?_|refine q5 ?_|refine q6 ?_|refine w_seq ?_|refine w_region ?_|refine w_ops_nil ?_|refine w_skip ?_|refine w_block ?_|refine w_blk ?_|refine q7 ?_|refine q8 ?_|refine q9 ?_)
  refine w_condP rfl (fun hf => ?_) (fun hf => ?_)
  · repeat (first|refine q1 ?_|refine q2 ?_|refine q3 ?_|refine q4 ?_|refine q5 ?_|refine q6 ?_|refine w_seq ?_|refine w_region ?_|refine w_ops_nil ?_|refine w_skip ?_|refine w_block ?_|refine w_blk ?_|refine q7 ?_|refine q8 ?_|refine q9 ?_)
    refine w_retG (res2 rfl rfl rfl) hst fun h' _ => ?_
    rcases findK_get k L with ⟨h1, h2⟩ | ⟨h1, v, h2, h3⟩
    · unfold tvOf; rw [h2]; rfl
    · omega
  · rcases findK_get k L with ⟨h1, h2⟩ | ⟨h1, v, h2, h3⟩
    · omega
    · obtain ⟨i, hi⟩ := Int.eq_ofNat_of_zero_le h1
      rw [hi] at h2
      have h2 : L[i]? = some (k, v) := by simpa using h2
      obtain ⟨hlt, _⟩ := List.getElem?_eq_some_iff.1 h2
      rw [hi]
      have et : tvOf L k = v := by unfold tvOf; rw [h3]; rfl
      rw [et, h3]
      repeat (first|refine q1 ?_|refine q2 ?_|refine q3 ?_|refine q4 ?_|refine q5 ?_|refine q6 ?_|refine w_seq ?_|refine w_region ?_|refine w_ops_nil ?_|refine w_skip ?_|refine w_block ?_|refine w_blk ?_|refine q7 ?_|refine q8 ?_|refine q9 ?_)
      refine w_fldA (by decide) rfl rfl ?_
      refine w_load1 (v := vL) hc1 rfl rfl rfl rfl ?_
      repeat (first|refine q1 ?_|refine q2 ?_|refine q3 ?_|refine q4 ?_|refine q5 ?_|refine q6 ?_|refine w_seq ?_|refine w_region ?_|refine w_ops_nil ?_|refine w_skip ?_|refine w_block ?_|refine w_blk ?_|refine q7 ?_|refine q8 ?_|refine q9 ?_)
      refine w_idx hr rfl rfl (by omega) (by omega) rfl ?_
      refine w_fldE (hr.base hlt) (by decide) rfl rfl ?_
      refine w_loadEF (i := i) (off := 24) (y := (k, v)) (u := .int .i64 v) hr rfl h2 rfl rfl rfl ?_
      repeat (first|refine q1 ?_|refine q2 ?_|refine q3 ?_|refine q4 ?_|refine q5 ?_|refine q6 ?_|refine w_seq ?_|refine w_region ?_|refine w_ops_nil ?_|refine w_skip ?_|refine w_block ?_|refine w_blk ?_|refine q7 ?_|refine q8 ?_|refine q9 ?_)
      exact w_retG (res2 rfl rfl rfl) hst fun h' _ => rfl

/-! ### plain -/
theorem mget_mem2 {k : Ky} {u : Int} : ∀ {m : BkM}, mget k m = some u → (k, u) ∈ m
  | [], h => by cases h
  | a :: m, h => by
    rw [mget] at h
    split at h
    · rename_i e; injection h with h; subst h; rw [e]; exact List.mem_cons_self
    · exact List.mem_cons_of_mem _ (mget_mem2 h)
theorem mget_perm (k : Ky) {m L : BkM} (hp : m.Perm L) (hn : Nd m) : mget k m = mget k L := by
  have hL := Nd.perm hp hn
  cases h : mget k m with
  | some u => exact (hL.get (hp.mem_iff.1 (mget_mem2 h))).symm
  | none =>
    cases h2 : mget k L with
    | none => rfl
    | some u =>
      have := hn.get (hp.mem_iff.2 (mget_mem2 h2))
      rw [h] at this; cases this
theorem mget_none {k : Ky} {m : BkM} : (mget k m).isSome = false ↔ ∀ x ∈ m, ¬ k = x.1 := by
  induction m with
  | nil => simp [mget]
  | cons a m ih =>
    rw [mget]
    by_cases h : k = a.1
    · rw [if_pos h]; simp; intro e; exact absurd h e
    · rw [if_neg h, ih]; simp [h]
/-- Both books hold the same grants; the reference's lie in the row. -/
structure Books (m L : BkM) : Prop where
  perm : m.Perm L
  nd : Nd m
  srt : Srtd cmpK (L.map (·.1))
theorem Books.nd2 {m L : BkM} (h : Books m L) : Nd L := Nd.perm h.perm h.nd
theorem Books.keys {m L : BkM} (h : Books m L) : keysOf m = L.map (·.1) := by
  unfold keysOf
  rw [srt_of_perm isCmpK (h.perm.map _), srt_of_srtd isCmpK h.srt]
theorem Books.get {m L : BkM} (h : Books m L) (k : Ky) : mget k m = mget k L := mget_perm k h.perm h.nd
theorem Books.len {m L : BkM} (h : Books m L) : m.length = L.length := h.perm.length_eq
theorem Srtd.sub {L L' : BkM} (h : Srtd cmpK (L.map (·.1))) (hs : L'.Sublist L) : Srtd cmpK (L'.map (·.1)) := List.Pairwise.sublist (hs.map _) h
theorem Nd.sub {L L' : BkM} (h : Nd L) (hs : L'.Sublist L) : Nd L' := (hs.map _).nodup h
theorem Books.filter {m L : BkM} (h : Books m L) (p : Ky × Int → Bool) : Books (m.filter p) (L.filter p) := ⟨h.perm.filter p, h.nd.sub List.filter_sublist, h.srt.sub List.filter_sublist⟩
theorem filter_ne {k : Ky} {m : BkM} (h : ∀ x ∈ m, ¬ k = x.1) : (m.filter fun y => decide (¬ k = y.1)) = m := by
  rw [List.filter_eq_self]
  intro x hx
  exact decide_eq_true (h x hx)
/-- What both make ready for a key is the same. -/
theorem Books.pre {m L : BkM} (h : Books m L) (room now : Int) (k : Ky) :
    (preP room now k m).2 = (preL room now k L).2 ∧ Books ((preP room now k m).1.filter fun y => decide (¬ k = y.1)) (preL room now k L).1 ∧ Nd (preP room now k m).1 := by
  have hg := h.get k
  have hl := h.len
  unfold preP preL
  by_cases hf : 0 ≤ findK k L
  · have h1 := (findK_some k L).1 hf
    rw [if_pos hf, if_neg (by rw [hg, h1]; simp)]
    exact ⟨rfl, h.filter _, h.nd⟩
  · have h1 : (mget k L).isSome = false := by
      cases hh : (mget k L).isSome with
      | false => rfl
      | true => exact absurd ((findK_some k L).2 hh) hf
    have hnm : ∀ x ∈ m, ¬ k = x.1 := mget_none.1 (by rw [hg]; exact h1)
    rw [if_neg hf]
    by_cases hroom : (L.length : Int) = room
    · rw [if_pos hroom, if_pos ⟨by rw [hg]; exact h1, by rw [hl]; exact hroom⟩]
      unfold mkRoom mkRoomL
      have ho := h.filter fun x => !(decide (x.2 ≤ now))
      have hol : (overB now m).length = (overB now L).length := ho.len
      rw [hol, hl]
      split
      · refine ⟨rfl, ?_, h.nd.sub List.filter_sublist⟩
        have e : ((overB now m).filter fun y => decide (¬ k = y.1)) = overB now m := filter_ne (fun x hx => hnm x (List.mem_filter.1 hx).1)
        dsimp only
        rw [e]
        exact ho
      · rw [h.keys]
        cases L with
        | nil =>
          refine ⟨rfl, ?_, h.nd⟩
          show Books (m.filter fun y => decide (¬ k = y.1)) []
          rw [filter_ne hnm]; exact h
        | cons b l =>
          have hx : leastBy (tvOf m) b.1 (l.map (·.1)) = (leastBy (·.2) b l).1 := by
            refine (leastBy_map (·.2) (·.1) (tvOf m) l b fun x hx => ?_).symm
            unfold tvOf
            rw [h.get x.1, h.nd2.get hx]; rfl
          refine (show (leastBy (tvOf m) b.1 (l.map (·.1)), true) = ((leastBy (·.2) b l).1, true) ∧ Books ((m.filter fun y => decide (¬ leastBy (tvOf m) b.1 (l.map (·.1)) = y.1)).filter fun y => decide (¬ k = y.1)) ((b :: l).filter fun y => decide (¬ (leastBy (·.2) b l).1 = y.1)) ∧
            Nd (m.filter fun y => decide (¬ leastBy (tvOf m) b.1 (l.map (·.1)) = y.1)) from ?_)
          rw [hx]
          refine ⟨rfl, ?_, h.nd.sub List.filter_sublist⟩
          rw [filter_ne (fun x hx => hnm x (List.mem_filter.1 hx).1)]
          exact h.filter _
    · rw [if_neg hroom, if_neg (by rw [hl]; exact fun e => hroom e.2)]
      refine ⟨rfl, ?_, h.nd⟩
      dsimp only
      rw [filter_ne hnm]; exact h
theorem ins_srtd {k : Ky} {t : Int} {L1 L' : BkM} (hs : Srtd cmpK (L1.map (·.1))) (hi : InsR k t L1 L') : Srtd cmpK (L'.map (·.1)) := by
  obtain ⟨n, ⟨hn, hge, hlast⟩, rfl⟩ := hi
  have h0 : L1 = L1.take n ++ L1.drop n := (List.take_append_drop n L1).symm
  rw [h0, List.map_append] at hs
  unfold Srtd at hs ⊢
  rw [List.pairwise_append] at hs
  obtain ⟨h1, h2, h3⟩ := hs
  rw [List.map_append, List.map_cons, List.pairwise_append, List.pairwise_cons]
  have hafter : ∀ y ∈ (L1.drop n).map (·.1), cmpK k y ≤ 0 := fun y hy => by
    obtain ⟨x, hx, rfl⟩ := List.mem_map.1 hy
    obtain ⟨j, hj⟩ := List.mem_iff_getElem?.1 hx
    rw [List.getElem?_drop] at hj
    have := hge (n + j) x (by omega) hj
    omega
  have hbefore : ∀ y ∈ (L1.take n).map (·.1), cmpK y k ≤ 0 := fun y hy => by
    rcases hlast with rfl | ⟨z, hz, hkz⟩
    · simp at hy
    · obtain ⟨x, hx, rfl⟩ := List.mem_map.1 hy
      have hzk : cmpK z.1 k ≤ 0 := by have := isCmpK.anti k z.1; omega
      obtain ⟨j, hj⟩ := List.mem_iff_getElem?.1 hx
      rw [List.getElem?_take] at hj
      split at hj
      · rename_i hjn
        by_cases e : j = n - 1
        · subst e; rw [hz] at hj; injection hj with hj; subst hj; exact hzk
        · refine isCmpK.trans x.1 z.1 k ?_ hzk
          obtain ⟨a1, a2⟩ := List.getElem?_eq_some_iff.1 hj
          obtain ⟨b1, b2⟩ := List.getElem?_eq_some_iff.1 hz
          have hp := List.pairwise_iff_getElem.1 h1 j (n - 1) (by simp; omega) (by simp; omega) (by omega)
          simp only [List.getElem_map, List.getElem_take] at hp
          rw [a2, b2] at hp
          exact hp
      · cases hj
  refine ⟨h1, ⟨hafter, h2⟩, fun x hx y hy => ?_⟩
  rcases List.mem_cons.1 hy with rfl | hy
  · exact hbefore x hx
  · exact h3 x hx y hy
theorem ins_perm {k : Ky} {t : Int} {L1 L' : BkM} (hi : InsR k t L1 L') : L'.Perm ((k, t) :: L1) := by
  obtain ⟨n, _, rfl⟩ := hi
  refine List.perm_middle.trans ?_
  rw [List.take_append_drop]
/-- A grant is put into both. -/
theorem Books.put {m L L' : BkM} (h : Books m L) (room t now : Int) (k : Ky) (ht : ¬ t ≤ now) (hi : InsR k t (preL room now k L).1 L') :
    Books (putP room t now k m).1 L' ∧ (putP room t now k m).2 = (preL room now k L).2 := by
  obtain ⟨h1, h2, h3⟩ := h.pre room now k
  unfold putP
  rw [if_neg ht]
  exact ⟨⟨((mput_perm k t _ h3).trans (h2.perm.cons _)).trans (ins_perm hi).symm, h3.put k t, ins_srtd h2.srt hi⟩, h1⟩
theorem filter_lt {L : BkM} {p : Ky × Int → Bool} {x : Ky × Int} (hx : x ∈ L) (hp : p x = false) : (L.filter p).length < L.length := by
  induction L with
  | nil => simp at hx
  | cons a L ih =>
    have hle := List.length_filter_le p L
    rw [List.filter_cons]
    rcases List.mem_cons.1 hx with rfl | hx
    · rw [hp]; simp; omega
    · have := ih hx
      split <;> simp only [List.length_cons] <;> omega
/-- There is room. -/
theorem pre_room {room now : Int} {k : Ky} {L : BkM} (hr : 1 ≤ room) (hl : (L.length : Int) ≤ room) : ((preL room now k L).1.length : Int) < room := by
  unfold preL
  split
  · rename_i hf
    rcases findK_get k L with ⟨h1, h2⟩ | ⟨h1, v, h2, h3⟩
    · omega
    · have := filter_lt (p := fun y : Ky × Int => decide (¬ k = y.1)) (List.mem_of_getElem? h2) (by simp)
      dsimp only; omega
  · split
    · unfold mkRoomL
      split
      · dsimp only; omega
      · cases L with
        | nil => simp only [List.length_nil] at *; omega
        | cons b l =>
          have := filter_lt (p := fun y : Ky × Int => decide (¬ (leastBy (·.2) b l).1 = y.1)) (leastBy_mem (·.2) l b) (by simp)
          dsimp only; omega
    · dsimp only; omega
end Go.Proofs.Ytkgbodmlmeholaa
