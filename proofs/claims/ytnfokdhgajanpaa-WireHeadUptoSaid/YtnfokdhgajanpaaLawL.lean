/- The laws of layer 8 as contracts: what the writer wrote is the reference's and is read as it was; a name's bytes are read as the name. No statement of the seat is proved here. -/
import Derived.Test.YtnfokdhgajanpaaLabP
set_option linter.unusedVariables false
namespace Go.Proofs.Ytnfokdhgajanpaa
open Go

theorem ne_false {α : Type} [DecidableEq α] (a : α) : Value.bool (decide (¬ a = a)) = .bool false := congrArg Value.bool (decide_eq_false (fun h => h rfl))
theorem eq_true_ {α : Type} [DecidableEq α] (a : α) : Value.bool (decide (a = a)) = .bool true := congrArg Value.bool (decide_eq_true rfl)

theorem law08_lives (g : G) : Fn Try.prog 19 [] g [] fun u _ => u = .bool true := by
  refine enterG [] [21, 22, 23] Try.func19 rfl Try.ntmps19 rfl (by simp) fun g1 hv ho => ?_
  repeat (first | ((with_reducible refine q0 ?_); first | refine q1 ?_ | ((with_reducible refine gate_bin ?_); first | refine q2 ?_ | refine q3 ?_) | ((with_reducible refine gate_len ?_); refine q4 ?_) | ((with_reducible refine gate_guard ?_); first | refine q5 ?_ | refine q6 ?_)) | (with_reducible first | refine w_seq ?_ | refine w_region ?_ | refine w_ops_nil ?_ | refine w_skip ?_ | refine w_block ?_ | refine w_blk ?_) | ((with_reducible refine gate_exit ?_); refine q7 ?_) | ((with_reducible refine gate_cond ?_); first | refine q8 ?_ | refine q9 ?_))
  refine w_alloc 21 (vs := [.slice none 0 0, .map none]) rfl rfl fun h1 b hs1 hc => ?_
  have hw : Wr h1 b [] [] := ⟨none, ⟨.slice none 0 0, hc, Own.nil _ _ _ _, .inl ⟨rfl, rfl⟩⟩, by simp⟩
  repeat (first | ((with_reducible refine q0 ?_); first | refine q1 ?_ | ((with_reducible refine gate_bin ?_); first | refine q2 ?_ | refine q3 ?_) | ((with_reducible refine gate_len ?_); refine q4 ?_) | ((with_reducible refine gate_guard ?_); first | refine q5 ?_ | refine q6 ?_)) | (with_reducible first | refine w_seq ?_ | refine w_region ?_ | refine w_ops_nil ?_ | refine w_skip ?_ | refine w_block ?_ | refine w_blk ?_) | ((with_reducible refine gate_exit ?_); refine q7 ?_) | ((with_reducible refine gate_cond ?_); first | refine q8 ?_ | refine q9 ?_))
  refine w_callF rfl (Writer_Name b [97, 46, 98] [] [] h1 hw (by decide) (by decide)) rfl fun u h2 hs2 hR => ?_
  obtain ⟨rfl, hw2⟩ := hR
  repeat (first | ((with_reducible refine q0 ?_); first | refine q1 ?_ | ((with_reducible refine gate_bin ?_); first | refine q2 ?_ | refine q3 ?_) | ((with_reducible refine gate_len ?_); refine q4 ?_) | ((with_reducible refine gate_guard ?_); first | refine q5 ?_ | refine q6 ?_)) | (with_reducible first | refine w_seq ?_ | refine w_region ?_ | refine w_ops_nil ?_ | refine w_skip ?_ | refine w_block ?_ | refine w_blk ?_) | ((with_reducible refine gate_exit ?_); refine q7 ?_) | ((with_reducible refine gate_cond ?_); first | refine q8 ?_ | refine q9 ?_))
  refine w_callF rfl (Writer_Name b [99, 46, 98] _ _ h2 hw2 (by decide) (by decide)) rfl fun u h3 hs3 hR => ?_
  obtain ⟨rfl, hw3⟩ := hR
  repeat (first | ((with_reducible refine q0 ?_); first | refine q1 ?_ | ((with_reducible refine gate_bin ?_); first | refine q2 ?_ | refine q3 ?_) | ((with_reducible refine gate_len ?_); refine q4 ?_) | ((with_reducible refine gate_guard ?_); first | refine q5 ?_ | refine q6 ?_)) | (with_reducible first | refine w_seq ?_ | refine w_region ?_ | refine w_ops_nil ?_ | refine w_skip ?_ | refine w_block ?_ | refine w_blk ?_) | ((with_reducible refine gate_exit ?_); refine q7 ?_) | ((with_reducible refine gate_cond ?_); first | refine q8 ?_ | refine q9 ?_))
  refine w_callF rfl (Writer_Bytes b _ _ h3 hw3 (by decide)) rfl fun u h4 hs4 hr4 => ?_
  refine w_guard_yes' rfl rfl rfl (congrArg Value.bool (by decide)) ?_
  refine w_buildSlR El.u8 [1, 97, 1, 98, 0, 1, 99, 192, 2] rfl rfl rfl rfl fun h5 v5 hs5 hr5 => ?_
  refine w_guard_yes' rfl rfl rfl (congrArg Value.bool (by decide)) ?_
  refine w_callF rfl (ref08_SameBytes _ _ h5 (hr4.go hs5) hr5) rfl fun u h6 hs6 hu => ?_
  subst hu
  repeat (first | ((with_reducible refine q0 ?_); first | refine q1 ?_ | ((with_reducible refine gate_bin ?_); first | refine q2 ?_ | refine q3 ?_) | ((with_reducible refine gate_len ?_); refine q4 ?_) | ((with_reducible refine gate_guard ?_); first | refine q5 ?_ | refine q6 ?_)) | (with_reducible first | refine w_seq ?_ | refine w_region ?_ | refine w_ops_nil ?_ | refine w_skip ?_ | refine w_block ?_ | refine w_blk ?_) | ((with_reducible refine gate_exit ?_); refine q7 ?_) | ((with_reducible refine gate_cond ?_); first | refine q8 ?_ | refine q9 ?_))
  exact w_retG (res1 rfl rfl) ((((((hs1.mono (by simp) (by simp)).go hs2).go hs3).go hs4).go hs5).go hs6) fun h' _ => congrArg Value.bool (by decide)

/-- A place that was noted for a text: below 0, or the text is read there. -/
def AtOk (B : List UInt8) (z : Int) (s : List UInt8) : Prop := z = -1 ∨ ∃ n : Nat, z = n ∧ n ≤ B.length ∧ mayB s = true ∧ ∃ e, Reads B n n (labelsB s) e
theorem AtOk.append {B : List UInt8} {z : Int} {s : List UInt8} (h : AtOk B z s) (Y : List UInt8) : AtOk (B ++ Y) z s :=
  h.imp id fun ⟨n, h1, h2, h3, e, h4⟩ => ⟨n, h1, by rw [List.length_append]; omega, h3, e, h4.append Y⟩
theorem name_step {B : List UInt8} {m : WM} (h : WOk B m) (s : List UInt8) : WOk (nameEnd B m s).1 (nameEnd B m s).2 ∧ (∃ Y, (nameEnd B m s).1 = B ++ Y) ∧ (nameEnd B m s).1.length ≤ B.length + 257 ∧
    (nameEnd B m s).2.length ≤ m.length + 255 ∧ AtOk (nameEnd B m s).1 (if mayB s = true then (B.length : Int) else -1) s := by
  by_cases hs : mayB s = true
  · obtain ⟨h1, h2, h3, h4, h5, h6⟩ := h.name hs
    refine ⟨h2, ⟨_, congrArg Prod.fst h1⟩, h4, h5, .inr ⟨B.length, by rw [if_pos hs], by omega, hs, _, h3⟩⟩
  · have e : nameEnd B m s = (B, m) := by rw [nameEnd, if_neg hs]
    rw [e]
    exact ⟨h, ⟨[], by simp⟩, by dsimp only; omega, by dsimp only; omega, .inl (by rw [if_neg hs])⟩

theorem law08_Writes (l : List (List UInt8)) (raw : List UInt8) (g : G) {c1 c2 : Nat} {v1 v2 : Value} (h1 : Rd g c1 El.str v1 l) (h2 : Rd g c2 El.u8 v2 raw) :
    Fn Try.prog 3 [v1, v2] g [] fun u _ => u = .bool true := by
  refine enterG [] [11, 12, 13, 21, 22, 23, 41, 42, 43] Try.func3 rfl Try.ntmps3 rfl (by simp) fun g1 hv ho => ?_
  obtain ⟨c1', hc1', hl⟩ := h1.seen hv ho (by simp)
  obtain ⟨c2', hc2', hraw⟩ := h2.seen hv ho (by simp)
  repeat (first | ((with_reducible refine q0 ?_); first | refine q1 ?_ | ((with_reducible refine gate_bin ?_); first | refine q2 ?_ | refine q3 ?_) | ((with_reducible refine gate_len ?_); refine q4 ?_) | ((with_reducible refine gate_guard ?_); first | refine q5 ?_ | refine q6 ?_)) | (with_reducible first | refine w_seq ?_ | refine w_region ?_ | refine w_ops_nil ?_ | refine w_skip ?_ | refine w_block ?_ | refine w_blk ?_) | ((with_reducible refine gate_exit ?_); refine q7 ?_) | ((with_reducible refine gate_cond ?_); first | refine q8 ?_ | refine q9 ?_))
  refine w_alloc 21 (vs := [.slice none 0 0, .map none]) rfl rfl fun hA bw hsA hcW => ?_
  repeat (first | ((with_reducible refine q0 ?_); first | refine q1 ?_ | ((with_reducible refine gate_bin ?_); first | refine q2 ?_ | refine q3 ?_) | ((with_reducible refine gate_len ?_); refine q4 ?_) | ((with_reducible refine gate_guard ?_); first | refine q5 ?_ | refine q6 ?_)) | (with_reducible first | refine w_seq ?_ | refine w_region ?_ | refine w_ops_nil ?_ | refine w_skip ?_ | refine w_block ?_ | refine w_blk ?_) | ((with_reducible refine gate_exit ?_); refine q7 ?_) | ((with_reducible refine gate_cond ?_); first | refine q8 ?_ | refine q9 ?_))
  refine w_alloc 41 (vs := [.slice none 0 0, .slice none 0 0, .slice none 0 0]) rfl rfl fun hB br hsB hcR => ?_
  replace hcW := hcW.go hsB
  repeat (first | ((with_reducible refine q0 ?_); first | refine q1 ?_ | ((with_reducible refine gate_bin ?_); first | refine q2 ?_ | refine q3 ?_) | ((with_reducible refine gate_len ?_); refine q4 ?_) | ((with_reducible refine gate_guard ?_); first | refine q5 ?_ | refine q6 ?_)) | (with_reducible first | refine w_seq ?_ | refine w_region ?_ | refine w_ops_nil ?_ | refine w_skip ?_ | refine w_blk ?_) | ((with_reducible refine gate_exit ?_); refine q7 ?_) | ((with_reducible refine gate_cond ?_); first | refine q8 ?_ | refine q9 ?_))
  refine w_cut (ι := Value) (fun x => [(0, v1), (5, .pointer (some ⟨bw, 0, none⟩)), (6, .pointer (some ⟨br, 0, none⟩)), (7, x)])
    (fun x w => ∃ h B m vB vN vA ats, h.w = w ∧ Step [] [11, 12, 13, 21, 22, 23, 41, 42, 43] g1 h ∧ Wr h bw B m ∧ Cell h 41 br 29 [vB, vN, vA] ∧ RW h vB vN vA B m ∧ Own h 43 El.int 3 x ats ∧
      ats.length ≤ l.length ∧ ats.length ≤ 12 ∧ B.length ≤ 4000 ∧ ∀ (j : Nat) (z : Int) (s : List UInt8), ats[j]? = some z → l[j]? = some s → AtOk B z (s.take 40)) ?_ ?_
  · repeat (first | ((with_reducible refine q0 ?_); first | refine q1 ?_ | ((with_reducible refine gate_bin ?_); first | refine q2 ?_ | refine q3 ?_) | ((with_reducible refine gate_len ?_); refine q4 ?_) | ((with_reducible refine gate_guard ?_); first | refine q5 ?_ | refine q6 ?_)) | (with_reducible first | refine w_seq ?_ | refine w_region ?_ | refine w_ops_nil ?_ | refine w_skip ?_ | refine w_block ?_ | refine w_blk ?_) | ((with_reducible refine gate_exit ?_); refine q7 ?_) | ((with_reducible refine gate_cond ?_); first | refine q8 ?_ | refine q9 ?_))
    refine w_loop (ι := Value × Nat) (fun x => [(0, v1), (1, v2), (5, .pointer (some ⟨bw, 0, none⟩)), (6, .pointer (some ⟨br, 0, none⟩)), (7, x.1), (8, .int .i64 (x.2 : Int))])
      (fun x w => ∃ h B m vB vN vA ats, h.w = w ∧ Step [] [11, 12, 13, 21, 22, 23, 41, 42, 43] g1 h ∧ Wr h bw B m ∧ Cell h 41 br 29 [vB, vN, vA] ∧ RW h vB vN vA B m ∧ Own h 43 El.int 3 x.1 ats ∧
        x.2 ≤ 12 ∧ x.2 ≤ l.length ∧ ats.length = x.2 ∧ B.length ≤ 300 * x.2 ∧ m.length ≤ 300 * x.2 ∧ WOk B m ∧ ∀ (j : Nat) (z : Int) (s : List UInt8), ats[j]? = some z → l[j]? = some s → AtOk B z (s.take 40))
      (fun x => 12 - x.2) (.slice none 0 0, 0)
      ⟨hB, [], [], .slice none 0 0, .slice none 0 0, .slice none 0 0, [], rfl, (hsA.nil).go hsB, ⟨none, ⟨.slice none 0 0, hcW, Own.nil _ _ _ _, .inl ⟨rfl, rfl⟩⟩, by simp⟩, hcR, ⟨Own.nil _ _ _ _, Own.nil _ _ _ _, Own.nil _ _ _ _, by simp⟩, Own.nil _ _ _ _,
        by dsimp only; omega, by dsimp only; omega, rfl, by simp, by simp, WOk.nil _, by simp⟩ ⟨rfl, rfl, rfl, rfl, rfl, rfl, trivial⟩ ?_
    clear hcW hcR hsA hsB
    rintro ⟨vA, i⟩ _ ⟨h, B, m, vB, vN, vM, ats, rfl, hst, hw, hcR, hr, hats, hi12, hil, hal, hBl, hml, hok, hall⟩
    dsimp only at hst hats hi12 hil hal hBl hml ⊢
    have hl0 := hl.go hst
    have hlm := hl.isSl.le
    have hrm := hraw.isSl.le
    repeat (first | ((with_reducible refine q0 ?_); first | refine q1 ?_ | ((with_reducible refine gate_bin ?_); first | refine q2 ?_ | refine q3 ?_) | ((with_reducible refine gate_len ?_); refine q4 ?_) | ((with_reducible refine gate_guard ?_); first | refine q5 ?_ | refine q6 ?_)) | (with_reducible first | refine w_seq ?_ | refine w_region ?_ | refine w_ops_nil ?_ | refine w_skip ?_ | refine w_block ?_ | refine w_blk ?_) | ((with_reducible refine gate_exit ?_); refine q7 ?_) | ((with_reducible refine gate_cond ?_); first | refine q8 ?_ | refine q9 ?_))
    refine w_lenSl hl0.isSl rfl rfl ?_
    repeat (first | ((with_reducible refine q0 ?_); first | refine q1 ?_ | ((with_reducible refine gate_bin ?_); first | refine q2 ?_ | refine q3 ?_) | ((with_reducible refine gate_len ?_); refine q4 ?_) | ((with_reducible refine gate_guard ?_); first | refine q5 ?_ | refine q6 ?_)) | (with_reducible first | refine w_seq ?_ | refine w_region ?_ | refine w_ops_nil ?_ | refine w_skip ?_ | refine w_block ?_ | refine w_blk ?_) | ((with_reducible refine gate_exit ?_); refine q7 ?_) | ((with_reducible refine gate_cond ?_); first | refine q8 ?_ | refine q9 ?_))
    refine w_splitP 22 rfl (fun hlt => ?_) (fun hlt => ?_)
    · repeat (first | ((with_reducible refine q0 ?_); first | refine q1 ?_ | ((with_reducible refine gate_bin ?_); first | refine q2 ?_ | refine q3 ?_) | ((with_reducible refine gate_len ?_); refine q4 ?_) | ((with_reducible refine gate_guard ?_); first | refine q5 ?_ | refine q6 ?_)) | (with_reducible first | refine w_seq ?_ | refine w_region ?_ | refine w_ops_nil ?_ | refine w_skip ?_ | refine w_block ?_ | refine w_blk ?_) | ((with_reducible refine gate_exit ?_); refine q7 ?_) | ((with_reducible refine gate_cond ?_); first | refine q8 ?_ | refine q9 ?_))
      refine w_condP rfl (fun h12 => ?_) (fun h12 => ?_)
      · have hlt : i < l.length := by omega
        repeat (first | ((with_reducible refine q0 ?_); first | refine q1 ?_ | ((with_reducible refine gate_bin ?_); first | refine q2 ?_ | refine q3 ?_) | ((with_reducible refine gate_len ?_); refine q4 ?_) | ((with_reducible refine gate_guard ?_); first | refine q5 ?_ | refine q6 ?_)) | (with_reducible first | refine w_seq ?_ | refine w_region ?_ | refine w_ops_nil ?_ | refine w_skip ?_ | refine w_block ?_ | refine w_blk ?_) | ((with_reducible refine gate_exit ?_); refine q7 ?_) | ((with_reducible refine gate_cond ?_); first | refine q8 ?_ | refine q9 ?_))
        refine w_idx hl0 rfl rfl (by omega) (by simp; omega) rfl ?_
        refine w_loadE (i := i) (y := l[i]) hl0 rfl (by simp [hlt]) rfl rfl ?_
        refine w_callF rfl (ref01_Few _ 40 h (by omega)) rfl fun u h2 hs2 hu => ?_
        subst hu
        rw [show (40 : Int).toNat = 40 from rfl]
        generalize hs : l[i].take 40 = s
        have hsl : s.length ≤ 40 := by rw [← hs, List.length_take]; omega
        replace hw := hw.go hs2; replace hcR := hcR.go hs2; replace hr := hr.go hs2; replace hats := hats.go hs2; replace hst := hst.go hs2
        repeat (first | ((with_reducible refine q0 ?_); first | refine q1 ?_ | ((with_reducible refine gate_bin ?_); first | refine q2 ?_ | refine q3 ?_) | ((with_reducible refine gate_len ?_); refine q4 ?_) | ((with_reducible refine gate_guard ?_); first | refine q5 ?_ | refine q6 ?_)) | (with_reducible first | refine w_seq ?_ | refine w_region ?_ | refine w_ops_nil ?_ | refine w_skip ?_ | refine w_block ?_ | refine w_blk ?_) | ((with_reducible refine gate_exit ?_); refine q7 ?_) | ((with_reducible refine gate_cond ?_); first | refine q8 ?_ | refine q9 ?_))
        refine w_callF rfl (Writer_Len bw B m h2 hw) rfl fun u h3 hs3 hu => ?_
        subst hu
        replace hw := hw.go hs3; replace hcR := hcR.go hs3; replace hr := hr.go hs3; replace hats := hats.go hs3; replace hst := hst.go hs3
        repeat (first | ((with_reducible refine q0 ?_); first | refine q1 ?_ | ((with_reducible refine gate_bin ?_); first | refine q2 ?_ | refine q3 ?_) | ((with_reducible refine gate_len ?_); refine q4 ?_) | ((with_reducible refine gate_guard ?_); first | refine q5 ?_ | refine q6 ?_)) | (with_reducible first | refine w_seq ?_ | refine w_region ?_ | refine w_ops_nil ?_ | refine w_skip ?_ | refine w_block ?_ | refine w_blk ?_) | ((with_reducible refine gate_exit ?_); refine q7 ?_) | ((with_reducible refine gate_cond ?_); first | refine q8 ?_ | refine q9 ?_))
        refine w_loadS (us := [vB, vN, vM]) hcR rfl rfl rfl rfl rfl ?_
        repeat (first | ((with_reducible refine q0 ?_); first | refine q1 ?_ | ((with_reducible refine gate_bin ?_); first | refine q2 ?_ | refine q3 ?_) | ((with_reducible refine gate_len ?_); refine q4 ?_) | ((with_reducible refine gate_guard ?_); first | refine q5 ?_ | refine q6 ?_)) | (with_reducible first | refine w_seq ?_ | refine w_region ?_ | refine w_ops_nil ?_ | refine w_skip ?_ | refine w_block ?_ | refine w_blk ?_) | ((with_reducible refine gate_exit ?_); refine q7 ?_) | ((with_reducible refine gate_cond ?_); first | refine q8 ?_ | refine q9 ?_))
        obtain ⟨n1, n2, n3, n4, n5⟩ := name_step hok s
        refine w_callF rfl (ref08_Name s B m h3 hr (by omega) (by omega) (by omega)) rfl fun u h4 hs4 hR => ?_
        obtain ⟨vB', vN', vM', rfl, hr4⟩ := hR
        replace hw := hw.go hs4; replace hcR := hcR.go hs4; replace hats := hats.go hs4; replace hst := hst.go hs4
        repeat (first | ((with_reducible refine q0 ?_); first | refine q1 ?_ | ((with_reducible refine gate_bin ?_); first | refine q2 ?_ | refine q3 ?_) | ((with_reducible refine gate_len ?_); refine q4 ?_) | ((with_reducible refine gate_guard ?_); first | refine q5 ?_ | refine q6 ?_)) | (with_reducible first | refine w_seq ?_ | refine w_region ?_ | refine w_ops_nil ?_ | refine w_skip ?_ | refine w_block ?_ | refine w_blk ?_) | ((with_reducible refine gate_exit ?_); refine q7 ?_) | ((with_reducible refine gate_cond ?_); first | refine q8 ?_ | refine q9 ?_))
        refine w_alloc 42 (vs := [.slice none 0 0, .slice none 0 0, .slice none 0 0]) rfl rfl fun h5 bn hs5 hcN => ?_
        replace hw := hw.go hs5; replace hcR := hcR.go hs5; replace hats := hats.go hs5; replace hst := hst.go hs5
        replace hr4 := hr4.go hs5
        have hone : ∀ u ∈ [vB', vN', vM'], u.oneCell' = true := by simp [hr4.b.isSl.one, hr4.n.isSl.one, hr4.a.isSl.one]
        repeat (first | ((with_reducible refine q0 ?_); first | refine q1 ?_ | ((with_reducible refine gate_bin ?_); first | refine q2 ?_ | refine q3 ?_) | ((with_reducible refine gate_len ?_); refine q4 ?_) | ((with_reducible refine gate_guard ?_); first | refine q5 ?_ | refine q6 ?_)) | (with_reducible first | refine w_seq ?_ | refine w_region ?_ | refine w_ops_nil ?_ | refine w_skip ?_ | refine w_block ?_ | refine w_blk ?_) | ((with_reducible refine gate_exit ?_); refine q7 ?_) | ((with_reducible refine gate_cond ?_); first | refine q8 ?_ | refine q9 ?_))
        refine w_store (us := [vB', vN', vM']) (vs' := [vB', vN', vM']) hcN rfl rfl rfl rfl hone (by simp) rfl fun h6 hb6 hs6 hcN6 => ?_
        replace hw := hw.go hs6; replace hcR := hcR.go hs6; replace hats := hats.go hs6; replace hst := hst.go hs6; replace hr4 := hr4.go hs6
        repeat (first | ((with_reducible refine q0 ?_); first | refine q1 ?_ | ((with_reducible refine gate_bin ?_); first | refine q2 ?_ | refine q3 ?_) | ((with_reducible refine gate_len ?_); refine q4 ?_) | ((with_reducible refine gate_guard ?_); first | refine q5 ?_ | refine q6 ?_)) | (with_reducible first | refine w_seq ?_ | refine w_region ?_ | refine w_ops_nil ?_ | refine w_skip ?_ | refine w_block ?_ | refine w_blk ?_) | ((with_reducible refine gate_exit ?_); refine q7 ?_) | ((with_reducible refine gate_cond ?_); first | refine q8 ?_ | refine q9 ?_))
        refine w_loadS (us := [vB', vN', vM']) hcN6 rfl rfl rfl rfl rfl ?_
        refine w_store (us := [vB', vN', vM']) (vs' := [vB', vN', vM']) hcR rfl rfl rfl rfl hone (by simp) rfl fun h7 hb7 hs7 hcR7 => ?_
        replace hw := hw.go hs7; replace hats := hats.go hs7; replace hst := hst.go hs7; replace hr4 := hr4.go hs7
        repeat (first | ((with_reducible refine q0 ?_); first | refine q1 ?_ | ((with_reducible refine gate_bin ?_); first | refine q2 ?_ | refine q3 ?_) | ((with_reducible refine gate_len ?_); refine q4 ?_) | ((with_reducible refine gate_guard ?_); first | refine q5 ?_ | refine q6 ?_)) | (with_reducible first | refine w_seq ?_ | refine w_region ?_ | refine w_ops_nil ?_ | refine w_skip ?_ | refine w_block ?_ | refine w_blk ?_) | ((with_reducible refine gate_exit ?_); refine q7 ?_) | ((with_reducible refine gate_cond ?_); first | refine q8 ?_ | refine q9 ?_))
        refine w_callF rfl (Writer_Name bw s B m h7 hw (by omega) (by omega)) rfl fun u h8 hs8 hR => ?_
        obtain ⟨rfl, hw8⟩ := hR
        replace hats := hats.go hs8; replace hst := hst.go hs8; replace hr4 := hr4.go hs8
        replace hcR7 := hcR7.go hs8
        repeat (first | ((with_reducible refine q0 ?_); first | refine q1 ?_ | ((with_reducible refine gate_bin ?_); first | refine q2 ?_ | refine q3 ?_) | ((with_reducible refine gate_len ?_); refine q4 ?_) | ((with_reducible refine gate_guard ?_); first | refine q5 ?_ | refine q6 ?_)) | (with_reducible first | refine w_seq ?_ | refine w_region ?_ | refine w_ops_nil ?_ | refine w_skip ?_ | refine w_block ?_ | refine w_blk ?_) | ((with_reducible refine gate_exit ?_); refine q7 ?_) | ((with_reducible refine gate_cond ?_); first | refine q8 ?_ | refine q9 ?_))
        refine w_neBool rfl rfl rfl ?_
        refine w_known 44 (.bool false) rfl (ne_false _) ?_
        repeat (first | ((with_reducible refine q0 ?_); first | refine q1 ?_ | ((with_reducible refine gate_bin ?_); first | refine q2 ?_ | refine q3 ?_) | ((with_reducible refine gate_len ?_); refine q4 ?_) | ((with_reducible refine gate_guard ?_); first | refine q5 ?_ | refine q6 ?_)) | (with_reducible first | refine w_seq ?_ | refine w_region ?_ | refine w_ops_nil ?_ | refine w_skip ?_ | refine w_block ?_ | refine w_blk ?_) | ((with_reducible refine gate_exit ?_); refine q7 ?_) | ((with_reducible refine gate_cond ?_); first | refine q8 ?_ | refine q9 ?_))
        refine w_cut (ι := Unit) (fun _ => [(0, v1), (1, v2), (5, .pointer (some ⟨bw, 0, none⟩)), (6, .pointer (some ⟨br, 0, none⟩)), (7, vA), (8, .int .i64 (i : Int)), (10, .int .i64 (if mayB s = true then (B.length : Int) else -1))]) (fun _ w => w = h8.w) ?_ ?_
        · refine w_cond rfl (fun hm => ?_) (fun hm => ?_)
          · repeat (first | ((with_reducible refine q0 ?_); first | refine q1 ?_ | ((with_reducible refine gate_bin ?_); first | refine q2 ?_ | refine q3 ?_) | ((with_reducible refine gate_len ?_); refine q4 ?_) | ((with_reducible refine gate_guard ?_); first | refine q5 ?_ | refine q6 ?_)) | (with_reducible first | refine w_seq ?_ | refine w_region ?_ | refine w_ops_nil ?_ | refine w_skip ?_ | refine w_block ?_ | refine w_blk ?_) | ((with_reducible refine gate_exit ?_); refine q7 ?_) | ((with_reducible refine gate_cond ?_); first | refine q8 ?_ | refine q9 ?_))
            refine w_meet () rfl ⟨rfl, rfl, rfl, rfl, rfl, rfl, ?_, trivial⟩
            rw [if_neg (by simpa using hm)]; rfl
          · repeat (first | ((with_reducible refine q0 ?_); first | refine q1 ?_ | ((with_reducible refine gate_bin ?_); first | refine q2 ?_ | refine q3 ?_) | ((with_reducible refine gate_len ?_); refine q4 ?_) | ((with_reducible refine gate_guard ?_); first | refine q5 ?_ | refine q6 ?_)) | (with_reducible first | refine w_seq ?_ | refine w_region ?_ | refine w_ops_nil ?_ | refine w_skip ?_ | refine w_block ?_ | refine w_blk ?_) | ((with_reducible refine gate_exit ?_); refine q7 ?_) | ((with_reducible refine gate_cond ?_); first | refine q8 ?_ | refine q9 ?_))
            refine w_meet () rfl ⟨rfl, rfl, rfl, rfl, rfl, rfl, ?_, trivial⟩
            rw [if_pos (by simpa using hm)]; rfl
        rintro _ _ rfl
        generalize hz : (if mayB s = true then (B.length : Int) else -1) = z at n5 ⊢
        obtain ⟨Y, hY⟩ := n2
        generalize hE : nameEnd B m s = E at n1 hY n3 n4 n5 hr4 hw8
        obtain ⟨B', m'⟩ := E
        dsimp only at n1 hY n3 n4 n5 hr4 hw8
        repeat (first | ((with_reducible refine q0 ?_); first | refine q1 ?_ | ((with_reducible refine gate_bin ?_); first | refine q2 ?_ | refine q3 ?_) | ((with_reducible refine gate_len ?_); refine q4 ?_) | ((with_reducible refine gate_guard ?_); first | refine q5 ?_ | refine q6 ?_)) | (with_reducible first | refine w_seq ?_ | refine w_region ?_ | refine w_ops_nil ?_ | refine w_skip ?_ | refine w_block ?_ | refine w_blk ?_) | ((with_reducible refine gate_exit ?_); refine q7 ?_) | ((with_reducible refine gate_cond ?_); first | refine q8 ?_ | refine q9 ?_))
        refine w_buildSlR El.int [z] rfl rfl rfl rfl fun h9 v9 hs9 hr9 => ?_
        refine w_append (hats.go hs9) hr9 rfl rfl rfl (by decide) (by simp; omega) rfl fun h10 v10 hs10 ho10 => ?_
        have hst10 := (hst.go hs9).go hs10
        have hw10 := (hw8.go hs9).go hs10
        have hr10 := (hr4.go hs9).go hs10
        have hcR10 := (hcR7.go hs9).go hs10
        have hall10 : ∀ (Z : List UInt8) (j : Nat) (z' : Int) (s' : List UInt8), (ats ++ [z])[j]? = some z' → l[j]? = some s' → AtOk (B' ++ Z) z' (s'.take 40) := by
          intro Z j z' s' hj hj2
          rcases Nat.lt_or_ge j ats.length with h | h
          · rw [List.getElem?_append_left h] at hj
            rw [hY, List.append_assoc]; exact (hall j z' s' hj hj2).append _
          · have hji : j = i := by have := (List.getElem?_eq_some_iff.1 hj).1; simp only [List.length_append, List.length_cons, List.length_nil] at this; omega
            subst hji
            rw [List.getElem?_append_right h, show j - ats.length = 0 by omega] at hj
            simp only [List.getElem?_cons_zero, Option.some.injEq] at hj
            rw [List.getElem?_eq_getElem hlt] at hj2
            simp only [Option.some.injEq] at hj2
            subst hj; rw [← hj2, hs]; exact n5.append Z
        clear hw hcR hr hats hst hw8 hr4 hcR7 hs2 hs3 hs4 hs5 hs6 hs7 hs8 hs9 hs10 hcN hcN6 hr9
        repeat (first | ((with_reducible refine q0 ?_); first | refine q1 ?_ | ((with_reducible refine gate_bin ?_); first | refine q2 ?_ | refine q3 ?_) | ((with_reducible refine gate_len ?_); refine q4 ?_) | ((with_reducible refine gate_guard ?_); first | refine q5 ?_ | refine q6 ?_)) | (with_reducible first | refine w_seq ?_ | refine w_region ?_ | refine w_ops_nil ?_ | refine w_skip ?_ | refine w_block ?_ | refine w_blk ?_) | ((with_reducible refine gate_exit ?_); refine q7 ?_) | ((with_reducible refine gate_cond ?_); first | refine q8 ?_ | refine q9 ?_))
        refine w_lenSl (hraw.go hst10).isSl rfl rfl ?_
        repeat (first | ((with_reducible refine q0 ?_); first | refine q1 ?_ | ((with_reducible refine gate_bin ?_); first | refine q2 ?_ | refine q3 ?_) | ((with_reducible refine gate_len ?_); refine q4 ?_) | ((with_reducible refine gate_guard ?_); first | refine q5 ?_ | refine q6 ?_)) | (with_reducible first | refine w_seq ?_ | refine w_region ?_ | refine w_ops_nil ?_ | refine w_skip ?_ | refine w_block ?_ | refine w_blk ?_) | ((with_reducible refine gate_exit ?_); refine q7 ?_) | ((with_reducible refine gate_cond ?_); first | refine q8 ?_ | refine q9 ?_))
        refine w_condP rfl (fun hr0 => ?_) (fun hr0 => ?_)
        · have hrlt : i < raw.length := by omega
          repeat (first | ((with_reducible refine q0 ?_); first | refine q1 ?_ | ((with_reducible refine gate_bin ?_); first | refine q2 ?_ | refine q3 ?_) | ((with_reducible refine gate_len ?_); refine q4 ?_) | ((with_reducible refine gate_guard ?_); first | refine q5 ?_ | refine q6 ?_)) | (with_reducible first | refine w_seq ?_ | refine w_region ?_ | refine w_ops_nil ?_ | refine w_skip ?_ | refine w_block ?_ | refine w_blk ?_) | ((with_reducible refine gate_exit ?_); refine q7 ?_) | ((with_reducible refine gate_cond ?_); first | refine q8 ?_ | refine q9 ?_))
          refine w_idx (hraw.go hst10) rfl rfl (by omega) (by simp; omega) rfl ?_
          refine w_loadE (i := i) (y := raw[i]) (hraw.go hst10) rfl (by simp [hrlt]) rfl rfl ?_
          refine w_buildSlR El.u8 [raw[i]] rfl rfl rfl rfl fun h11 v11 hs11 hr11 => ?_
          refine w_callF rfl (Writer_Raw bw B' m' [raw[i]] h11 (hw10.go hs11) hr11 (by (try simp only [List.length_append, List.length_cons, List.length_nil]); omega)) rfl fun u h12 hs12 hw12 => ?_
          have hst12 := (hst10.go hs11).go hs12
          have hr12 := (hr10.go hs11).go hs12
          have hcR12 := (hcR10.go hs11).go hs12
          have ho12 := (ho10.go hs11).go hs12
          repeat (first | ((with_reducible refine q0 ?_); first | refine q1 ?_ | ((with_reducible refine gate_bin ?_); first | refine q2 ?_ | refine q3 ?_) | ((with_reducible refine gate_len ?_); refine q4 ?_) | ((with_reducible refine gate_guard ?_); first | refine q5 ?_ | refine q6 ?_)) | (with_reducible first | refine w_seq ?_ | refine w_region ?_ | refine w_ops_nil ?_ | refine w_skip ?_ | refine w_block ?_ | refine w_blk ?_) | ((with_reducible refine gate_exit ?_); refine q7 ?_) | ((with_reducible refine gate_cond ?_); first | refine q8 ?_ | refine q9 ?_))
          refine d_begin (some 7) [] (by kernel_rfl) fun g2 hsd => ?_
          have hst13 := hst12.go hsd
          have hr13 := hr12.go hsd
          have hcR13 := hcR12.go hsd
          have ho13 := ho12.go hsd
          have hw13 := hw12.go hsd
          have hraw13 := hraw.go hst13
          refine d_read 0 calm_ret rfl (by kernel_rfl) rfl  (fun h hs => r_fldA (by decide) rfl) ?_
          refine d_read 1 calm_ret rfl (by kernel_rfl) rfl  (fun h hs => r_load1 (hcR13.go hs) rfl rfl rfl) ?_
          refine d_pure 2 calm_ret rfl (by kernel_rfl) rfl rfl ?_; refine d_pure 3 calm_ret rfl (by kernel_rfl) rfl rfl ?_
          refine d_read 4 calm_ret rfl (by kernel_rfl) rfl  (fun h hs => r_idx (hraw13.go hs) rfl rfl (by omega) (by simp; omega)) ?_
          refine d_read 5 calm_ret rfl (by kernel_rfl) rfl  (fun h hs => r_loadE (i := i) (y := raw[i]) (hraw13.go hs) rfl (by simp [hrlt]) rfl) ?_
          refine d_exec1 6 (by kernel_rfl) rfl ?_
          refine w_buildSlR El.u8 [raw[i]] rfl rfl rfl rfl fun h14 v14 hs14 hr14 => ?_
          repeat (first | ((with_reducible refine q0 ?_); first | refine q1 ?_ | ((with_reducible refine gate_bin ?_); first | refine q2 ?_ | refine q3 ?_) | ((with_reducible refine gate_len ?_); refine q4 ?_) | ((with_reducible refine gate_guard ?_); first | refine q5 ?_ | refine q6 ?_)) | (with_reducible first | refine w_seq ?_ | refine w_region ?_ | refine w_ops_nil ?_ | refine w_skip ?_ | refine w_block ?_ | refine w_blk ?_) | ((with_reducible refine gate_exit ?_); refine q7 ?_) | ((with_reducible refine gate_cond ?_); first | refine q8 ?_ | refine q9 ?_))
          refine d_next (fun _ => ⟨h14, rfl, hs14⟩) ?_
          refine d_exec1 7 (by kernel_rfl) rfl ?_
          refine w_append (hr13.b.go hs14) hr14 rfl rfl rfl (by decide) (by (try simp only [List.length_append, List.length_cons, List.length_nil]); omega) rfl fun h15 v15 hs15 ho15 => ?_
          repeat (first | ((with_reducible refine q0 ?_); first | refine q1 ?_ | ((with_reducible refine gate_bin ?_); first | refine q2 ?_ | refine q3 ?_) | ((with_reducible refine gate_len ?_); refine q4 ?_) | ((with_reducible refine gate_guard ?_); first | refine q5 ?_ | refine q6 ?_)) | (with_reducible first | refine w_seq ?_ | refine w_region ?_ | refine w_ops_nil ?_ | refine w_skip ?_ | refine w_block ?_ | refine w_blk ?_) | ((with_reducible refine gate_exit ?_); refine q7 ?_) | ((with_reducible refine gate_cond ?_); first | refine q8 ?_ | refine q9 ?_))
          refine d_over (by kernel_rfl) ?_
          refine d_phase (some 9) [] (by kernel_rfl) ?_
          refine d_read 8 calm_ret rfl (by kernel_rfl) rfl  (fun h hs => r_fldA (by decide) rfl) ?_
          refine d_exec1 9 (by kernel_rfl) rfl ?_
          refine w_store1 ((hcR13.go hs14).go hs15) rfl rfl ho15.isSl.one (by simp) fun h16 hb16 hs16 hcR16 => ?_
          repeat (first | ((with_reducible refine q0 ?_); first | refine q1 ?_ | ((with_reducible refine gate_bin ?_); first | refine q2 ?_ | refine q3 ?_) | ((with_reducible refine gate_len ?_); refine q4 ?_) | ((with_reducible refine gate_guard ?_); first | refine q5 ?_ | refine q6 ?_)) | (with_reducible first | refine w_seq ?_ | refine w_region ?_ | refine w_ops_nil ?_ | refine w_skip ?_ | refine w_block ?_ | refine w_blk ?_) | ((with_reducible refine gate_exit ?_); refine q7 ?_) | ((with_reducible refine gate_cond ?_); first | refine q8 ?_ | refine q9 ?_))
          refine d_over (by kernel_rfl) ?_
          refine d_done (by kernel_rfl) ?_
          repeat (first | ((with_reducible refine q0 ?_); first | refine q1 ?_ | ((with_reducible refine gate_bin ?_); first | refine q2 ?_ | refine q3 ?_) | ((with_reducible refine gate_len ?_); refine q4 ?_) | ((with_reducible refine gate_guard ?_); first | refine q5 ?_ | refine q6 ?_)) | (with_reducible first | refine w_seq ?_ | refine w_region ?_ | refine w_ops_nil ?_ | refine w_skip ?_ | refine w_block ?_ | refine w_blk ?_) | ((with_reducible refine gate_exit ?_); refine q7 ?_) | ((with_reducible refine gate_cond ?_); first | refine q8 ?_ | refine q9 ?_))
          refine w_again (v10, i + 1) (by dsimp only; omega) ⟨h16, B' ++ [raw[i]], m', v15, vN', vM', ats ++ [z], rfl, ((hst13.go hs14).go hs15).go hs16, ((hw13.go hs14).go hs15).go hs16, hcR16, ⟨ho15.go hs16, ((hr13.n.go hs14).go hs15).go hs16, ((hr13.a.go hs14).go hs15).go hs16, hr13.s⟩,
            ((ho13.go hs14).go hs15).go hs16, by dsimp only; omega, by dsimp only; omega, (by (try simp only [List.length_append, List.length_cons, List.length_nil]); omega), (by (try simp only [List.length_append, List.length_cons, List.length_nil]); omega), (by (try simp only [List.length_append, List.length_cons, List.length_nil]); omega), n1.append _, hall10 _⟩ ⟨rfl, rfl, rfl, rfl, rfl, rfl, trivial⟩
        · repeat (first | ((with_reducible refine q0 ?_); first | refine q1 ?_ | ((with_reducible refine gate_bin ?_); first | refine q2 ?_ | refine q3 ?_) | ((with_reducible refine gate_len ?_); refine q4 ?_) | ((with_reducible refine gate_guard ?_); first | refine q5 ?_ | refine q6 ?_)) | (with_reducible first | refine w_seq ?_ | refine w_region ?_ | refine w_ops_nil ?_ | refine w_skip ?_ | refine w_block ?_ | refine w_blk ?_) | ((with_reducible refine gate_exit ?_); refine q7 ?_) | ((with_reducible refine gate_cond ?_); first | refine q8 ?_ | refine q9 ?_))
          refine w_again (v10, i + 1) (by dsimp only; omega) ⟨h10, B', m', vB', vN', vM', ats ++ [z], rfl, hst10, hw10, hcR10, hr10, ho10, by dsimp only; omega, by dsimp only; omega, (by (try simp only [List.length_append, List.length_cons, List.length_nil]); omega), (by (try simp only [List.length_append, List.length_cons, List.length_nil]); omega), (by (try simp only [List.length_append, List.length_cons, List.length_nil]); omega), n1, by have := hall10 []; simpa using this⟩ ⟨rfl, rfl, rfl, rfl, rfl, rfl, trivial⟩
      · repeat (first | ((with_reducible refine q0 ?_); first | refine q1 ?_ | ((with_reducible refine gate_bin ?_); first | refine q2 ?_ | refine q3 ?_) | ((with_reducible refine gate_len ?_); refine q4 ?_) | ((with_reducible refine gate_guard ?_); first | refine q5 ?_ | refine q6 ?_)) | (with_reducible first | refine w_seq ?_ | refine w_region ?_ | refine w_ops_nil ?_ | refine w_skip ?_ | refine w_block ?_ | refine w_blk ?_) | ((with_reducible refine gate_exit ?_); refine q7 ?_) | ((with_reducible refine gate_cond ?_); first | refine q8 ?_ | refine q9 ?_))
        exact w_meet _ ⟨h, B, m, vB, vN, vM, ats, rfl, hst, hw, hcR, hr, hats, by omega, by omega, by omega, hall⟩ ⟨rfl, rfl, rfl, rfl, trivial⟩
    · repeat (first | ((with_reducible refine q0 ?_); first | refine q1 ?_ | ((with_reducible refine gate_bin ?_); first | refine q2 ?_ | refine q3 ?_) | ((with_reducible refine gate_len ?_); refine q4 ?_) | ((with_reducible refine gate_guard ?_); first | refine q5 ?_ | refine q6 ?_)) | (with_reducible first | refine w_seq ?_ | refine w_region ?_ | refine w_ops_nil ?_ | refine w_skip ?_ | refine w_block ?_ | refine w_blk ?_) | ((with_reducible refine gate_exit ?_); refine q7 ?_) | ((with_reducible refine gate_cond ?_); first | refine q8 ?_ | refine q9 ?_))
      exact w_meet _ ⟨h, B, m, vB, vN, vM, ats, rfl, hst, hw, hcR, hr, hats, by omega, by omega, by omega, hall⟩ ⟨rfl, rfl, rfl, rfl, trivial⟩
  clear hcW hcR hsA hsB
  rintro vA _ ⟨h, B, m, vB, vN, vM, ats, rfl, hst, hw, hcR, hr, hats, hal, hal2, hBl, hall⟩
  repeat (first | ((with_reducible refine q0 ?_); first | refine q1 ?_ | ((with_reducible refine gate_bin ?_); first | refine q2 ?_ | refine q3 ?_) | ((with_reducible refine gate_len ?_); refine q4 ?_) | ((with_reducible refine gate_guard ?_); first | refine q5 ?_ | refine q6 ?_)) | (with_reducible first | refine w_seq ?_ | refine w_region ?_ | refine w_ops_nil ?_ | refine w_skip ?_ | refine w_block ?_ | refine w_blk ?_) | ((with_reducible refine gate_exit ?_); refine q7 ?_) | ((with_reducible refine gate_cond ?_); first | refine q8 ?_ | refine q9 ?_))
  refine w_callF rfl (Writer_Bytes bw B m h hw (by omega)) rfl fun vb h2 hs2 hrb => ?_
  replace hw := hw.go hs2; replace hcR := hcR.go hs2; replace hr := hr.go hs2; replace hats := hats.go hs2; replace hst := hst.go hs2
  repeat (first | ((with_reducible refine q0 ?_); first | refine q1 ?_ | ((with_reducible refine gate_bin ?_); first | refine q2 ?_ | refine q3 ?_) | ((with_reducible refine gate_len ?_); refine q4 ?_) | ((with_reducible refine gate_guard ?_); first | refine q5 ?_ | refine q6 ?_)) | (with_reducible first | refine w_seq ?_ | refine w_region ?_ | refine w_ops_nil ?_ | refine w_skip ?_ | refine w_block ?_ | refine w_blk ?_) | ((with_reducible refine gate_exit ?_); refine q7 ?_) | ((with_reducible refine gate_cond ?_); first | refine q8 ?_ | refine q9 ?_))
  refine d_begin (some 3) [] (by kernel_rfl) fun g2 hsd => ?_
  replace hw := hw.go hsd; replace hcR := hcR.go hsd; replace hr := hr.go hsd; replace hats := hats.go hsd; replace hst := hst.go hsd; replace hrb := hrb.go hsd
  refine d_pure 0 calm_ret rfl (by kernel_rfl) rfl rfl ?_
  refine d_read 1 calm_ret rfl (by kernel_rfl) rfl  (fun h hs => r_fldA (by decide) rfl) ?_
  refine d_read 2 calm_ret rfl (by kernel_rfl) rfl  (fun h hs => r_load1 (hcR.go hs) rfl rfl rfl) ?_
  refine d_exec1 3 (by kernel_rfl) rfl ?_
  refine w_callF rfl (ref08_SameBytes B B g2 hrb hr.b.rd) rfl fun u h3 hs3 hu => ?_
  subst hu
  replace hw := hw.go hs3; replace hcR := hcR.go hs3; replace hr := hr.go hs3; replace hats := hats.go hs3; replace hst := hst.go hs3; replace hrb := hrb.go hs3
  refine w_known 74 (.bool true) rfl (eq_true_ _) ?_
  repeat (first | ((with_reducible refine q0 ?_); first | refine q1 ?_ | ((with_reducible refine gate_bin ?_); first | refine q2 ?_ | refine q3 ?_) | ((with_reducible refine gate_len ?_); refine q4 ?_) | ((with_reducible refine gate_guard ?_); first | refine q5 ?_ | refine q6 ?_)) | (with_reducible first | refine w_seq ?_ | refine w_region ?_ | refine w_ops_nil ?_ | refine w_skip ?_ | refine w_block ?_ | refine w_blk ?_) | ((with_reducible refine gate_exit ?_); refine q7 ?_) | ((with_reducible refine gate_cond ?_); first | refine q8 ?_ | refine q9 ?_))
  refine d_over (by kernel_rfl) ?_
  refine d_phase none [] (by kernel_rfl) ?_
  refine d_pure 4 calm_ret rfl (by kernel_rfl) rfl rfl ?_; refine d_pure 5 calm_ret rfl (by kernel_rfl) rfl rfl ?_
  refine d_readG 7 calm_ret rfl rfl rfl (by kernel_rfl) rfl  (fun h hs => r_fldA (by decide) rfl) ?_
  refine d_readG 8 calm_ret rfl rfl rfl (by kernel_rfl) rfl  (fun h hs => r_load1 (hcR.go hs) rfl rfl rfl) ?_
  refine d_readG 9 calm_ret rfl rfl rfl (by kernel_rfl) rfl  (fun h hs => r_lenSl hr.b.isSl rfl) ?_
  refine d_exec1 6 (by kernel_rfl) rfl ?_
  refine w_guard_yes' rfl rfl rfl rfl ?_
  refine w_callF rfl (Writer_Len bw B m h3 hw) rfl fun u h4 hs4 hu => ?_
  subst hu
  replace hrb := hrb.go hs4; replace hats := hats.go hs4; replace hst := hst.go hs4
  repeat (first | ((with_reducible refine q0 ?_); first | refine q1 ?_ | ((with_reducible refine gate_bin ?_); first | refine q2 ?_ | refine q3 ?_) | ((with_reducible refine gate_len ?_); refine q4 ?_) | ((with_reducible refine gate_guard ?_); first | refine q5 ?_ | refine q6 ?_)) | (with_reducible first | refine w_seq ?_ | refine w_region ?_ | refine w_ops_nil ?_ | refine w_skip ?_ | refine w_block ?_ | refine w_blk ?_) | ((with_reducible refine gate_exit ?_); refine q7 ?_) | ((with_reducible refine gate_cond ?_); first | refine q8 ?_ | refine q9 ?_))
  refine d_next (fun _ => ⟨h4, rfl, hs4⟩) ?_
  refine d_guard_pure 10 calm_ret rfl rfl rfl (by kernel_rfl) rfl rfl ?_
  refine d_known 81 (.bool false) rfl (ne_false _) ?_
  refine d_pure 11 calm_ret rfl (by kernel_rfl) rfl rfl ?_
  refine d_done (by kernel_rfl) ?_
  repeat (first | ((with_reducible refine q0 ?_); first | refine q1 ?_ | ((with_reducible refine gate_bin ?_); first | refine q2 ?_ | refine q3 ?_) | ((with_reducible refine gate_len ?_); refine q4 ?_) | ((with_reducible refine gate_guard ?_); first | refine q5 ?_ | refine q6 ?_)) | (with_reducible first | refine w_seq ?_ | refine w_region ?_ | refine w_ops_nil ?_ | refine w_skip ?_ | refine w_blk ?_) | ((with_reducible refine gate_exit ?_); refine q7 ?_) | ((with_reducible refine gate_cond ?_); first | refine q8 ?_ | refine q9 ?_))
  have hlm := hl.isSl.le
  refine w_cut (ι := Unit) (fun _ => []) (fun _ w => ∃ h : G, h.w = w ∧ Step [] [11, 12, 13, 21, 22, 23, 41, 42, 43] g1 h) ?_ ?_
  · repeat (first | ((with_reducible refine q0 ?_); first | refine q1 ?_ | ((with_reducible refine gate_bin ?_); first | refine q2 ?_ | refine q3 ?_) | ((with_reducible refine gate_len ?_); refine q4 ?_) | ((with_reducible refine gate_guard ?_); first | refine q5 ?_ | refine q6 ?_)) | (with_reducible first | refine w_seq ?_ | refine w_region ?_ | refine w_ops_nil ?_ | refine w_skip ?_ | refine w_block ?_ | refine w_blk ?_) | ((with_reducible refine gate_exit ?_); refine q7 ?_) | ((with_reducible refine gate_cond ?_); first | refine q8 ?_ | refine q9 ?_))
    refine w_loop (ι := Nat) (fun i => [(0, v1), (7, vA), (13, vb), (14, .int .i64 (i : Int))])
      (fun i w => ∃ h : G, h.w = w ∧ Step [] [11, 12, 13, 21, 22, 23, 41, 42, 43] g1 h ∧ Rd h 0 El.u8 vb B ∧ Own h 43 El.int 3 vA ats ∧ i ≤ ats.length)
      (fun i => ats.length - i) 0 ⟨h4, rfl, hst, hrb, hats, by omega⟩ ⟨rfl, rfl, rfl, rfl, trivial⟩ ?_
    clear hst hrb hats hw hcR hr
    rintro i _ ⟨h, rfl, hst, hrb, hats, hi⟩
    have hl0 := hl.go hst
    repeat (first | ((with_reducible refine q0 ?_); first | refine q1 ?_ | ((with_reducible refine gate_bin ?_); first | refine q2 ?_ | refine q3 ?_) | ((with_reducible refine gate_len ?_); refine q4 ?_) | ((with_reducible refine gate_guard ?_); first | refine q5 ?_ | refine q6 ?_)) | (with_reducible first | refine w_seq ?_ | refine w_region ?_ | refine w_ops_nil ?_ | refine w_skip ?_ | refine w_block ?_ | refine w_blk ?_) | ((with_reducible refine gate_exit ?_); refine q7 ?_) | ((with_reducible refine gate_cond ?_); first | refine q8 ?_ | refine q9 ?_))
    refine w_lenSl hats.isSl rfl rfl ?_
    repeat (first | ((with_reducible refine q0 ?_); first | refine q1 ?_ | ((with_reducible refine gate_bin ?_); first | refine q2 ?_ | refine q3 ?_) | ((with_reducible refine gate_len ?_); refine q4 ?_) | ((with_reducible refine gate_guard ?_); first | refine q5 ?_ | refine q6 ?_)) | (with_reducible first | refine w_seq ?_ | refine w_region ?_ | refine w_ops_nil ?_ | refine w_skip ?_ | refine w_block ?_ | refine w_blk ?_) | ((with_reducible refine gate_exit ?_); refine q7 ?_) | ((with_reducible refine gate_cond ?_); first | refine q8 ?_ | refine q9 ?_))
    refine w_condP rfl (fun hlt => ?_) (fun hlt => ?_)
    · have hlt : i < ats.length := by omega
      have hlt2 : i < l.length := by omega
      have hz := hall i ats[i] l[i] (by simp [hlt]) (by simp [hlt2])
      generalize hzz : ats[i] = z at hz
      repeat (first | ((with_reducible refine q0 ?_); first | refine q1 ?_ | ((with_reducible refine gate_bin ?_); first | refine q2 ?_ | refine q3 ?_) | ((with_reducible refine gate_len ?_); refine q4 ?_) | ((with_reducible refine gate_guard ?_); first | refine q5 ?_ | refine q6 ?_)) | (with_reducible first | refine w_seq ?_ | refine w_region ?_ | refine w_ops_nil ?_ | refine w_skip ?_ | refine w_block ?_ | refine w_blk ?_) | ((with_reducible refine gate_exit ?_); refine q7 ?_) | ((with_reducible refine gate_cond ?_); first | refine q8 ?_ | refine q9 ?_))
      refine w_idx hats.rd rfl rfl (by omega) (by simp; omega) rfl ?_
      refine w_loadE (i := i) (y := z) hats.rd rfl (by simp [hlt, hzz]) rfl rfl ?_
      repeat (first | ((with_reducible refine q0 ?_); first | refine q1 ?_ | ((with_reducible refine gate_bin ?_); first | refine q2 ?_ | refine q3 ?_) | ((with_reducible refine gate_len ?_); refine q4 ?_) | ((with_reducible refine gate_guard ?_); first | refine q5 ?_ | refine q6 ?_)) | (with_reducible first | refine w_seq ?_ | refine w_region ?_ | refine w_ops_nil ?_ | refine w_skip ?_ | refine w_block ?_ | refine w_blk ?_) | ((with_reducible refine gate_exit ?_); refine q7 ?_) | ((with_reducible refine gate_cond ?_); first | refine q8 ?_ | refine q9 ?_))
      refine w_condP rfl (fun hz0 => ?_) (fun hz0 => ?_)
      · repeat (first | ((with_reducible refine q0 ?_); first | refine q1 ?_ | ((with_reducible refine gate_bin ?_); first | refine q2 ?_ | refine q3 ?_) | ((with_reducible refine gate_len ?_); refine q4 ?_) | ((with_reducible refine gate_guard ?_); first | refine q5 ?_ | refine q6 ?_)) | (with_reducible first | refine w_seq ?_ | refine w_region ?_ | refine w_ops_nil ?_ | refine w_skip ?_ | refine w_block ?_ | refine w_blk ?_) | ((with_reducible refine gate_exit ?_); refine q7 ?_) | ((with_reducible refine gate_cond ?_); first | refine q8 ?_ | refine q9 ?_))
        exact w_again (i + 1) (by omega) ⟨h, rfl, hst, hrb, hats, by omega⟩ ⟨rfl, rfl, rfl, rfl, trivial⟩
      · rcases hz with hz | ⟨n, rfl, hnB, hmay, e, hre⟩
        · omega
        repeat (first | ((with_reducible refine q0 ?_); first | refine q1 ?_ | ((with_reducible refine gate_bin ?_); first | refine q2 ?_ | refine q3 ?_) | ((with_reducible refine gate_len ?_); refine q4 ?_) | ((with_reducible refine gate_guard ?_); first | refine q5 ?_ | refine q6 ?_)) | (with_reducible first | refine w_seq ?_ | refine w_region ?_ | refine w_ops_nil ?_ | refine w_skip ?_ | refine w_block ?_ | refine w_blk ?_) | ((with_reducible refine gate_exit ?_); refine q7 ?_) | ((with_reducible refine gate_cond ?_); first | refine q8 ?_ | refine q9 ?_))
        refine w_idx hats.rd rfl rfl (by omega) (by simp; omega) rfl ?_
        refine w_loadE (i := i) (y := (n : Int)) hats.rd rfl (by simp [hlt, hzz]) rfl rfl ?_
        refine w_callF rfl (label_Read B n h hrb (by omega) (by omega)) rfl fun u h5 hs5 hu => ?_
        rw [hre.read' hmay] at hu
        dsimp only [resR] at hu
        subst hu
        replace hst := hst.go hs5; replace hrb := hrb.go hs5; replace hats := hats.go hs5; replace hl0 := hl0.go hs5
        repeat (first | ((with_reducible refine q0 ?_); first | refine q1 ?_ | ((with_reducible refine gate_bin ?_); first | refine q2 ?_ | refine q3 ?_) | ((with_reducible refine gate_len ?_); refine q4 ?_) | ((with_reducible refine gate_guard ?_); first | refine q5 ?_ | refine q6 ?_)) | (with_reducible first | refine w_seq ?_ | refine w_region ?_ | refine w_ops_nil ?_ | refine w_skip ?_ | refine w_block ?_ | refine w_blk ?_) | ((with_reducible refine gate_exit ?_); refine q7 ?_) | ((with_reducible refine gate_cond ?_); first | refine q8 ?_ | refine q9 ?_))
        refine w_idx hl0 rfl rfl (by omega) (by simp; omega) rfl ?_
        refine w_loadE (i := i) (y := l[i]) hl0 rfl (by simp [hlt2]) rfl rfl ?_
        refine w_callF rfl (ref01_Few _ 40 h5 (by omega)) rfl fun u h6 hs6 hu => ?_
        subst hu
        rw [show (40 : Int).toNat = 40 from rfl]
        replace hst := hst.go hs6; replace hrb := hrb.go hs6; replace hats := hats.go hs6
        repeat (first | ((with_reducible refine q0 ?_); first | refine q1 ?_ | ((with_reducible refine gate_bin ?_); first | refine q2 ?_ | refine q3 ?_) | ((with_reducible refine gate_len ?_); refine q4 ?_) | ((with_reducible refine gate_guard ?_); first | refine q5 ?_ | refine q6 ?_)) | (with_reducible first | refine w_seq ?_ | refine w_region ?_ | refine w_ops_nil ?_ | refine w_skip ?_ | refine w_block ?_ | refine w_blk ?_) | ((with_reducible refine gate_exit ?_); refine q7 ?_) | ((with_reducible refine gate_cond ?_); first | refine q8 ?_ | refine q9 ?_))
        refine w_known 111 (.bool false) rfl (ne_false _) ?_
        repeat (first | ((with_reducible refine q0 ?_); first | refine q1 ?_ | ((with_reducible refine gate_bin ?_); first | refine q2 ?_ | refine q3 ?_) | ((with_reducible refine gate_len ?_); refine q4 ?_) | ((with_reducible refine gate_guard ?_); first | refine q5 ?_ | refine q6 ?_)) | (with_reducible first | refine w_seq ?_ | refine w_region ?_ | refine w_ops_nil ?_ | refine w_skip ?_ | refine w_block ?_ | refine w_blk ?_) | ((with_reducible refine gate_exit ?_); refine q7 ?_) | ((with_reducible refine gate_cond ?_); first | refine q8 ?_ | refine q9 ?_))
        exact w_again (i + 1) (by omega) ⟨h6, rfl, hst, hrb, hats, by omega⟩ ⟨rfl, rfl, rfl, rfl, trivial⟩
    · repeat (first | ((with_reducible refine q0 ?_); first | refine q1 ?_ | ((with_reducible refine gate_bin ?_); first | refine q2 ?_ | refine q3 ?_) | ((with_reducible refine gate_len ?_); refine q4 ?_) | ((with_reducible refine gate_guard ?_); first | refine q5 ?_ | refine q6 ?_)) | (with_reducible first | refine w_seq ?_ | refine w_region ?_ | refine w_ops_nil ?_ | refine w_skip ?_ | refine w_block ?_ | refine w_blk ?_) | ((with_reducible refine gate_exit ?_); refine q7 ?_) | ((with_reducible refine gate_cond ?_); first | refine q8 ?_ | refine q9 ?_))
      exact w_meet () ⟨h, rfl, hst⟩ trivial
  clear hst hrb hats hw hcR hr
  rintro _ _ ⟨h, rfl, hst⟩
  repeat (first | ((with_reducible refine q0 ?_); first | refine q1 ?_ | ((with_reducible refine gate_bin ?_); first | refine q2 ?_ | refine q3 ?_) | ((with_reducible refine gate_len ?_); refine q4 ?_) | ((with_reducible refine gate_guard ?_); first | refine q5 ?_ | refine q6 ?_)) | (with_reducible first | refine w_seq ?_ | refine w_region ?_ | refine w_ops_nil ?_ | refine w_skip ?_ | refine w_block ?_ | refine w_blk ?_) | ((with_reducible refine gate_exit ?_); refine q7 ?_) | ((with_reducible refine gate_cond ?_); first | refine q8 ?_ | refine q9 ?_))
  refine w_callF rfl (law08_lives h) rfl fun u h5 hs5 hu => ?_
  subst hu
  repeat (first | ((with_reducible refine q0 ?_); first | refine q1 ?_ | ((with_reducible refine gate_bin ?_); first | refine q2 ?_ | refine q3 ?_) | ((with_reducible refine gate_len ?_); refine q4 ?_) | ((with_reducible refine gate_guard ?_); first | refine q5 ?_ | refine q6 ?_)) | (with_reducible first | refine w_seq ?_ | refine w_region ?_ | refine w_ops_nil ?_ | refine w_skip ?_ | refine w_block ?_ | refine w_blk ?_) | ((with_reducible refine gate_exit ?_); refine q7 ?_) | ((with_reducible refine gate_cond ?_); first | refine q8 ?_ | refine q9 ?_))
  exact w_retG (res1 rfl rfl) (hst.go hs5) fun h' _ => rfl

theorem law08_Round (s ahead behind : List UInt8) (g : G) {c1 c2 : Nat} {v1 v2 : Value} (h1 : Rd g c1 El.u8 v1 ahead) (h2 : Rd g c2 El.u8 v2 behind) :
    Fn Try.prog 7 [str s, v1, v2] g [] fun u _ => u = .bool true := by
  refine enterG [] [2] Try.func7 rfl Try.ntmps7 rfl (by simp) fun g1 hv ho => ?_
  obtain ⟨c1', hc1', h1⟩ := h1.seen hv ho (by simp)
  obtain ⟨c2', hc2', h2⟩ := h2.seen hv ho (by simp)
  repeat (first | ((with_reducible refine q0 ?_); first | refine q1 ?_ | ((with_reducible refine gate_bin ?_); first | refine q2 ?_ | refine q3 ?_) | ((with_reducible refine gate_len ?_); refine q4 ?_) | ((with_reducible refine gate_guard ?_); first | refine q5 ?_ | refine q6 ?_)) | (with_reducible first | refine w_seq ?_ | refine w_region ?_ | refine w_ops_nil ?_ | refine w_skip ?_ | refine w_block ?_ | refine w_blk ?_) | ((with_reducible refine gate_exit ?_); refine q7 ?_) | ((with_reducible refine gate_cond ?_); first | refine q8 ?_ | refine q9 ?_))
  refine w_callF rfl (ref01_Few s 100 g1 (by omega)) rfl fun u ha hsa hu => ?_
  subst hu
  rw [show (100 : Int).toNat = 100 from rfl]
  generalize hs : s.take 100 = s0
  have hsl : s0.length ≤ 100 := by rw [← hs, List.length_take]; omega
  refine w_callF rfl (ref08_Good s0 ha (by omega)) rfl fun u hb hsb hu => ?_
  subst hu
  have hgl := goodB_len s0
  have hgm := good_may s0
  have hst := hsa.go hsb
  replace h1 := h1.go hst; replace h2 := h2.go hst
  repeat (first | ((with_reducible refine q0 ?_); first | refine q1 ?_ | ((with_reducible refine gate_bin ?_); first | refine q2 ?_ | refine q3 ?_) | ((with_reducible refine gate_len ?_); refine q4 ?_) | ((with_reducible refine gate_guard ?_); first | refine q5 ?_ | refine q6 ?_)) | (with_reducible first | refine w_seq ?_ | refine w_region ?_ | refine w_ops_nil ?_ | refine w_skip ?_ | refine w_block ?_ | refine w_blk ?_) | ((with_reducible refine gate_exit ?_); refine q7 ?_) | ((with_reducible refine gate_cond ?_); first | refine q8 ?_ | refine q9 ?_))
  refine w_callF rfl (law08_few ahead 50 hb h1) rfl fun u hc hsc hu => ?_
  subst hu
  replace h1 := h1.go hsc; replace h2 := h2.go hsc
  have r1 := h1.few 50
  generalize he1 : ahead.take 50 = a50 at r1
  have ha50 : a50.length ≤ 50 := by rw [← he1, List.length_take]; omega
  repeat (first | ((with_reducible refine q0 ?_); first | refine q1 ?_ | ((with_reducible refine gate_bin ?_); first | refine q2 ?_ | refine q3 ?_) | ((with_reducible refine gate_len ?_); refine q4 ?_) | ((with_reducible refine gate_guard ?_); first | refine q5 ?_ | refine q6 ?_)) | (with_reducible first | refine w_seq ?_ | refine w_region ?_ | refine w_ops_nil ?_ | refine w_skip ?_ | refine w_block ?_ | refine w_blk ?_) | ((with_reducible refine gate_exit ?_); refine q7 ?_) | ((with_reducible refine gate_cond ?_); first | refine q8 ?_ | refine q9 ?_))
  refine w_callF rfl (label_Bytes (goodB s0) hc (by omega)) rfl fun u hd hsd hR => ?_
  rw [if_pos hgm, if_pos hgm] at hR
  obtain ⟨vo, rfl, hro⟩ := hR
  have hbl : (bytesB (goodB s0)).length ≤ 80 := by
    have := good_len s0
    unfold bytesB
    rw [good_labels, List.length_append, flatMap_enc_len]
    simp only [List.length_cons, List.length_nil]; omega
  replace h2 := h2.go hsd; replace r1 := r1.go hsd
  have hst2 : Step [] [2] g1 hd := ((hst.go hsc).go hsd).nil
  repeat (first | ((with_reducible refine q0 ?_); first | refine q1 ?_ | ((with_reducible refine gate_bin ?_); first | refine q2 ?_ | refine q3 ?_) | ((with_reducible refine gate_len ?_); refine q4 ?_) | ((with_reducible refine gate_guard ?_); first | refine q5 ?_ | refine q6 ?_)) | (with_reducible first | refine w_seq ?_ | refine w_region ?_ | refine w_ops_nil ?_ | refine w_skip ?_ | refine w_block ?_ | refine w_blk ?_) | ((with_reducible refine gate_exit ?_); refine q7 ?_) | ((with_reducible refine gate_cond ?_); first | refine q8 ?_ | refine q9 ?_))
  refine w_append (Own.nil hd 2 El.u8 5) r1 rfl rfl rfl (by decide) (by (try simp only [List.length_append, List.length_cons, List.length_nil]); omega) rfl fun he v3 hse ho3 => ?_
  replace h2 := h2.go hse; replace r1 := r1.go hse; replace hro := hro.go hse
  repeat (first | ((with_reducible refine q0 ?_); first | refine q1 ?_ | ((with_reducible refine gate_bin ?_); first | refine q2 ?_ | refine q3 ?_) | ((with_reducible refine gate_len ?_); refine q4 ?_) | ((with_reducible refine gate_guard ?_); first | refine q5 ?_ | refine q6 ?_)) | (with_reducible first | refine w_seq ?_ | refine w_region ?_ | refine w_ops_nil ?_ | refine w_skip ?_ | refine w_block ?_ | refine w_blk ?_) | ((with_reducible refine gate_exit ?_); refine q7 ?_) | ((with_reducible refine gate_cond ?_); first | refine q8 ?_ | refine q9 ?_))
  refine w_append ho3 hro rfl rfl rfl (by decide) (by (try simp only [List.length_append, List.length_cons, List.length_nil]); omega) rfl fun hf v4 hsf ho4 => ?_
  replace h2 := h2.go hsf; replace r1 := r1.go hsf; replace hro := hro.go hsf
  repeat (first | ((with_reducible refine q0 ?_); first | refine q1 ?_ | ((with_reducible refine gate_bin ?_); first | refine q2 ?_ | refine q3 ?_) | ((with_reducible refine gate_len ?_); refine q4 ?_) | ((with_reducible refine gate_guard ?_); first | refine q5 ?_ | refine q6 ?_)) | (with_reducible first | refine w_seq ?_ | refine w_region ?_ | refine w_ops_nil ?_ | refine w_skip ?_ | refine w_block ?_ | refine w_blk ?_) | ((with_reducible refine gate_exit ?_); refine q7 ?_) | ((with_reducible refine gate_cond ?_); first | refine q8 ?_ | refine q9 ?_))
  refine w_callF rfl (law08_few behind 50 hf h2) rfl fun u hg hsg hu => ?_
  subst hu
  replace h2 := h2.go hsg; replace r1 := r1.go hsg; replace hro := hro.go hsg; replace ho4 := ho4.go hsg
  have r2 := h2.few 50
  generalize he2 : behind.take 50 = b50 at r2
  have hb50 : b50.length ≤ 50 := by rw [← he2, List.length_take]; omega
  refine w_append ho4 r2 rfl rfl rfl (by decide) (by (try simp only [List.length_append, List.length_cons, List.length_nil]); omega) rfl fun hh v5 hsh ho5 => ?_
  replace r1 := r1.go hsh; replace hro := hro.go hsh
  have hst3 := (((hst2.go hse).go hsf).go hsg).go hsh
  repeat (first | ((with_reducible refine q0 ?_); first | refine q1 ?_ | ((with_reducible refine gate_bin ?_); first | refine q2 ?_ | refine q3 ?_) | ((with_reducible refine gate_len ?_); refine q4 ?_) | ((with_reducible refine gate_guard ?_); first | refine q5 ?_ | refine q6 ?_)) | (with_reducible first | refine w_seq ?_ | refine w_region ?_ | refine w_ops_nil ?_ | refine w_skip ?_ | refine w_block ?_ | refine w_blk ?_) | ((with_reducible refine gate_exit ?_); refine q7 ?_) | ((with_reducible refine gate_cond ?_); first | refine q8 ?_ | refine q9 ?_))
  refine w_lenSl hro.isSl rfl rfl ?_
  have hpos : 1 ≤ (bytesB (goodB s0)).length := by unfold bytesB; simp
  repeat (first | ((with_reducible refine q0 ?_); first | refine q1 ?_ | ((with_reducible refine gate_bin ?_); first | refine q2 ?_ | refine q3 ?_) | ((with_reducible refine gate_len ?_); refine q4 ?_) | ((with_reducible refine gate_guard ?_); first | refine q5 ?_ | refine q6 ?_)) | (with_reducible first | refine w_seq ?_ | refine w_region ?_ | refine w_ops_nil ?_ | refine w_skip ?_ | refine w_block ?_ | refine w_blk ?_) | ((with_reducible refine gate_exit ?_); refine q7 ?_) | ((with_reducible refine gate_cond ?_); first | refine q8 ?_ | refine q9 ?_))
  refine w_condP rfl (fun h0 => absurd h0 (by omega)) (fun _ => ?_)
  repeat (first | ((with_reducible refine q0 ?_); first | refine q1 ?_ | ((with_reducible refine gate_bin ?_); first | refine q2 ?_ | refine q3 ?_) | ((with_reducible refine gate_len ?_); refine q4 ?_) | ((with_reducible refine gate_guard ?_); first | refine q5 ?_ | refine q6 ?_)) | (with_reducible first | refine w_seq ?_ | refine w_region ?_ | refine w_ops_nil ?_ | refine w_skip ?_ | refine w_block ?_ | refine w_blk ?_) | ((with_reducible refine gate_exit ?_); refine q7 ?_) | ((with_reducible refine gate_cond ?_); first | refine q8 ?_ | refine q9 ?_))
  refine w_lenSl r1.isSl rfl rfl ?_
  have hre := (plain_reads (labelsB (goodB s0)) a50 b50 a50.length (may_ok hgm)).read' hgm
  refine w_callF rfl (label_Read _ a50.length hh ho5.rd (by (try simp only [List.length_append, List.length_cons, List.length_nil]); omega) (by omega)) rfl fun u hi hsi hu => ?_
  rw [List.nil_append, show a50 ++ bytesB (goodB s0) ++ b50 = a50 ++ ((labelsB (goodB s0)).flatMap encB ++ [0]) ++ b50 from rfl, hre] at hu
  dsimp only [resR] at hu
  subst hu
  replace r1 := r1.go hsi; replace hro := hro.go hsi
  repeat (first | ((with_reducible refine q0 ?_); first | refine q1 ?_ | ((with_reducible refine gate_bin ?_); first | refine q2 ?_ | refine q3 ?_) | ((with_reducible refine gate_len ?_); refine q4 ?_) | ((with_reducible refine gate_guard ?_); first | refine q5 ?_ | refine q6 ?_)) | (with_reducible first | refine w_seq ?_ | refine w_region ?_ | refine w_ops_nil ?_ | refine w_skip ?_ | refine w_block ?_ | refine w_blk ?_) | ((with_reducible refine gate_exit ?_); refine q7 ?_) | ((with_reducible refine gate_cond ?_); first | refine q8 ?_ | refine q9 ?_))
  refine w_known 51 (.bool true) rfl (eq_true_ _) ?_
  repeat (first | ((with_reducible refine q0 ?_); first | refine q1 ?_ | ((with_reducible refine gate_bin ?_); first | refine q2 ?_ | refine q3 ?_) | ((with_reducible refine gate_len ?_); refine q4 ?_) | ((with_reducible refine gate_guard ?_); first | refine q5 ?_ | refine q6 ?_)) | (with_reducible first | refine w_seq ?_ | refine w_region ?_ | refine w_ops_nil ?_ | refine w_skip ?_ | refine w_block ?_ | refine w_blk ?_) | ((with_reducible refine gate_exit ?_); refine q7 ?_) | ((with_reducible refine gate_cond ?_); first | refine q8 ?_ | refine q9 ?_))
  refine w_lenSl r1.isSl rfl rfl ?_
  repeat (first | ((with_reducible refine q0 ?_); first | refine q1 ?_ | ((with_reducible refine gate_bin ?_); first | refine q2 ?_ | refine q3 ?_) | ((with_reducible refine gate_len ?_); refine q4 ?_) | ((with_reducible refine gate_guard ?_); first | refine q5 ?_ | refine q6 ?_)) | (with_reducible first | refine w_seq ?_ | refine w_region ?_ | refine w_ops_nil ?_ | refine w_skip ?_ | refine w_block ?_ | refine w_blk ?_) | ((with_reducible refine gate_exit ?_); refine q7 ?_) | ((with_reducible refine gate_cond ?_); first | refine q8 ?_ | refine q9 ?_))
  refine w_lenSl hro.isSl rfl rfl ?_
  repeat (first | ((with_reducible refine q0 ?_); first | refine q1 ?_ | ((with_reducible refine gate_bin ?_); first | refine q2 ?_ | refine q3 ?_) | ((with_reducible refine gate_len ?_); refine q4 ?_) | ((with_reducible refine gate_guard ?_); first | refine q5 ?_ | refine q6 ?_)) | (with_reducible first | refine w_seq ?_ | refine w_region ?_ | refine w_ops_nil ?_ | refine w_skip ?_ | refine w_block ?_ | refine w_blk ?_) | ((with_reducible refine gate_exit ?_); refine q7 ?_) | ((with_reducible refine gate_cond ?_); first | refine q8 ?_ | refine q9 ?_))
  refine w_known 60 (.bool true) rfl (congrArg Value.bool (decide_eq_true (by rw [List.length_append]; simp only [bytesB]; omega))) ?_
  repeat (first | ((with_reducible refine q0 ?_); first | refine q1 ?_ | ((with_reducible refine gate_bin ?_); first | refine q2 ?_ | refine q3 ?_) | ((with_reducible refine gate_len ?_); refine q4 ?_) | ((with_reducible refine gate_guard ?_); first | refine q5 ?_ | refine q6 ?_)) | (with_reducible first | refine w_seq ?_ | refine w_region ?_ | refine w_ops_nil ?_ | refine w_skip ?_ | refine w_block ?_ | refine w_blk ?_) | ((with_reducible refine gate_exit ?_); refine q7 ?_) | ((with_reducible refine gate_cond ?_); first | refine q8 ?_ | refine q9 ?_))
  refine w_callF rfl (law08_lives hi) rfl fun u hj hsj hu => ?_
  subst hu
  repeat (first | ((with_reducible refine q0 ?_); first | refine q1 ?_ | ((with_reducible refine gate_bin ?_); first | refine q2 ?_ | refine q3 ?_) | ((with_reducible refine gate_len ?_); refine q4 ?_) | ((with_reducible refine gate_guard ?_); first | refine q5 ?_ | refine q6 ?_)) | (with_reducible first | refine w_seq ?_ | refine w_region ?_ | refine w_ops_nil ?_ | refine w_skip ?_ | refine w_block ?_ | refine w_blk ?_) | ((with_reducible refine gate_exit ?_); refine q7 ?_) | ((with_reducible refine gate_cond ?_); first | refine q8 ?_ | refine q9 ?_))
  exact w_retG (res1 rfl rfl) ((hst3.go hsi).go hsj) fun h' _ => rfl
end Go.Proofs.Ytnfokdhgajanpaa
