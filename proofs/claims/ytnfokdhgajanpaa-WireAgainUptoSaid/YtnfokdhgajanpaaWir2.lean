/- Messages: which may be: the reference's May, the program's record and May. No statement of the seat is proved here. -/
import Derived.Test.YtnfokdhgajanpaaWir1
set_option linter.unusedVariables false
set_option linter.unusedSimpArgs false
namespace Go.Proofs.Ytnfokdhgajanpaa
open Go
attribute [local irreducible] Wp

/-- Read, and nobody's to change here. -/
def Rdx {α : Type} (g : G) (E : El α) (v : Value) (l : List α) : Prop := ∃ c, c < 2 ∧ Rd g c E v l
section
variable {α : Type} {E : El α} {g h : G} {v : Value} {l : List α} {M : List Nat} {c : Nat}
theorem Rd.x (hr : Rd g c E v l) (hc : c < 2 := by omega) : Rdx g E v l := ⟨c, hc, hr⟩
theorem Rdx.go (hr : Rdx g E v l) (hs : Step [] M g h) (hM : ∀ x ∈ M, 2 ≤ x := by simp) : Rdx h E v l := by
  obtain ⟨c, hc, hr⟩ := hr
  exact ⟨c, hc, hr.step hs (fun h => by have := hM _ h; omega)⟩
theorem Rdx.seen (hr : Rdx g E v l) (hv : View M g h) (ho : Out M g h) (hM : ∀ x ∈ M, 2 ≤ x := by simp) : Rdx h E v l := by
  obtain ⟨c, hc, hr⟩ := hr
  obtain ⟨c', hc', h⟩ := hr.seen hv ho (fun h => by have := hM _ h; omega)
  exact ⟨c', hc', h⟩
theorem Rdx.isSl (hr : Rdx g E v l) : IsSl v l.length := by obtain ⟨c, _, h⟩ := hr; exact h.isSl
theorem Rd.base (hr : Rd g c E v l) {i : Nat} (hi : i < l.length) : ∃ a, elemA v 0 = some a := by
  obtain ⟨A, cap, rfl, _, _, h⟩ := hr
  rcases h with rfl | ⟨a, rfl, _⟩
  · simp at hi
  · exact ⟨_, rfl⟩
end

structure Ms where
  id : Int
  flags : Int
  asked : List Qn
  ans : List Rc
  auth : List Rc
  more : List Rc
  deriving DecidableEq
def RcOk (r : Rc) : Prop := r.name.length ≤ 1000000000 ∧ r.target.length ≤ 1000000000
def MsOk (m : Ms) : Prop := (∀ q ∈ m.asked, q.name.length ≤ 1000000000) ∧ (∀ r ∈ m.ans, RcOk r) ∧ (∀ r ∈ m.auth, RcOk r) ∧ ∀ r ∈ m.more, RcOk r
def msMay (m : Ms) : Prop := (∀ q ∈ m.asked, qnMay q) ∧ wordP m.id ∧ wordP m.flags ∧ (∀ r ∈ m.ans, recMay r) ∧ (∀ r ∈ m.auth, recMay r) ∧ ∀ r ∈ m.more, recMay r
instance (m : Ms) : Decidable (msMay m) := by unfold msMay; infer_instance
/-- A message in memory: its cells. -/
def MsR (g : G) (vs : List Value) (m : Ms) : Prop :=
  ∃ vq va vu vm, vs = [.int .i64 m.id, .int .i64 m.flags, vq, va, vu, vm] ∧ Rdx g El.qn vq m.asked ∧ Rdx g El.rc va m.ans ∧ Rdx g El.rc vu m.auth ∧ Rdx g El.rc vm m.more
theorem MsR.go {g h : G} {vs : List Value} {m : Ms} {M : List Nat} (hm : MsR g vs m) (hs : Step [] M g h) (hM : ∀ x ∈ M, 2 ≤ x := by simp) : MsR h vs m := by
  obtain ⟨vq, va, vu, vm, e, h1, h2, h3, h4⟩ := hm
  exact ⟨vq, va, vu, vm, e, h1.go hs hM, h2.go hs hM, h3.go hs hM, h4.go hs hM⟩
theorem MsR.seen {g h : G} {vs : List Value} {m : Ms} {M : List Nat} (hm : MsR g vs m) (hv : View M g h) (ho : Out M g h) (hM : ∀ x ∈ M, 2 ≤ x := by simp) : MsR h vs m := by
  obtain ⟨vq, va, vu, vm, e, h1, h2, h3, h4⟩ := hm
  exact ⟨vq, va, vu, vm, e, h1.seen hv ho hM, h2.seen hv ho hM, h3.seen hv ho hM, h4.seen hv ho hM⟩
theorem MsR.len {g : G} {vs : List Value} {m : Ms} (hm : MsR g vs m) : vs.length = 6 := by obtain ⟨_, _, _, _, e, _⟩ := hm; rw [e]; rfl
theorem MsR.one {g : G} {vs : List Value} {m : Ms} (hm : MsR g vs m) : ∀ u ∈ vs, u.oneCell' = true := by
  obtain ⟨vq, va, vu, vm, e, h1, h2, h3, h4⟩ := hm
  rw [e]
  intro u hu
  simp only [List.mem_cons, List.not_mem_nil, or_false] at hu
  rcases hu with rfl | rfl | rfl | rfl | rfl | rfl
  · rfl
  · rfl
  · exact h1.isSl.one
  · exact h2.isSl.one
  · exact h3.isSl.one
  · exact h4.isSl.one

theorem ref09_records (l : List Rc) (g : G) (hl : ∀ r ∈ l, RcOk r) {v : Value} (hr : Rdx g El.rc v l) : Fn Try.prog 49 [v] g [] fun u _ => u = .bool (decide (∀ r ∈ l, recMay r)) := by
  refine enterG [] [] Try.func49 rfl Try.ntmps49 rfl (by simp) fun g1 hv ho => ?_
  replace hr := hr.seen hv ho
  have hlm := hr.isSl.le
  repeat (first|refine q1 ?_|refine q2 ?_|refine q3 ?_|refine q4 ?_|refine q5 ?_|refine q6 ?_|refine w_seq ?_|refine w_region ?_|refine w_ops_nil ?_|refine w_skip ?_|refine w_block ?_|refine w_blk ?_|refine q7 ?_|refine q8 ?_|refine q9 ?_)
  refine w_loop (ι := Nat) (fun i => [(0, v), (3, .int .i64 (i : Int))])
    (fun i w => ∃ h : G, h.w = w ∧ Step [] [] g1 h ∧ i ≤ l.length ∧ ∀ j (x : Rc), j < i → l[j]? = some x → recMay x) (fun i => l.length - i)
    0 ⟨g1, rfl, Step.refl _ _ _, by omega, fun j x hj => by omega⟩ ⟨rfl, rfl, trivial⟩ ?_
  rintro i _ ⟨h, rfl, hst, hi, hall⟩
  obtain ⟨c, hc, hr1⟩ := hr.go hst
  repeat (first|refine q1 ?_|refine q2 ?_|refine q3 ?_|refine q4 ?_|refine q5 ?_|refine q6 ?_|refine w_seq ?_|refine w_region ?_|refine w_ops_nil ?_|refine w_skip ?_|refine w_block ?_|refine w_blk ?_|refine q7 ?_|refine q8 ?_|refine q9 ?_)
  refine w_lenSl hr1.isSl rfl rfl ?_
  repeat (first|refine q1 ?_|refine q2 ?_|refine q3 ?_|refine q4 ?_|refine q5 ?_|refine q6 ?_|refine w_seq ?_|refine w_region ?_|refine w_ops_nil ?_|refine w_skip ?_|refine w_block ?_|refine w_blk ?_|refine q7 ?_|refine q8 ?_|refine q9 ?_)
  refine w_condP rfl (fun hc => ?_) (fun hc => ?_)
  · have hlt : i < l.length := by omega
    obtain ⟨k1, k2⟩ := hl l[i] (List.getElem_mem hlt)
    repeat (first|refine q1 ?_|refine q2 ?_|refine q3 ?_|refine q4 ?_|refine q5 ?_|refine q6 ?_|refine w_seq ?_|refine w_region ?_|refine w_ops_nil ?_|refine w_skip ?_|refine w_block ?_|refine w_blk ?_|refine q7 ?_|refine q8 ?_|refine q9 ?_)
    refine w_idx hr1 rfl rfl (by omega) (by omega) rfl ?_
    refine w_loadE (i := i) (y := l[i]) hr1 rfl (by simp [hlt]) rfl rfl ?_
    refine w_callF rfl (ref09_Record l[i] h k1 k2) rfl fun u h2 hs2 hu => ?_
    subst hu
    repeat (first|refine q1 ?_|refine q2 ?_|refine q3 ?_|refine q4 ?_|refine q5 ?_|refine q6 ?_|refine w_seq ?_|refine w_region ?_|refine w_ops_nil ?_|refine w_skip ?_|refine w_block ?_|refine w_blk ?_|refine q7 ?_|refine q8 ?_|refine q9 ?_)
    refine w_cond rfl (fun hb => ?_) (fun hb => ?_)
    · repeat (first|refine q1 ?_|refine q2 ?_|refine q3 ?_|refine q4 ?_|refine q5 ?_|refine q6 ?_|refine w_seq ?_|refine w_region ?_|refine w_ops_nil ?_|refine w_skip ?_|refine w_block ?_|refine w_blk ?_|refine q7 ?_|refine q8 ?_|refine q9 ?_)
      refine w_retG (res1 rfl rfl) (hst.go hs2) fun h' _ => congrArg Value.bool (decide_eq_false (fun ha => ?_)).symm
      have := ha l[i] (List.getElem_mem hlt)
      simp [this] at hb
    · repeat (first|refine q1 ?_|refine q2 ?_|refine q3 ?_|refine q4 ?_|refine q5 ?_|refine q6 ?_|refine w_seq ?_|refine w_region ?_|refine w_ops_nil ?_|refine w_skip ?_|refine w_block ?_|refine w_blk ?_|refine q7 ?_|refine q8 ?_|refine q9 ?_)
      refine w_again (i + 1) (by omega) ⟨h2, rfl, hst.go hs2, by omega, fun j x hj hx => ?_⟩ ⟨rfl, rfl, trivial⟩
      by_cases e : j = i
      · subst e; rw [List.getElem?_eq_getElem hlt] at hx; injection hx with hx; subst hx; simpa using hb
      · exact hall j x (by omega) hx
  · have : i = l.length := by omega
    subst this
    repeat (first|refine q1 ?_|refine q2 ?_|refine q3 ?_|refine q4 ?_|refine q5 ?_|refine q6 ?_|refine w_seq ?_|refine w_region ?_|refine w_ops_nil ?_|refine w_skip ?_|refine w_block ?_|refine w_blk ?_|refine q7 ?_|refine q8 ?_|refine q9 ?_)
    refine w_retG (res1 rfl rfl) hst fun h' _ => congrArg Value.bool (decide_eq_true (fun r hr => ?_)).symm
    obtain ⟨j, hj, rfl⟩ := List.getElem_of_mem hr
    exact hall j _ hj (by simp [hj])

theorem ref09_May (m : Ms) (vs : List Value) (g : G) (hm : MsR g vs m) (hok : MsOk m) : Fn Try.prog 23 [.agg vs.toArray] g [] fun u _ => u = .bool (decide (msMay m)) := by
  refine enterG [] [2] Try.func23 rfl Try.ntmps23 rfl (by simp) fun g1 hv ho => ?_
  replace hm := hm.seen hv ho
  obtain ⟨vq, va, vu, vm, rfl, hq, ha, hu, hmo⟩ := hm
  obtain ⟨ok1, ok2, ok3, ok4⟩ := hok
  have hlm := hq.isSl.le
  repeat (first|refine q1 ?_|refine q2 ?_|refine q3 ?_|refine q4 ?_|refine q5 ?_|refine q6 ?_|refine w_seq ?_|refine w_region ?_|refine w_ops_nil ?_|refine w_skip ?_|refine w_block ?_|refine w_blk ?_|refine q7 ?_|refine q8 ?_|refine q9 ?_)
  refine w_box 2 (vs := [.int .i64 m.id, .int .i64 m.flags, vq, va, vu, vm]) rfl rfl rfl fun h1 b1 hs1 hc1 => ?_
  have hst : Step [] [2] g1 h1 := hs1.nil
  repeat (first|refine q1 ?_|refine q2 ?_|refine q3 ?_|refine q4 ?_|refine q5 ?_|refine q6 ?_|refine w_seq ?_|refine w_region ?_|refine w_ops_nil ?_|refine w_skip ?_|refine w_blk ?_|refine q7 ?_|refine q8 ?_|refine q9 ?_)
  refine w_cut (ι := Unit) (fun _ => [(1, .pointer (some ⟨b1, 0, none⟩))]) (fun _ w => ∃ h, h.w = w ∧ Step [] [2] g1 h ∧ Cell h 2 b1 46 [.int .i64 m.id, .int .i64 m.flags, vq, va, vu, vm] ∧ ∀ q ∈ m.asked, qnMay q) ?_ ?_
  · repeat (first|refine q1 ?_|refine q2 ?_|refine q3 ?_|refine q4 ?_|refine q5 ?_|refine q6 ?_|refine w_seq ?_|refine w_region ?_|refine w_ops_nil ?_|refine w_skip ?_|refine w_block ?_|refine w_blk ?_|refine q7 ?_|refine q8 ?_|refine q9 ?_)
    refine w_loop (ι := Nat) (fun i => [(1, .pointer (some ⟨b1, 0, none⟩)), (3, .int .i64 (i : Int))])
      (fun i w => ∃ h : G, h.w = w ∧ Step [] [2] g1 h ∧ Cell h 2 b1 46 [.int .i64 m.id, .int .i64 m.flags, vq, va, vu, vm] ∧ i ≤ m.asked.length ∧ ∀ j (x : Qn), j < i → m.asked[j]? = some x → qnMay x) (fun i => m.asked.length - i)
      0 ⟨h1, rfl, hst, hc1, by omega, fun j x hj => by omega⟩ ⟨rfl, rfl, trivial⟩ ?_
    clear hc1 hst hs1
    rintro i _ ⟨h, rfl, hst, hc1, hi, hall⟩
    obtain ⟨c, hc, hq1⟩ := hq.go hst
    repeat (first|refine q1 ?_|refine q2 ?_|refine q3 ?_|refine q4 ?_|refine q5 ?_|refine q6 ?_|refine w_seq ?_|refine w_region ?_|refine w_ops_nil ?_|refine w_skip ?_|refine w_block ?_|refine w_blk ?_|refine q7 ?_|refine q8 ?_|refine q9 ?_)
    refine w_fldA (by decide) rfl rfl ?_
    refine w_load1 (v := vq) hc1 rfl rfl rfl rfl ?_
    refine w_lenSl hq1.isSl rfl rfl ?_
    repeat (first|refine q1 ?_|refine q2 ?_|refine q3 ?_|refine q4 ?_|refine q5 ?_|refine q6 ?_|refine w_seq ?_|refine w_region ?_|refine w_ops_nil ?_|refine w_skip ?_|refine w_block ?_|refine w_blk ?_|refine q7 ?_|refine q8 ?_|refine q9 ?_)
    refine w_condP rfl (fun hlt => ?_) (fun hlt => ?_)
    · have hlt : i < m.asked.length := by omega
      have hno : ∀ {p : Prop}, (¬ p) → (qnMay m.asked[i] → p) → Value.bool false = .bool (decide (msMay m)) := fun hp h => congrArg Value.bool (decide_eq_false (fun hr => hp (h (hr.1 _ (List.getElem_mem hlt))))).symm
      repeat (first|refine q1 ?_|refine q2 ?_|refine q3 ?_|refine q4 ?_|refine q5 ?_|refine q6 ?_|refine w_seq ?_|refine w_region ?_|refine w_ops_nil ?_|refine w_skip ?_|refine w_block ?_|refine w_blk ?_|refine q7 ?_|refine q8 ?_|refine q9 ?_)
      refine w_fldA (by decide) rfl rfl ?_
      refine w_load1 (v := vq) hc1 rfl rfl rfl rfl ?_
      repeat (first|refine q1 ?_|refine q2 ?_|refine q3 ?_|refine q4 ?_|refine q5 ?_|refine q6 ?_|refine w_seq ?_|refine w_region ?_|refine w_ops_nil ?_|refine w_skip ?_|refine w_block ?_|refine w_blk ?_|refine q7 ?_|refine q8 ?_|refine q9 ?_)
      refine w_idx hq1 rfl rfl (by omega) (by omega) rfl ?_
      refine w_fldE (hq1.base hlt) (by decide) rfl rfl ?_
      refine w_loadEF (i := i) (y := m.asked[i]) (u := str m.asked[i].name) hq1 rfl (by simp [hlt]) rfl rfl rfl ?_
      refine w_callF rfl (ref08_May m.asked[i].name h (ok1 _ (List.getElem_mem hlt))) rfl fun u h2 hs2 hu => ?_
      subst hu
      replace hst := hst.go hs2
      replace hc1 := hc1.go hs2
      replace hq1 := hq1.go hs2
      repeat (first|refine q1 ?_|refine q2 ?_|refine q3 ?_|refine q4 ?_|refine q5 ?_|refine q6 ?_|refine w_seq ?_|refine w_region ?_|refine w_ops_nil ?_|refine w_skip ?_|refine w_block ?_|refine w_blk ?_|refine q7 ?_|refine q8 ?_|refine q9 ?_)
      refine w_splitB 24 rfl (fun hb => ?_) (fun hb => ?_)
      · repeat (first|refine q1 ?_|refine q2 ?_|refine q3 ?_|refine q4 ?_|refine q5 ?_|refine q6 ?_|refine w_seq ?_|refine w_region ?_|refine w_ops_nil ?_|refine w_skip ?_|refine w_block ?_|refine w_blk ?_|refine q7 ?_|refine q8 ?_|refine q9 ?_)
        exact w_retG (res1 rfl rfl) hst fun h' _ => hno (p := mayB m.asked[i].name = true) (by simpa using hb) (fun h => h.1)
      repeat (first|refine q1 ?_|refine q2 ?_|refine q3 ?_|refine q4 ?_|refine q5 ?_|refine q6 ?_|refine w_seq ?_|refine w_region ?_|refine w_ops_nil ?_|refine w_skip ?_|refine w_block ?_|refine w_blk ?_|refine q7 ?_|refine q8 ?_|refine q9 ?_)
      refine w_fldA (by decide) rfl rfl ?_
      repeat (first|refine q1 ?_|refine q2 ?_|refine q3 ?_|refine q4 ?_|refine q5 ?_|refine q6 ?_|refine w_seq ?_|refine w_region ?_|refine w_ops_nil ?_|refine w_skip ?_|refine w_block ?_|refine w_blk ?_|refine q7 ?_|refine q8 ?_|refine q9 ?_)
      refine w_load1 (v := vq) hc1 rfl rfl rfl rfl ?_
      repeat (first|refine q1 ?_|refine q2 ?_|refine q3 ?_|refine q4 ?_|refine q5 ?_|refine q6 ?_|refine w_seq ?_|refine w_region ?_|refine w_ops_nil ?_|refine w_skip ?_|refine w_block ?_|refine w_blk ?_|refine q7 ?_|refine q8 ?_|refine q9 ?_)
      refine w_idx hq1 rfl rfl (by omega) (by omega) rfl ?_
      repeat (first|refine q1 ?_|refine q2 ?_|refine q3 ?_|refine q4 ?_|refine q5 ?_|refine q6 ?_|refine w_seq ?_|refine w_region ?_|refine w_ops_nil ?_|refine w_skip ?_|refine w_block ?_|refine w_blk ?_|refine q7 ?_|refine q8 ?_|refine q9 ?_)
      refine w_fldE (hq1.base hlt) (by decide) rfl rfl ?_
      repeat (first|refine q1 ?_|refine q2 ?_|refine q3 ?_|refine q4 ?_|refine q5 ?_|refine q6 ?_|refine w_seq ?_|refine w_region ?_|refine w_ops_nil ?_|refine w_skip ?_|refine w_block ?_|refine w_blk ?_|refine q7 ?_|refine q8 ?_|refine q9 ?_)
      refine w_loadEF (i := i) (y := m.asked[i]) (u := .int .i64 m.asked[i].typ) hq1 rfl (by simp [hlt]) rfl rfl rfl ?_
      repeat (first|refine q1 ?_|refine q2 ?_|refine q3 ?_|refine q4 ?_|refine q5 ?_|refine q6 ?_|refine w_seq ?_|refine w_region ?_|refine w_ops_nil ?_|refine w_skip ?_|refine w_block ?_|refine w_blk ?_|refine q7 ?_|refine q8 ?_|refine q9 ?_)
      refine w_callF rfl (ref09_word m.asked[i].typ h2) rfl fun u h3 hs3 hu => ?_
      subst hu
      replace hst := hst.go hs3
      replace hc1 := hc1.go hs3
      replace hq1 := hq1.go hs3
      repeat (first|refine q1 ?_|refine q2 ?_|refine q3 ?_|refine q4 ?_|refine q5 ?_|refine q6 ?_|refine w_seq ?_|refine w_region ?_|refine w_ops_nil ?_|refine w_skip ?_|refine w_block ?_|refine w_blk ?_|refine q7 ?_|refine q8 ?_|refine q9 ?_)
      refine w_splitB 34 rfl (fun hb2 => ?_) (fun hb2 => ?_)
      · repeat (first|refine q1 ?_|refine q2 ?_|refine q3 ?_|refine q4 ?_|refine q5 ?_|refine q6 ?_|refine w_seq ?_|refine w_region ?_|refine w_ops_nil ?_|refine w_skip ?_|refine w_block ?_|refine w_blk ?_|refine q7 ?_|refine q8 ?_|refine q9 ?_)
        exact w_retG (res1 rfl rfl) hst fun h' _ => hno (p := wordP m.asked[i].typ) (by simpa using hb2) (fun h => h.2.1)
      repeat (first|refine q1 ?_|refine q2 ?_|refine q3 ?_|refine q4 ?_|refine q5 ?_|refine q6 ?_|refine w_seq ?_|refine w_region ?_|refine w_ops_nil ?_|refine w_skip ?_|refine w_block ?_|refine w_blk ?_|refine q7 ?_|refine q8 ?_|refine q9 ?_)
      refine w_fldA (by decide) rfl rfl ?_
      repeat (first|refine q1 ?_|refine q2 ?_|refine q3 ?_|refine q4 ?_|refine q5 ?_|refine q6 ?_|refine w_seq ?_|refine w_region ?_|refine w_ops_nil ?_|refine w_skip ?_|refine w_block ?_|refine w_blk ?_|refine q7 ?_|refine q8 ?_|refine q9 ?_)
      refine w_load1 (v := vq) hc1 rfl rfl rfl rfl ?_
      repeat (first|refine q1 ?_|refine q2 ?_|refine q3 ?_|refine q4 ?_|refine q5 ?_|refine q6 ?_|refine w_seq ?_|refine w_region ?_|refine w_ops_nil ?_|refine w_skip ?_|refine w_block ?_|refine w_blk ?_|refine q7 ?_|refine q8 ?_|refine q9 ?_)
      refine w_idx hq1 rfl rfl (by omega) (by omega) rfl ?_
      repeat (first|refine q1 ?_|refine q2 ?_|refine q3 ?_|refine q4 ?_|refine q5 ?_|refine q6 ?_|refine w_seq ?_|refine w_region ?_|refine w_ops_nil ?_|refine w_skip ?_|refine w_block ?_|refine w_blk ?_|refine q7 ?_|refine q8 ?_|refine q9 ?_)
      refine w_fldE (hq1.base hlt) (by decide) rfl rfl ?_
      repeat (first|refine q1 ?_|refine q2 ?_|refine q3 ?_|refine q4 ?_|refine q5 ?_|refine q6 ?_|refine w_seq ?_|refine w_region ?_|refine w_ops_nil ?_|refine w_skip ?_|refine w_block ?_|refine w_blk ?_|refine q7 ?_|refine q8 ?_|refine q9 ?_)
      refine w_loadEF (i := i) (y := m.asked[i]) (u := .int .i64 m.asked[i].cls) hq1 rfl (by simp [hlt]) rfl rfl rfl ?_
      repeat (first|refine q1 ?_|refine q2 ?_|refine q3 ?_|refine q4 ?_|refine q5 ?_|refine q6 ?_|refine w_seq ?_|refine w_region ?_|refine w_ops_nil ?_|refine w_skip ?_|refine w_block ?_|refine w_blk ?_|refine q7 ?_|refine q8 ?_|refine q9 ?_)
      refine w_callF rfl (ref09_word m.asked[i].cls h3) rfl fun u h4 hs4 hu => ?_
      subst hu
      replace hst := hst.go hs4
      replace hc1 := hc1.go hs4
      repeat (first|refine q1 ?_|refine q2 ?_|refine q3 ?_|refine q4 ?_|refine q5 ?_|refine q6 ?_|refine w_seq ?_|refine w_region ?_|refine w_ops_nil ?_|refine w_skip ?_|refine w_block ?_|refine w_blk ?_|refine q7 ?_|refine q8 ?_|refine q9 ?_)
      refine w_cond rfl (fun hb3 => ?_) (fun hb3 => ?_)
      · repeat (first|refine q1 ?_|refine q2 ?_|refine q3 ?_|refine q4 ?_|refine q5 ?_|refine q6 ?_|refine w_seq ?_|refine w_region ?_|refine w_ops_nil ?_|refine w_skip ?_|refine w_block ?_|refine w_blk ?_|refine q7 ?_|refine q8 ?_|refine q9 ?_)
        exact w_retG (res1 rfl rfl) hst fun h' _ => hno (p := wordP m.asked[i].cls) (by simpa using hb3) (fun h => h.2.2)
      repeat (first|refine q1 ?_|refine q2 ?_|refine q3 ?_|refine q4 ?_|refine q5 ?_|refine q6 ?_|refine w_seq ?_|refine w_region ?_|refine w_ops_nil ?_|refine w_skip ?_|refine w_block ?_|refine w_blk ?_|refine q7 ?_|refine q8 ?_|refine q9 ?_)
      refine w_again (i + 1) (by omega) ⟨h4, rfl, hst, hc1, by omega, fun j x hj hx => ?_⟩ ⟨rfl, rfl, trivial⟩
      by_cases e : j = i
      · subst e; rw [List.getElem?_eq_getElem hlt] at hx; injection hx with hx; subst hx
        exact ⟨by simpa using hb, by simpa using hb2, by simpa using hb3⟩
      · exact hall j x (by omega) hx
    · have : i = m.asked.length := by omega
      subst this
      repeat (first|refine q1 ?_|refine q2 ?_|refine q3 ?_|refine q4 ?_|refine q5 ?_|refine q6 ?_|refine w_seq ?_|refine w_region ?_|refine w_ops_nil ?_|refine w_skip ?_|refine w_block ?_|refine w_blk ?_|refine q7 ?_|refine q8 ?_|refine q9 ?_)
      refine w_meet () ⟨h, rfl, hst, hc1, fun q hq => ?_⟩ ⟨rfl, trivial⟩
      obtain ⟨j, hj, rfl⟩ := List.getElem_of_mem hq
      exact hall j _ hj (by simp [hj])
  clear hc1 hst hs1
  rintro _ _ ⟨h, rfl, hst, hc1, hall⟩
  repeat (first|refine q1 ?_|refine q2 ?_|refine q3 ?_|refine q4 ?_|refine q5 ?_|refine q6 ?_|refine w_seq ?_|refine w_region ?_|refine w_ops_nil ?_|refine w_skip ?_|refine w_block ?_|refine w_blk ?_|refine q7 ?_|refine q8 ?_|refine q9 ?_)
  refine w_fldA (by decide) rfl rfl ?_
  refine w_load1 (v := va) hc1 rfl rfl rfl rfl ?_
  refine w_callF rfl (ref09_records m.ans h ok2 (ha.go hst)) rfl fun u h2 hs2 hu => ?_
  subst hu
  replace hst := hst.go hs2; replace hc1 := hc1.go hs2
  repeat (first|refine q1 ?_|refine q2 ?_|refine q3 ?_|refine q4 ?_|refine q5 ?_|refine q6 ?_|refine w_seq ?_|refine w_region ?_|refine w_ops_nil ?_|refine w_skip ?_|refine w_block ?_|refine w_blk ?_|refine q7 ?_|refine q8 ?_|refine q9 ?_)
  refine w_fldA (by decide) rfl rfl ?_
  refine w_load1 (v := vu) hc1 rfl rfl rfl rfl ?_
  refine w_callF rfl (ref09_records m.auth h2 ok3 (hu.go hst)) rfl fun u h3 hs3 hu => ?_
  subst hu
  replace hst := hst.go hs3; replace hc1 := hc1.go hs3
  repeat (first|refine q1 ?_|refine q2 ?_|refine q3 ?_|refine q4 ?_|refine q5 ?_|refine q6 ?_|refine w_seq ?_|refine w_region ?_|refine w_ops_nil ?_|refine w_skip ?_|refine w_block ?_|refine w_blk ?_|refine q7 ?_|refine q8 ?_|refine q9 ?_)
  refine w_fldA (by decide) rfl rfl ?_
  refine w_load1 (v := vm) hc1 rfl rfl rfl rfl ?_
  refine w_callF rfl (ref09_records m.more h3 ok4 (hmo.go hst)) rfl fun u h4 hs4 hu => ?_
  subst hu
  replace hst := hst.go hs4; replace hc1 := hc1.go hs4
  repeat (first|refine q1 ?_|refine q2 ?_|refine q3 ?_|refine q4 ?_|refine q5 ?_|refine q6 ?_|refine w_seq ?_|refine w_region ?_|refine w_ops_nil ?_|refine w_skip ?_|refine w_block ?_|refine w_blk ?_|refine q7 ?_|refine q8 ?_|refine q9 ?_)
  refine w_fldA (by decide) rfl rfl ?_
  refine w_load1 (v := .int .i64 m.id) hc1 rfl rfl rfl rfl ?_
  refine w_callF rfl (ref09_word m.id h4) rfl fun u h5 hs5 hu => ?_
  subst hu
  replace hst := hst.go hs5; replace hc1 := hc1.go hs5
  repeat (first|refine q1 ?_|refine q2 ?_|refine q3 ?_|refine q4 ?_|refine q5 ?_|refine q6 ?_|refine w_seq ?_|refine w_region ?_|refine w_ops_nil ?_|refine w_skip ?_|refine w_block ?_|refine w_blk ?_|refine q7 ?_|refine q8 ?_|refine q9 ?_)
  have no : ∀ {p : Prop}, (¬ p) → (msMay m → p) → Value.bool false = .bool (decide (msMay m)) := fun hp h => congrArg Value.bool (decide_eq_false (fun hr => hp (h hr))).symm
  refine w_splitP 56 rfl (fun k1 => ?_) (fun k1 => ?_)
  case refine_2 =>
    repeat (first|refine q1 ?_|refine q2 ?_|refine q3 ?_|refine q4 ?_|refine q5 ?_|refine q6 ?_|refine w_seq ?_|refine w_region ?_|refine w_ops_nil ?_|refine w_skip ?_|refine w_block ?_|refine w_blk ?_|refine q7 ?_|refine q8 ?_|refine q9 ?_)
    exact w_retG (res1 rfl rfl) hst fun h' _ => no k1 (fun h => h.2.1)
  repeat (first|refine q1 ?_|refine q2 ?_|refine q3 ?_|refine q4 ?_|refine q5 ?_|refine q6 ?_|refine w_seq ?_|refine w_region ?_|refine w_ops_nil ?_|refine w_skip ?_|refine w_block ?_|refine w_blk ?_|refine q7 ?_|refine q8 ?_|refine q9 ?_)
  refine w_fldA (by decide) rfl rfl ?_
  repeat (first|refine q1 ?_|refine q2 ?_|refine q3 ?_|refine q4 ?_|refine q5 ?_|refine q6 ?_|refine w_seq ?_|refine w_region ?_|refine w_ops_nil ?_|refine w_skip ?_|refine w_block ?_|refine w_blk ?_|refine q7 ?_|refine q8 ?_|refine q9 ?_)
  refine w_load1 (v := .int .i64 m.flags) hc1 rfl rfl rfl rfl ?_
  repeat (first|refine q1 ?_|refine q2 ?_|refine q3 ?_|refine q4 ?_|refine q5 ?_|refine q6 ?_|refine w_seq ?_|refine w_region ?_|refine w_ops_nil ?_|refine w_skip ?_|refine w_block ?_|refine w_blk ?_|refine q7 ?_|refine q8 ?_|refine q9 ?_)
  refine w_callF rfl (ref09_word m.flags h5) rfl fun u h6 hs6 hu => ?_
  subst hu
  replace hst := hst.go hs6; replace hc1 := hc1.go hs6
  repeat (first|refine q1 ?_|refine q2 ?_|refine q3 ?_|refine q4 ?_|refine q5 ?_|refine q6 ?_|refine w_seq ?_|refine w_region ?_|refine w_ops_nil ?_|refine w_skip ?_|refine w_block ?_|refine w_blk ?_|refine q7 ?_|refine q8 ?_|refine q9 ?_)
  refine w_splitP 61 rfl (fun k2 => ?_) (fun k2 => ?_)
  case refine_2 =>
    repeat (first|refine q1 ?_|refine q2 ?_|refine q3 ?_|refine q4 ?_|refine q5 ?_|refine q6 ?_|refine w_seq ?_|refine w_region ?_|refine w_ops_nil ?_|refine w_skip ?_|refine w_block ?_|refine w_blk ?_|refine q7 ?_|refine q8 ?_|refine q9 ?_)
    exact w_retG (res1 rfl rfl) hst fun h' _ => no k2 (fun h => h.2.2.1)
  repeat (first|refine q1 ?_|refine q2 ?_|refine q3 ?_|refine q4 ?_|refine q5 ?_|refine q6 ?_|refine w_seq ?_|refine w_region ?_|refine w_ops_nil ?_|refine w_skip ?_|refine w_block ?_|refine w_blk ?_|refine q7 ?_|refine q8 ?_|refine q9 ?_)
  refine w_splitP 64 rfl (fun k3 => ?_) (fun k3 => ?_)
  case refine_2 =>
    repeat (first|refine q1 ?_|refine q2 ?_|refine q3 ?_|refine q4 ?_|refine q5 ?_|refine q6 ?_|refine w_seq ?_|refine w_region ?_|refine w_ops_nil ?_|refine w_skip ?_|refine w_block ?_|refine w_blk ?_|refine q7 ?_|refine q8 ?_|refine q9 ?_)
    exact w_retG (res1 rfl rfl) hst fun h' _ => no k3 (fun h => h.2.2.2.1)
  repeat (first|refine q1 ?_|refine q2 ?_|refine q3 ?_|refine q4 ?_|refine q5 ?_|refine q6 ?_|refine w_seq ?_|refine w_region ?_|refine w_ops_nil ?_|refine w_skip ?_|refine w_block ?_|refine w_blk ?_|refine q7 ?_|refine q8 ?_|refine q9 ?_)
  refine w_splitP 67 rfl (fun k4 => ?_) (fun k4 => ?_)
  case refine_2 =>
    repeat (first|refine q1 ?_|refine q2 ?_|refine q3 ?_|refine q4 ?_|refine q5 ?_|refine q6 ?_|refine w_seq ?_|refine w_region ?_|refine w_ops_nil ?_|refine w_skip ?_|refine w_block ?_|refine w_blk ?_|refine q7 ?_|refine q8 ?_|refine q9 ?_)
    exact w_retG (res1 rfl rfl) hst fun h' _ => no k4 (fun h => h.2.2.2.2.1)
  repeat (first|refine q1 ?_|refine q2 ?_|refine q3 ?_|refine q4 ?_|refine q5 ?_|refine q6 ?_|refine w_seq ?_|refine w_region ?_|refine w_ops_nil ?_|refine w_skip ?_|refine w_block ?_|refine w_blk ?_|refine q7 ?_|refine q8 ?_|refine q9 ?_)
  refine w_retG (res1 rfl rfl) hst fun h' _ => congrArg Value.bool ?_
  rw [decide_eq_decide]
  exact ⟨fun h => ⟨hall, k1, k2, k3, k4, h⟩, fun h => h.2.2.2.2.2⟩
end Go.Proofs.Ytnfokdhgajanpaa
