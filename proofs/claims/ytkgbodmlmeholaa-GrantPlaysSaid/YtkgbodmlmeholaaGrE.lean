/- Grants: the book's keys in their row; the one that is let go. No statement of the seat is proved here. -/
import Derived.Test.YtkgbodmlmeholaaGrD
import Derived.Test.YtkgbodmlmeholaaGrL
import Derived.Test.YtkgbodmlmeholaaOrd
import Derived.Test.YtkgbodmlmeholaaGrB
set_option linter.unusedVariables false
set_option linter.unusedSimpArgs false
namespace Go.Proofs.Ytkgbodmlmeholaa
open Go
attribute [local irreducible] Wp
instance : Inhabited Ky := ⟨Ky.zero⟩
theorem gr_keys (q : Nat) (g : G) : Fn Try.prog 39 [.map (some q)] g [] fun v h => ∃ bb, v = .func (.func 48) #[] #[.pointer (some ⟨bb, 0, none⟩)] ∧ h.w.heap[bb]? = some (.cells [.map (some q)].toArray 72 (0, 0)) := by
  refine enterG [] [2] Try.func39 rfl Try.ntmps39 rfl (by simp) fun g1 hv ho => ?_
  repeat (first|refine q1 ?_|refine q2 ?_|refine q3 ?_|refine q4 ?_|refine q5 ?_|refine q6 ?_|refine w_seq ?_|refine w_region ?_|refine w_ops_nil ?_|refine w_skip ?_|refine w_block ?_|refine w_blk ?_|refine q7 ?_|refine q8 ?_|refine q9 ?_)
  refine w_box 2 (vs := [.map (some q)]) rfl rfl rfl fun h1 bb hs1 hc1 => ?_
  repeat (first|refine q1 ?_|refine q2 ?_|refine q3 ?_|refine q4 ?_|refine q5 ?_|refine q6 ?_|refine w_seq ?_|refine w_region ?_|refine w_ops_nil ?_|refine w_skip ?_|refine w_block ?_|refine w_blk ?_|refine q7 ?_|refine q8 ?_|refine q9 ?_)
  refine w_retG (res1 rfl rfl) hs1.nil fun h' hv' => ⟨bb, rfl, ?_⟩
  rw [hv'.1]; exact hc1.1
theorem gr_sort {g : G} {c : Nat} {v : Value} {xs : List Ky} (ho : Own g c El.ky 30 v xs) (hl : xs.length ≤ 1000000) :
    Fn Try.prog 47 [v, .func (.func 8) #[] #[]] g [c] fun _ h => Own h c El.ky 30 v (srt cmpK xs) :=
  sortFunc_fn (P := Try.prog) (ρ := sortKey_ren) sortKey (E := El.ky) (Und.eq (P := Try.prog) (T := 30)) rfl (show Inf Try.prog 30 _ _ _ from inferInstance) rfl cmpK isCmpK.swo isCmpK.tot 8 (fun x y g => grant_Compare x y g) ho (by omega)
theorem gr_sorted (gf : FuncId) (lb : Array Value) [Enter Try.prog gf] {S : List Ky → Prop} {n : Nat} (hn : n ≤ 1000000) {w0 : World} (hG : Gives Try.prog gf lb.toList El.ky.val S n w0) (hS : ∀ xs, S xs → xs.length ≤ 1000000) (g : G) (h0 : w0.heap.size ≤ g.w.heap.size)
    (hb : ∀ b, b < w0.heap.size → g.w.heap[b]? = w0.heap[b]?) :
    Fn Try.prog 38 [.func (.func gf) #[] lb, .func (.func 8) #[] #[]] g [] fun v h => ∃ xs, S xs ∧ Rd h 0 El.ky v (srt cmpK xs) := by
  refine enterG [] [5] Try.func38 rfl Try.ntmps38 rfl (by simp) fun g1 hv ho => ?_
  have hl : ∀ b, b < w0.heap.size → g1.w.heap[b]? = w0.heap[b]? ∧ g1.col b ≠ 5 := fun b hlt =>
    ⟨by rw [hv.1]; exact hb b hlt, by have := hv.low ho (Nat.lt_of_lt_of_le hlt h0) (by simp); omega⟩
  have hsz : w0.heap.size ≤ g1.w.heap.size := by rw [hv.1]; exact h0
  repeat (first|refine q1 ?_|refine q2 ?_|refine q3 ?_|refine q4 ?_|refine q5 ?_|refine q6 ?_|refine w_seq ?_|refine w_region ?_|refine w_ops_nil ?_|refine w_skip ?_|refine w_block ?_|refine w_blk ?_|refine q7 ?_|refine q8 ?_|refine q9 ?_)
  refine w_callF (vs := [.func (.func gf) #[] lb]) rfl (gr_collect gf lb hn hG g1 hsz hl) rfl fun v h2 hs2 hr2 => ?_
  obtain ⟨xs, hxs, ho2⟩ := hr2
  repeat (first|refine q1 ?_|refine q2 ?_|refine q3 ?_|refine q4 ?_|refine q5 ?_|refine q6 ?_|refine w_seq ?_|refine w_region ?_|refine w_ops_nil ?_|refine w_skip ?_|refine w_block ?_|refine w_blk ?_|refine q7 ?_|refine q8 ?_|refine q9 ?_)
  refine w_callF (vs := [v, .func (.func 8) #[] #[]]) rfl (gr_sort ho2 (hS xs hxs)) rfl fun u h3 hs3 ho3 => ?_
  repeat (first|refine q1 ?_|refine q2 ?_|refine q3 ?_|refine q4 ?_|refine q5 ?_|refine q6 ?_|refine w_seq ?_|refine w_region ?_|refine w_ops_nil ?_|refine w_skip ?_|refine w_block ?_|refine w_blk ?_|refine q7 ?_|refine q8 ?_|refine q9 ?_)
  obtain ⟨h4, hw4, hs4, hr4⟩ := ho3.freeze (by decide)
  rw [← hw4]
  refine w_retG (res1 rfl rfl) ((hs2.mono (by simp) (by simp)).trans ((hs3.mono (by simp) (by simp)).trans (hs4.mono (by simp) (by simp)))) fun h' hv' => ⟨xs, hxs, hr4.view hv' (.inl rfl)⟩

def keysOf (m : BkM) : List Ky := srt cmpK (m.map (·.1))
theorem Book_Keys (p : Nat) (room : Int) (m : BkM) (g : G) (hb : Bk g p room m) (hl : m.length ≤ 1000) : Fn Try.prog 22 [.pointer (some ⟨p, 0, none⟩)] g [] fun u h => Rd h 0 El.ky u (keysOf m) := by
  obtain ⟨q, hcb, hmq⟩ := hb
  refine enterG [] [] Try.func22 rfl Try.ntmps22 rfl (by simp) fun g1 hv ho => ?_
  obtain ⟨c, _, hcb⟩ := hcb.seen hv ho (by simp)
  obtain ⟨c2, _, hmq⟩ := hmq.seen hv ho (by simp)
  repeat (first|refine q1 ?_|refine q2 ?_|refine q3 ?_|refine q4 ?_|refine q5 ?_|refine q6 ?_|refine w_seq ?_|refine w_region ?_|refine w_ops_nil ?_|refine w_skip ?_|refine w_block ?_|refine w_blk ?_|refine q7 ?_|refine q8 ?_|refine q9 ?_)
  refine w_fldA (by decide) rfl rfl ?_
  refine w_load1 (v := .map (some q)) hcb rfl rfl rfl rfl ?_
  refine w_callF (vs := [.map (some q)]) rfl (gr_keys q g1) rfl fun v h2 hs2 hr2 => ?_
  obtain ⟨bb, rfl, hbb⟩ := hr2
  replace hmq := hmq.step hs2 (by simp) (by simp)
  obtain ⟨l, clock, hE, rfl⟩ := hmq.ent
  rw [List.length_map] at hl
  refine w_callF (vs := [.func (.func 48) #[] #[.pointer (some ⟨bb, 0, none⟩)], .func (.func 8) #[] #[]]) rfl
    (gr_sorted _ _ (by omega) (gr_keys_gives hE.1.1 hE.2 hbb) (fun xs hp => by have := hp.length_eq; rw [List.length_map] at this; omega) h2 (Nat.le_refl _) (fun _ _ => rfl)) rfl fun v h3 hs3 hr3 => ?_
  obtain ⟨xs, hp, hr⟩ := hr3
  repeat (first|refine q1 ?_|refine q2 ?_|refine q3 ?_|refine q4 ?_|refine q5 ?_|refine q6 ?_|refine w_seq ?_|refine w_region ?_|refine w_ops_nil ?_|refine w_skip ?_|refine w_block ?_|refine w_blk ?_|refine q7 ?_|refine q8 ?_|refine q9 ?_)
  refine w_retG (res1 rfl rfl) (hs2.go hs3) fun h' hv' => ?_
  have e : keysOf (l.map fun x => (x.1, x.2.1)) = srt cmpK xs := by
    unfold keysOf
    rw [List.map_map]
    exact (srt_of_perm isCmpK hp).symm
  rw [e]
  exact hr.view hv' (.inl rfl)

theorem minFunc (f : FuncId) (cap : Array Value) [Enter Try.prog f] (tv : Ky → Int) (I : G → Prop) (hIs : ∀ g h M, I g → Step [] M g h → (∀ x ∈ M, 2 ≤ x) → I h) (b : Ky) (ks : List Ky) (v : Value) (g : G) (hr : Rd g 0 El.ky v (b :: ks))
    (hg : ∀ h, View [] g h → Out [] g h → I h)
    (hp : ∀ (x y : Ky) (g : G), I g → Fn Try.prog f (El.ky.val x :: El.ky.val y :: cap.toList) g [] fun u _ => u = .int .i64 (cmpI (tv x) (tv y))) :
    Fn Try.prog 44 [v, .func (.func f) #[] cap] g [] fun u _ => u = El.ky.val (leastBy tv b ks) := by
  refine enterG [] [41, 42] Try.func44 rfl Try.ntmps44 rfl (by simp) fun g1 hv ho => ?_
  have hI := hg g1 hv ho
  replace hr := hr.view hv (.inl rfl)
  have hlm := hr.isSl.le
  simp only [List.length_cons] at hlm
  repeat (first|refine q1 ?_|refine q2 ?_|refine q3 ?_|refine q4 ?_|refine q5 ?_|refine q6 ?_|refine w_seq ?_|refine w_region ?_|refine w_ops_nil ?_|refine w_skip ?_|refine w_block ?_|refine w_blk ?_|refine q7 ?_|refine q8 ?_|refine q9 ?_)
  refine w_alloc 41 (vs := El.ky.enc Ky.zero) rfl rfl fun h1 b1 hs1 hc1 => ?_
  have hst : Step [] [41, 42] g1 h1 := hs1.nil
  replace hI := hIs _ _ _ hI hs1 (by simp)
  replace hr := hr.go hs1
  repeat (first|refine q1 ?_|refine q2 ?_|refine q3 ?_|refine q4 ?_|refine q5 ?_|refine q6 ?_|refine w_seq ?_|refine w_region ?_|refine w_ops_nil ?_|refine w_skip ?_|refine w_block ?_|refine w_blk ?_|refine q7 ?_|refine q8 ?_|refine q9 ?_)
  refine w_lenSl hr.isSl rfl rfl ?_
  repeat (first|refine q1 ?_|refine q2 ?_|refine q3 ?_|refine q4 ?_|refine q5 ?_|refine q6 ?_|refine w_seq ?_|refine w_region ?_|refine w_ops_nil ?_|refine w_skip ?_|refine w_block ?_|refine w_blk ?_|refine q7 ?_|refine q8 ?_|refine q9 ?_)
  refine w_condP rfl (fun h => by simp only [List.length_cons] at h; omega) (fun _ => ?_)
  repeat (first|refine q1 ?_|refine q2 ?_|refine q3 ?_|refine q4 ?_|refine q5 ?_|refine q6 ?_|refine w_seq ?_|refine w_region ?_|refine w_ops_nil ?_|refine w_skip ?_|refine w_block ?_|refine w_blk ?_|refine q7 ?_|refine q8 ?_|refine q9 ?_)
  refine w_idx hr rfl rfl (by omega) (by simp) rfl ?_
  refine w_loadE (i := 0) (y := b) hr rfl rfl rfl rfl ?_
  repeat (first|refine q1 ?_|refine q2 ?_|refine q3 ?_|refine q4 ?_|refine q5 ?_|refine q6 ?_|refine w_seq ?_|refine w_region ?_|refine w_ops_nil ?_|refine w_skip ?_|refine w_block ?_|refine w_blk ?_|refine q7 ?_|refine q8 ?_|refine q9 ?_)
  refine w_alloc 42 (vs := El.ky.enc Ky.zero) rfl rfl fun h2 b2 hs2 hc2 => ?_
  replace hI := hIs _ _ _ hI hs2 (by simp)
  replace hst := hst.go hs2; replace hr := hr.go hs2; replace hc1 := hc1.go hs2
  refine w_store (us := El.ky.enc b) (vs' := El.ky.enc b) hc2 rfl rfl rfl rfl (El.ky.flat _) (show 0 + 24 ≤ 24 by decide) rfl fun h3 hb3 hs3 hc2 => ?_
  replace hI := hIs _ _ _ hI hs3 (by simp)
  replace hst := hst.go hs3; replace hr := hr.go hs3; replace hc1 := hc1.go hs3
  clear hs1 hs2 hs3 hb3
  repeat (first|refine q1 ?_|refine q2 ?_|refine q3 ?_|refine q4 ?_|refine q5 ?_|refine q6 ?_|refine w_seq ?_|refine w_region ?_|refine w_ops_nil ?_|refine w_skip ?_|refine w_block ?_|refine w_blk ?_|refine q7 ?_|refine q8 ?_|refine q9 ?_)
  refine w_loop (ι := Nat) (fun i => [(0, v), (1, .func (.func f) #[] cap), (4, .pointer (some ⟨b1, 0, none⟩)), (5, .pointer (some ⟨b2, 0, none⟩)), (6, .int .i64 ((i : Int) + 1))])
    (fun i w => ∃ h : G, h.w = w ∧ Step [] [42] h3 h ∧ I h ∧ Cell h 42 b2 30 (El.ky.enc (leastBy tv b (ks.take i))) ∧ i ≤ ks.length) (fun i => ks.length - i)
    0 ⟨h3, rfl, Step.refl _ _ _, hI, hc2, by omega⟩ ⟨rfl, rfl, rfl, rfl, rfl, trivial⟩ ?_
  clear hI hc2
  rintro i _ ⟨h, rfl, hst2, hI, hc2, hi⟩
  replace hst := hst.go hst2; replace hr := hr.go hst2; replace hc1 := hc1.go hst2
  repeat (first|refine q1 ?_|refine q2 ?_|refine q3 ?_|refine q4 ?_|refine q5 ?_|refine q6 ?_|refine w_seq ?_|refine w_region ?_|refine w_ops_nil ?_|refine w_skip ?_|refine w_block ?_|refine w_blk ?_|refine q7 ?_|refine q8 ?_|refine q9 ?_)
  refine w_lenSl hr.isSl rfl rfl ?_
  simp only [List.length_cons]
  repeat (first|refine q1 ?_|refine q2 ?_|refine q3 ?_|refine q4 ?_|refine q5 ?_|refine q6 ?_|refine w_seq ?_|refine w_region ?_|refine w_ops_nil ?_|refine w_skip ?_|refine w_block ?_|refine w_blk ?_|refine q7 ?_|refine q8 ?_|refine q9 ?_)
  refine w_condP rfl (fun hlt => ?_) (fun hlt => ?_)
  · have hlt : i < ks.length := by omega
    have hget : (b :: ks)[((i : Int) + 1).toNat]? = some ks[i] := by
      rw [show ((i : Int) + 1).toNat = i + 1 by omega]; simp [hlt]
    have htake : ks.take (i + 1) = ks.take i ++ [ks[i]] := List.take_succ_eq_append_getElem hlt
    have hnext : leastBy tv b (ks.take (i + 1)) = if tv ks[i] < tv (leastBy tv b (ks.take i)) then ks[i] else leastBy tv b (ks.take i) := by
      rw [htake, leastBy_append]; rfl
    repeat (first|refine q1 ?_|refine q2 ?_|refine q3 ?_|refine q4 ?_|refine q5 ?_|refine q6 ?_|refine w_seq ?_|refine w_region ?_|refine w_ops_nil ?_|refine w_skip ?_|refine w_block ?_|refine w_blk ?_|refine q7 ?_|refine q8 ?_|refine q9 ?_)
    refine d_begin none [] (by kernel_rfl) fun g2 hsd => ?_
    replace hI := hIs _ _ _ hI hsd (by simp)
    replace hst := hst.go hsd; replace hst2 := hst2.go hsd; replace hr := hr.go hsd; replace hc1 := hc1.go hsd; replace hc2 := hc2.go hsd
    refine d_pure 0 calm_ret rfl (by kernel_rfl) rfl rfl ?_; refine d_pure 1 calm_ret rfl (by kernel_rfl) rfl rfl ?_; refine d_pure 2 calm_ret rfl (by kernel_rfl) rfl rfl ?_
    refine d_read 3 calm_ret rfl (by kernel_rfl) rfl  (fun h hs => r_idx (hr.go hs) rfl rfl (by omega) (by simp only [List.length_cons]; omega)) ?_
    refine d_read 4 calm_ret rfl (by kernel_rfl) rfl  (fun h hs => r_loadE (i := ((i : Int) + 1).toNat) (y := ks[i]) (hr.go hs) rfl hget rfl) ?_
    refine d_read 5 calm_ret rfl (by kernel_rfl) rfl  (fun h hs => r_load (us := El.ky.enc (leastBy tv b (ks.take i))) (hc2.go hs) rfl rfl rfl (fun e => by cases e)) ?_
    refine d_exec1 6 (by kernel_rfl) rfl ?_
    refine w_callV (f := f) (first := #[]) (captured := cap) (by intro q; exact Operand.noConfusion) rfl rfl (hp ks[i] (leastBy tv b (ks.take i)) g2 hI) rfl fun u h4 hs4 hu => ?_
    subst hu
    replace hI := hIs _ _ _ hI hs4 (by simp)
    replace hst := hst.go hs4; replace hst2 := hst2.go hs4; replace hr := hr.go hs4; replace hc1 := hc1.go hs4; replace hc2 := hc2.go hs4
    have hsb : Step [] [] g2 h4 := hs4
    repeat (first|refine q1 ?_|refine q2 ?_|refine q3 ?_|refine q4 ?_|refine q5 ?_|refine q6 ?_|refine w_seq ?_|refine w_region ?_|refine w_ops_nil ?_|refine w_skip ?_|refine w_block ?_|refine w_blk ?_|refine q7 ?_|refine q8 ?_|refine q9 ?_)
    refine d_next (fun _ => ⟨h4, rfl, hsb⟩) ?_
    refine d_pure 7 calm_ret rfl (by kernel_rfl) rfl rfl ?_
    refine d_done (by kernel_rfl) ?_
    have hci : cmpI (tv ks[i]) (tv (leastBy tv b (ks.take i))) < 0 ↔ tv ks[i] < tv (leastBy tv b (ks.take i)) := by unfold cmpI; split <;> (try split) <;> simp <;> omega
    repeat (first|refine q1 ?_|refine q2 ?_|refine q3 ?_|refine q4 ?_|refine q5 ?_|refine q6 ?_|refine w_seq ?_|refine w_region ?_|refine w_ops_nil ?_|refine w_skip ?_|refine w_block ?_|refine w_blk ?_|refine q7 ?_|refine q8 ?_|refine q9 ?_)
    refine w_condP rfl (fun hx => ?_) (fun hx => ?_)
    · rw [if_pos (hci.1 hx)] at hnext
      repeat (first|refine q1 ?_|refine q2 ?_|refine q3 ?_|refine q4 ?_|refine q5 ?_|refine q6 ?_|refine w_seq ?_|refine w_region ?_|refine w_ops_nil ?_|refine w_skip ?_|refine w_block ?_|refine w_blk ?_|refine q7 ?_|refine q8 ?_|refine q9 ?_)
      refine w_idx hr rfl rfl (by omega) (by simp only [List.length_cons]; omega) rfl ?_
      refine w_loadE (i := ((i : Int) + 1).toNat) (y := ks[i]) hr rfl hget rfl rfl ?_
      refine w_store (us := El.ky.enc ks[i]) (vs' := El.ky.enc ks[i]) hc2 rfl rfl rfl rfl (El.ky.flat _) (show 0 + 24 ≤ 24 by decide) rfl fun h5 hb5 hs5 hc2 => ?_
      replace hI := hIs _ _ _ hI hs5 (by simp)
      repeat (first|refine q1 ?_|refine q2 ?_|refine q3 ?_|refine q4 ?_|refine q5 ?_|refine q6 ?_|refine w_seq ?_|refine w_region ?_|refine w_ops_nil ?_|refine w_skip ?_|refine w_block ?_|refine w_blk ?_|refine q7 ?_|refine q8 ?_|refine q9 ?_)
      refine w_again (i + 1) (by omega) ⟨h5, rfl, hst2.go hs5, hI, by rw [hnext]; exact hc2, by omega⟩ ⟨rfl, rfl, rfl, rfl, congrArg (fun z => some (Value.int .i64 z)) (by push_cast; omega), trivial⟩
    · rw [if_neg (fun e => hx (hci.2 e))] at hnext
      repeat (first|refine q1 ?_|refine q2 ?_|refine q3 ?_|refine q4 ?_|refine q5 ?_|refine q6 ?_|refine w_seq ?_|refine w_region ?_|refine w_ops_nil ?_|refine w_skip ?_|refine w_block ?_|refine w_blk ?_|refine q7 ?_|refine q8 ?_|refine q9 ?_)
      refine w_again (i + 1) (by omega) ⟨h4, rfl, hst2, hI, by rw [hnext]; exact hc2, by omega⟩ ⟨rfl, rfl, rfl, rfl, congrArg (fun z => some (Value.int .i64 z)) (by push_cast; omega), trivial⟩
  have e : i = ks.length := by omega
  subst e
  rw [List.take_length] at hc2
  repeat (first|refine q1 ?_|refine q2 ?_|refine q3 ?_|refine q4 ?_|refine q5 ?_|refine q6 ?_|refine w_seq ?_|refine w_region ?_|refine w_ops_nil ?_|refine w_skip ?_|refine w_block ?_|refine w_blk ?_|refine q7 ?_|refine q8 ?_|refine q9 ?_)
  refine w_loadS (us := El.ky.enc (leastBy tv b ks)) hc2 rfl rfl rfl rfl rfl ?_
  refine w_store (us := El.ky.enc (leastBy tv b ks)) (vs' := El.ky.enc (leastBy tv b ks)) hc1 rfl rfl rfl rfl (El.ky.flat _) (show 0 + 24 ≤ 24 by decide) rfl fun h5 hb5 hs5 hc1 => ?_
  repeat (first|refine q1 ?_|refine q2 ?_|refine q3 ?_|refine q4 ?_|refine q5 ?_|refine q6 ?_|refine w_seq ?_|refine w_region ?_|refine w_ops_nil ?_|refine w_skip ?_|refine w_block ?_|refine w_blk ?_|refine q7 ?_|refine q8 ?_|refine q9 ?_)
  exact w_retG (resCs hc1 rfl rfl rfl rfl) (hst.go hs5) fun h' _ => rfl
end Go.Proofs.Ytkgbodmlmeholaa
