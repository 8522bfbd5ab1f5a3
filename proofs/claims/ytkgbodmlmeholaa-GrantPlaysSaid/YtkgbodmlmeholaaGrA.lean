/- Grants: the program's Drop: entries taken out of a map that is ranged over. No statement of the seat is proved here. -/
import Derived.Test.YtkgbodmlmeholaaGr9
import Derived.Test.YtkgbodmlmeholaaSeq
set_option linter.unusedVariables false
set_option linter.unusedSimpArgs false
namespace Go.Proofs.Ytkgbodmlmeholaa
open Go
attribute [local irreducible] Wp

abbrev EnM := List (Ky × Int × Nat)
def keep (p : Ky → Int → Bool) (seen : Array Nat) (l : EnM) : EnM := l.filter fun x => !(seen.contains x.2.2 && p x.1 x.2.1)
theorem keep_over (p : Ky → Int → Bool) (seen : Array Nat) (l : EnM) (h : ∀ x ∈ keep p seen l, seen.contains x.2.2 = true) : keep p seen l = l.filter fun x => !(p x.1 x.2.1) := by
  refine List.filter_congr fun x hx => ?_
  cases hp : p x.1 x.2.1 with
  | false => simp
  | true =>
    cases hs : seen.contains x.2.2 with
    | true => rfl
    | false =>
      have := h x (List.mem_filter.2 ⟨hx, by rw [hs]; rfl⟩)
      rw [hs] at this; cases this
theorem keep_no (p : Ky → Int → Bool) (seen : Array Nat) (l : EnM) (hb : (l.map (·.2.2)).Nodup) (x : Ky × Int × Nat) (hx : x ∈ l) (hp : p x.1 x.2.1 = false) : keep p (seen.push x.2.2) l = keep p seen l := by
  refine List.filter_congr fun y hy => ?_
  rw [seen_push]
  by_cases h : y.2.2 = x.2.2
  · have := nodup_inj (·.2.2) hb y hy x hx h
    rw [this, hp]; simp
  · rw [show (y.2.2 == x.2.2) = false from by simpa using h, Bool.or_false]
theorem keep_yes (p : Ky → Int → Bool) (seen : Array Nat) (l : EnM) (hb : (l.map (·.2.2)).Nodup) (hk : (l.map (·.1)).Nodup) (x : Ky × Int × Nat) (hx : x ∈ l) (hp : p x.1 x.2.1 = true) : keep p (seen.push x.2.2) l = edel x.1 (keep p seen l) := by
  have hk2 : ((keep p seen l).map (·.1)).Nodup := (List.filter_sublist.map _).nodup hk
  rw [edel_filter _ _ hk2]
  unfold keep
  rw [List.filter_filter]
  refine List.filter_congr fun y hy => ?_
  rw [seen_push]
  by_cases h : y = x
  · subst h; rw [hp]; simp
  · have h1 : ¬ y.2.2 = x.2.2 := fun e => h (nodup_inj (·.2.2) hb y hy x hx e)
    have h2 : ¬ x.1 = y.1 := fun e => h (nodup_inj (·.1) hk y hy x hx e.symm)
    rw [show (y.2.2 == x.2.2) = false from by simpa using h1, Bool.or_false]
    simp [h2]

theorem maps_DeleteFunc (f : FuncId) (cap : Array Value) [Enter Try.prog f] (p : Ky → Int → Bool) (I : G → Prop) (hIs : ∀ g h M, I g → Step [] M g h → (∀ x ∈ M, 2 ≤ x) → I h) (m : BkM) (q : Nat) (g : G)
    (hg : ∀ h, View [52] g h → Out [52] g h → I h) (hm : MapIs g 52 q El.ky El.int m) (hnd : (m.map (·.1)).Nodup)
    (hp : ∀ (k : Ky) (v : Int) (g : G), I g → Fn Try.prog f (El.ky.val k :: Value.int .i64 v :: cap.toList) g [] fun u _ => u = .bool (p k v)) :
    Fn Try.prog 34 [.map (some q), .func (.func f) #[] cap] g [52] fun _ h => MapIs h 52 q El.ky El.int (m.filter fun x => !(p x.1 x.2)) := by
  refine enterG [52] [28, 44] Try.func34 rfl Try.ntmps34 rfl (by simp) fun g1 hv ho => ?_
  have hI := hg g1 hv ho
  replace hm := hm.view hv (.inr (by simp))
  obtain ⟨l, clock, hE, rfl⟩ := hm.ent
  have hk : (l.map (·.1)).Nodup := by
    rw [List.map_map] at hnd
    exact hnd
  have hb : (l.map (·.2.2)).Nodup := by
    have := hE.2.2
    simp only [List.map_map] at this
    exact this
  clear hm
  repeat (first|refine q1 ?_|refine q2 ?_|refine q3 ?_|refine q4 ?_|refine q5 ?_|refine q6 ?_|refine w_seq ?_|refine w_region ?_|refine w_ops_nil ?_|refine w_skip ?_|refine w_block ?_|refine w_blk ?_|refine q7 ?_|refine q8 ?_|refine q9 ?_)
  refine w_range 28 hE.1 rfl rfl fun h2 r hs2 hit => ?_
  replace hE := hE.step hs2 (by simp) (by simp)
  replace hI := hIs _ _ _ hI hs2 (by simp)
  have hst : Step [] [52, 28, 44] g1 h2 := hs2.nil
  clear hs2
  have h0 : keep p #[] l = l := by unfold keep; rw [List.filter_eq_self]; intro x _; simp
  repeat (first|refine q1 ?_|refine q2 ?_|refine q3 ?_|refine q4 ?_|refine q5 ?_|refine q6 ?_|refine w_seq ?_|refine w_region ?_|refine w_ops_nil ?_|refine w_skip ?_|refine w_block ?_|refine w_blk ?_|refine q7 ?_|refine q8 ?_|refine q9 ?_)
  refine w_loop (ι := Array Nat) (fun _ => [(0, .map (some q)), (1, .func (.func f) #[] cap), (7, .pointer (some ⟨r, 0, none⟩))])
    (fun seen w => ∃ h : G, h.w = w ∧ Step [] [52, 28, 44] g1 h ∧ I h ∧ MapE h 52 q El.ky El.int (keep p seen l) clock ∧ IterIs h 28 r q (((keep p seen l).map (entE El.ky El.int)).toArray) clock seen) (fun seen => left (·.2.2) l seen) #[]
    ⟨h2, rfl, hst, hI, by rw [h0]; exact hE, hit⟩ ⟨rfl, rfl, rfl, trivial⟩ ?_
  clear hst hI hE hit
  rintro seen _ ⟨h, rfl, hst, hI, hE, hit⟩
  repeat (first|refine q1 ?_|refine q2 ?_|refine q3 ?_|refine q4 ?_|refine q5 ?_|refine q6 ?_|refine w_seq ?_|refine w_region ?_|refine w_ops_nil ?_|refine w_skip ?_|refine w_block ?_|refine w_blk ?_|refine q7 ?_|refine q8 ?_|refine q9 ?_)
  refine w_next hit hE.1 hE.2 rfl rfl (fun hall => ?_) (fun e h6 he hse hb6 hs6 hit6 => ?_)
  · have ho := keep_over p seen l (fun x hx => hall (entE El.ky El.int x) (by simpa using List.mem_map.2 ⟨x, hx, rfl⟩))
    repeat (first|refine q1 ?_|refine q2 ?_|refine q3 ?_|refine q4 ?_|refine q5 ?_|refine q6 ?_|refine w_seq ?_|refine w_region ?_|refine w_ops_nil ?_|refine w_skip ?_|refine w_block ?_|refine w_blk ?_|refine q7 ?_|refine q8 ?_|refine q9 ?_)
    refine w_endG (res0 rfl) (hst.mono (by simp) (by simp)) fun h' hv' => ?_
    have := hE.is
    rw [ho] at this
    have e : (l.map fun x => (x.1, x.2.1)).filter (fun x => !(p x.1 x.2)) = (l.filter fun x => !(p x.1 x.2.1)).map fun x => (x.1, x.2.1) := by rw [List.filter_map]; rfl
    rw [e]
    exact this.view hv' (.inr (by simp))
  · obtain ⟨x, hx, rfl⟩ : ∃ x ∈ keep p seen l, e = entE El.ky El.int x := by
      simp only [List.mem_map] at he
      obtain ⟨x, hx, e'⟩ := he
      exact ⟨x, hx, e'.symm⟩
    have hxl : x ∈ l := (List.mem_filter.1 hx).1
    have hse : seen.contains x.2.2 = false := hse
    replace hE := hE.step hs6 (by simp) (by simp)
    replace hst := hst.go hs6
    replace hI := hIs _ _ _ hI hs6 (by simp)
    have hlt := left_lt (·.2.2) seen l x hxl hse
    repeat (first|refine q1 ?_|refine q2 ?_|refine q3 ?_|refine q4 ?_|refine q5 ?_|refine q6 ?_|refine w_seq ?_|refine w_region ?_|refine w_ops_nil ?_|refine w_skip ?_|refine w_block ?_|refine w_blk ?_|refine q7 ?_|refine q8 ?_|refine q9 ?_)
    refine w_entry hit6 hE.1 hE.2 he rfl rfl ?_
    repeat (first|refine q1 ?_|refine q2 ?_|refine q3 ?_|refine q4 ?_|refine q5 ?_|refine q6 ?_|refine w_seq ?_|refine w_region ?_|refine w_ops_nil ?_|refine w_skip ?_|refine w_block ?_|refine w_blk ?_|refine q7 ?_|refine q8 ?_|refine q9 ?_)
    refine w_alloc 44 (vs := El.ky.enc Ky.zero) rfl rfl fun h7 b7 hs7 hc7 => ?_
    replace hE := hE.step hs7 (by simp) (by simp)
    replace hit6 := hit6.go hs7
    replace hst := hst.go hs7
    replace hI := hIs _ _ _ hI hs7 (by simp)
    repeat (first|refine q1 ?_|refine q2 ?_|refine q3 ?_|refine q4 ?_|refine q5 ?_|refine q6 ?_|refine w_seq ?_|refine w_region ?_|refine w_ops_nil ?_|refine w_skip ?_|refine w_block ?_|refine w_blk ?_|refine q7 ?_|refine q8 ?_|refine q9 ?_)
    refine w_store (us := El.ky.enc x.1) (vs' := El.ky.enc x.1) hc7 rfl rfl rfl rfl (El.ky.flat _) (show 0 + 24 ≤ 24 by decide) rfl fun h8 hb8 hs8 hc8 => ?_
    replace hE := hE.step hs8 (by simp) (by simp)
    replace hit6 := hit6.go hs8
    replace hst := hst.go hs8
    replace hI := hIs _ _ _ hI hs8 (by simp)
    repeat (first|refine q1 ?_|refine q2 ?_|refine q3 ?_|refine q4 ?_|refine q5 ?_|refine q6 ?_|refine w_seq ?_|refine w_region ?_|refine w_ops_nil ?_|refine w_skip ?_|refine w_block ?_|refine w_blk ?_|refine q7 ?_|refine q8 ?_|refine q9 ?_)
    refine w_loadS (us := El.ky.enc x.1) hc8 rfl rfl rfl rfl rfl ?_
    repeat (first|refine q1 ?_|refine q2 ?_|refine q3 ?_|refine q4 ?_|refine q5 ?_|refine q6 ?_|refine w_seq ?_|refine w_region ?_|refine w_ops_nil ?_|refine w_skip ?_|refine w_block ?_|refine w_blk ?_|refine q7 ?_|refine q8 ?_|refine q9 ?_)
    refine w_callV (f := f) (first := #[]) (captured := cap) (by intro q; exact Operand.noConfusion) rfl rfl (hp x.1 x.2.1 h8 hI) rfl fun u h9 hs9 hu => ?_
    subst hu
    replace hE := hE.step hs9 (by simp) (by simp)
    replace hit6 := hit6.go hs9
    replace hst := hst.go hs9
    replace hc8 := hc8.go hs9
    replace hI := hIs _ _ _ hI hs9 (by simp)
    repeat (first|refine q1 ?_|refine q2 ?_|refine q3 ?_|refine q4 ?_|refine q5 ?_|refine q6 ?_|refine w_seq ?_|refine w_region ?_|refine w_ops_nil ?_|refine w_skip ?_|refine w_block ?_|refine w_blk ?_|refine q7 ?_|refine q8 ?_|refine q9 ?_)
    refine w_cond rfl (fun hpx => ?_) (fun hpx => ?_)
    · repeat (first|refine q1 ?_|refine q2 ?_|refine q3 ?_|refine q4 ?_|refine q5 ?_|refine q6 ?_|refine w_seq ?_|refine w_region ?_|refine w_ops_nil ?_|refine w_skip ?_|refine w_block ?_|refine w_blk ?_|refine q7 ?_|refine q8 ?_|refine q9 ?_)
      refine w_loadS (us := El.ky.enc x.1) hc8 rfl rfl rfl rfl rfl ?_
      refine w_delE (T := 72) (key := x.1) hE rfl rfl rfl fun h10 hb10 hs10 hE => ?_
      replace hit6 := hit6.go hs10
      replace hst := hst.go hs10
      replace hI := hIs _ _ _ hI hs10 (by simp)
      repeat (first|refine q1 ?_|refine q2 ?_|refine q3 ?_|refine q4 ?_|refine q5 ?_|refine q6 ?_|refine w_seq ?_|refine w_region ?_|refine w_ops_nil ?_|refine w_skip ?_|refine w_block ?_|refine w_blk ?_|refine q7 ?_|refine q8 ?_|refine q9 ?_)
      refine w_again (seen.push x.2.2) hlt ⟨h10, rfl, hst, hI, ?_, hit6⟩ ⟨rfl, rfl, rfl, trivial⟩
      rw [keep_yes p seen l hb hk x hxl hpx]
      exact hE
    · repeat (first|refine q1 ?_|refine q2 ?_|refine q3 ?_|refine q4 ?_|refine q5 ?_|refine q6 ?_|refine w_seq ?_|refine w_region ?_|refine w_ops_nil ?_|refine w_skip ?_|refine w_block ?_|refine w_blk ?_|refine q7 ?_|refine q8 ?_|refine q9 ?_)
      refine w_again (seen.push x.2.2) hlt ⟨h9, rfl, hst, hI, ?_, hit6⟩ ⟨rfl, rfl, rfl, trivial⟩
      rw [keep_no p seen l hb x hxl hpx]
      exact hE
end Go.Proofs.Ytkgbodmlmeholaa
