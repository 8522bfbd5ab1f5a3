/- Caches: entries taken out; keys; which is let go. No statement of the seat is proved here. -/
import Derived.Test.YtfkdfnookacgiaaCa1
import Derived.Test.YtfkdfnookacgiaaOrd
import Derived.Test.YtfkdfnookacgiaaCaL
set_option linter.unusedVariables false
set_option linter.unusedSimpArgs false
namespace Go.Proofs.Ytfkdfnookacgiaa
open Go
attribute [local irreducible] Wp
abbrev EnM := List (Ck × Cv × Nat)
def keep (p : Ck → Cv → Bool) (seen : Array Nat) (l : EnM) : EnM := l.filter fun x => !(seen.contains x.2.2 && p x.1 x.2.1)
theorem keep_over (p : Ck → Cv → Bool) (seen : Array Nat) (l : EnM) (h : ∀ x ∈ keep p seen l, seen.contains x.2.2 = true) : keep p seen l = l.filter fun x => !(p x.1 x.2.1) := by
  refine List.filter_congr fun x hx => ?_
  cases hp : p x.1 x.2.1 with
  | false => simp
  | true =>
    cases hs : seen.contains x.2.2 with
    | true => rfl
    | false =>
      have := h x (List.mem_filter.2 ⟨hx, by rw [hs]; rfl⟩)
      rw [hs] at this; cases this
theorem keep_no (p : Ck → Cv → Bool) (seen : Array Nat) (l : EnM) (hb : (l.map (·.2.2)).Nodup) (x : Ck × Cv × Nat) (hx : x ∈ l) (hp : p x.1 x.2.1 = false) : keep p (seen.push x.2.2) l = keep p seen l := by
  refine List.filter_congr fun y hy => ?_
  rw [seen_push]
  by_cases h : y.2.2 = x.2.2
  · have := nodup_inj (·.2.2) hb y hy x hx h
    rw [this, hp]; simp
  · rw [show (y.2.2 == x.2.2) = false from by simpa using h, Bool.or_false]
theorem keep_yes (p : Ck → Cv → Bool) (seen : Array Nat) (l : EnM) (hb : (l.map (·.2.2)).Nodup) (hk : (l.map (·.1)).Nodup) (x : Ck × Cv × Nat) (hx : x ∈ l) (hp : p x.1 x.2.1 = true) : keep p (seen.push x.2.2) l = edel x.1 (keep p seen l) := by
  have hk2 : ((keep p seen l).map (·.1)).Nodup := (List.filter_sublist.map _).nodup hk
  rw [edel_filter _ _ hk2]
  unfold keep
  rw [List.filter_filter]
  refine List.filter_congr fun y hy => ?_
  rw [seen_push]
  by_cases h : y = x
  · subst h; rw [hp]; simp
  · have h1 : ¬ y.2.2 = x.2.2 := fun e => h (nodup_inj (·.2.2) hb y hy x hx e)
    have h2 : ¬ x.1 = y.1 := fun e => h (nodup_inj (·.1) hk y hy x hx e.symm)
    rw [show (y.2.2 == x.2.2) = false from by simpa using h1, Bool.or_false]
    simp [h2]

theorem maps_DeleteFunc (f : FuncId) (cap : Array Value) [Enter Try.prog f] (p : Ck → Cv → Bool) (I : G → Prop) (hIs : ∀ g h M, I g → Step [] M g h → (∀ x ∈ M, 2 ≤ x) → I h) (m : CaM) (q : Nat) (g : G)
    (hg : ∀ h, View [52] g h → Out [52] g h → I h) (hm : MapIs g 52 q El.ck El.cv m) (hnd : (m.map (·.1)).Nodup)
    (hp : ∀ (k : Ck) (v : Cv) (g : G), I g → Fn Try.prog f (El.ck.val k :: El.cv.val v :: cap.toList) g [] fun u _ => u = .bool (p k v)) :
    Fn Try.prog 31 [.map (some q), .func (.func f) #[] cap] g [52] fun _ h => MapIs h 52 q El.ck El.cv (m.filter fun x => !(p x.1 x.2)) := by
  refine enterG [52] [28, 44, 45] Try.func31 rfl Try.ntmps31 rfl (by simp) fun g1 hv ho => ?_
  have hI := hg g1 hv ho
  replace hm := hm.view hv (.inr (by simp))
  obtain ⟨l, clock, hE, rfl⟩ := hm.ent
  have hk : (l.map (·.1)).Nodup := by
    rw [List.map_map] at hnd
    exact hnd
  have hb : (l.map (·.2.2)).Nodup := by
    have := hE.2.2
    simp only [List.map_map] at this
    exact this
  clear hm
  repeat (first|refine q1 ?_|refine q2 ?_|refine q3 ?_|refine q4 ?_|refine q5 ?_|refine q6 ?_|refine w_seq ?_|refine w_region ?_|refine w_ops_nil ?_|refine w_skip ?_|refine w_block ?_|refine w_blk ?_|refine q7 ?_|refine q8 ?_|refine q9 ?_)
  refine w_range 28 hE.1 rfl rfl fun h2 r hs2 hit => ?_
  replace hE := hE.step hs2 (by simp) (by simp)
  replace hI := hIs _ _ _ hI hs2 (by simp)
  have hst : Step [] [52, 28, 44, 45] g1 h2 := hs2.nil
  clear hs2
  have h0 : keep p #[] l = l := by unfold keep; rw [List.filter_eq_self]; intro x _; simp
  repeat (first|refine q1 ?_|refine q2 ?_|refine q3 ?_|refine q4 ?_|refine q5 ?_|refine q6 ?_|refine w_seq ?_|refine w_region ?_|refine w_ops_nil ?_|refine w_skip ?_|refine w_block ?_|refine w_blk ?_|refine q7 ?_|refine q8 ?_|refine q9 ?_)
  refine w_loop (ι := Array Nat) (fun _ => [(0, .map (some q)), (1, .func (.func f) #[] cap), (7, .pointer (some ⟨r, 0, none⟩))])
    (fun seen w => ∃ h : G, h.w = w ∧ Step [] [52, 28, 44, 45] g1 h ∧ I h ∧ MapE h 52 q El.ck El.cv (keep p seen l) clock ∧ IterIs h 28 r q (((keep p seen l).map (entE El.ck El.cv)).toArray) clock seen) (fun seen => left (·.2.2) l seen) #[]
    ⟨h2, rfl, hst, hI, by rw [h0]; exact hE, hit⟩ ⟨rfl, rfl, rfl, trivial⟩ ?_
  clear hst hI hE hit
  rintro seen _ ⟨h, rfl, hst, hI, hE, hit⟩
  repeat (first|refine q1 ?_|refine q2 ?_|refine q3 ?_|refine q4 ?_|refine q5 ?_|refine q6 ?_|refine w_seq ?_|refine w_region ?_|refine w_ops_nil ?_|refine w_skip ?_|refine w_block ?_|refine w_blk ?_|refine q7 ?_|refine q8 ?_|refine q9 ?_)
  refine w_next hit hE.1 hE.2 rfl rfl (fun hall => ?_) (fun e h6 he hse hb6 hs6 hit6 => ?_)
  · have ho := keep_over p seen l (fun x hx => hall (entE El.ck El.cv x) (by simpa using List.mem_map.2 ⟨x, hx, rfl⟩))
    repeat (first|refine q1 ?_|refine q2 ?_|refine q3 ?_|refine q4 ?_|refine q5 ?_|refine q6 ?_|refine w_seq ?_|refine w_region ?_|refine w_ops_nil ?_|refine w_skip ?_|refine w_block ?_|refine w_blk ?_|refine q7 ?_|refine q8 ?_|refine q9 ?_)
    refine w_endG (res0 rfl) (hst.mono (by simp) (by simp)) fun h' hv' => ?_
    have := hE.is
    rw [ho] at this
    have e : (l.map fun x => (x.1, x.2.1)).filter (fun x => !(p x.1 x.2)) = (l.filter fun x => !(p x.1 x.2.1)).map fun x => (x.1, x.2.1) := by rw [List.filter_map]; rfl
    rw [e]
    exact this.view hv' (.inr (by simp))
  · obtain ⟨x, hx, rfl⟩ : ∃ x ∈ keep p seen l, e = entE El.ck El.cv x := by
      simp only [List.mem_map] at he
      obtain ⟨x, hx, e'⟩ := he
      exact ⟨x, hx, e'.symm⟩
    have hxl : x ∈ l := (List.mem_filter.1 hx).1
    have hse : seen.contains x.2.2 = false := hse
    replace hE := hE.step hs6 (by simp) (by simp)
    replace hst := hst.go hs6
    replace hI := hIs _ _ _ hI hs6 (by simp)
    have hlt := left_lt (·.2.2) seen l x hxl hse
    repeat (first|refine q1 ?_|refine q2 ?_|refine q3 ?_|refine q4 ?_|refine q5 ?_|refine q6 ?_|refine w_seq ?_|refine w_region ?_|refine w_ops_nil ?_|refine w_skip ?_|refine w_block ?_|refine w_blk ?_|refine q7 ?_|refine q8 ?_|refine q9 ?_)
    refine w_entry hit6 hE.1 hE.2 he rfl rfl ?_
    repeat (first|refine q1 ?_|refine q2 ?_|refine q3 ?_|refine q4 ?_|refine q5 ?_|refine q6 ?_|refine w_seq ?_|refine w_region ?_|refine w_ops_nil ?_|refine w_skip ?_|refine w_block ?_|refine w_blk ?_|refine q7 ?_|refine q8 ?_|refine q9 ?_)
    refine w_alloc 44 (vs := El.ck.enc Ck.zero) rfl rfl fun h7 b7 hs7 hc7 => ?_
    replace hE := hE.step hs7 (by simp) (by simp)
    replace hit6 := hit6.go hs7
    replace hst := hst.go hs7
    replace hI := hIs _ _ _ hI hs7 (by simp)
    refine w_alloc 45 (vs := El.cv.enc Cv.zero) rfl rfl fun h7b b7b hs7b hc7b => ?_
    replace hE := hE.step hs7b (by simp) (by simp)
    replace hit6 := hit6.go hs7b
    replace hst := hst.go hs7b
    replace hI := hIs _ _ _ hI hs7b (by simp)
    replace hc7 := hc7.go hs7b
    refine w_store (us := El.ck.enc x.1) (vs' := El.ck.enc x.1) hc7 rfl rfl rfl rfl (El.ck.flat _) (show 0 + 2 ≤ 2 by decide) rfl fun h8 hb8 hs8 hc8 => ?_
    replace hE := hE.step hs8 (by simp) (by simp)
    replace hit6 := hit6.go hs8
    replace hst := hst.go hs8
    replace hI := hIs _ _ _ hI hs8 (by simp)
    replace hc7b := hc7b.go hs8
    refine w_store (us := El.cv.enc x.2.1) (vs' := El.cv.enc x.2.1) hc7b rfl rfl rfl rfl (El.cv.flat _) (show 0 + 2 ≤ 2 by decide) rfl fun h8b hb8b hs8b hc8b => ?_
    replace hE := hE.step hs8b (by simp) (by simp)
    replace hit6 := hit6.go hs8b
    replace hst := hst.go hs8b
    replace hI := hIs _ _ _ hI hs8b (by simp)
    replace hc8 := hc8.go hs8b
    repeat (first|refine q1 ?_|refine q2 ?_|refine q3 ?_|refine q4 ?_|refine q5 ?_|refine q6 ?_|refine w_seq ?_|refine w_region ?_|refine w_ops_nil ?_|refine w_skip ?_|refine w_block ?_|refine w_blk ?_|refine q7 ?_|refine q8 ?_|refine q9 ?_)
    refine w_loadS (us := El.ck.enc x.1) hc8 rfl rfl rfl rfl rfl ?_
    refine w_loadS (us := El.cv.enc x.2.1) hc8b rfl rfl rfl rfl rfl ?_
    repeat (first|refine q1 ?_|refine q2 ?_|refine q3 ?_|refine q4 ?_|refine q5 ?_|refine q6 ?_|refine w_seq ?_|refine w_region ?_|refine w_ops_nil ?_|refine w_skip ?_|refine w_block ?_|refine w_blk ?_|refine q7 ?_|refine q8 ?_|refine q9 ?_)
    refine w_callV (f := f) (first := #[]) (captured := cap) (by intro q; exact Operand.noConfusion) rfl rfl (hp x.1 x.2.1 h8b hI) rfl fun u h9 hs9 hu => ?_
    subst hu
    replace hE := hE.step hs9 (by simp) (by simp)
    replace hit6 := hit6.go hs9
    replace hst := hst.go hs9
    replace hc8 := hc8.go hs9
    replace hI := hIs _ _ _ hI hs9 (by simp)
    repeat (first|refine q1 ?_|refine q2 ?_|refine q3 ?_|refine q4 ?_|refine q5 ?_|refine q6 ?_|refine w_seq ?_|refine w_region ?_|refine w_ops_nil ?_|refine w_skip ?_|refine w_block ?_|refine w_blk ?_|refine q7 ?_|refine q8 ?_|refine q9 ?_)
    refine w_cond rfl (fun hpx => ?_) (fun hpx => ?_)
    · repeat (first|refine q1 ?_|refine q2 ?_|refine q3 ?_|refine q4 ?_|refine q5 ?_|refine q6 ?_|refine w_seq ?_|refine w_region ?_|refine w_ops_nil ?_|refine w_skip ?_|refine w_block ?_|refine w_blk ?_|refine q7 ?_|refine q8 ?_|refine q9 ?_)
      refine w_loadS (us := El.ck.enc x.1) hc8 rfl rfl rfl rfl rfl ?_
      refine w_delE (T := 66) (key := x.1) hE rfl rfl rfl fun h10 hb10 hs10 hE => ?_
      replace hit6 := hit6.go hs10
      replace hst := hst.go hs10
      replace hI := hIs _ _ _ hI hs10 (by simp)
      repeat (first|refine q1 ?_|refine q2 ?_|refine q3 ?_|refine q4 ?_|refine q5 ?_|refine q6 ?_|refine w_seq ?_|refine w_region ?_|refine w_ops_nil ?_|refine w_skip ?_|refine w_block ?_|refine w_blk ?_|refine q7 ?_|refine q8 ?_|refine q9 ?_)
      refine w_again (seen.push x.2.2) hlt ⟨h10, rfl, hst, hI, ?_, hit6⟩ ⟨rfl, rfl, rfl, trivial⟩
      rw [keep_yes p seen l hb hk x hxl hpx]
      exact hE
    · repeat (first|refine q1 ?_|refine q2 ?_|refine q3 ?_|refine q4 ?_|refine q5 ?_|refine q6 ?_|refine w_seq ?_|refine w_region ?_|refine w_ops_nil ?_|refine w_skip ?_|refine w_block ?_|refine w_blk ?_|refine q7 ?_|refine q8 ?_|refine q9 ?_)
      refine w_again (seen.push x.2.2) hlt ⟨h9, rfl, hst, hI, ?_, hit6⟩ ⟨rfl, rfl, rfl, trivial⟩
      rw [keep_no p seen l hb x hxl hpx]
      exact hE
set_option maxRecDepth 100000 in
/-- maps.Keys' iterator: each key once, in some order. -/
theorem ca_keys_gives {q bb clock : Nat} {l : List (Ck × Cv × Nat)} {w0 : World} (hm : w0.heap[q]? = some (.map (l.map (entE El.ck El.cv)).toArray clock)) (hst : Stamps (l.map (entE El.ck El.cv)).toArray clock)
    (hbox : w0.heap[bb]? = some (.cells [.map (some q)].toArray 66 (0, 0))) :
    Gives Try.prog 43 [.pointer (some ⟨bb, 0, none⟩)] El.ck.val (fun ss => ss.Perm (l.map (·.1))) l.length w0 := by
  intro g ly M J h1 h2 hM hJs hJv hY hJ0
  have hq : q < w0.heap.size := (Array.getElem?_eq_some_iff.1 hm).1
  have hbl : bb < w0.heap.size := (Array.getElem?_eq_some_iff.1 hbox).1
  refine enterG M [28, 44] Try.func43 rfl Try.ntmps43 rfl (fun x hx => (List.mem_append.1 hx).elim (fun hx => (hM x hx).1) (fun hx => by simp at hx; omega)) fun g1 hv ho => ?_
  have hlq := hv.low ho (Nat.lt_of_lt_of_le hq h1) (h2 q hq).2
  obtain ⟨cq, hcq⟩ : ∃ c, g1.col q = c := ⟨_, rfl⟩
  obtain ⟨cb, hcb⟩ : ∃ c, g1.col bb = c := ⟨_, rfl⟩
  rw [hcq] at hlq
  have hE : MapE g1 cq q El.ck El.cv l clock := ⟨⟨by rw [hv.1, (h2 q hq).1]; exact hm, hcq⟩, hst⟩
  have hbx : Cell g1 cb bb 66 [.map (some q)] := ⟨by rw [hv.1, (h2 bb hbl).1]; exact hbox, hcb⟩
  have hJ1 := hJv _ _ _ hJ0 hv
  have hcM : cq ∉ M := fun h => by have := (hM _ h).1; omega
  have h28 : 28 ∉ M := fun h => by have := (hM _ h).2; omega
  have h44 : 44 ∉ M := fun h => by have := (hM _ h).2; omega
  have hbn : (l.map (·.2.2)).Nodup := by
    have := hst.2
    simp only [List.map_map] at this
    exact this
  clear hv ho h2 hJ0 hm hbox
  repeat (first|refine q1 ?_|refine q2 ?_|refine q3 ?_|refine q4 ?_|refine q5 ?_|refine q6 ?_|refine w_seq ?_|refine w_region ?_|refine w_ops_nil ?_|refine w_skip ?_|refine w_block ?_|refine w_blk ?_|refine q7 ?_|refine q8 ?_|refine q9 ?_)
  refine w_load1 hbx rfl rfl rfl rfl ?_
  clear hbx
  refine w_range 28 hE.1 rfl rfl fun h2 r hs2 hit => ?_
  replace hE := hE.step hs2 (by simp) (by simp)
  replace hJ1 := hJs _ _ _ _ hJ1 hs2 (by simp)
  have hstp : Step [] (M ++ [28, 44]) g1 h2 := hs2.nil
  clear hs2
  repeat (first|refine q1 ?_|refine q2 ?_|refine q3 ?_|refine q4 ?_|refine q5 ?_|refine q6 ?_|refine w_seq ?_|refine w_region ?_|refine w_ops_nil ?_|refine w_skip ?_|refine w_block ?_|refine w_blk ?_|refine q7 ?_|refine q8 ?_|refine q9 ?_)
  refine w_loop (ι := List (Ck × Cv × Nat)) (fun _ => [(0, .func (.yield ly) #[] #[]), (5, .pointer (some ⟨r, 0, none⟩))])
    (fun xs w => ∃ h : G, h.w = w ∧ Step [] (M ++ [28, 44]) g1 h ∧ MapE h cq q El.ck El.cv l clock ∧ IterIs h 28 r q (l.map (entE El.ck El.cv)).toArray clock (xs.map (·.2.2)).toArray ∧ J (xs.map (·.1)) h ∧ xs.Nodup ∧ ∀ x ∈ xs, x ∈ l) (fun xs => l.length - xs.length) []
    ⟨h2, rfl, hstp, hE, hit, hJ1, List.nodup_nil, by simp⟩ ⟨rfl, rfl, trivial⟩ ?_
  clear hstp hE hit hJ1
  rintro xs _ ⟨h, rfl, hstp, hE, hit, hJ1, hnd, hin⟩
  repeat (first|refine q1 ?_|refine q2 ?_|refine q3 ?_|refine q4 ?_|refine q5 ?_|refine q6 ?_|refine w_seq ?_|refine w_region ?_|refine w_ops_nil ?_|refine w_skip ?_|refine w_block ?_|refine w_blk ?_|refine q7 ?_|refine q8 ?_|refine q9 ?_)
  refine w_next hit hE.1 hE.2 rfl rfl (fun hall => ?_) (fun e h6 he hse hb6 hs6 hit6 => ?_)
  · have hall2 : ∀ x ∈ l, x ∈ xs := fun x hx => by
      have h3 := hall (entE El.ck El.cv x) (by simpa using List.mem_map.2 ⟨x, hx, rfl⟩)
      have h4 : x.2.2 ∈ xs.map (·.2.2) := by simpa [Array.contains_eq_mem, entE] using h3
      obtain ⟨y, hy, e⟩ := List.mem_map.1 h4
      rw [← nodup_inj (·.2.2) hbn y (hin y hy) x hx e]; exact hy
    have hp := nodup_perm xs l hnd (by
      exact nodup_of_map (·.2.2) hbn) hin hall2
    repeat (first|refine q1 ?_|refine q2 ?_|refine q3 ?_|refine q4 ?_|refine q5 ?_|refine q6 ?_|refine w_seq ?_|refine w_region ?_|refine w_ops_nil ?_|refine w_skip ?_|refine w_block ?_|refine w_blk ?_|refine q7 ?_|refine q8 ?_|refine q9 ?_)
    refine w_endG (res0 rfl) (hstp.mono (by simp) (by simp)) fun h' hv' => ?_
    exact ⟨xs.map (·.1), hp.map _, hJv _ _ _ hJ1 hv'⟩
  · obtain ⟨x, hx, rfl⟩ : ∃ x ∈ l, e = entE El.ck El.cv x := by
      simp only [List.mem_map] at he
      obtain ⟨x, hx, e'⟩ := he
      exact ⟨x, hx, e'.symm⟩
    have hxs : x ∉ xs := fun hin2 => by
      have : (xs.map (·.2.2)).toArray.contains x.2.2 = true := by
        simp only [Array.contains_eq_mem, List.mem_toArray, decide_eq_true_eq]
        exact List.mem_map.2 ⟨x, hin2, rfl⟩
      have h3 : (xs.map (·.2.2)).toArray.contains x.2.2 = false := hse
      rw [this] at h3; cases h3
    have hnd2 : (xs ++ [x]).Nodup := by
      rw [List.nodup_append]
      refine ⟨hnd, by simp, fun a ha b hb => ?_⟩
      simp at hb; subst hb
      exact fun e => hxs (e ▸ ha)
    have hin2 : ∀ y ∈ xs ++ [x], y ∈ l := fun y hy => by
      rcases List.mem_append.1 hy with hy | hy
      · exact hin y hy
      · simp at hy; subst hy; exact hx
    have hlen := nodup_len _ _ hnd2 hin2
    simp only [List.length_append, List.length_cons, List.length_nil] at hlen
    replace hE := hE.step hs6 (by simp; omega) (by simp)
    replace hstp := hstp.trans (hs6.mono (by simp) (by simp))
    replace hJ1 := hJs _ _ _ _ hJ1 hs6 (by intro x hx; simp at hx; subst hx; exact h28)
    repeat (first|refine q1 ?_|refine q2 ?_|refine q3 ?_|refine q4 ?_|refine q5 ?_|refine q6 ?_|refine w_seq ?_|refine w_region ?_|refine w_ops_nil ?_|refine w_skip ?_|refine w_block ?_|refine w_blk ?_|refine q7 ?_|refine q8 ?_|refine q9 ?_)
    refine w_entry hit6 hE.1 hE.2 he rfl rfl ?_
    repeat (first|refine q1 ?_|refine q2 ?_|refine q3 ?_|refine q4 ?_|refine q5 ?_|refine q6 ?_|refine w_seq ?_|refine w_region ?_|refine w_ops_nil ?_|refine w_skip ?_|refine w_block ?_|refine w_blk ?_|refine q7 ?_|refine q8 ?_|refine q9 ?_)
    refine w_alloc 44 (vs := El.ck.enc Ck.zero) rfl rfl fun h7 b7 hs7 hc7 => ?_
    replace hE := hE.step hs7 (by simp) (by simp)
    replace hit6 := hit6.go hs7
    replace hstp := hstp.trans (hs7.mono (by simp) (by simp))
    replace hJ1 := hJs _ _ _ _ hJ1 hs7 (by simp)
    refine w_store (us := El.ck.enc x.1) (vs' := El.ck.enc x.1) hc7 rfl rfl rfl rfl (El.ck.flat _) (show 0 + 2 ≤ 2 by decide) rfl fun h8 hb8 hs8 hc8 => ?_
    replace hE := hE.step hs8 (by simp; omega) (by simp)
    replace hit6 := hit6.go hs8
    replace hstp := hstp.trans (hs8.mono (by simp) (by simp))
    replace hJ1 := hJs _ _ _ _ hJ1 hs8 (by intro x hx; simp at hx; subst hx; exact h44)
    refine w_ops_nil ?_
    refine w_seq ?_
    refine w_regionI ?_
    refine i_pure (fun _ => trivial) (by intro c h; cases h) rfl rfl ?_
    refine i_loadS (fun _ => trivial) (us := El.ck.enc x.1) hc8 rfl rfl rfl rfl rfl ?_
    refine i_yield (vs := [El.ck.val x.1]) (by intro q; exact Operand.noConfusion) rfl rfl (hY (xs.map (·.1)) x.1 h8 hJ1 (by simp only [List.length_map]; omega)) rfl fun v h9 hs9 hv9 => ?_
    obtain ⟨rfl, hJ9⟩ := hv9
    replace hE := hE.step hs9 hcM (by simp)
    replace hit6 := hit6.go hs9 (hM := h28)
    replace hstp := hstp.trans (hs9.mono (by simp) (fun x hx => List.mem_append_left _ hx))
    refine i_pure (fun _ => trivial) (by intro c h; cases h) rfl rfl ?_
    refine i_done ?_
    repeat (first|refine q1 ?_|refine q2 ?_|refine q3 ?_|refine q4 ?_|refine q5 ?_|refine q6 ?_|refine w_seq ?_|refine w_region ?_|refine w_ops_nil ?_|refine w_skip ?_|refine w_block ?_|refine w_blk ?_|refine q7 ?_|refine q8 ?_|refine q9 ?_)
    refine w_again (xs ++ [x]) (by simp only [List.length_append, List.length_cons, List.length_nil]; omega) ⟨h9, rfl, hstp, hE, ?_, ?_, hnd2, hin2⟩ ⟨rfl, rfl, trivial⟩
    · have e1 : ((xs ++ [x]).map (·.2.2)).toArray = (xs.map (·.2.2)).toArray.push x.2.2 := by simp
      rw [e1]; exact hit6
    · rw [List.map_append]; exact hJ9

set_option maxRecDepth 100000 in
/-- slices.AppendSeq(nil, seq): what seq gives, in a row of the call's own. -/
theorem ca_append (gf : FuncId) (lb : Array Value) [Enter Try.prog gf] {S : List Ck → Prop} {n : Nat} (hn : n ≤ 1000000) {w0 : World} (hG : Gives Try.prog gf lb.toList El.ck.val S n w0) (g : G) (h0 : w0.heap.size ≤ g.w.heap.size)
    (hb : ∀ b, b < w0.heap.size → g.w.heap[b]? = w0.heap[b]? ∧ g.col b ≠ 5) :
    Fn Try.prog 48 [.slice none 0 0, .func (.func gf) #[] lb] g [5] fun v h => ∃ xs, S xs ∧ Own h 5 El.ck 37 v xs := by
  refine enterGM [5] [2, 3, 4] Try.func48 rfl Try.ntmps48 rfl (by simp) fun g1 hv ho => ?_
  have hl : ∀ b, b < w0.heap.size → g1.w.heap[b]? = w0.heap[b]? ∧ g1.col b < 2 := fun b hlt =>
    ⟨by rw [hv.1]; exact (hb b hlt).1, hv.low ho (Nat.lt_of_lt_of_le hlt h0) (by simp; exact (hb b hlt).2)⟩
  have hsz : w0.heap.size ≤ g1.w.heap.size := by rw [hv.1]; exact h0
  clear hv ho hb h0
  repeat (first|refine q1 ?_|refine q2 ?_|refine q3 ?_|refine q4 ?_|refine q5 ?_|refine q6 ?_|refine w_seq ?_|refine w_region ?_|refine w_ops_nil ?_|refine w_skip ?_|refine w_block ?_|refine w_blk ?_|refine q7 ?_|refine q8 ?_|refine q9 ?_)
  refine w_box 2 (vs := [.slice none 0 0]) rfl rfl rfl fun h2 B hs2 hc2 => ?_
  have hl2 : ∀ b, b < w0.heap.size → h2.w.heap[b]? = w0.heap[b]? ∧ h2.col b < 2 := fun b hlt => by
    obtain ⟨a1, a2⟩ := hs2.keep b (Nat.lt_of_lt_of_le hlt hsz) (by simp) (by simp)
    exact ⟨a1.trans (hl b hlt).1, by rw [a2]; exact (hl b hlt).2⟩
  have hsz2 := Nat.le_trans hsz hs2.size
  clear hl hsz
  repeat (first|refine q1 ?_|refine q2 ?_|refine q3 ?_|refine q4 ?_|refine q5 ?_|refine q6 ?_|refine w_seq ?_|refine w_region ?_|refine w_ops_nil ?_|refine w_skip ?_|refine w_block ?_|refine w_blk ?_|refine q7 ?_|refine q8 ?_|refine q9 ?_)
  refine w_rangeFunc 3 (M := [2, 3, 4, 5]) (R := fun h => ∃ xs v, S xs ∧ Cell h 2 B 63 [v] ∧ Own h 5 El.ck 37 v xs) (by intro q; exact Operand.noConfusion) rfl (by simp) (fun h3 ly D fn tmps rc hrc hs3 htsz htm hne _ _ hL hD => ?_) ?_ ?_
  · have hfn := hG h3 ly [2, 3, 4, 5] (fun xs h => ObjAt h 3 ly (rc .ready) ∧ ObjAt h 3 D (.deferred (some [])) ∧ ∃ v, Cell h 2 B 63 [v] ∧ Own h 5 El.ck 37 v xs)
      (Nat.le_trans hsz2 hs3.size)
      (fun b hlt => by
        obtain ⟨a1, a2⟩ := hs3.keep b (Nat.lt_of_lt_of_le hlt hsz2) (by simp) (by simp)
        refine ⟨a1.trans (hl2 b hlt).1, ?_⟩
        rw [a2]; have := (hl2 b hlt).2; simp; omega)
      (by simp)
      (fun pre g h L hJ hs hL' => by
        obtain ⟨j1, j2, v, j3, j4⟩ := hJ
        have c2 : 2 ∉ L := fun hx => hL' 2 hx (by simp)
        have c3 : 3 ∉ L := fun hx => hL' 3 hx (by simp)
        have c5 : 5 ∉ L := fun hx => hL' 5 hx (by simp)
        exact ⟨j1.step hs c3 (by simp), j2.step hs c3 (by simp), v, j3.step hs c2 (by simp), j4.step hs c5⟩)
      (fun pre g h hJ hv => by
        obtain ⟨j1, j2, v, j3, j4⟩ := hJ
        exact ⟨j1.view hv (.inr (by simp)), j2.view hv (.inr (by simp)), v, j3.view hv (.inr (by simp)), j4.view hv (.inr (by simp))⟩)
      (fun pre x h hJ hlen => by
        obtain ⟨j1, j2, v, j3, j4⟩ := hJ
        refine ⟨fn, _, _, _, run_yield1 hrc j1.1, roundIn_of_wpIn trivial ?_⟩
        have hf : Fits 13 [(7, El.ck.val x), (2, .pointer (some ⟨B, 0, none⟩))] { tmps := tmps.setIfInBounds 7 (El.ck.val x), defers := [] } :=
          Fits.put (a := { tmps := tmps, defers := [] }) (s := [(2, .pointer (some ⟨B, 0, none⟩))]) (d := 7) ⟨htsz, rfl, fun k v hk => htm k v (Sub.look (r := [(2, .pointer (some ⟨B, 0, none⟩))]) ⟨rfl, trivial⟩ k v hk)⟩ (by decide)
        refine wpIn_region_lit ?_
        refine (show WpI _ _ _ _ 13 _ _ [(7, El.ck.val x), (2, .pointer (some ⟨B, 0, none⟩))] h.w from ?_) _ hf
        refine i_alloc (fun _ => trivial) 4 (vs := El.ck.enc Ck.zero) rfl rfl fun k1 b1 ks1 kc1 => ?_
        refine i_store (fun _ => trivial) (us := El.ck.enc x) (vs' := El.ck.enc x) kc1 rfl rfl rfl rfl (El.ck.flat _) (show 0 + 2 ≤ 2 by decide) rfl fun k2 kb2 ks2 kc2 => ?_
        replace j1 := (j1.step ks1 (by simp) (by simp)).step ks2 (by simp) (by simp)
        replace j2 := (j2.step ks1 (by simp) (by simp)).step ks2 (by simp) (by simp)
        replace j3 := (j3.go ks1).go ks2
        replace j4 := (j4.go ks1).go ks2
        have jst : Step [] [2, 3, 4, 5] h k2 := (ks1.nil.trans (ks2.mono (by simp) (by simp)))
        refine i_nil fun a1 ha1 => ?_
        refine ⟨_, run_begin1 hrc j1.1, ?_⟩
        have ks3 := j1.stepC (o' := rc .busy)
        replace j2 := j2.put_other (Ne.symm hne) (o' := rc .busy)
        replace j3 := j3.go ks3
        replace j4 := j4.go ks3
        replace kc2 := kc2.go ks3
        replace jst := jst.trans (ks3.mono (by simp) (by simp))
        replace j1 := j1.putObj (o' := rc .busy)
        clear ks3
        obtain ⟨k3, hk3⟩ : ∃ k3, k2.putObj ly (rc .busy) = k3 := ⟨_, rfl⟩
        rw [hk3] at j1 j2 j3 j4 kc2 jst
        have hk3w := congrArg G.w hk3
        refine wpIn_block ?_
        refine wpIn_region_lit ?_
        refine (show WpI _ _ _ _ 13 _ _ _ (k2.putObj ly (rc .busy)).w from ?_) _ ha1
        rw [hk3]
        clear hk3 hk3w ha1 ks1 ks2 kb2 kc1
        refine i_load1 (fun _ => trivial) j3 rfl rfl rfl rfl ?_
        refine i_loadS (fun _ => trivial) (us := El.ck.enc x) kc2 rfl rfl rfl rfl rfl ?_
        refine i_buildOne (fun _ => trivial) 4 El.ck x rfl (by decide) rfl fun k4 v4 ks4 ko4 => ?_
        replace j1 := j1.step ks4 (by simp) (by simp)
        replace j2 := j2.step ks4 (by simp) (by simp)
        replace j3 := j3.go ks4
        replace j4 := j4.go ks4
        replace jst := jst.trans ks4.nil
        refine i_append (fun _ => trivial) j4 ko4.rd rfl rfl rfl (by decide) (by simp only [List.length_cons, List.length_nil]; omega) rfl fun k5 v5 ks5 j4 => ?_
        replace j1 := j1.step ks5 (by simp) (by simp)
        replace j2 := j2.step ks5 (by simp) (by simp)
        replace j3 := j3.go ks5
        replace jst := jst.trans (ks5.mono (by simp) (by simp))
        refine i_store (fun _ => trivial) (us := [v5]) (vs' := [v5]) j3 rfl rfl j4.isSl.cells rfl (by intro u hu; simp at hu; subst hu; exact j4.isSl.one) (show 0 + 1 ≤ 1 by decide) rfl fun k6 kb6 ks6 j3 => ?_
        replace j1 := j1.step ks6 (by simp) (by simp)
        replace j2 := j2.step ks6 (by simp) (by simp)
        replace j4 := j4.go ks6
        replace jst := jst.trans (ks6.mono (by simp) (by simp))
        refine i_nil fun a2 ha2 => ?_
        refine ⟨_, _, run_end1 hrc j1.1, _, rfl, k6.col, ?_⟩
        have ks7 := j1.stepC (o' := rc .ready)
        exact ⟨jst.trans (ks7.mono (by simp) (by simp)), rfl, j1.putObj (o' := rc .ready), j2.put_other (Ne.symm hne) (o' := rc .ready), v5, j3.go ks7, j4.go ks7⟩)
      ⟨hL, hD, _, hc2.go hs3, Own.nil _ _ _ _⟩
    exact Fn.mono hfn (by simp) fun v h hs ⟨xs, hS, a1, a2, v', a3, a4⟩ => ⟨⟨xs, v', hS, a3, a4⟩, a1, a2⟩
  · rintro h h' ⟨xs, v, hS, a1, a2⟩ hs
    exact ⟨xs, v, hS, a1.go hs, a2.go hs⟩
  · rintro h4 D hs4 ⟨xs, v, hS, a1, a2⟩ hD a ha
    simp only [sem]
    refine tail_loadRet a1 rfl rfl rfl (by decide) (by decide) (by decide) rfl hD ha ?_
    have ks := hD.stepC (o' := .deferred none)
    refine ⟨h4.col, ((hs2.nil.trans (hs4.mono (by simp) (by simp))).trans (ks.mono (by simp) (by simp))), fun h' hv' => ⟨xs, hS, ?_⟩⟩
    exact (a2.go ks).view hv' (.inr (by simp))

/-- slices.Collect(seq). -/
theorem ca_collect (gf : FuncId) (lb : Array Value) [Enter Try.prog gf] {S : List Ck → Prop} {n : Nat} (hn : n ≤ 1000000) {w0 : World} (hG : Gives Try.prog gf lb.toList El.ck.val S n w0) (g : G) (h0 : w0.heap.size ≤ g.w.heap.size)
    (hb : ∀ b, b < w0.heap.size → g.w.heap[b]? = w0.heap[b]? ∧ g.col b ≠ 5) :
    Fn Try.prog 41 [.func (.func gf) #[] lb] g [5] fun v h => ∃ xs, S xs ∧ Own h 5 El.ck 37 v xs := by
  refine enterG [5] [2] Try.func41 rfl Try.ntmps41 rfl (by simp) fun g1 hv ho => ?_
  have hl : ∀ b, b < w0.heap.size → g1.w.heap[b]? = w0.heap[b]? ∧ g1.col b ≠ 5 := fun b hlt =>
    ⟨by rw [hv.1]; exact (hb b hlt).1, by have := hv.low ho (Nat.lt_of_lt_of_le hlt h0) (by simp; exact (hb b hlt).2); omega⟩
  have hsz : w0.heap.size ≤ g1.w.heap.size := by rw [hv.1]; exact h0
  repeat (first|refine q1 ?_|refine q2 ?_|refine q3 ?_|refine q4 ?_|refine q5 ?_|refine q6 ?_|refine w_seq ?_|refine w_region ?_|refine w_ops_nil ?_|refine w_skip ?_|refine w_block ?_|refine w_blk ?_|refine q7 ?_|refine q8 ?_|refine q9 ?_)
  refine w_callF (vs := [.slice none 0 0, .func (.func gf) #[] lb]) rfl (ca_append gf lb hn hG g1 hsz hl) rfl fun v h2 hs2 hr2 => ?_
  obtain ⟨xs, hS, hown⟩ := hr2
  repeat (first|refine q1 ?_|refine q2 ?_|refine q3 ?_|refine q4 ?_|refine q5 ?_|refine q6 ?_|refine w_seq ?_|refine w_region ?_|refine w_ops_nil ?_|refine w_skip ?_|refine w_block ?_|refine w_blk ?_|refine q7 ?_|refine q8 ?_|refine q9 ?_)
  refine w_retG (res1 rfl rfl) (hs2.mono (by simp) (by simp)) fun h' hv' => ⟨xs, hS, hown.view hv' (.inr (by simp))⟩

theorem ca_keys (q : Nat) (g : G) : Fn Try.prog 35 [.map (some q)] g [] fun v h => ∃ bb, v = .func (.func 43) #[] #[.pointer (some ⟨bb, 0, none⟩)] ∧ h.w.heap[bb]? = some (.cells [.map (some q)].toArray 66 (0, 0)) := by
  refine enterG [] [2] Try.func35 rfl Try.ntmps35 rfl (by simp) fun g1 hv ho => ?_
  repeat (first|refine q1 ?_|refine q2 ?_|refine q3 ?_|refine q4 ?_|refine q5 ?_|refine q6 ?_|refine w_seq ?_|refine w_region ?_|refine w_ops_nil ?_|refine w_skip ?_|refine w_block ?_|refine w_blk ?_|refine q7 ?_|refine q8 ?_|refine q9 ?_)
  refine w_box 2 (vs := [.map (some q)]) rfl rfl rfl fun h1 bb hs1 hc1 => ?_
  repeat (first|refine q1 ?_|refine q2 ?_|refine q3 ?_|refine q4 ?_|refine q5 ?_|refine q6 ?_|refine w_seq ?_|refine w_region ?_|refine w_ops_nil ?_|refine w_skip ?_|refine w_block ?_|refine w_blk ?_|refine q7 ?_|refine q8 ?_|refine q9 ?_)
  refine w_retG (res1 rfl rfl) hs1.nil fun h' hv' => ⟨bb, rfl, ?_⟩
  rw [hv'.1]; exact hc1.1
theorem ca_sort {g : G} {c : Nat} {v : Value} {xs : List Ck} (ho : Own g c El.ck 37 v xs) (hl : xs.length ≤ 1000000) :
    Fn Try.prog 42 [v, .func (.func 36) #[] #[]] g [c] fun _ h => Own h c El.ck 37 v (srt cmpC xs) :=
  sortFunc_fn (P := Try.prog) (ρ := sortCk_ren) sortCk (E := El.ck) (Und.eq (P := Try.prog) (T := 37)) rfl (show Inf Try.prog 37 _ _ _ from inferInstance) rfl cmpC isCmpC.swo isCmpC.tot 36 (fun x y g => cache_compare x y g) ho (by omega)
theorem ca_sorted (gf : FuncId) (lb : Array Value) [Enter Try.prog gf] {S : List Ck → Prop} {n : Nat} (hn : n ≤ 1000000) {w0 : World} (hG : Gives Try.prog gf lb.toList El.ck.val S n w0) (hS : ∀ xs, S xs → xs.length ≤ 1000000) (g : G) (h0 : w0.heap.size ≤ g.w.heap.size)
    (hb : ∀ b, b < w0.heap.size → g.w.heap[b]? = w0.heap[b]?) :
    Fn Try.prog 34 [.func (.func gf) #[] lb, .func (.func 36) #[] #[]] g [] fun v h => ∃ xs, S xs ∧ Rd h 0 El.ck v (srt cmpC xs) := by
  refine enterG [] [5] Try.func34 rfl Try.ntmps34 rfl (by simp) fun g1 hv ho => ?_
  have hl : ∀ b, b < w0.heap.size → g1.w.heap[b]? = w0.heap[b]? ∧ g1.col b ≠ 5 := fun b hlt =>
    ⟨by rw [hv.1]; exact hb b hlt, by have := hv.low ho (Nat.lt_of_lt_of_le hlt h0) (by simp); omega⟩
  have hsz : w0.heap.size ≤ g1.w.heap.size := by rw [hv.1]; exact h0
  repeat (first|refine q1 ?_|refine q2 ?_|refine q3 ?_|refine q4 ?_|refine q5 ?_|refine q6 ?_|refine w_seq ?_|refine w_region ?_|refine w_ops_nil ?_|refine w_skip ?_|refine w_block ?_|refine w_blk ?_|refine q7 ?_|refine q8 ?_|refine q9 ?_)
  refine w_callF (vs := [.func (.func gf) #[] lb]) rfl (ca_collect gf lb hn hG g1 hsz hl) rfl fun v h2 hs2 hr2 => ?_
  obtain ⟨xs, hxs, ho2⟩ := hr2
  repeat (first|refine q1 ?_|refine q2 ?_|refine q3 ?_|refine q4 ?_|refine q5 ?_|refine q6 ?_|refine w_seq ?_|refine w_region ?_|refine w_ops_nil ?_|refine w_skip ?_|refine w_block ?_|refine w_blk ?_|refine q7 ?_|refine q8 ?_|refine q9 ?_)
  refine w_callF (vs := [v, .func (.func 36) #[] #[]]) rfl (ca_sort ho2 (hS xs hxs)) rfl fun u h3 hs3 ho3 => ?_
  repeat (first|refine q1 ?_|refine q2 ?_|refine q3 ?_|refine q4 ?_|refine q5 ?_|refine q6 ?_|refine w_seq ?_|refine w_region ?_|refine w_ops_nil ?_|refine w_skip ?_|refine w_block ?_|refine w_blk ?_|refine q7 ?_|refine q8 ?_|refine q9 ?_)
  obtain ⟨h4, hw4, hs4, hr4⟩ := ho3.freeze (by decide)
  rw [← hw4]
  refine w_retG (res1 rfl rfl) ((hs2.mono (by simp) (by simp)).trans ((hs3.mono (by simp) (by simp)).trans (hs4.mono (by simp) (by simp)))) fun h' hv' => ⟨xs, hxs, hr4.view hv' (.inl rfl)⟩

theorem ca_min (f : FuncId) (cap : Array Value) [Enter Try.prog f] (tv : Ck → Int) (I : G → Prop) (hIs : ∀ g h M, I g → Step [] M g h → (∀ x ∈ M, 2 ≤ x) → I h) (b : Ck) (ks : List Ck) (v : Value) (g : G) (hr : Rd g 0 El.ck v (b :: ks))
    (hg : ∀ h, View [] g h → Out [] g h → I h)
    (hp : ∀ (x y : Ck) (g : G), I g → Fn Try.prog f (El.ck.val x :: El.ck.val y :: cap.toList) g [] fun u _ => u = .int .i64 (cmpI (tv x) (tv y))) :
    Fn Try.prog 38 [v, .func (.func f) #[] cap] g [] fun u _ => u = El.ck.val (leastBy tv b ks) := by
  refine enterG [] [41, 42] Try.func38 rfl Try.ntmps38 rfl (by simp) fun g1 hv ho => ?_
  have hI := hg g1 hv ho
  replace hr := hr.view hv (.inl rfl)
  have hlm := hr.isSl.le
  simp only [List.length_cons] at hlm
  repeat (first|refine q1 ?_|refine q2 ?_|refine q3 ?_|refine q4 ?_|refine q5 ?_|refine q6 ?_|refine w_seq ?_|refine w_region ?_|refine w_ops_nil ?_|refine w_skip ?_|refine w_block ?_|refine w_blk ?_|refine q7 ?_|refine q8 ?_|refine q9 ?_)
  refine w_alloc 41 (vs := El.ck.enc Ck.zero) rfl rfl fun h1 b1 hs1 hc1 => ?_
  have hst : Step [] [41, 42] g1 h1 := hs1.nil
  replace hI := hIs _ _ _ hI hs1 (by simp)
  replace hr := hr.go hs1
  repeat (first|refine q1 ?_|refine q2 ?_|refine q3 ?_|refine q4 ?_|refine q5 ?_|refine q6 ?_|refine w_seq ?_|refine w_region ?_|refine w_ops_nil ?_|refine w_skip ?_|refine w_block ?_|refine w_blk ?_|refine q7 ?_|refine q8 ?_|refine q9 ?_)
  refine w_lenSl hr.isSl rfl rfl ?_
  repeat (first|refine q1 ?_|refine q2 ?_|refine q3 ?_|refine q4 ?_|refine q5 ?_|refine q6 ?_|refine w_seq ?_|refine w_region ?_|refine w_ops_nil ?_|refine w_skip ?_|refine w_block ?_|refine w_blk ?_|refine q7 ?_|refine q8 ?_|refine q9 ?_)
  refine w_condP rfl (fun h => by simp only [List.length_cons] at h; omega) (fun _ => ?_)
  repeat (first|refine q1 ?_|refine q2 ?_|refine q3 ?_|refine q4 ?_|refine q5 ?_|refine q6 ?_|refine w_seq ?_|refine w_region ?_|refine w_ops_nil ?_|refine w_skip ?_|refine w_block ?_|refine w_blk ?_|refine q7 ?_|refine q8 ?_|refine q9 ?_)
  refine w_idx hr rfl rfl (by omega) (by simp) rfl ?_
  refine w_loadE (i := 0) (y := b) hr rfl rfl rfl rfl ?_
  repeat (first|refine q1 ?_|refine q2 ?_|refine q3 ?_|refine q4 ?_|refine q5 ?_|refine q6 ?_|refine w_seq ?_|refine w_region ?_|refine w_ops_nil ?_|refine w_skip ?_|refine w_block ?_|refine w_blk ?_|refine q7 ?_|refine q8 ?_|refine q9 ?_)
  refine w_alloc 42 (vs := El.ck.enc Ck.zero) rfl rfl fun h2 b2 hs2 hc2 => ?_
  replace hI := hIs _ _ _ hI hs2 (by simp)
  replace hst := hst.go hs2; replace hr := hr.go hs2; replace hc1 := hc1.go hs2
  refine w_store (us := El.ck.enc b) (vs' := El.ck.enc b) hc2 rfl rfl rfl rfl (El.ck.flat _) (show 0 + 2 ≤ 2 by decide) rfl fun h3 hb3 hs3 hc2 => ?_
  replace hI := hIs _ _ _ hI hs3 (by simp)
  replace hst := hst.go hs3; replace hr := hr.go hs3; replace hc1 := hc1.go hs3
  clear hs1 hs2 hs3 hb3
  repeat (first|refine q1 ?_|refine q2 ?_|refine q3 ?_|refine q4 ?_|refine q5 ?_|refine q6 ?_|refine w_seq ?_|refine w_region ?_|refine w_ops_nil ?_|refine w_skip ?_|refine w_block ?_|refine w_blk ?_|refine q7 ?_|refine q8 ?_|refine q9 ?_)
  refine w_loop (ι := Nat) (fun i => [(0, v), (1, .func (.func f) #[] cap), (4, .pointer (some ⟨b1, 0, none⟩)), (5, .pointer (some ⟨b2, 0, none⟩)), (6, .int .i64 ((i : Int) + 1))])
    (fun i w => ∃ h : G, h.w = w ∧ Step [] [42] h3 h ∧ I h ∧ Cell h 42 b2 37 (El.ck.enc (leastBy tv b (ks.take i))) ∧ i ≤ ks.length) (fun i => ks.length - i)
    0 ⟨h3, rfl, Step.refl _ _ _, hI, hc2, by omega⟩ ⟨rfl, rfl, rfl, rfl, rfl, trivial⟩ ?_
  clear hI hc2
  rintro i _ ⟨h, rfl, hst2, hI, hc2, hi⟩
  replace hst := hst.go hst2; replace hr := hr.go hst2; replace hc1 := hc1.go hst2
  repeat (first|refine q1 ?_|refine q2 ?_|refine q3 ?_|refine q4 ?_|refine q5 ?_|refine q6 ?_|refine w_seq ?_|refine w_region ?_|refine w_ops_nil ?_|refine w_skip ?_|refine w_block ?_|refine w_blk ?_|refine q7 ?_|refine q8 ?_|refine q9 ?_)
  refine w_lenSl hr.isSl rfl rfl ?_
  simp only [List.length_cons]
  repeat (first|refine q1 ?_|refine q2 ?_|refine q3 ?_|refine q4 ?_|refine q5 ?_|refine q6 ?_|refine w_seq ?_|refine w_region ?_|refine w_ops_nil ?_|refine w_skip ?_|refine w_block ?_|refine w_blk ?_|refine q7 ?_|refine q8 ?_|refine q9 ?_)
  refine w_condP rfl (fun hlt => ?_) (fun hlt => ?_)
  · have hlt : i < ks.length := by omega
    have hget : (b :: ks)[((i : Int) + 1).toNat]? = some ks[i] := by
      rw [show ((i : Int) + 1).toNat = i + 1 by omega]; simp [hlt]
    have htake : ks.take (i + 1) = ks.take i ++ [ks[i]] := List.take_succ_eq_append_getElem hlt
    have hnext : leastBy tv b (ks.take (i + 1)) = if tv ks[i] < tv (leastBy tv b (ks.take i)) then ks[i] else leastBy tv b (ks.take i) := by
      rw [htake, leastBy_append]; rfl
    repeat (first|refine q1 ?_|refine q2 ?_|refine q3 ?_|refine q4 ?_|refine q5 ?_|refine q6 ?_|refine w_seq ?_|refine w_region ?_|refine w_ops_nil ?_|refine w_skip ?_|refine w_block ?_|refine w_blk ?_|refine q7 ?_|refine q8 ?_|refine q9 ?_)
    refine d_begin none [] (by kernel_rfl) fun g2 hsd => ?_
    replace hI := hIs _ _ _ hI hsd (by simp)
    replace hst := hst.go hsd; replace hst2 := hst2.go hsd; replace hr := hr.go hsd; replace hc1 := hc1.go hsd; replace hc2 := hc2.go hsd
    refine d_pure 0 calm_ret rfl (by kernel_rfl) rfl rfl ?_; refine d_pure 1 calm_ret rfl (by kernel_rfl) rfl rfl ?_; refine d_pure 2 calm_ret rfl (by kernel_rfl) rfl rfl ?_
    refine d_read 3 calm_ret rfl (by kernel_rfl) rfl  (fun h hs => r_idx (hr.go hs) rfl rfl (by omega) (by simp only [List.length_cons]; omega)) ?_
    refine d_read 4 calm_ret rfl (by kernel_rfl) rfl  (fun h hs => r_loadE (i := ((i : Int) + 1).toNat) (y := ks[i]) (hr.go hs) rfl hget rfl) ?_
    refine d_read 5 calm_ret rfl (by kernel_rfl) rfl  (fun h hs => r_load (us := El.ck.enc (leastBy tv b (ks.take i))) (hc2.go hs) rfl rfl rfl (fun e => by cases e)) ?_
    refine d_exec1 6 (by kernel_rfl) rfl ?_
    refine w_callV (f := f) (first := #[]) (captured := cap) (by intro q; exact Operand.noConfusion) rfl rfl (hp ks[i] (leastBy tv b (ks.take i)) g2 hI) rfl fun u h4 hs4 hu => ?_
    subst hu
    replace hI := hIs _ _ _ hI hs4 (by simp)
    replace hst := hst.go hs4; replace hst2 := hst2.go hs4; replace hr := hr.go hs4; replace hc1 := hc1.go hs4; replace hc2 := hc2.go hs4
    have hsb : Step [] [] g2 h4 := hs4
    repeat (first|refine q1 ?_|refine q2 ?_|refine q3 ?_|refine q4 ?_|refine q5 ?_|refine q6 ?_|refine w_seq ?_|refine w_region ?_|refine w_ops_nil ?_|refine w_skip ?_|refine w_block ?_|refine w_blk ?_|refine q7 ?_|refine q8 ?_|refine q9 ?_)
    refine d_next (fun _ => ⟨h4, rfl, hsb⟩) ?_
    refine d_pure 7 calm_ret rfl (by kernel_rfl) rfl rfl ?_
    refine d_done (by kernel_rfl) ?_
    have hci : cmpI (tv ks[i]) (tv (leastBy tv b (ks.take i))) < 0 ↔ tv ks[i] < tv (leastBy tv b (ks.take i)) := by unfold cmpI; split <;> (try split) <;> simp <;> omega
    repeat (first|refine q1 ?_|refine q2 ?_|refine q3 ?_|refine q4 ?_|refine q5 ?_|refine q6 ?_|refine w_seq ?_|refine w_region ?_|refine w_ops_nil ?_|refine w_skip ?_|refine w_block ?_|refine w_blk ?_|refine q7 ?_|refine q8 ?_|refine q9 ?_)
    refine w_condP rfl (fun hx => ?_) (fun hx => ?_)
    · rw [if_pos (hci.1 hx)] at hnext
      repeat (first|refine q1 ?_|refine q2 ?_|refine q3 ?_|refine q4 ?_|refine q5 ?_|refine q6 ?_|refine w_seq ?_|refine w_region ?_|refine w_ops_nil ?_|refine w_skip ?_|refine w_block ?_|refine w_blk ?_|refine q7 ?_|refine q8 ?_|refine q9 ?_)
      refine w_idx hr rfl rfl (by omega) (by simp only [List.length_cons]; omega) rfl ?_
      refine w_loadE (i := ((i : Int) + 1).toNat) (y := ks[i]) hr rfl hget rfl rfl ?_
      refine w_store (us := El.ck.enc ks[i]) (vs' := El.ck.enc ks[i]) hc2 rfl rfl rfl rfl (El.ck.flat _) (show 0 + 2 ≤ 2 by decide) rfl fun h5 hb5 hs5 hc2 => ?_
      replace hI := hIs _ _ _ hI hs5 (by simp)
      repeat (first|refine q1 ?_|refine q2 ?_|refine q3 ?_|refine q4 ?_|refine q5 ?_|refine q6 ?_|refine w_seq ?_|refine w_region ?_|refine w_ops_nil ?_|refine w_skip ?_|refine w_block ?_|refine w_blk ?_|refine q7 ?_|refine q8 ?_|refine q9 ?_)
      refine w_again (i + 1) (by omega) ⟨h5, rfl, hst2.go hs5, hI, by rw [hnext]; exact hc2, by omega⟩ ⟨rfl, rfl, rfl, rfl, congrArg (fun z => some (Value.int .i64 z)) (by push_cast; omega), trivial⟩
    · rw [if_neg (fun e => hx (hci.2 e))] at hnext
      repeat (first|refine q1 ?_|refine q2 ?_|refine q3 ?_|refine q4 ?_|refine q5 ?_|refine q6 ?_|refine w_seq ?_|refine w_region ?_|refine w_ops_nil ?_|refine w_skip ?_|refine w_block ?_|refine w_blk ?_|refine q7 ?_|refine q8 ?_|refine q9 ?_)
      refine w_again (i + 1) (by omega) ⟨h4, rfl, hst2, hI, by rw [hnext]; exact hc2, by omega⟩ ⟨rfl, rfl, rfl, rfl, congrArg (fun z => some (Value.int .i64 z)) (by push_cast; omega), trivial⟩
  have e : i = ks.length := by omega
  subst e
  rw [List.take_length] at hc2
  repeat (first|refine q1 ?_|refine q2 ?_|refine q3 ?_|refine q4 ?_|refine q5 ?_|refine q6 ?_|refine w_seq ?_|refine w_region ?_|refine w_ops_nil ?_|refine w_skip ?_|refine w_block ?_|refine w_blk ?_|refine q7 ?_|refine q8 ?_|refine q9 ?_)
  refine w_loadS (us := El.ck.enc (leastBy tv b ks)) hc2 rfl rfl rfl rfl rfl ?_
  refine w_store (us := El.ck.enc (leastBy tv b ks)) (vs' := El.ck.enc (leastBy tv b ks)) hc1 rfl rfl rfl rfl (El.ck.flat _) (show 0 + 2 ≤ 2 by decide) rfl fun h5 hb5 hs5 hc1 => ?_
  repeat (first|refine q1 ?_|refine q2 ?_|refine q3 ?_|refine q4 ?_|refine q5 ?_|refine q6 ?_|refine w_seq ?_|refine w_region ?_|refine w_ops_nil ?_|refine w_skip ?_|refine w_block ?_|refine w_blk ?_|refine q7 ?_|refine q8 ?_|refine q9 ?_)
  exact w_retG (resCs hc1 rfl rfl rfl rfl) (hst.go hs5) fun h' _ => rfl

end Go.Proofs.Ytfkdfnookacgiaa
