/- Grants: the keys of a book, as a list. No statement of the seat is proved here. -/
import Derived.Test.YtkgbodmlmeholaaSeq
import Derived.Test.YtkgbodmlmeholaaGr7
set_option linter.unusedVariables false
set_option linter.unusedSimpArgs false
namespace Go.Proofs.Ytkgbodmlmeholaa
open Go
set_option maxRecDepth 100000 in
/-- maps.Keys' iterator: each key once, in some order. -/
theorem gr_keys_gives {q bb clock : Nat} {l : List (Ky × Int × Nat)} {w0 : World} (hm : w0.heap[q]? = some (.map (l.map (entE El.ky El.int)).toArray clock)) (hst : Stamps (l.map (entE El.ky El.int)).toArray clock)
    (hbox : w0.heap[bb]? = some (.cells [.map (some q)].toArray 72 (0, 0))) :
    Gives Try.prog 48 [.pointer (some ⟨bb, 0, none⟩)] El.ky.val (fun ss => ss.Perm (l.map (·.1))) l.length w0 := by
  intro g ly M J h1 h2 hM hJs hJv hY hJ0
  have hq : q < w0.heap.size := (Array.getElem?_eq_some_iff.1 hm).1
  have hbl : bb < w0.heap.size := (Array.getElem?_eq_some_iff.1 hbox).1
  refine enterG M [28, 44] Try.func48 rfl Try.ntmps48 rfl (fun x hx => (List.mem_append.1 hx).elim (fun hx => (hM x hx).1) (fun hx => by simp at hx; omega)) fun g1 hv ho => ?_
  have hlq := hv.low ho (Nat.lt_of_lt_of_le hq h1) (h2 q hq).2
  obtain ⟨cq, hcq⟩ : ∃ c, g1.col q = c := ⟨_, rfl⟩
  obtain ⟨cb, hcb⟩ : ∃ c, g1.col bb = c := ⟨_, rfl⟩
  rw [hcq] at hlq
  have hE : MapE g1 cq q El.ky El.int l clock := ⟨⟨by rw [hv.1, (h2 q hq).1]; exact hm, hcq⟩, hst⟩
  have hbx : Cell g1 cb bb 72 [.map (some q)] := ⟨by rw [hv.1, (h2 bb hbl).1]; exact hbox, hcb⟩
  have hJ1 := hJv _ _ _ hJ0 hv
  have hcM : cq ∉ M := fun h => by have := (hM _ h).1; omega
  have h28 : 28 ∉ M := fun h => by have := (hM _ h).2; omega
  have h44 : 44 ∉ M := fun h => by have := (hM _ h).2; omega
  have hbn : (l.map (·.2.2)).Nodup := by
    have := hst.2
    simp only [List.map_map] at this
    exact this
  clear hv ho h2 hJ0 hm hbox
  repeat (first|refine q1 ?_|refine q2 ?_|refine q3 ?_|refine q4 ?_|refine q5 ?_|refine q6 ?_|refine w_seq ?_|refine w_region ?_|refine w_ops_nil ?_|refine w_skip ?_|refine w_block ?_|refine w_blk ?_|refine q7 ?_|refine q8 ?_|refine q9 ?_)
  refine w_load1 hbx rfl rfl rfl rfl ?_
  clear hbx
  refine w_range 28 hE.1 rfl rfl fun h2 r hs2 hit => ?_
  replace hE := hE.step hs2 (by simp) (by simp)
  replace hJ1 := hJs _ _ _ _ hJ1 hs2 (by simp)
  have hstp : Step [] (M ++ [28, 44]) g1 h2 := hs2.nil
  clear hs2
  repeat (first|refine q1 ?_|refine q2 ?_|refine q3 ?_|refine q4 ?_|refine q5 ?_|refine q6 ?_|refine w_seq ?_|refine w_region ?_|refine w_ops_nil ?_|refine w_skip ?_|refine w_block ?_|refine w_blk ?_|refine q7 ?_|refine q8 ?_|refine q9 ?_)
  refine w_loop (ι := List (Ky × Int × Nat)) (fun _ => [(0, .func (.yield ly) #[] #[]), (5, .pointer (some ⟨r, 0, none⟩))])
    (fun xs w => ∃ h : G, h.w = w ∧ Step [] (M ++ [28, 44]) g1 h ∧ MapE h cq q El.ky El.int l clock ∧ IterIs h 28 r q (l.map (entE El.ky El.int)).toArray clock (xs.map (·.2.2)).toArray ∧ J (xs.map (·.1)) h ∧ xs.Nodup ∧ ∀ x ∈ xs, x ∈ l) (fun xs => l.length - xs.length) []
    ⟨h2, rfl, hstp, hE, hit, hJ1, List.nodup_nil, by simp⟩ ⟨rfl, rfl, trivial⟩ ?_
  clear hstp hE hit hJ1
  rintro xs _ ⟨h, rfl, hstp, hE, hit, hJ1, hnd, hin⟩
  repeat (first|refine q1 ?_|refine q2 ?_|refine q3 ?_|refine q4 ?_|refine q5 ?_|refine q6 ?_|refine w_seq ?_|refine w_region ?_|refine w_ops_nil ?_|refine w_skip ?_|refine w_block ?_|refine w_blk ?_|refine q7 ?_|refine q8 ?_|refine q9 ?_)
  refine w_next hit hE.1 hE.2 rfl rfl (fun hall => ?_) (fun e h6 he hse hb6 hs6 hit6 => ?_)
  · have hall2 : ∀ x ∈ l, x ∈ xs := fun x hx => by
      have h3 := hall (entE El.ky El.int x) (by simpa using List.mem_map.2 ⟨x, hx, rfl⟩)
      have h4 : x.2.2 ∈ xs.map (·.2.2) := by simpa [Array.contains_eq_mem, entE] using h3
      obtain ⟨y, hy, e⟩ := List.mem_map.1 h4
      rw [← nodup_inj (·.2.2) hbn y (hin y hy) x hx e]; exact hy
    have hp := nodup_perm xs l hnd (by
      exact nodup_of_map (·.2.2) hbn) hin hall2
    repeat (first|refine q1 ?_|refine q2 ?_|refine q3 ?_|refine q4 ?_|refine q5 ?_|refine q6 ?_|refine w_seq ?_|refine w_region ?_|refine w_ops_nil ?_|refine w_skip ?_|refine w_block ?_|refine w_blk ?_|refine q7 ?_|refine q8 ?_|refine q9 ?_)
    refine w_endG (res0 rfl) (hstp.mono (by simp) (by simp)) fun h' hv' => ?_
    exact ⟨xs.map (·.1), hp.map _, hJv _ _ _ hJ1 hv'⟩
  · obtain ⟨x, hx, rfl⟩ : ∃ x ∈ l, e = entE El.ky El.int x := by
      simp only [List.mem_map] at he
      obtain ⟨x, hx, e'⟩ := he
      exact ⟨x, hx, e'.symm⟩
    have hxs : x ∉ xs := fun hin2 => by
      have : (xs.map (·.2.2)).toArray.contains x.2.2 = true := by
        simp only [Array.contains_eq_mem, List.mem_toArray, decide_eq_true_eq]
        exact List.mem_map.2 ⟨x, hin2, rfl⟩
      have h3 : (xs.map (·.2.2)).toArray.contains x.2.2 = false := hse
      rw [this] at h3; cases h3
    have hnd2 : (xs ++ [x]).Nodup := by
      rw [List.nodup_append]
      refine ⟨hnd, by simp, fun a ha b hb => ?_⟩
      simp at hb; subst hb
      exact fun e => hxs (e ▸ ha)
    have hin2 : ∀ y ∈ xs ++ [x], y ∈ l := fun y hy => by
      rcases List.mem_append.1 hy with hy | hy
      · exact hin y hy
      · simp at hy; subst hy; exact hx
    have hlen := nodup_len _ _ hnd2 hin2
    simp only [List.length_append, List.length_cons, List.length_nil] at hlen
    replace hE := hE.step hs6 (by simp; omega) (by simp)
    replace hstp := hstp.trans (hs6.mono (by simp) (by simp))
    replace hJ1 := hJs _ _ _ _ hJ1 hs6 (by intro x hx; simp at hx; subst hx; exact h28)
    repeat (first|refine q1 ?_|refine q2 ?_|refine q3 ?_|refine q4 ?_|refine q5 ?_|refine q6 ?_|refine w_seq ?_|refine w_region ?_|refine w_ops_nil ?_|refine w_skip ?_|refine w_block ?_|refine w_blk ?_|refine q7 ?_|refine q8 ?_|refine q9 ?_)
    refine w_entry hit6 hE.1 hE.2 he rfl rfl ?_
    repeat (first|refine q1 ?_|refine q2 ?_|refine q3 ?_|refine q4 ?_|refine q5 ?_|refine q6 ?_|refine w_seq ?_|refine w_region ?_|refine w_ops_nil ?_|refine w_skip ?_|refine w_block ?_|refine w_blk ?_|refine q7 ?_|refine q8 ?_|refine q9 ?_)
    refine w_alloc 44 (vs := El.ky.enc Ky.zero) rfl rfl fun h7 b7 hs7 hc7 => ?_
    replace hE := hE.step hs7 (by simp) (by simp)
    replace hit6 := hit6.go hs7
    replace hstp := hstp.trans (hs7.mono (by simp) (by simp))
    replace hJ1 := hJs _ _ _ _ hJ1 hs7 (by simp)
    refine w_store (us := El.ky.enc x.1) (vs' := El.ky.enc x.1) hc7 rfl rfl rfl rfl (El.ky.flat _) (show 0 + 24 ≤ 24 by decide) rfl fun h8 hb8 hs8 hc8 => ?_
    replace hE := hE.step hs8 (by simp; omega) (by simp)
    replace hit6 := hit6.go hs8
    replace hstp := hstp.trans (hs8.mono (by simp) (by simp))
    replace hJ1 := hJs _ _ _ _ hJ1 hs8 (by intro x hx; simp at hx; subst hx; exact h44)
    refine w_ops_nil ?_
    refine w_seq ?_
    refine w_regionI ?_
    refine i_pure (fun _ => trivial) (by intro c h; cases h) rfl rfl ?_
    refine i_loadS (fun _ => trivial) (us := El.ky.enc x.1) hc8 rfl rfl rfl rfl rfl ?_
    refine i_yield (vs := [El.ky.val x.1]) (by intro q; exact Operand.noConfusion) rfl rfl (hY (xs.map (·.1)) x.1 h8 hJ1 (by simp only [List.length_map]; omega)) rfl fun v h9 hs9 hv9 => ?_
    obtain ⟨rfl, hJ9⟩ := hv9
    replace hE := hE.step hs9 hcM (by simp)
    replace hit6 := hit6.go hs9 (hM := h28)
    replace hstp := hstp.trans (hs9.mono (by simp) (fun x hx => List.mem_append_left _ hx))
    refine i_pure (fun _ => trivial) (by intro c h; cases h) rfl rfl ?_
    refine i_done ?_
    repeat (first|refine q1 ?_|refine q2 ?_|refine q3 ?_|refine q4 ?_|refine q5 ?_|refine q6 ?_|refine w_seq ?_|refine w_region ?_|refine w_ops_nil ?_|refine w_skip ?_|refine w_block ?_|refine w_blk ?_|refine q7 ?_|refine q8 ?_|refine q9 ?_)
    refine w_again (xs ++ [x]) (by simp only [List.length_append, List.length_cons, List.length_nil]; omega) ⟨h9, rfl, hstp, hE, ?_, ?_, hnd2, hin2⟩ ⟨rfl, rfl, trivial⟩
    · have e1 : ((xs ++ [x]).map (·.2.2)).toArray = (xs.map (·.2.2)).toArray.push x.2.2 := by simp
      rw [e1]; exact hit6
    · rw [List.map_append]; exact hJ9

set_option maxRecDepth 100000 in
/-- slices.AppendSeq(nil, seq): what seq gives, in a row of the call's own. -/
theorem gr_append (gf : FuncId) (lb : Array Value) [Enter Try.prog gf] {S : List Ky → Prop} {n : Nat} (hn : n ≤ 1000000) {w0 : World} (hG : Gives Try.prog gf lb.toList El.ky.val S n w0) (g : G) (h0 : w0.heap.size ≤ g.w.heap.size)
    (hb : ∀ b, b < w0.heap.size → g.w.heap[b]? = w0.heap[b]? ∧ g.col b ≠ 5) :
    Fn Try.prog 49 [.slice none 0 0, .func (.func gf) #[] lb] g [5] fun v h => ∃ xs, S xs ∧ Own h 5 El.ky 30 v xs := by
  refine enterGM [5] [2, 3, 4] Try.func49 rfl Try.ntmps49 rfl (by simp) fun g1 hv ho => ?_
  have hl : ∀ b, b < w0.heap.size → g1.w.heap[b]? = w0.heap[b]? ∧ g1.col b < 2 := fun b hlt =>
    ⟨by rw [hv.1]; exact (hb b hlt).1, hv.low ho (Nat.lt_of_lt_of_le hlt h0) (by simp; exact (hb b hlt).2)⟩
  have hsz : w0.heap.size ≤ g1.w.heap.size := by rw [hv.1]; exact h0
  clear hv ho hb h0
  repeat (first|refine q1 ?_|refine q2 ?_|refine q3 ?_|refine q4 ?_|refine q5 ?_|refine q6 ?_|refine w_seq ?_|refine w_region ?_|refine w_ops_nil ?_|refine w_skip ?_|refine w_block ?_|refine w_blk ?_|refine q7 ?_|refine q8 ?_|refine q9 ?_)
  refine w_box 2 (vs := [.slice none 0 0]) rfl rfl rfl fun h2 B hs2 hc2 => ?_
  have hl2 : ∀ b, b < w0.heap.size → h2.w.heap[b]? = w0.heap[b]? ∧ h2.col b < 2 := fun b hlt => by
    obtain ⟨a1, a2⟩ := hs2.keep b (Nat.lt_of_lt_of_le hlt hsz) (by simp) (by simp)
    exact ⟨a1.trans (hl b hlt).1, by rw [a2]; exact (hl b hlt).2⟩
  have hsz2 := Nat.le_trans hsz hs2.size
  clear hl hsz
  repeat (first|refine q1 ?_|refine q2 ?_|refine q3 ?_|refine q4 ?_|refine q5 ?_|refine q6 ?_|refine w_seq ?_|refine w_region ?_|refine w_ops_nil ?_|refine w_skip ?_|refine w_block ?_|refine w_blk ?_|refine q7 ?_|refine q8 ?_|refine q9 ?_)
  refine w_rangeFunc 3 (M := [2, 3, 4, 5]) (R := fun h => ∃ xs v, S xs ∧ Cell h 2 B 63 [v] ∧ Own h 5 El.ky 30 v xs) (by intro q; exact Operand.noConfusion) rfl (by simp) (fun h3 ly D fn tmps rc hrc hs3 htsz htm hne _ _ hL hD => ?_) ?_ ?_
  · have hfn := hG h3 ly [2, 3, 4, 5] (fun xs h => ObjAt h 3 ly (rc .ready) ∧ ObjAt h 3 D (.deferred (some [])) ∧ ∃ v, Cell h 2 B 63 [v] ∧ Own h 5 El.ky 30 v xs)
      (Nat.le_trans hsz2 hs3.size)
      (fun b hlt => by
        obtain ⟨a1, a2⟩ := hs3.keep b (Nat.lt_of_lt_of_le hlt hsz2) (by simp) (by simp)
        refine ⟨a1.trans (hl2 b hlt).1, ?_⟩
        rw [a2]; have := (hl2 b hlt).2; simp; omega)
      (by simp)
      (fun pre g h L hJ hs hL' => by
        obtain ⟨j1, j2, v, j3, j4⟩ := hJ
        have c2 : 2 ∉ L := fun hx => hL' 2 hx (by simp)
        have c3 : 3 ∉ L := fun hx => hL' 3 hx (by simp)
        have c5 : 5 ∉ L := fun hx => hL' 5 hx (by simp)
        exact ⟨j1.step hs c3 (by simp), j2.step hs c3 (by simp), v, j3.step hs c2 (by simp), j4.step hs c5⟩)
      (fun pre g h hJ hv => by
        obtain ⟨j1, j2, v, j3, j4⟩ := hJ
        exact ⟨j1.view hv (.inr (by simp)), j2.view hv (.inr (by simp)), v, j3.view hv (.inr (by simp)), j4.view hv (.inr (by simp))⟩)
      (fun pre x h hJ hlen => by
        obtain ⟨j1, j2, v, j3, j4⟩ := hJ
        refine ⟨fn, _, _, _, run_yield1 hrc j1.1, roundIn_of_wpIn trivial ?_⟩
        have hf : Fits 13 [(7, El.ky.val x), (2, .pointer (some ⟨B, 0, none⟩))] { tmps := tmps.setIfInBounds 7 (El.ky.val x), defers := [] } :=
          Fits.put (a := { tmps := tmps, defers := [] }) (s := [(2, .pointer (some ⟨B, 0, none⟩))]) (d := 7) ⟨htsz, rfl, fun k v hk => htm k v (Sub.look (r := [(2, .pointer (some ⟨B, 0, none⟩))]) ⟨rfl, trivial⟩ k v hk)⟩ (by decide)
        refine wpIn_region_lit ?_
        refine (show WpI _ _ _ _ 13 _ _ [(7, El.ky.val x), (2, .pointer (some ⟨B, 0, none⟩))] h.w from ?_) _ hf
        refine i_alloc (fun _ => trivial) 4 (vs := El.ky.enc Ky.zero) rfl rfl fun k1 b1 ks1 kc1 => ?_
        refine i_store (fun _ => trivial) (us := El.ky.enc x) (vs' := El.ky.enc x) kc1 rfl rfl rfl rfl (El.ky.flat _) (show 0 + 24 ≤ 24 by decide) rfl fun k2 kb2 ks2 kc2 => ?_
        replace j1 := (j1.step ks1 (by simp) (by simp)).step ks2 (by simp) (by simp)
        replace j2 := (j2.step ks1 (by simp) (by simp)).step ks2 (by simp) (by simp)
        replace j3 := (j3.go ks1).go ks2
        replace j4 := (j4.go ks1).go ks2
        have jst : Step [] [2, 3, 4, 5] h k2 := (ks1.nil.trans (ks2.mono (by simp) (by simp)))
        refine i_nil fun a1 ha1 => ?_
        refine ⟨_, run_begin1 hrc j1.1, ?_⟩
        have ks3 := j1.stepC (o' := rc .busy)
        replace j2 := j2.put_other (Ne.symm hne) (o' := rc .busy)
        replace j3 := j3.go ks3
        replace j4 := j4.go ks3
        replace kc2 := kc2.go ks3
        replace jst := jst.trans (ks3.mono (by simp) (by simp))
        replace j1 := j1.putObj (o' := rc .busy)
        clear ks3
        obtain ⟨k3, hk3⟩ : ∃ k3, k2.putObj ly (rc .busy) = k3 := ⟨_, rfl⟩
        rw [hk3] at j1 j2 j3 j4 kc2 jst
        have hk3w := congrArg G.w hk3
        refine wpIn_block ?_
        refine wpIn_region_lit ?_
        refine (show WpI _ _ _ _ 13 _ _ _ (k2.putObj ly (rc .busy)).w from ?_) _ ha1
        rw [hk3]
        clear hk3 hk3w ha1 ks1 ks2 kb2 kc1
        refine i_load1 (fun _ => trivial) j3 rfl rfl rfl rfl ?_
        refine i_loadS (fun _ => trivial) (us := El.ky.enc x) kc2 rfl rfl rfl rfl rfl ?_
        refine i_buildOne (fun _ => trivial) 4 El.ky x rfl (by decide) rfl fun k4 v4 ks4 ko4 => ?_
        replace j1 := j1.step ks4 (by simp) (by simp)
        replace j2 := j2.step ks4 (by simp) (by simp)
        replace j3 := j3.go ks4
        replace j4 := j4.go ks4
        replace jst := jst.trans ks4.nil
        refine i_append (fun _ => trivial) j4 ko4.rd rfl rfl rfl (by decide) (by simp only [List.length_cons, List.length_nil]; omega) rfl fun k5 v5 ks5 j4 => ?_
        replace j1 := j1.step ks5 (by simp) (by simp)
        replace j2 := j2.step ks5 (by simp) (by simp)
        replace j3 := j3.go ks5
        replace jst := jst.trans (ks5.mono (by simp) (by simp))
        refine i_store (fun _ => trivial) (us := [v5]) (vs' := [v5]) j3 rfl rfl j4.isSl.cells rfl (by intro u hu; simp at hu; subst hu; exact j4.isSl.one) (show 0 + 1 ≤ 1 by decide) rfl fun k6 kb6 ks6 j3 => ?_
        replace j1 := j1.step ks6 (by simp) (by simp)
        replace j2 := j2.step ks6 (by simp) (by simp)
        replace j4 := j4.go ks6
        replace jst := jst.trans (ks6.mono (by simp) (by simp))
        refine i_nil fun a2 ha2 => ?_
        refine ⟨_, _, run_end1 hrc j1.1, _, rfl, k6.col, ?_⟩
        have ks7 := j1.stepC (o' := rc .ready)
        exact ⟨jst.trans (ks7.mono (by simp) (by simp)), rfl, j1.putObj (o' := rc .ready), j2.put_other (Ne.symm hne) (o' := rc .ready), v5, j3.go ks7, j4.go ks7⟩)
      ⟨hL, hD, _, hc2.go hs3, Own.nil _ _ _ _⟩
    exact Fn.mono hfn (by simp) fun v h hs ⟨xs, hS, a1, a2, v', a3, a4⟩ => ⟨⟨xs, v', hS, a3, a4⟩, a1, a2⟩
  · rintro h h' ⟨xs, v, hS, a1, a2⟩ hs
    exact ⟨xs, v, hS, a1.go hs, a2.go hs⟩
  · rintro h4 D hs4 ⟨xs, v, hS, a1, a2⟩ hD a ha
    simp only [sem]
    refine tail_loadRet a1 rfl rfl rfl (by decide) (by decide) (by decide) rfl hD ha ?_
    have ks := hD.stepC (o' := .deferred none)
    refine ⟨h4.col, ((hs2.nil.trans (hs4.mono (by simp) (by simp))).trans (ks.mono (by simp) (by simp))), fun h' hv' => ⟨xs, hS, ?_⟩⟩
    exact (a2.go ks).view hv' (.inr (by simp))

/-- slices.Collect(seq). -/
theorem gr_collect (gf : FuncId) (lb : Array Value) [Enter Try.prog gf] {S : List Ky → Prop} {n : Nat} (hn : n ≤ 1000000) {w0 : World} (hG : Gives Try.prog gf lb.toList El.ky.val S n w0) (g : G) (h0 : w0.heap.size ≤ g.w.heap.size)
    (hb : ∀ b, b < w0.heap.size → g.w.heap[b]? = w0.heap[b]? ∧ g.col b ≠ 5) :
    Fn Try.prog 46 [.func (.func gf) #[] lb] g [5] fun v h => ∃ xs, S xs ∧ Own h 5 El.ky 30 v xs := by
  refine enterG [5] [2] Try.func46 rfl Try.ntmps46 rfl (by simp) fun g1 hv ho => ?_
  have hl : ∀ b, b < w0.heap.size → g1.w.heap[b]? = w0.heap[b]? ∧ g1.col b ≠ 5 := fun b hlt =>
    ⟨by rw [hv.1]; exact (hb b hlt).1, by have := hv.low ho (Nat.lt_of_lt_of_le hlt h0) (by simp; exact (hb b hlt).2); omega⟩
  have hsz : w0.heap.size ≤ g1.w.heap.size := by rw [hv.1]; exact h0
  repeat (first|refine q1 ?_|refine q2 ?_|refine q3 ?_|refine q4 ?_|refine q5 ?_|refine q6 ?_|refine w_seq ?_|refine w_region ?_|refine w_ops_nil ?_|refine w_skip ?_|refine w_block ?_|refine w_blk ?_|refine q7 ?_|refine q8 ?_|refine q9 ?_)
  refine w_callF (vs := [.slice none 0 0, .func (.func gf) #[] lb]) rfl (gr_append gf lb hn hG g1 hsz hl) rfl fun v h2 hs2 hr2 => ?_
  obtain ⟨xs, hS, hown⟩ := hr2
  repeat (first|refine q1 ?_|refine q2 ?_|refine q3 ?_|refine q4 ?_|refine q5 ?_|refine q6 ?_|refine w_seq ?_|refine w_region ?_|refine w_ops_nil ?_|refine w_skip ?_|refine w_block ?_|refine w_blk ?_|refine q7 ?_|refine q8 ?_|refine q9 ?_)
  refine w_retG (res1 rfl rfl) (hs2.mono (by simp) (by simp)) fun h' hv' => ⟨xs, hS, hown.view hv' (.inr (by simp))⟩

end Go.Proofs.Ytkgbodmlmeholaa
