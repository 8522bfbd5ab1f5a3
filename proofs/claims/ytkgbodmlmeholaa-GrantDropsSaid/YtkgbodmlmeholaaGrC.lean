/- Grants: the law of what is dropped, as a contract. No statement of the seat is proved here. -/
import Derived.Test.YtkgbodmlmeholaaGrB
set_option linter.unusedVariables false
set_option linter.unusedSimpArgs false
namespace Go.Proofs.Ytkgbodmlmeholaa
open Go
attribute [local irreducible] Wp

def Rdx {α : Type} (g : G) (E : El α) (v : Value) (l : List α) : Prop := ∃ c, c < 2 ∧ Rd g c E v l
section
variable {α : Type} {E : El α} {g h : G} {v : Value} {l : List α} {M : List Nat} {c : Nat}
theorem Rd.x (hr : Rd g c E v l) (hc : c < 2 := by omega) : Rdx g E v l := ⟨c, hc, hr⟩
theorem Rdx.go (hr : Rdx g E v l) (hs : Step [] M g h) (hM : ∀ x ∈ M, 2 ≤ x := by simp) : Rdx h E v l := by
  obtain ⟨c, hc, hr⟩ := hr
  exact ⟨c, hc, hr.step hs (fun h => by have := hM _ h; omega)⟩
theorem Rdx.seen (hr : Rdx g E v l) (hv : View M g h) (ho : Out M g h) (hM : ∀ x ∈ M, 2 ≤ x := by simp) : Rdx h E v l := by
  obtain ⟨c, hc, hr⟩ := hr
  obtain ⟨c', hc', h⟩ := hr.seen hv ho (fun h => by have := hM _ h; omega)
  exact ⟨c', hc', h⟩
theorem Rdx.isSl (hr : Rdx g E v l) : IsSl v l.length := by obtain ⟨c, _, h⟩ := hr; exact h.isSl
end
section
variable {P : Program} {Z : Exit → Act → World → Prop} {N : Nat} {k : List It} {s : Env} {w : World} {ops : Array Oper} {st : Option Nat} {S : World → Prop} {fuel : Nat} {listed : Array Bool}
/-- Three that may come up. -/
theorem d_exec3 (i j q : Nat) {o o2 o3 : Oper} (hr : Region.ready .any ops listed = [i, j, q]) (hi : ops[i]? = some o) (hj : ops[j]? = some o2) (hq : ops[q]? = some o3)
    (h : Wp P Z N (.ops ops [o] :: .goal (Dnext P Z k ops st S fuel (listed.setIfInBounds i true)) :: k) s w)
    (h2 : Wp P Z N (.ops ops [o2] :: .goal (Dnext P Z k ops st S fuel (listed.setIfInBounds j true)) :: k) s w)
    (h3 : Wp P Z N (.ops ops [o3] :: .goal (Dnext P Z k ops st S fuel (listed.setIfInBounds q true)) :: k) s w) :
    WpD P Z N k ops st S (fuel + 1) listed s w := fun hS a ha =>
  ⟨fun h0 => (by rw [hr] at h0; cases h0), fun x hx => by
    rw [hr] at hx
    simp at hx
    rcases hx with rfl | rfl | rfl
    · exact d_one x hi h ha
    · exact d_one x hj h2 ha
    · exact d_one x hq h3 ha⟩
end
theorem putR_len {k : Ky} {t : Int} {m : BkM} (hn : Nd m) : (mput k t m).length ≤ m.length + 1 := by
  have := (mput_perm k t m hn).length_eq
  have h2 := List.length_filter_le (fun x : Ky × Int => decide (¬ k = x.1)) m
  simp only [List.length_cons] at this; omega
theorem put_mem {k : Ky} {t : Int} {m : BkM} (hn : Nd m) (x : Ky × Int) : x ∈ mput k t m ↔ x = (k, t) ∨ x ∈ m ∧ ¬ k = x.1 := by
  rw [(mput_perm k t m hn).mem_iff]
  simp [List.mem_filter]
theorem drop_hold {m : BkM} (hn : Nd m) (o : Og) (k : Ky) (h5 : (k, (5 : Int)) ∈ m) : holdB (m.filter fun x => !(decide (x.1.page = o))) k 0 = decide (¬ k.page = o) := by
  have hn2 : Nd (m.filter fun x => !(decide (x.1.page = o))) := (List.filter_sublist.map _).nodup hn
  unfold holdB
  by_cases h : k.page = o
  · have : mget k (m.filter fun x => !(decide (x.1.page = o))) = none := by
      cases hg : mget k (m.filter fun x => !(decide (x.1.page = o))) with
      | none => rfl
      | some u =>
        exfalso
        have hm : ∀ (m : BkM), mget k m = some u → (k, u) ∈ m := by
          intro m
          induction m with
          | nil => intro h; cases h
          | cons a m ih =>
            intro hh
            rw [mget] at hh
            split at hh
            · rename_i e; injection hh with hh; subst hh; rw [e]; exact List.mem_cons_self
            · exact List.mem_cons_of_mem _ (ih hh)
        have := hm _ hg
        simp [List.mem_filter, h] at this
    rw [this]; simp [h]
  · have : mget k (m.filter fun x => !(decide (x.1.page = o))) = some 5 := hn2.get (x := (k, 5)) (List.mem_filter.2 ⟨h5, by simp [h]⟩)
    rw [this]; simp [h]

set_option maxRecDepth 4000 in
theorem law18_Drops (l : List Ky) (vl : Value) (o : Og) (at_ : Int) (g : G) (hr : Rdx g El.ky vl l) (hat : -9223372036854775808 ≤ at_ ∧ at_ ≤ 9223372036854775807) : Fn Try.prog 6 [vl, El.og.val o, .int .i64 at_] g [] fun u _ => u = .bool true := by
  refine enterG [] [51, 52, 41, 43, 44, 46, 47] Try.func6 rfl Try.ntmps6 rfl (by simp) fun g1 hv ho => ?_
  replace hr := hr.seen hv ho
  repeat (first|refine q1 ?_|refine q2 ?_|refine q3 ?_|refine q4 ?_|refine q5 ?_|refine q6 ?_|refine w_seq ?_|refine w_region ?_|refine w_ops_nil ?_|refine w_skip ?_|refine w_block ?_|refine w_blk ?_|refine q7 ?_|refine q8 ?_|refine q9 ?_)
  refine w_box 41 (vs := El.og.enc o) rfl rfl rfl fun h1 b4 hs1 hc4 => ?_
  have hst : Step [] [51, 52, 41, 43, 44, 46, 47] g1 h1 := hs1.nil
  replace hr := hr.go hs1
  repeat (first|refine q1 ?_|refine q2 ?_|refine q3 ?_|refine q4 ?_|refine q5 ?_|refine q6 ?_|refine w_seq ?_|refine w_region ?_|refine w_ops_nil ?_|refine w_skip ?_|refine w_block ?_|refine w_blk ?_|refine q7 ?_|refine q8 ?_|refine q9 ?_)
  refine w_lenSl hr.isSl rfl rfl ?_
  repeat (first|refine q1 ?_|refine q2 ?_|refine q3 ?_|refine q4 ?_|refine q5 ?_|refine q6 ?_|refine w_seq ?_|refine w_region ?_|refine w_ops_nil ?_|refine w_skip ?_|refine w_block ?_|refine w_blk ?_|refine q7 ?_|refine q8 ?_|refine q9 ?_)
  refine w_cut (ι := Value) (fun v => [(0, v), (2, .int .i64 at_), (4, .pointer (some ⟨b4, 0, none⟩))]) (fun v w => ∃ l2, w = h1.w ∧ Rdx h1 El.ky v l2 ∧ l2.length ≤ 20) ?_ ?_
  · refine w_condP rfl (fun hl => ?_) (fun hl => ?_)
    · obtain ⟨c, hc, hr1⟩ := hr
      repeat (first|refine q1 ?_|refine q2 ?_|refine q3 ?_|refine q4 ?_|refine q5 ?_|refine q6 ?_|refine w_seq ?_|refine w_region ?_|refine w_ops_nil ?_|refine w_skip ?_|refine w_block ?_|refine w_blk ?_|refine q7 ?_|refine q8 ?_|refine q9 ?_)
      refine w_cut_ (a := 0) (b := 20) hr1 rfl rfl ⟨_, rfl, rfl⟩ (by omega) (by omega) rfl fun hr2 => ?_
      repeat (first|refine q1 ?_|refine q2 ?_|refine q3 ?_|refine q4 ?_|refine q5 ?_|refine q6 ?_|refine w_seq ?_|refine w_region ?_|refine w_ops_nil ?_|refine w_skip ?_|refine w_block ?_|refine w_blk ?_|refine q7 ?_|refine q8 ?_|refine q9 ?_)
      exact w_meet _ ⟨_, rfl, hr2.x, by simp; omega⟩ ⟨rfl, rfl, rfl, trivial⟩
    · repeat (first|refine q1 ?_|refine q2 ?_|refine q3 ?_|refine q4 ?_|refine q5 ?_|refine q6 ?_|refine w_seq ?_|refine w_region ?_|refine w_ops_nil ?_|refine w_skip ?_|refine w_block ?_|refine w_blk ?_|refine q7 ?_|refine q8 ?_|refine q9 ?_)
      exact w_meet _ ⟨l, rfl, hr, by omega⟩ ⟨rfl, rfl, rfl, trivial⟩
  clear hr
  rintro v _ ⟨l2, rfl, hr, hl20⟩
  refine w_seq ?_
  refine w_seq ?_
  refine w_cut (ι := Bool) (fun β => [(0, v), (2, .int .i64 at_), (4, .pointer (some ⟨b4, 0, none⟩)), (28, .bool β)]) (fun β w => w = h1.w ∧ (β = true → 0 < l2.length)) ?_ ?_
  · repeat (first|refine q1 ?_|refine q2 ?_|refine q3 ?_|refine q4 ?_|refine q5 ?_|refine q6 ?_|refine w_seq ?_|refine w_region ?_|refine w_ops_nil ?_|refine w_skip ?_|refine w_block ?_|refine w_blk ?_|refine q7 ?_|refine q8 ?_|refine q9 ?_)
    refine w_lenSl hr.isSl rfl rfl ?_
    repeat (first|refine q1 ?_|refine q2 ?_|refine q3 ?_|refine q4 ?_|refine q5 ?_|refine q6 ?_|refine w_seq ?_|refine w_region ?_|refine w_ops_nil ?_|refine w_skip ?_|refine w_block ?_|refine w_blk ?_|refine q7 ?_|refine q8 ?_|refine q9 ?_)
    refine w_splitP 24 rfl (fun hp => ?_) (fun hp => ?_)
    · repeat (first|refine q1 ?_|refine q2 ?_|refine q3 ?_|refine q4 ?_|refine q5 ?_|refine q6 ?_|refine w_seq ?_|refine w_region ?_|refine w_ops_nil ?_|refine w_skip ?_|refine w_block ?_|refine w_blk ?_|refine q7 ?_|refine q8 ?_|refine q9 ?_)
      refine w_remT rfl rfl (by decide) rfl ?_
      repeat (first|refine q1 ?_|refine q2 ?_|refine q3 ?_|refine q4 ?_|refine q5 ?_|refine q6 ?_|refine w_seq ?_|refine w_region ?_|refine w_ops_nil ?_|refine w_skip ?_|refine w_block ?_|refine w_blk ?_|refine q7 ?_|refine q8 ?_|refine q9 ?_)
      exact w_meet (decide (at_.tmod 2 = 0)) ⟨rfl, fun _ => by omega⟩ ⟨rfl, rfl, rfl, rfl, trivial⟩
    · repeat (first|refine q1 ?_|refine q2 ?_|refine q3 ?_|refine q4 ?_|refine q5 ?_|refine q6 ?_|refine w_seq ?_|refine w_region ?_|refine w_ops_nil ?_|refine w_skip ?_|refine w_block ?_|refine w_blk ?_|refine q7 ?_|refine q8 ?_|refine q9 ?_)
      exact w_meet false ⟨rfl, fun h => by cases h⟩ ⟨rfl, rfl, rfl, rfl, trivial⟩
  rintro β _ ⟨rfl, hβ⟩
  have hlm0 := hr.isSl.le
  repeat (first|refine q1 ?_|refine q2 ?_|refine q3 ?_|refine q4 ?_|refine q5 ?_|refine q6 ?_|refine w_seq ?_|refine w_region ?_|refine w_ops_nil ?_|refine w_skip ?_|refine w_blk ?_|refine q7 ?_|refine q8 ?_|refine q9 ?_)
  refine w_cut (ι := Og) (fun _ => [(0, v), (4, .pointer (some ⟨b4, 0, none⟩))]) (fun o w => ∃ h : G, h.w = w ∧ Step [] [41] h1 h ∧ Cell h 41 b4 23 (El.og.enc o)) ?_ ?_
  · refine w_cond rfl (fun hb => ?_) (fun hb => ?_)
    · have hl0 := hβ hb
      repeat (first|refine q1 ?_|refine q2 ?_|refine q3 ?_|refine q4 ?_|refine q5 ?_|refine q6 ?_|refine w_seq ?_|refine w_region ?_|refine w_ops_nil ?_|refine w_skip ?_|refine w_block ?_|refine w_blk ?_|refine q7 ?_|refine q8 ?_|refine q9 ?_)
      refine w_lenSl hr.isSl rfl rfl ?_
      refine w_callF rfl (ref01_Around at_ (l2.length : Int) h1 hat (by omega)) rfl fun u h2 hs2 hu => ?_
      subst hu
      obtain ⟨a1, a2⟩ := around_range at_ (l2.length : Int) (by omega)
      obtain ⟨n, hn⟩ := Int.eq_ofNat_of_zero_le a1
      rw [hn] at a2 ⊢
      obtain ⟨c, hc, hr2⟩ := hr.go hs2
      replace hc4 := hc4.go hs2
      have hnl : n < l2.length := by omega
      repeat (first|refine q1 ?_|refine q2 ?_|refine q3 ?_|refine q4 ?_|refine q5 ?_|refine q6 ?_|refine w_seq ?_|refine w_region ?_|refine w_ops_nil ?_|refine w_skip ?_|refine w_block ?_|refine w_blk ?_|refine q7 ?_|refine q8 ?_|refine q9 ?_)
      refine w_idx hr2 rfl rfl (by omega) (by omega) rfl ?_
      refine w_fldE (hr2.base hnl) (by decide) rfl rfl ?_
      refine w_loadES (i := n) (off := 0) (y := l2[n]) (us := El.og.enc l2[n].page) hr2 rfl (by simp [hnl]) rfl rfl rfl rfl ?_
      refine w_store (us := El.og.enc l2[n].page) (vs' := El.og.enc l2[n].page) hc4 rfl rfl rfl rfl (El.og.flat _) (show 0 + 3 ≤ 3 by decide) rfl fun h3 hb3 hs3 hc4 => ?_
      repeat (first|refine q1 ?_|refine q2 ?_|refine q3 ?_|refine q4 ?_|refine q5 ?_|refine q6 ?_|refine w_seq ?_|refine w_region ?_|refine w_ops_nil ?_|refine w_skip ?_|refine w_block ?_|refine w_blk ?_|refine q7 ?_|refine q8 ?_|refine q9 ?_)
      exact w_meet l2[n].page ⟨h3, rfl, hs2.nil.go hs3, hc4⟩ ⟨rfl, rfl, trivial⟩
    · repeat (first|refine q1 ?_|refine q2 ?_|refine q3 ?_|refine q4 ?_|refine q5 ?_|refine q6 ?_|refine w_seq ?_|refine w_region ?_|refine w_ops_nil ?_|refine w_skip ?_|refine w_block ?_|refine w_blk ?_|refine q7 ?_|refine q8 ?_|refine q9 ?_)
      exact w_meet o ⟨h1, rfl, Step.refl _ _ _, hc4⟩ ⟨rfl, rfl, trivial⟩
  clear hc4
  rintro o2 _ ⟨h2, rfl, hs0, hc4⟩
  replace hst := hst.go hs0; replace hr := hr.go hs0
  clear hs0
  repeat (first|refine q1 ?_|refine q2 ?_|refine q3 ?_|refine q4 ?_|refine q5 ?_|refine q6 ?_|refine w_seq ?_|refine w_region ?_|refine w_ops_nil ?_|refine w_skip ?_|refine w_block ?_|refine w_blk ?_|refine q7 ?_|refine q8 ?_|refine q9 ?_)
  refine w_callF rfl (grant_New 64 h2) rfl fun u h3 hs3 hR => ?_
  obtain ⟨p, rfl, hb⟩ := hR
  replace hst := hst.go hs3; replace hr := hr.go hs3; replace hc4 := hc4.go hs3
  repeat (first|refine q1 ?_|refine q2 ?_|refine q3 ?_|refine q4 ?_|refine q5 ?_|refine q6 ?_|refine w_seq ?_|refine w_region ?_|refine w_ops_nil ?_|refine w_skip ?_|refine w_block ?_|refine w_blk ?_|refine q7 ?_|refine q8 ?_|refine q9 ?_)
  refine w_ptrEqNil rfl rfl rfl ?_
  repeat (first|refine q1 ?_|refine q2 ?_|refine q3 ?_|refine q4 ?_|refine q5 ?_|refine q6 ?_|refine w_seq ?_|refine w_region ?_|refine w_ops_nil ?_|refine w_skip ?_|refine w_block ?_|refine w_blk ?_|refine q7 ?_|refine q8 ?_|refine q9 ?_)
  refine w_cond rfl (fun h => by cases h) (fun _ => ?_)
  repeat (first|refine q1 ?_|refine q2 ?_|refine q3 ?_|refine q4 ?_|refine q5 ?_|refine q6 ?_|refine w_seq ?_|refine w_region ?_|refine w_ops_nil ?_|refine w_skip ?_|refine w_block ?_|refine w_blk ?_|refine q7 ?_|refine q8 ?_|refine q9 ?_)
  refine w_callF rfl (ref18_New 64 h3) rfl fun u h4 hs4 hu => ?_
  subst hu
  replace hst := hst.go hs4; replace hr := hr.go hs4; replace hc4 := hc4.go hs4; replace hb := hb.go hs4
  repeat (first|refine q1 ?_|refine q2 ?_|refine q3 ?_|refine q4 ?_|refine q5 ?_|refine q6 ?_|refine w_seq ?_|refine w_region ?_|refine w_ops_nil ?_|refine w_skip ?_|refine w_block ?_|refine w_blk ?_|refine q7 ?_|refine q8 ?_|refine q9 ?_)
  refine w_alloc 43 (vs := [.int .i64 0, .slice none 0 0]) rfl rfl fun h5 b8 hs5 hc8 => ?_
  replace hst := hst.go hs5; replace hr := hr.go hs5; replace hc4 := hc4.go hs5; replace hb := hb.go hs5
  have one : ∀ v : Value, v.oneCell' = true → ∀ u ∈ [Value.int .i64 (roomZ 64), v], u.oneCell' = true := by
    intro v hv u hu
    simp only [List.mem_cons, List.not_mem_nil, or_false] at hu
    rcases hu with rfl | rfl
    · rfl
    · exact hv
  repeat (first|refine q1 ?_|refine q2 ?_|refine q3 ?_|refine q4 ?_|refine q5 ?_|refine q6 ?_|refine w_seq ?_|refine w_region ?_|refine w_ops_nil ?_|refine w_skip ?_|refine w_block ?_|refine w_blk ?_|refine q7 ?_|refine q8 ?_|refine q9 ?_)
  refine w_store (us := [.int .i64 (roomZ 64), .slice none 0 0]) (vs' := [.int .i64 (roomZ 64), .slice none 0 0]) hc8 rfl rfl rfl rfl (one _ rfl) (show 0 + 2 ≤ 2 by decide) rfl fun h6 hb6 hs6 hc8 => ?_
  replace hst := hst.go hs6; replace hr := hr.go hs6; replace hc4 := hc4.go hs6; replace hb := hb.go hs6
  clear hs3 hs4 hs5 hs6 hb6
  have h64 : roomZ 64 = 64 := by decide
  obtain ⟨cl, hcl, hr⟩ := hr
  have hlm := hr.isSl.le
  repeat (first|refine q1 ?_|refine q2 ?_|refine q3 ?_|refine q4 ?_|refine q5 ?_|refine q6 ?_|refine w_seq ?_|refine w_region ?_|refine w_ops_nil ?_|refine w_skip ?_|refine w_block ?_|refine w_blk ?_|refine q7 ?_|refine q8 ?_|refine q9 ?_)
  refine w_loop (ι := Nat) (fun i => [(0, v), (4, .pointer (some ⟨b4, 0, none⟩)), (7, .pointer (some ⟨p, 0, none⟩)), (8, .pointer (some ⟨b8, 0, none⟩)), (9, .int .i64 (i : Int))])
    (fun i w => ∃ h m L vL, h.w = w ∧ Step [] [51, 52, 43, 44, 46] h6 h ∧ Cell h 43 b8 44 [.int .i64 (roomZ 64), vL] ∧ Rd h 0 El.gr vL L ∧ Bk h p (roomZ 64) m ∧ Twin m L ∧ i ≤ l2.length ∧ m.length ≤ i ∧ ∀ j k, j < i → l2[j]? = some k → (k, (5 : Int)) ∈ m)
    (fun i => l2.length - i) 0 ⟨h6, [], [], _, rfl, Step.refl _ _ _, hc8, Rd.nil _ _ _ none 0 (by decide), hb, ⟨List.Perm.refl _, List.nodup_nil⟩, by omega, by simp, fun j k hj => by omega⟩ ⟨rfl, rfl, rfl, rfl, rfl, trivial⟩ ?_
  clear hc8 hb
  rintro i _ ⟨h, m, L, vL, rfl, hst2, hc8, hrL, hb, htw, hi, hml, hin⟩
  replace hst := hst.go hst2; replace hc4 := hc4.go hst2; replace hr := hr.go hst2
  have hLl := htw.1.length_eq
  repeat (first|refine q1 ?_|refine q2 ?_|refine q3 ?_|refine q4 ?_|refine q5 ?_|refine q6 ?_|refine w_seq ?_|refine w_region ?_|refine w_ops_nil ?_|refine w_skip ?_|refine w_block ?_|refine w_blk ?_|refine q7 ?_|refine q8 ?_|refine q9 ?_)
  refine w_lenSl hr.isSl rfl rfl ?_
  repeat (first|refine q1 ?_|refine q2 ?_|refine q3 ?_|refine q4 ?_|refine q5 ?_|refine q6 ?_|refine w_seq ?_|refine w_region ?_|refine w_ops_nil ?_|refine w_skip ?_|refine w_block ?_|refine w_blk ?_|refine q7 ?_|refine q8 ?_|refine q9 ?_)
  refine w_condP rfl (fun hlt => ?_) (fun hlt => ?_)
  · have hlt : i < l2.length := by omega
    generalize hkx : l2[i] = kx
    have hgk : l2[i]? = some kx := by rw [List.getElem?_eq_getElem hlt, hkx]
    repeat (first|refine q1 ?_|refine q2 ?_|refine q3 ?_|refine q4 ?_|refine q5 ?_|refine q6 ?_|refine w_seq ?_|refine w_region ?_|refine w_ops_nil ?_|refine w_skip ?_|refine w_block ?_|refine w_blk ?_|refine q7 ?_|refine q8 ?_|refine q9 ?_)
    refine w_idx hr rfl rfl (by omega) (by omega) rfl ?_
    refine w_loadE (i := i) (y := kx) hr rfl hgk rfl rfl ?_
    refine w_callF rfl (Book_Put p (roomZ 64) m kx 5 0 h hb (.inr (by rw [h64]; omega))) rfl fun u k0 hs0 hR => ?_
    obtain ⟨rfl, hb⟩ := hR
    rw [if_neg (by decide)] at hb
    replace hst := hst.go hs0; replace hst2 := hst2.go hs0; replace hc4 := hc4.go hs0; replace hr := hr.go hs0; replace hc8 := hc8.go hs0; replace hrL := hrL.go hs0
    repeat (first|refine q1 ?_|refine q2 ?_|refine q3 ?_|refine q4 ?_|refine q5 ?_|refine q6 ?_|refine w_seq ?_|refine w_region ?_|refine w_ops_nil ?_|refine w_skip ?_|refine w_blk ?_|refine q7 ?_|refine q8 ?_|refine q9 ?_)
    refine w_cut (ι := Nat) (fun b10 => [(0, v), (4, .pointer (some ⟨b4, 0, none⟩)), (7, .pointer (some ⟨p, 0, none⟩)), (8, .pointer (some ⟨b8, 0, none⟩)), (9, .int .i64 (i : Int)), (10, .pointer (some ⟨b10, 0, none⟩))])
      (fun b10 w => ∃ h2 v' L', h2.w = w ∧ Step [] [44, 46] k0 h2 ∧ Cell h2 44 b10 44 [.int .i64 (roomZ 64), v'] ∧ Rd h2 0 El.gr v' L' ∧ PutR kx 5 L L') ?_ ?_
    · refine d_begin none [44, 46] (by kernel_rfl) fun g2 hsd => ?_
      have hsd0 : Step [] [44, 46] k0 g2 := hsd.nil
      replace hc4 := hc4.go hsd; replace hr := hr.go hsd; replace hc8 := hc8.go hsd; replace hrL := hrL.go hsd
      refine d_read 0 calm_ret rfl (by kernel_rfl) rfl  (fun h hs => r_load (us := [.int .i64 (roomZ 64), vL]) (hc8.go hs) rfl rfl rfl (fun e => by cases e)) ?_
      refine d_pure 1 calm_ret rfl (by kernel_rfl) rfl rfl ?_; refine d_pure 2 calm_ret rfl (by kernel_rfl) rfl rfl ?_
      refine d_read 3 calm_ret rfl (by kernel_rfl) rfl  (fun h hs => r_idx (hr.go hs) rfl rfl (by omega) (by omega)) ?_
      refine d_read 4 calm_ret rfl (by kernel_rfl) rfl  (fun h hs => r_loadE (i := i) (y := kx) (hr.go hs) rfl hgk rfl) ?_
      have hss : Step [] [44, 46] g2 g2 := Step.refl _ _ _
      refine d_exec3 5 10 11 (by kernel_rfl) rfl rfl rfl ?_ ?_ ?_
      · refine w_callF rfl (ref18_Put (roomZ 64) L vL kx 5 0 g2 (hrL.go hss) (by omega) (.inr (by rw [h64]; omega))) rfl fun u j1 js hR => ?_
        obtain ⟨v', L', rfl, hr', hput⟩ := hR
        rw [if_neg (by decide)] at hput
        replace hss := hss.go js
        clear js
        repeat (first|refine q1 ?_|refine q2 ?_|refine q3 ?_|refine q4 ?_|refine q5 ?_|refine q6 ?_|refine w_seq ?_|refine w_region ?_|refine w_ops_nil ?_|refine w_skip ?_|refine w_block ?_|refine w_blk ?_|refine q7 ?_|refine q8 ?_|refine q9 ?_)
        refine d_next (fun _ => ⟨j1, rfl, hss⟩) ?_
        refine d_pure 6 calm_ret rfl (by kernel_rfl) rfl rfl ?_; refine d_pure 7 calm_ret rfl (by kernel_rfl) rfl rfl ?_; refine d_pure 8 calm_ret rfl (by kernel_rfl) rfl rfl ?_; refine d_pure 9 calm_ret rfl (by kernel_rfl) rfl rfl ?_
        refine d_exec2 10 11 (by kernel_rfl) rfl rfl ?_ ?_
        · refine w_alloc 44 (vs := [.int .i64 0, .slice none 0 0]) rfl rfl fun j2 b10 js hc10 => ?_
          replace hr' := hr'.go js
          replace hss := hss.go js
          clear js
          repeat (first|refine q1 ?_|refine q2 ?_|refine q3 ?_|refine q4 ?_|refine q5 ?_|refine q6 ?_|refine w_seq ?_|refine w_region ?_|refine w_ops_nil ?_|refine w_skip ?_|refine w_block ?_|refine w_blk ?_|refine q7 ?_|refine q8 ?_|refine q9 ?_)
          refine d_next (fun _ => ⟨j2, rfl, hss⟩) ?_
          refine d_exec1 11 (by kernel_rfl) rfl ?_
          refine w_alloc 46 (vs := El.ky.enc Ky.zero) rfl rfl fun j3 b11 js hc11 => ?_
          replace hc10 := hc10.go js; replace hr' := hr'.go js
          replace hss := hss.go js
          clear js
          repeat (first|refine q1 ?_|refine q2 ?_|refine q3 ?_|refine q4 ?_|refine q5 ?_|refine q6 ?_|refine w_seq ?_|refine w_region ?_|refine w_ops_nil ?_|refine w_skip ?_|refine w_block ?_|refine w_blk ?_|refine q7 ?_|refine q8 ?_|refine q9 ?_)
          refine d_next (fun _ => ⟨j3, rfl, hss⟩) ?_
          refine d_exec1 12 (by kernel_rfl) rfl ?_
          refine w_store (us := [.int .i64 (roomZ 64), v']) (vs' := [.int .i64 (roomZ 64), v']) hc10 rfl rfl rfl rfl (one v' hr'.isSl.one) (show 0 + 2 ≤ 2 by decide) rfl fun y1 yb1 ys1 hc10 => ?_
          replace hc11 := hc11.go ys1; replace hr' := hr'.go ys1
          replace hss := hss.go ys1
          repeat (first|refine q1 ?_|refine q2 ?_|refine q3 ?_|refine q4 ?_|refine q5 ?_|refine q6 ?_|refine w_seq ?_|refine w_region ?_|refine w_ops_nil ?_|refine w_skip ?_|refine w_block ?_|refine w_blk ?_|refine q7 ?_|refine q8 ?_|refine q9 ?_)
          refine d_next (fun _ => ⟨y1, rfl, hss⟩) ?_
          refine d_exec1 13 (by kernel_rfl) rfl ?_
          refine w_store (us := El.ky.enc Ky.zero) (vs' := El.ky.enc Ky.zero) hc11 rfl rfl rfl rfl (El.ky.flat _) (show 0 + 24 ≤ 24 by decide) rfl fun y2 yb2 ys2 hc11 => ?_
          replace hc10 := hc10.go ys2; replace hr' := hr'.go ys2
          replace hss := hss.go ys2
          repeat (first|refine q1 ?_|refine q2 ?_|refine q3 ?_|refine q4 ?_|refine q5 ?_|refine q6 ?_|refine w_seq ?_|refine w_region ?_|refine w_ops_nil ?_|refine w_skip ?_|refine w_block ?_|refine w_blk ?_|refine q7 ?_|refine q8 ?_|refine q9 ?_)
          refine d_next (fun _ => ⟨y2, rfl, hss⟩) ?_
          refine d_pure 14 calm_ret rfl (by kernel_rfl) rfl rfl ?_
          refine d_done (by kernel_rfl) ?_
          exact w_meet b10 ⟨y2, v', L', rfl, hsd0.go hss, hc10, hr', hput⟩ ⟨rfl, rfl, rfl, rfl, rfl, rfl, trivial⟩
        · refine w_alloc 46 (vs := El.ky.enc Ky.zero) rfl rfl fun j2 b11 js hc11 => ?_
          replace hr' := hr'.go js
          replace hss := hss.go js
          clear js
          repeat (first|refine q1 ?_|refine q2 ?_|refine q3 ?_|refine q4 ?_|refine q5 ?_|refine q6 ?_|refine w_seq ?_|refine w_region ?_|refine w_ops_nil ?_|refine w_skip ?_|refine w_block ?_|refine w_blk ?_|refine q7 ?_|refine q8 ?_|refine q9 ?_)
          refine d_next (fun _ => ⟨j2, rfl, hss⟩) ?_
          refine d_exec1 10 (by kernel_rfl) rfl ?_
          refine w_alloc 44 (vs := [.int .i64 0, .slice none 0 0]) rfl rfl fun j3 b10 js hc10 => ?_
          replace hc11 := hc11.go js; replace hr' := hr'.go js
          replace hss := hss.go js
          clear js
          repeat (first|refine q1 ?_|refine q2 ?_|refine q3 ?_|refine q4 ?_|refine q5 ?_|refine q6 ?_|refine w_seq ?_|refine w_region ?_|refine w_ops_nil ?_|refine w_skip ?_|refine w_block ?_|refine w_blk ?_|refine q7 ?_|refine q8 ?_|refine q9 ?_)
          refine d_next (fun _ => ⟨j3, rfl, hss⟩) ?_
          refine d_exec1 12 (by kernel_rfl) rfl ?_
          refine w_store (us := [.int .i64 (roomZ 64), v']) (vs' := [.int .i64 (roomZ 64), v']) hc10 rfl rfl rfl rfl (one v' hr'.isSl.one) (show 0 + 2 ≤ 2 by decide) rfl fun y1 yb1 ys1 hc10 => ?_
          replace hc11 := hc11.go ys1; replace hr' := hr'.go ys1
          replace hss := hss.go ys1
          repeat (first|refine q1 ?_|refine q2 ?_|refine q3 ?_|refine q4 ?_|refine q5 ?_|refine q6 ?_|refine w_seq ?_|refine w_region ?_|refine w_ops_nil ?_|refine w_skip ?_|refine w_block ?_|refine w_blk ?_|refine q7 ?_|refine q8 ?_|refine q9 ?_)
          refine d_next (fun _ => ⟨y1, rfl, hss⟩) ?_
          refine d_exec1 13 (by kernel_rfl) rfl ?_
          refine w_store (us := El.ky.enc Ky.zero) (vs' := El.ky.enc Ky.zero) hc11 rfl rfl rfl rfl (El.ky.flat _) (show 0 + 24 ≤ 24 by decide) rfl fun y2 yb2 ys2 hc11 => ?_
          replace hc10 := hc10.go ys2; replace hr' := hr'.go ys2
          replace hss := hss.go ys2
          repeat (first|refine q1 ?_|refine q2 ?_|refine q3 ?_|refine q4 ?_|refine q5 ?_|refine q6 ?_|refine w_seq ?_|refine w_region ?_|refine w_ops_nil ?_|refine w_skip ?_|refine w_block ?_|refine w_blk ?_|refine q7 ?_|refine q8 ?_|refine q9 ?_)
          refine d_next (fun _ => ⟨y2, rfl, hss⟩) ?_
          refine d_pure 14 calm_ret rfl (by kernel_rfl) rfl rfl ?_
          refine d_done (by kernel_rfl) ?_
          exact w_meet b10 ⟨y2, v', L', rfl, hsd0.go hss, hc10, hr', hput⟩ ⟨rfl, rfl, rfl, rfl, rfl, rfl, trivial⟩
      · refine w_alloc 44 (vs := [.int .i64 0, .slice none 0 0]) rfl rfl fun j1 b10 js hc10 => ?_
        replace hss := hss.go js
        clear js
        repeat (first|refine q1 ?_|refine q2 ?_|refine q3 ?_|refine q4 ?_|refine q5 ?_|refine q6 ?_|refine w_seq ?_|refine w_region ?_|refine w_ops_nil ?_|refine w_skip ?_|refine w_block ?_|refine w_blk ?_|refine q7 ?_|refine q8 ?_|refine q9 ?_)
        refine d_next (fun _ => ⟨j1, rfl, hss⟩) ?_
        refine d_exec2 5 11 (by kernel_rfl) rfl rfl ?_ ?_
        · refine w_callF rfl (ref18_Put (roomZ 64) L vL kx 5 0 j1 (hrL.go hss) (by omega) (.inr (by rw [h64]; omega))) rfl fun u j2 js hR => ?_
          obtain ⟨v', L', rfl, hr', hput⟩ := hR
          rw [if_neg (by decide)] at hput
          replace hc10 := hc10.go js
          replace hss := hss.go js
          clear js
          repeat (first|refine q1 ?_|refine q2 ?_|refine q3 ?_|refine q4 ?_|refine q5 ?_|refine q6 ?_|refine w_seq ?_|refine w_region ?_|refine w_ops_nil ?_|refine w_skip ?_|refine w_block ?_|refine w_blk ?_|refine q7 ?_|refine q8 ?_|refine q9 ?_)
          refine d_next (fun _ => ⟨j2, rfl, hss⟩) ?_
          refine d_pure 6 calm_ret rfl (by kernel_rfl) rfl rfl ?_; refine d_pure 7 calm_ret rfl (by kernel_rfl) rfl rfl ?_; refine d_pure 8 calm_ret rfl (by kernel_rfl) rfl rfl ?_; refine d_pure 9 calm_ret rfl (by kernel_rfl) rfl rfl ?_
          refine d_exec1 11 (by kernel_rfl) rfl ?_
          refine w_alloc 46 (vs := El.ky.enc Ky.zero) rfl rfl fun j3 b11 js hc11 => ?_
          replace hc10 := hc10.go js; replace hr' := hr'.go js
          replace hss := hss.go js
          clear js
          repeat (first|refine q1 ?_|refine q2 ?_|refine q3 ?_|refine q4 ?_|refine q5 ?_|refine q6 ?_|refine w_seq ?_|refine w_region ?_|refine w_ops_nil ?_|refine w_skip ?_|refine w_block ?_|refine w_blk ?_|refine q7 ?_|refine q8 ?_|refine q9 ?_)
          refine d_next (fun _ => ⟨j3, rfl, hss⟩) ?_
          refine d_exec1 12 (by kernel_rfl) rfl ?_
          refine w_store (us := [.int .i64 (roomZ 64), v']) (vs' := [.int .i64 (roomZ 64), v']) hc10 rfl rfl rfl rfl (one v' hr'.isSl.one) (show 0 + 2 ≤ 2 by decide) rfl fun y1 yb1 ys1 hc10 => ?_
          replace hc11 := hc11.go ys1; replace hr' := hr'.go ys1
          replace hss := hss.go ys1
          repeat (first|refine q1 ?_|refine q2 ?_|refine q3 ?_|refine q4 ?_|refine q5 ?_|refine q6 ?_|refine w_seq ?_|refine w_region ?_|refine w_ops_nil ?_|refine w_skip ?_|refine w_block ?_|refine w_blk ?_|refine q7 ?_|refine q8 ?_|refine q9 ?_)
          refine d_next (fun _ => ⟨y1, rfl, hss⟩) ?_
          refine d_exec1 13 (by kernel_rfl) rfl ?_
          refine w_store (us := El.ky.enc Ky.zero) (vs' := El.ky.enc Ky.zero) hc11 rfl rfl rfl rfl (El.ky.flat _) (show 0 + 24 ≤ 24 by decide) rfl fun y2 yb2 ys2 hc11 => ?_
          replace hc10 := hc10.go ys2; replace hr' := hr'.go ys2
          replace hss := hss.go ys2
          repeat (first|refine q1 ?_|refine q2 ?_|refine q3 ?_|refine q4 ?_|refine q5 ?_|refine q6 ?_|refine w_seq ?_|refine w_region ?_|refine w_ops_nil ?_|refine w_skip ?_|refine w_block ?_|refine w_blk ?_|refine q7 ?_|refine q8 ?_|refine q9 ?_)
          refine d_next (fun _ => ⟨y2, rfl, hss⟩) ?_
          refine d_pure 14 calm_ret rfl (by kernel_rfl) rfl rfl ?_
          refine d_done (by kernel_rfl) ?_
          exact w_meet b10 ⟨y2, v', L', rfl, hsd0.go hss, hc10, hr', hput⟩ ⟨rfl, rfl, rfl, rfl, rfl, rfl, trivial⟩
        · refine w_alloc 46 (vs := El.ky.enc Ky.zero) rfl rfl fun j2 b11 js hc11 => ?_
          replace hc10 := hc10.go js
          replace hss := hss.go js
          clear js
          repeat (first|refine q1 ?_|refine q2 ?_|refine q3 ?_|refine q4 ?_|refine q5 ?_|refine q6 ?_|refine w_seq ?_|refine w_region ?_|refine w_ops_nil ?_|refine w_skip ?_|refine w_block ?_|refine w_blk ?_|refine q7 ?_|refine q8 ?_|refine q9 ?_)
          refine d_next (fun _ => ⟨j2, rfl, hss⟩) ?_
          refine d_exec1 5 (by kernel_rfl) rfl ?_
          refine w_callF rfl (ref18_Put (roomZ 64) L vL kx 5 0 j2 (hrL.go hss) (by omega) (.inr (by rw [h64]; omega))) rfl fun u j3 js hR => ?_
          obtain ⟨v', L', rfl, hr', hput⟩ := hR
          rw [if_neg (by decide)] at hput
          replace hc10 := hc10.go js; replace hc11 := hc11.go js
          replace hss := hss.go js
          clear js
          repeat (first|refine q1 ?_|refine q2 ?_|refine q3 ?_|refine q4 ?_|refine q5 ?_|refine q6 ?_|refine w_seq ?_|refine w_region ?_|refine w_ops_nil ?_|refine w_skip ?_|refine w_block ?_|refine w_blk ?_|refine q7 ?_|refine q8 ?_|refine q9 ?_)
          refine d_next (fun _ => ⟨j3, rfl, hss⟩) ?_
          refine d_pure 6 calm_ret rfl (by kernel_rfl) rfl rfl ?_; refine d_pure 7 calm_ret rfl (by kernel_rfl) rfl rfl ?_; refine d_pure 8 calm_ret rfl (by kernel_rfl) rfl rfl ?_; refine d_pure 9 calm_ret rfl (by kernel_rfl) rfl rfl ?_
          refine d_exec1 12 (by kernel_rfl) rfl ?_
          refine w_store (us := [.int .i64 (roomZ 64), v']) (vs' := [.int .i64 (roomZ 64), v']) hc10 rfl rfl rfl rfl (one v' hr'.isSl.one) (show 0 + 2 ≤ 2 by decide) rfl fun y1 yb1 ys1 hc10 => ?_
          replace hc11 := hc11.go ys1; replace hr' := hr'.go ys1
          replace hss := hss.go ys1
          repeat (first|refine q1 ?_|refine q2 ?_|refine q3 ?_|refine q4 ?_|refine q5 ?_|refine q6 ?_|refine w_seq ?_|refine w_region ?_|refine w_ops_nil ?_|refine w_skip ?_|refine w_block ?_|refine w_blk ?_|refine q7 ?_|refine q8 ?_|refine q9 ?_)
          refine d_next (fun _ => ⟨y1, rfl, hss⟩) ?_
          refine d_exec1 13 (by kernel_rfl) rfl ?_
          refine w_store (us := El.ky.enc Ky.zero) (vs' := El.ky.enc Ky.zero) hc11 rfl rfl rfl rfl (El.ky.flat _) (show 0 + 24 ≤ 24 by decide) rfl fun y2 yb2 ys2 hc11 => ?_
          replace hc10 := hc10.go ys2; replace hr' := hr'.go ys2
          replace hss := hss.go ys2
          repeat (first|refine q1 ?_|refine q2 ?_|refine q3 ?_|refine q4 ?_|refine q5 ?_|refine q6 ?_|refine w_seq ?_|refine w_region ?_|refine w_ops_nil ?_|refine w_skip ?_|refine w_block ?_|refine w_blk ?_|refine q7 ?_|refine q8 ?_|refine q9 ?_)
          refine d_next (fun _ => ⟨y2, rfl, hss⟩) ?_
          refine d_pure 14 calm_ret rfl (by kernel_rfl) rfl rfl ?_
          refine d_done (by kernel_rfl) ?_
          exact w_meet b10 ⟨y2, v', L', rfl, hsd0.go hss, hc10, hr', hput⟩ ⟨rfl, rfl, rfl, rfl, rfl, rfl, trivial⟩
      · refine w_alloc 46 (vs := El.ky.enc Ky.zero) rfl rfl fun j1 b11 js hc11 => ?_
        replace hss := hss.go js
        clear js
        repeat (first|refine q1 ?_|refine q2 ?_|refine q3 ?_|refine q4 ?_|refine q5 ?_|refine q6 ?_|refine w_seq ?_|refine w_region ?_|refine w_ops_nil ?_|refine w_skip ?_|refine w_block ?_|refine w_blk ?_|refine q7 ?_|refine q8 ?_|refine q9 ?_)
        refine d_next (fun _ => ⟨j1, rfl, hss⟩) ?_
        refine d_exec2 5 10 (by kernel_rfl) rfl rfl ?_ ?_
        · refine w_callF rfl (ref18_Put (roomZ 64) L vL kx 5 0 j1 (hrL.go hss) (by omega) (.inr (by rw [h64]; omega))) rfl fun u j2 js hR => ?_
          obtain ⟨v', L', rfl, hr', hput⟩ := hR
          rw [if_neg (by decide)] at hput
          replace hc11 := hc11.go js
          replace hss := hss.go js
          clear js
          repeat (first|refine q1 ?_|refine q2 ?_|refine q3 ?_|refine q4 ?_|refine q5 ?_|refine q6 ?_|refine w_seq ?_|refine w_region ?_|refine w_ops_nil ?_|refine w_skip ?_|refine w_block ?_|refine w_blk ?_|refine q7 ?_|refine q8 ?_|refine q9 ?_)
          refine d_next (fun _ => ⟨j2, rfl, hss⟩) ?_
          refine d_pure 6 calm_ret rfl (by kernel_rfl) rfl rfl ?_; refine d_pure 7 calm_ret rfl (by kernel_rfl) rfl rfl ?_; refine d_pure 8 calm_ret rfl (by kernel_rfl) rfl rfl ?_; refine d_pure 9 calm_ret rfl (by kernel_rfl) rfl rfl ?_
          refine d_exec1 10 (by kernel_rfl) rfl ?_
          refine w_alloc 44 (vs := [.int .i64 0, .slice none 0 0]) rfl rfl fun j3 b10 js hc10 => ?_
          replace hc11 := hc11.go js; replace hr' := hr'.go js
          replace hss := hss.go js
          clear js
          repeat (first|refine q1 ?_|refine q2 ?_|refine q3 ?_|refine q4 ?_|refine q5 ?_|refine q6 ?_|refine w_seq ?_|refine w_region ?_|refine w_ops_nil ?_|refine w_skip ?_|refine w_block ?_|refine w_blk ?_|refine q7 ?_|refine q8 ?_|refine q9 ?_)
          refine d_next (fun _ => ⟨j3, rfl, hss⟩) ?_
          refine d_exec1 12 (by kernel_rfl) rfl ?_
          refine w_store (us := [.int .i64 (roomZ 64), v']) (vs' := [.int .i64 (roomZ 64), v']) hc10 rfl rfl rfl rfl (one v' hr'.isSl.one) (show 0 + 2 ≤ 2 by decide) rfl fun y1 yb1 ys1 hc10 => ?_
          replace hc11 := hc11.go ys1; replace hr' := hr'.go ys1
          replace hss := hss.go ys1
          repeat (first|refine q1 ?_|refine q2 ?_|refine q3 ?_|refine q4 ?_|refine q5 ?_|refine q6 ?_|refine w_seq ?_|refine w_region ?_|refine w_ops_nil ?_|refine w_skip ?_|refine w_block ?_|refine w_blk ?_|refine q7 ?_|refine q8 ?_|refine q9 ?_)
          refine d_next (fun _ => ⟨y1, rfl, hss⟩) ?_
          refine d_exec1 13 (by kernel_rfl) rfl ?_
          refine w_store (us := El.ky.enc Ky.zero) (vs' := El.ky.enc Ky.zero) hc11 rfl rfl rfl rfl (El.ky.flat _) (show 0 + 24 ≤ 24 by decide) rfl fun y2 yb2 ys2 hc11 => ?_
          replace hc10 := hc10.go ys2; replace hr' := hr'.go ys2
          replace hss := hss.go ys2
          repeat (first|refine q1 ?_|refine q2 ?_|refine q3 ?_|refine q4 ?_|refine q5 ?_|refine q6 ?_|refine w_seq ?_|refine w_region ?_|refine w_ops_nil ?_|refine w_skip ?_|refine w_block ?_|refine w_blk ?_|refine q7 ?_|refine q8 ?_|refine q9 ?_)
          refine d_next (fun _ => ⟨y2, rfl, hss⟩) ?_
          refine d_pure 14 calm_ret rfl (by kernel_rfl) rfl rfl ?_
          refine d_done (by kernel_rfl) ?_
          exact w_meet b10 ⟨y2, v', L', rfl, hsd0.go hss, hc10, hr', hput⟩ ⟨rfl, rfl, rfl, rfl, rfl, rfl, trivial⟩
        · refine w_alloc 44 (vs := [.int .i64 0, .slice none 0 0]) rfl rfl fun j2 b10 js hc10 => ?_
          replace hc11 := hc11.go js
          replace hss := hss.go js
          clear js
          repeat (first|refine q1 ?_|refine q2 ?_|refine q3 ?_|refine q4 ?_|refine q5 ?_|refine q6 ?_|refine w_seq ?_|refine w_region ?_|refine w_ops_nil ?_|refine w_skip ?_|refine w_block ?_|refine w_blk ?_|refine q7 ?_|refine q8 ?_|refine q9 ?_)
          refine d_next (fun _ => ⟨j2, rfl, hss⟩) ?_
          refine d_exec1 5 (by kernel_rfl) rfl ?_
          refine w_callF rfl (ref18_Put (roomZ 64) L vL kx 5 0 j2 (hrL.go hss) (by omega) (.inr (by rw [h64]; omega))) rfl fun u j3 js hR => ?_
          obtain ⟨v', L', rfl, hr', hput⟩ := hR
          rw [if_neg (by decide)] at hput
          replace hc10 := hc10.go js; replace hc11 := hc11.go js
          replace hss := hss.go js
          clear js
          repeat (first|refine q1 ?_|refine q2 ?_|refine q3 ?_|refine q4 ?_|refine q5 ?_|refine q6 ?_|refine w_seq ?_|refine w_region ?_|refine w_ops_nil ?_|refine w_skip ?_|refine w_block ?_|refine w_blk ?_|refine q7 ?_|refine q8 ?_|refine q9 ?_)
          refine d_next (fun _ => ⟨j3, rfl, hss⟩) ?_
          refine d_pure 6 calm_ret rfl (by kernel_rfl) rfl rfl ?_; refine d_pure 7 calm_ret rfl (by kernel_rfl) rfl rfl ?_; refine d_pure 8 calm_ret rfl (by kernel_rfl) rfl rfl ?_; refine d_pure 9 calm_ret rfl (by kernel_rfl) rfl rfl ?_
          refine d_exec1 12 (by kernel_rfl) rfl ?_
          refine w_store (us := [.int .i64 (roomZ 64), v']) (vs' := [.int .i64 (roomZ 64), v']) hc10 rfl rfl rfl rfl (one v' hr'.isSl.one) (show 0 + 2 ≤ 2 by decide) rfl fun y1 yb1 ys1 hc10 => ?_
          replace hc11 := hc11.go ys1; replace hr' := hr'.go ys1
          replace hss := hss.go ys1
          repeat (first|refine q1 ?_|refine q2 ?_|refine q3 ?_|refine q4 ?_|refine q5 ?_|refine q6 ?_|refine w_seq ?_|refine w_region ?_|refine w_ops_nil ?_|refine w_skip ?_|refine w_block ?_|refine w_blk ?_|refine q7 ?_|refine q8 ?_|refine q9 ?_)
          refine d_next (fun _ => ⟨y1, rfl, hss⟩) ?_
          refine d_exec1 13 (by kernel_rfl) rfl ?_
          refine w_store (us := El.ky.enc Ky.zero) (vs' := El.ky.enc Ky.zero) hc11 rfl rfl rfl rfl (El.ky.flat _) (show 0 + 24 ≤ 24 by decide) rfl fun y2 yb2 ys2 hc11 => ?_
          replace hc10 := hc10.go ys2; replace hr' := hr'.go ys2
          replace hss := hss.go ys2
          repeat (first|refine q1 ?_|refine q2 ?_|refine q3 ?_|refine q4 ?_|refine q5 ?_|refine q6 ?_|refine w_seq ?_|refine w_region ?_|refine w_ops_nil ?_|refine w_skip ?_|refine w_block ?_|refine w_blk ?_|refine q7 ?_|refine q8 ?_|refine q9 ?_)
          refine d_next (fun _ => ⟨y2, rfl, hss⟩) ?_
          refine d_pure 14 calm_ret rfl (by kernel_rfl) rfl rfl ?_
          refine d_done (by kernel_rfl) ?_
          exact w_meet b10 ⟨y2, v', L', rfl, hsd0.go hss, hc10, hr', hput⟩ ⟨rfl, rfl, rfl, rfl, rfl, rfl, trivial⟩
    rintro b10 _ ⟨k2, v', L', rfl, hs2, hc10, hr', hput⟩
    replace hst := hst.go hs2; replace hst2 := hst2.go hs2; replace hc4 := hc4.go hs2; replace hr := hr.go hs2; replace hc8 := hc8.go hs2; replace hb := hb.go hs2
    have htw2 := htw.put kx 5 hput
    have hl2 := putR_len (k := kx) (t := 5) htw.2
    repeat (first|refine q1 ?_|refine q2 ?_|refine q3 ?_|refine q4 ?_|refine q5 ?_|refine q6 ?_|refine w_seq ?_|refine w_region ?_|refine w_ops_nil ?_|refine w_skip ?_|refine w_block ?_|refine w_blk ?_|refine q7 ?_|refine q8 ?_|refine q9 ?_)
    refine w_loadS (us := [.int .i64 (roomZ 64), v']) hc10 rfl rfl rfl rfl rfl ?_
    refine w_store (us := [.int .i64 (roomZ 64), v']) (vs' := [.int .i64 (roomZ 64), v']) hc8 rfl rfl rfl rfl (one v' hr'.isSl.one) (show 0 + 2 ≤ 2 by decide) rfl fun k3 hb3 hs3 hc8 => ?_
    repeat (first|refine q1 ?_|refine q2 ?_|refine q3 ?_|refine q4 ?_|refine q5 ?_|refine q6 ?_|refine w_seq ?_|refine w_region ?_|refine w_ops_nil ?_|refine w_skip ?_|refine w_block ?_|refine w_blk ?_|refine q7 ?_|refine q8 ?_|refine q9 ?_)
    refine w_again (i + 1) (by omega) ⟨k3, _, L', v', rfl, hst2.go hs3, hc8, hr'.go hs3, hb.go hs3, htw2, by omega, by omega, fun j k hj hk => ?_⟩ ⟨rfl, rfl, rfl, rfl, rfl, trivial⟩
    rw [put_mem htw.2]
    by_cases e : kx = k
    · left; rw [e]
    · right
      refine ⟨?_, e⟩
      by_cases ej : j = i
      · subst ej; rw [hgk] at hk; injection hk with hk; exact absurd hk e
      · exact hin j k (by omega) hk
  have ei : i = l2.length := by omega
  subst ei
  have hfun : (fun x : Ky × Int => decide (¬ x.1.page = o2)) = fun x => !(decide (x.1.page = o2)) := by funext x; simp
  have hDl : (L.filter fun x => decide (¬ x.1.page = o2)).length = (m.filter fun x => !(decide (x.1.page = o2))).length := by rw [hfun]; exact (htw.1.filter _).length_eq.symm
  have hDD : (m.filter fun x => !(decide (x.1.page = o2))).filter (fun x => !(decide (x.1.page = o2))) = m.filter fun x => !(decide (x.1.page = o2)) := by rw [List.filter_eq_self]; intro x hx; exact (List.mem_filter.1 hx).2
  have hhold := fun k hk => drop_hold htw.2 o2 k hk
  have hndD : ((m.filter fun x => !(decide (x.1.page = o2))).map (·.1)).Nodup := (List.filter_sublist.map _).nodup htw.2
  have hDle : (m.filter fun x => !(decide (x.1.page = o2))).length ≤ m.length := List.length_filter_le _ _
  repeat (first|refine q1 ?_|refine q2 ?_|refine q3 ?_|refine q4 ?_|refine q5 ?_|refine q6 ?_|refine w_seq ?_|refine w_region ?_|refine w_ops_nil ?_|refine w_skip ?_|refine w_block ?_|refine w_blk ?_|refine q7 ?_|refine q8 ?_|refine q9 ?_)
  refine w_loadS (us := [.int .i64 (roomZ 64), vL]) hc8 rfl rfl rfl rfl rfl ?_
  refine w_loadS (us := El.og.enc o2) hc4 rfl rfl rfl rfl rfl ?_
  refine w_callF rfl (ref18_Drop (roomZ 64) L vL o2 h hrL (by omega)) rfl fun u k1 hs1 hR => ?_
  obtain ⟨v', rfl, hr'⟩ := hR
  generalize hmD : (m.filter fun x => !(decide (x.1.page = o2))) = mD at hDl hDD hhold hndD hDle
  generalize (L.filter fun x => decide (¬ x.1.page = o2)) = LD at hDl hr'
  replace hst := hst.go hs1; replace hst2 := hst2.go hs1; replace hc4 := hc4.go hs1; replace hr := hr.go hs1; replace hb := hb.go hs1
  clear hs1
  repeat (first|refine q1 ?_|refine q2 ?_|refine q3 ?_|refine q4 ?_|refine q5 ?_|refine q6 ?_|refine w_seq ?_|refine w_region ?_|refine w_ops_nil ?_|refine w_skip ?_|refine w_block ?_|refine w_blk ?_|refine q7 ?_|refine q8 ?_|refine q9 ?_)
  refine w_alloc 47 (vs := [.int .i64 0, .slice none 0 0]) rfl rfl fun k2 b13 hs2 hc13 => ?_
  replace hst := hst.go hs2; replace hc4 := hc4.go hs2; replace hr := hr.go hs2; replace hb := hb.go hs2; replace hr' := hr'.go hs2
  repeat (first|refine q1 ?_|refine q2 ?_|refine q3 ?_|refine q4 ?_|refine q5 ?_|refine q6 ?_|refine w_seq ?_|refine w_region ?_|refine w_ops_nil ?_|refine w_skip ?_|refine w_block ?_|refine w_blk ?_|refine q7 ?_|refine q8 ?_|refine q9 ?_)
  refine w_store (us := [.int .i64 (roomZ 64), v']) (vs' := [.int .i64 (roomZ 64), v']) hc13 rfl rfl rfl rfl (one v' hr'.isSl.one) (show 0 + 2 ≤ 2 by decide) rfl fun k3 hb3 hs3 hc13 => ?_
  replace hst := hst.go hs3; replace hc4 := hc4.go hs3; replace hr := hr.go hs3; replace hb := hb.go hs3; replace hr' := hr'.go hs3
  clear hs2 hs3 hb3 hst2
  repeat (first|refine q1 ?_|refine q2 ?_|refine q3 ?_|refine q4 ?_|refine q5 ?_|refine q6 ?_|refine w_seq ?_|refine w_region ?_|refine w_ops_nil ?_|refine w_skip ?_|refine w_block ?_|refine w_blk ?_|refine q7 ?_|refine q8 ?_|refine q9 ?_)
  refine d_begin none [51, 52] (by kernel_rfl) fun g2 hsd => ?_
  replace hb := hb.go hsd
  replace hst := hst.go hsd; replace hc4 := hc4.go hsd; replace hr := hr.go hsd; replace hr' := hr'.go hsd; replace hc13 := hc13.go hsd
  refine d_pure 0 calm_ret rfl (by kernel_rfl) rfl rfl ?_
  refine d_read 1 calm_ret rfl (by kernel_rfl) rfl  (fun h hs => r_load (us := El.og.enc o2) (hc4.go hs) rfl rfl rfl (fun e => by cases e)) ?_
  refine d_pure 3 calm_ret rfl (by kernel_rfl) rfl rfl ?_
  refine d_exec1 2 (by kernel_rfl) rfl ?_
  refine w_callF rfl (Book_Drop p (roomZ 64) m o2 g2 hb htw.2 (by omega)) rfl fun u j1 js1 hR => ?_
  obtain ⟨hu, hb⟩ := hR
  rw [hmD] at hu hb
  rw [← hDl, ← hLl.symm] at hu
  subst hu
  repeat (first|refine q1 ?_|refine q2 ?_|refine q3 ?_|refine q4 ?_|refine q5 ?_|refine q6 ?_|refine w_seq ?_|refine w_region ?_|refine w_ops_nil ?_|refine w_skip ?_|refine w_block ?_|refine w_blk ?_|refine q7 ?_|refine q8 ?_|refine q9 ?_)
  refine d_next (fun _ => ⟨j1, rfl, js1⟩) ?_
  refine d_pure 4 calm_ret rfl (by kernel_rfl) rfl rfl ?_; refine d_pure 5 calm_ret rfl (by kernel_rfl) rfl rfl ?_
  refine d_known 75 (.bool false) rfl (congrArg Value.bool (decide_eq_false (fun h => h rfl))) ?_
  refine d_guard_pure 6 calm_ret rfl rfl rfl (by kernel_rfl) rfl rfl ?_
  refine d_readG 8 calm_ret rfl rfl rfl (by kernel_rfl) rfl  (fun h hs => r_fldA (by decide) rfl) ?_
  refine d_readG 9 calm_ret rfl rfl rfl (by kernel_rfl) rfl  (fun h hs => r_load1 (v := v') (hc13.go hs) rfl rfl rfl) ?_
  refine d_readG 10 calm_ret rfl rfl rfl (by kernel_rfl) rfl  (fun h hs => r_lenSl hr'.isSl rfl) ?_
  refine d_exec1 7 (by kernel_rfl) rfl ?_
  refine w_guard_yes' rfl rfl rfl rfl ?_
  refine w_callF rfl (Book_Len p (roomZ 64) mD j1 hb) rfl fun u j2 js2 hu => ?_
  rw [← hDl] at hu
  subst hu
  replace hb := hb.go js2
  replace js1 := js1.go js2
  repeat (first|refine q1 ?_|refine q2 ?_|refine q3 ?_|refine q4 ?_|refine q5 ?_|refine q6 ?_|refine w_seq ?_|refine w_region ?_|refine w_ops_nil ?_|refine w_skip ?_|refine w_block ?_|refine w_blk ?_|refine q7 ?_|refine q8 ?_|refine q9 ?_)
  refine d_next (fun _ => ⟨j2, rfl, js1⟩) ?_
  refine d_guard_pure 11 calm_ret rfl rfl rfl (by kernel_rfl) rfl rfl ?_
  refine d_pure 12 calm_ret rfl (by kernel_rfl) rfl rfl ?_; refine d_pure 13 calm_ret rfl (by kernel_rfl) rfl rfl ?_
  refine d_known 83 (.bool false) rfl (congrArg Value.bool (decide_eq_false (fun h => h rfl))) ?_
  refine d_guard_pure 14 calm_ret rfl rfl rfl (by kernel_rfl) rfl rfl ?_
  refine d_readG 15 calm_ret rfl rfl rfl (by kernel_rfl) rfl  (fun h hs => r_load (us := El.og.enc o2) (hc4.go hs) rfl rfl rfl (fun e => by cases e)) ?_
  refine d_exec1 16 (by kernel_rfl) rfl ?_
  refine w_guard_yes' rfl rfl rfl rfl ?_
  refine w_callF rfl (Book_Drop p (roomZ 64) mD o2 j2 hb hndD (by omega)) rfl fun u j3 js3 hR => ?_
  obtain ⟨hu, hb⟩ := hR
  rw [hDD] at hu hb
  rw [show ((mD.length : Int) - (mD.length : Int)) = 0 by omega] at hu
  subst hu
  replace js1 := js1.go js3
  repeat (first|refine q1 ?_|refine q2 ?_|refine q3 ?_|refine q4 ?_|refine q5 ?_|refine q6 ?_|refine w_seq ?_|refine w_region ?_|refine w_ops_nil ?_|refine w_skip ?_|refine w_block ?_|refine w_blk ?_|refine q7 ?_|refine q8 ?_|refine q9 ?_)
  refine d_next (fun _ => ⟨j3, rfl, js1⟩) ?_
  refine d_guard_pure 17 calm_ret rfl rfl rfl (by kernel_rfl) rfl rfl ?_
  refine d_pure 18 calm_ret rfl (by kernel_rfl) rfl rfl ?_
  refine d_done (by kernel_rfl) ?_
  replace hst := hst.go js1; replace hc4 := hc4.go js1; replace hr := hr.go js1
  repeat (first|refine q1 ?_|refine q2 ?_|refine q3 ?_|refine q4 ?_|refine q5 ?_|refine q6 ?_|refine w_seq ?_|refine w_region ?_|refine w_ops_nil ?_|refine w_skip ?_|refine w_block ?_|refine w_blk ?_|refine q7 ?_|refine q8 ?_|refine q9 ?_)
  refine w_loop (ι := Nat) (fun i => [(0, v), (4, .pointer (some ⟨b4, 0, none⟩)), (7, .pointer (some ⟨p, 0, none⟩)), (15, .int .i64 (i : Int))])
    (fun i w => ∃ h : G, h.w = w ∧ Step [] [] j3 h ∧ i ≤ l2.length) (fun i => l2.length - i) 0 ⟨j3, rfl, Step.refl _ _ _, by omega⟩ ⟨rfl, rfl, rfl, rfl, trivial⟩ ?_
  rintro i _ ⟨h, rfl, hst2, hi⟩
  replace hst := hst.go hst2; replace hc4 := hc4.go hst2; replace hr := hr.go hst2; replace hb := hb.go hst2
  repeat (first|refine q1 ?_|refine q2 ?_|refine q3 ?_|refine q4 ?_|refine q5 ?_|refine q6 ?_|refine w_seq ?_|refine w_region ?_|refine w_ops_nil ?_|refine w_skip ?_|refine w_block ?_|refine w_blk ?_|refine q7 ?_|refine q8 ?_|refine q9 ?_)
  refine w_lenSl hr.isSl rfl rfl ?_
  repeat (first|refine q1 ?_|refine q2 ?_|refine q3 ?_|refine q4 ?_|refine q5 ?_|refine q6 ?_|refine w_seq ?_|refine w_region ?_|refine w_ops_nil ?_|refine w_skip ?_|refine w_block ?_|refine w_blk ?_|refine q7 ?_|refine q8 ?_|refine q9 ?_)
  refine w_condP rfl (fun hlt => ?_) (fun hlt => ?_)
  · have hlt : i < l2.length := by omega
    generalize hkx : l2[i] = kx
    have hgk : l2[i]? = some kx := by rw [List.getElem?_eq_getElem hlt, hkx]
    have hho := hhold kx (hin i kx hlt hgk)
    repeat (first|refine q1 ?_|refine q2 ?_|refine q3 ?_|refine q4 ?_|refine q5 ?_|refine q6 ?_|refine w_seq ?_|refine w_region ?_|refine w_ops_nil ?_|refine w_skip ?_|refine w_block ?_|refine w_blk ?_|refine q7 ?_|refine q8 ?_|refine q9 ?_)
    refine d_begin none [] (by kernel_rfl) fun g3 hsd3 => ?_
    replace hst := hst.go hsd3; replace hst2 := hst2.go hsd3; replace hc4 := hc4.go hsd3; replace hr := hr.go hsd3; replace hb := hb.go hsd3
    refine d_pure 0 calm_ret rfl (by kernel_rfl) rfl rfl ?_; refine d_pure 1 calm_ret rfl (by kernel_rfl) rfl rfl ?_; refine d_pure 2 calm_ret rfl (by kernel_rfl) rfl rfl ?_
    refine d_read 3 calm_ret rfl (by kernel_rfl) rfl  (fun h hs => r_idx (hr.go hs) rfl rfl (by omega) (by omega)) ?_
    refine d_read 4 calm_ret rfl (by kernel_rfl) rfl  (fun h hs => r_loadE (i := i) (y := kx) (hr.go hs) rfl hgk rfl) ?_
    refine d_pure 6 calm_ret rfl (by kernel_rfl) rfl rfl ?_; refine d_pure 7 calm_ret rfl (by kernel_rfl) rfl rfl ?_
    refine d_read 8 calm_ret rfl (by kernel_rfl) rfl  (fun h hs => r_idx (hr.go hs) rfl rfl (by omega) (by omega)) ?_
    refine d_read 9 calm_ret rfl (by kernel_rfl) rfl  (fun h hs => r_fldE (hr.base hlt) (by decide) rfl) ?_
    refine d_read 10 calm_ret rfl (by kernel_rfl) rfl  (fun h hs => r_loadES (i := i) (off := 0) (y := kx) (us := El.og.enc kx.page) (hr.go hs) rfl hgk rfl rfl rfl) ?_
    refine d_read 11 calm_ret rfl (by kernel_rfl) rfl  (fun h hs => r_load (us := El.og.enc o2) (hc4.go hs) rfl rfl rfl (fun e => by cases e)) ?_
    refine d_read 12 calm_ret rfl (by kernel_rfl) rfl  (fun h hs => r_neS (E := El.og) (a := kx.page) (b := o2) rfl rfl rfl) ?_
    refine d_exec1 5 (by kernel_rfl) rfl ?_
    refine w_callF rfl (Book_Holds p (roomZ 64) mD kx 0 g3 hb) rfl fun u k5 ks5 hu => ?_
    rw [hho] at hu
    subst hu
    repeat (first|refine q1 ?_|refine q2 ?_|refine q3 ?_|refine q4 ?_|refine q5 ?_|refine q6 ?_|refine w_seq ?_|refine w_region ?_|refine w_ops_nil ?_|refine w_skip ?_|refine w_block ?_|refine w_blk ?_|refine q7 ?_|refine q8 ?_|refine q9 ?_)
    refine d_next (fun _ => ⟨k5, rfl, ks5⟩) ?_
    refine d_read 13 calm_ret rfl (by kernel_rfl) rfl  (fun h hs => r_neBool rfl rfl) ?_
    refine d_done (by kernel_rfl) ?_
    repeat (first|refine q1 ?_|refine q2 ?_|refine q3 ?_|refine q4 ?_|refine q5 ?_|refine q6 ?_|refine w_seq ?_|refine w_region ?_|refine w_ops_nil ?_|refine w_skip ?_|refine w_block ?_|refine w_blk ?_|refine q7 ?_|refine q8 ?_|refine q9 ?_)
    refine w_condP rfl (fun hne => absurd rfl hne) (fun _ => ?_)
    repeat (first|refine q1 ?_|refine q2 ?_|refine q3 ?_|refine q4 ?_|refine q5 ?_|refine q6 ?_|refine w_seq ?_|refine w_region ?_|refine w_ops_nil ?_|refine w_skip ?_|refine w_block ?_|refine w_blk ?_|refine q7 ?_|refine q8 ?_|refine q9 ?_)
    exact w_again (i + 1) (by omega) ⟨k5, rfl, hst2.go ks5, by omega⟩ ⟨rfl, rfl, rfl, rfl, trivial⟩
  · repeat (first|refine q1 ?_|refine q2 ?_|refine q3 ?_|refine q4 ?_|refine q5 ?_|refine q6 ?_|refine w_seq ?_|refine w_region ?_|refine w_ops_nil ?_|refine w_skip ?_|refine w_block ?_|refine w_blk ?_|refine q7 ?_|refine q8 ?_|refine q9 ?_)
    refine w_callF rfl (law18_lives h) rfl fun u k5 ks5 hu => ?_
    subst hu
    repeat (first|refine q1 ?_|refine q2 ?_|refine q3 ?_|refine q4 ?_|refine q5 ?_|refine q6 ?_|refine w_seq ?_|refine w_region ?_|refine w_ops_nil ?_|refine w_skip ?_|refine w_block ?_|refine w_blk ?_|refine q7 ?_|refine q8 ?_|refine q9 ?_)
    exact w_retG (res1 rfl rfl) (hst.go ks5) fun h' _ => rfl
end Go.Proofs.Ytkgbodmlmeholaa
