/- Caches: the law of whatever is done, as a contract. No statement of the seat is proved here. -/
import Derived.Test.YtfkdfnookacgiaaCb5
set_option linter.unusedVariables false
set_option linter.unusedSimpArgs false
namespace Go.Proofs.Ytfkdfnookacgiaa
open Go
attribute [local irreducible] Wp
theorem SlsC.next {h : G} {L L' : CaM} {vd : Value} {a : List Ad} (hs : SlsC h L) (ha : Rdx h El.ad vd a) (hn : ∀ x ∈ L', x ∈ L ∨ (CutOf vd a x.2 ∧ x.2.addrs.length ≤ 3)) : SlsC h L' := fun x hx => by
  rcases hn x hx with e | ⟨e, hl⟩
  · exact hs x e
  · refine ⟨?_, hl⟩
    rcases e with ⟨e1, e2⟩ | ⟨e0, e1, e2⟩
    · rw [e1, e2]; exact ha
    · rw [e1, e2]
      obtain ⟨c, hc, hr⟩ := ha
      exact ⟨c, hc, hr.cut (by omega) (by omega)⟩
set_option maxRecDepth 4000 in
theorem law10_Plays (room : Int) (l : List Dv) (vl : Value) (g : G) (hr : Rdx g El.dv vl l) (hels : ∀ x ∈ l, (-9223372036854775808 ≤ x.wait ∧ x.wait ≤ 9223372036854775807) ∧ ∃ a, Rdx g El.ad x.sl.1 a) :
    Fn Try.prog 7 [.int .i64 room, vl] g [] fun u _ => u = .bool true := by
  refine enterG [] [51, 52, 43, 44] Try.func7 rfl Try.ntmps7 rfl (by simp) fun g1 hv ho => ?_
  replace hr := hr.seen hv ho
  replace hels : ∀ x ∈ l, (-9223372036854775808 ≤ x.wait ∧ x.wait ≤ 9223372036854775807) ∧ ∃ a, Rdx g1 El.ad x.sl.1 a := fun x hx => ⟨(hels x hx).1, by obtain ⟨a, ha⟩ := (hels x hx).2; exact ⟨a, ha.seen hv ho⟩⟩
  obtain ⟨cl, hcl, hr⟩ := hr
  have hlm := hr.isSl.le
  have hz : 1 ≤ roomZ room ∧ roomZ room ≤ 64 := by unfold roomZ; omega
  repeat (first|refine q1 ?_|refine q2 ?_|refine q3 ?_|refine q4 ?_|refine q5 ?_|refine q6 ?_|refine w_seq ?_|refine w_region ?_|refine w_ops_nil ?_|refine w_skip ?_|refine w_block ?_|refine w_blk ?_|refine q7 ?_|refine q8 ?_|refine q9 ?_)
  refine w_callF (vs := [.int .i64 room]) rfl (cache_New room g1) rfl fun u h1 hs1 hR => ?_
  obtain ⟨p, rfl, hb⟩ := hR
  have hst : Step [] [51, 52, 43, 44] g1 h1 := hs1.mono (by simp) (by simp)
  replace hr := hr.go hs1
  repeat (first|refine q1 ?_|refine q2 ?_|refine q3 ?_|refine q4 ?_|refine q5 ?_|refine q6 ?_|refine w_seq ?_|refine w_region ?_|refine w_ops_nil ?_|refine w_skip ?_|refine w_block ?_|refine w_blk ?_|refine q7 ?_|refine q8 ?_|refine q9 ?_)
  refine w_ptrEqNil rfl rfl rfl ?_
  repeat (first|refine q1 ?_|refine q2 ?_|refine q3 ?_|refine q4 ?_|refine q5 ?_|refine q6 ?_|refine w_seq ?_|refine w_region ?_|refine w_ops_nil ?_|refine w_skip ?_|refine w_block ?_|refine w_blk ?_|refine q7 ?_|refine q8 ?_|refine q9 ?_)
  refine w_cond rfl (fun h => by cases h) (fun _ => ?_)
  repeat (first|refine q1 ?_|refine q2 ?_|refine q3 ?_|refine q4 ?_|refine q5 ?_|refine q6 ?_|refine w_seq ?_|refine w_region ?_|refine w_ops_nil ?_|refine w_skip ?_|refine w_block ?_|refine w_blk ?_|refine q7 ?_|refine q8 ?_|refine q9 ?_)
  refine w_callF (vs := [.int .i64 room]) rfl (ref10_New room h1) rfl fun u h2 hs2 hu => ?_
  subst hu
  replace hst := hst.go hs2; replace hr := hr.go hs2; replace hb := hb.go hs2
  repeat (first|refine q1 ?_|refine q2 ?_|refine q3 ?_|refine q4 ?_|refine q5 ?_|refine q6 ?_|refine w_seq ?_|refine w_region ?_|refine w_ops_nil ?_|refine w_skip ?_|refine w_block ?_|refine w_blk ?_|refine q7 ?_|refine q8 ?_|refine q9 ?_)
  refine w_alloc 43 (vs := [.int .i64 0, .slice none 0 0]) rfl rfl fun h3 b6 hs3 hc6 => ?_
  replace hst := hst.go hs3; replace hr := hr.go hs3; replace hb := hb.go hs3
  refine w_store (us := [.int .i64 (roomZ room), .slice none 0 0]) (vs' := [.int .i64 (roomZ room), .slice none 0 0]) hc6 rfl rfl rfl rfl (oneTwo rfl) (show 0 + 2 ≤ 2 by decide) rfl fun h4 hb4 hs4 hc6 => ?_
  replace hst := hst.go hs4; replace hr := hr.go hs4; replace hb := hb.go hs4
  clear hs1 hs2 hs3 hs4 hb4
  repeat (first|refine q1 ?_|refine q2 ?_|refine q3 ?_|refine q4 ?_|refine q5 ?_|refine q6 ?_|refine w_seq ?_|refine w_region ?_|refine w_ops_nil ?_|refine w_skip ?_|refine w_blk ?_|refine q7 ?_|refine q8 ?_|refine q9 ?_)
  refine w_cut (ι := Unit) (fun _ => []) (fun _ w => ∃ h : G, h.w = w ∧ Step [] [51, 52, 43, 44] g1 h) ?_ ?_
  · repeat (first|refine q1 ?_|refine q2 ?_|refine q3 ?_|refine q4 ?_|refine q5 ?_|refine q6 ?_|refine w_seq ?_|refine w_region ?_|refine w_ops_nil ?_|refine w_skip ?_|refine w_block ?_|refine w_blk ?_|refine q7 ?_|refine q8 ?_|refine q9 ?_)
    refine w_loop (ι := Nat × Int) (fun x => [(0, .int .i64 room), (1, vl), (5, .pointer (some ⟨p, 0, none⟩)), (6, .pointer (some ⟨b6, 0, none⟩)), (7, .int .i64 x.2), (8, .int .i64 (x.1 : Int))])
      (fun x w => ∃ h m L vL, h.w = w ∧ Step [] [51, 52, 43, 44] h4 h ∧ Cell h 43 b6 27 [.int .i64 (roomZ room), vL] ∧ Rd h 0 El.ce vL L ∧ Cm h p (roomZ room) m ∧ BooksC m L ∧ SlsC h L ∧ x.1 ≤ l.length ∧ x.1 ≤ 50 ∧ L.length ≤ x.1 ∧ 0 ≤ x.2 ∧ x.2 ≤ 199 * x.1)
      (fun x => l.length - x.1) (0, 0) ⟨h4, [], [], _, rfl, Step.refl _ _ _, hc6, Rd.nil _ _ _ none 0 (by decide), hb, ⟨List.Perm.refl _, List.nodup_nil, List.Pairwise.nil⟩, by intro x hx; simp at hx, by dsimp only; omega, by dsimp only; omega, Nat.le_refl _, by dsimp only; omega, by dsimp only; omega⟩ ⟨rfl, rfl, rfl, rfl, rfl, rfl, trivial⟩ ?_
    clear hc6 hb
    rintro ⟨i, now⟩ _ ⟨h, m, L, vL, rfl, hst2, hc6, hrL, hb, hbk, hsl, hi, hi50, hLi, hn0, hn9⟩
    dsimp only at hi hi50 hLi hn0 hn9 ⊢
    replace hst := hst.go hst2; replace hr := hr.go hst2
    repeat (first|refine q1 ?_|refine q2 ?_|refine q3 ?_|refine q4 ?_|refine q5 ?_|refine q6 ?_|refine w_seq ?_|refine w_region ?_|refine w_ops_nil ?_|refine w_skip ?_|refine w_block ?_|refine w_blk ?_|refine q7 ?_|refine q8 ?_|refine q9 ?_)
    refine w_lenSl hr.isSl rfl rfl ?_
    repeat (first|refine q1 ?_|refine q2 ?_|refine q3 ?_|refine q4 ?_|refine q5 ?_|refine q6 ?_|refine w_seq ?_|refine w_region ?_|refine w_ops_nil ?_|refine w_skip ?_|refine w_block ?_|refine w_blk ?_|refine q7 ?_|refine q8 ?_|refine q9 ?_)
    refine w_splitP 23 rfl (fun hlt => ?_) (fun hlt => ?_)
    · have hlt : i < l.length := by omega
      repeat (first|refine q1 ?_|refine q2 ?_|refine q3 ?_|refine q4 ?_|refine q5 ?_|refine q6 ?_|refine w_seq ?_|refine w_region ?_|refine w_ops_nil ?_|refine w_skip ?_|refine w_block ?_|refine w_blk ?_|refine q7 ?_|refine q8 ?_|refine q9 ?_)
      refine w_condP rfl (fun hlt50 => ?_) (fun hlt50 => ?_)
      · have hlt50 : i < 50 := by omega
        generalize hkx : l[i] = d
        have hgk : l[i]? = some d := by rw [List.getElem?_eq_getElem hlt, hkx]
        obtain ⟨hkr, a, ha⟩ := hels d (List.mem_of_getElem? hgk)
        replace ha := ha.go hst
        have har := around_range d.wait 200 (by omega)
        repeat (first|refine q1 ?_|refine q2 ?_|refine q3 ?_|refine q4 ?_|refine q5 ?_|refine q6 ?_|refine w_seq ?_|refine w_region ?_|refine w_ops_nil ?_|refine w_skip ?_|refine w_block ?_|refine w_blk ?_|refine q7 ?_|refine q8 ?_|refine q9 ?_)
        refine w_idx hr rfl rfl (by omega) (by omega) rfl ?_
        refine w_fldE (hr.base hlt) (by decide) rfl rfl ?_
        refine w_loadEF (i := i) (off := 3) (y := d) (u := .int .i64 d.wait) hr rfl hgk rfl rfl rfl ?_
        refine w_callF (vs := [.int .i64 d.wait, .int .i64 200]) rfl (ref01_Around d.wait 200 h hkr (by omega)) rfl fun u h5 hs5 hu => ?_
        subst hu
        generalize aroundZ d.wait 200 = ar at har
        replace hst := hst.go hs5; replace hst2 := hst2.go hs5; replace hr := hr.go hs5; replace hc6 := hc6.go hs5; replace hrL := hrL.go hs5; replace hb := hb.go hs5; replace hsl := hsl.go hs5; replace ha := ha.go hs5
        repeat (first|refine q1 ?_|refine q2 ?_|refine q3 ?_|refine q4 ?_|refine q5 ?_|refine q6 ?_|refine w_seq ?_|refine w_region ?_|refine w_ops_nil ?_|refine w_skip ?_|refine w_block ?_|refine w_blk ?_|refine q7 ?_|refine q8 ?_|refine q9 ?_)
        generalize hnow : now + ar = now'
        refine w_cut (ι := Nat) (fun b9 => [(0, .int .i64 room), (1, vl), (5, .pointer (some ⟨p, 0, none⟩)), (6, .pointer (some ⟨b6, 0, none⟩)), (7, .int .i64 now'), (8, .int .i64 (i : Int)), (9, .pointer (some ⟨b9, 0, none⟩)), (10, .bool true)])
          (fun b9 w => ∃ h2 v' m' L', h2.w = w ∧ Step [] [51, 52, 44] h5 h2 ∧ Cell h2 44 b9 27 [.int .i64 (roomZ room), v'] ∧ Rd h2 0 El.ce v' L' ∧ Cm h2 p (roomZ room) m' ∧ BooksC m' L' ∧ L'.length ≤ L.length + 1 ∧ ∀ x ∈ L', x ∈ L ∨ (CutOf d.sl.1 a x.2 ∧ x.2.addrs.length ≤ 3)) ?_ ?_
        · refine d_begin none [51, 52, 44] (by kernel_rfl) fun g2 hsd => ?_
          have hss : Step [] [51, 52, 44] g2 g2 := Step.refl _ _ _
          have hsd0 : Step [] [51, 52, 44] h5 g2 := hsd.nil
          replace hr := hr.go hsd; replace hc6 := hc6.go hsd; replace hrL := hrL.go hsd; replace hb := hb.go hsd; replace hsl := hsl.go hsd; replace ha := ha.go hsd
          refine d_pure 0 calm_ret rfl (by kernel_rfl) rfl rfl ?_
          refine d_read 1 calm_ret rfl (by kernel_rfl) rfl  (fun h hs => r_load (us := [.int .i64 (roomZ room), vL]) (hc6.go hs) rfl rfl rfl (fun e => by cases e)) ?_
          refine d_pure 2 calm_ret rfl (by kernel_rfl) rfl rfl ?_; refine d_pure 3 calm_ret rfl (by kernel_rfl) rfl rfl ?_
          refine d_read 4 calm_ret rfl (by kernel_rfl) rfl  (fun h hs => r_idx (hr.go hs) rfl rfl (by omega) (by omega)) ?_
          refine d_read 5 calm_ret rfl (by kernel_rfl) rfl  (fun h hs => r_loadE (i := i) (y := d) (hr.go hs) rfl hgk rfl) ?_
          refine d_pure 6 calm_ret rfl (by kernel_rfl) rfl rfl ?_
          refine d_exec2 7 11 (by kernel_rfl) rfl rfl ?_ ?_
          · refine w_callF (vs := [.pointer (some ⟨p, 0, none⟩), .agg #[.int .i64 (roomZ room), vL], El.dv.val d, .int .i64 now']) rfl (law10_does p (roomZ room) m L vL d a now' g2 hb hrL hbk hsl (by omega) hz.1 ha (by omega)) rfl fun u k0 hk0 hR => ?_
            obtain ⟨v', m', L', rfl, hr', hb', hbk', hlen', hsub⟩ := hR
            have hss2 := hss.go hk0
            repeat (first|refine q1 ?_|refine q2 ?_|refine q3 ?_|refine q4 ?_|refine q5 ?_|refine q6 ?_|refine w_seq ?_|refine w_region ?_|refine w_ops_nil ?_|refine w_skip ?_|refine w_block ?_|refine w_blk ?_|refine q7 ?_|refine q8 ?_|refine q9 ?_)
            refine d_next (fun _ => ⟨k0, rfl, hss2⟩) ?_
            refine d_pure 8 calm_ret rfl (by kernel_rfl) rfl rfl ?_; refine d_pure 9 calm_ret rfl (by kernel_rfl) rfl rfl ?_; refine d_pure 10 calm_ret rfl (by kernel_rfl) rfl rfl ?_
            refine d_exec1 11 (by kernel_rfl) rfl ?_
            refine w_alloc 44 (vs := [.int .i64 0, .slice none 0 0]) rfl rfl fun k1 b9 hk1 hc9 => ?_
            replace hr' := hr'.go hk1; replace hb' := hb'.go hk1
            replace hss2 := hss2.go hk1
            repeat (first|refine q1 ?_|refine q2 ?_|refine q3 ?_|refine q4 ?_|refine q5 ?_|refine q6 ?_|refine w_seq ?_|refine w_region ?_|refine w_ops_nil ?_|refine w_skip ?_|refine w_block ?_|refine w_blk ?_|refine q7 ?_|refine q8 ?_|refine q9 ?_)
            refine d_next (fun _ => ⟨k1, rfl, hss2⟩) ?_
            refine d_exec1 12 (by kernel_rfl) rfl ?_
            refine w_store (us := [.int .i64 (roomZ room), v']) (vs' := [.int .i64 (roomZ room), v']) hc9 rfl rfl rfl rfl (oneTwo hr'.isSl.one) (show 0 + 2 ≤ 2 by decide) rfl fun k2 hkb2 hk2 hc9 => ?_
            replace hr' := hr'.go hk2; replace hb' := hb'.go hk2
            replace hss2 := hss2.go hk2
            repeat (first|refine q1 ?_|refine q2 ?_|refine q3 ?_|refine q4 ?_|refine q5 ?_|refine q6 ?_|refine w_seq ?_|refine w_region ?_|refine w_ops_nil ?_|refine w_skip ?_|refine w_block ?_|refine w_blk ?_|refine q7 ?_|refine q8 ?_|refine q9 ?_)
            refine d_next (fun _ => ⟨k2, rfl, hss2⟩) ?_
            refine d_pure 13 calm_ret rfl (by kernel_rfl) rfl rfl ?_
            refine d_done (by kernel_rfl) ?_
            exact w_meet b9 ⟨k2, v', m', L', rfl, hsd0.go hss2, hc9, hr', hb', hbk', hlen', hsub⟩ ⟨rfl, rfl, rfl, rfl, rfl, rfl, rfl, rfl, trivial⟩
          · refine w_alloc 44 (vs := [.int .i64 0, .slice none 0 0]) rfl rfl fun k1 b9 hk1 hc9 => ?_
            replace hrL := hrL.go hk1; replace hb := hb.go hk1; replace hsl := hsl.go hk1; replace ha := ha.go hk1
            replace hss := hss.go hk1
            repeat (first|refine q1 ?_|refine q2 ?_|refine q3 ?_|refine q4 ?_|refine q5 ?_|refine q6 ?_|refine w_seq ?_|refine w_region ?_|refine w_ops_nil ?_|refine w_skip ?_|refine w_block ?_|refine w_blk ?_|refine q7 ?_|refine q8 ?_|refine q9 ?_)
            refine d_next (fun _ => ⟨k1, rfl, hss⟩) ?_
            refine d_exec1 7 (by kernel_rfl) rfl ?_
            refine w_callF (vs := [.pointer (some ⟨p, 0, none⟩), .agg #[.int .i64 (roomZ room), vL], El.dv.val d, .int .i64 now']) rfl (law10_does p (roomZ room) m L vL d a now' k1 hb hrL hbk hsl (by omega) hz.1 ha (by omega)) rfl fun u k0 hk0 hR => ?_
            obtain ⟨v', m', L', rfl, hr', hb', hbk', hlen', hsub⟩ := hR
            replace hc9 := hc9.go hk0
            have hss2 := hss.go hk0
            repeat (first|refine q1 ?_|refine q2 ?_|refine q3 ?_|refine q4 ?_|refine q5 ?_|refine q6 ?_|refine w_seq ?_|refine w_region ?_|refine w_ops_nil ?_|refine w_skip ?_|refine w_block ?_|refine w_blk ?_|refine q7 ?_|refine q8 ?_|refine q9 ?_)
            refine d_next (fun _ => ⟨k0, rfl, hss2⟩) ?_
            refine d_pure 8 calm_ret rfl (by kernel_rfl) rfl rfl ?_; refine d_pure 9 calm_ret rfl (by kernel_rfl) rfl rfl ?_; refine d_pure 10 calm_ret rfl (by kernel_rfl) rfl rfl ?_
            refine d_exec1 12 (by kernel_rfl) rfl ?_
            refine w_store (us := [.int .i64 (roomZ room), v']) (vs' := [.int .i64 (roomZ room), v']) hc9 rfl rfl rfl rfl (oneTwo hr'.isSl.one) (show 0 + 2 ≤ 2 by decide) rfl fun k2 hkb2 hk2 hc9 => ?_
            replace hr' := hr'.go hk2; replace hb' := hb'.go hk2
            replace hss2 := hss2.go hk2
            repeat (first|refine q1 ?_|refine q2 ?_|refine q3 ?_|refine q4 ?_|refine q5 ?_|refine q6 ?_|refine w_seq ?_|refine w_region ?_|refine w_ops_nil ?_|refine w_skip ?_|refine w_block ?_|refine w_blk ?_|refine q7 ?_|refine q8 ?_|refine q9 ?_)
            refine d_next (fun _ => ⟨k2, rfl, hss2⟩) ?_
            refine d_pure 13 calm_ret rfl (by kernel_rfl) rfl rfl ?_
            refine d_done (by kernel_rfl) ?_
            exact w_meet b9 ⟨k2, v', m', L', rfl, hsd0.go hss2, hc9, hr', hb', hbk', hlen', hsub⟩ ⟨rfl, rfl, rfl, rfl, rfl, rfl, rfl, rfl, trivial⟩
        clear hrL hb hbk
        rintro b9 _ ⟨h6, v', m', L', rfl, hs6, hc9, hrL, hb, hbk, hlen', hsub⟩
        replace hst2 := hst2.trans (hs6.mono (by simp) (by simp))
        replace hst := hst.trans (hs6.mono (by simp) (by simp))
        replace hr := hr.go hs6; replace hc6 := hc6.go hs6; replace hsl := hsl.go hs6; replace ha := ha.go hs6
        replace hsl := hsl.next ha hsub
        clear hs6 ha hsub
        have hml := hbk.len
        repeat (first|refine q1 ?_|refine q2 ?_|refine q3 ?_|refine q4 ?_|refine q5 ?_|refine q6 ?_|refine w_seq ?_|refine w_region ?_|refine w_ops_nil ?_|refine w_skip ?_|refine w_block ?_|refine w_blk ?_|refine q7 ?_|refine q8 ?_|refine q9 ?_)
        refine w_loadS (us := [.int .i64 (roomZ room), v']) hc9 rfl rfl rfl rfl rfl ?_
        refine w_store (us := [.int .i64 (roomZ room), v']) (vs' := [.int .i64 (roomZ room), v']) hc6 rfl rfl rfl rfl (oneTwo hrL.isSl.one) (show 0 + 2 ≤ 2 by decide) rfl fun h7 hb7 hs7 hc6 => ?_
        replace hst := hst.go hs7; replace hst2 := hst2.go hs7; replace hr := hr.go hs7; replace hrL := hrL.go hs7; replace hb := hb.go hs7; replace hsl := hsl.go hs7
        clear hc9 hs7 hb7
        repeat (first|refine q1 ?_|refine q2 ?_|refine q3 ?_|refine q4 ?_|refine q5 ?_|refine q6 ?_|refine w_seq ?_|refine w_region ?_|refine w_ops_nil ?_|refine w_skip ?_|refine w_block ?_|refine w_blk ?_|refine q7 ?_|refine q8 ?_|refine q9 ?_)
        refine w_callF (vs := [.pointer (some ⟨p, 0, none⟩)]) rfl (Cache_Keys p (roomZ room) m' h7 hb (by omega)) rfl fun vk h8 hs8 hrk => ?_
        rw [hbk.keys] at hrk
        replace hst := hst.go hs8; replace hst2 := hst2.go hs8; replace hr := hr.go hs8; replace hc6 := hc6.go hs8; replace hrL := hrL.go hs8; replace hb := hb.go hs8; replace hsl := hsl.go hs8
        clear hs8
        have hkl : (L'.map (·.1)).length = L'.length := List.length_map _
        repeat (first|refine q1 ?_|refine q2 ?_|refine q3 ?_|refine q4 ?_|refine q5 ?_|refine q6 ?_|refine w_seq ?_|refine w_region ?_|refine w_ops_nil ?_|refine w_skip ?_|refine w_block ?_|refine w_blk ?_|refine q7 ?_|refine q8 ?_|refine q9 ?_)
        refine d_begin none [] (by kernel_rfl) fun g2 hsd => ?_
        replace hst := hst.go hsd; replace hst2 := hst2.go hsd; replace hr := hr.go hsd; replace hc6 := hc6.go hsd; replace hrL := hrL.go hsd; replace hb := hb.go hsd; replace hrk := hrk.go hsd; replace hsl := hsl.go hsd
        refine d_pure 0 calm_ret rfl (by kernel_rfl) rfl rfl ?_; refine d_pure 1 calm_ret rfl (by kernel_rfl) rfl rfl ?_; refine d_pure 2 calm_ret rfl (by kernel_rfl) rfl rfl ?_
        refine d_guard_pure 3 calm_ret rfl rfl rfl (by kernel_rfl) rfl rfl ?_
        refine d_readG 4 calm_ret rfl rfl rfl (by kernel_rfl) rfl  (fun h hs => r_lenSl hrk.isSl rfl) ?_
        refine d_readG 5 calm_ret rfl rfl rfl (by kernel_rfl) rfl  (fun h hs => r_fldA (by decide) rfl) ?_
        refine d_readG 6 calm_ret rfl rfl rfl (by kernel_rfl) rfl  (fun h hs => r_load1 (v := v') (hc6.go hs) rfl rfl rfl) ?_
        refine d_readG 7 calm_ret rfl rfl rfl (by kernel_rfl) rfl  (fun h hs => r_lenSl hrL.isSl rfl) ?_
        refine d_guard_pure 8 calm_ret rfl rfl rfl (by kernel_rfl) rfl rfl ?_
        refine d_known 59 (.bool false) rfl (congrArg Value.bool (decide_eq_false (fun h => h (by rw [hkl])))) ?_
        refine d_pure 9 calm_ret rfl (by kernel_rfl) rfl rfl ?_; refine d_pure 10 calm_ret rfl (by kernel_rfl) rfl rfl ?_
        refine d_guard_pure 11 calm_ret rfl rfl rfl (by kernel_rfl) rfl rfl ?_
        refine d_readG 13 calm_ret rfl rfl rfl (by kernel_rfl) rfl  (fun h hs => r_fldA (by decide) rfl) ?_
        refine d_readG 14 calm_ret rfl rfl rfl (by kernel_rfl) rfl  (fun h hs => r_load1 (v := v') (hc6.go hs) rfl rfl rfl) ?_
        refine d_readG 15 calm_ret rfl rfl rfl (by kernel_rfl) rfl  (fun h hs => r_lenSl hrL.isSl rfl) ?_
        refine d_exec1 12 (by kernel_rfl) rfl ?_
        refine w_guard_yes' rfl rfl rfl rfl ?_
        refine w_callF (vs := [.pointer (some ⟨p, 0, none⟩)]) rfl (Cache_Len p (roomZ room) m' g2 hb) rfl fun u h9 hs9 hu => ?_
        subst hu
        repeat (first|refine q1 ?_|refine q2 ?_|refine q3 ?_|refine q4 ?_|refine q5 ?_|refine q6 ?_|refine w_seq ?_|refine w_region ?_|refine w_ops_nil ?_|refine w_skip ?_|refine w_block ?_|refine w_blk ?_|refine q7 ?_|refine q8 ?_|refine q9 ?_)
        refine d_next (fun _ => ⟨h9, rfl, hs9⟩) ?_
        refine d_guard_pure 16 calm_ret rfl rfl rfl (by kernel_rfl) rfl rfl ?_
        refine d_known 67 (.bool false) rfl (congrArg Value.bool (decide_eq_false (fun h => h (by omega)))) ?_
        refine d_pure 17 calm_ret rfl (by kernel_rfl) rfl rfl ?_; refine d_pure 18 calm_ret rfl (by kernel_rfl) rfl rfl ?_
        refine d_guard_pure 19 calm_ret rfl rfl rfl (by kernel_rfl) rfl rfl ?_
        refine d_readG 21 calm_ret rfl rfl rfl (by kernel_rfl) rfl  (fun h hs => r_fldA (by decide) rfl) ?_
        refine d_readG 22 calm_ret rfl rfl rfl (by kernel_rfl) rfl  (fun h hs => r_load1 (v := .int .i64 (roomZ room)) (hc6.go hs) rfl rfl rfl) ?_
        refine d_exec1 20 (by kernel_rfl) rfl ?_
        refine w_guard_yes' rfl rfl rfl rfl ?_
        refine w_callF (vs := [.pointer (some ⟨p, 0, none⟩)]) rfl (Cache_Room p (roomZ room) m' h9 (hb.go hs9)) rfl fun u h10 hs10 hu => ?_
        subst hu
        have hsb := hs9.go hs10
        repeat (first|refine q1 ?_|refine q2 ?_|refine q3 ?_|refine q4 ?_|refine q5 ?_|refine q6 ?_|refine w_seq ?_|refine w_region ?_|refine w_ops_nil ?_|refine w_skip ?_|refine w_block ?_|refine w_blk ?_|refine q7 ?_|refine q8 ?_|refine q9 ?_)
        refine d_next (fun _ => ⟨h10, rfl, hsb⟩) ?_
        refine d_guard_pure 23 calm_ret rfl rfl rfl (by kernel_rfl) rfl rfl ?_
        refine d_known 74 (.bool false) rfl (congrArg Value.bool (decide_eq_false (fun h => h rfl))) ?_
        refine d_pure 24 calm_ret rfl (by kernel_rfl) rfl rfl ?_
        refine d_done (by kernel_rfl) ?_
        replace hst := hst.go hsb; replace hst2 := hst2.go hsb; replace hr := hr.go hsb; replace hc6 := hc6.go hsb; replace hrL := hrL.go hsb; replace hb := hb.go hsb; replace hrk := hrk.go hsb; replace hsl := hsl.go hsb
        repeat (first|refine q1 ?_|refine q2 ?_|refine q3 ?_|refine q4 ?_|refine q5 ?_|refine q6 ?_|refine w_seq ?_|refine w_region ?_|refine w_ops_nil ?_|refine w_skip ?_|refine w_blk ?_|refine q7 ?_|refine q8 ?_|refine q9 ?_)
        refine w_cut (ι := Unit) (fun _ => [(0, .int .i64 room), (1, vl), (5, .pointer (some ⟨p, 0, none⟩)), (6, .pointer (some ⟨b6, 0, none⟩)), (7, .int .i64 now'), (8, .int .i64 (i : Int))])
          (fun _ w => ∃ h2 : G, h2.w = w ∧ Step [] [] h10 h2) ?_ ?_
        · repeat (first|refine q1 ?_|refine q2 ?_|refine q3 ?_|refine q4 ?_|refine q5 ?_|refine q6 ?_|refine w_seq ?_|refine w_region ?_|refine w_ops_nil ?_|refine w_skip ?_|refine w_block ?_|refine w_blk ?_|refine q7 ?_|refine q8 ?_|refine q9 ?_)
          refine w_loop (ι := Nat) (fun j => [(0, .int .i64 room), (1, vl), (5, .pointer (some ⟨p, 0, none⟩)), (6, .pointer (some ⟨b6, 0, none⟩)), (7, .int .i64 now'), (8, .int .i64 (i : Int)), (11, vk), (12, .int .i64 (j : Int))])
            (fun j w => ∃ h2 : G, h2.w = w ∧ Step [] [] h10 h2 ∧ j ≤ L'.length) (fun j => L'.length - j) 0 ⟨h10, rfl, Step.refl _ _ _, by omega⟩ ⟨rfl, rfl, rfl, rfl, rfl, rfl, rfl, rfl, trivial⟩ ?_
          rintro j _ ⟨k0, rfl, hk0, hj⟩
          replace hc6 := hc6.go hk0; replace hrL := hrL.go hk0; replace hrk := hrk.go hk0
          repeat (first|refine q1 ?_|refine q2 ?_|refine q3 ?_|refine q4 ?_|refine q5 ?_|refine q6 ?_|refine w_seq ?_|refine w_region ?_|refine w_ops_nil ?_|refine w_skip ?_|refine w_block ?_|refine w_blk ?_|refine q7 ?_|refine q8 ?_|refine q9 ?_)
          refine w_lenSl hrk.isSl rfl rfl ?_
          rw [hkl]
          repeat (first|refine q1 ?_|refine q2 ?_|refine q3 ?_|refine q4 ?_|refine q5 ?_|refine q6 ?_|refine w_seq ?_|refine w_region ?_|refine w_ops_nil ?_|refine w_skip ?_|refine w_block ?_|refine w_blk ?_|refine q7 ?_|refine q8 ?_|refine q9 ?_)
          refine w_condP rfl (fun hlt2 => ?_) (fun hlt2 => ?_)
          · have hlt2 : j < L'.length := by omega
            have hlt3 : j < (L'.map (·.1)).length := by omega
            have hgj : L'[j]? = some L'[j] := List.getElem?_eq_getElem hlt2
            have hgk2 : (L'.map (·.1))[j]? = some L'[j].1 := by rw [List.getElem?_map, hgj]; rfl
            repeat (first|refine q1 ?_|refine q2 ?_|refine q3 ?_|refine q4 ?_|refine q5 ?_|refine q6 ?_|refine w_seq ?_|refine w_region ?_|refine w_ops_nil ?_|refine w_skip ?_|refine w_block ?_|refine w_blk ?_|refine q7 ?_|refine q8 ?_|refine q9 ?_)
            refine d_begin none [] (by kernel_rfl) fun g3 hsd3 => ?_
            have hk1 := hk0.go hsd3
            replace hc6 := hc6.go hsd3; replace hrL := hrL.go hsd3; replace hrk := hrk.go hsd3
            refine d_pure 0 calm_ret rfl (by kernel_rfl) rfl rfl ?_; refine d_pure 1 calm_ret rfl (by kernel_rfl) rfl rfl ?_
            refine d_read 2 calm_ret rfl (by kernel_rfl) rfl  (fun h hs => r_idx (hrk.go hs) rfl rfl (by omega) (by omega)) ?_
            refine d_read 3 calm_ret rfl (by kernel_rfl) rfl  (fun h hs => r_fldE (hrk.base hlt3) (by decide) rfl) ?_
            refine d_read 4 calm_ret rfl (by kernel_rfl) rfl  (fun h hs => r_loadEF (i := j) (off := 0) (y := L'[j].1) (u := str L'[j].1.name) (hrk.go hs) rfl hgk2 rfl rfl) ?_
            refine d_read 5 calm_ret rfl (by kernel_rfl) rfl  (fun h hs => r_fldA (by decide) rfl) ?_
            refine d_read 6 calm_ret rfl (by kernel_rfl) rfl  (fun h hs => r_load1 (v := v') (hc6.go hs) rfl rfl rfl) ?_
            refine d_pure 7 calm_ret rfl (by kernel_rfl) rfl rfl ?_
            refine d_read 8 calm_ret rfl (by kernel_rfl) rfl  (fun h hs => r_idx (hrL.go hs) rfl rfl (by omega) (by omega)) ?_
            refine d_read 9 calm_ret rfl (by kernel_rfl) rfl  (fun h hs => r_fldE (hrL.base hlt2) (by decide) rfl) ?_
            refine d_read 10 calm_ret rfl (by kernel_rfl) rfl  (fun h hs => r_loadEF (i := j) (off := 0) (y := L'[j]) (u := str L'[j].1.name) (hrL.go hs) rfl hgj rfl rfl) ?_
            refine d_pure 11 calm_ret rfl (by kernel_rfl) rfl rfl ?_; refine d_pure 12 calm_ret rfl (by kernel_rfl) rfl rfl ?_
            refine d_known 94 (.bool false) rfl (congrArg Value.bool (decide_eq_false (fun h => h rfl))) ?_
            refine d_guard_pure 13 calm_ret rfl rfl rfl (by kernel_rfl) rfl rfl ?_; refine d_guard_pure 14 calm_ret rfl rfl rfl (by kernel_rfl) rfl rfl ?_
            refine d_readG 15 calm_ret rfl rfl rfl (by kernel_rfl) rfl  (fun h hs => r_idx (hrk.go hs) rfl rfl (by omega) (by omega)) ?_
            refine d_readG 16 calm_ret rfl rfl rfl (by kernel_rfl) rfl  (fun h hs => r_fldE (hrk.base hlt3) (by decide) rfl) ?_
            refine d_readG 17 calm_ret rfl rfl rfl (by kernel_rfl) rfl  (fun h hs => r_loadEF (i := j) (off := 1) (y := L'[j].1) (u := .int .i64 L'[j].1.type_) (hrk.go hs) rfl hgk2 rfl rfl) ?_
            refine d_readG 18 calm_ret rfl rfl rfl (by kernel_rfl) rfl  (fun h hs => r_fldA (by decide) rfl) ?_
            refine d_readG 19 calm_ret rfl rfl rfl (by kernel_rfl) rfl  (fun h hs => r_load1 (v := v') (hc6.go hs) rfl rfl rfl) ?_
            refine d_guard_pure 20 calm_ret rfl rfl rfl (by kernel_rfl) rfl rfl ?_
            refine d_readG 21 calm_ret rfl rfl rfl (by kernel_rfl) rfl  (fun h hs => r_idx (hrL.go hs) rfl rfl (by omega) (by omega)) ?_
            refine d_readG 22 calm_ret rfl rfl rfl (by kernel_rfl) rfl  (fun h hs => r_fldE (hrL.base hlt2) (by decide) rfl) ?_
            refine d_readG 23 calm_ret rfl rfl rfl (by kernel_rfl) rfl  (fun h hs => r_loadEF (i := j) (off := 1) (y := L'[j]) (u := .int .i64 L'[j].1.type_) (hrL.go hs) rfl hgj rfl rfl) ?_
            refine d_guard_pure 24 calm_ret rfl rfl rfl (by kernel_rfl) rfl rfl ?_
            refine d_known 106 (.bool false) rfl (congrArg Value.bool (decide_eq_false (fun h => h rfl))) ?_
            refine d_pure 25 calm_ret rfl (by kernel_rfl) rfl rfl ?_
            refine d_done (by kernel_rfl) ?_
            repeat (first|refine q1 ?_|refine q2 ?_|refine q3 ?_|refine q4 ?_|refine q5 ?_|refine q6 ?_|refine w_seq ?_|refine w_region ?_|refine w_ops_nil ?_|refine w_skip ?_|refine w_block ?_|refine w_blk ?_|refine q7 ?_|refine q8 ?_|refine q9 ?_)
            exact w_again (j + 1) (by omega) ⟨g3, rfl, hk1, by omega⟩ ⟨rfl, rfl, rfl, rfl, rfl, rfl, rfl, rfl, trivial⟩
          · repeat (first|refine q1 ?_|refine q2 ?_|refine q3 ?_|refine q4 ?_|refine q5 ?_|refine q6 ?_|refine w_seq ?_|refine w_region ?_|refine w_ops_nil ?_|refine w_skip ?_|refine w_block ?_|refine w_blk ?_|refine q7 ?_|refine q8 ?_|refine q9 ?_)
            exact w_meet () ⟨k0, rfl, hk0⟩ ⟨rfl, rfl, rfl, rfl, rfl, rfl, trivial⟩
        rintro _ _ ⟨k0, rfl, hk0⟩
        replace hst := hst.go hk0; replace hst2 := hst2.go hk0; replace hr := hr.go hk0; replace hc6 := hc6.go hk0; replace hrL := hrL.go hk0; replace hb := hb.go hk0; replace hsl := hsl.go hk0
        repeat (first|refine q1 ?_|refine q2 ?_|refine q3 ?_|refine q4 ?_|refine q5 ?_|refine q6 ?_|refine w_seq ?_|refine w_region ?_|refine w_ops_nil ?_|refine w_skip ?_|refine w_block ?_|refine w_blk ?_|refine q7 ?_|refine q8 ?_|refine q9 ?_)
        exact w_again (i + 1, now') (by dsimp only; omega) ⟨k0, m', L', v', rfl, hst2, hc6, hrL, hb, hbk, hsl, by dsimp only; omega, by dsimp only; omega, by dsimp only; omega, by dsimp only; omega, by dsimp only; omega⟩ ⟨rfl, rfl, rfl, rfl, rfl, rfl, trivial⟩
      · repeat (first|refine q1 ?_|refine q2 ?_|refine q3 ?_|refine q4 ?_|refine q5 ?_|refine q6 ?_|refine w_seq ?_|refine w_region ?_|refine w_ops_nil ?_|refine w_skip ?_|refine w_block ?_|refine w_blk ?_|refine q7 ?_|refine q8 ?_|refine q9 ?_)
        exact w_meet () ⟨h, rfl, hst⟩ trivial
    · repeat (first|refine q1 ?_|refine q2 ?_|refine q3 ?_|refine q4 ?_|refine q5 ?_|refine q6 ?_|refine w_seq ?_|refine w_region ?_|refine w_ops_nil ?_|refine w_skip ?_|refine w_block ?_|refine w_blk ?_|refine q7 ?_|refine q8 ?_|refine q9 ?_)
      exact w_meet () ⟨h, rfl, hst⟩ trivial
  rintro _ _ ⟨h, rfl, hst⟩
  repeat (first|refine q1 ?_|refine q2 ?_|refine q3 ?_|refine q4 ?_|refine q5 ?_|refine q6 ?_|refine w_seq ?_|refine w_region ?_|refine w_ops_nil ?_|refine w_skip ?_|refine w_block ?_|refine w_blk ?_|refine q7 ?_|refine q8 ?_|refine q9 ?_)
  refine w_callF rfl (law10_lives h) rfl fun u k5 ks5 hu => ?_
  subst hu
  repeat (first|refine q1 ?_|refine q2 ?_|refine q3 ?_|refine q4 ?_|refine q5 ?_|refine q6 ?_|refine w_seq ?_|refine w_region ?_|refine w_ops_nil ?_|refine w_skip ?_|refine w_block ?_|refine w_blk ?_|refine q7 ?_|refine q8 ?_|refine q9 ?_)
  exact w_retG (res1 rfl rfl) (hst.go ks5) fun h' _ => rfl
end Go.Proofs.Ytfkdfnookacgiaa
