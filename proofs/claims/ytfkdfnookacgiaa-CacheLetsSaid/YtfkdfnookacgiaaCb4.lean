/- Caches: the law of what is let go, as a contract. No statement of the seat is proved here. -/
import Derived.Test.YtfkdfnookacgiaaCb3
import Derived.Test.YtfkdfnookacgiaaCa7
set_option linter.unusedVariables false
set_option linter.unusedSimpArgs false
namespace Go.Proofs.Ytfkdfnookacgiaa
open Go
attribute [local irreducible] Wp
set_option maxRecDepth 4000 in
theorem law10_Lets (room : Int) (l : List Int) (vl : Value) (g : G) (hr : Rdx g El.int vl l) (hels : ∀ x ∈ l, -9223372036854775808 ≤ x ∧ x ≤ 9223372036854775807) :
    Fn Try.prog 3 [.int .i64 room, vl] g [] fun u _ => u = .bool true := by
  refine enterG [] [51, 52, 43, 44, 46, 47] Try.func3 rfl Try.ntmps3 rfl (by simp) fun g1 hv ho => ?_
  replace hr := hr.seen hv ho
  obtain ⟨cl, hcl, hr⟩ := hr
  have hlm := hr.isSl.le
  have hz : 1 ≤ roomZ room ∧ roomZ room ≤ 64 := by unfold roomZ; omega
  repeat (first|refine q1 ?_|refine q2 ?_|refine q3 ?_|refine q4 ?_|refine q5 ?_|refine q6 ?_|refine w_seq ?_|refine w_region ?_|refine w_ops_nil ?_|refine w_skip ?_|refine w_block ?_|refine w_blk ?_|refine q7 ?_|refine q8 ?_|refine q9 ?_)
  refine w_callF (vs := [.int .i64 room]) rfl (cache_New room g1) rfl fun u h1 hs1 hR => ?_
  obtain ⟨p, rfl, hb⟩ := hR
  have hst : Step [] [51, 52, 43, 44, 46, 47] g1 h1 := hs1.mono (by simp) (by simp)
  replace hr := hr.go hs1
  repeat (first|refine q1 ?_|refine q2 ?_|refine q3 ?_|refine q4 ?_|refine q5 ?_|refine q6 ?_|refine w_seq ?_|refine w_region ?_|refine w_ops_nil ?_|refine w_skip ?_|refine w_block ?_|refine w_blk ?_|refine q7 ?_|refine q8 ?_|refine q9 ?_)
  refine w_ptrEqNil rfl rfl rfl ?_
  repeat (first|refine q1 ?_|refine q2 ?_|refine q3 ?_|refine q4 ?_|refine q5 ?_|refine q6 ?_|refine w_seq ?_|refine w_region ?_|refine w_ops_nil ?_|refine w_skip ?_|refine w_block ?_|refine w_blk ?_|refine q7 ?_|refine q8 ?_|refine q9 ?_)
  refine w_cond rfl (fun h => by cases h) (fun _ => ?_)
  repeat (first|refine q1 ?_|refine q2 ?_|refine q3 ?_|refine q4 ?_|refine q5 ?_|refine q6 ?_|refine w_seq ?_|refine w_region ?_|refine w_ops_nil ?_|refine w_skip ?_|refine w_block ?_|refine w_blk ?_|refine q7 ?_|refine q8 ?_|refine q9 ?_)
  refine w_callF (vs := [.int .i64 room]) rfl (ref10_New room h1) rfl fun u h2 hs2 hu => ?_
  subst hu
  replace hst := hst.go hs2; replace hr := hr.go hs2; replace hb := hb.go hs2
  repeat (first|refine q1 ?_|refine q2 ?_|refine q3 ?_|refine q4 ?_|refine q5 ?_|refine q6 ?_|refine w_seq ?_|refine w_region ?_|refine w_ops_nil ?_|refine w_skip ?_|refine w_block ?_|refine w_blk ?_|refine q7 ?_|refine q8 ?_|refine q9 ?_)
  refine w_alloc 43 (vs := [.int .i64 0, .slice none 0 0]) rfl rfl fun h3 b6 hs3 hc6 => ?_
  replace hst := hst.go hs3; replace hr := hr.go hs3; replace hb := hb.go hs3
  refine w_store (us := [.int .i64 (roomZ room), .slice none 0 0]) (vs' := [.int .i64 (roomZ room), .slice none 0 0]) hc6 rfl rfl rfl rfl (oneTwo rfl) (show 0 + 2 ≤ 2 by decide) rfl fun h4 hb4 hs4 hc6 => ?_
  replace hst := hst.go hs4; replace hr := hr.go hs4; replace hb := hb.go hs4
  clear hs1 hs2 hs3 hs4 hb4
  repeat (first|refine q1 ?_|refine q2 ?_|refine q3 ?_|refine q4 ?_|refine q5 ?_|refine q6 ?_|refine w_seq ?_|refine w_region ?_|refine w_ops_nil ?_|refine w_skip ?_|refine w_blk ?_|refine q7 ?_|refine q8 ?_|refine q9 ?_)
  refine w_cut (ι := Unit) (fun _ => []) (fun _ w => ∃ h : G, h.w = w ∧ Step [] [51, 52, 43, 44, 46, 47] g1 h) ?_ ?_
  · repeat (first|refine q1 ?_|refine q2 ?_|refine q3 ?_|refine q4 ?_|refine q5 ?_|refine q6 ?_|refine w_seq ?_|refine w_region ?_|refine w_ops_nil ?_|refine w_skip ?_|refine w_block ?_|refine w_blk ?_|refine q7 ?_|refine q8 ?_|refine q9 ?_)
    refine w_loop (ι := Nat) (fun i => [(0, .int .i64 room), (1, vl), (5, .pointer (some ⟨p, 0, none⟩)), (6, .pointer (some ⟨b6, 0, none⟩)), (7, .int .i64 (i : Int))])
      (fun i w => ∃ h m L vL, h.w = w ∧ Step [] [51, 52, 43, 44, 46, 47] h4 h ∧ Cell h 43 b6 27 [.int .i64 (roomZ room), vL] ∧ Rd h 0 El.ce vL L ∧ Cm h p (roomZ room) m ∧ BooksC m L ∧ i ≤ l.length ∧ i ≤ 70 ∧ (L.length : Int) ≤ roomZ room ∧ ∀ x ∈ L, 1 ≤ x.2.till ∧ ∃ j, j < i ∧ x.1 = kI j)
      (fun i => l.length - i) 0 ⟨h4, [], [], _, rfl, Step.refl _ _ _, hc6, Rd.nil _ _ _ none 0 (by decide), hb, ⟨List.Perm.refl _, List.nodup_nil, List.Pairwise.nil⟩, by omega, by omega, by simp only [List.length_nil]; omega, by simp⟩ ⟨rfl, rfl, rfl, rfl, rfl, trivial⟩ ?_
    clear hc6 hb
    rintro i _ ⟨h, m, L, vL, rfl, hst2, hc6, hrL, hb, hbk, hi, hi70, hLr, hin⟩
    replace hst := hst.go hst2; replace hr := hr.go hst2
    have hl1000 : L.length ≤ 1000 := by omega
    have hml : m.length ≤ 1000 := by rw [hbk.len]; exact hl1000
    repeat (first|refine q1 ?_|refine q2 ?_|refine q3 ?_|refine q4 ?_|refine q5 ?_|refine q6 ?_|refine w_seq ?_|refine w_region ?_|refine w_ops_nil ?_|refine w_skip ?_|refine w_block ?_|refine w_blk ?_|refine q7 ?_|refine q8 ?_|refine q9 ?_)
    refine w_lenSl hr.isSl rfl rfl ?_
    repeat (first|refine q1 ?_|refine q2 ?_|refine q3 ?_|refine q4 ?_|refine q5 ?_|refine q6 ?_|refine w_seq ?_|refine w_region ?_|refine w_ops_nil ?_|refine w_skip ?_|refine w_block ?_|refine w_blk ?_|refine q7 ?_|refine q8 ?_|refine q9 ?_)
    refine w_splitP 27 rfl (fun hlt => ?_) (fun hlt => ?_)
    · have hlt : i < l.length := by omega
      repeat (first|refine q1 ?_|refine q2 ?_|refine q3 ?_|refine q4 ?_|refine q5 ?_|refine q6 ?_|refine w_seq ?_|refine w_region ?_|refine w_ops_nil ?_|refine w_skip ?_|refine w_block ?_|refine w_blk ?_|refine q7 ?_|refine q8 ?_|refine q9 ?_)
      refine w_condP rfl (fun hlt70 => ?_) (fun hlt70 => ?_)
      · have hlt70 : i < 70 := by omega
        generalize hkx : l[i] = kx
        have hgk : l[i]? = some kx := by rw [List.getElem?_eq_getElem hlt, hkx]
        have hkr := hels kx (List.mem_of_getElem? hgk)
        have har := around_range kx 100000 (by omega)
        have hdec : ∀ x ∈ L, ¬ kI i = x.1 := fun x hx e => by
          obtain ⟨_, j, hj, e2⟩ := hin x hx
          have := kI_inj (by omega) (by omega) (e.trans e2)
          omega
        have hfind : ¬ 0 ≤ findC (kI i) L := fun h => by
          have h1 := (findC_some (kI i) L).1 h
          rw [mgetC_none.2 hdec] at h1; cases h1
        have hlow : (⟨lowB (decB i), 1⟩ : Ck) = kI i := by rw [lowB_dec (by omega)]; rfl
        have hdl := decB_len i
        repeat (first|refine q1 ?_|refine q2 ?_|refine q3 ?_|refine q4 ?_|refine q5 ?_|refine q6 ?_|refine w_seq ?_|refine w_region ?_|refine w_ops_nil ?_|refine w_skip ?_|refine w_block ?_|refine w_blk ?_|refine q7 ?_|refine q8 ?_|refine q9 ?_)
        refine w_idx hr rfl rfl (by omega) (by omega) rfl ?_
        refine w_loadE (i := i) (y := kx) hr rfl hgk rfl rfl ?_
        refine w_callF (vs := [.int .i64 kx, .int .i64 100000]) rfl (ref01_Around kx 100000 h hkr (by omega)) rfl fun u h5 hs5 hu => ?_
        subst hu
        generalize aroundZ kx 100000 = ar at har
        replace hst := hst.go hs5; replace hst2 := hst2.go hs5; replace hr := hr.go hs5; replace hc6 := hc6.go hs5; replace hrL := hrL.go hs5; replace hb := hb.go hs5
        repeat (first|refine q1 ?_|refine q2 ?_|refine q3 ?_|refine q4 ?_|refine q5 ?_|refine q6 ?_|refine w_seq ?_|refine w_region ?_|refine w_ops_nil ?_|refine w_skip ?_|refine w_block ?_|refine w_blk ?_|refine q7 ?_|refine q8 ?_|refine q9 ?_)
        obtain ⟨tt, htt⟩ : ∃ tt, 1 + ar = tt := ⟨_, rfl⟩
        refine w_known 8 (.int .i64 tt) rfl (congrArg (Value.int .i64) htt) ?_
        repeat (first|refine q1 ?_|refine q2 ?_|refine q3 ?_|refine q4 ?_|refine q5 ?_|refine q6 ?_|refine w_seq ?_|refine w_region ?_|refine w_ops_nil ?_|refine w_skip ?_|refine w_block ?_|refine w_blk ?_|refine q7 ?_|refine q8 ?_|refine q9 ?_)
        refine w_callF (vs := [.int .i64 (i : Int)]) rfl (ref01_Dec i h5 (by omega)) rfl fun u h6 hs6 hu => ?_
        subst hu
        replace hst := hst.go hs6; replace hst2 := hst2.go hs6; replace hr := hr.go hs6; replace hc6 := hc6.go hs6; replace hrL := hrL.go hs6; replace hb := hb.go hs6
        repeat (first|refine q1 ?_|refine q2 ?_|refine q3 ?_|refine q4 ?_|refine q5 ?_|refine q6 ?_|refine w_seq ?_|refine w_region ?_|refine w_ops_nil ?_|refine w_skip ?_|refine w_block ?_|refine w_blk ?_|refine q7 ?_|refine q8 ?_|refine q9 ?_)
        refine w_fldA (by decide) rfl rfl ?_
        refine w_load1 (v := vL) hc6 rfl rfl rfl rfl ?_
        refine w_lenSl hrL.isSl rfl rfl ?_
        refine w_fldA (by decide) rfl rfl ?_
        refine w_load1 (v := .int .i64 (roomZ room)) hc6 rfl rfl rfl rfl ?_
        repeat (first|refine q1 ?_|refine q2 ?_|refine q3 ?_|refine q4 ?_|refine q5 ?_|refine q6 ?_|refine w_seq ?_|refine w_region ?_|refine w_ops_nil ?_|refine w_skip ?_|refine w_block ?_|refine w_blk ?_|refine q7 ?_|refine q8 ?_|refine q9 ?_)
        obtain ⟨full, hfull⟩ : ∃ f : Bool, decide ((L.length : Int) = roomZ room) = f := ⟨_, rfl⟩
        refine w_known 10 (.bool full) rfl (congrArg Value.bool hfull) ?_
        repeat (first|refine q1 ?_|refine q2 ?_|refine q3 ?_|refine q4 ?_|refine q5 ?_|refine q6 ?_|refine w_seq ?_|refine w_region ?_|refine w_ops_nil ?_|refine w_skip ?_|refine w_block ?_|refine w_blk ?_|refine q7 ?_|refine q8 ?_|refine q9 ?_)
        refine w_loadS (us := [.int .i64 (roomZ room), vL]) hc6 rfl rfl rfl rfl rfl ?_
        repeat (first|refine q1 ?_|refine q2 ?_|refine q3 ?_|refine q4 ?_|refine q5 ?_|refine q6 ?_|refine w_seq ?_|refine w_region ?_|refine w_ops_nil ?_|refine w_skip ?_|refine w_block ?_|refine w_blk ?_|refine q7 ?_|refine q8 ?_|refine q9 ?_)
        refine w_callF (vs := [.agg #[.int .i64 (roomZ room), vL], str (decB i), .int .i64 1, .slice none 0 0, .int .i64 tt, .int .i64 0]) rfl
          (ref10_Put (roomZ room) L vL (decB i) 1 [] (.slice none 0 0) rfl ⟨none, 0, rfl, Nat.le_refl _, by decide⟩ tt 0 (kI i) hlow h6 hrL hl1000 hbk.nd2 hz.1 (by omega) (by omega)) rfl fun u k1 hk1 hR => ?_
        obtain ⟨v', L', gone, lt, rfl, hrL', hput⟩ := hR
        rw [if_neg (by omega)] at hput
        obtain ⟨hins, hgone, hlt2⟩ := hput
        have hpre2 : (preLC (roomZ room) 0 (kI i) L).2 = if full then (leastOfC L, true) else (ceZ, false) := by
          unfold preLC
          rw [if_neg hfind]
          cases full with
          | true =>
            rw [if_pos (of_decide_eq_true hfull)]
            refine mkRoomLC_fresh (fun e => ?_) (fun x hx => (hin x hx).1)
            have := of_decide_eq_true hfull
            rw [e] at this; simp only [List.length_nil] at this; omega
          | false => rw [if_neg (of_decide_eq_false hfull)]; rfl
        have hlf : lt = full := by rw [hlt2, hpre2]; cases full <;> rfl
        have hgf : full = true → gone = leastOfC L := fun e => by rw [hgone, hpre2, e]; rfl
        have hpreC := (hbk.pre (roomZ room) 0 (kI i)).1
        rw [← hgone, ← hlt2, hlf] at hpreC
        subst hlf
        replace hst := hst.go hk1; replace hst2 := hst2.go hk1; replace hr := hr.go hk1; replace hc6 := hc6.go hk1; replace hb := hb.go hk1; replace hrL := hrL.go hk1
        repeat (first|refine q1 ?_|refine q2 ?_|refine q3 ?_|refine q4 ?_|refine q5 ?_|refine q6 ?_|refine w_seq ?_|refine w_region ?_|refine w_ops_nil ?_|refine w_skip ?_|refine w_block ?_|refine w_blk ?_|refine q7 ?_|refine q8 ?_|refine q9 ?_)
        refine w_alloc 44 (vs := [.int .i64 0, .slice none 0 0]) rfl rfl fun k2 b11 hk2 hc11 => ?_
        replace hst := hst.go hk2; replace hst2 := hst2.go hk2; replace hr := hr.go hk2; replace hc6 := hc6.go hk2; replace hrL := hrL.go hk2; replace hrL' := hrL'.go hk2; replace hb := hb.go hk2
        refine w_alloc 46 (vs := El.ce.enc ceZ) rfl rfl fun k3 b12 hk3 hc12 => ?_
        replace hst := hst.go hk3; replace hst2 := hst2.go hk3; replace hr := hr.go hk3; replace hc6 := hc6.go hk3; replace hrL := hrL.go hk3; replace hrL' := hrL'.go hk3; replace hb := hb.go hk3; replace hc11 := hc11.go hk3
        refine w_store (us := [.int .i64 (roomZ room), v']) (vs' := [.int .i64 (roomZ room), v']) hc11 rfl rfl rfl rfl (oneTwo hrL'.isSl.one) (show 0 + 2 ≤ 2 by decide) rfl fun k4 hkb4 hk4 hc11 => ?_
        replace hst := hst.go hk4; replace hst2 := hst2.go hk4; replace hr := hr.go hk4; replace hc6 := hc6.go hk4; replace hrL := hrL.go hk4; replace hrL' := hrL'.go hk4; replace hb := hb.go hk4; replace hc12 := hc12.go hk4
        refine w_store (us := El.ce.enc gone) (vs' := El.ce.enc gone) hc12 rfl rfl rfl rfl (El.ce.flat _) (show 0 + 4 ≤ 4 by decide) rfl fun k5 hkb5 hk5 hc12 => ?_
        replace hst := hst.go hk5; replace hst2 := hst2.go hk5; replace hr := hr.go hk5; replace hc6 := hc6.go hk5; replace hrL := hrL.go hk5; replace hrL' := hrL'.go hk5; replace hb := hb.go hk5; replace hc11 := hc11.go hk5
        clear hk1 hk2 hk3 hk4 hk5 hkb4 hkb5
        repeat (first|refine q1 ?_|refine q2 ?_|refine q3 ?_|refine q4 ?_|refine q5 ?_|refine q6 ?_|refine w_seq ?_|refine w_region ?_|refine w_ops_nil ?_|refine w_skip ?_|refine w_block ?_|refine w_blk ?_|refine q7 ?_|refine q8 ?_|refine q9 ?_)
        refine w_callF (vs := [.pointer (some ⟨p, 0, none⟩), str (decB i), .int .i64 1, .slice none 0 0, .int .i64 tt, .int .i64 0]) rfl
          (Cache_Put p (roomZ room) m (decB i) 1 [] (.slice none 0 0) tt 0 k5 hb hbk.nd hml hz.1 (by omega) ⟨0, by omega, Rd.nil _ _ _ none 0 (by decide)⟩ (by simp) (by omega) (kI i) hlow) rfl fun u k7 hk7 hR => ?_
        unfold PutC at hR
        rw [if_neg (by omega)] at hR
        obtain ⟨cv, hca, hct, rfl, hb⟩ := hR
        have hbk' := hbk.put (roomZ room) 0 (kI i) cv _ (show av cv = av _ by unfold av; rw [hca, hct]) hins
        have hpl := insC_perm hins
        have hpr := preLC_room (k := kI i) (now := 0) hz.1 hLr
        have hL'r : (L'.length : Int) ≤ roomZ room := by have := hpl.length_eq; simp only [List.length_cons] at this; omega
        have hin' : ∀ x ∈ L', 1 ≤ x.2.till ∧ ∃ j, j < i + 1 ∧ x.1 = kI j := fun x hx => by
          rcases insC_sub hins x hx with rfl | hx
          · exact ⟨by dsimp only; omega, i, by omega, rfl⟩
          · obtain ⟨a1, j, a2, a3⟩ := hin x hx
            exact ⟨a1, j, by omega, a3⟩
        rw [hpreC]
        generalize mput (kI i) cv (preC (roomZ room) 0 (kI i) m).1 = m' at hb hbk'
        replace hst := hst.go hk7; replace hst2 := hst2.go hk7; replace hr := hr.go hk7; replace hc6 := hc6.go hk7; replace hrL := hrL.go hk7; replace hrL' := hrL'.go hk7; replace hc11 := hc11.go hk7; replace hc12 := hc12.go hk7
        clear hk7
        repeat (first|refine q1 ?_|refine q2 ?_|refine q3 ?_|refine q4 ?_|refine q5 ?_|refine q6 ?_|refine w_seq ?_|refine w_region ?_|refine w_ops_nil ?_|refine w_skip ?_|refine w_block ?_|refine w_blk ?_|refine q7 ?_|refine q8 ?_|refine q9 ?_)
        refine w_alloc 47 (vs := El.ck.enc Ck.zero) rfl rfl fun k8 b14 hk8 hc14 => ?_
        replace hst := hst.go hk8; replace hst2 := hst2.go hk8; replace hr := hr.go hk8; replace hc6 := hc6.go hk8; replace hrL := hrL.go hk8; replace hrL' := hrL'.go hk8; replace hb := hb.go hk8; replace hc11 := hc11.go hk8; replace hc12 := hc12.go hk8
        refine w_store (us := El.ck.enc gone.1) (vs' := El.ck.enc gone.1) hc14 rfl rfl rfl rfl (El.ck.flat _) (show 0 + 2 ≤ 2 by decide) rfl fun k9 hkb9 hk9 hc14 => ?_
        replace hst := hst.go hk9; replace hst2 := hst2.go hk9; replace hr := hr.go hk9; replace hc6 := hc6.go hk9; replace hrL := hrL.go hk9; replace hrL' := hrL'.go hk9; replace hb := hb.go hk9; replace hc11 := hc11.go hk9; replace hc12 := hc12.go hk9
        clear hk8 hk9 hkb9
        repeat (first|refine q1 ?_|refine q2 ?_|refine q3 ?_|refine q4 ?_|refine q5 ?_|refine q6 ?_|refine w_seq ?_|refine w_region ?_|refine w_ops_nil ?_|refine w_skip ?_|refine w_block ?_|refine w_blk ?_|refine q7 ?_|refine q8 ?_|refine q9 ?_)
        refine w_known 13 (.bool lt) rfl rfl ?_
        refine w_known 15 (.bool lt) rfl rfl ?_
        repeat (first|refine q1 ?_|refine q2 ?_|refine q3 ?_|refine q4 ?_|refine q5 ?_|refine q6 ?_|refine w_seq ?_|refine w_region ?_|refine w_ops_nil ?_|refine w_skip ?_|refine w_block ?_|refine w_blk ?_|refine q7 ?_|refine q8 ?_|refine q9 ?_)
        refine w_neBool rfl rfl rfl ?_
        refine w_known 64 (.bool false) rfl (congrArg Value.bool (decide_eq_false (fun h => h rfl))) ?_
        repeat (first|refine q1 ?_|refine q2 ?_|refine q3 ?_|refine q4 ?_|refine q5 ?_|refine q6 ?_|refine w_seq ?_|refine w_region ?_|refine w_ops_nil ?_|refine w_skip ?_|refine w_block ?_|refine w_blk ?_|refine q7 ?_|refine q8 ?_|refine q9 ?_)
        refine w_neBool rfl rfl rfl ?_
        refine w_known 68 (.bool false) rfl (congrArg Value.bool (decide_eq_false (fun h => h rfl))) ?_
        repeat (first|refine q1 ?_|refine q2 ?_|refine q3 ?_|refine q4 ?_|refine q5 ?_|refine q6 ?_|refine w_seq ?_|refine w_region ?_|refine w_ops_nil ?_|refine w_skip ?_|refine w_block ?_|refine w_blk ?_|refine q7 ?_|refine q8 ?_|refine q9 ?_)
        refine w_fldA (by decide) rfl rfl ?_
        repeat (first|refine q1 ?_|refine q2 ?_|refine q3 ?_|refine q4 ?_|refine q5 ?_|refine q6 ?_|refine w_seq ?_|refine w_region ?_|refine w_ops_nil ?_|refine w_skip ?_|refine w_block ?_|refine w_blk ?_|refine q7 ?_|refine q8 ?_|refine q9 ?_)
        refine w_load1 (v := str gone.1.name) hc14 rfl rfl rfl rfl ?_
        repeat (first|refine q1 ?_|refine q2 ?_|refine q3 ?_|refine q4 ?_|refine q5 ?_|refine q6 ?_|refine w_seq ?_|refine w_region ?_|refine w_ops_nil ?_|refine w_skip ?_|refine w_block ?_|refine w_blk ?_|refine q7 ?_|refine q8 ?_|refine q9 ?_)
        refine w_fldA (by decide) rfl rfl ?_
        repeat (first|refine q1 ?_|refine q2 ?_|refine q3 ?_|refine q4 ?_|refine q5 ?_|refine q6 ?_|refine w_seq ?_|refine w_region ?_|refine w_ops_nil ?_|refine w_skip ?_|refine w_block ?_|refine w_blk ?_|refine q7 ?_|refine q8 ?_|refine q9 ?_)
        refine w_load1 (v := str gone.1.name) hc12 rfl rfl rfl rfl ?_
        repeat (first|refine q1 ?_|refine q2 ?_|refine q3 ?_|refine q4 ?_|refine q5 ?_|refine q6 ?_|refine w_seq ?_|refine w_region ?_|refine w_ops_nil ?_|refine w_skip ?_|refine w_block ?_|refine w_blk ?_|refine q7 ?_|refine q8 ?_|refine q9 ?_)
        refine w_condP rfl (fun h => absurd rfl h) (fun _ => ?_)
        repeat (first|refine q1 ?_|refine q2 ?_|refine q3 ?_|refine q4 ?_|refine q5 ?_|refine q6 ?_|refine w_seq ?_|refine w_region ?_|refine w_ops_nil ?_|refine w_skip ?_|refine w_blk ?_|refine q7 ?_|refine q8 ?_|refine q9 ?_)
        refine w_cut (ι := Unit) (fun _ => [(0, .int .i64 room), (1, vl), (5, .pointer (some ⟨p, 0, none⟩)), (6, .pointer (some ⟨b6, 0, none⟩)), (7, .int .i64 (i : Int)), (11, .pointer (some ⟨b11, 0, none⟩))])
          (fun _ w => ∃ h : G, h.w = w ∧ Step [] [] k9 h) ?_ ?_
        · repeat (first|refine q1 ?_|refine q2 ?_|refine q3 ?_|refine q4 ?_|refine q5 ?_|refine q6 ?_|refine w_seq ?_|refine w_region ?_|refine w_ops_nil ?_|refine w_skip ?_|refine w_block ?_|refine w_blk ?_|refine q7 ?_|refine q8 ?_|refine q9 ?_)
          refine w_loop (ι := Nat) (fun j => [(0, .int .i64 room), (1, vl), (5, .pointer (some ⟨p, 0, none⟩)), (6, .pointer (some ⟨b6, 0, none⟩)), (7, .int .i64 (i : Int)), (10, .bool lt), (11, .pointer (some ⟨b11, 0, none⟩)), (12, .pointer (some ⟨b12, 0, none⟩)), (16, .int .i64 (j : Int))])
            (fun j w => ∃ h : G, h.w = w ∧ Step [] [] k9 h ∧ j ≤ L.length) (fun j => L.length - j) 0 ⟨k9, rfl, Step.refl _ _ _, by omega⟩ ⟨rfl, rfl, rfl, rfl, rfl, rfl, rfl, rfl, rfl, trivial⟩ ?_
          rintro j _ ⟨k0, rfl, hk0, hj⟩
          replace hc6 := hc6.go hk0; replace hrL := hrL.go hk0; replace hc12 := hc12.go hk0
          repeat (first|refine q1 ?_|refine q2 ?_|refine q3 ?_|refine q4 ?_|refine q5 ?_|refine q6 ?_|refine w_seq ?_|refine w_region ?_|refine w_ops_nil ?_|refine w_skip ?_|refine w_block ?_|refine w_blk ?_|refine q7 ?_|refine q8 ?_|refine q9 ?_)
          refine w_fldA (by decide) rfl rfl ?_
          refine w_load1 (v := vL) hc6 rfl rfl rfl rfl ?_
          refine w_lenSl hrL.isSl rfl rfl ?_
          repeat (first|refine q1 ?_|refine q2 ?_|refine q3 ?_|refine q4 ?_|refine q5 ?_|refine q6 ?_|refine w_seq ?_|refine w_region ?_|refine w_ops_nil ?_|refine w_skip ?_|refine w_block ?_|refine w_blk ?_|refine q7 ?_|refine q8 ?_|refine q9 ?_)
          refine w_splitP 82 rfl (fun hlt2 => ?_) (fun hlt2 => ?_)
          · have hlt2 : j < L.length := by omega
            have hgj : L[j]? = some L[j] := List.getElem?_eq_getElem hlt2
            repeat (first|refine q1 ?_|refine q2 ?_|refine q3 ?_|refine q4 ?_|refine q5 ?_|refine q6 ?_|refine w_seq ?_|refine w_region ?_|refine w_ops_nil ?_|refine w_skip ?_|refine w_block ?_|refine w_blk ?_|refine q7 ?_|refine q8 ?_|refine q9 ?_)
            refine w_cond rfl (fun hx => ?_) (fun hx => ?_)
            · have hg := hgf hx
              have hfst := leastOfC_first hbk.srt L[j] (List.getElem_mem hlt2)
              rw [← hg] at hfst
              repeat (first|refine q1 ?_|refine q2 ?_|refine q3 ?_|refine q4 ?_|refine q5 ?_|refine q6 ?_|refine w_seq ?_|refine w_region ?_|refine w_ops_nil ?_|refine w_skip ?_|refine w_block ?_|refine w_blk ?_|refine q7 ?_|refine q8 ?_|refine q9 ?_)
              refine d_begin none [] (by kernel_rfl) fun g2 hsd => ?_
              have hk0' := hk0.go hsd
              replace hc6 := hc6.go hsd; replace hrL := hrL.go hsd; replace hc12 := hc12.go hsd
              refine d_read 0 calm_ret rfl (by kernel_rfl) rfl  (fun h hs => r_fldA (by decide) rfl) ?_
              refine d_read 1 calm_ret rfl (by kernel_rfl) rfl  (fun h hs => r_load1 (v := vL) (hc6.go hs) rfl rfl rfl) ?_
              refine d_pure 2 calm_ret rfl (by kernel_rfl) rfl rfl ?_
              refine d_read 3 calm_ret rfl (by kernel_rfl) rfl  (fun h hs => r_idx (hrL.go hs) rfl rfl (by omega) (by omega)) ?_
              refine d_read 4 calm_ret rfl (by kernel_rfl) rfl  (fun h hs => r_fldE (hrL.base hlt2) (by decide) rfl) ?_
              refine d_read 5 calm_ret rfl (by kernel_rfl) rfl  (fun h hs => r_loadEF (i := j) (off := 3) (y := L[j]) (u := .int .i64 L[j].2.till) (hrL.go hs) rfl hgj rfl rfl) ?_
              refine d_read 6 calm_ret rfl (by kernel_rfl) rfl  (fun h hs => r_fldA (by decide) rfl) ?_
              refine d_read 7 calm_ret rfl (by kernel_rfl) rfl  (fun h hs => r_load1 (v := .int .i64 gone.2.till) (hc12.go hs) rfl rfl rfl) ?_
              refine d_pure 8 calm_ret rfl (by kernel_rfl) rfl rfl ?_; refine d_pure 9 calm_ret rfl (by kernel_rfl) rfl rfl ?_
              refine d_known 96 (.bool false) rfl (congrArg Value.bool (decide_eq_false (by omega))) ?_
              refine d_readG 10 calm_ret rfl rfl rfl (by kernel_rfl) rfl  (fun h hs => r_fldA (by decide) rfl) ?_
              refine d_readG 11 calm_ret rfl rfl rfl (by kernel_rfl) rfl  (fun h hs => r_load1 (v := vL) (hc6.go hs) rfl rfl rfl) ?_
              refine d_guard_pure 12 calm_ret rfl rfl rfl (by kernel_rfl) rfl rfl ?_
              refine d_readG 13 calm_ret rfl rfl rfl (by kernel_rfl) rfl  (fun h hs => r_idx (hrL.go hs) rfl rfl (by omega) (by omega)) ?_
              refine d_readG 14 calm_ret rfl rfl rfl (by kernel_rfl) rfl  (fun h hs => r_fldE (hrL.base hlt2) (by decide) rfl) ?_
              refine d_readG 15 calm_ret rfl rfl rfl (by kernel_rfl) rfl  (fun h hs => r_loadEF (i := j) (off := 3) (y := L[j]) (u := .int .i64 L[j].2.till) (hrL.go hs) rfl hgj rfl rfl) ?_
              refine d_readG 16 calm_ret rfl rfl rfl (by kernel_rfl) rfl  (fun h hs => r_fldA (by decide) rfl) ?_
              refine d_readG 17 calm_ret rfl rfl rfl (by kernel_rfl) rfl  (fun h hs => r_load1 (v := .int .i64 gone.2.till) (hc12.go hs) rfl rfl rfl) ?_
              refine d_guard_pure 18 calm_ret rfl rfl rfl (by kernel_rfl) rfl rfl ?_; refine d_guard_pure 19 calm_ret rfl rfl rfl (by kernel_rfl) rfl rfl ?_
              refine d_splitP 106 rfl (fun he => ?_) (fun he => ?_)
              · refine d_readG 20 calm_ret rfl rfl rfl (by kernel_rfl) rfl  (fun h hs => r_fldA (by decide) rfl) ?_
                refine d_readG 21 calm_ret rfl rfl rfl (by kernel_rfl) rfl  (fun h hs => r_load1 (v := vL) (hc6.go hs) rfl rfl rfl) ?_
                refine d_guard_pure 22 calm_ret rfl rfl rfl (by kernel_rfl) rfl rfl ?_
                refine d_readG 23 calm_ret rfl rfl rfl (by kernel_rfl) rfl  (fun h hs => r_idx (hrL.go hs) rfl rfl (by omega) (by omega)) ?_
                refine d_readG 24 calm_ret rfl rfl rfl (by kernel_rfl) rfl  (fun h hs => r_fldE (hrL.base hlt2) (by decide) rfl) ?_
                refine d_readG 25 calm_ret rfl rfl rfl (by kernel_rfl) rfl  (fun h hs => r_loadEF (i := j) (off := 0) (y := L[j]) (u := str L[j].1.name) (hrL.go hs) rfl hgj rfl rfl) ?_
                refine d_readG 26 calm_ret rfl rfl rfl (by kernel_rfl) rfl  (fun h hs => r_fldA (by decide) rfl) ?_
                refine d_readG 27 calm_ret rfl rfl rfl (by kernel_rfl) rfl  (fun h hs => r_load1 (v := str gone.1.name) (hc12.go hs) rfl rfl rfl) ?_
                refine d_guard_pure 28 calm_ret rfl rfl rfl (by kernel_rfl) rfl rfl ?_; refine d_guard_pure 29 calm_ret rfl rfl rfl (by kernel_rfl) rfl rfl ?_
                refine d_pure 30 calm_ret rfl (by kernel_rfl) rfl rfl ?_
                refine d_known 117 (.bool false) rfl (congrArg Value.bool (Bool.eq_false_iff.2 (hfst.2 he))) ?_
                refine d_done (by kernel_rfl) ?_
                refine w_cond rfl (fun h => by cases h) (fun _ => ?_)
                repeat (first|refine q1 ?_|refine q2 ?_|refine q3 ?_|refine q4 ?_|refine q5 ?_|refine q6 ?_|refine w_seq ?_|refine w_region ?_|refine w_ops_nil ?_|refine w_skip ?_|refine w_block ?_|refine w_blk ?_|refine q7 ?_|refine q8 ?_|refine q9 ?_)
                exact w_again (j + 1) (by omega) ⟨g2, rfl, hk0', by omega⟩ ⟨rfl, rfl, rfl, rfl, rfl, rfl, rfl, rfl, rfl, trivial⟩
              · refine d_guard_no 20 calm_ret rfl rfl rfl (by kernel_rfl) rfl ?_; refine d_guard_no 21 calm_ret rfl rfl rfl (by kernel_rfl) rfl ?_; refine d_guard_no 22 calm_ret rfl rfl rfl (by kernel_rfl) rfl ?_; refine d_guard_no 23 calm_ret rfl rfl rfl (by kernel_rfl) rfl ?_; refine d_guard_no 24 calm_ret rfl rfl rfl (by kernel_rfl) rfl ?_; refine d_guard_no 25 calm_ret rfl rfl rfl (by kernel_rfl) rfl ?_; refine d_guard_no 26 calm_ret rfl rfl rfl (by kernel_rfl) rfl ?_; refine d_guard_no 27 calm_ret rfl rfl rfl (by kernel_rfl) rfl ?_; refine d_guard_no 28 calm_ret rfl rfl rfl (by kernel_rfl) rfl ?_
                refine d_guard_pure 29 calm_ret rfl rfl rfl (by kernel_rfl) rfl rfl ?_
                refine d_pure 30 calm_ret rfl (by kernel_rfl) rfl rfl ?_
                refine d_done (by kernel_rfl) ?_
                refine w_cond rfl (fun h => by cases h) (fun _ => ?_)
                repeat (first|refine q1 ?_|refine q2 ?_|refine q3 ?_|refine q4 ?_|refine q5 ?_|refine q6 ?_|refine w_seq ?_|refine w_region ?_|refine w_ops_nil ?_|refine w_skip ?_|refine w_block ?_|refine w_blk ?_|refine q7 ?_|refine q8 ?_|refine q9 ?_)
                exact w_again (j + 1) (by omega) ⟨g2, rfl, hk0', by omega⟩ ⟨rfl, rfl, rfl, rfl, rfl, rfl, rfl, rfl, rfl, trivial⟩
            · repeat (first|refine q1 ?_|refine q2 ?_|refine q3 ?_|refine q4 ?_|refine q5 ?_|refine q6 ?_|refine w_seq ?_|refine w_region ?_|refine w_ops_nil ?_|refine w_skip ?_|refine w_block ?_|refine w_blk ?_|refine q7 ?_|refine q8 ?_|refine q9 ?_)
              exact w_meet () ⟨k0, rfl, hk0⟩ ⟨rfl, rfl, rfl, rfl, rfl, rfl, trivial⟩
          · repeat (first|refine q1 ?_|refine q2 ?_|refine q3 ?_|refine q4 ?_|refine q5 ?_|refine q6 ?_|refine w_seq ?_|refine w_region ?_|refine w_ops_nil ?_|refine w_skip ?_|refine w_block ?_|refine w_blk ?_|refine q7 ?_|refine q8 ?_|refine q9 ?_)
            exact w_meet () ⟨k0, rfl, hk0⟩ ⟨rfl, rfl, rfl, rfl, rfl, rfl, trivial⟩
        rintro _ _ ⟨k0, rfl, hk0⟩
        replace hst := hst.go hk0; replace hst2 := hst2.go hk0; replace hr := hr.go hk0; replace hc6 := hc6.go hk0; replace hrL' := hrL'.go hk0; replace hb := hb.go hk0; replace hc11 := hc11.go hk0
        clear hk0 hc12 hc14
        have hlen := hbk'.len
        repeat (first|refine q1 ?_|refine q2 ?_|refine q3 ?_|refine q4 ?_|refine q5 ?_|refine q6 ?_|refine w_seq ?_|refine w_region ?_|refine w_ops_nil ?_|refine w_skip ?_|refine w_block ?_|refine w_blk ?_|refine q7 ?_|refine q8 ?_|refine q9 ?_)
        refine w_loadS (us := [.int .i64 (roomZ room), v']) hc11 rfl rfl rfl rfl rfl ?_
        refine w_store (us := [.int .i64 (roomZ room), v']) (vs' := [.int .i64 (roomZ room), v']) hc6 rfl rfl rfl rfl (oneTwo hrL'.isSl.one) (show 0 + 2 ≤ 2 by decide) rfl fun k6 hkb6 hk6 hc6 => ?_
        replace hst := hst.go hk6; replace hst2 := hst2.go hk6; replace hr := hr.go hk6; replace hrL' := hrL'.go hk6; replace hb := hb.go hk6
        clear hc11 hkb6 hk6
        repeat (first|refine q1 ?_|refine q2 ?_|refine q3 ?_|refine q4 ?_|refine q5 ?_|refine q6 ?_|refine w_seq ?_|refine w_region ?_|refine w_ops_nil ?_|refine w_skip ?_|refine w_blk ?_|refine q7 ?_|refine q8 ?_|refine q9 ?_)
        refine d_begin none [] (by kernel_rfl) fun g2 hsd => ?_
        replace hst := hst.go hsd; replace hst2 := hst2.go hsd; replace hr := hr.go hsd; replace hc6 := hc6.go hsd; replace hrL' := hrL'.go hsd; replace hb := hb.go hsd
        refine d_pure 0 calm_ret rfl (by kernel_rfl) rfl rfl ?_; refine d_pure 2 calm_ret rfl (by kernel_rfl) rfl rfl ?_
        refine d_exec1 1 (by kernel_rfl) rfl ?_
        refine w_callF (vs := [.pointer (some ⟨p, 0, none⟩)]) rfl (Cache_Len p (roomZ room) m' g2 hb) rfl fun u y1 hy1 hu => ?_
        subst hu
        repeat (first|refine q1 ?_|refine q2 ?_|refine q3 ?_|refine q4 ?_|refine q5 ?_|refine q6 ?_|refine w_seq ?_|refine w_region ?_|refine w_ops_nil ?_|refine w_skip ?_|refine w_block ?_|refine w_blk ?_|refine q7 ?_|refine q8 ?_|refine q9 ?_)
        refine d_next (fun _ => ⟨y1, rfl, hy1⟩) ?_
        refine d_exec1 3 (by kernel_rfl) rfl ?_
        refine w_callF (vs := [.pointer (some ⟨p, 0, none⟩)]) rfl (Cache_Room p (roomZ room) m' y1 (hb.go hy1)) rfl fun u y2 hy2 hu => ?_
        subst hu
        have hqs := hy1.go hy2
        repeat (first|refine q1 ?_|refine q2 ?_|refine q3 ?_|refine q4 ?_|refine q5 ?_|refine q6 ?_|refine w_seq ?_|refine w_region ?_|refine w_ops_nil ?_|refine w_skip ?_|refine w_block ?_|refine w_blk ?_|refine q7 ?_|refine q8 ?_|refine q9 ?_)
        refine d_next (fun _ => ⟨y2, rfl, hqs⟩) ?_
        refine d_pure 4 calm_ret rfl (by kernel_rfl) rfl rfl ?_; refine d_pure 5 calm_ret rfl (by kernel_rfl) rfl rfl ?_
        refine d_known 124 (.bool false) rfl (congrArg Value.bool (decide_eq_false (by rw [hlen]; omega))) ?_
        refine d_guard_pure 6 calm_ret rfl rfl rfl (by kernel_rfl) rfl rfl ?_
        refine d_readG 8 calm_ret rfl rfl rfl (by kernel_rfl) rfl  (fun h hs => r_fldA (by decide) rfl) ?_
        refine d_readG 9 calm_ret rfl rfl rfl (by kernel_rfl) rfl  (fun h hs => r_load1 (v := v') (hc6.go hs) rfl rfl rfl) ?_
        refine d_readG 10 calm_ret rfl rfl rfl (by kernel_rfl) rfl  (fun h hs => r_lenSl hrL'.isSl rfl) ?_
        refine d_exec1 7 (by kernel_rfl) rfl ?_
        refine w_guard_yes' rfl rfl rfl rfl ?_
        refine w_callF (vs := [.pointer (some ⟨p, 0, none⟩)]) rfl (Cache_Len p (roomZ room) m' y2 (hb.go hqs)) rfl fun u j2 hj2 hu => ?_
        subst hu
        have hjs := hqs.go hj2
        repeat (first|refine q1 ?_|refine q2 ?_|refine q3 ?_|refine q4 ?_|refine q5 ?_|refine q6 ?_|refine w_seq ?_|refine w_region ?_|refine w_ops_nil ?_|refine w_skip ?_|refine w_block ?_|refine w_blk ?_|refine q7 ?_|refine q8 ?_|refine q9 ?_)
        refine d_next (fun _ => ⟨j2, rfl, hjs⟩) ?_
        refine d_guard_pure 11 calm_ret rfl rfl rfl (by kernel_rfl) rfl rfl ?_
        refine d_known 130 (.bool false) rfl (congrArg Value.bool (decide_eq_false (fun h => h (by rw [hlen])))) ?_
        refine d_pure 12 calm_ret rfl (by kernel_rfl) rfl rfl ?_
        refine d_done (by kernel_rfl) ?_
        replace hst := hst.go hjs; replace hst2 := hst2.go hjs; replace hr := hr.go hjs; replace hc6 := hc6.go hjs; replace hrL' := hrL'.go hjs; replace hb := hb.go hjs
        repeat (first|refine q1 ?_|refine q2 ?_|refine q3 ?_|refine q4 ?_|refine q5 ?_|refine q6 ?_|refine w_seq ?_|refine w_region ?_|refine w_ops_nil ?_|refine w_skip ?_|refine w_block ?_|refine w_blk ?_|refine q7 ?_|refine q8 ?_|refine q9 ?_)
        exact w_again (i + 1) (by omega) ⟨j2, m', L', v', rfl, hst2, hc6, hrL', hb, hbk', by omega, by omega, hL'r, hin'⟩ ⟨rfl, rfl, rfl, rfl, rfl, trivial⟩
      · repeat (first|refine q1 ?_|refine q2 ?_|refine q3 ?_|refine q4 ?_|refine q5 ?_|refine q6 ?_|refine w_seq ?_|refine w_region ?_|refine w_ops_nil ?_|refine w_skip ?_|refine w_block ?_|refine w_blk ?_|refine q7 ?_|refine q8 ?_|refine q9 ?_)
        exact w_meet () ⟨h, rfl, hst⟩ trivial
    · repeat (first|refine q1 ?_|refine q2 ?_|refine q3 ?_|refine q4 ?_|refine q5 ?_|refine q6 ?_|refine w_seq ?_|refine w_region ?_|refine w_ops_nil ?_|refine w_skip ?_|refine w_block ?_|refine w_blk ?_|refine q7 ?_|refine q8 ?_|refine q9 ?_)
      exact w_meet () ⟨h, rfl, hst⟩ trivial
  rintro _ _ ⟨h, rfl, hst⟩
  repeat (first|refine q1 ?_|refine q2 ?_|refine q3 ?_|refine q4 ?_|refine q5 ?_|refine q6 ?_|refine w_seq ?_|refine w_region ?_|refine w_ops_nil ?_|refine w_skip ?_|refine w_block ?_|refine w_blk ?_|refine q7 ?_|refine q8 ?_|refine q9 ?_)
  refine w_callF rfl (law10_lives h) rfl fun u k5 ks5 hu => ?_
  subst hu
  repeat (first|refine q1 ?_|refine q2 ?_|refine q3 ?_|refine q4 ?_|refine q5 ?_|refine q6 ?_|refine w_seq ?_|refine w_region ?_|refine w_ops_nil ?_|refine w_skip ?_|refine w_block ?_|refine w_blk ?_|refine q7 ?_|refine q8 ?_|refine q9 ?_)
  exact w_retG (res1 rfl rfl) (hst.go ks5) fun h' _ => rfl
end Go.Proofs.Ytfkdfnookacgiaa
