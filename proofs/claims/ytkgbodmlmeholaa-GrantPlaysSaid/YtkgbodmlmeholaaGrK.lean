/- Grants: the law of what is let go, as a contract. No statement of the seat is proved here. -/
import Derived.Test.YtkgbodmlmeholaaGrJ
import Derived.Test.YtkgbodmlmeholaaDec
import Derived.Test.YtkgbodmlmeholaaRdx
set_option linter.unusedVariables false
set_option linter.unusedSimpArgs false
namespace Go.Proofs.Ytkgbodmlmeholaa
open Go
attribute [local irreducible] Wp
def ad4 : Ad := ⟨4, fun _ => 0⟩
def keyI (i : Nat) : Ky := ⟨Og.zero, Og.zero, decB i, ad4⟩
theorem keyI_inj {i j : Nat} (hi : i < 100) (hj : j < 100) (h : keyI i = keyI j) : i = j := decB_inj hi hj (congrArg Ky.meth h)
/-- The first of those that end first; none: the zero. -/
def leastOf : BkM → Ky × Int
  | [] => (Ky.zero, 0)
  | b :: l => leastBy (·.2) b l
theorem leastOf_next (L : BkM) (j : Nat) (h : j < L.length) : leastOf (L.take (j + 1)) = if j = 0 then L[j] else if L[j].2 < (leastOf (L.take j)).2 then L[j] else leastOf (L.take j) := by
  cases L with
  | nil => simp at h
  | cons b l =>
    cases j with
    | zero => rfl
    | succ j =>
      have hl : j < l.length := by simpa using h
      rw [if_neg (by omega), List.take_succ_cons, List.take_succ_cons]
      show leastBy (·.2) b (l.take (j + 1)) = _
      rw [List.take_succ_eq_append_getElem hl, leastBy_append]
      rfl
theorem mkRoomL_fresh {L : BkM} (hne : L ≠ []) (h : ∀ x ∈ L, 1 ≤ x.2) : (mkRoomL 0 L).2 = ((leastOf L).1, true) := by
  have : overB 0 L = L := by
    unfold overB
    rw [List.filter_eq_self]
    intro x hx
    have := h x hx
    simp; omega
  unfold mkRoomL
  rw [this, if_neg (Nat.lt_irrefl _)]
  cases L with
  | nil => exact absurd rfl hne
  | cons b l => rfl

set_option maxRecDepth 4000 in
theorem law18_Lets (room : Int) (l : List Int) (vl : Value) (g : G) (hr : Rdx g El.int vl l) (hels : ∀ x ∈ l, -9223372036854775808 ≤ x ∧ x ≤ 9223372036854775807) (hroom : -9223372036854775808 ≤ room ∧ room ≤ 9223372036854775807) :
    Fn Try.prog 5 [.int .i64 room, vl] g [] fun u _ => u = .bool true := by
  refine enterG [] [51, 52, 43, 44, 46, 47, 48, 49] Try.func5 rfl Try.ntmps5 rfl (by simp) fun g1 hv ho => ?_
  replace hr := hr.seen hv ho
  obtain ⟨cl, hcl, hr⟩ := hr
  have hlm := hr.isSl.le
  have hz : 1 ≤ roomZ room ∧ roomZ room ≤ 64 := by unfold roomZ; omega
  repeat (first|refine q1 ?_|refine q2 ?_|refine q3 ?_|refine q4 ?_|refine q5 ?_|refine q6 ?_|refine w_seq ?_|refine w_region ?_|refine w_ops_nil ?_|refine w_skip ?_|refine w_block ?_|refine w_blk ?_|refine q7 ?_|refine q8 ?_|refine q9 ?_)
  refine w_callF (vs := [.int .i64 room]) rfl (grant_New room g1) rfl fun u h1 hs1 hR => ?_
  obtain ⟨p, rfl, hb⟩ := hR
  have hst : Step [] [51, 52, 43, 44, 46, 47, 48, 49] g1 h1 := hs1.mono (by simp) (by simp)
  replace hr := hr.go hs1
  repeat (first|refine q1 ?_|refine q2 ?_|refine q3 ?_|refine q4 ?_|refine q5 ?_|refine q6 ?_|refine w_seq ?_|refine w_region ?_|refine w_ops_nil ?_|refine w_skip ?_|refine w_block ?_|refine w_blk ?_|refine q7 ?_|refine q8 ?_|refine q9 ?_)
  refine w_ptrEqNil rfl rfl rfl ?_
  repeat (first|refine q1 ?_|refine q2 ?_|refine q3 ?_|refine q4 ?_|refine q5 ?_|refine q6 ?_|refine w_seq ?_|refine w_region ?_|refine w_ops_nil ?_|refine w_skip ?_|refine w_block ?_|refine w_blk ?_|refine q7 ?_|refine q8 ?_|refine q9 ?_)
  refine w_cond rfl (fun h => by cases h) (fun _ => ?_)
  repeat (first|refine q1 ?_|refine q2 ?_|refine q3 ?_|refine q4 ?_|refine q5 ?_|refine q6 ?_|refine w_seq ?_|refine w_region ?_|refine w_ops_nil ?_|refine w_skip ?_|refine w_block ?_|refine w_blk ?_|refine q7 ?_|refine q8 ?_|refine q9 ?_)
  refine w_callF (vs := [.int .i64 room]) rfl (ref18_New room h1) rfl fun u h2 hs2 hu => ?_
  subst hu
  replace hst := hst.go hs2; replace hr := hr.go hs2; replace hb := hb.go hs2
  repeat (first|refine q1 ?_|refine q2 ?_|refine q3 ?_|refine q4 ?_|refine q5 ?_|refine q6 ?_|refine w_seq ?_|refine w_region ?_|refine w_ops_nil ?_|refine w_skip ?_|refine w_block ?_|refine w_blk ?_|refine q7 ?_|refine q8 ?_|refine q9 ?_)
  refine w_alloc 43 (vs := [.int .i64 0, .slice none 0 0]) rfl rfl fun h3 b6 hs3 hc6 => ?_
  replace hst := hst.go hs3; replace hr := hr.go hs3; replace hb := hb.go hs3
  have one : ∀ v : Value, v.oneCell' = true → ∀ u ∈ [Value.int .i64 (roomZ room), v], u.oneCell' = true := by
    intro v hv u hu
    simp only [List.mem_cons, List.not_mem_nil, or_false] at hu
    rcases hu with rfl | rfl
    · rfl
    · exact hv
  refine w_store (us := [.int .i64 (roomZ room), .slice none 0 0]) (vs' := [.int .i64 (roomZ room), .slice none 0 0]) hc6 rfl rfl rfl rfl (one _ rfl) (show 0 + 2 ≤ 2 by decide) rfl fun h4 hb4 hs4 hc6 => ?_
  replace hst := hst.go hs4; replace hr := hr.go hs4; replace hb := hb.go hs4
  clear hs1 hs2 hs3 hs4 hb4
  repeat (first|refine q1 ?_|refine q2 ?_|refine q3 ?_|refine q4 ?_|refine q5 ?_|refine q6 ?_|refine w_seq ?_|refine w_region ?_|refine w_ops_nil ?_|refine w_skip ?_|refine w_blk ?_|refine q7 ?_|refine q8 ?_|refine q9 ?_)
  refine w_cut (ι := Unit) (fun _ => []) (fun _ w => ∃ h : G, h.w = w ∧ Step [] [51, 52, 43, 44, 46, 47, 48, 49] g1 h) ?_ ?_
  · repeat (first|refine q1 ?_|refine q2 ?_|refine q3 ?_|refine q4 ?_|refine q5 ?_|refine q6 ?_|refine w_seq ?_|refine w_region ?_|refine w_ops_nil ?_|refine w_skip ?_|refine w_block ?_|refine w_blk ?_|refine q7 ?_|refine q8 ?_|refine q9 ?_)
    refine w_loop (ι := Nat) (fun i => [(0, .int .i64 room), (1, vl), (5, .pointer (some ⟨p, 0, none⟩)), (6, .pointer (some ⟨b6, 0, none⟩)), (7, .int .i64 (i : Int))])
      (fun i w => ∃ h m L vL, h.w = w ∧ Step [] [51, 52, 43, 44, 46, 47, 48, 49] h4 h ∧ Cell h 43 b6 44 [.int .i64 (roomZ room), vL] ∧ Rd h 0 El.gr vL L ∧ Bk h p (roomZ room) m ∧ Books m L ∧ i ≤ l.length ∧ i ≤ 70 ∧ (L.length : Int) ≤ roomZ room ∧ ∀ x ∈ L, 1 ≤ x.2 ∧ ∃ j, j < i ∧ x.1 = keyI j)
      (fun i => l.length - i) 0 ⟨h4, [], [], _, rfl, Step.refl _ _ _, hc6, Rd.nil _ _ _ none 0 (by decide), hb, ⟨List.Perm.refl _, List.nodup_nil, List.Pairwise.nil⟩, by omega, by omega, by simp only [List.length_nil]; omega, by simp⟩ ⟨rfl, rfl, rfl, rfl, rfl, trivial⟩ ?_
    clear hc6 hb
    rintro i _ ⟨h, m, L, vL, rfl, hst2, hc6, hrL, hb, hbk, hi, hi70, hLr, hin⟩
    replace hst := hst.go hst2; replace hr := hr.go hst2
    have hl1000 : L.length ≤ 1000 := by omega
    have hml : m.length ≤ 1000 := by rw [hbk.len]; exact hl1000
    repeat (first|refine q1 ?_|refine q2 ?_|refine q3 ?_|refine q4 ?_|refine q5 ?_|refine q6 ?_|refine w_seq ?_|refine w_region ?_|refine w_ops_nil ?_|refine w_skip ?_|refine w_block ?_|refine w_blk ?_|refine q7 ?_|refine q8 ?_|refine q9 ?_)
    refine w_lenSl hr.isSl rfl rfl ?_
    repeat (first|refine q1 ?_|refine q2 ?_|refine q3 ?_|refine q4 ?_|refine q5 ?_|refine q6 ?_|refine w_seq ?_|refine w_region ?_|refine w_ops_nil ?_|refine w_skip ?_|refine w_block ?_|refine w_blk ?_|refine q7 ?_|refine q8 ?_|refine q9 ?_)
    refine w_splitP 28 rfl (fun hlt => ?_) (fun hlt => ?_)
    · have hlt : i < l.length := by omega
      repeat (first|refine q1 ?_|refine q2 ?_|refine q3 ?_|refine q4 ?_|refine q5 ?_|refine q6 ?_|refine w_seq ?_|refine w_region ?_|refine w_ops_nil ?_|refine w_skip ?_|refine w_block ?_|refine w_blk ?_|refine q7 ?_|refine q8 ?_|refine q9 ?_)
      refine w_condP rfl (fun hlt70 => ?_) (fun hlt70 => ?_)
      · have hlt70 : i < 70 := by omega
        generalize hkx : l[i] = kx
        have hgk : l[i]? = some kx := by rw [List.getElem?_eq_getElem hlt, hkx]
        have hkr := hels kx (List.mem_of_getElem? hgk)
        have har := around_range kx 1000 (by omega)
        have hdec : ∀ x ∈ L, ¬ keyI i = x.1 := fun x hx e => by
          obtain ⟨_, j, hj, e2⟩ := hin x hx
          have := keyI_inj (by omega) (by omega) (e.trans e2)
          omega
        have hfind : ¬ 0 ≤ findK (keyI i) L := fun h => by
          have h1 := (findK_some (keyI i) L).1 h
          rw [mget_none.2 hdec] at h1; cases h1
        repeat (first|refine q1 ?_|refine q2 ?_|refine q3 ?_|refine q4 ?_|refine q5 ?_|refine q6 ?_|refine w_seq ?_|refine w_region ?_|refine w_ops_nil ?_|refine w_skip ?_|refine w_block ?_|refine w_blk ?_|refine q7 ?_|refine q8 ?_|refine q9 ?_)
        refine w_idx hr rfl rfl (by omega) (by omega) rfl ?_
        refine w_loadE (i := i) (y := kx) hr rfl hgk rfl rfl ?_
        refine w_callF (vs := [.int .i64 kx, .int .i64 1000]) rfl (ref01_Around kx 1000 h hkr (by omega)) rfl fun u h5 hs5 hu => ?_
        subst hu
        generalize aroundZ kx 1000 = ar at har
        replace hst := hst.go hs5; replace hst2 := hst2.go hs5; replace hr := hr.go hs5; replace hc6 := hc6.go hs5; replace hrL := hrL.go hs5; replace hb := hb.go hs5
        repeat (first|refine q1 ?_|refine q2 ?_|refine q3 ?_|refine q4 ?_|refine q5 ?_|refine q6 ?_|refine w_seq ?_|refine w_region ?_|refine w_ops_nil ?_|refine w_skip ?_|refine w_block ?_|refine w_blk ?_|refine q7 ?_|refine q8 ?_|refine q9 ?_)
        refine w_callF (vs := [.int .i64 (i : Int)]) rfl (ref01_Dec i h5 (by omega)) rfl fun u h6 hs6 hu => ?_
        subst hu
        replace hst := hst.go hs6; replace hst2 := hst2.go hs6; replace hr := hr.go hs6; replace hc6 := hc6.go hs6; replace hrL := hrL.go hs6; replace hb := hb.go hs6
        repeat (first|refine q1 ?_|refine q2 ?_|refine q3 ?_|refine q4 ?_|refine q5 ?_|refine q6 ?_|refine w_seq ?_|refine w_region ?_|refine w_ops_nil ?_|refine w_skip ?_|refine w_block ?_|refine w_blk ?_|refine q7 ?_|refine q8 ?_|refine q9 ?_)
        refine w_build (vs := [(0, .int .i64 4)]) (r := El.ad.enc ad4) rfl rfl rfl ?_
        refine w_build (vs := [(2, str (decB i)), (3, .agg (El.ad.enc ad4).toArray)]) (r := El.ky.enc (keyI i)) rfl rfl rfl ?_
        refine w_alloc 44 (vs := El.ky.enc Ky.zero) rfl rfl fun h7 b9 hs7 hc9 => ?_
        replace hst := hst.go hs7; replace hst2 := hst2.go hs7; replace hr := hr.go hs7; replace hc6 := hc6.go hs7; replace hrL := hrL.go hs7; replace hb := hb.go hs7
        refine w_store (us := El.ky.enc (keyI i)) (vs' := El.ky.enc (keyI i)) hc9 rfl rfl rfl rfl (El.ky.flat _) (show 0 + 24 ≤ 24 by decide) rfl fun h8 hb8 hs8 hc9 => ?_
        replace hst := hst.go hs8; replace hst2 := hst2.go hs8; replace hr := hr.go hs8; replace hc6 := hc6.go hs8; replace hrL := hrL.go hs8; replace hb := hb.go hs8
        repeat (first|refine q1 ?_|refine q2 ?_|refine q3 ?_|refine q4 ?_|refine q5 ?_|refine q6 ?_|refine w_seq ?_|refine w_region ?_|refine w_ops_nil ?_|refine w_skip ?_|refine w_block ?_|refine w_blk ?_|refine q7 ?_|refine q8 ?_|refine q9 ?_)
        refine w_fldA (by decide) rfl rfl ?_
        refine w_load1 (v := vL) hc6 rfl rfl rfl rfl ?_
        refine w_lenSl hrL.isSl rfl rfl ?_
        refine w_fldA (by decide) rfl rfl ?_
        refine w_load1 (v := .int .i64 (roomZ room)) hc6 rfl rfl rfl rfl ?_
        repeat (first|refine q1 ?_|refine q2 ?_|refine q3 ?_|refine q4 ?_|refine q5 ?_|refine q6 ?_|refine w_seq ?_|refine w_region ?_|refine w_ops_nil ?_|refine w_skip ?_|refine w_block ?_|refine w_blk ?_|refine q7 ?_|refine q8 ?_|refine q9 ?_)
        refine w_build (vs := []) (r := El.gr.enc (Ky.zero, 0)) rfl rfl rfl ?_
        refine w_alloc 46 (vs := El.gr.enc (Ky.zero, 0)) rfl rfl fun h9 b11 hs9 hc11 => ?_
        replace hst := hst.go hs9; replace hst2 := hst2.go hs9; replace hr := hr.go hs9; replace hc6 := hc6.go hs9; replace hrL := hrL.go hs9; replace hb := hb.go hs9; replace hc9 := hc9.go hs9
        refine w_store (us := El.gr.enc (Ky.zero, 0)) (vs' := El.gr.enc (Ky.zero, 0)) hc11 rfl rfl rfl rfl (El.gr.flat _) (show 0 + 25 ≤ 25 by decide) rfl fun h10 hb10 hs10 hc11 => ?_
        replace hst := hst.go hs10; replace hst2 := hst2.go hs10; replace hr := hr.go hs10; replace hc6 := hc6.go hs10; replace hrL := hrL.go hs10; replace hb := hb.go hs10; replace hc9 := hc9.go hs10
        clear hs5 hs6 hs7 hs8 hs9 hs10 hb8 hb10
        obtain ⟨full, hfull⟩ : ∃ f : Bool, decide ((L.length : Int) = roomZ room) = f := ⟨_, rfl⟩
        refine w_ops_nil ?_
        repeat (first|refine q1 ?_|refine q2 ?_|refine q3 ?_|refine q4 ?_|refine q5 ?_|refine q6 ?_|refine w_seq ?_|refine w_region ?_|refine w_ops_nil ?_|refine w_skip ?_|refine w_blk ?_|refine q7 ?_|refine q8 ?_|refine q9 ?_)
        refine w_cut (ι := Unit) (fun _ => [(0, .int .i64 room), (1, vl), (5, .pointer (some ⟨p, 0, none⟩)), (6, .pointer (some ⟨b6, 0, none⟩)), (7, .int .i64 (i : Int)), (8, .int .i64 (1 + ar)), (9, .pointer (some ⟨b9, 0, none⟩)), (10, .bool full), (11, .pointer (some ⟨b11, 0, none⟩))])
          (fun _ w => ∃ h : G, h.w = w ∧ Step [] [46] h10 h ∧ Cell h 46 b11 48 (El.gr.enc (leastOf L))) ?_ ?_
        · repeat (first|refine q1 ?_|refine q2 ?_|refine q3 ?_|refine q4 ?_|refine q5 ?_|refine q6 ?_|refine w_seq ?_|refine w_region ?_|refine w_ops_nil ?_|refine w_skip ?_|refine w_block ?_|refine w_blk ?_|refine q7 ?_|refine q8 ?_|refine q9 ?_)
          refine w_loop (ι := Nat) (fun j => [(0, .int .i64 room), (1, vl), (5, .pointer (some ⟨p, 0, none⟩)), (6, .pointer (some ⟨b6, 0, none⟩)), (7, .int .i64 (i : Int)), (8, .int .i64 (1 + ar)), (9, .pointer (some ⟨b9, 0, none⟩)), (10, .bool full), (11, .pointer (some ⟨b11, 0, none⟩)), (12, .int .i64 (j : Int))])
            (fun j w => ∃ h : G, h.w = w ∧ Step [] [46] h10 h ∧ Cell h 46 b11 48 (El.gr.enc (leastOf (L.take j))) ∧ j ≤ L.length) (fun j => L.length - j) 0 ⟨h10, rfl, Step.refl _ _ _, hc11, by omega⟩ ⟨rfl, rfl, rfl, rfl, rfl, rfl, rfl, congrArg (fun b => some (Value.bool b)) hfull, rfl, rfl, trivial⟩ ?_
          clear hc11
          rintro j _ ⟨k0, rfl, hk0, hc11, hj⟩
          replace hc6 := hc6.go hk0; replace hrL := hrL.go hk0
          repeat (first|refine q1 ?_|refine q2 ?_|refine q3 ?_|refine q4 ?_|refine q5 ?_|refine q6 ?_|refine w_seq ?_|refine w_region ?_|refine w_ops_nil ?_|refine w_skip ?_|refine w_block ?_|refine w_blk ?_|refine q7 ?_|refine q8 ?_|refine q9 ?_)
          refine w_fldA (by decide) rfl rfl ?_
          refine w_load1 (v := vL) hc6 rfl rfl rfl rfl ?_
          refine w_lenSl hrL.isSl rfl rfl ?_
          repeat (first|refine q1 ?_|refine q2 ?_|refine q3 ?_|refine q4 ?_|refine q5 ?_|refine q6 ?_|refine w_seq ?_|refine w_region ?_|refine w_ops_nil ?_|refine w_skip ?_|refine w_block ?_|refine w_blk ?_|refine q7 ?_|refine q8 ?_|refine q9 ?_)
          refine w_condP rfl (fun hlt2 => ?_) (fun hlt2 => ?_)
          · have hlt2 : j < L.length := by omega
            have hnx := leastOf_next L j hlt2
            have hgj : L[j]? = some L[j] := List.getElem?_eq_getElem hlt2
            repeat (first|refine q1 ?_|refine q2 ?_|refine q3 ?_|refine q4 ?_|refine q5 ?_|refine q6 ?_|refine w_seq ?_|refine w_region ?_|refine w_ops_nil ?_|refine w_skip ?_|refine w_block ?_|refine w_blk ?_|refine q7 ?_|refine q8 ?_|refine q9 ?_)
            refine w_cut (ι := Bool) (fun b => [(0, .int .i64 room), (1, vl), (5, .pointer (some ⟨p, 0, none⟩)), (6, .pointer (some ⟨b6, 0, none⟩)), (7, .int .i64 (i : Int)), (8, .int .i64 (1 + ar)), (9, .pointer (some ⟨b9, 0, none⟩)), (10, .bool full), (11, .pointer (some ⟨b11, 0, none⟩)), (12, .int .i64 (j : Int)), (70, .bool b)])
              (fun b w => b = decide (j = 0 ∨ L[j].2 < (leastOf (L.take j)).2) ∧ ∃ h : G, h.w = w ∧ Step [] [] k0 h) ?_ ?_
            · refine d_begin none [] (by kernel_rfl) fun g2 hsd => ?_
              have hsd0 := hsd
              replace hc6 := hc6.go hsd; replace hrL := hrL.go hsd; replace hc11 := hc11.go hsd
              refine d_pure 0 calm_ret rfl (by kernel_rfl) rfl rfl ?_; refine d_pure 1 calm_ret rfl (by kernel_rfl) rfl rfl ?_; refine d_pure 2 calm_ret rfl (by kernel_rfl) rfl rfl ?_
              refine d_splitP 60 rfl (fun hp => ?_) (fun hp => ?_)
              · refine d_guard_no 3 calm_ret rfl rfl rfl (by kernel_rfl) rfl ?_; refine d_guard_no 4 calm_ret rfl rfl rfl (by kernel_rfl) rfl ?_; refine d_guard_no 5 calm_ret rfl rfl rfl (by kernel_rfl) rfl ?_; refine d_guard_no 6 calm_ret rfl rfl rfl (by kernel_rfl) rfl ?_; refine d_guard_no 7 calm_ret rfl rfl rfl (by kernel_rfl) rfl ?_; refine d_guard_no 8 calm_ret rfl rfl rfl (by kernel_rfl) rfl ?_; refine d_guard_no 9 calm_ret rfl rfl rfl (by kernel_rfl) rfl ?_; refine d_guard_no 10 calm_ret rfl rfl rfl (by kernel_rfl) rfl ?_; refine d_guard_no 11 calm_ret rfl rfl rfl (by kernel_rfl) rfl ?_
                refine d_pure 12 calm_ret rfl (by kernel_rfl) rfl rfl ?_
                refine d_done (by kernel_rfl) ?_
                exact w_meet true ⟨by simp; left; omega, g2, rfl, hsd0⟩ ⟨rfl, rfl, rfl, rfl, rfl, rfl, rfl, rfl, rfl, rfl, rfl, trivial⟩
              · refine d_readG 3 calm_ret rfl rfl rfl (by kernel_rfl) rfl  (fun h hs => r_fldA (by decide) rfl) ?_
                refine d_readG 4 calm_ret rfl rfl rfl (by kernel_rfl) rfl  (fun h hs => r_load1 (v := vL) (hc6.go hs) rfl rfl rfl) ?_
                refine d_guard_pure 5 calm_ret rfl rfl rfl (by kernel_rfl) rfl rfl ?_
                refine d_readG 6 calm_ret rfl rfl rfl (by kernel_rfl) rfl  (fun h hs => r_idx (hrL.go hs) rfl rfl (by omega) (by omega)) ?_
                refine d_readG 7 calm_ret rfl rfl rfl (by kernel_rfl) rfl  (fun h hs => r_fldE (hrL.base hlt2) (by decide) rfl) ?_
                refine d_readG 8 calm_ret rfl rfl rfl (by kernel_rfl) rfl  (fun h hs => r_loadEF (i := j) (off := 24) (y := L[j]) (u := .int .i64 L[j].2) (hrL.go hs) rfl hgj rfl rfl) ?_
                refine d_readG 9 calm_ret rfl rfl rfl (by kernel_rfl) rfl  (fun h hs => r_fldA (by decide) rfl) ?_
                refine d_readG 10 calm_ret rfl rfl rfl (by kernel_rfl) rfl  (fun h hs => r_load1 (v := .int .i64 (leastOf (L.take j)).2) (hc11.go hs) rfl rfl rfl) ?_
                refine d_guard_pure 11 calm_ret rfl rfl rfl (by kernel_rfl) rfl rfl ?_
                refine d_pure 12 calm_ret rfl (by kernel_rfl) rfl rfl ?_
                refine d_done (by kernel_rfl) ?_
                refine w_meet (decide (L[j].2 < (leastOf (L.take j)).2)) ⟨?_, g2, rfl, hsd0⟩ ⟨rfl, rfl, rfl, rfl, rfl, rfl, rfl, rfl, rfl, rfl, rfl, trivial⟩
                have : ¬ j = 0 := by omega
                simp [this]
            rintro b _ ⟨hbe, k1, rfl, hk1⟩
            have hk01 := hk0.trans (hk1.mono (by simp) (by simp))
            replace hc6 := hc6.go hk1; replace hrL := hrL.go hk1; replace hc11 := hc11.go hk1
            refine w_cond rfl (fun hx => ?_) (fun hx => ?_)
            · rw [hx] at hbe
              have hp := of_decide_eq_true hbe.symm
              have e : leastOf (L.take (j + 1)) = L[j] := by
                rw [hnx]
                split
                · rfl
                · rw [if_pos (hp.resolve_left (by assumption))]
              repeat (first|refine q1 ?_|refine q2 ?_|refine q3 ?_|refine q4 ?_|refine q5 ?_|refine q6 ?_|refine w_seq ?_|refine w_region ?_|refine w_ops_nil ?_|refine w_skip ?_|refine w_block ?_|refine w_blk ?_|refine q7 ?_|refine q8 ?_|refine q9 ?_)
              refine w_fldA (by decide) rfl rfl ?_
              refine w_load1 (v := vL) hc6 rfl rfl rfl rfl ?_
              repeat (first|refine q1 ?_|refine q2 ?_|refine q3 ?_|refine q4 ?_|refine q5 ?_|refine q6 ?_|refine w_seq ?_|refine w_region ?_|refine w_ops_nil ?_|refine w_skip ?_|refine w_block ?_|refine w_blk ?_|refine q7 ?_|refine q8 ?_|refine q9 ?_)
              refine w_idx hrL rfl rfl (by omega) (by omega) rfl ?_
              refine w_loadE (i := j) (y := L[j]) hrL rfl hgj rfl rfl ?_
              refine w_store (us := El.gr.enc L[j]) (vs' := El.gr.enc L[j]) hc11 rfl rfl rfl rfl (El.gr.flat _) (show 0 + 25 ≤ 25 by decide) rfl fun k2 hkb2 hk2 hc11 => ?_
              repeat (first|refine q1 ?_|refine q2 ?_|refine q3 ?_|refine q4 ?_|refine q5 ?_|refine q6 ?_|refine w_seq ?_|refine w_region ?_|refine w_ops_nil ?_|refine w_skip ?_|refine w_block ?_|refine w_blk ?_|refine q7 ?_|refine q8 ?_|refine q9 ?_)
              exact w_again (j + 1) (by omega) ⟨k2, rfl, hk01.go hk2, by rw [e]; exact hc11, by omega⟩ ⟨rfl, rfl, rfl, rfl, rfl, rfl, rfl, rfl, rfl, rfl, trivial⟩
            · rw [hx] at hbe
              have hp := of_decide_eq_false hbe.symm
              have e : leastOf (L.take (j + 1)) = leastOf (L.take j) := by
                rw [hnx, if_neg (fun h => hp (.inl h)), if_neg (fun h => hp (.inr h))]
              repeat (first|refine q1 ?_|refine q2 ?_|refine q3 ?_|refine q4 ?_|refine q5 ?_|refine q6 ?_|refine w_seq ?_|refine w_region ?_|refine w_ops_nil ?_|refine w_skip ?_|refine w_block ?_|refine w_blk ?_|refine q7 ?_|refine q8 ?_|refine q9 ?_)
              exact w_again (j + 1) (by omega) ⟨k1, rfl, hk01, by rw [e]; exact hc11, by omega⟩ ⟨rfl, rfl, rfl, rfl, rfl, rfl, rfl, rfl, rfl, rfl, trivial⟩
          · have e : j = L.length := by omega
            subst e
            rw [List.take_length] at hc11
            repeat (first|refine q1 ?_|refine q2 ?_|refine q3 ?_|refine q4 ?_|refine q5 ?_|refine q6 ?_|refine w_seq ?_|refine w_region ?_|refine w_ops_nil ?_|refine w_skip ?_|refine w_block ?_|refine w_blk ?_|refine q7 ?_|refine q8 ?_|refine q9 ?_)
            exact w_meet () ⟨k0, rfl, hk0, hc11⟩ ⟨rfl, rfl, rfl, rfl, rfl, rfl, rfl, rfl, rfl, trivial⟩
        clear hc11
        rintro _ _ ⟨k0, rfl, hk0, hc11⟩
        replace hst2 := hst2.trans (hk0.mono (by simp) (by simp))
        replace hst := hst.trans (hk0.mono (by simp) (by simp))
        replace hr := hr.go hk0; replace hc6 := hc6.go hk0; replace hrL := hrL.go hk0; replace hb := hb.go hk0; replace hc9 := hc9.go hk0
        clear hk0
        repeat (first|refine q1 ?_|refine q2 ?_|refine q3 ?_|refine q4 ?_|refine q5 ?_|refine q6 ?_|refine w_seq ?_|refine w_region ?_|refine w_ops_nil ?_|refine w_skip ?_|refine w_block ?_|refine w_blk ?_|refine q7 ?_|refine q8 ?_|refine q9 ?_)
        refine w_loadS (us := [.int .i64 (roomZ room), vL]) hc6 rfl rfl rfl rfl rfl ?_
        refine w_loadS (us := El.ky.enc (keyI i)) hc9 rfl rfl rfl rfl rfl ?_
        repeat (first|refine q1 ?_|refine q2 ?_|refine q3 ?_|refine q4 ?_|refine q5 ?_|refine q6 ?_|refine w_seq ?_|refine w_region ?_|refine w_ops_nil ?_|refine w_skip ?_|refine w_block ?_|refine w_blk ?_|refine q7 ?_|refine q8 ?_|refine q9 ?_)
        refine w_callF (vs := [.agg #[.int .i64 (roomZ room), vL], El.ky.val (keyI i), .int .i64 (1 + ar), .int .i64 0]) rfl (ref18_PutF (roomZ room) L vL (keyI i) (1 + ar) 0 k0 hrL hl1000 hbk.nd2 hz.1) rfl fun u k1 hk1 hR => ?_
        obtain ⟨v', L', gone, lt, rfl, hrL', hput⟩ := hR
        rw [if_neg (by omega)] at hput
        obtain ⟨hins, hgone, hlt2⟩ := hput
        replace hst := hst.go hk1; replace hst2 := hst2.go hk1; replace hr := hr.go hk1; replace hc6 := hc6.go hk1; replace hb := hb.go hk1; replace hc9 := hc9.go hk1; replace hc11 := hc11.go hk1
        clear hrL
        repeat (first|refine q1 ?_|refine q2 ?_|refine q3 ?_|refine q4 ?_|refine q5 ?_|refine q6 ?_|refine w_seq ?_|refine w_region ?_|refine w_ops_nil ?_|refine w_skip ?_|refine w_block ?_|refine w_blk ?_|refine q7 ?_|refine q8 ?_|refine q9 ?_)
        refine w_alloc 47 (vs := [.int .i64 0, .slice none 0 0]) rfl rfl fun k2 b13 hk2 hc13 => ?_
        replace hst := hst.go hk2; replace hst2 := hst2.go hk2; replace hr := hr.go hk2; replace hc6 := hc6.go hk2; replace hrL' := hrL'.go hk2; replace hb := hb.go hk2; replace hc9 := hc9.go hk2; replace hc11 := hc11.go hk2
        refine w_alloc 48 (vs := El.ky.enc Ky.zero) rfl rfl fun k3 b14 hk3 hc14 => ?_
        replace hst := hst.go hk3; replace hst2 := hst2.go hk3; replace hr := hr.go hk3; replace hc6 := hc6.go hk3; replace hrL' := hrL'.go hk3; replace hb := hb.go hk3; replace hc9 := hc9.go hk3; replace hc11 := hc11.go hk3; replace hc13 := hc13.go hk3
        refine w_store (us := [.int .i64 (roomZ room), v']) (vs' := [.int .i64 (roomZ room), v']) hc13 rfl rfl rfl rfl (one v' hrL'.isSl.one) (show 0 + 2 ≤ 2 by decide) rfl fun k4 hkb4 hk4 hc13 => ?_
        replace hst := hst.go hk4; replace hst2 := hst2.go hk4; replace hr := hr.go hk4; replace hc6 := hc6.go hk4; replace hrL' := hrL'.go hk4; replace hb := hb.go hk4; replace hc9 := hc9.go hk4; replace hc11 := hc11.go hk4; replace hc14 := hc14.go hk4
        refine w_store (us := El.ky.enc gone) (vs' := El.ky.enc gone) hc14 rfl rfl rfl rfl (El.ky.flat _) (show 0 + 24 ≤ 24 by decide) rfl fun k5 hkb5 hk5 hc14 => ?_
        replace hst := hst.go hk5; replace hst2 := hst2.go hk5; replace hr := hr.go hk5; replace hc6 := hc6.go hk5; replace hrL' := hrL'.go hk5; replace hb := hb.go hk5; replace hc9 := hc9.go hk5; replace hc11 := hc11.go hk5; replace hc13 := hc13.go hk5
        clear hk1 hk2 hk3 hk4 hk5 hkb4 hkb5 hc14
        repeat (first|refine q1 ?_|refine q2 ?_|refine q3 ?_|refine q4 ?_|refine q5 ?_|refine q6 ?_|refine w_seq ?_|refine w_region ?_|refine w_ops_nil ?_|refine w_skip ?_|refine w_block ?_|refine w_blk ?_|refine q7 ?_|refine q8 ?_|refine q9 ?_)
        refine w_loadS (us := [.int .i64 (roomZ room), v']) hc13 rfl rfl rfl rfl rfl ?_
        refine w_store (us := [.int .i64 (roomZ room), v']) (vs' := [.int .i64 (roomZ room), v']) hc6 rfl rfl rfl rfl (one v' hrL'.isSl.one) (show 0 + 2 ≤ 2 by decide) rfl fun k6 hkb6 hk6 hc6 => ?_
        replace hst := hst.go hk6; replace hst2 := hst2.go hk6; replace hr := hr.go hk6; replace hrL' := hrL'.go hk6; replace hb := hb.go hk6; replace hc9 := hc9.go hk6; replace hc11 := hc11.go hk6
        clear hc13 hkb6 hk6
        repeat (first|refine q1 ?_|refine q2 ?_|refine q3 ?_|refine q4 ?_|refine q5 ?_|refine q6 ?_|refine w_seq ?_|refine w_region ?_|refine w_ops_nil ?_|refine w_skip ?_|refine w_block ?_|refine w_blk ?_|refine q7 ?_|refine q8 ?_|refine q9 ?_)
        refine w_loadS (us := El.ky.enc (keyI i)) hc9 rfl rfl rfl rfl rfl ?_
        repeat (first|refine q1 ?_|refine q2 ?_|refine q3 ?_|refine q4 ?_|refine q5 ?_|refine q6 ?_|refine w_seq ?_|refine w_region ?_|refine w_ops_nil ?_|refine w_skip ?_|refine w_block ?_|refine w_blk ?_|refine q7 ?_|refine q8 ?_|refine q9 ?_)
        refine w_callF (vs := [.pointer (some ⟨p, 0, none⟩), El.ky.val (keyI i), .int .i64 (1 + ar), .int .i64 0]) rfl (Book_PutF p (roomZ room) m (keyI i) (1 + ar) 0 k6 hb hbk.nd hml hz.1) rfl fun u k7 hk7 hR => ?_
        obtain ⟨rfl, hb⟩ := hR
        obtain ⟨hbk', hsame⟩ := hbk.put (roomZ room) (1 + ar) 0 (keyI i) (by omega) hins
        have hpl := ins_perm hins
        have hpr := pre_room (k := keyI i) (now := 0) hz.1 hLr
        have hL'r : (L'.length : Int) ≤ roomZ room := by have := hpl.length_eq; simp only [List.length_cons] at this; omega
        have hin' : ∀ x ∈ L', 1 ≤ x.2 ∧ ∃ j, j < i + 1 ∧ x.1 = keyI j := fun x hx => by
          rcases List.mem_cons.1 (hpl.mem_iff.1 hx) with rfl | hx
          · exact ⟨by dsimp only; omega, i, by omega, rfl⟩
          · have hx2 : x ∈ L := by
              unfold preL at hx
              rw [if_neg hfind] at hx
              split at hx
              · unfold mkRoomL at hx
                split at hx
                · exact (List.mem_filter.1 hx).1
                · cases L with
                  | nil => exact hx
                  | cons b l => exact (List.mem_filter.1 hx).1
              · exact hx
            obtain ⟨a1, j, a2, a3⟩ := hin x hx2
            exact ⟨a1, j, by omega, a3⟩
        rw [hsame] at *
        have hpre2 : (preL (roomZ room) 0 (keyI i) L).2 = if full then ((leastOf L).1, true) else (Ky.zero, false) := by
          unfold preL
          rw [if_neg hfind]
          cases full with
          | true =>
            rw [if_pos (of_decide_eq_true hfull)]
            refine mkRoomL_fresh (fun e => ?_) (fun x hx => (hin x hx).1)
            have := of_decide_eq_true hfull
            rw [e] at this; simp only [List.length_nil] at this; omega
          | false => rw [if_neg (of_decide_eq_false hfull)]; rfl
        rw [hpre2]
        generalize hg2 : (if full then ((leastOf L).1, true) else (Ky.zero, false) : Ky × Bool) = gl
        have hgl : gl.2 = full ∧ (full = true → gl.1 = (leastOf L).1) := by subst hg2; cases full <;> simp
        clear hg2 hgone hlt2 hpre2 hsame hins hpl
        generalize (putP (roomZ room) (1 + ar) 0 (keyI i) m).1 = m' at hb hbk'
        replace hst := hst.go hk7; replace hst2 := hst2.go hk7; replace hr := hr.go hk7; replace hc6 := hc6.go hk7; replace hrL' := hrL'.go hk7; replace hc11 := hc11.go hk7
        clear hk7 hc9 hbk hin hdec hfind
        repeat (first|refine q1 ?_|refine q2 ?_|refine q3 ?_|refine q4 ?_|refine q5 ?_|refine q6 ?_|refine w_seq ?_|refine w_region ?_|refine w_ops_nil ?_|refine w_skip ?_|refine w_block ?_|refine w_blk ?_|refine q7 ?_|refine q8 ?_|refine q9 ?_)
        refine w_alloc 49 (vs := El.ky.enc Ky.zero) rfl rfl fun k8 b16 hk8 hc16 => ?_
        replace hst := hst.go hk8; replace hst2 := hst2.go hk8; replace hr := hr.go hk8; replace hc6 := hc6.go hk8; replace hrL' := hrL'.go hk8; replace hb := hb.go hk8; replace hc11 := hc11.go hk8
        refine w_store (us := El.ky.enc gl.1) (vs' := El.ky.enc gl.1) hc16 rfl rfl rfl rfl (El.ky.flat _) (show 0 + 24 ≤ 24 by decide) rfl fun k9 hkb9 hk9 hc16 => ?_
        replace hst := hst.go hk9; replace hst2 := hst2.go hk9; replace hr := hr.go hk9; replace hc6 := hc6.go hk9; replace hrL' := hrL'.go hk9; replace hb := hb.go hk9; replace hc11 := hc11.go hk9
        clear hk8 hk9 hkb9
        rw [hgl.1]
        have hlen := hbk'.len
        repeat (first|refine q1 ?_|refine q2 ?_|refine q3 ?_|refine q4 ?_|refine q5 ?_|refine q6 ?_|refine w_seq ?_|refine w_region ?_|refine w_ops_nil ?_|refine w_skip ?_|refine w_blk ?_|refine q7 ?_|refine q8 ?_|refine q9 ?_)
        refine d_begin none [] (by kernel_rfl) fun g2 hsd => ?_
        replace hst := hst.go hsd; replace hst2 := hst2.go hsd; replace hr := hr.go hsd; replace hc6 := hc6.go hsd; replace hrL' := hrL'.go hsd; replace hb := hb.go hsd; replace hc11 := hc11.go hsd; replace hc16 := hc16.go hsd
        refine d_pure 0 calm_ret rfl (by kernel_rfl) rfl rfl ?_; refine d_pure 1 calm_ret rfl (by kernel_rfl) rfl rfl ?_
        refine d_read 2 calm_ret rfl (by kernel_rfl) rfl  (fun h hs => r_neBool rfl rfl) ?_
        refine d_known 94 (.bool false) rfl (congrArg Value.bool (decide_eq_false (fun h => h rfl))) ?_
        refine d_pure 3 calm_ret rfl (by kernel_rfl) rfl rfl ?_
        refine d_guard_pure 4 calm_ret rfl rfl rfl (by kernel_rfl) rfl rfl ?_
        refine d_readG 6 calm_ret rfl rfl rfl (by kernel_rfl) rfl  (fun h hs => r_fldA (by decide) rfl) ?_
        refine d_readG 7 calm_ret rfl rfl rfl (by kernel_rfl) rfl  (fun h hs => r_load1 (v := v') (hc6.go hs) rfl rfl rfl) ?_
        refine d_readG 8 calm_ret rfl rfl rfl (by kernel_rfl) rfl  (fun h hs => r_lenSl hrL'.isSl rfl) ?_
        refine d_exec1 5 (by kernel_rfl) rfl ?_
        refine w_guard_yes' rfl rfl rfl rfl ?_
        refine w_callF (vs := [.pointer (some ⟨p, 0, none⟩)]) rfl (Book_Len p (roomZ room) m' g2 hb) rfl fun u y1 hy1 hu => ?_
        subst hu
        have hqs := hy1
        replace hst := hst.go hy1; replace hst2 := hst2.go hy1; replace hr := hr.go hy1; replace hc6 := hc6.go hy1; replace hrL' := hrL'.go hy1; replace hb := hb.go hy1; replace hc11 := hc11.go hy1; replace hc16 := hc16.go hy1
        repeat (first|refine q1 ?_|refine q2 ?_|refine q3 ?_|refine q4 ?_|refine q5 ?_|refine q6 ?_|refine w_seq ?_|refine w_region ?_|refine w_ops_nil ?_|refine w_skip ?_|refine w_block ?_|refine w_blk ?_|refine q7 ?_|refine q8 ?_|refine q9 ?_)
        refine d_next (fun _ => ⟨y1, rfl, hqs⟩) ?_
        refine d_guard_pure 9 calm_ret rfl rfl rfl (by kernel_rfl) rfl rfl ?_
        refine d_known 101 (.bool false) rfl (congrArg Value.bool (decide_eq_false (fun h => h (by omega)))) ?_
        refine d_pure 10 calm_ret rfl (by kernel_rfl) rfl rfl ?_; refine d_pure 11 calm_ret rfl (by kernel_rfl) rfl rfl ?_
        refine d_guard_pure 12 calm_ret rfl rfl rfl (by kernel_rfl) rfl rfl ?_; refine d_guard_pure 14 calm_ret rfl rfl rfl (by kernel_rfl) rfl rfl ?_
        refine d_readG 15 calm_ret rfl rfl rfl (by kernel_rfl) rfl  (fun h hs => r_min rfl rfl) ?_
        refine d_readG 16 calm_ret rfl rfl rfl (by kernel_rfl) rfl  (fun h hs => r_max rfl rfl) ?_
        refine d_exec1 13 (by kernel_rfl) rfl ?_
        refine w_guard_yes' rfl rfl rfl rfl ?_
        refine w_callF (vs := [.pointer (some ⟨p, 0, none⟩)]) rfl (Book_Len p (roomZ room) m' y1 hb) rfl fun u j2 hj2 hu => ?_
        subst hu
        have hjs := hqs.trans hj2
        replace hst := hst.go hj2; replace hst2 := hst2.go hj2; replace hr := hr.go hj2; replace hc6 := hc6.go hj2; replace hrL' := hrL'.go hj2; replace hb := hb.go hj2; replace hc11 := hc11.go hj2; replace hc16 := hc16.go hj2
        repeat (first|refine q1 ?_|refine q2 ?_|refine q3 ?_|refine q4 ?_|refine q5 ?_|refine q6 ?_|refine w_seq ?_|refine w_region ?_|refine w_ops_nil ?_|refine w_skip ?_|refine w_block ?_|refine w_blk ?_|refine q7 ?_|refine q8 ?_|refine q9 ?_)
        refine d_next (fun _ => ⟨j2, rfl, hjs⟩) ?_
        refine d_guard_pure 17 calm_ret rfl rfl rfl (by kernel_rfl) rfl rfl ?_
        refine d_known 109 (.bool false) rfl (congrArg Value.bool (decide_eq_false (by unfold roomZ at hL'r; omega))) ?_
        refine d_pure 18 calm_ret rfl (by kernel_rfl) rfl rfl ?_
        refine d_done (by kernel_rfl) ?_
        repeat (first|refine q1 ?_|refine q2 ?_|refine q3 ?_|refine q4 ?_|refine q5 ?_|refine q6 ?_|refine w_seq ?_|refine w_region ?_|refine w_ops_nil ?_|refine w_skip ?_|refine w_block ?_|refine w_blk ?_|refine q7 ?_|refine q8 ?_|refine q9 ?_)
        cases full with
        | true =>
          refine w_known 17 (.bool true) rfl rfl ?_
          repeat (first|refine q1 ?_|refine q2 ?_|refine q3 ?_|refine q4 ?_|refine q5 ?_|refine q6 ?_|refine w_seq ?_|refine w_region ?_|refine w_ops_nil ?_|refine w_skip ?_|refine w_block ?_|refine w_blk ?_|refine q7 ?_|refine q8 ?_|refine q9 ?_)
          refine w_loadS (us := El.ky.enc gl.1) hc16 rfl rfl rfl rfl rfl ?_
          repeat (first|refine q1 ?_|refine q2 ?_|refine q3 ?_|refine q4 ?_|refine q5 ?_|refine q6 ?_|refine w_seq ?_|refine w_region ?_|refine w_ops_nil ?_|refine w_skip ?_|refine w_block ?_|refine w_blk ?_|refine q7 ?_|refine q8 ?_|refine q9 ?_)
          refine w_fldA (by decide) rfl rfl ?_
          repeat (first|refine q1 ?_|refine q2 ?_|refine q3 ?_|refine q4 ?_|refine q5 ?_|refine q6 ?_|refine w_seq ?_|refine w_region ?_|refine w_ops_nil ?_|refine w_skip ?_|refine w_block ?_|refine w_blk ?_|refine q7 ?_|refine q8 ?_|refine q9 ?_)
          refine w_loadS (us := El.ky.enc (leastOf L).1) hc11 rfl rfl rfl rfl rfl ?_
          repeat (first|refine q1 ?_|refine q2 ?_|refine q3 ?_|refine q4 ?_|refine q5 ?_|refine q6 ?_|refine w_seq ?_|refine w_region ?_|refine w_ops_nil ?_|refine w_skip ?_|refine w_block ?_|refine w_blk ?_|refine q7 ?_|refine q8 ?_|refine q9 ?_)
          refine w_neS (E := El.ky) (a := gl.1) (b := (leastOf L).1) rfl rfl rfl rfl ?_
          repeat (first|refine q1 ?_|refine q2 ?_|refine q3 ?_|refine q4 ?_|refine q5 ?_|refine q6 ?_|refine w_seq ?_|refine w_region ?_|refine w_ops_nil ?_|refine w_skip ?_|refine w_block ?_|refine w_blk ?_|refine q7 ?_|refine q8 ?_|refine q9 ?_)
          refine w_condP rfl (fun hx => absurd (hgl.2 rfl) hx) (fun _ => ?_)
          repeat (first|refine q1 ?_|refine q2 ?_|refine q3 ?_|refine q4 ?_|refine q5 ?_|refine q6 ?_|refine w_seq ?_|refine w_region ?_|refine w_ops_nil ?_|refine w_skip ?_|refine w_block ?_|refine w_blk ?_|refine q7 ?_|refine q8 ?_|refine q9 ?_)
          exact w_again (i + 1) (by omega) ⟨j2, m', L', v', rfl, hst2, hc6, hrL', hb, hbk', by omega, by omega, hL'r, hin'⟩ ⟨rfl, rfl, rfl, rfl, rfl, trivial⟩
        | false =>
          refine w_known 17 (.bool false) rfl rfl ?_
          repeat (first|refine q1 ?_|refine q2 ?_|refine q3 ?_|refine q4 ?_|refine q5 ?_|refine q6 ?_|refine w_seq ?_|refine w_region ?_|refine w_ops_nil ?_|refine w_skip ?_|refine w_block ?_|refine w_blk ?_|refine q7 ?_|refine q8 ?_|refine q9 ?_)
          exact w_again (i + 1) (by omega) ⟨j2, m', L', v', rfl, hst2, hc6, hrL', hb, hbk', by omega, by omega, hL'r, hin'⟩ ⟨rfl, rfl, rfl, rfl, rfl, trivial⟩
      · repeat (first|refine q1 ?_|refine q2 ?_|refine q3 ?_|refine q4 ?_|refine q5 ?_|refine q6 ?_|refine w_seq ?_|refine w_region ?_|refine w_ops_nil ?_|refine w_skip ?_|refine w_block ?_|refine w_blk ?_|refine q7 ?_|refine q8 ?_|refine q9 ?_)
        exact w_meet () ⟨h, rfl, hst⟩ trivial
    · repeat (first|refine q1 ?_|refine q2 ?_|refine q3 ?_|refine q4 ?_|refine q5 ?_|refine q6 ?_|refine w_seq ?_|refine w_region ?_|refine w_ops_nil ?_|refine w_skip ?_|refine w_block ?_|refine w_blk ?_|refine q7 ?_|refine q8 ?_|refine q9 ?_)
      exact w_meet () ⟨h, rfl, hst⟩ trivial
  rintro _ _ ⟨h, rfl, hst⟩
  repeat (first|refine q1 ?_|refine q2 ?_|refine q3 ?_|refine q4 ?_|refine q5 ?_|refine q6 ?_|refine w_seq ?_|refine w_region ?_|refine w_ops_nil ?_|refine w_skip ?_|refine w_block ?_|refine w_blk ?_|refine q7 ?_|refine q8 ?_|refine q9 ?_)
  refine w_callF rfl (law18_lives h) rfl fun u k5 ks5 hu => ?_
  subst hu
  repeat (first|refine q1 ?_|refine q2 ?_|refine q3 ?_|refine q4 ?_|refine q5 ?_|refine q6 ?_|refine w_seq ?_|refine w_region ?_|refine w_ops_nil ?_|refine w_skip ?_|refine w_block ?_|refine w_blk ?_|refine q7 ?_|refine q8 ?_|refine q9 ?_)
  exact w_retG (res1 rfl rfl) (hst.go ks5) fun h' _ => rfl
end Go.Proofs.Ytkgbodmlmeholaa
