/- Names of hosts: the reference's writer. No statement of the seat is proved here. -/
import Derived.Test.YtnfokdhgajanpaaLab1
set_option linter.unusedVariables false
namespace Go.Proofs.Ytnfokdhgajanpaa
open Go
attribute [local irreducible] Wp

theorem oneSl {v : Value} {n : Nat} (h : IsSl v n) : v.oneCell' = true := h.one
theorem RW.isl {g : G} {vB vN vA : Value} {B : List UInt8} {m : WM} (hw : RW g vB vN vA B m) : IsSl vB B.length := hw.b.isSl

theorem ptr_eq (n : Nat) : [UInt8.ofNat ((192 : Int) + (n : Int) / 256).toNat, UInt8.ofNat ((n : Int) % 256).toNat] = ptrB n := by
  have e1 : ((192 : Int) + (n : Int) / 256).toNat = 192 + n / 256 := by omega
  have e2 : ((n : Int) % 256).toNat = n % 256 := by omega
  rw [e1, e2]; rfl

/-- What the writer ends with, when the labels from the i-th on are still to be written. -/
def nameEnd (B0 : List UInt8) (m0 : WM) (s : List UInt8) : List UInt8 × WM := if mayB s = true then nameGo B0 m0 (labelsB s) else (B0, m0)

theorem nameGo_step (B : List UInt8) (m : WM) (l : List (List UInt8)) (i : Nat) (h : i < l.length) : nameGo B m (l.drop i) = match mget (joinB [46] (l.drop i)) m with
    | some n => (B ++ ptrB n, m)
    | none => nameGo (B ++ [UInt8.ofNat l[i].length] ++ l[i]) (if B.length < 16384 then m ++ [(joinB [46] (l.drop i), B.length)] else m) (l.drop (i + 1)) := by
  rw [List.drop_eq_getElem_cons h]; rfl

theorem ref08_Name (s : List UInt8) (B : List UInt8) (m : WM) (g : G) {vB vN vA : Value} (hw : RW g vB vN vA B m) (hs : s.length ≤ 100000) (hB : B.length ≤ 1000000) (hm : m.length ≤ 1000000) :
    Fn Try.prog 13 [.agg #[vB, vN, vA], str s] g [11, 12, 13] fun u h => ∃ vB' vN' vA', u = .tuple #[.agg #[vB', vN', vA'], .bool (mayB s)] ∧ RW h vB' vN' vA' (nameEnd B m s).1 (nameEnd B m s).2 := by
  refine enterG [11, 12, 13] [14, 15, 16] Try.func13 rfl Try.ntmps13 rfl (by simp) fun g1 hv ho => ?_
  replace hw := hw.view hv (by simp) (by simp) (by simp)
  repeat (first|refine q1 ?_|refine q2 ?_|refine q3 ?_|refine q4 ?_|refine q5 ?_|refine q6 ?_|refine w_seq ?_|refine w_region ?_|refine w_ops_nil ?_|refine w_skip ?_|refine w_block ?_|refine w_blk ?_|refine q7 ?_|refine q8 ?_|refine q9 ?_)
  refine w_box 14 (vs := [vB, vN, vA]) rfl rfl rfl fun h1 b1 hs1 hcell => ?_
  refine w_alloc 15 (vs := [.slice none 0 0, .slice none 0 0, .slice none 0 0]) rfl rfl fun h2 b2 hs2 hres => ?_
  replace hcell := hcell.step hs2 (by simp) (by simp)
  replace hw := (hw.step hs1 (by simp) (by simp) (by simp)).step hs2 (by simp) (by simp) (by simp)
  have hst := hs1.trans hs2
  repeat (first|refine q1 ?_|refine q2 ?_|refine q3 ?_|refine q4 ?_|refine q5 ?_|refine q6 ?_|refine w_seq ?_|refine w_region ?_|refine w_ops_nil ?_|refine w_skip ?_|refine w_block ?_|refine w_blk ?_|refine q7 ?_|refine q8 ?_|refine q9 ?_)
  refine w_callF rfl (ref08_May s h2 (by omega)) rfl fun v h3 hs3 hr => ?_
  subst hr
  replace hcell := hcell.step hs3 (by simp) (by simp)
  replace hres := hres.step hs3 (by simp) (by simp)
  replace hw := hw.step hs3 (by simp) (by simp) (by simp)
  replace hst := hst.trans hs3
  repeat (first|refine q1 ?_|refine q2 ?_|refine q3 ?_|refine q4 ?_|refine q5 ?_|refine q6 ?_|refine w_seq ?_|refine w_region ?_|refine w_ops_nil ?_|refine w_skip ?_|refine w_block ?_|refine w_blk ?_|refine q7 ?_|refine q8 ?_|refine q9 ?_)
  refine w_cond rfl (fun hc => ?_) (fun hc => ?_)
  · have hmay : mayB s = false := by simpa using hc
    repeat (first|refine q1 ?_|refine q2 ?_|refine q3 ?_|refine q4 ?_|refine q5 ?_|refine q6 ?_|refine w_seq ?_|refine w_region ?_|refine w_ops_nil ?_|refine w_skip ?_|refine w_block ?_|refine w_blk ?_|refine q7 ?_|refine q8 ?_|refine q9 ?_)
    refine w_loadS (us := [vB, vN, vA]) hcell rfl rfl rfl rfl rfl ?_
    refine w_store (us := [vB, vN, vA]) (vs' := [vB, vN, vA]) hres rfl rfl rfl rfl ?_ (by simp) rfl fun h4 hb4 hs4 hres4 => ?_
    · simp [hw.b.isSl.one, hw.n.isSl.one, hw.a.isSl.one]
    repeat (first|refine q1 ?_|refine q2 ?_|refine q3 ?_|refine q4 ?_|refine q5 ?_|refine q6 ?_|refine w_seq ?_|refine w_region ?_|refine w_ops_nil ?_|refine w_skip ?_|refine w_block ?_|refine w_blk ?_|refine q7 ?_|refine q8 ?_|refine q9 ?_)
    refine w_retG (resCs1 hres4 rfl rfl rfl rfl rfl) ((hst.nil.trans (hs4.mono (by simp) (by simp)))) fun h' hv' => ?_
    · refine ⟨vB, vN, vA, by rw [hmay], ?_⟩
      simp only [nameEnd, hmay]
      exact (hw.step hs4 (by simp) (by simp) (by simp)).view hv' (by simp) (by simp) (by simp)
  · have hmay : mayB s = true := by simpa using hc
    repeat (first|refine q1 ?_|refine q2 ?_|refine q3 ?_|refine q4 ?_|refine q5 ?_|refine q6 ?_|refine w_seq ?_|refine w_region ?_|refine w_ops_nil ?_|refine w_skip ?_|refine w_block ?_|refine w_blk ?_|refine q7 ?_|refine q8 ?_|refine q9 ?_)
    refine w_callF rfl (ref08_Labels s h3 (by omega)) rfl fun vL h4 hs4 hrL => ?_
    replace hcell := hcell.step hs4 (by simp) (by simp)
    replace hres := hres.step hs4 (by simp) (by simp)
    replace hw := hw.step hs4 (by simp) (by simp) (by simp)
    replace hst := hst.trans hs4
    repeat (first|refine q1 ?_|refine q2 ?_|refine q3 ?_|refine q4 ?_|refine q5 ?_|refine q6 ?_|refine w_seq ?_|refine w_region ?_|refine w_ops_nil ?_|refine w_skip ?_|refine w_block ?_|refine w_blk ?_|refine q7 ?_|refine q8 ?_|refine q9 ?_)
    have hll := labelsB_length s
    have hlf := labelsB_flat s
    refine w_loop (ι := Nat) (fun i => [(1, str s), (2, .pointer (some ⟨b1, 0, none⟩)), (4, .pointer (some ⟨b2, 0, none⟩)), (7, vL), (8, .int .i64 (i : Int))])
      (fun i w => ∃ h : G, h.w = w ∧ Step [] [11, 12, 13, 14, 15, 16] g1 h ∧ Rd h 0 El.str vL (labelsB s) ∧ (∃ r, Cell h 15 b2 29 r ∧ r.length = 3) ∧ i ≤ (labelsB s).length ∧
        ∃ vB vN vA B' m', Cell h 14 b1 29 [vB, vN, vA] ∧ RW h vB vN vA B' m' ∧ nameEnd B m s = nameGo B' m' ((labelsB s).drop i) ∧ m'.length ≤ 1000000 + i ∧ B'.length ≤ B.length + i + ((labelsB s).take i).flatten.length)
      (fun i => (labelsB s).length - i) 0 ⟨h4, rfl, hst.nil, hrL, ⟨_, hres, rfl⟩, by omega, vB, vN, vA, B, m, hcell, hw, by simp [nameEnd, hmay], by omega, by simp⟩ ⟨rfl, rfl, rfl, rfl, rfl, trivial⟩ ?_
    clear hcell hres hw hst hs1 hs2 hs3 hs4 hrL
    rintro i _ ⟨h, rfl, hst, hrL, ⟨r, hres, hrl⟩, hi, vB, vN, vA, B', m', hcell, hw, hend, hb2, hb3⟩
    have hb1 := flatten_take (labelsB s) i
    repeat (first|refine q1 ?_|refine q2 ?_|refine q3 ?_|refine q4 ?_|refine q5 ?_|refine q6 ?_|refine w_seq ?_|refine w_region ?_|refine w_ops_nil ?_|refine w_skip ?_|refine w_block ?_|refine w_blk ?_|refine q7 ?_|refine q8 ?_|refine q9 ?_)
    refine w_lenSl hrL.isSl rfl rfl ?_
    repeat (first|refine q1 ?_|refine q2 ?_|refine q3 ?_|refine q4 ?_|refine q5 ?_|refine q6 ?_|refine w_seq ?_|refine w_region ?_|refine w_ops_nil ?_|refine w_skip ?_|refine w_block ?_|refine w_blk ?_|refine q7 ?_|refine q8 ?_|refine q9 ?_)
    refine w_condP rfl (fun hc => ?_) (fun hc => ?_)
    · have hlt : i < (labelsB s).length := by omega
      have hle := len_le_flatten (labelsB s) i (labelsB s)[i] (by simp [hlt])
      rw [nameGo_step _ _ _ _ hlt] at hend
      repeat (first|refine q1 ?_|refine q2 ?_|refine q3 ?_|refine q4 ?_|refine q5 ?_|refine q6 ?_|refine w_seq ?_|refine w_region ?_|refine w_ops_nil ?_|refine w_skip ?_|refine w_block ?_|refine w_blk ?_|refine q7 ?_|refine q8 ?_|refine q9 ?_)
      refine w_callF rfl (ref08_Rest s i h (by omega)) rfl fun v h5 hs5 hr => ?_
      subst hr
      replace hcell := hcell.step hs5 (by simp) (by simp)
      replace hres := hres.step hs5 (by simp) (by simp)
      replace hw := hw.step hs5 (by simp) (by simp) (by simp)
      replace hrL := hrL.step hs5 (by simp)
      replace hst := hst.trans hs5.nil
      repeat (first|refine q1 ?_|refine q2 ?_|refine q3 ?_|refine q4 ?_|refine q5 ?_|refine q6 ?_|refine w_seq ?_|refine w_region ?_|refine w_ops_nil ?_|refine w_skip ?_|refine w_block ?_|refine w_blk ?_|refine q7 ?_|refine q8 ?_|refine q9 ?_)
      refine w_loadS (us := [vB, vN, vA]) hcell rfl rfl rfl rfl rfl ?_
      repeat (first|refine q1 ?_|refine q2 ?_|refine q3 ?_|refine q4 ?_|refine q5 ?_|refine q6 ?_|refine w_seq ?_|refine w_region ?_|refine w_ops_nil ?_|refine w_skip ?_|refine w_block ?_|refine w_blk ?_|refine q7 ?_|refine q8 ?_|refine q9 ?_)
      refine w_callF rfl (ref08_find (restB s i) m' h5 hw.b.isSl.one hw.n.rd hw.a.rd) rfl fun v h6 hs6 hr => ?_
      replace hcell := hcell.step hs6 (by simp) (by simp)
      replace hres := hres.step hs6 (by simp) (by simp)
      replace hw := hw.step hs6 (by simp) (by simp) (by simp)
      replace hrL := hrL.step hs6 (by simp)
      replace hst := hst.trans hs6.nil
      rw [show joinB [46] (List.drop i (labelsB s)) = restB s i from rfl] at hend
      cases hg : mget (restB s i) m' with
      | some n =>
        rw [hg] at hr hend
        dsimp only at hr hend
        subst hr
        repeat (first|refine q1 ?_|refine q2 ?_|refine q3 ?_|refine q4 ?_|refine q5 ?_|refine q6 ?_|refine w_seq ?_|refine w_region ?_|refine w_ops_nil ?_|refine w_skip ?_|refine w_block ?_|refine w_blk ?_|refine q7 ?_|refine q8 ?_|refine q9 ?_)
        have hn := mget_small hw.s hg
        refine w_condP rfl (fun h0 => ?_) (fun h0 => ?_)
        case refine_2 => omega
        repeat (first|refine q1 ?_|refine q2 ?_|refine q3 ?_|refine q4 ?_|refine q5 ?_|refine q6 ?_|refine w_seq ?_|refine w_region ?_|refine w_ops_nil ?_|refine w_skip ?_|refine w_block ?_|refine w_blk ?_|refine q7 ?_|refine q8 ?_|refine q9 ?_)
        refine w_fldA (by decide) rfl rfl ?_
        refine w_load1 hcell rfl rfl rfl rfl ?_
        repeat (first|refine q1 ?_|refine q2 ?_|refine q3 ?_|refine q4 ?_|refine q5 ?_|refine q6 ?_|refine w_seq ?_|refine w_region ?_|refine w_ops_nil ?_|refine w_skip ?_|refine w_block ?_|refine w_blk ?_|refine q7 ?_|refine q8 ?_|refine q9 ?_)
        refine w_quo rfl rfl (by omega) rfl ?_
        repeat (first|refine q1 ?_|refine q2 ?_|refine q3 ?_|refine q4 ?_|refine q5 ?_|refine q6 ?_|refine w_seq ?_|refine w_region ?_|refine w_ops_nil ?_|refine w_skip ?_|refine w_block ?_|refine w_blk ?_|refine q7 ?_|refine q8 ?_|refine q9 ?_)
        refine w_convB rfl (by omega) rfl ?_
        repeat (first|refine q1 ?_|refine q2 ?_|refine q3 ?_|refine q4 ?_|refine q5 ?_|refine q6 ?_|refine w_seq ?_|refine w_region ?_|refine w_ops_nil ?_|refine w_skip ?_|refine w_block ?_|refine w_blk ?_|refine q7 ?_|refine q8 ?_|refine q9 ?_)
        refine w_rem rfl rfl (by omega) rfl ?_
        refine w_convB rfl (by omega) rfl ?_
        refine w_buildSlR El.u8 [UInt8.ofNat ((192 : Int) + (n : Int) / 256).toNat, UInt8.ofNat ((n : Int) % 256).toNat] rfl rfl rfl rfl fun h7 v7 hs7 hr7 => ?_
        refine w_append (hw.b.step hs7 (by simp)) hr7 rfl rfl rfl (by decide) (by simp; omega) rfl fun h8 v8 hs8 ho8 => ?_
        rw [ptr_eq] at ho8
        replace hcell := (hcell.step hs7 (by simp) (by simp)).step hs8 (by simp) (by simp)
        replace hres := (hres.step hs7 (by simp) (by simp)).step hs8 (by simp) (by simp)
        replace hst := (hst.trans hs7.nil).trans (hs8.mono (by simp) (by simp))
        have hwn := (hw.n.step hs7 (by simp)).step hs8 (by simp)
        have hwa := (hw.a.step hs7 (by simp)).step hs8 (by simp)
        repeat (first|refine q1 ?_|refine q2 ?_|refine q3 ?_|refine q4 ?_|refine q5 ?_|refine q6 ?_|refine w_seq ?_|refine w_region ?_|refine w_ops_nil ?_|refine w_skip ?_|refine w_block ?_|refine w_blk ?_|refine q7 ?_|refine q8 ?_|refine q9 ?_)
        refine w_fldA (by decide) rfl rfl ?_
        refine w_store1 hcell rfl rfl ho8.isSl.one (by simp) fun h9 hb9 hs9 hcell9 => ?_
        have hw9 : RW h9 v8 vN vA (B' ++ ptrB n) m' := ⟨ho8.step hs9 (by simp), hwn.step hs9 (by simp), hwa.step hs9 (by simp), hw.s⟩
        replace hres := hres.step hs9 (by simp) (by simp)
        replace hst := hst.trans (hs9.mono (by simp) (by simp))
        repeat (first|refine q1 ?_|refine q2 ?_|refine q3 ?_|refine q4 ?_|refine q5 ?_|refine q6 ?_|refine w_seq ?_|refine w_region ?_|refine w_ops_nil ?_|refine w_skip ?_|refine w_block ?_|refine w_blk ?_|refine q7 ?_|refine q8 ?_|refine q9 ?_)
        refine w_loadS (us := [v8, vN, vA]) hcell9 rfl rfl rfl rfl rfl ?_
        repeat (first|refine q1 ?_|refine q2 ?_|refine q3 ?_|refine q4 ?_|refine q5 ?_|refine q6 ?_|refine w_seq ?_|refine w_region ?_|refine w_ops_nil ?_|refine w_skip ?_|refine w_block ?_|refine w_blk ?_|refine q7 ?_|refine q8 ?_|refine q9 ?_)
        refine w_store (us := [v8, vN, vA]) (vs' := [v8, vN, vA]) hres rfl rfl rfl rfl ?_ (by simp [hrl]) (by simp [hrl]) fun h10 hb10 hs10 hres10 => ?_
        · simp [hw9.b.isSl.one, hw9.n.isSl.one, hw9.a.isSl.one]
        repeat (first|refine q1 ?_|refine q2 ?_|refine q3 ?_|refine q4 ?_|refine q5 ?_|refine q6 ?_|refine w_seq ?_|refine w_region ?_|refine w_ops_nil ?_|refine w_skip ?_|refine w_block ?_|refine w_blk ?_|refine q7 ?_|refine q8 ?_|refine q9 ?_)
        refine w_retG (resCs1 hres10 rfl rfl rfl rfl rfl) (hst.trans (hs10.mono (by simp) (by simp))) fun h' hv' => ?_
        refine ⟨v8, vN, vA, by rw [hmay], ?_⟩
        rw [hend]
        exact (hw9.step hs10 (by simp) (by simp) (by simp)).view hv' (by simp) (by simp) (by simp)
      | none =>
        rw [hg] at hr hend
        dsimp only at hr hend
        obtain ⟨z, hz, rfl⟩ : ∃ z : Int, z < 0 ∧ v = .int .i64 z := ⟨-1, by omega, hr⟩
        repeat (first|refine q1 ?_|refine q2 ?_|refine q3 ?_|refine q4 ?_|refine q5 ?_|refine q6 ?_|refine w_seq ?_|refine w_region ?_|refine w_ops_nil ?_|refine w_skip ?_|refine w_block ?_|refine w_blk ?_|refine q7 ?_|refine q8 ?_|refine q9 ?_)
        refine w_condP rfl (fun h0 => ?_) (fun h0 => ?_)
        case refine_1 => omega
        repeat (first|refine q1 ?_|refine q2 ?_|refine q3 ?_|refine q4 ?_|refine q5 ?_|refine q6 ?_|refine w_seq ?_|refine w_region ?_|refine w_ops_nil ?_|refine w_skip ?_|refine w_block ?_|refine w_blk ?_|refine q7 ?_|refine q8 ?_|refine q9 ?_)
        refine w_fldA (by decide) rfl rfl ?_
        refine w_load1 hcell rfl rfl rfl rfl ?_
        refine w_lenSl hw.b.isSl rfl rfl ?_
        repeat (first|refine q1 ?_|refine q2 ?_|refine q3 ?_|refine q4 ?_|refine q5 ?_|refine q6 ?_|refine w_seq ?_|refine w_region ?_|refine w_ops_nil ?_|refine w_skip ?_|refine w_block ?_|refine w_blk ?_|refine q7 ?_|refine q8 ?_|refine q9 ?_)
        refine w_cut (ι := Unit) (fun _ => [(1, str s), (2, .pointer (some ⟨b1, 0, none⟩)), (4, .pointer (some ⟨b2, 0, none⟩)), (7, vL), (8, .int .i64 (i : Int))])
          (fun _ w => ∃ h : G, h.w = w ∧ Step [] [11, 12, 13, 14, 15, 16] g1 h ∧ Rd h 0 El.str vL (labelsB s) ∧ (∃ r, Cell h 15 b2 29 r ∧ r.length = 3) ∧
            ∃ vN vA, Cell h 14 b1 29 [vB, vN, vA] ∧ RW h vB vN vA B' (if B'.length < 16384 then m' ++ [(restB s i, B'.length)] else m')) ?_ ?_
        · refine w_condP rfl (fun h1 => ?_) (fun h1 => ?_)
          · repeat (first|refine q1 ?_|refine q2 ?_|refine q3 ?_|refine q4 ?_|refine q5 ?_|refine q6 ?_|refine w_seq ?_|refine w_region ?_|refine w_ops_nil ?_|refine w_skip ?_|refine w_block ?_|refine w_blk ?_|refine q7 ?_|refine q8 ?_|refine q9 ?_)
            refine w_fldA (by decide) rfl rfl ?_
            refine w_load1 hcell rfl rfl rfl rfl ?_
            repeat (first|refine q1 ?_|refine q2 ?_|refine q3 ?_|refine q4 ?_|refine q5 ?_|refine q6 ?_|refine w_seq ?_|refine w_region ?_|refine w_ops_nil ?_|refine w_skip ?_|refine w_block ?_|refine w_blk ?_|refine q7 ?_|refine q8 ?_|refine q9 ?_)
            refine w_buildSlR El.str [restB s i] rfl rfl rfl rfl fun h7 v7 hs7 hr7 => ?_
            replace hw := hw.step hs7 (by simp) (by simp) (by simp)
            replace hcell := hcell.step hs7 (by simp) (by simp)
            replace hres := hres.step hs7 (by simp) (by simp)
            replace hrL := hrL.step hs7 (by simp)
            replace hst := hst.trans hs7.nil
            refine w_append hw.n hr7 rfl rfl rfl (by decide) (by simp; omega) rfl fun h8 v8 hs8 ho8 => ?_
            replace hcell := hcell.step hs8 (by simp) (by simp)
            replace hres := hres.step hs8 (by simp) (by simp)
            replace hrL := hrL.step hs8 (by simp)
            replace hst := hst.trans (hs8.mono (by simp) (by simp))
            have hwb := hw.b.step hs8 (by simp)
            have hwa := hw.a.step hs8 (by simp)
            refine w_fldA (by decide) rfl rfl ?_
            refine w_store1 hcell rfl rfl ho8.isSl.one (by simp) fun h9 hb9 hs9 hcell9 => ?_
            replace hwb := hwb.step hs9 (by simp)
            replace hwa := hwa.step hs9 (by simp)
            replace ho8 := ho8.step hs9 (by simp)
            replace hres := hres.step hs9 (by simp) (by simp)
            replace hrL := hrL.step hs9 (by simp)
            replace hst := hst.trans (hs9.mono (by simp) (by simp))
            repeat (first|refine q1 ?_|refine q2 ?_|refine q3 ?_|refine q4 ?_|refine q5 ?_|refine q6 ?_|refine w_seq ?_|refine w_region ?_|refine w_ops_nil ?_|refine w_skip ?_|refine w_block ?_|refine w_blk ?_|refine q7 ?_|refine q8 ?_|refine q9 ?_)
            refine w_fldA (by decide) rfl rfl ?_
            refine w_load1 hcell9 rfl rfl rfl rfl ?_
            refine w_fldA (by decide) rfl rfl ?_
            refine w_load1 hcell9 rfl rfl rfl rfl ?_
            refine w_lenSl hwb.isSl rfl rfl ?_
            repeat (first|refine q1 ?_|refine q2 ?_|refine q3 ?_|refine q4 ?_|refine q5 ?_|refine q6 ?_|refine w_seq ?_|refine w_region ?_|refine w_ops_nil ?_|refine w_skip ?_|refine w_block ?_|refine w_blk ?_|refine q7 ?_|refine q8 ?_|refine q9 ?_)
            refine w_buildSlR El.int [(B'.length : Int)] rfl rfl rfl rfl fun h10 v10 hs10 hr10 => ?_
            replace hcell9 := hcell9.step hs10 (by simp) (by simp)
            replace hres := hres.step hs10 (by simp) (by simp)
            replace hrL := hrL.step hs10 (by simp)
            replace hst := hst.trans hs10.nil
            replace hwb := hwb.step hs10 (by simp)
            replace hwa := hwa.step hs10 (by simp)
            replace ho8 := ho8.step hs10 (by simp)
            refine w_append hwa hr10 rfl rfl rfl (by decide) (by simp; omega) rfl fun h11 v11 hs11 ho11 => ?_
            replace hcell9 := hcell9.step hs11 (by simp) (by simp)
            replace hres := hres.step hs11 (by simp) (by simp)
            replace hrL := hrL.step hs11 (by simp)
            replace hst := hst.trans (hs11.mono (by simp) (by simp))
            replace hwb := hwb.step hs11 (by simp)
            replace ho8 := ho8.step hs11 (by simp)
            refine w_fldA (by decide) rfl rfl ?_
            refine w_store1 hcell9 rfl rfl ho11.isSl.one (by simp) fun h12 hb12 hs12 hcell12 => ?_
            repeat (first|refine q1 ?_|refine q2 ?_|refine q3 ?_|refine q4 ?_|refine q5 ?_|refine q6 ?_|refine w_seq ?_|refine w_region ?_|refine w_ops_nil ?_|refine w_skip ?_|refine w_block ?_|refine w_blk ?_|refine q7 ?_|refine q8 ?_|refine q9 ?_)
            refine w_meet () ⟨h12, rfl, hst.trans (hs12.mono (by simp) (by simp)), hrL.step hs12 (by simp), ⟨_, hres.step hs12 (by simp) (by simp), hrl⟩, v8, v11, hcell12, ?_⟩ ⟨rfl, rfl, rfl, rfl, rfl, trivial⟩
            rw [if_pos (by omega)]
            refine ⟨hwb.step hs12 (by simp), ?_, ?_, fun p hp => ?_⟩
            · rw [List.map_append]; exact ho8.step hs12 (by simp)
            · rw [List.map_append]; exact ho11.step hs12 (by simp)
            · rcases List.mem_append.1 hp with hp | hp
              · exact hw.s p hp
              · simp at hp; subst hp; simp; omega
          · repeat (first|refine q1 ?_|refine q2 ?_|refine q3 ?_|refine q4 ?_|refine q5 ?_|refine q6 ?_|refine w_seq ?_|refine w_region ?_|refine w_ops_nil ?_|refine w_skip ?_|refine w_block ?_|refine w_blk ?_|refine q7 ?_|refine q8 ?_|refine q9 ?_)
            refine w_meet () ⟨h6, rfl, hst, hrL, ⟨_, hres, hrl⟩, vN, vA, hcell, ?_⟩ ⟨rfl, rfl, rfl, rfl, rfl, trivial⟩
            rw [if_neg (by omega)]; exact hw
        · clear hcell hres hw hst hrL hs5 hs6
          rintro _ _ ⟨h, rfl, hst, hrL, ⟨r, hres, hrl⟩, vN, vA, hcell, hw⟩
          refine w_seq ?_
          refine d_begin (some 9) [] (by kernel_rfl) fun g2 hs2 => ?_
          replace hw := hw.step hs2 (by simp) (by simp) (by simp)
          replace hcell := hcell.step hs2 (by simp) (by simp)
          replace hres := hres.step hs2 (by simp) (by simp)
          replace hrL := hrL.step hs2 (by simp)
          replace hst := hst.trans hs2.nil
          refine d_read 0 calm_ret rfl (by kernel_rfl) rfl  (fun h hs => r_fldA (by decide) rfl) ?_
          refine d_read 1 calm_ret rfl (by kernel_rfl) rfl  (fun h hs => r_load1 (hcell.step hs (by simp) (by simp)) rfl rfl rfl) ?_
          refine d_pure 2 calm_ret rfl (by kernel_rfl) rfl rfl ?_; refine d_pure 3 calm_ret rfl (by kernel_rfl) rfl rfl ?_
          refine d_read 4 calm_ret rfl (by kernel_rfl) rfl  (fun h hs => r_idx (hrL.step hs (by simp)) rfl rfl (by omega) (by simp; omega)) ?_
          refine d_read 5 calm_ret rfl (by kernel_rfl) rfl  (fun h hs => r_loadE (i := i) (y := (labelsB s)[i]) (hrL.step hs (by simp)) rfl (by simp [hlt]) rfl) ?_
          refine d_read 6 calm_ret rfl (by kernel_rfl) rfl  (fun h hs => r_lenStr rfl) ?_
          refine d_read 7 calm_ret rfl (by kernel_rfl) rfl  (fun h hs => r_convB rfl (by omega)) ?_
          refine d_exec1 8 (by kernel_rfl) rfl ?_
          refine w_buildSlR El.u8 [UInt8.ofNat ((labelsB s)[i].length : Int).toNat] rfl rfl rfl rfl fun h3 v3 hs3 hr3 => ?_
          repeat (first|refine q1 ?_|refine q2 ?_|refine q3 ?_|refine q4 ?_|refine q5 ?_|refine q6 ?_|refine w_seq ?_|refine w_region ?_|refine w_ops_nil ?_|refine w_skip ?_|refine w_block ?_|refine w_blk ?_|refine q7 ?_|refine q8 ?_|refine q9 ?_)
          refine d_next (fun _ => ⟨h3, rfl, hs3⟩) ?_
          refine d_exec1 9 (by kernel_rfl) rfl ?_
          refine w_append (hw.b.step hs3 (by simp)) hr3 rfl rfl rfl (by decide) (by simp; omega) rfl fun h4 v4 hs4 ho4 => ?_
          have hwn := (hw.n.step hs3 (by simp)).step hs4 (by simp)
          have hwa := (hw.a.step hs3 (by simp)).step hs4 (by simp)
          replace hcell := (hcell.step hs3 (by simp) (by simp)).step hs4 (by simp) (by simp)
          replace hres := (hres.step hs3 (by simp) (by simp)).step hs4 (by simp) (by simp)
          replace hrL := (hrL.step hs3 (by simp)).step hs4 (by simp)
          replace hst := (hst.trans hs3.nil).trans (hs4.mono (by simp) (by simp))
          repeat (first|refine q1 ?_|refine q2 ?_|refine q3 ?_|refine q4 ?_|refine q5 ?_|refine q6 ?_|refine w_seq ?_|refine w_region ?_|refine w_ops_nil ?_|refine w_skip ?_|refine w_block ?_|refine w_blk ?_|refine q7 ?_|refine q8 ?_|refine q9 ?_)
          refine d_over (by kernel_rfl) ?_
          refine d_phase (some 11) [] (by kernel_rfl) ?_
          refine d_read 10 calm_ret rfl (by kernel_rfl) rfl  (fun h hs => r_fldA (by decide) rfl) ?_
          refine d_exec1 11 (by kernel_rfl) rfl ?_
          refine w_store1 hcell rfl rfl ho4.isSl.one (by simp) fun h5 hb5 hs5 hcell5 => ?_
          replace hw : RW h5 v4 vN vA _ _ := ⟨ho4.step hs5 (by simp), hwn.step hs5 (by simp), hwa.step hs5 (by simp), hw.s⟩
          replace hres := hres.step hs5 (by simp) (by simp)
          replace hrL := hrL.step hs5 (by simp)
          replace hst := hst.trans (hs5.mono (by simp) (by simp))
          repeat (first|refine q1 ?_|refine q2 ?_|refine q3 ?_|refine q4 ?_|refine q5 ?_|refine q6 ?_|refine w_seq ?_|refine w_region ?_|refine w_ops_nil ?_|refine w_skip ?_|refine w_block ?_|refine w_blk ?_|refine q7 ?_|refine q8 ?_|refine q9 ?_)
          refine d_over (by kernel_rfl) ?_
          refine d_done (by kernel_rfl) ?_
          clear hwn hwa hcell hs2 hs3 hs4 hs5 hr3 ho4
          refine d_begin (some 6) [] (by kernel_rfl) fun g2 hs2 => ?_
          replace hw := hw.step hs2 (by simp) (by simp) (by simp)
          replace hcell := hcell5.step hs2 (by simp) (by simp)
          replace hres := hres.step hs2 (by simp) (by simp)
          replace hrL := hrL.step hs2 (by simp)
          replace hst := hst.trans hs2.nil
          refine d_read 0 calm_ret rfl (by kernel_rfl) rfl  (fun h hs => r_fldA (by decide) rfl) ?_
          refine d_read 1 calm_ret rfl (by kernel_rfl) rfl  (fun h hs => r_load1 (hcell.step hs (by simp) (by simp)) rfl rfl rfl) ?_
          refine d_pure 2 calm_ret rfl (by kernel_rfl) rfl rfl ?_; refine d_pure 3 calm_ret rfl (by kernel_rfl) rfl rfl ?_
          refine d_read 4 calm_ret rfl (by kernel_rfl) rfl  (fun h hs => r_idx (hrL.step hs (by simp)) rfl rfl (by omega) (by simp; omega)) ?_
          refine d_read 5 calm_ret rfl (by kernel_rfl) rfl  (fun h hs => r_loadE (i := i) (y := (labelsB s)[i]) (hrL.step hs (by simp)) rfl (by simp [hlt]) rfl) ?_
          refine d_exec1 6 (by kernel_rfl) rfl ?_
          refine w_appendStr hw.b rfl rfl (by simp; omega) rfl fun h4 v4 hs4 ho4 => ?_
          have hwn := hw.n.step hs4 (by simp)
          have hwa := hw.a.step hs4 (by simp)
          replace hcell := hcell.step hs4 (by simp) (by simp)
          replace hres := hres.step hs4 (by simp) (by simp)
          replace hrL := hrL.step hs4 (by simp)
          replace hst := hst.trans (hs4.mono (by simp) (by simp))
          repeat (first|refine q1 ?_|refine q2 ?_|refine q3 ?_|refine q4 ?_|refine q5 ?_|refine q6 ?_|refine w_seq ?_|refine w_region ?_|refine w_ops_nil ?_|refine w_skip ?_|refine w_block ?_|refine w_blk ?_|refine q7 ?_|refine q8 ?_|refine q9 ?_)
          refine d_over (by kernel_rfl) ?_
          refine d_phase (some 8) [] (by kernel_rfl) ?_
          refine d_read 7 calm_ret rfl (by kernel_rfl) rfl  (fun h hs => r_fldA (by decide) rfl) ?_
          refine d_exec1 8 (by kernel_rfl) rfl ?_
          refine w_store1 hcell rfl rfl ho4.isSl.one (by simp) fun h5 hb5 hs5 hcell5 => ?_
          replace hw : RW h5 v4 vN vA _ _ := ⟨ho4.step hs5 (by simp), hwn.step hs5 (by simp), hwa.step hs5 (by simp), hw.s⟩
          replace hres := hres.step hs5 (by simp) (by simp)
          replace hrL := hrL.step hs5 (by simp)
          replace hst := hst.trans (hs5.mono (by simp) (by simp))
          repeat (first|refine q1 ?_|refine q2 ?_|refine q3 ?_|refine q4 ?_|refine q5 ?_|refine q6 ?_|refine w_seq ?_|refine w_region ?_|refine w_ops_nil ?_|refine w_skip ?_|refine w_block ?_|refine w_blk ?_|refine q7 ?_|refine q8 ?_|refine q9 ?_)
          refine d_over (by kernel_rfl) ?_
          refine d_done (by kernel_rfl) ?_
          repeat (first|refine q1 ?_|refine q2 ?_|refine q3 ?_|refine q4 ?_|refine q5 ?_|refine q6 ?_|refine w_seq ?_|refine w_region ?_|refine w_ops_nil ?_|refine w_skip ?_|refine w_block ?_|refine w_blk ?_|refine q7 ?_|refine q8 ?_|refine q9 ?_)
          refine w_again (i + 1) (by omega) ⟨h5, rfl, hst, hrL, ⟨_, hres, hrl⟩, by omega, v4, vN, vA, _, _, hcell5, hw, hend, ?_, ?_⟩ ⟨rfl, rfl, rfl, rfl, rfl, trivial⟩
          · split <;> (try simp only [List.length_append, List.length_cons, List.length_nil]) <;> omega
          · rw [List.take_succ_eq_append_getElem hlt, List.flatten_append, List.length_append, List.length_append, List.length_append]
            simp only [List.flatten_cons, List.flatten_nil, List.append_nil, List.length_cons, List.length_nil]
            omega
    · have : i = (labelsB s).length := by omega
      subst this
      rw [List.drop_length] at hend
      repeat (first|refine q1 ?_|refine q2 ?_|refine q3 ?_|refine q4 ?_|refine q5 ?_|refine q6 ?_|refine w_seq ?_|refine w_region ?_|refine w_ops_nil ?_|refine w_skip ?_|refine w_block ?_|refine w_blk ?_|refine q7 ?_|refine q8 ?_|refine q9 ?_)
      refine w_fldA (by decide) rfl rfl ?_
      refine w_load1 hcell rfl rfl rfl rfl ?_
      refine w_buildSlR El.u8 [0] rfl rfl rfl rfl fun h7 v7 hs7 hr7 => ?_
      refine w_append (hw.b.step hs7 (by simp)) hr7 rfl rfl rfl (by decide) (by simp; omega) rfl fun h8 v8 hs8 ho8 => ?_
      replace hcell := (hcell.step hs7 (by simp) (by simp)).step hs8 (by simp) (by simp)
      replace hres := (hres.step hs7 (by simp) (by simp)).step hs8 (by simp) (by simp)
      replace hst := (hst.trans hs7.nil).trans (hs8.mono (by simp) (by simp))
      have hwn := (hw.n.step hs7 (by simp)).step hs8 (by simp)
      have hwa := (hw.a.step hs7 (by simp)).step hs8 (by simp)
      refine w_fldA (by decide) rfl rfl ?_
      refine w_store1 hcell rfl rfl ho8.isSl.one (by simp) fun h9 hb9 hs9 hcell9 => ?_
      have hw9 : RW h9 v8 vN vA (B' ++ [0]) m' := ⟨ho8.step hs9 (by simp), hwn.step hs9 (by simp), hwa.step hs9 (by simp), hw.s⟩
      replace hres := hres.step hs9 (by simp) (by simp)
      replace hst := hst.trans (hs9.mono (by simp) (by simp))
      repeat (first|refine q1 ?_|refine q2 ?_|refine q3 ?_|refine q4 ?_|refine q5 ?_|refine q6 ?_|refine w_seq ?_|refine w_region ?_|refine w_ops_nil ?_|refine w_skip ?_|refine w_block ?_|refine w_blk ?_|refine q7 ?_|refine q8 ?_|refine q9 ?_)
      refine w_loadS (us := [v8, vN, vA]) hcell9 rfl rfl rfl rfl rfl ?_
      repeat (first|refine q1 ?_|refine q2 ?_|refine q3 ?_|refine q4 ?_|refine q5 ?_|refine q6 ?_|refine w_seq ?_|refine w_region ?_|refine w_ops_nil ?_|refine w_skip ?_|refine w_block ?_|refine w_blk ?_|refine q7 ?_|refine q8 ?_|refine q9 ?_)
      refine w_store (us := [v8, vN, vA]) (vs' := [v8, vN, vA]) hres rfl rfl rfl rfl ?_ (by simp [hrl]) (by simp [hrl]) fun h10 hb10 hs10 hres10 => ?_
      · simp [hw9.b.isSl.one, hw9.n.isSl.one, hw9.a.isSl.one]
      repeat (first|refine q1 ?_|refine q2 ?_|refine q3 ?_|refine q4 ?_|refine q5 ?_|refine q6 ?_|refine w_seq ?_|refine w_region ?_|refine w_ops_nil ?_|refine w_skip ?_|refine w_block ?_|refine w_blk ?_|refine q7 ?_|refine q8 ?_|refine q9 ?_)
      refine w_retG (resCs1 hres10 rfl rfl rfl rfl rfl) (hst.trans (hs10.mono (by simp) (by simp))) fun h' hv' => ?_
      refine ⟨v8, vN, vA, by rw [hmay], ?_⟩
      rw [hend]
      exact (hw9.step hs10 (by simp) (by simp) (by simp)).view hv' (by simp) (by simp) (by simp)
end Go.Proofs.Ytnfokdhgajanpaa
