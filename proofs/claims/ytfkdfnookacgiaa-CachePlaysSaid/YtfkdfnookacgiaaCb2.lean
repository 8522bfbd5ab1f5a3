/- Caches: the reference's Put. No statement of the seat is proved here. -/
import Derived.Test.YtfkdfnookacgiaaCb1
set_option linter.unusedVariables false
set_option linter.unusedSimpArgs false
namespace Go.Proofs.Ytfkdfnookacgiaa
open Go
attribute [local irreducible] Wp
section
variable {P : Program} {Z : Exit → Act → World → Prop} {N : Nat} {k : List It} {s : Env} {w : World} {ops : Array Oper} {st : Option Nat} {S : World → Prop} {fuel : Nat} {listed : Array Bool} {op : Op} {ty : TypeId} {pos : String} {af : Array Edge} {d : Nat}
/-- Guarded by what was not carried out. -/
theorem d_guard_off (i : Nat) {j t : Nat} {b : Bool} (hZ : Calm Z) (hi : ops[i]? = some ⟨some d, op, ty, pos, af, some (j, b)⟩) (hd : (ops[j]?).bind (·.dst) = some t) (hl : look s t = some undef) (hc : dchk ops st listed i = true) (hdN : Nat.ble (d + 1) N = true)
    (hk : WpD P Z N k ops st S fuel (listed.setIfInBounds i true) ((d, undef) :: s) w) : WpD P Z N k ops st S (fuel + 1) listed s w := fun hS a ha => by
  exact wpG_take hi hc (fun c a w hp => absurd hp (sem_panic hZ k)) (.inr ⟨by simp [Region.wanted, yielded, hd, ha.get _ _ hl, undef], rfl⟩) hS
    (fun hS' => hk (fun _ => hS' (dchk_live hc)) _ (ha.put (Nat.le_of_ble_eq_true hdN)))
end
theorem cmpC_lt (a b : Ck) : cmpC a b < 0 ↔ Op.bytesLess a.name b.name = true ∨ (a.name = b.name ∧ a.type_ < b.type_) := by
  unfold cmpC orI
  by_cases h : Op.bytesLess a.name b.name = true
  · have h1 := h
    rw [less_cmp, decide_eq_true_eq] at h1
    rw [h1]; simp [h]
  · have he := cmpS_not h
    rw [he]
    by_cases e : a.name = b.name
    · rw [if_pos e]
      simp only [ne_eq, not_true_eq_false, if_false, h, e, true_and, false_or]
      unfold cmpI
      split
      · simp_all
      · split <;> simp_all
    · rw [if_neg e]
      simp [h, e]
def ceZ : Ck × Cv := (Ck.zero, Cv.zero)
/-- Room for one more, in the reference's list. -/
def mkRoomLC (now : Int) (L : CaM) : CaM × (Ck × Cv) × Bool :=
  if (overC now L).length < L.length then (overC now L, ceZ, false)
  else match L with
    | [] => (L, ceZ, false)
    | b :: l => (L.filter fun y => decide (¬ (leastBy (·.2.till) b l).1 = y.1), leastBy (·.2.till) b l, true)
def preLC (room now : Int) (k : Ck) (L : CaM) : CaM × (Ck × Cv) × Bool :=
  if 0 ≤ findC k L then (L.filter fun y => decide (¬ k = y.1), ceZ, false) else if (L.length : Int) = room then mkRoomLC now L else (L, ceZ, false)
/-- A key's place: ahead of all that come behind it. -/
def PlaceC (k : Ck) (L : CaM) (n : Nat) : Prop := n ≤ L.length ∧ (∀ j x, n ≤ j → L[j]? = some x → cmpC k x.1 < 0) ∧ (n = 0 ∨ ∃ x, L[n - 1]? = some x ∧ ¬ cmpC k x.1 < 0)
/-- What is there when (k, v) was put into L1. -/
def InsC (k : Ck) (v : Cv) (L1 L' : CaM) : Prop := ∃ n, PlaceC k L1 n ∧ L' = L1.take n ++ (k, v) :: L1.drop n
theorem mkRoomLC_len (now : Int) (L : CaM) : (mkRoomLC now L).1.length ≤ L.length := by
  unfold mkRoomLC
  split
  · exact Nat.le_of_lt (by assumption)
  · split
    · exact Nat.le_refl _
    · exact List.length_filter_le _ _
theorem preLC_len (room now : Int) (k : Ck) (L : CaM) : (preLC room now k L).1.length ≤ L.length := by
  unfold preLC
  split
  · exact List.length_filter_le _ _
  · split
    · exact mkRoomLC_len _ _
    · exact Nat.le_refl _
theorem eraseC_filter (x : Ck × Cv) : ∀ (L : CaM) (i : Nat), NdC L → L[i]? = some x → L.eraseIdx i = L.filter fun y => decide (¬ x.1 = y.1)
  | [], i, _, h => by simp at h
  | a :: L, 0, hn, h => by
    simp at h; subst h
    rw [List.eraseIdx_cons_zero, List.filter_cons, if_neg (by simp), List.filter_eq_self.2]
    intro y hy
    unfold NdC at hn
    simp only [List.map_cons, List.nodup_cons] at hn
    exact decide_eq_true fun e => hn.1 (by rw [e]; exact List.mem_map_of_mem hy)
  | a :: L, i + 1, hn, h => by
    have h' : L[i]? = some x := by simpa using h
    have hn' : NdC L := by unfold NdC at hn ⊢; simp only [List.map_cons, List.nodup_cons] at hn; exact hn.2
    have hne : ¬ x.1 = a.1 := fun e => by
      unfold NdC at hn
      simp only [List.map_cons, List.nodup_cons] at hn
      exact hn.1 (by rw [← e]; exact List.mem_map_of_mem (List.mem_of_getElem? h'))
    rw [List.eraseIdx_cons_succ, List.filter_cons, if_pos (by simp [hne]), eraseC_filter x L i hn' h']

set_option maxRecDepth 4000 in
theorem ref10_Put (room : Int) (L : CaM) (vL : Value) (name : List UInt8) (t : Int) (l : List Ad) (vl : Value) (hvl : vl.oneCell' = true) (hsl : IsSl vl l.length) (ttl now : Int) (k : Ck) (hk : (⟨lowB name, t⟩ : Ck) = k) (g : G) (hr : Rd g 0 El.ce vL L) (hL : L.length ≤ 1000) (hnd : NdC L) (hr1 : 1 ≤ room)
    (hn : name.length ≤ 1000000) (hnow : 0 ≤ now ∧ now ≤ 4398046511104) :
    Fn Try.prog 12 [.agg #[.int .i64 room, vL], str name, .int .i64 t, vl, .int .i64 ttl, .int .i64 now] g [] fun u h => ∃ v' L' gone lt, u = .tuple #[.agg #[.int .i64 room, v'], El.ce.val gone, .bool lt] ∧ Rd h 0 El.ce v' L' ∧
      (if ttl < 1 then L' = L ∧ gone = ceZ ∧ lt = false else InsC k ⟨⟨vl, hvl⟩, now + min ttl 604800, l⟩ (preLC room now k L).1 L' ∧ gone = (preLC room now k L).2.1 ∧ lt = (preLC room now k L).2.2) := by
  refine enterG [] [41, 43, 44, 45, 46, 47, 48] Try.func12 rfl Try.ntmps12 rfl (by simp) fun g1 hv ho => ?_
  replace hr := hr.view hv (.inl rfl)
  repeat (first|refine q1 ?_|refine q2 ?_|refine q3 ?_|refine q4 ?_|refine q5 ?_|refine q6 ?_|refine w_seq ?_|refine w_region ?_|refine w_ops_nil ?_|refine w_skip ?_|refine w_block ?_|refine w_blk ?_|refine q7 ?_|refine q8 ?_|refine q9 ?_)
  refine w_box 41 (vs := [.int .i64 room, vL]) rfl rfl rfl fun h1 b6 hs1 hc6 => ?_
  have hst : Step [] [41, 43, 44, 45, 46, 47, 48] g1 h1 := hs1.nil
  replace hr := hr.go hs1
  repeat (first|refine q1 ?_|refine q2 ?_|refine q3 ?_|refine q4 ?_|refine q5 ?_|refine q6 ?_|refine w_seq ?_|refine w_region ?_|refine w_ops_nil ?_|refine w_skip ?_|refine w_block ?_|refine w_blk ?_|refine q7 ?_|refine q8 ?_|refine q9 ?_)
  refine w_alloc 43 (vs := [.int .i64 0, .slice none 0 0]) rfl rfl fun h3 b12 hs3 hc12 => ?_
  replace hst := hst.go hs3; replace hc6 := hc6.go hs3; replace hr := hr.go hs3
  repeat (first|refine q1 ?_|refine q2 ?_|refine q3 ?_|refine q4 ?_|refine q5 ?_|refine q6 ?_|refine w_seq ?_|refine w_region ?_|refine w_ops_nil ?_|refine w_skip ?_|refine w_block ?_|refine w_blk ?_|refine q7 ?_|refine q8 ?_|refine q9 ?_)
  refine w_alloc 44 (vs := El.ce.enc ceZ) rfl rfl fun h4 b13 hs4 hc13 => ?_
  replace hst := hst.go hs4; replace hc6 := hc6.go hs4; replace hc12 := hc12.go hs4; replace hr := hr.go hs4
  clear hs1 hs3 hs4
  repeat (first|refine q1 ?_|refine q2 ?_|refine q3 ?_|refine q4 ?_|refine q5 ?_|refine q6 ?_|refine w_seq ?_|refine w_region ?_|refine w_ops_nil ?_|refine w_skip ?_|refine w_block ?_|refine w_blk ?_|refine q7 ?_|refine q8 ?_|refine q9 ?_)
  refine w_condP rfl (fun hle => ?_) (fun hle => ?_)
  · repeat (first|refine q1 ?_|refine q2 ?_|refine q3 ?_|refine q4 ?_|refine q5 ?_|refine q6 ?_|refine w_seq ?_|refine w_region ?_|refine w_ops_nil ?_|refine w_skip ?_|refine w_block ?_|refine w_blk ?_|refine q7 ?_|refine q8 ?_|refine q9 ?_)
    refine w_loadS (us := [.int .i64 room, vL]) hc6 rfl rfl rfl rfl rfl ?_
    refine w_build (vs := []) (r := El.ce.enc ceZ) rfl rfl rfl ?_
    refine w_store (us := [.int .i64 room, vL]) (vs' := [.int .i64 room, vL]) hc12 rfl rfl rfl rfl (oneTwo hr.isSl.one) (show 0 + 2 ≤ 2 by decide) rfl fun h5 hb5 hs5 hc12 => ?_
    replace hst := hst.go hs5; replace hc13 := hc13.go hs5; replace hr := hr.go hs5
    refine w_store (us := El.ce.enc ceZ) (vs' := El.ce.enc ceZ) hc13 rfl rfl rfl rfl (El.ce.flat _) (show 0 + 4 ≤ 4 by decide) rfl fun h6 hb6 hs6 hc13 => ?_
    replace hst := hst.go hs6; replace hc12 := hc12.go hs6; replace hr := hr.go hs6
    repeat (first|refine q1 ?_|refine q2 ?_|refine q3 ?_|refine q4 ?_|refine q5 ?_|refine q6 ?_|refine w_seq ?_|refine w_region ?_|refine w_ops_nil ?_|refine w_skip ?_|refine w_block ?_|refine w_blk ?_|refine q7 ?_|refine q8 ?_|refine q9 ?_)
    exact w_retG (resCC1s hc12 hc13 rfl rfl rfl rfl rfl rfl rfl rfl) hst fun h' hv' => ⟨vL, L, _, _, rfl, hr.view hv' (.inl rfl), by rw [if_pos hle]; exact ⟨rfl, rfl, rfl⟩⟩
  repeat (first|refine q1 ?_|refine q2 ?_|refine q3 ?_|refine q4 ?_|refine q5 ?_|refine q6 ?_|refine w_seq ?_|refine w_region ?_|refine w_ops_nil ?_|refine w_skip ?_|refine w_block ?_|refine w_blk ?_|refine q7 ?_|refine q8 ?_|refine q9 ?_)
  refine w_callF (vs := [str name]) rfl (ref01_Lower name h4 hn) rfl fun u h5 hs5 hu => ?_
  subst hu
  replace hst := hst.go hs5; replace hc6 := hc6.go hs5; replace hc12 := hc12.go hs5; replace hc13 := hc13.go hs5; replace hr := hr.go hs5
  repeat (first|refine q1 ?_|refine q2 ?_|refine q3 ?_|refine q4 ?_|refine q5 ?_|refine q6 ?_|refine w_seq ?_|refine w_region ?_|refine w_ops_nil ?_|refine w_skip ?_|refine w_block ?_|refine w_blk ?_|refine q7 ?_|refine q8 ?_|refine q9 ?_)
  refine w_min rfl rfl rfl ?_
  repeat (first|refine q1 ?_|refine q2 ?_|refine q3 ?_|refine q4 ?_|refine q5 ?_|refine q6 ?_|refine w_seq ?_|refine w_region ?_|refine w_ops_nil ?_|refine w_skip ?_|refine w_block ?_|refine w_blk ?_|refine q7 ?_|refine q8 ?_|refine q9 ?_)
  obtain ⟨v, hv0⟩ : ∃ v : Cv, v = ⟨⟨vl, hvl⟩, now + min ttl 604800, l⟩ := ⟨_, rfl⟩
  have hv1 : v.sl.1 = vl := by rw [hv0]
  have hv2 : v.till = now + min ttl 604800 := by rw [hv0]
  rw [← hv0]
  have hkn : k.name = lowB name := by rw [← hk]
  have hkt : k.type_ = t := by rw [← hk]
  refine w_build (vs := [(0, str (lowB name)), (1, .int .i64 t), (2, vl), (3, .int .i64 (now + min ttl 604800))]) (r := El.ce.enc (k, v)) rfl (by
    show _ = some [str k.name, .int .i64 k.type_, v.sl.1, .int .i64 v.till]
    rw [hkn, hkt, hv1, hv2]
    obtain ⟨A, cap, e, _⟩ := hsl
    rw [e]
    rfl) rfl ?_
  refine w_alloc 46 (vs := El.ce.enc ceZ) rfl rfl fun h6 b15 hs6 hc15 => ?_
  replace hst := hst.go hs6; replace hc6 := hc6.go hs6; replace hc12 := hc12.go hs6; replace hc13 := hc13.go hs6; replace hr := hr.go hs6
  refine w_store (us := El.ce.enc (k, v)) (vs' := El.ce.enc (k, v)) hc15 rfl rfl rfl rfl (El.ce.flat _) (show 0 + 4 ≤ 4 by decide) rfl fun h7 hb7 hs7 hc15 => ?_
  replace hst := hst.go hs7; replace hc6 := hc6.go hs7; replace hc12 := hc12.go hs7; replace hc13 := hc13.go hs7; replace hr := hr.go hs7
  clear hs5 hs6 hs7 hb7
  repeat (first|refine q1 ?_|refine q2 ?_|refine q3 ?_|refine q4 ?_|refine q5 ?_|refine q6 ?_|refine w_seq ?_|refine w_region ?_|refine w_ops_nil ?_|refine w_skip ?_|refine w_block ?_|refine w_blk ?_|refine q7 ?_|refine q8 ?_|refine q9 ?_)
  refine w_loadS (us := [.int .i64 room, vL]) hc6 rfl rfl rfl rfl rfl ?_
  repeat (first|refine q1 ?_|refine q2 ?_|refine q3 ?_|refine q4 ?_|refine q5 ?_|refine q6 ?_|refine w_seq ?_|refine w_region ?_|refine w_ops_nil ?_|refine w_skip ?_|refine w_block ?_|refine w_blk ?_|refine q7 ?_|refine q8 ?_|refine q9 ?_)
  refine w_callF rfl (ref10_Find room L vL name t k hk h7 hr hn) rfl fun u h8 hs8 hu => ?_
  subst hu
  replace hst := hst.go hs8; replace hc6 := hc6.go hs8; replace hc12 := hc12.go hs8; replace hc13 := hc13.go hs8; replace hc15 := hc15.go hs8; replace hr := hr.go hs8
  repeat (first|refine q1 ?_|refine q2 ?_|refine q3 ?_|refine q4 ?_|refine q5 ?_|refine q6 ?_|refine w_seq ?_|refine w_region ?_|refine w_ops_nil ?_|refine w_skip ?_|refine w_block ?_|refine w_blk ?_|refine q7 ?_|refine q8 ?_|refine q9 ?_)
  refine w_alloc 47 (vs := El.ce.enc ceZ) rfl rfl fun h9 b17 hs9 hc17 => ?_
  replace hst := hst.go hs9; replace hc6 := hc6.go hs9; replace hc12 := hc12.go hs9; replace hc13 := hc13.go hs9; replace hc15 := hc15.go hs9; replace hr := hr.go hs9
  clear hs8 hs9
  have hwl := preLC_len room now k L
  obtain ⟨r, hpre⟩ : ∃ r, preLC room now k L = r := ⟨_, rfl⟩
  rw [hpre] at hwl ⊢
  repeat (first|refine q1 ?_|refine q2 ?_|refine q3 ?_|refine q4 ?_|refine q5 ?_|refine q6 ?_|refine w_seq ?_|refine w_region ?_|refine w_ops_nil ?_|refine w_skip ?_|refine w_block ?_|refine w_blk ?_|refine q7 ?_|refine q8 ?_|refine q9 ?_)
  refine w_cut (ι := Unit) (fun _ => [(6, .pointer (some ⟨b6, 0, none⟩)), (12, .pointer (some ⟨b12, 0, none⟩)), (13, .pointer (some ⟨b13, 0, none⟩)), (15, .pointer (some ⟨b15, 0, none⟩)), (17, .pointer (some ⟨b17, 0, none⟩)), (18, .bool r.2.2)])
    (fun _ w => ∃ h v1, h.w = w ∧ Step [] [41, 45, 47, 48] h9 h ∧ Cell h 41 b6 27 [.int .i64 room, v1] ∧ Rd h 0 El.ce v1 r.1 ∧ Cell h 47 b17 33 (El.ce.enc r.2.1)) ?_ ?_
  · refine w_condP rfl (fun hf => ?_) (fun hf => ?_)
    · have hlt := findC_lt k L
      have er : r = (L.filter fun y => decide (¬ k = y.1), ceZ, false) := by rw [← hpre]; unfold preLC; rw [if_pos hf]
      rcases findC_get k L with ⟨h1, h2⟩ | ⟨h1, u0, h2, h3⟩
      · omega
      obtain ⟨i, hi⟩ := Int.eq_ofNat_of_zero_le hf
      rw [hi] at h2 ⊢
      have h2 : L[i]? = some (k, u0) := by simpa using h2
      repeat (first|refine q1 ?_|refine q2 ?_|refine q3 ?_|refine q4 ?_|refine q5 ?_|refine q6 ?_|refine w_seq ?_|refine w_region ?_|refine w_ops_nil ?_|refine w_skip ?_|refine w_block ?_|refine w_blk ?_|refine q7 ?_|refine q8 ?_|refine q9 ?_)
      refine w_fldA (by decide) rfl rfl ?_
      refine w_load1 (v := vL) hc6 rfl rfl rfl rfl ?_
      repeat (first|refine q1 ?_|refine q2 ?_|refine q3 ?_|refine q4 ?_|refine q5 ?_|refine q6 ?_|refine w_seq ?_|refine w_region ?_|refine w_ops_nil ?_|refine w_skip ?_|refine w_block ?_|refine w_blk ?_|refine q7 ?_|refine q8 ?_|refine q9 ?_)
      refine w_callF rfl (ref10_cut L vL i h9 hr (by omega) (by omega)) rfl fun v1 h7 hs7 hr7 => ?_
      replace hc6 := hc6.go hs7
      replace hc17 := hc17.go hs7
      repeat (first|refine q1 ?_|refine q2 ?_|refine q3 ?_|refine q4 ?_|refine q5 ?_|refine q6 ?_|refine w_seq ?_|refine w_region ?_|refine w_ops_nil ?_|refine w_skip ?_|refine w_block ?_|refine w_blk ?_|refine q7 ?_|refine q8 ?_|refine q9 ?_)
      refine w_fldA (by decide) rfl rfl ?_
      refine w_store1 hc6 rfl rfl hr7.isSl.one (show 1 < 2 by decide) fun h8 hb8 hs8 hc6 => ?_
      replace hc17 := hc17.go hs8
      repeat (first|refine q1 ?_|refine q2 ?_|refine q3 ?_|refine q4 ?_|refine q5 ?_|refine q6 ?_|refine w_seq ?_|refine w_region ?_|refine w_ops_nil ?_|refine w_skip ?_|refine w_block ?_|refine w_blk ?_|refine q7 ?_|refine q8 ?_|refine q9 ?_)
      refine w_meet () ⟨h8, v1, rfl, hs7.nil.trans (hs8.mono (by simp) (by simp)), hc6, ?_, by rw [er]; exact hc17⟩ ⟨rfl, rfl, rfl, rfl, rfl, by rw [er]; rfl, trivial⟩
      have e : r.1 = L.eraseIdx i := by rw [er]; exact (eraseC_filter _ L i hnd h2).symm
      rw [e]
      exact hr7.go hs8
    · repeat (first|refine q1 ?_|refine q2 ?_|refine q3 ?_|refine q4 ?_|refine q5 ?_|refine q6 ?_|refine w_seq ?_|refine w_region ?_|refine w_ops_nil ?_|refine w_skip ?_|refine w_block ?_|refine w_blk ?_|refine q7 ?_|refine q8 ?_|refine q9 ?_)
      refine w_fldA (by decide) rfl rfl ?_
      refine w_load1 (v := vL) hc6 rfl rfl rfl rfl ?_
      refine w_lenSl hr.isSl rfl rfl ?_
      refine w_fldA (by decide) rfl rfl ?_
      refine w_load1 (v := .int .i64 room) hc6 rfl rfl rfl rfl ?_
      repeat (first|refine q1 ?_|refine q2 ?_|refine q3 ?_|refine q4 ?_|refine q5 ?_|refine q6 ?_|refine w_seq ?_|refine w_region ?_|refine w_ops_nil ?_|refine w_skip ?_|refine w_block ?_|refine w_blk ?_|refine q7 ?_|refine q8 ?_|refine q9 ?_)
      refine w_condP rfl (fun hx => ?_) (fun hx => ?_)
      · obtain ⟨b, l1, rfl⟩ : ∃ b l1, L = b :: l1 := by
          cases L with
          | nil => simp only [List.length_nil] at hx; omega
          | cons b l1 => exact ⟨b, l1, rfl⟩
        have er : r = mkRoomLC now (b :: l1) := by rw [← hpre]; unfold preLC; rw [if_neg hf, if_pos hx]
        generalize hLL : b :: l1 = L at hr hL hnd hx er hpre hf hwl
        have hLl : l1.length + 1 = L.length := by rw [← hLL]; rfl
        have hol : (overC now L).length ≤ L.length := List.length_filter_le _ _
        repeat (first|refine q1 ?_|refine q2 ?_|refine q3 ?_|refine q4 ?_|refine q5 ?_|refine q6 ?_|refine w_seq ?_|refine w_region ?_|refine w_ops_nil ?_|refine w_skip ?_|refine w_block ?_|refine w_blk ?_|refine q7 ?_|refine q8 ?_|refine q9 ?_)
        refine w_loadS (us := [.int .i64 room, vL]) hc6 rfl rfl rfl rfl rfl ?_
        repeat (first|refine q1 ?_|refine q2 ?_|refine q3 ?_|refine q4 ?_|refine q5 ?_|refine q6 ?_|refine w_seq ?_|refine w_region ?_|refine w_ops_nil ?_|refine w_skip ?_|refine w_block ?_|refine w_blk ?_|refine q7 ?_|refine q8 ?_|refine q9 ?_)
        refine w_callF (vs := [.agg #[.int .i64 room, vL], .int .i64 now]) rfl (ref10_Sweep room L vL now h9 hr hL) rfl fun u h10 hs10 hR => ?_
        obtain ⟨v2, rfl, hr2⟩ := hR
        have hk0 : Step [] [41, 45, 47, 48] h9 h10 := hs10.nil
        replace hc6 := hc6.go hs10; replace hc17 := hc17.go hs10
        repeat (first|refine q1 ?_|refine q2 ?_|refine q3 ?_|refine q4 ?_|refine q5 ?_|refine q6 ?_|refine w_seq ?_|refine w_region ?_|refine w_ops_nil ?_|refine w_skip ?_|refine w_block ?_|refine w_blk ?_|refine q7 ?_|refine q8 ?_|refine q9 ?_)
        refine w_alloc 48 (vs := [.int .i64 0, .slice none 0 0]) rfl rfl fun h11 b19 hs11 hc19 => ?_
        replace hk0 := hk0.go hs11; replace hc6 := hc6.go hs11; replace hc17 := hc17.go hs11; replace hr2 := hr2.go hs11
        refine w_store (us := [.int .i64 room, v2]) (vs' := [.int .i64 room, v2]) hc19 rfl rfl rfl rfl (oneTwo hr2.isSl.one) (show 0 + 2 ≤ 2 by decide) rfl fun h12 hb12 hs12 hc19 => ?_
        replace hk0 := hk0.go hs12; replace hc6 := hc6.go hs12; replace hc17 := hc17.go hs12; replace hr2 := hr2.go hs12
        repeat (first|refine q1 ?_|refine q2 ?_|refine q3 ?_|refine q4 ?_|refine q5 ?_|refine q6 ?_|refine w_seq ?_|refine w_region ?_|refine w_ops_nil ?_|refine w_skip ?_|refine w_block ?_|refine w_blk ?_|refine q7 ?_|refine q8 ?_|refine q9 ?_)
        refine w_loadS (us := [.int .i64 room, v2]) hc19 rfl rfl rfl rfl rfl ?_
        refine w_store (us := [.int .i64 room, v2]) (vs' := [.int .i64 room, v2]) hc6 rfl rfl rfl rfl (oneTwo hr2.isSl.one) (show 0 + 2 ≤ 2 by decide) rfl fun h13 hb13 hs13 hc6 => ?_
        replace hk0 := hk0.go hs13; replace hc17 := hc17.go hs13; replace hr2 := hr2.go hs13
        clear hs10 hs11 hs12 hs13 hb12 hb13 hc19 hr
        repeat (first|refine q1 ?_|refine q2 ?_|refine q3 ?_|refine q4 ?_|refine q5 ?_|refine q6 ?_|refine w_seq ?_|refine w_region ?_|refine w_ops_nil ?_|refine w_skip ?_|refine w_block ?_|refine w_blk ?_|refine q7 ?_|refine q8 ?_|refine q9 ?_)
        refine w_fldA (by decide) rfl rfl ?_
        refine w_load1 (v := v2) hc6 rfl rfl rfl rfl ?_
        refine w_lenSl hr2.isSl rfl rfl ?_
        refine w_fldA (by decide) rfl rfl ?_
        refine w_load1 (v := .int .i64 room) hc6 rfl rfl rfl rfl ?_
        repeat (first|refine q1 ?_|refine q2 ?_|refine q3 ?_|refine q4 ?_|refine q5 ?_|refine q6 ?_|refine w_seq ?_|refine w_region ?_|refine w_ops_nil ?_|refine w_skip ?_|refine w_block ?_|refine w_blk ?_|refine q7 ?_|refine q8 ?_|refine q9 ?_)
        refine w_condP rfl (fun hy => ?_) (fun hy => ?_)
        · have hfull : ¬ (overC now L).length < L.length := by omega
          have er2 : r = (L.filter fun y => decide (¬ (leastBy (·.2.till) b l1).1 = y.1), leastBy (·.2.till) b l1, true) := by
            rw [er]; unfold mkRoomLC; rw [if_neg hfull, ← hLL]
          rw [overC_full hfull] at hr2
          have hc6' := hc6
          have hr2' := hr2
          repeat (first|refine q1 ?_|refine q2 ?_|refine q3 ?_|refine q4 ?_|refine q5 ?_|refine q6 ?_|refine w_seq ?_|refine w_region ?_|refine w_ops_nil ?_|refine w_skip ?_|refine w_blk ?_|refine q7 ?_|refine q8 ?_|refine q9 ?_)
          refine w_cut (ι := Nat) (fun be => [(6, .pointer (some ⟨b6, 0, none⟩)), (12, .pointer (some ⟨b12, 0, none⟩)), (13, .pointer (some ⟨b13, 0, none⟩)), (15, .pointer (some ⟨b15, 0, none⟩)), (17, .pointer (some ⟨b17, 0, none⟩)), (21, .int .i64 (be : Int))])
            (fun be w => ∃ h : G, h.w = w ∧ Step [] [] h13 h ∧ L[be]? = some (leastBy (·.2.till) b l1)) ?_ ?_
          · repeat (first|refine q1 ?_|refine q2 ?_|refine q3 ?_|refine q4 ?_|refine q5 ?_|refine q6 ?_|refine w_seq ?_|refine w_region ?_|refine w_ops_nil ?_|refine w_skip ?_|refine w_block ?_|refine w_blk ?_|refine q7 ?_|refine q8 ?_|refine q9 ?_)
            refine w_loop (ι := Nat × Nat) (fun x => [(6, .pointer (some ⟨b6, 0, none⟩)), (12, .pointer (some ⟨b12, 0, none⟩)), (13, .pointer (some ⟨b13, 0, none⟩)), (15, .pointer (some ⟨b15, 0, none⟩)), (17, .pointer (some ⟨b17, 0, none⟩)), (21, .int .i64 (x.1 : Int)), (22, .int .i64 (x.2 : Int))])
              (fun x w => ∃ h : G, h.w = w ∧ Step [] [] h13 h ∧ L[x.1]? = some (leastBy (·.2.till) b (L.take x.2)) ∧ x.2 ≤ L.length) (fun x => L.length - x.2)
              (0, 1) ⟨h13, rfl, Step.refl _ _ _, by rw [← hLL]; simp [leastBy], by dsimp only; omega⟩ ⟨rfl, rfl, rfl, rfl, rfl, rfl, rfl, trivial⟩ ?_
            rintro ⟨be, i⟩ _ ⟨h, rfl, hst2, hbe, hi⟩
            dsimp only at hst2 hbe hi ⊢
            replace hc6 := hc6.go hst2; replace hr2 := hr2.go hst2
            obtain ⟨hbl, hbe'⟩ := List.getElem?_eq_some_iff.1 hbe
            repeat (first|refine q1 ?_|refine q2 ?_|refine q3 ?_|refine q4 ?_|refine q5 ?_|refine q6 ?_|refine w_seq ?_|refine w_region ?_|refine w_ops_nil ?_|refine w_skip ?_|refine w_block ?_|refine w_blk ?_|refine q7 ?_|refine q8 ?_|refine q9 ?_)
            refine w_fldA (by decide) rfl rfl ?_
            refine w_load1 (v := v2) hc6 rfl rfl rfl rfl ?_
            refine w_lenSl hr2.isSl rfl rfl ?_
            repeat (first|refine q1 ?_|refine q2 ?_|refine q3 ?_|refine q4 ?_|refine q5 ?_|refine q6 ?_|refine w_seq ?_|refine w_region ?_|refine w_ops_nil ?_|refine w_skip ?_|refine w_block ?_|refine w_blk ?_|refine q7 ?_|refine q8 ?_|refine q9 ?_)
            refine w_condP rfl (fun hlt => ?_) (fun hlt => ?_)
            · have hlt : i < L.length := by omega
              have hgi : L[i]? = some L[i] := List.getElem?_eq_getElem hlt
              have hleast : leastBy (·.2.till) b (L.take (i + 1)) = if L[i].2.till < (leastBy (·.2.till) b (L.take i)).2.till then L[i] else leastBy (·.2.till) b (L.take i) := by rw [List.take_succ_eq_append_getElem hlt, leastBy_append]; rfl
              repeat (first|refine q1 ?_|refine q2 ?_|refine q3 ?_|refine q4 ?_|refine q5 ?_|refine q6 ?_|refine w_seq ?_|refine w_region ?_|refine w_ops_nil ?_|refine w_skip ?_|refine w_block ?_|refine w_blk ?_|refine q7 ?_|refine q8 ?_|refine q9 ?_)
              refine d_begin none [] (by kernel_rfl) fun g2 hsd => ?_
              replace hst2 := hst2.go hsd; replace hc6 := hc6.go hsd; replace hr2 := hr2.go hsd
              refine d_read 0 calm_ret rfl (by kernel_rfl) rfl  (fun h hs => r_fldA (by decide) rfl) ?_
              refine d_read 1 calm_ret rfl (by kernel_rfl) rfl  (fun h hs => r_load1 (v := v2) (hc6.go hs) rfl rfl rfl) ?_
              refine d_pure 2 calm_ret rfl (by kernel_rfl) rfl rfl ?_
              refine d_read 3 calm_ret rfl (by kernel_rfl) rfl  (fun h hs => r_idx (hr2.go hs) rfl rfl (by omega) (by omega)) ?_
              refine d_read 4 calm_ret rfl (by kernel_rfl) rfl  (fun h hs => r_fldE (hr2.base hlt) (by decide) rfl) ?_
              refine d_read 5 calm_ret rfl (by kernel_rfl) rfl  (fun h hs => r_loadEF (i := i) (off := 3) (y := L[i]) (u := .int .i64 L[i].2.till) (hr2.go hs) rfl hgi rfl rfl) ?_
              refine d_read 6 calm_ret rfl (by kernel_rfl) rfl  (fun h hs => r_fldA (by decide) rfl) ?_
              refine d_read 7 calm_ret rfl (by kernel_rfl) rfl  (fun h hs => r_load1 (v := v2) (hc6.go hs) rfl rfl rfl) ?_
              refine d_pure 8 calm_ret rfl (by kernel_rfl) rfl rfl ?_
              refine d_read 9 calm_ret rfl (by kernel_rfl) rfl  (fun h hs => r_idx (hr2.go hs) rfl rfl (by omega) (by omega)) ?_
              refine d_read 10 calm_ret rfl (by kernel_rfl) rfl  (fun h hs => r_fldE (hr2.base hlt) (by decide) rfl) ?_
              refine d_read 11 calm_ret rfl (by kernel_rfl) rfl  (fun h hs => r_loadEF (i := be) (off := 3) (y := leastBy (·.2.till) b (L.take i)) (u := .int .i64 (leastBy (·.2.till) b (L.take i)).2.till) (hr2.go hs) rfl hbe rfl rfl) ?_
              refine d_pure 12 calm_ret rfl (by kernel_rfl) rfl rfl ?_
              refine d_done (by kernel_rfl) ?_
              repeat (first|refine q1 ?_|refine q2 ?_|refine q3 ?_|refine q4 ?_|refine q5 ?_|refine q6 ?_|refine w_seq ?_|refine w_region ?_|refine w_ops_nil ?_|refine w_skip ?_|refine w_block ?_|refine w_blk ?_|refine q7 ?_|refine q8 ?_|refine q9 ?_)
              refine w_condP rfl (fun hz => ?_) (fun hz => ?_)
              · rw [if_pos hz] at hleast
                repeat (first|refine q1 ?_|refine q2 ?_|refine q3 ?_|refine q4 ?_|refine q5 ?_|refine q6 ?_|refine w_seq ?_|refine w_region ?_|refine w_ops_nil ?_|refine w_skip ?_|refine w_block ?_|refine w_blk ?_|refine q7 ?_|refine q8 ?_|refine q9 ?_)
                exact w_again (i, i + 1) (by dsimp only; omega) ⟨g2, rfl, hst2, by dsimp only; rw [hleast]; exact hgi, by dsimp only; omega⟩ ⟨rfl, rfl, rfl, rfl, rfl, rfl, rfl, trivial⟩
              · rw [if_neg hz] at hleast
                repeat (first|refine q1 ?_|refine q2 ?_|refine q3 ?_|refine q4 ?_|refine q5 ?_|refine q6 ?_|refine w_seq ?_|refine w_region ?_|refine w_ops_nil ?_|refine w_skip ?_|refine w_block ?_|refine w_blk ?_|refine q7 ?_|refine q8 ?_|refine q9 ?_)
                exact w_again (be, i + 1) (by dsimp only; omega) ⟨g2, rfl, hst2, by dsimp only; rw [hleast]; exact hbe, by dsimp only; omega⟩ ⟨rfl, rfl, rfl, rfl, rfl, rfl, rfl, trivial⟩
            · have e : i = L.length := by omega
              subst e
              rw [List.take_length] at hbe
              repeat (first|refine q1 ?_|refine q2 ?_|refine q3 ?_|refine q4 ?_|refine q5 ?_|refine q6 ?_|refine w_seq ?_|refine w_region ?_|refine w_ops_nil ?_|refine w_skip ?_|refine w_block ?_|refine w_blk ?_|refine q7 ?_|refine q8 ?_|refine q9 ?_)
              exact w_meet be ⟨h, rfl, hst2, by rw [hbe, ← hLL, leastBy, if_neg (by omega)]⟩ ⟨rfl, rfl, rfl, rfl, rfl, rfl, trivial⟩
          rintro be _ ⟨h, rfl, hst2, hbe⟩
          replace hk0 := hk0.trans (hst2.mono (by simp) (by simp))
          replace hc6 := hc6.go hst2; replace hr2 := hr2.go hst2; replace hc17 := hc17.go hst2
          obtain ⟨hbl, hbe'⟩ := List.getElem?_eq_some_iff.1 hbe
          generalize hlst : leastBy (·.2.till) b l1 = x at er2 hbe hbe'
          repeat (first|refine q1 ?_|refine q2 ?_|refine q3 ?_|refine q4 ?_|refine q5 ?_|refine q6 ?_|refine w_seq ?_|refine w_region ?_|refine w_ops_nil ?_|refine w_skip ?_|refine w_block ?_|refine w_blk ?_|refine q7 ?_|refine q8 ?_|refine q9 ?_)
          refine w_fldA (by decide) rfl rfl ?_
          refine w_load1 (v := v2) hc6 rfl rfl rfl rfl ?_
          repeat (first|refine q1 ?_|refine q2 ?_|refine q3 ?_|refine q4 ?_|refine q5 ?_|refine q6 ?_|refine w_seq ?_|refine w_region ?_|refine w_ops_nil ?_|refine w_skip ?_|refine w_block ?_|refine w_blk ?_|refine q7 ?_|refine q8 ?_|refine q9 ?_)
          refine w_idx hr2 rfl rfl (by omega) (by omega) rfl ?_
          refine w_loadE (i := be) (y := x) hr2 rfl hbe rfl rfl ?_
          refine w_store (us := El.ce.enc x) (vs' := El.ce.enc x) hc17 rfl rfl rfl rfl (El.ce.flat _) (show 0 + 4 ≤ 4 by decide) rfl fun h7 hb7 hs7 hc17 => ?_
          replace hk0 := hk0.trans (hs7.mono (by simp) (by simp))
          replace hc6 := hc6.go hs7; replace hr2 := hr2.go hs7
          repeat (first|refine q1 ?_|refine q2 ?_|refine q3 ?_|refine q4 ?_|refine q5 ?_|refine q6 ?_|refine w_seq ?_|refine w_region ?_|refine w_ops_nil ?_|refine w_skip ?_|refine w_block ?_|refine w_blk ?_|refine q7 ?_|refine q8 ?_|refine q9 ?_)
          refine w_fldA (by decide) rfl rfl ?_
          refine w_load1 (v := v2) hc6 rfl rfl rfl rfl ?_
          repeat (first|refine q1 ?_|refine q2 ?_|refine q3 ?_|refine q4 ?_|refine q5 ?_|refine q6 ?_|refine w_seq ?_|refine w_region ?_|refine w_ops_nil ?_|refine w_skip ?_|refine w_block ?_|refine w_blk ?_|refine q7 ?_|refine q8 ?_|refine q9 ?_)
          refine w_callF rfl (ref10_cut L v2 be h7 hr2 hbl (by omega)) rfl fun v1 h8 hs8 hr8 => ?_
          replace hk0 := hk0.trans (hs8.mono (by simp) (by simp))
          replace hc6 := hc6.go hs8; replace hc17 := hc17.go hs8
          repeat (first|refine q1 ?_|refine q2 ?_|refine q3 ?_|refine q4 ?_|refine q5 ?_|refine q6 ?_|refine w_seq ?_|refine w_region ?_|refine w_ops_nil ?_|refine w_skip ?_|refine w_block ?_|refine w_blk ?_|refine q7 ?_|refine q8 ?_|refine q9 ?_)
          refine w_fldA (by decide) rfl rfl ?_
          refine w_store1 hc6 rfl rfl hr8.isSl.one (show 1 < 2 by decide) fun h9 hb9 hs9 hc6 => ?_
          replace hk0 := hk0.trans (hs9.mono (by simp) (by simp))
          replace hc17 := hc17.go hs9
          repeat (first|refine q1 ?_|refine q2 ?_|refine q3 ?_|refine q4 ?_|refine q5 ?_|refine q6 ?_|refine w_seq ?_|refine w_region ?_|refine w_ops_nil ?_|refine w_skip ?_|refine w_block ?_|refine w_blk ?_|refine q7 ?_|refine q8 ?_|refine q9 ?_)
          refine w_meet () ⟨h9, v1, rfl, hk0, hc6, ?_, by rw [er2]; exact hc17⟩ ⟨rfl, rfl, rfl, rfl, rfl, by rw [er2]; rfl, trivial⟩
          rw [er2]
          dsimp only
          rw [← eraseC_filter x L be hnd hbe]
          exact hr8.go hs9
        · have er2 : r = (overC now L, ceZ, false) := by
            rw [er]; unfold mkRoomLC; rw [if_pos (by omega)]
          repeat (first|refine q1 ?_|refine q2 ?_|refine q3 ?_|refine q4 ?_|refine q5 ?_|refine q6 ?_|refine w_seq ?_|refine w_region ?_|refine w_ops_nil ?_|refine w_skip ?_|refine w_block ?_|refine w_blk ?_|refine q7 ?_|refine q8 ?_|refine q9 ?_)
          exact w_meet () ⟨h13, v2, rfl, hk0, hc6, by rw [er2]; exact hr2, by rw [er2]; exact hc17⟩ ⟨rfl, rfl, rfl, rfl, rfl, by rw [er2]; rfl, trivial⟩
      · have er : r = (L, ceZ, false) := by rw [← hpre]; unfold preLC; rw [if_neg hf, if_neg hx]
        repeat (first|refine q1 ?_|refine q2 ?_|refine q3 ?_|refine q4 ?_|refine q5 ?_|refine q6 ?_|refine w_seq ?_|refine w_region ?_|refine w_ops_nil ?_|refine w_skip ?_|refine w_block ?_|refine w_blk ?_|refine q7 ?_|refine q8 ?_|refine q9 ?_)
        exact w_meet () ⟨h9, vL, rfl, Step.refl _ _ _, hc6, by rw [er]; exact hr, by rw [er]; exact hc17⟩ ⟨rfl, rfl, rfl, rfl, rfl, by rw [er]; rfl, trivial⟩
  clear hr hc6 hc17
  rintro _ _ ⟨h, v1, rfl, hs0, hc6, hr, hc17⟩
  replace hst := hst.trans (hs0.mono (by simp) (by simp))
  replace hc12 := hc12.go hs0; replace hc13 := hc13.go hs0; replace hc15 := hc15.go hs0
  clear hs0
  generalize hL1 : r.1 = L1 at hr hwl ⊢
  have hlm : L1.length ≤ 1000 := by omega
  repeat (first|refine q1 ?_|refine q2 ?_|refine q3 ?_|refine q4 ?_|refine q5 ?_|refine q6 ?_|refine w_seq ?_|refine w_region ?_|refine w_ops_nil ?_|refine w_skip ?_|refine w_block ?_|refine w_blk ?_|refine q7 ?_|refine q8 ?_|refine q9 ?_)
  refine w_fldA (by decide) rfl rfl ?_
  refine w_load1 (v := v1) hc6 rfl rfl rfl rfl ?_
  refine w_lenSl hr.isSl rfl rfl ?_
  repeat (first|refine q1 ?_|refine q2 ?_|refine q3 ?_|refine q4 ?_|refine q5 ?_|refine q6 ?_|refine w_seq ?_|refine w_region ?_|refine w_ops_nil ?_|refine w_skip ?_|refine w_blk ?_|refine q7 ?_|refine q8 ?_|refine q9 ?_)
  refine w_cut (ι := Nat) (fun n => [(6, .pointer (some ⟨b6, 0, none⟩)), (12, .pointer (some ⟨b12, 0, none⟩)), (13, .pointer (some ⟨b13, 0, none⟩)), (15, .pointer (some ⟨b15, 0, none⟩)), (17, .pointer (some ⟨b17, 0, none⟩)), (18, .bool r.2.2), (23, .int .i64 (n : Int))])
    (fun n w => ∃ h2 : G, h2.w = w ∧ Step [] [] h h2 ∧ PlaceC k L1 n) ?_ ?_
  · repeat (first|refine q1 ?_|refine q2 ?_|refine q3 ?_|refine q4 ?_|refine q5 ?_|refine q6 ?_|refine w_seq ?_|refine w_region ?_|refine w_ops_nil ?_|refine w_skip ?_|refine w_block ?_|refine w_blk ?_|refine q7 ?_|refine q8 ?_|refine q9 ?_)
    refine w_loop (ι := Nat) (fun n => [(6, .pointer (some ⟨b6, 0, none⟩)), (12, .pointer (some ⟨b12, 0, none⟩)), (13, .pointer (some ⟨b13, 0, none⟩)), (15, .pointer (some ⟨b15, 0, none⟩)), (17, .pointer (some ⟨b17, 0, none⟩)), (18, .bool r.2.2), (23, .int .i64 (n : Int))])
      (fun n w => ∃ h2 : G, h2.w = w ∧ Step [] [] h h2 ∧ n ≤ L1.length ∧ ∀ j x, n ≤ j → L1[j]? = some x → cmpC k x.1 < 0) (fun n => n) L1.length ⟨h, rfl, Step.refl _ _ _, Nat.le_refl _, fun j x hj hx => by
        have := (List.getElem?_eq_some_iff.1 hx).1; omega⟩ ⟨rfl, rfl, rfl, rfl, rfl, rfl, rfl, trivial⟩ ?_
    rintro n _ ⟨h2, rfl, hst2, hn2, hall⟩
    replace hc6 := hc6.go hst2; replace hc15 := hc15.go hst2; replace hr := hr.go hst2
    repeat (first|refine q1 ?_|refine q2 ?_|refine q3 ?_|refine q4 ?_|refine q5 ?_|refine q6 ?_|refine w_seq ?_|refine w_region ?_|refine w_ops_nil ?_|refine w_skip ?_|refine w_block ?_|refine w_blk ?_|refine q7 ?_|refine q8 ?_|refine q9 ?_)
    refine w_cut (ι := Bool) (fun b => [(6, .pointer (some ⟨b6, 0, none⟩)), (12, .pointer (some ⟨b12, 0, none⟩)), (13, .pointer (some ⟨b13, 0, none⟩)), (15, .pointer (some ⟨b15, 0, none⟩)), (17, .pointer (some ⟨b17, 0, none⟩)), (18, .bool r.2.2), (23, .int .i64 (n : Int)), (139, .bool b)])
      (fun b w => (b = true ↔ ∃ x, 0 < n ∧ L1[n - 1]? = some x ∧ cmpC k x.1 < 0) ∧ ∃ h : G, h.w = w ∧ Step [] [] h2 h) ?_ ?_
    · refine d_begin none [] (by kernel_rfl) fun g2 hsd => ?_
      have hsd0 := hsd
      replace hc6 := hc6.go hsd; replace hc15 := hc15.go hsd; replace hr := hr.go hsd; replace hst2 := hst2.go hsd
      refine d_pure 0 calm_ret rfl (by kernel_rfl) rfl rfl ?_; refine d_pure 1 calm_ret rfl (by kernel_rfl) rfl rfl ?_; refine d_pure 2 calm_ret rfl (by kernel_rfl) rfl rfl ?_
      refine d_splitP 104 rfl (fun hp => ?_) (fun hp => ?_)
      · have hlt : n - 1 < L1.length := by omega
        have hy1 : L1[((n : Int) - 1).toNat]? = some L1[n - 1] := by rw [show ((n : Int) - 1).toNat = n - 1 by omega]; simp [hlt]
        have hiff : ∀ b : Bool, (b = true ↔ cmpC k L1[n - 1].1 < 0) → (b = true ↔ ∃ x, 0 < n ∧ L1[n - 1]? = some x ∧ cmpC k x.1 < 0) := fun b hb => by
          rw [hb, List.getElem?_eq_getElem hlt]
          constructor
          · exact fun hc => ⟨_, by omega, rfl, hc⟩
          · rintro ⟨x, _, e, hc⟩; injection e with e; rw [e]; exact hc
        refine d_readG 3 calm_ret rfl rfl rfl (by kernel_rfl) rfl  (fun h hs => r_fldA (by decide) rfl) ?_
        refine d_readG 4 calm_ret rfl rfl rfl (by kernel_rfl) rfl  (fun h hs => r_load1 (v := str k.name) (hc15.go hs) rfl rfl rfl) ?_
        refine d_readG 5 calm_ret rfl rfl rfl (by kernel_rfl) rfl  (fun h hs => r_fldA (by decide) rfl) ?_
        refine d_readG 6 calm_ret rfl rfl rfl (by kernel_rfl) rfl  (fun h hs => r_load1 (v := v1) (hc6.go hs) rfl rfl rfl) ?_
        refine d_guard_pure 7 calm_ret rfl rfl rfl (by kernel_rfl) rfl rfl ?_
        refine d_readG 8 calm_ret rfl rfl rfl (by kernel_rfl) rfl  (fun h hs => r_sub rfl rfl (by omega)) ?_
        refine d_readG 9 calm_ret rfl rfl rfl (by kernel_rfl) rfl  (fun h hs => r_idx (hr.go hs) rfl rfl (by omega) (by omega)) ?_
        refine d_readG 10 calm_ret rfl rfl rfl (by kernel_rfl) rfl  (fun h hs => r_fldE (hr.base hlt) (by decide) rfl) ?_
        refine d_readG 11 calm_ret rfl rfl rfl (by kernel_rfl) rfl  (fun h hs => r_loadEF (i := ((n : Int) - 1).toNat) (off := 0) (y := L1[n - 1]) (u := str L1[n - 1].1.name) (hr.go hs) rfl hy1 rfl rfl) ?_
        refine d_guard_pure 12 calm_ret rfl rfl rfl (by kernel_rfl) rfl rfl ?_; refine d_guard_pure 13 calm_ret rfl rfl rfl (by kernel_rfl) rfl rfl ?_
        refine d_known 115 (.bool (Op.bytesLess k.name L1[n - 1].1.name)) rfl rfl ?_
        refine d_splitB 115 rfl (fun hq => ?_) (fun hq => ?_)
        · refine d_guard_no 14 calm_ret rfl rfl rfl (by kernel_rfl) rfl ?_; refine d_guard_no 15 calm_ret rfl rfl rfl (by kernel_rfl) rfl ?_; refine d_guard_no 16 calm_ret rfl rfl rfl (by kernel_rfl) rfl ?_; refine d_guard_no 17 calm_ret rfl rfl rfl (by kernel_rfl) rfl ?_; refine d_guard_no 18 calm_ret rfl rfl rfl (by kernel_rfl) rfl ?_; refine d_guard_no 19 calm_ret rfl rfl rfl (by kernel_rfl) rfl ?_; refine d_guard_no 20 calm_ret rfl rfl rfl (by kernel_rfl) rfl ?_; refine d_guard_no 21 calm_ret rfl rfl rfl (by kernel_rfl) rfl ?_; refine d_guard_no 22 calm_ret rfl rfl rfl (by kernel_rfl) rfl ?_; refine d_guard_no 23 calm_ret rfl rfl rfl (by kernel_rfl) rfl ?_; refine d_guard_no 24 calm_ret rfl rfl rfl (by kernel_rfl) rfl ?_
          refine d_guard_off 25 calm_ret rfl rfl rfl (by kernel_rfl) rfl ?_; refine d_guard_off 26 calm_ret rfl rfl rfl (by kernel_rfl) rfl ?_; refine d_guard_off 27 calm_ret rfl rfl rfl (by kernel_rfl) rfl ?_; refine d_guard_off 28 calm_ret rfl rfl rfl (by kernel_rfl) rfl ?_; refine d_guard_off 29 calm_ret rfl rfl rfl (by kernel_rfl) rfl ?_; refine d_guard_off 30 calm_ret rfl rfl rfl (by kernel_rfl) rfl ?_; refine d_guard_off 31 calm_ret rfl rfl rfl (by kernel_rfl) rfl ?_; refine d_guard_off 32 calm_ret rfl rfl rfl (by kernel_rfl) rfl ?_; refine d_guard_off 33 calm_ret rfl rfl rfl (by kernel_rfl) rfl ?_; refine d_guard_off 34 calm_ret rfl rfl rfl (by kernel_rfl) rfl ?_
          refine d_guard_no 35 calm_ret rfl rfl rfl (by kernel_rfl) rfl ?_
          refine d_guard_pure 36 calm_ret rfl rfl rfl (by kernel_rfl) rfl rfl ?_
          refine d_pure 37 calm_ret rfl (by kernel_rfl) rfl rfl ?_
          refine d_done (by kernel_rfl) ?_
          exact w_meet true ⟨hiff true ⟨fun _ => (cmpC_lt _ _).2 (.inl hq), fun _ => rfl⟩, g2, rfl, hsd0⟩ ⟨rfl, rfl, rfl, rfl, rfl, rfl, rfl, rfl, trivial⟩
        · refine d_readG 14 calm_ret rfl rfl rfl (by kernel_rfl) rfl  (fun h hs => r_fldA (by decide) rfl) ?_
          refine d_readG 15 calm_ret rfl rfl rfl (by kernel_rfl) rfl  (fun h hs => r_load1 (v := str k.name) (hc15.go hs) rfl rfl rfl) ?_
          refine d_readG 16 calm_ret rfl rfl rfl (by kernel_rfl) rfl  (fun h hs => r_fldA (by decide) rfl) ?_
          refine d_readG 17 calm_ret rfl rfl rfl (by kernel_rfl) rfl  (fun h hs => r_load1 (v := v1) (hc6.go hs) rfl rfl rfl) ?_
          refine d_guard_pure 18 calm_ret rfl rfl rfl (by kernel_rfl) rfl rfl ?_
          refine d_readG 19 calm_ret rfl rfl rfl (by kernel_rfl) rfl  (fun h hs => r_sub rfl rfl (by omega)) ?_
          refine d_readG 20 calm_ret rfl rfl rfl (by kernel_rfl) rfl  (fun h hs => r_idx (hr.go hs) rfl rfl (by omega) (by omega)) ?_
          refine d_readG 21 calm_ret rfl rfl rfl (by kernel_rfl) rfl  (fun h hs => r_fldE (hr.base hlt) (by decide) rfl) ?_
          refine d_readG 22 calm_ret rfl rfl rfl (by kernel_rfl) rfl  (fun h hs => r_loadEF (i := ((n : Int) - 1).toNat) (off := 0) (y := L1[n - 1]) (u := str L1[n - 1].1.name) (hr.go hs) rfl hy1 rfl rfl) ?_
          refine d_guard_pure 23 calm_ret rfl rfl rfl (by kernel_rfl) rfl rfl ?_; refine d_guard_pure 24 calm_ret rfl rfl rfl (by kernel_rfl) rfl rfl ?_
          have hq2 : ¬ Op.bytesLess k.name L1[n - 1].1.name = true := by rw [hq]; simp
          refine d_known 126 (.bool (decide (k.name = L1[n - 1].1.name))) rfl rfl ?_
          refine d_splitP 126 rfl (fun he => ?_) (fun he => ?_)
          · refine d_readG 25 calm_ret rfl rfl rfl (by kernel_rfl) rfl  (fun h hs => r_fldA (by decide) rfl) ?_
            refine d_readG 26 calm_ret rfl rfl rfl (by kernel_rfl) rfl  (fun h hs => r_load1 (v := .int .i64 k.type_) (hc15.go hs) rfl rfl rfl) ?_
            refine d_readG 27 calm_ret rfl rfl rfl (by kernel_rfl) rfl  (fun h hs => r_fldA (by decide) rfl) ?_
            refine d_readG 28 calm_ret rfl rfl rfl (by kernel_rfl) rfl  (fun h hs => r_load1 (v := v1) (hc6.go hs) rfl rfl rfl) ?_
            refine d_guard_pure 29 calm_ret rfl rfl rfl (by kernel_rfl) rfl rfl ?_
            refine d_readG 30 calm_ret rfl rfl rfl (by kernel_rfl) rfl  (fun h hs => r_sub rfl rfl (by omega)) ?_
            refine d_readG 31 calm_ret rfl rfl rfl (by kernel_rfl) rfl  (fun h hs => r_idx (hr.go hs) rfl rfl (by omega) (by omega)) ?_
            refine d_readG 32 calm_ret rfl rfl rfl (by kernel_rfl) rfl  (fun h hs => r_fldE (hr.base hlt) (by decide) rfl) ?_
            refine d_readG 33 calm_ret rfl rfl rfl (by kernel_rfl) rfl  (fun h hs => r_loadEF (i := ((n : Int) - 1).toNat) (off := 1) (y := L1[n - 1]) (u := .int .i64 L1[n - 1].1.type_) (hr.go hs) rfl hy1 rfl rfl) ?_
            refine d_guard_pure 34 calm_ret rfl rfl rfl (by kernel_rfl) rfl rfl ?_; refine d_guard_pure 35 calm_ret rfl rfl rfl (by kernel_rfl) rfl rfl ?_; refine d_guard_pure 36 calm_ret rfl rfl rfl (by kernel_rfl) rfl rfl ?_
            refine d_pure 37 calm_ret rfl (by kernel_rfl) rfl rfl ?_
            refine d_done (by kernel_rfl) ?_
            refine w_meet (decide (k.type_ < L1[n - 1].1.type_)) ⟨hiff _ ?_, g2, rfl, hsd0⟩ ⟨rfl, rfl, rfl, rfl, rfl, rfl, rfl, rfl, trivial⟩
            rw [decide_eq_true_eq, cmpC_lt]
            exact ⟨fun h => .inr ⟨he, h⟩, fun h => (h.resolve_left hq2).2⟩
          · refine d_guard_no 25 calm_ret rfl rfl rfl (by kernel_rfl) rfl ?_; refine d_guard_no 26 calm_ret rfl rfl rfl (by kernel_rfl) rfl ?_; refine d_guard_no 27 calm_ret rfl rfl rfl (by kernel_rfl) rfl ?_; refine d_guard_no 28 calm_ret rfl rfl rfl (by kernel_rfl) rfl ?_; refine d_guard_no 29 calm_ret rfl rfl rfl (by kernel_rfl) rfl ?_; refine d_guard_no 30 calm_ret rfl rfl rfl (by kernel_rfl) rfl ?_; refine d_guard_no 31 calm_ret rfl rfl rfl (by kernel_rfl) rfl ?_; refine d_guard_no 32 calm_ret rfl rfl rfl (by kernel_rfl) rfl ?_; refine d_guard_no 33 calm_ret rfl rfl rfl (by kernel_rfl) rfl ?_; refine d_guard_no 34 calm_ret rfl rfl rfl (by kernel_rfl) rfl ?_
            refine d_guard_pure 35 calm_ret rfl rfl rfl (by kernel_rfl) rfl rfl ?_; refine d_guard_pure 36 calm_ret rfl rfl rfl (by kernel_rfl) rfl rfl ?_
            refine d_pure 37 calm_ret rfl (by kernel_rfl) rfl rfl ?_
            refine d_done (by kernel_rfl) ?_
            refine w_meet false ⟨hiff _ ?_, g2, rfl, hsd0⟩ ⟨rfl, rfl, rfl, rfl, rfl, rfl, rfl, rfl, trivial⟩
            rw [cmpC_lt]
            exact ⟨fun h => (by cases h), fun h => absurd (h.resolve_left hq2).1 he⟩
      · refine d_guard_no 3 calm_ret rfl rfl rfl (by kernel_rfl) rfl ?_; refine d_guard_no 4 calm_ret rfl rfl rfl (by kernel_rfl) rfl ?_; refine d_guard_no 5 calm_ret rfl rfl rfl (by kernel_rfl) rfl ?_; refine d_guard_no 6 calm_ret rfl rfl rfl (by kernel_rfl) rfl ?_; refine d_guard_no 7 calm_ret rfl rfl rfl (by kernel_rfl) rfl ?_; refine d_guard_no 8 calm_ret rfl rfl rfl (by kernel_rfl) rfl ?_; refine d_guard_no 9 calm_ret rfl rfl rfl (by kernel_rfl) rfl ?_; refine d_guard_no 10 calm_ret rfl rfl rfl (by kernel_rfl) rfl ?_; refine d_guard_no 11 calm_ret rfl rfl rfl (by kernel_rfl) rfl ?_; refine d_guard_no 12 calm_ret rfl rfl rfl (by kernel_rfl) rfl ?_; refine d_guard_no 13 calm_ret rfl rfl rfl (by kernel_rfl) rfl ?_
        refine d_guard_off 14 calm_ret rfl rfl rfl (by kernel_rfl) rfl ?_; refine d_guard_off 15 calm_ret rfl rfl rfl (by kernel_rfl) rfl ?_; refine d_guard_off 16 calm_ret rfl rfl rfl (by kernel_rfl) rfl ?_; refine d_guard_off 17 calm_ret rfl rfl rfl (by kernel_rfl) rfl ?_; refine d_guard_off 18 calm_ret rfl rfl rfl (by kernel_rfl) rfl ?_; refine d_guard_off 19 calm_ret rfl rfl rfl (by kernel_rfl) rfl ?_; refine d_guard_off 20 calm_ret rfl rfl rfl (by kernel_rfl) rfl ?_; refine d_guard_off 21 calm_ret rfl rfl rfl (by kernel_rfl) rfl ?_; refine d_guard_off 22 calm_ret rfl rfl rfl (by kernel_rfl) rfl ?_; refine d_guard_off 23 calm_ret rfl rfl rfl (by kernel_rfl) rfl ?_; refine d_guard_off 24 calm_ret rfl rfl rfl (by kernel_rfl) rfl ?_
        refine d_guard_off 25 calm_ret rfl rfl rfl (by kernel_rfl) rfl ?_; refine d_guard_off 26 calm_ret rfl rfl rfl (by kernel_rfl) rfl ?_; refine d_guard_off 27 calm_ret rfl rfl rfl (by kernel_rfl) rfl ?_; refine d_guard_off 28 calm_ret rfl rfl rfl (by kernel_rfl) rfl ?_; refine d_guard_off 29 calm_ret rfl rfl rfl (by kernel_rfl) rfl ?_; refine d_guard_off 30 calm_ret rfl rfl rfl (by kernel_rfl) rfl ?_; refine d_guard_off 31 calm_ret rfl rfl rfl (by kernel_rfl) rfl ?_; refine d_guard_off 32 calm_ret rfl rfl rfl (by kernel_rfl) rfl ?_; refine d_guard_off 33 calm_ret rfl rfl rfl (by kernel_rfl) rfl ?_; refine d_guard_off 34 calm_ret rfl rfl rfl (by kernel_rfl) rfl ?_; refine d_guard_off 35 calm_ret rfl rfl rfl (by kernel_rfl) rfl ?_
        refine d_guard_no 36 calm_ret rfl rfl rfl (by kernel_rfl) rfl ?_
        refine d_pure 37 calm_ret rfl (by kernel_rfl) rfl rfl ?_
        refine d_done (by kernel_rfl) ?_
        refine w_meet false ⟨⟨fun h => (by cases h), fun ⟨x, h0, _⟩ => by omega⟩, g2, rfl, hsd0⟩ ⟨rfl, rfl, rfl, rfl, rfl, rfl, rfl, rfl, trivial⟩
    rintro b _ ⟨hb, k1, rfl, hk1⟩
    replace hst2 := hst2.go hk1
    refine w_cond rfl (fun hx => ?_) (fun hx => ?_)
    · obtain ⟨x0, hp, hx0, hc⟩ := hb.1 hx
      repeat (first|refine q1 ?_|refine q2 ?_|refine q3 ?_|refine q4 ?_|refine q5 ?_|refine q6 ?_|refine w_seq ?_|refine w_region ?_|refine w_ops_nil ?_|refine w_skip ?_|refine w_block ?_|refine w_blk ?_|refine q7 ?_|refine q8 ?_|refine q9 ?_)
      refine w_again (n - 1) (by omega) ⟨k1, rfl, hst2, by omega, fun j x hj hxj => ?_⟩ ⟨rfl, rfl, rfl, rfl, rfl, rfl, ?_, trivial⟩
      · by_cases e : j = n - 1
        · subst e; rw [hx0] at hxj; injection hxj with hxj; subst hxj; exact hc
        · exact hall j x (by omega) hxj
      · exact congrArg (fun z => some (Value.int .i64 z)) (show (n : Int) - 1 = ((n - 1 : Nat) : Int) by omega)
    · have hno : ¬ ∃ x, 0 < n ∧ L1[n - 1]? = some x ∧ cmpC k x.1 < 0 := fun h => by rw [hb.2 h] at hx; cases hx
      repeat (first|refine q1 ?_|refine q2 ?_|refine q3 ?_|refine q4 ?_|refine q5 ?_|refine q6 ?_|refine w_seq ?_|refine w_region ?_|refine w_ops_nil ?_|refine w_skip ?_|refine w_block ?_|refine w_blk ?_|refine q7 ?_|refine q8 ?_|refine q9 ?_)
      refine w_meet n ⟨k1, rfl, hst2, hn2, hall, ?_⟩ ⟨rfl, rfl, rfl, rfl, rfl, rfl, rfl, trivial⟩
      by_cases h0 : n = 0
      · exact .inl h0
      · have hlt : n - 1 < L1.length := by omega
        exact .inr ⟨L1[n - 1], by simp [hlt], fun hc => hno ⟨_, by omega, List.getElem?_eq_getElem hlt, hc⟩⟩
  rintro n _ ⟨h2, rfl, hs0, hpl⟩
  have hn2 := hpl.1
  replace hst := hst.go hs0; replace hc6 := hc6.go hs0; replace hc12 := hc12.go hs0; replace hc13 := hc13.go hs0; replace hc15 := hc15.go hs0; replace hc17 := hc17.go hs0; replace hr := hr.go hs0
  clear hs0
  repeat (first|refine q1 ?_|refine q2 ?_|refine q3 ?_|refine q4 ?_|refine q5 ?_|refine q6 ?_|refine w_seq ?_|refine w_region ?_|refine w_ops_nil ?_|refine w_skip ?_|refine w_block ?_|refine w_blk ?_|refine q7 ?_|refine q8 ?_|refine q9 ?_)
  refine w_fldA (by decide) rfl rfl ?_
  refine w_load1 (v := v1) hc6 rfl rfl rfl rfl ?_
  repeat (first|refine q1 ?_|refine q2 ?_|refine q3 ?_|refine q4 ?_|refine q5 ?_|refine q6 ?_|refine w_seq ?_|refine w_region ?_|refine w_ops_nil ?_|refine w_skip ?_|refine w_block ?_|refine w_blk ?_|refine q7 ?_|refine q8 ?_|refine q9 ?_)
  refine w_cut_ (a := 0) (b := n) hr rfl rfl ⟨_, rfl, rfl⟩ (by omega) (by omega) rfl fun hr1 => ?_
  refine w_append (Own.nil h2 45 El.ce 33) hr1 rfl rfl rfl (by decide) (by simp; omega) rfl fun h3 v3 hs3 ho3 => ?_
  replace hst := hst.go hs3; replace hc6 := hc6.go hs3; replace hc12 := hc12.go hs3; replace hc13 := hc13.go hs3; replace hc15 := hc15.go hs3; replace hc17 := hc17.go hs3; replace hr := hr.go hs3
  repeat (first|refine q1 ?_|refine q2 ?_|refine q3 ?_|refine q4 ?_|refine q5 ?_|refine q6 ?_|refine w_seq ?_|refine w_region ?_|refine w_ops_nil ?_|refine w_skip ?_|refine w_block ?_|refine w_blk ?_|refine q7 ?_|refine q8 ?_|refine q9 ?_)
  refine w_loadS (us := El.ce.enc (k, v)) hc15 rfl rfl rfl rfl rfl ?_
  refine w_buildSlR El.ce [(k, v)] rfl rfl rfl rfl fun h4 v4 hs4 hr4 => ?_
  replace hst := hst.go hs4; replace hc6 := hc6.go hs4; replace hc12 := hc12.go hs4; replace hc13 := hc13.go hs4; replace hc15 := hc15.go hs4; replace hc17 := hc17.go hs4; replace hr := hr.go hs4
  refine w_append (ho3.go hs4) hr4 rfl rfl rfl (by decide) (by simp; omega) rfl fun h5 v5 hs5 ho5 => ?_
  replace hst := hst.go hs5; replace hc6 := hc6.go hs5; replace hc12 := hc12.go hs5; replace hc13 := hc13.go hs5; replace hc15 := hc15.go hs5; replace hc17 := hc17.go hs5; replace hr := hr.go hs5
  repeat (first|refine q1 ?_|refine q2 ?_|refine q3 ?_|refine q4 ?_|refine q5 ?_|refine q6 ?_|refine w_seq ?_|refine w_region ?_|refine w_ops_nil ?_|refine w_skip ?_|refine w_block ?_|refine w_blk ?_|refine q7 ?_|refine q8 ?_|refine q9 ?_)
  refine w_fldA (by decide) rfl rfl ?_
  refine w_load1 (v := v1) hc6 rfl rfl rfl rfl ?_
  repeat (first|refine q1 ?_|refine q2 ?_|refine q3 ?_|refine q4 ?_|refine q5 ?_|refine q6 ?_|refine w_seq ?_|refine w_region ?_|refine w_ops_nil ?_|refine w_skip ?_|refine w_block ?_|refine w_blk ?_|refine q7 ?_|refine q8 ?_|refine q9 ?_)
  refine w_cut_ (a := n) (b := L1.length) hr rfl ⟨_, rfl, rfl⟩ rfl (by omega) (by omega) rfl fun hr6 => ?_
  refine w_append ho5 hr6 rfl rfl rfl (by decide) (by simp; omega) rfl fun h6 v6 hs6 ho6 => ?_
  replace hst := hst.go hs6; replace hc6 := hc6.go hs6; replace hc12 := hc12.go hs6; replace hc13 := hc13.go hs6; replace hc17 := hc17.go hs6
  clear hs3 hs4 hs5 hs6
  obtain ⟨h7, hw7, hs7, hr7⟩ := ho6.freeze (by decide)
  rw [← hw7]
  replace hst := hst.go hs7; replace hc6 := hc6.go hs7; replace hc12 := hc12.go hs7; replace hc13 := hc13.go hs7; replace hc17 := hc17.go hs7
  refine w_fldA (by decide) rfl rfl ?_
  refine w_store1 hc6 rfl rfl hr7.isSl.one (show 1 < 2 by decide) fun h8 hb8 hs8 hc6 => ?_
  replace hst := hst.go hs8; replace hc12 := hc12.go hs8; replace hc13 := hc13.go hs8; replace hc17 := hc17.go hs8; replace hr7 := hr7.go hs8
  repeat (first|refine q1 ?_|refine q2 ?_|refine q3 ?_|refine q4 ?_|refine q5 ?_|refine q6 ?_|refine w_seq ?_|refine w_region ?_|refine w_ops_nil ?_|refine w_skip ?_|refine w_block ?_|refine w_blk ?_|refine q7 ?_|refine q8 ?_|refine q9 ?_)
  refine d_begin none [43, 44] (by kernel_rfl) fun g2 hsd => ?_
  replace hst := hst.go hsd; replace hc6 := hc6.go hsd; replace hc12 := hc12.go hsd; replace hc13 := hc13.go hsd; replace hc17 := hc17.go hsd; replace hr7 := hr7.go hsd
  refine d_read 0 calm_ret rfl (by kernel_rfl) rfl  (fun h hs => r_load (us := [.int .i64 room, v6]) (hc6.go hs) rfl rfl rfl (fun e => by cases e)) ?_
  refine d_read 1 calm_ret rfl (by kernel_rfl) rfl  (fun h hs => r_load (us := El.ce.enc r.2.1) (hc17.go hs) rfl rfl rfl (fun e => by cases e)) ?_
  refine d_pure 2 calm_ret rfl (by kernel_rfl) rfl rfl ?_
  refine d_exec1 3 (by kernel_rfl) rfl ?_
  refine w_store (us := [.int .i64 room, v6]) (vs' := [.int .i64 room, v6]) hc12 rfl rfl rfl rfl (oneTwo hr7.isSl.one) (show 0 + 2 ≤ 2 by decide) rfl fun k1 hb1 ks1 hc12 => ?_
  have kt1 : Step [] [43, 44] g2 k1 := ks1.mono (by simp) (by simp)
  replace hst := hst.go ks1; replace hc13 := hc13.go ks1; replace hr7 := hr7.go ks1
  repeat (first|refine q1 ?_|refine q2 ?_|refine q3 ?_|refine q4 ?_|refine q5 ?_|refine q6 ?_|refine w_seq ?_|refine w_region ?_|refine w_ops_nil ?_|refine w_skip ?_|refine w_block ?_|refine w_blk ?_|refine q7 ?_|refine q8 ?_|refine q9 ?_)
  refine d_next (fun _ => ⟨k1, rfl, kt1⟩) ?_
  refine d_exec1 4 (by kernel_rfl) rfl ?_
  refine w_store (us := El.ce.enc r.2.1) (vs' := El.ce.enc r.2.1) hc13 rfl rfl rfl rfl (El.ce.flat _) (show 0 + 4 ≤ 4 by decide) rfl fun k2 hb2 ks2 hc13 => ?_
  replace kt1 := kt1.go ks2
  replace hst := hst.go ks2; replace hc12 := hc12.go ks2; replace hr7 := hr7.go ks2
  repeat (first|refine q1 ?_|refine q2 ?_|refine q3 ?_|refine q4 ?_|refine q5 ?_|refine q6 ?_|refine w_seq ?_|refine w_region ?_|refine w_ops_nil ?_|refine w_skip ?_|refine w_block ?_|refine w_blk ?_|refine q7 ?_|refine q8 ?_|refine q9 ?_)
  refine d_next (fun _ => ⟨k2, rfl, kt1⟩) ?_
  refine d_pure 5 calm_ret rfl (by kernel_rfl) rfl rfl ?_
  refine d_done (by kernel_rfl) ?_
  repeat (first|refine q1 ?_|refine q2 ?_|refine q3 ?_|refine q4 ?_|refine q5 ?_|refine q6 ?_|refine w_seq ?_|refine w_region ?_|refine w_ops_nil ?_|refine w_skip ?_|refine w_block ?_|refine w_blk ?_|refine q7 ?_|refine q8 ?_|refine q9 ?_)
  refine w_retG (resCC1s hc12 hc13 rfl rfl rfl rfl rfl rfl rfl rfl) hst fun h' hv' => ⟨v6, _, _, _, rfl, hr7.view hv' (.inl rfl), ?_⟩
  rw [if_neg hle]
  exact ⟨⟨n, hpl, by simp⟩, rfl, rfl⟩
end Go.Proofs.Ytfkdfnookacgiaa
