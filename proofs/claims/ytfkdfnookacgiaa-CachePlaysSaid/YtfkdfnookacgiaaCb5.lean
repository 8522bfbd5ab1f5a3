/- Caches: one deed of both caches. No statement of the seat is proved here. -/
import Derived.Test.YtfkdfnookacgiaaCb3
set_option linter.unusedVariables false
set_option linter.unusedSimpArgs false
namespace Go.Proofs.Ytfkdfnookacgiaa
open Go
attribute [local irreducible] Wp
structure Dv where
  kind : Int
  typ : Int
  ttl : Int
  wait : Int
  name : List UInt8
  sl : {v : Value // v.oneCell' = true}
def El.dv : El Dv := ⟨6, true, fun d => [.int .i64 d.kind, .int .i64 d.typ, .int .i64 d.ttl, .int .i64 d.wait, Go.Proofs.Ytfkdfnookacgiaa.str d.name, d.sl.1], fun _ => rfl, fun h => (by cases h), by decide, by
  intro x u hu
  simp only [List.mem_cons, List.not_mem_nil, or_false] at hu
  rcases hu with h | h | h | h | h | h
  · subst h; rfl
  · subst h; rfl
  · subst h; rfl
  · subst h; rfl
  · subst h; rfl
  · subst h; exact x.sl.2⟩
/-- What is put of a deed's addresses. -/
def CutOf (v : Value) (a : List Ad) (x : Cv) : Prop := (x.sl.1 = v ∧ x.addrs = a) ∨ (3 ≤ a.length ∧ x.sl.1 = cutV v El.ad.sz 0 3 ∧ x.addrs = (a.take 3).drop 0)
/-- The slices of a list's entries are read as their addresses. -/
def SlsC (g : G) (L : CaM) : Prop := ∀ x ∈ L, Rdx g El.ad x.2.sl.1 x.2.addrs ∧ x.2.addrs.length ≤ 3
theorem SlsC.go {g h : G} {L : CaM} {M : List Nat} (hs : SlsC g L) (ht : Step [] M g h) (hM : ∀ x ∈ M, 2 ≤ x := by simp) : SlsC h L := fun x hx => ⟨(hs x hx).1.go ht hM, (hs x hx).2⟩
theorem SlsC.seen {g h : G} {L : CaM} {M : List Nat} (hs : SlsC g L) (hv : View M g h) (ho : Out M g h) (hM : ∀ x ∈ M, 2 ≤ x := by simp) : SlsC h L := fun x hx => ⟨(hs x hx).1.seen hv ho hM, (hs x hx).2⟩
theorem SlsC.sl {g : G} {L : CaM} (hs : SlsC g L) (k : Ck) (now : Int) : Rdx g El.ad (slC L k now) (addrsC L k now) := by
  unfold slC addrsC
  cases hh : hitC L k now with
  | false => exact ⟨0, by omega, Rd.nil _ _ _ none 0 (by decide)⟩
  | true =>
    unfold hitC at hh
    cases h : mget k L with
    | none => rw [h] at hh; cases hh
    | some u =>
      have := hs _ (mgetC_mem h)
      unfold getD
      rw [h]
      exact this.1
theorem BooksC.small {m L : CaM} {g : G} (h : BooksC m L) (hs : SlsC g L) : ∀ x ∈ m, x.2.addrs.length ≤ 1000000 := fun x hx => by
  obtain ⟨y, hy, e⟩ := List.mem_map.1 (h.perm.mem_iff.1 (List.mem_map_of_mem (f := ab) hx))
  have h1 := (hs y hy).2
  have h2 : y.2.addrs = x.2.addrs := congrArg (fun z => z.2.1) e
  rw [← h2]; omega
/-- What comes of a deed. -/
def DoesC (p : Nat) (room : Int) (L : CaM) (vd : Value) (a : List Ad) (u : Value) (h : G) : Prop :=
  ∃ v' m' L', u = .tuple #[.agg #[.int .i64 room, v'], .bool true] ∧ Rd h 0 El.ce v' L' ∧ Cm h p room m' ∧ BooksC m' L' ∧ L'.length ≤ L.length + 1 ∧ ∀ x ∈ L', x ∈ L ∨ (CutOf vd a x.2 ∧ x.2.addrs.length ≤ 3)

set_option maxRecDepth 4000 in
theorem law10_does (p : Nat) (room : Int) (m L : CaM) (vL : Value) (d : Dv) (a : List Ad) (now : Int) (g : G) (hb : Cm g p room m) (hr : Rd g 0 El.ce vL L) (hbk : BooksC m L) (hsl : SlsC g L) (hl : L.length ≤ 900) (hr1 : 1 ≤ room) (ha : Rdx g El.ad d.sl.1 a) (hnow : 0 ≤ now ∧ now ≤ 1000000) :
    Fn Try.prog 23 [.pointer (some ⟨p, 0, none⟩), .agg #[.int .i64 room, vL], El.dv.val d, .int .i64 now] g [51, 52] (DoesC p room L d.sl.1 a) := by
  refine enterG [51, 52] [41, 42, 43, 44, 46, 47, 53] Try.func23 rfl Try.ntmps23 rfl (by simp) fun g1 hv ho => ?_
  replace hb := hb.view hv
  replace hr := hr.view hv (.inl rfl)
  replace hsl := hsl.seen hv ho
  replace ha := ha.seen hv ho
  have hlm := hbk.len
  have same : ∀ x ∈ L, x ∈ L ∨ (CutOf d.sl.1 a x.2 ∧ x.2.addrs.length ≤ 3) := fun x hx => .inl hx
  repeat (first|refine q1 ?_|refine q2 ?_|refine q3 ?_|refine q4 ?_|refine q5 ?_|refine q6 ?_|refine w_seq ?_|refine w_region ?_|refine w_ops_nil ?_|refine w_skip ?_|refine w_block ?_|refine w_blk ?_|refine q7 ?_|refine q8 ?_|refine q9 ?_)
  refine w_box 41 (vs := [.int .i64 room, vL]) rfl rfl rfl fun h1 b5 hs1 hc5 => ?_
  have hst : Step [] [51, 52, 41, 42, 43, 44, 46, 47, 53] g1 h1 := hs1.nil
  replace hb := hb.go hs1; replace hr := hr.go hs1; replace hsl := hsl.go hs1; replace ha := ha.go hs1
  repeat (first|refine q1 ?_|refine q2 ?_|refine q3 ?_|refine q4 ?_|refine q5 ?_|refine q6 ?_|refine w_seq ?_|refine w_region ?_|refine w_ops_nil ?_|refine w_skip ?_|refine w_block ?_|refine w_blk ?_|refine q7 ?_|refine q8 ?_|refine q9 ?_)
  refine w_box 42 (vs := El.dv.enc d) rfl rfl rfl fun h2 b6 hs2 hc6 => ?_
  replace hst := hst.go hs2; replace hb := hb.go hs2; replace hr := hr.go hs2; replace hc5 := hc5.go hs2; replace hsl := hsl.go hs2; replace ha := ha.go hs2
  repeat (first|refine q1 ?_|refine q2 ?_|refine q3 ?_|refine q4 ?_|refine q5 ?_|refine q6 ?_|refine w_seq ?_|refine w_region ?_|refine w_ops_nil ?_|refine w_skip ?_|refine w_block ?_|refine w_blk ?_|refine q7 ?_|refine q8 ?_|refine q9 ?_)
  refine w_alloc 43 (vs := [.int .i64 0, .slice none 0 0]) rfl rfl fun h3 b8 hs3 hc8 => ?_
  replace hst := hst.go hs3; replace hb := hb.go hs3; replace hr := hr.go hs3; replace hc5 := hc5.go hs3; replace hc6 := hc6.go hs3; replace hsl := hsl.go hs3; replace ha := ha.go hs3
  repeat (first|refine q1 ?_|refine q2 ?_|refine q3 ?_|refine q4 ?_|refine q5 ?_|refine q6 ?_|refine w_seq ?_|refine w_region ?_|refine w_ops_nil ?_|refine w_skip ?_|refine w_block ?_|refine w_blk ?_|refine q7 ?_|refine q8 ?_|refine q9 ?_)
  refine w_fldA (by decide) rfl rfl ?_
  refine w_load1 (v := str d.name) hc6 rfl rfl rfl rfl ?_
  refine w_callF (vs := [str d.name, .int .i64 6]) rfl (ref01_Few d.name 6 h3 (by omega)) rfl fun u h4 hs4 hu => ?_
  subst hu
  replace hst := hst.go hs4; replace hb := hb.go hs4; replace hr := hr.go hs4; replace hc5 := hc5.go hs4; replace hc6 := hc6.go hs4; replace hc8 := hc8.go hs4; replace hsl := hsl.go hs4; replace ha := ha.go hs4
  have hnl := lowB_take_len d.name (6 : Int).toNat
  generalize d.name.take (6 : Int).toNat = nm at hnl
  replace hnl : nm.length ≤ 1000000 := by omega
  obtain ⟨k, hk⟩ : ∃ k : Ck, (⟨lowB nm, d.typ⟩ : Ck) = k := ⟨_, rfl⟩
  repeat (first|refine q1 ?_|refine q2 ?_|refine q3 ?_|refine q4 ?_|refine q5 ?_|refine q6 ?_|refine w_seq ?_|refine w_region ?_|refine w_ops_nil ?_|refine w_skip ?_|refine w_block ?_|refine w_blk ?_|refine q7 ?_|refine q8 ?_|refine q9 ?_)
  refine w_fldA (by decide) rfl rfl ?_
  refine w_load1 (v := d.sl.1) hc6 rfl rfl rfl rfl ?_
  repeat (first|refine q1 ?_|refine q2 ?_|refine q3 ?_|refine q4 ?_|refine q5 ?_|refine q6 ?_|refine w_seq ?_|refine w_region ?_|refine w_ops_nil ?_|refine w_skip ?_|refine w_block ?_|refine w_blk ?_|refine q7 ?_|refine q8 ?_|refine q9 ?_)
  refine w_lenSl ha.isSl rfl rfl ?_
  clear hs1 hs2 hs3 hs4
  repeat (first|refine q1 ?_|refine q2 ?_|refine q3 ?_|refine q4 ?_|refine q5 ?_|refine q6 ?_|refine w_seq ?_|refine w_region ?_|refine w_ops_nil ?_|refine w_skip ?_|refine w_blk ?_|refine q7 ?_|refine q8 ?_|refine q9 ?_)
  refine w_cut (ι := Value × List Ad) (fun x => [(0, .pointer (some ⟨p, 0, none⟩)), (3, .int .i64 now), (5, .pointer (some ⟨b5, 0, none⟩)), (6, .pointer (some ⟨b6, 0, none⟩)), (8, .pointer (some ⟨b8, 0, none⟩)), (10, str nm), (11, x.1)])
    (fun x w => h4.w = w ∧ Rdx h4 El.ad x.1 x.2 ∧ x.2.length ≤ 3 ∧ ∀ y : Cv, y.sl.1 = x.1 → y.addrs = x.2 → CutOf d.sl.1 a y) ?_ ?_
  · refine w_condP rfl (fun hx => ?_) (fun hx => ?_)
    · obtain ⟨c, hc, hr0⟩ := ha
      repeat (first|refine q1 ?_|refine q2 ?_|refine q3 ?_|refine q4 ?_|refine q5 ?_|refine q6 ?_|refine w_seq ?_|refine w_region ?_|refine w_ops_nil ?_|refine w_skip ?_|refine w_block ?_|refine w_blk ?_|refine q7 ?_|refine q8 ?_|refine q9 ?_)
      refine w_cut_ (a := 0) (b := 3) hr0 rfl rfl ⟨_, rfl, rfl⟩ (by omega) (by omega) rfl fun hr1 => ?_
      repeat (first|refine q1 ?_|refine q2 ?_|refine q3 ?_|refine q4 ?_|refine q5 ?_|refine q6 ?_|refine w_seq ?_|refine w_region ?_|refine w_ops_nil ?_|refine w_skip ?_|refine w_block ?_|refine w_blk ?_|refine q7 ?_|refine q8 ?_|refine q9 ?_)
      exact w_meet (cutV d.sl.1 El.ad.sz 0 3, (a.take 3).drop 0) ⟨rfl, ⟨c, hc, hr1⟩, by simp; omega, fun y e1 e2 => .inr ⟨by omega, e1, e2⟩⟩ ⟨rfl, rfl, rfl, rfl, rfl, rfl, rfl, trivial⟩
    · repeat (first|refine q1 ?_|refine q2 ?_|refine q3 ?_|refine q4 ?_|refine q5 ?_|refine q6 ?_|refine w_seq ?_|refine w_region ?_|refine w_ops_nil ?_|refine w_skip ?_|refine w_block ?_|refine w_blk ?_|refine q7 ?_|refine q8 ?_|refine q9 ?_)
      exact w_meet (d.sl.1, a) ⟨rfl, ha, show a.length ≤ 3 by omega, fun y e1 e2 => .inl ⟨e1, e2⟩⟩ ⟨rfl, rfl, rfl, rfl, rfl, rfl, rfl, trivial⟩
  rintro ⟨vl, l⟩ _ ⟨rfl, hrl, hl3, hcut⟩
  dsimp only at hrl hl3 hcut ⊢
  repeat (first|refine q1 ?_|refine q2 ?_|refine q3 ?_|refine q4 ?_|refine q5 ?_|refine q6 ?_|refine w_seq ?_|refine w_region ?_|refine w_ops_nil ?_|refine w_skip ?_|refine w_block ?_|refine w_blk ?_|refine q7 ?_|refine q8 ?_|refine q9 ?_)
  refine w_fldA (by decide) rfl rfl ?_
  refine w_load1 (v := .int .i64 d.kind) hc6 rfl rfl rfl rfl ?_
  repeat (first|refine q1 ?_|refine q2 ?_|refine q3 ?_|refine q4 ?_|refine q5 ?_|refine q6 ?_|refine w_seq ?_|refine w_region ?_|refine w_ops_nil ?_|refine w_skip ?_|refine w_block ?_|refine w_blk ?_|refine q7 ?_|refine q8 ?_|refine q9 ?_)
  refine w_condP rfl (fun hk0 => ?_) (fun hk0 => ?_)
  · repeat (first|refine q1 ?_|refine q2 ?_|refine q3 ?_|refine q4 ?_|refine q5 ?_|refine q6 ?_|refine w_seq ?_|refine w_region ?_|refine w_ops_nil ?_|refine w_skip ?_|refine w_block ?_|refine w_blk ?_|refine q7 ?_|refine q8 ?_|refine q9 ?_)
    refine w_loadS (us := [.int .i64 room, vL]) hc5 rfl rfl rfl rfl rfl ?_
    repeat (first|refine q1 ?_|refine q2 ?_|refine q3 ?_|refine q4 ?_|refine q5 ?_|refine q6 ?_|refine w_seq ?_|refine w_region ?_|refine w_ops_nil ?_|refine w_skip ?_|refine w_block ?_|refine w_blk ?_|refine q7 ?_|refine q8 ?_|refine q9 ?_)
    refine w_fldA (by decide) rfl rfl ?_
    refine w_load1 (v := .int .i64 d.typ) hc6 rfl rfl rfl rfl ?_
    repeat (first|refine q1 ?_|refine q2 ?_|refine q3 ?_|refine q4 ?_|refine q5 ?_|refine q6 ?_|refine w_seq ?_|refine w_region ?_|refine w_ops_nil ?_|refine w_skip ?_|refine w_block ?_|refine w_blk ?_|refine q7 ?_|refine q8 ?_|refine q9 ?_)
    refine w_fldA (by decide) rfl rfl ?_
    refine w_load1 (v := .int .i64 d.ttl) hc6 rfl rfl rfl rfl ?_
    repeat (first|refine q1 ?_|refine q2 ?_|refine q3 ?_|refine q4 ?_|refine q5 ?_|refine q6 ?_|refine w_seq ?_|refine w_region ?_|refine w_ops_nil ?_|refine w_skip ?_|refine w_block ?_|refine w_blk ?_|refine q7 ?_|refine q8 ?_|refine q9 ?_)
    refine w_callF (vs := [.agg #[.int .i64 room, vL], str nm, .int .i64 d.typ, vl, .int .i64 d.ttl, .int .i64 now]) rfl
      (ref10_Put room L vL nm d.typ l vl hrl.isSl.one hrl.isSl d.ttl now k hk h4 hr (by omega) hbk.nd2 hr1 hnl (by omega)) rfl fun u h7 hs7 hR => ?_
    obtain ⟨v', L', gone, lt, rfl, hr', hput⟩ := hR
    replace hst := hst.go hs7; replace hb := hb.go hs7; replace hc5 := hc5.go hs7; replace hc6 := hc6.go hs7; replace hc8 := hc8.go hs7; replace hrl := hrl.go hs7
    clear hr hs7
    repeat (first|refine q1 ?_|refine q2 ?_|refine q3 ?_|refine q4 ?_|refine q5 ?_|refine q6 ?_|refine w_seq ?_|refine w_region ?_|refine w_ops_nil ?_|refine w_skip ?_|refine w_block ?_|refine w_blk ?_|refine q7 ?_|refine q8 ?_|refine q9 ?_)
    refine w_alloc 44 (vs := [.int .i64 0, .slice none 0 0]) rfl rfl fun h8 b12 hs8 hc12 => ?_
    replace hst := hst.go hs8; replace hb := hb.go hs8; replace hr' := hr'.go hs8; replace hc6 := hc6.go hs8; replace hc8 := hc8.go hs8; replace hrl := hrl.go hs8
    refine w_alloc 46 (vs := El.ce.enc ceZ) rfl rfl fun h9 b13 hs9 hc13 => ?_
    replace hst := hst.go hs9; replace hb := hb.go hs9; replace hr' := hr'.go hs9; replace hc6 := hc6.go hs9; replace hc8 := hc8.go hs9; replace hc12 := hc12.go hs9; replace hrl := hrl.go hs9
    refine w_store (us := [.int .i64 room, v']) (vs' := [.int .i64 room, v']) hc12 rfl rfl rfl rfl (oneTwo hr'.isSl.one) (show 0 + 2 ≤ 2 by decide) rfl fun h10 hb10 hs10 hc12 => ?_
    replace hst := hst.go hs10; replace hb := hb.go hs10; replace hr' := hr'.go hs10; replace hc6 := hc6.go hs10; replace hc8 := hc8.go hs10; replace hc13 := hc13.go hs10; replace hrl := hrl.go hs10
    refine w_store (us := El.ce.enc gone) (vs' := El.ce.enc gone) hc13 rfl rfl rfl rfl (El.ce.flat _) (show 0 + 4 ≤ 4 by decide) rfl fun h11 hb11 hs11 hc13 => ?_
    replace hst := hst.go hs11; replace hb := hb.go hs11; replace hr' := hr'.go hs11; replace hc6 := hc6.go hs11; replace hc8 := hc8.go hs11; replace hc12 := hc12.go hs11; replace hrl := hrl.go hs11
    repeat (first|refine q1 ?_|refine q2 ?_|refine q3 ?_|refine q4 ?_|refine q5 ?_|refine q6 ?_|refine w_seq ?_|refine w_region ?_|refine w_ops_nil ?_|refine w_skip ?_|refine w_block ?_|refine w_blk ?_|refine q7 ?_|refine q8 ?_|refine q9 ?_)
    refine w_fldA (by decide) rfl rfl ?_
    refine w_load1 (v := .int .i64 d.typ) hc6 rfl rfl rfl rfl ?_
    repeat (first|refine q1 ?_|refine q2 ?_|refine q3 ?_|refine q4 ?_|refine q5 ?_|refine q6 ?_|refine w_seq ?_|refine w_region ?_|refine w_ops_nil ?_|refine w_skip ?_|refine w_block ?_|refine w_blk ?_|refine q7 ?_|refine q8 ?_|refine q9 ?_)
    refine w_fldA (by decide) rfl rfl ?_
    refine w_load1 (v := .int .i64 d.ttl) hc6 rfl rfl rfl rfl ?_
    repeat (first|refine q1 ?_|refine q2 ?_|refine q3 ?_|refine q4 ?_|refine q5 ?_|refine q6 ?_|refine w_seq ?_|refine w_region ?_|refine w_ops_nil ?_|refine w_skip ?_|refine w_block ?_|refine w_blk ?_|refine q7 ?_|refine q8 ?_|refine q9 ?_)
    refine w_callF (vs := [.pointer (some ⟨p, 0, none⟩), str nm, .int .i64 d.typ, vl, .int .i64 d.ttl, .int .i64 now]) rfl
      (Cache_Put p room m nm d.typ l vl d.ttl now h11 hb hbk.nd (by omega) hr1 hnl hrl (by omega) (by omega) k hk) rfl fun u h12 hs12 hR => ?_
    obtain ⟨m', rfl, hb', hbk', hlen', hsub⟩ : ∃ m', u = .tuple #[El.ck.val gone.1, .bool lt] ∧ Cm h12 p room m' ∧ BooksC m' L' ∧ L'.length ≤ L.length + 1 ∧ ∀ x ∈ L', x ∈ L ∨ (CutOf d.sl.1 a x.2 ∧ x.2.addrs.length ≤ 3) := by
      unfold PutC at hR
      by_cases hle : d.ttl < 1
      · rw [if_pos hle] at hput hR
        obtain ⟨rfl, rfl, rfl⟩ := hput
        exact ⟨m, hR.1, hR.2, hbk, by omega, same⟩
      · rw [if_neg hle] at hput hR
        obtain ⟨hins, rfl, rfl⟩ := hput
        obtain ⟨cv, hca, hct, e, hb2⟩ := hR
        have hpre := (hbk.pre room now k).1
        refine ⟨_, by rw [e, hpre], hb2, hbk.put room now k cv _ (show av cv = av _ by unfold av; rw [hca, hct]) hins, ?_, fun x hx => ?_⟩
        · have h1 := (insC_perm hins).length_eq
          have h2 := preLC_len room now k L
          simp only [List.length_cons] at h1
          omega
        · rcases insC_sub hins x hx with rfl | hx
          · exact .inr ⟨hcut _ rfl rfl, hl3⟩
          · exact .inl hx
    clear hR hput hb
    replace hst := hst.go hs12; replace hr' := hr'.go hs12; replace hc6 := hc6.go hs12; replace hc8 := hc8.go hs12; replace hc12 := hc12.go hs12; replace hc13 := hc13.go hs12
    repeat (first|refine q1 ?_|refine q2 ?_|refine q3 ?_|refine q4 ?_|refine q5 ?_|refine q6 ?_|refine w_seq ?_|refine w_region ?_|refine w_ops_nil ?_|refine w_skip ?_|refine w_block ?_|refine w_blk ?_|refine q7 ?_|refine q8 ?_|refine q9 ?_)
    refine w_alloc 47 (vs := El.ck.enc Ck.zero) rfl rfl fun h13 b15 hs13 hc15 => ?_
    replace hst := hst.go hs13; replace hb' := hb'.go hs13; replace hr' := hr'.go hs13; replace hc8 := hc8.go hs13; replace hc12 := hc12.go hs13; replace hc13 := hc13.go hs13
    refine w_store (us := El.ck.enc gone.1) (vs' := El.ck.enc gone.1) hc15 rfl rfl rfl rfl (El.ck.flat _) (show 0 + 2 ≤ 2 by decide) rfl fun h14 hb14 hs14 hc15 => ?_
    replace hst := hst.go hs14; replace hb' := hb'.go hs14; replace hr' := hr'.go hs14; replace hc8 := hc8.go hs14; replace hc12 := hc12.go hs14; replace hc13 := hc13.go hs14
    clear hs8 hs9 hs10 hs11 hs12 hs13 hs14 hb10 hb11 hb14
    repeat (first|refine q1 ?_|refine q2 ?_|refine q3 ?_|refine q4 ?_|refine q5 ?_|refine q6 ?_|refine w_seq ?_|refine w_region ?_|refine w_ops_nil ?_|refine w_skip ?_|refine w_blk ?_|refine q7 ?_|refine q8 ?_|refine q9 ?_)
    refine d_begin none [43] (by kernel_rfl) fun g2 hsd => ?_
    replace hst := hst.go hsd; replace hb' := hb'.go hsd; replace hr' := hr'.go hsd; replace hc8 := hc8.go hsd; replace hc12 := hc12.go hsd; replace hc13 := hc13.go hsd; replace hc15 := hc15.go hsd
    refine d_read 0 calm_ret rfl (by kernel_rfl) rfl  (fun h hs => r_load (us := [.int .i64 room, v']) (hc12.go hs) rfl rfl rfl (fun e => by cases e)) ?_
    refine d_pure 1 calm_ret rfl (by kernel_rfl) rfl rfl ?_; refine d_pure 2 calm_ret rfl (by kernel_rfl) rfl rfl ?_
    refine d_known 66 (.bool lt) rfl rfl ?_
    refine d_known 67 (.bool lt) rfl rfl ?_
    refine d_read 3 calm_ret rfl (by kernel_rfl) rfl  (fun h hs => r_eqBool rfl rfl) ?_
    refine d_known 68 (.bool true) rfl (congrArg Value.bool (decide_eq_true rfl)) ?_
    refine d_pure 4 calm_ret rfl (by kernel_rfl) rfl rfl ?_
    refine d_readG 5 calm_ret rfl rfl rfl (by kernel_rfl) rfl  (fun h hs => r_fldA (by decide) rfl) ?_
    refine d_readG 6 calm_ret rfl rfl rfl (by kernel_rfl) rfl  (fun h hs => r_load1 (v := str gone.1.name) (hc15.go hs) rfl rfl rfl) ?_
    refine d_readG 7 calm_ret rfl rfl rfl (by kernel_rfl) rfl  (fun h hs => r_fldA (by decide) rfl) ?_
    refine d_readG 8 calm_ret rfl rfl rfl (by kernel_rfl) rfl  (fun h hs => r_load1 (v := str gone.1.name) (hc13.go hs) rfl rfl rfl) ?_
    refine d_guard_pure 9 calm_ret rfl rfl rfl (by kernel_rfl) rfl rfl ?_
    refine d_known 74 (.bool true) rfl (congrArg Value.bool (decide_eq_true rfl)) ?_
    refine d_pure 10 calm_ret rfl (by kernel_rfl) rfl rfl ?_; refine d_pure 11 calm_ret rfl (by kernel_rfl) rfl rfl ?_
    refine d_known 76 (.bool true) rfl rfl ?_
    refine d_readG 12 calm_ret rfl rfl rfl (by kernel_rfl) rfl  (fun h hs => r_fldA (by decide) rfl) ?_
    refine d_readG 13 calm_ret rfl rfl rfl (by kernel_rfl) rfl  (fun h hs => r_load1 (v := .int .i64 gone.1.type_) (hc15.go hs) rfl rfl rfl) ?_
    refine d_readG 14 calm_ret rfl rfl rfl (by kernel_rfl) rfl  (fun h hs => r_fldA (by decide) rfl) ?_
    refine d_readG 15 calm_ret rfl rfl rfl (by kernel_rfl) rfl  (fun h hs => r_load1 (v := .int .i64 gone.1.type_) (hc13.go hs) rfl rfl rfl) ?_
    refine d_guard_pure 16 calm_ret rfl rfl rfl (by kernel_rfl) rfl rfl ?_
    refine d_known 81 (.bool true) rfl (congrArg Value.bool (decide_eq_true rfl)) ?_
    refine d_pure 17 calm_ret rfl (by kernel_rfl) rfl rfl ?_
    refine d_exec1 18 (by kernel_rfl) rfl ?_
    refine w_store (us := [.int .i64 room, v']) (vs' := [.int .i64 room, v']) hc8 rfl rfl rfl rfl (oneTwo hr'.isSl.one) (show 0 + 2 ≤ 2 by decide) rfl fun k1 hkb1 hk1 hc8 => ?_
    have hsb := hk1
    replace hst := hst.go hk1; replace hb' := hb'.go hk1; replace hr' := hr'.go hk1
    repeat (first|refine q1 ?_|refine q2 ?_|refine q3 ?_|refine q4 ?_|refine q5 ?_|refine q6 ?_|refine w_seq ?_|refine w_region ?_|refine w_ops_nil ?_|refine w_skip ?_|refine w_block ?_|refine w_blk ?_|refine q7 ?_|refine q8 ?_|refine q9 ?_)
    refine d_next (fun _ => ⟨k1, rfl, hsb⟩) ?_
    refine d_pure 19 calm_ret rfl (by kernel_rfl) rfl rfl ?_
    refine d_done (by kernel_rfl) ?_
    repeat (first|refine q1 ?_|refine q2 ?_|refine q3 ?_|refine q4 ?_|refine q5 ?_|refine q6 ?_|refine w_seq ?_|refine w_region ?_|refine w_ops_nil ?_|refine w_skip ?_|refine w_block ?_|refine w_blk ?_|refine q7 ?_|refine q8 ?_|refine q9 ?_)
    exact w_retG (resCs1 hc8 rfl rfl rfl rfl rfl) hst fun h' hv' => ⟨v', m', L', rfl, hr'.view hv' (.inl rfl), hb'.view hv', hbk', hlen', hsub⟩
  repeat (first|refine q1 ?_|refine q2 ?_|refine q3 ?_|refine q4 ?_|refine q5 ?_|refine q6 ?_|refine w_seq ?_|refine w_region ?_|refine w_ops_nil ?_|refine w_skip ?_|refine w_block ?_|refine w_blk ?_|refine q7 ?_|refine q8 ?_|refine q9 ?_)
  refine w_condP rfl (fun hk1 => ?_) (fun hk1 => ?_)
  · repeat (first|refine q1 ?_|refine q2 ?_|refine q3 ?_|refine q4 ?_|refine q5 ?_|refine q6 ?_|refine w_seq ?_|refine w_region ?_|refine w_ops_nil ?_|refine w_skip ?_|refine w_block ?_|refine w_blk ?_|refine q7 ?_|refine q8 ?_|refine q9 ?_)
    refine w_fldA (by decide) rfl rfl ?_
    refine w_load1 (v := .int .i64 d.typ) hc6 rfl rfl rfl rfl ?_
    repeat (first|refine q1 ?_|refine q2 ?_|refine q3 ?_|refine q4 ?_|refine q5 ?_|refine q6 ?_|refine w_seq ?_|refine w_region ?_|refine w_ops_nil ?_|refine w_skip ?_|refine w_block ?_|refine w_blk ?_|refine q7 ?_|refine q8 ?_|refine q9 ?_)
    refine w_callF (vs := [.pointer (some ⟨p, 0, none⟩), str nm, .int .i64 d.typ, .int .i64 now]) rfl
      (Cache_Get p room m nm d.typ now h4 hb hnl (hbk.small hsl)) rfl fun u h6 hs6 hR => ?_
    obtain ⟨vg, rfl, hog⟩ := hR
    rw [hk] at hog ⊢
    rw [hbk.hit]
    rw [hbk.addrs] at hog
    have hog := hog.rd
    replace hst := hst.trans (hs6.mono (by simp) (by simp))
    replace hb := hb.go hs6; replace hr := hr.go hs6; replace hc5 := hc5.go hs6; replace hc6 := hc6.go hs6; replace hc8 := hc8.go hs6; replace hsl := hsl.go hs6
    repeat (first|refine q1 ?_|refine q2 ?_|refine q3 ?_|refine q4 ?_|refine q5 ?_|refine q6 ?_|refine w_seq ?_|refine w_region ?_|refine w_ops_nil ?_|refine w_skip ?_|refine w_block ?_|refine w_blk ?_|refine q7 ?_|refine q8 ?_|refine q9 ?_)
    refine w_known 17 vg rfl rfl ?_
    refine w_known 18 (.bool (hitC L k now)) rfl rfl ?_
    refine w_loadS (us := [.int .i64 room, vL]) hc5 rfl rfl rfl rfl rfl ?_
    repeat (first|refine q1 ?_|refine q2 ?_|refine q3 ?_|refine q4 ?_|refine q5 ?_|refine q6 ?_|refine w_seq ?_|refine w_region ?_|refine w_ops_nil ?_|refine w_skip ?_|refine w_block ?_|refine w_blk ?_|refine q7 ?_|refine q8 ?_|refine q9 ?_)
    refine w_fldA (by decide) rfl rfl ?_
    refine w_load1 (v := .int .i64 d.typ) hc6 rfl rfl rfl rfl ?_
    repeat (first|refine q1 ?_|refine q2 ?_|refine q3 ?_|refine q4 ?_|refine q5 ?_|refine q6 ?_|refine w_seq ?_|refine w_region ?_|refine w_ops_nil ?_|refine w_skip ?_|refine w_block ?_|refine w_blk ?_|refine q7 ?_|refine q8 ?_|refine q9 ?_)
    refine w_callF (vs := [.agg #[.int .i64 room, vL], str nm, .int .i64 d.typ, .int .i64 now]) rfl (ref10_Get room L vL nm d.typ now k hk h6 hr hnl) rfl fun u h7 hs7 hu => ?_
    subst hu
    replace hst := hst.go hs7; replace hb := hb.go hs7; replace hr := hr.go hs7; replace hc5 := hc5.go hs7; replace hc8 := hc8.go hs7; replace hsl := hsl.go hs7; replace hog := hog.go hs7
    obtain ⟨cs, hcs, hrs⟩ := hsl.sl k now
    repeat (first|refine q1 ?_|refine q2 ?_|refine q3 ?_|refine q4 ?_|refine q5 ?_|refine q6 ?_|refine w_seq ?_|refine w_region ?_|refine w_ops_nil ?_|refine w_skip ?_|refine w_block ?_|refine w_blk ?_|refine q7 ?_|refine q8 ?_|refine q9 ?_)
    refine w_known 19 (slC L k now) rfl rfl ?_
    refine w_known 20 (.bool (hitC L k now)) rfl rfl ?_
    refine d_begin none [43] (by kernel_rfl) fun g2 hsd => ?_
    replace hst := hst.go hsd; replace hb := hb.go hsd; replace hr := hr.go hsd; replace hc5 := hc5.go hsd; replace hc8 := hc8.go hsd; replace hog := hog.go hsd; replace hrs := hrs.go hsd
    refine d_read 0 calm_ret rfl (by kernel_rfl) rfl  (fun h hs => r_load (us := [.int .i64 room, vL]) (hc5.go hs) rfl rfl rfl (fun e => by cases e)) ?_
    refine d_pure 1 calm_ret rfl (by kernel_rfl) rfl rfl ?_; refine d_pure 2 calm_ret rfl (by kernel_rfl) rfl rfl ?_
    refine d_exec1 3 (by kernel_rfl) rfl ?_
    refine w_callF (vs := [vg, slC L k now]) rfl (ref10_SameAddrs (addrsC L k now) (addrsC L k now) vg (slC L k now) g2 hog hrs) rfl fun u k0 hk0' hu => ?_
    subst hu
    have hsb0 : Step [] [43] g2 k0 := hk0'.nil
    replace hst := hst.go hk0'; replace hb := hb.go hk0'; replace hr := hr.go hk0'; replace hc8 := hc8.go hk0'
    repeat (first|refine q1 ?_|refine q2 ?_|refine q3 ?_|refine q4 ?_|refine q5 ?_|refine q6 ?_|refine w_seq ?_|refine w_region ?_|refine w_ops_nil ?_|refine w_skip ?_|refine w_block ?_|refine w_blk ?_|refine q7 ?_|refine q8 ?_|refine q9 ?_)
    refine d_next (fun _ => ⟨k0, rfl, hsb0⟩) ?_
    refine d_known 106 (.bool true) rfl (congrArg Value.bool (decide_eq_true rfl)) ?_
    refine d_pure 4 calm_ret rfl (by kernel_rfl) rfl rfl ?_
    refine d_guard_pure 5 calm_ret rfl rfl rfl (by kernel_rfl) rfl rfl ?_; refine d_guard_pure 6 calm_ret rfl rfl rfl (by kernel_rfl) rfl rfl ?_
    refine d_readG 7 calm_ret rfl rfl rfl (by kernel_rfl) rfl  (fun h hs => r_eqBool rfl rfl) ?_
    refine d_known 110 (.bool true) rfl (congrArg Value.bool (decide_eq_true rfl)) ?_
    refine d_pure 8 calm_ret rfl (by kernel_rfl) rfl rfl ?_
    refine d_exec1 9 (by kernel_rfl) rfl ?_
    refine w_store (us := [.int .i64 room, vL]) (vs' := [.int .i64 room, vL]) hc8 rfl rfl rfl rfl (oneTwo hr.isSl.one) (show 0 + 2 ≤ 2 by decide) rfl fun k1 hkb1 hk1' hc8 => ?_
    have hsb := hsb0.go hk1'
    replace hst := hst.go hk1'; replace hb := hb.go hk1'; replace hr := hr.go hk1'
    repeat (first|refine q1 ?_|refine q2 ?_|refine q3 ?_|refine q4 ?_|refine q5 ?_|refine q6 ?_|refine w_seq ?_|refine w_region ?_|refine w_ops_nil ?_|refine w_skip ?_|refine w_block ?_|refine w_blk ?_|refine q7 ?_|refine q8 ?_|refine q9 ?_)
    refine d_next (fun _ => ⟨k1, rfl, hsb⟩) ?_
    refine d_pure 10 calm_ret rfl (by kernel_rfl) rfl rfl ?_
    refine d_done (by kernel_rfl) ?_
    repeat (first|refine q1 ?_|refine q2 ?_|refine q3 ?_|refine q4 ?_|refine q5 ?_|refine q6 ?_|refine w_seq ?_|refine w_region ?_|refine w_ops_nil ?_|refine w_skip ?_|refine w_block ?_|refine w_blk ?_|refine q7 ?_|refine q8 ?_|refine q9 ?_)
    exact w_retG (resCs1 hc8 rfl rfl rfl rfl rfl) hst fun h' hv' => ⟨vL, m, L, rfl, hr.view hv' (.inl rfl), hb.view hv', hbk, by omega, same⟩
  repeat (first|refine q1 ?_|refine q2 ?_|refine q3 ?_|refine q4 ?_|refine q5 ?_|refine q6 ?_|refine w_seq ?_|refine w_region ?_|refine w_ops_nil ?_|refine w_skip ?_|refine w_block ?_|refine w_blk ?_|refine q7 ?_|refine q8 ?_|refine q9 ?_)
  refine w_condP rfl (fun hk2 => ?_) (fun hk2 => ?_)
  · repeat (first|refine q1 ?_|refine q2 ?_|refine q3 ?_|refine q4 ?_|refine q5 ?_|refine q6 ?_|refine w_seq ?_|refine w_region ?_|refine w_ops_nil ?_|refine w_skip ?_|refine w_block ?_|refine w_blk ?_|refine q7 ?_|refine q8 ?_|refine q9 ?_)
    refine w_loadS (us := [.int .i64 room, vL]) hc5 rfl rfl rfl rfl rfl ?_
    repeat (first|refine q1 ?_|refine q2 ?_|refine q3 ?_|refine q4 ?_|refine q5 ?_|refine q6 ?_|refine w_seq ?_|refine w_region ?_|refine w_ops_nil ?_|refine w_skip ?_|refine w_block ?_|refine w_blk ?_|refine q7 ?_|refine q8 ?_|refine q9 ?_)
    refine w_callF (vs := [.agg #[.int .i64 room, vL], .int .i64 now]) rfl (ref10_Sweep room L vL now h4 hr (by omega)) rfl fun u h6 hs6 hR => ?_
    obtain ⟨v', rfl, hr'⟩ := hR
    replace hst := hst.go hs6; replace hb := hb.go hs6; replace hc8 := hc8.go hs6
    have hfb := hbk.over now
    have hfl := hfb.len
    have hLl : (overC now L).length ≤ L.length := List.length_filter_le _ _
    repeat (first|refine q1 ?_|refine q2 ?_|refine q3 ?_|refine q4 ?_|refine q5 ?_|refine q6 ?_|refine w_seq ?_|refine w_region ?_|refine w_ops_nil ?_|refine w_skip ?_|refine w_block ?_|refine w_blk ?_|refine q7 ?_|refine q8 ?_|refine q9 ?_)
    refine w_alloc 44 (vs := [.int .i64 0, .slice none 0 0]) rfl rfl fun h8 b21 hs8 hc21 => ?_
    replace hst := hst.go hs8; replace hb := hb.go hs8; replace hr' := hr'.go hs8; replace hc8 := hc8.go hs8
    refine w_store (us := [.int .i64 room, v']) (vs' := [.int .i64 room, v']) hc21 rfl rfl rfl rfl (oneTwo hr'.isSl.one) (show 0 + 2 ≤ 2 by decide) rfl fun h10 hb10 hs10 hc21 => ?_
    replace hst := hst.go hs10; replace hb := hb.go hs10; replace hr' := hr'.go hs10; replace hc8 := hc8.go hs10
    repeat (first|refine q1 ?_|refine q2 ?_|refine q3 ?_|refine q4 ?_|refine q5 ?_|refine q6 ?_|refine w_seq ?_|refine w_region ?_|refine w_ops_nil ?_|refine w_skip ?_|refine w_block ?_|refine w_blk ?_|refine q7 ?_|refine q8 ?_|refine q9 ?_)
    refine w_known 22 (.int .i64 ((L.length : Int) - (overC now L).length)) rfl rfl ?_
    repeat (first|refine q1 ?_|refine q2 ?_|refine q3 ?_|refine q4 ?_|refine q5 ?_|refine q6 ?_|refine w_seq ?_|refine w_region ?_|refine w_ops_nil ?_|refine w_skip ?_|refine w_blk ?_|refine q7 ?_|refine q8 ?_|refine q9 ?_)
    refine d_begin none [43, 51, 52] (by kernel_rfl) fun g2 hsd => ?_
    replace hst := hst.go hsd; replace hb := hb.go hsd; replace hr' := hr'.go hsd; replace hc8 := hc8.go hsd; replace hc21 := hc21.go hsd
    refine d_read 0 calm_ret rfl (by kernel_rfl) rfl  (fun h hs => r_load (us := [.int .i64 room, v']) (hc21.go hs) rfl rfl rfl (fun e => by cases e)) ?_
    refine d_pure 1 calm_ret rfl (by kernel_rfl) rfl rfl ?_; refine d_pure 2 calm_ret rfl (by kernel_rfl) rfl rfl ?_; refine d_pure 4 calm_ret rfl (by kernel_rfl) rfl rfl ?_
    refine d_exec1 3 (by kernel_rfl) rfl ?_
    refine w_callF (vs := [.pointer (some ⟨p, 0, none⟩), .int .i64 now]) rfl (Cache_Sweep p room m now g2 hb hbk.nd (by omega)) rfl fun u k0 hk0' hR => ?_
    obtain ⟨rfl, hb⟩ := hR
    have hsb0 : Step [] [43, 51, 52] g2 k0 := hk0'.mono (by simp) (by simp)
    replace hst := hst.go hk0'; replace hr' := hr'.go hk0'; replace hc8 := hc8.go hk0'
    repeat (first|refine q1 ?_|refine q2 ?_|refine q3 ?_|refine q4 ?_|refine q5 ?_|refine q6 ?_|refine w_seq ?_|refine w_region ?_|refine w_ops_nil ?_|refine w_skip ?_|refine w_block ?_|refine w_blk ?_|refine q7 ?_|refine q8 ?_|refine q9 ?_)
    refine d_next (fun _ => ⟨k0, rfl, hsb0⟩) ?_
    refine d_pure 5 calm_ret rfl (by kernel_rfl) rfl rfl ?_
    refine d_known 125 (.bool true) rfl (congrArg Value.bool (decide_eq_true (by rw [hlm, hfl]))) ?_
    refine d_exec1 6 (by kernel_rfl) rfl ?_
    refine w_store (us := [.int .i64 room, v']) (vs' := [.int .i64 room, v']) hc8 rfl rfl rfl rfl (oneTwo hr'.isSl.one) (show 0 + 2 ≤ 2 by decide) rfl fun k1 hkb1 hk1' hc8 => ?_
    have hsb := hsb0.go hk1'
    replace hst := hst.go hk1'; replace hb := hb.go hk1'; replace hr' := hr'.go hk1'
    repeat (first|refine q1 ?_|refine q2 ?_|refine q3 ?_|refine q4 ?_|refine q5 ?_|refine q6 ?_|refine w_seq ?_|refine w_region ?_|refine w_ops_nil ?_|refine w_skip ?_|refine w_block ?_|refine w_blk ?_|refine q7 ?_|refine q8 ?_|refine q9 ?_)
    refine d_next (fun _ => ⟨k1, rfl, hsb⟩) ?_
    refine d_pure 7 calm_ret rfl (by kernel_rfl) rfl rfl ?_
    refine d_done (by kernel_rfl) ?_
    repeat (first|refine q1 ?_|refine q2 ?_|refine q3 ?_|refine q4 ?_|refine q5 ?_|refine q6 ?_|refine w_seq ?_|refine w_region ?_|refine w_ops_nil ?_|refine w_skip ?_|refine w_block ?_|refine w_blk ?_|refine q7 ?_|refine q8 ?_|refine q9 ?_)
    exact w_retG (resCs1 hc8 rfl rfl rfl rfl rfl) hst fun h' hv' => ⟨v', _, _, rfl, hr'.view hv' (.inl rfl), hb.view hv', hfb, by omega, fun x hx => .inl (List.mem_filter.1 hx).1⟩
  repeat (first|refine q1 ?_|refine q2 ?_|refine q3 ?_|refine q4 ?_|refine q5 ?_|refine q6 ?_|refine w_seq ?_|refine w_region ?_|refine w_ops_nil ?_|refine w_skip ?_|refine w_block ?_|refine w_blk ?_|refine q7 ?_|refine q8 ?_|refine q9 ?_)
  refine w_fldA (by decide) rfl rfl ?_
  refine w_load1 (v := .int .i64 d.typ) hc6 rfl rfl rfl rfl ?_
  refine w_callF (vs := [.pointer (some ⟨p, 0, none⟩), str nm, .int .i64 d.typ]) rfl (Cache_Until p room m nm d.typ h4 hb hnl) rfl fun u h6 hs6 hu => ?_
  rw [hk, hbk.tv, hbk.has] at hu
  subst hu
  replace hst := hst.go hs6; replace hb := hb.go hs6; replace hr := hr.go hs6; replace hc5 := hc5.go hs6; replace hc6 := hc6.go hs6; replace hc8 := hc8.go hs6
  repeat (first|refine q1 ?_|refine q2 ?_|refine q3 ?_|refine q4 ?_|refine q5 ?_|refine q6 ?_|refine w_seq ?_|refine w_region ?_|refine w_ops_nil ?_|refine w_skip ?_|refine w_block ?_|refine w_blk ?_|refine q7 ?_|refine q8 ?_|refine q9 ?_)
  refine w_known 23 (.int .i64 (tvC L k)) rfl rfl ?_
  refine w_known 24 (.bool (mget k L).isSome) rfl rfl ?_
  refine w_loadS (us := [.int .i64 room, vL]) hc5 rfl rfl rfl rfl rfl ?_
  repeat (first|refine q1 ?_|refine q2 ?_|refine q3 ?_|refine q4 ?_|refine q5 ?_|refine q6 ?_|refine w_seq ?_|refine w_region ?_|refine w_ops_nil ?_|refine w_skip ?_|refine w_block ?_|refine w_blk ?_|refine q7 ?_|refine q8 ?_|refine q9 ?_)
  refine w_fldA (by decide) rfl rfl ?_
  refine w_load1 (v := .int .i64 d.typ) hc6 rfl rfl rfl rfl ?_
  refine w_callF (vs := [.agg #[.int .i64 room, vL], str nm, .int .i64 d.typ]) rfl (ref10_Find room L vL nm d.typ k hk h6 hr hnl) rfl fun u h7 hs7 hu => ?_
  subst hu
  replace hst := hst.go hs7; replace hb := hb.go hs7; replace hr := hr.go hs7; replace hc5 := hc5.go hs7; replace hc8 := hc8.go hs7
  repeat (first|refine q1 ?_|refine q2 ?_|refine q3 ?_|refine q4 ?_|refine q5 ?_|refine q6 ?_|refine w_seq ?_|refine w_region ?_|refine w_ops_nil ?_|refine w_skip ?_|refine w_block ?_|refine w_blk ?_|refine q7 ?_|refine q8 ?_|refine q9 ?_)
  rcases findC_get k L with ⟨e1, e2⟩ | ⟨e1, v, e2, e3⟩
  · have et : tvC L k = 0 := by unfold tvC getD; rw [e2]; rfl
    rw [et, e2, e1]
    refine w_cond rfl (fun _ => ?_) (fun h => by cases h)
    repeat (first|refine q1 ?_|refine q2 ?_|refine q3 ?_|refine q4 ?_|refine q5 ?_|refine q6 ?_|refine w_seq ?_|refine w_region ?_|refine w_ops_nil ?_|refine w_skip ?_|refine w_block ?_|refine w_blk ?_|refine q7 ?_|refine q8 ?_|refine q9 ?_)
    refine w_loadS (us := [.int .i64 room, vL]) hc5 rfl rfl rfl rfl rfl ?_
    repeat (first|refine q1 ?_|refine q2 ?_|refine q3 ?_|refine q4 ?_|refine q5 ?_|refine q6 ?_|refine w_seq ?_|refine w_region ?_|refine w_ops_nil ?_|refine w_skip ?_|refine w_block ?_|refine w_blk ?_|refine q7 ?_|refine q8 ?_|refine q9 ?_)
    refine w_store (us := [.int .i64 room, vL]) (vs' := [.int .i64 room, vL]) hc8 rfl rfl rfl rfl (oneTwo hr.isSl.one) (show 0 + 2 ≤ 2 by decide) rfl fun k1 hkb1 hk1' hc8 => ?_
    replace hst := hst.go hk1'; replace hb := hb.go hk1'; replace hr := hr.go hk1'
    repeat (first|refine q1 ?_|refine q2 ?_|refine q3 ?_|refine q4 ?_|refine q5 ?_|refine q6 ?_|refine w_seq ?_|refine w_region ?_|refine w_ops_nil ?_|refine w_skip ?_|refine w_block ?_|refine w_blk ?_|refine q7 ?_|refine q8 ?_|refine q9 ?_)
    exact w_retG (resCs1 hc8 rfl rfl rfl rfl rfl) hst fun h' hv' => ⟨vL, m, L, rfl, hr.view hv' (.inl rfl), hb.view hv', hbk, by omega, same⟩
  · have et : tvC L k = v.till := by unfold tvC getD; rw [e3]; rfl
    rw [et, e3]
    obtain ⟨i, hi⟩ := Int.eq_ofNat_of_zero_le e1
    rw [hi] at e2 ⊢
    have e2 : L[i]? = some (k, v) := by simpa using e2
    obtain ⟨hlt, _⟩ := List.getElem?_eq_some_iff.1 e2
    refine w_condP rfl (fun h => by omega) (fun _ => ?_)
    repeat (first|refine q1 ?_|refine q2 ?_|refine q3 ?_|refine q4 ?_|refine q5 ?_|refine q6 ?_|refine w_seq ?_|refine w_region ?_|refine w_ops_nil ?_|refine w_skip ?_|refine w_block ?_|refine w_blk ?_|refine q7 ?_|refine q8 ?_|refine q9 ?_)
    refine d_begin none [43] (by kernel_rfl) fun g2 hsd => ?_
    replace hst := hst.go hsd; replace hb := hb.go hsd; replace hr := hr.go hsd; replace hc5 := hc5.go hsd; replace hc8 := hc8.go hsd
    refine d_read 0 calm_ret rfl (by kernel_rfl) rfl  (fun h hs => r_load (us := [.int .i64 room, vL]) (hc5.go hs) rfl rfl rfl (fun e => by cases e)) ?_
    refine d_pure 1 calm_ret rfl (by kernel_rfl) rfl rfl ?_
    refine d_read 2 calm_ret rfl (by kernel_rfl) rfl  (fun h hs => r_fldA (by decide) rfl) ?_
    refine d_read 3 calm_ret rfl (by kernel_rfl) rfl  (fun h hs => r_load1 (v := vL) (hc5.go hs) rfl rfl rfl) ?_
    refine d_pure 4 calm_ret rfl (by kernel_rfl) rfl rfl ?_
    refine d_read 5 calm_ret rfl (by kernel_rfl) rfl  (fun h hs => r_idx (hr.go hs) rfl rfl (by omega) (by omega)) ?_
    refine d_read 6 calm_ret rfl (by kernel_rfl) rfl  (fun h hs => r_fldE (hr.base hlt) (by decide) rfl) ?_
    refine d_read 7 calm_ret rfl (by kernel_rfl) rfl  (fun h hs => r_loadEF (i := i) (off := 3) (y := (k, v)) (u := .int .i64 v.till) (hr.go hs) rfl e2 rfl rfl) ?_
    refine d_pure 8 calm_ret rfl (by kernel_rfl) rfl rfl ?_; refine d_pure 9 calm_ret rfl (by kernel_rfl) rfl rfl ?_
    refine d_known 157 (.bool true) rfl (congrArg Value.bool (decide_eq_true rfl)) ?_
    refine d_guard_pure 10 calm_ret rfl rfl rfl (by kernel_rfl) rfl rfl ?_
    refine d_pure 11 calm_ret rfl (by kernel_rfl) rfl rfl ?_
    refine d_known 159 (.bool true) rfl rfl ?_
    refine d_exec1 12 (by kernel_rfl) rfl ?_
    refine w_store (us := [.int .i64 room, vL]) (vs' := [.int .i64 room, vL]) hc8 rfl rfl rfl rfl (oneTwo hr.isSl.one) (show 0 + 2 ≤ 2 by decide) rfl fun k1 hkb1 hk1' hc8 => ?_
    have hsb : Step [] [43] g2 k1 := hk1'
    replace hst := hst.go hk1'; replace hb := hb.go hk1'; replace hr := hr.go hk1'
    repeat (first|refine q1 ?_|refine q2 ?_|refine q3 ?_|refine q4 ?_|refine q5 ?_|refine q6 ?_|refine w_seq ?_|refine w_region ?_|refine w_ops_nil ?_|refine w_skip ?_|refine w_block ?_|refine w_blk ?_|refine q7 ?_|refine q8 ?_|refine q9 ?_)
    refine d_next (fun _ => ⟨k1, rfl, hsb⟩) ?_
    refine d_pure 13 calm_ret rfl (by kernel_rfl) rfl rfl ?_
    refine d_done (by kernel_rfl) ?_
    repeat (first|refine q1 ?_|refine q2 ?_|refine q3 ?_|refine q4 ?_|refine q5 ?_|refine q6 ?_|refine w_seq ?_|refine w_region ?_|refine w_ops_nil ?_|refine w_skip ?_|refine w_block ?_|refine w_blk ?_|refine q7 ?_|refine q8 ?_|refine q9 ?_)
    exact w_retG (resCs1 hc8 rfl rfl rfl rfl rfl) hst fun h' hv' => ⟨vL, m, L, rfl, hr.view hv' (.inl rfl), hb.view hv', hbk, by omega, same⟩
end Go.Proofs.Ytfkdfnookacgiaa
