/- Messages: what is written: plain definitions; the reference's two, put, record. No statement of the seat is proved here. -/
import Derived.Test.YtnfokdhgajanpaaWir3
import Derived.Test.YtnfokdhgajanpaaLabP
set_option linter.unusedVariables false
set_option linter.unusedSimpArgs false
namespace Go.Proofs.Ytnfokdhgajanpaa
open Go
attribute [local irreducible] Wp

def twoB (n : Int) : List UInt8 := [UInt8.ofNat (n / 256).toNat, UInt8.ofNat (n % 256).toNat]
theorem twoB_len (n : Int) : (twoB n).length = 2 := rfl
def first4 (a : Ad) : List UInt8 := [a.b 0, a.b 1, a.b 2, a.b 3]
def fixB (r : Rc) : List UInt8 := twoB r.typ ++ twoB r.cls ++ twoB (r.ttl / 65536) ++ twoB (r.ttl % 65536)
theorem fixB_len (r : Rc) : (fixB r).length = 8 := rfl
def dataB (r : Rc) : List UInt8 := if r.typ = 1 then twoB 4 ++ first4 r.addr else if r.typ = 28 then twoB 16 ++ bytes16 r.addr.b else twoB r.data.length ++ r.data
/-- A record behind n bytes. -/
def recW (n : Nat) (m : WM) (r : Rc) : List UInt8 × WM :=
  let z := nameW n m (labelsB r.name)
  if r.typ = 5 then
    let y := nameW (n + z.1.length + 10) z.2 (labelsB r.target)
    (z.1 ++ fixB r ++ twoB y.1.length ++ y.1, y.2)
  else (z.1 ++ fixB r ++ dataB r, z.2)

theorem ref09_two (n : Int) (g : G) (hn : 0 ≤ n ∧ n ≤ 9223372036854775807) : Fn Try.prog 60 [.int .i64 n] g [] fun u h => Rd h 0 El.u8 u (twoB n) := by
  refine enterG [] [] Try.func60 rfl Try.ntmps60 rfl (by simp) fun g1 hv ho => ?_
  repeat (first|refine q1 ?_|refine q2 ?_|refine q3 ?_|refine q4 ?_|refine q5 ?_|refine q6 ?_|refine w_seq ?_|refine w_region ?_|refine w_ops_nil ?_|refine w_skip ?_|refine w_block ?_|refine w_blk ?_|refine q7 ?_|refine q8 ?_|refine q9 ?_)
  refine w_quo rfl rfl (by omega) rfl ?_
  refine w_convB rfl (by omega) rfl ?_
  repeat (first|refine q1 ?_|refine q2 ?_|refine q3 ?_|refine q4 ?_|refine q5 ?_|refine q6 ?_|refine w_seq ?_|refine w_region ?_|refine w_ops_nil ?_|refine w_skip ?_|refine w_block ?_|refine w_blk ?_|refine q7 ?_|refine q8 ?_|refine q9 ?_)
  refine w_rem rfl rfl (by omega) rfl ?_
  refine w_convB rfl (by omega) rfl ?_
  refine w_buildSlR El.u8 (twoB n) rfl rfl rfl rfl fun h1 v1 hs1 hr1 => ?_
  repeat (first|refine q1 ?_|refine q2 ?_|refine q3 ?_|refine q4 ?_|refine q5 ?_|refine q6 ?_|refine w_seq ?_|refine w_region ?_|refine w_ops_nil ?_|refine w_skip ?_|refine w_block ?_|refine w_blk ?_|refine q7 ?_|refine q8 ?_|refine q9 ?_)
  exact w_retG (res1 rfl rfl) hs1.nil fun h' hv' => hr1.view hv' (.inl rfl)

theorem ref09_put (B x : List UInt8) (m : WM) (g : G) {vB vN vA vb : Value} (hw : RW g vB vN vA B m) {c : Nat} (hr : Rd g c El.u8 vb x) (hl : B.length + x.length ≤ 100000000) (hcc : c ∉ [11, 12, 13] := by simp) :
    Fn Try.prog 59 [.agg #[vB, vN, vA], vb] g [11, 12, 13] fun u h => ∃ vB' vN' vA', u = .agg #[vB', vN', vA'] ∧ RW h vB' vN' vA' (B ++ x) m := by
  refine enterG [11, 12, 13] [14, 15] Try.func59 rfl Try.ntmps59 rfl (by simp) fun g1 hv ho => ?_
  replace hw := hw.view hv (by simp) (by simp) (by simp)
  obtain ⟨c', hc', hr1⟩ := hr.seen hv ho hcc
  repeat (first|refine q1 ?_|refine q2 ?_|refine q3 ?_|refine q4 ?_|refine q5 ?_|refine q6 ?_|refine w_seq ?_|refine w_region ?_|refine w_ops_nil ?_|refine w_skip ?_|refine w_block ?_|refine w_blk ?_|refine q7 ?_|refine q8 ?_|refine q9 ?_)
  refine w_box 14 (vs := [vB, vN, vA]) rfl rfl rfl fun h1 b1 hs1 hc1 => ?_
  replace hw := hw.go hs1
  replace hr1 := hr1.go hs1
  repeat (first|refine q1 ?_|refine q2 ?_|refine q3 ?_|refine q4 ?_|refine q5 ?_|refine q6 ?_|refine w_seq ?_|refine w_region ?_|refine w_ops_nil ?_|refine w_skip ?_|refine w_block ?_|refine w_blk ?_|refine q7 ?_|refine q8 ?_|refine q9 ?_)
  refine w_alloc 15 (vs := [.slice none 0 0, .slice none 0 0, .slice none 0 0]) rfl rfl fun h2 b2 hs2 hc2 => ?_
  replace hw := hw.go hs2
  replace hr1 := hr1.go hs2; replace hc1 := hc1.go hs2
  have hst : Step [] [11, 12, 13, 14, 15] g1 h2 := (hs1.go hs2).nil
  repeat (first|refine q1 ?_|refine q2 ?_|refine q3 ?_|refine q4 ?_|refine q5 ?_|refine q6 ?_|refine w_seq ?_|refine w_region ?_|refine w_ops_nil ?_|refine w_skip ?_|refine w_block ?_|refine w_blk ?_|refine q7 ?_|refine q8 ?_|refine q9 ?_)
  refine w_fldA (by decide) rfl rfl ?_
  refine w_load1 (v := vB) hc1 rfl rfl rfl rfl ?_
  repeat (first|refine q1 ?_|refine q2 ?_|refine q3 ?_|refine q4 ?_|refine q5 ?_|refine q6 ?_|refine w_seq ?_|refine w_region ?_|refine w_ops_nil ?_|refine w_skip ?_|refine w_block ?_|refine w_blk ?_|refine q7 ?_|refine q8 ?_|refine q9 ?_)
  refine w_append hw.b hr1 rfl rfl rfl (by decide) (by omega) rfl fun h3 v3 hs3 ho3 => ?_
  replace hc1 := hc1.go hs3; replace hc2 := hc2.go hs3; replace hst := hst.go hs3
  have hn3 := hw.n.go hs3
  have ha3 := hw.a.go hs3
  repeat (first|refine q1 ?_|refine q2 ?_|refine q3 ?_|refine q4 ?_|refine q5 ?_|refine q6 ?_|refine w_seq ?_|refine w_region ?_|refine w_ops_nil ?_|refine w_skip ?_|refine w_block ?_|refine w_blk ?_|refine q7 ?_|refine q8 ?_|refine q9 ?_)
  refine w_fldA (by decide) rfl rfl ?_
  refine w_store1 hc1 rfl rfl ho3.isSl.one (by simp) fun h4 hb4 hs4 hc4 => ?_
  replace hc2 := hc2.go hs4; replace hst := hst.go hs4
  have hw4 : RW h4 v3 vN vA (B ++ x) m := ⟨ho3.go hs4, hn3.go hs4, ha3.go hs4, hw.s⟩
  repeat (first|refine q1 ?_|refine q2 ?_|refine q3 ?_|refine q4 ?_|refine q5 ?_|refine q6 ?_|refine w_seq ?_|refine w_region ?_|refine w_ops_nil ?_|refine w_skip ?_|refine w_block ?_|refine w_blk ?_|refine q7 ?_|refine q8 ?_|refine q9 ?_)
  refine w_loadS (us := [v3, vN, vA]) hc4 rfl rfl rfl rfl rfl ?_
  refine w_store (us := [v3, vN, vA]) (vs' := [v3, vN, vA]) hc2 rfl rfl rfl rfl (by simp [hw4.b.isSl.one, hw4.n.isSl.one, hw4.a.isSl.one]) (by simp) rfl fun h5 hb5 hs5 hc5 => ?_
  repeat (first|refine q1 ?_|refine q2 ?_|refine q3 ?_|refine q4 ?_|refine q5 ?_|refine q6 ?_|refine w_seq ?_|refine w_region ?_|refine w_ops_nil ?_|refine w_skip ?_|refine w_block ?_|refine w_blk ?_|refine q7 ?_|refine q8 ?_|refine q9 ?_)
  exact w_retG (resCs hc5 rfl rfl rfl rfl) (hst.go hs5) fun h' hv' => ⟨v3, vN, vA, rfl, (hw4.go hs5).view hv' (by simp) (by simp) (by simp)⟩

theorem RW.one {g : G} {vB vN vA : Value} {B : List UInt8} {m : WM} (hw : RW g vB vN vA B m) : ∀ u ∈ [vB, vN, vA], u.oneCell' = true := by simp [hw.b.isSl.one, hw.n.isSl.one, hw.a.isSl.one]
theorem end_len {s : List UInt8} (hs : mayB s = true) (B : List UInt8) (m : WM) : nameEnd B m s = (B ++ (nameW B.length m (labelsB s)).1, (nameW B.length m (labelsB s)).2) ∧ (nameW B.length m (labelsB s)).1.length ≤ 257 ∧ (nameW B.length m (labelsB s)).2.length ≤ m.length + 255 := by
  have h4 := nameW_len (labelsB s) B.length m
  have h5 := may_size hs
  unfold sizeB at h5
  exact ⟨by rw [nameEnd, if_pos hs, nameGo_eq], by omega, by omega⟩

theorem ref09_record (r : Rc) (B : List UInt8) (m : WM) (g : G) {vB vN vA : Value} (hw : RW g vB vN vA B m) (hr : recMay r) (hB : B.length ≤ 900000) (hm : m.length ≤ 900000) (hs : r.name.length ≤ 100000 ∧ r.target.length ≤ 100000) :
    Fn Try.prog 61 [.agg #[vB, vN, vA], El.rc.val r] g [11, 12, 13] fun u h => ∃ vB' vN' vA', u = .agg #[vB', vN', vA'] ∧ RW h vB' vN' vA' (B ++ (recW B.length m r).1) (recW B.length m r).2 := by
  refine enterG [11, 12, 13] [41, 42, 43, 44, 45] Try.func61 rfl Try.ntmps61 rfl (by simp) fun g1 hv ho => ?_
  replace hw := hw.view hv (by simp) (by simp) (by simp)
  obtain ⟨hnm, hty, hcl, httl, hdl, hrest⟩ := hr
  unfold wordP at hty hcl
  repeat (first|refine q1 ?_|refine q2 ?_|refine q3 ?_|refine q4 ?_|refine q5 ?_|refine q6 ?_|refine w_seq ?_|refine w_region ?_|refine w_ops_nil ?_|refine w_skip ?_|refine w_block ?_|refine w_blk ?_|refine q7 ?_|refine q8 ?_|refine q9 ?_)
  refine w_box 41 (vs := [vB, vN, vA]) rfl rfl rfl fun h1 b1 hs1 hc1 => ?_
  replace hw := hw.go hs1
  repeat (first|refine q1 ?_|refine q2 ?_|refine q3 ?_|refine q4 ?_|refine q5 ?_|refine q6 ?_|refine w_seq ?_|refine w_region ?_|refine w_ops_nil ?_|refine w_skip ?_|refine w_block ?_|refine w_blk ?_|refine q7 ?_|refine q8 ?_|refine q9 ?_)
  refine w_box 42 (vs := El.rc.enc r) rfl rfl rfl fun h2 b2 hs2 hc2 => ?_
  replace hw := hw.go hs2
  replace hc1 := hc1.go hs2
  repeat (first|refine q1 ?_|refine q2 ?_|refine q3 ?_|refine q4 ?_|refine q5 ?_|refine q6 ?_|refine w_seq ?_|refine w_region ?_|refine w_ops_nil ?_|refine w_skip ?_|refine w_block ?_|refine w_blk ?_|refine q7 ?_|refine q8 ?_|refine q9 ?_)
  refine w_alloc 43 (vs := [.slice none 0 0, .slice none 0 0, .slice none 0 0]) rfl rfl fun h3 b3 hs3 hc3 => ?_
  replace hw := hw.go hs3
  replace hc1 := hc1.go hs3; replace hc2 := hc2.go hs3
  have hst : Step [] [11, 12, 13, 41, 42, 43, 44, 45] g1 h3 := ((hs1.go hs2).go hs3).nil
  clear hs1 hs2 hs3
  repeat (first|refine q1 ?_|refine q2 ?_|refine q3 ?_|refine q4 ?_|refine q5 ?_|refine q6 ?_|refine w_seq ?_|refine w_region ?_|refine w_ops_nil ?_|refine w_skip ?_|refine w_block ?_|refine w_blk ?_|refine q7 ?_|refine q8 ?_|refine q9 ?_)
  refine w_loadS (us := [vB, vN, vA]) hc1 rfl rfl rfl rfl rfl ?_
  refine w_fldA (by decide) rfl rfl ?_
  refine w_load1 (v := str r.name) hc2 rfl rfl rfl rfl ?_
  obtain ⟨e1, l1, l2⟩ := end_len hnm B m
  refine w_callF rfl (ref08_Name r.name B m h3 hw hs.1 (by omega) (by omega)) rfl fun u h4 hs4 hR => ?_
  obtain ⟨vB1, vN1, vA1, rfl, hw4⟩ := hR
  rw [e1] at hw4
  dsimp only at hw4
  replace hc1 := hc1.go hs4; replace hc2 := hc2.go hs4; replace hc3 := hc3.go hs4; replace hst := hst.go hs4
  clear hw
  generalize hz : nameW B.length m (labelsB r.name) = z at hw4 l1 l2
  obtain ⟨z1, z2⟩ := z
  dsimp only at hw4 l1 l2
  repeat (first|refine q1 ?_|refine q2 ?_|refine q3 ?_|refine q4 ?_|refine q5 ?_|refine q6 ?_|refine w_seq ?_|refine w_region ?_|refine w_ops_nil ?_|refine w_skip ?_|refine w_block ?_|refine w_blk ?_|refine q7 ?_|refine q8 ?_|refine q9 ?_)
  refine w_alloc 44 (vs := [.slice none 0 0, .slice none 0 0, .slice none 0 0]) rfl rfl fun h5 b5 hs5 hc5 => ?_
  replace hw4 := hw4.go hs5
  replace hc1 := hc1.go hs5; replace hc2 := hc2.go hs5; replace hc3 := hc3.go hs5; replace hst := hst.go hs5
  repeat (first|refine q1 ?_|refine q2 ?_|refine q3 ?_|refine q4 ?_|refine q5 ?_|refine q6 ?_|refine w_seq ?_|refine w_region ?_|refine w_ops_nil ?_|refine w_skip ?_|refine w_block ?_|refine w_blk ?_|refine q7 ?_|refine q8 ?_|refine q9 ?_)
  refine w_store (us := [vB1, vN1, vA1]) (vs' := [vB1, vN1, vA1]) hc5 rfl rfl rfl rfl hw4.one (by simp) rfl fun h6 hb6 hs6 hc6 => ?_
  replace hw4 := hw4.go hs6
  replace hc1 := hc1.go hs6; replace hc2 := hc2.go hs6; replace hc3 := hc3.go hs6; replace hst := hst.go hs6
  repeat (first|refine q1 ?_|refine q2 ?_|refine q3 ?_|refine q4 ?_|refine q5 ?_|refine q6 ?_|refine w_seq ?_|refine w_region ?_|refine w_ops_nil ?_|refine w_skip ?_|refine w_blk ?_|refine q7 ?_|refine q8 ?_|refine q9 ?_)
  refine d_begin (some 18) [11, 12, 13] (by kernel_rfl) fun g2 hsd => ?_
  replace hw4 := hw4.go hsd
  replace hc1 := hc1.go hsd; replace hc2 := hc2.go hsd; replace hc3 := hc3.go hsd; replace hst := hst.go hsd; replace hc6 := hc6.go hsd
  refine d_read 0 calm_ret rfl (by kernel_rfl) rfl  (fun h hs => r_load (us := [vB1, vN1, vA1]) (hc6.go hs) rfl rfl rfl (fun e => by cases e)) ?_
  refine d_read 1 calm_ret rfl (by kernel_rfl) rfl  (fun h hs => r_fldA (by decide) rfl) ?_
  refine d_read 2 calm_ret rfl (by kernel_rfl) rfl  (fun h hs => r_load1 (v := .int .i64 r.typ) (hc2.go hs) rfl rfl rfl) ?_
  refine d_read 5 calm_ret rfl (by kernel_rfl) rfl  (fun h hs => r_fldA (by decide) rfl) ?_
  refine d_read 6 calm_ret rfl (by kernel_rfl) rfl  (fun h hs => r_load1 (v := .int .i64 r.cls) (hc2.go hs) rfl rfl rfl) ?_
  refine d_read 9 calm_ret rfl (by kernel_rfl) rfl  (fun h hs => r_fldA (by decide) rfl) ?_
  refine d_read 10 calm_ret rfl (by kernel_rfl) rfl  (fun h hs => r_load1 (v := .int .i64 r.ttl) (hc2.go hs) rfl rfl rfl) ?_
  refine d_read 11 calm_ret rfl (by kernel_rfl) rfl  (fun h hs => r_quo rfl rfl (by omega)) ?_
  refine d_read 14 calm_ret rfl (by kernel_rfl) rfl  (fun h hs => r_fldA (by decide) rfl) ?_
  refine d_read 15 calm_ret rfl (by kernel_rfl) rfl  (fun h hs => r_load1 (v := .int .i64 r.ttl) (hc2.go hs) rfl rfl rfl) ?_
  refine d_read 16 calm_ret rfl (by kernel_rfl) rfl  (fun h hs => r_rem rfl rfl (by omega)) ?_
  refine d_exec1 3 (by kernel_rfl) rfl ?_
  refine w_callF rfl (ref09_two r.typ g2 (by omega)) rfl fun v7 h7 hs7 hr7 => ?_
  repeat (first|refine q1 ?_|refine q2 ?_|refine q3 ?_|refine q4 ?_|refine q5 ?_|refine q6 ?_|refine w_seq ?_|refine w_region ?_|refine w_ops_nil ?_|refine w_skip ?_|refine w_block ?_|refine w_blk ?_|refine q7 ?_|refine q8 ?_|refine q9 ?_)
  refine d_next (fun _ => ⟨h7, rfl, hs7.nil⟩) ?_
  refine d_exec1 4 (by kernel_rfl) rfl ?_
  refine w_callF rfl (ref09_put (B ++ z1) (twoB r.typ) z2 h7 (hw4.go hs7) hr7 (by (try simp only [List.length_append, List.length_cons, List.length_nil, twoB_len, first4, bytes16, fixB_len]); omega)) rfl fun u h8 hs8 hR => ?_
  obtain ⟨vB2, vN2, vA2, rfl, hw8⟩ := hR
  repeat (first|refine q1 ?_|refine q2 ?_|refine q3 ?_|refine q4 ?_|refine q5 ?_|refine q6 ?_|refine w_seq ?_|refine w_region ?_|refine w_ops_nil ?_|refine w_skip ?_|refine w_block ?_|refine w_blk ?_|refine q7 ?_|refine q8 ?_|refine q9 ?_)
  refine d_next (fun _ => ⟨h8, rfl, hs7.nil.go hs8⟩) ?_
  refine d_exec1 7 (by kernel_rfl) rfl ?_
  refine w_callF rfl (ref09_two r.cls h8 (by omega)) rfl fun v9 h9 hs9 hr9 => ?_
  repeat (first|refine q1 ?_|refine q2 ?_|refine q3 ?_|refine q4 ?_|refine q5 ?_|refine q6 ?_|refine w_seq ?_|refine w_region ?_|refine w_ops_nil ?_|refine w_skip ?_|refine w_block ?_|refine w_blk ?_|refine q7 ?_|refine q8 ?_|refine q9 ?_)
  refine d_next (fun _ => ⟨h9, rfl, (hs7.nil.go hs8).go hs9⟩) ?_
  refine d_exec1 8 (by kernel_rfl) rfl ?_
  refine w_callF rfl (ref09_put (B ++ z1 ++ twoB r.typ) (twoB r.cls) z2 h9 (hw8.go hs9) hr9 (by (try simp only [List.length_append, List.length_cons, List.length_nil, twoB_len, first4, bytes16, fixB_len]); omega)) rfl fun u h10 hs10 hR => ?_
  obtain ⟨vB3, vN3, vA3, rfl, hw10⟩ := hR
  repeat (first|refine q1 ?_|refine q2 ?_|refine q3 ?_|refine q4 ?_|refine q5 ?_|refine q6 ?_|refine w_seq ?_|refine w_region ?_|refine w_ops_nil ?_|refine w_skip ?_|refine w_block ?_|refine w_blk ?_|refine q7 ?_|refine q8 ?_|refine q9 ?_)
  refine d_next (fun _ => ⟨h10, rfl, ((hs7.nil.go hs8).go hs9).go hs10⟩) ?_
  refine d_exec1 12 (by kernel_rfl) rfl ?_
  refine w_callF rfl (ref09_two (r.ttl / 65536) h10 (by omega)) rfl fun v11 h11 hs11 hr11 => ?_
  repeat (first|refine q1 ?_|refine q2 ?_|refine q3 ?_|refine q4 ?_|refine q5 ?_|refine q6 ?_|refine w_seq ?_|refine w_region ?_|refine w_ops_nil ?_|refine w_skip ?_|refine w_block ?_|refine w_blk ?_|refine q7 ?_|refine q8 ?_|refine q9 ?_)
  refine d_next (fun _ => ⟨h11, rfl, (((hs7.nil.go hs8).go hs9).go hs10).go hs11⟩) ?_
  refine d_exec1 13 (by kernel_rfl) rfl ?_
  refine w_callF rfl (ref09_put (B ++ z1 ++ twoB r.typ ++ twoB r.cls) (twoB (r.ttl / 65536)) z2 h11 (hw10.go hs11) hr11 (by (try simp only [List.length_append, List.length_cons, List.length_nil, twoB_len, first4, bytes16, fixB_len]); omega)) rfl fun u h12 hs12 hR => ?_
  obtain ⟨vB4, vN4, vA4, rfl, hw12⟩ := hR
  repeat (first|refine q1 ?_|refine q2 ?_|refine q3 ?_|refine q4 ?_|refine q5 ?_|refine q6 ?_|refine w_seq ?_|refine w_region ?_|refine w_ops_nil ?_|refine w_skip ?_|refine w_block ?_|refine w_blk ?_|refine q7 ?_|refine q8 ?_|refine q9 ?_)
  refine d_next (fun _ => ⟨h12, rfl, ((((hs7.nil.go hs8).go hs9).go hs10).go hs11).go hs12⟩) ?_
  refine d_exec1 17 (by kernel_rfl) rfl ?_
  refine w_callF rfl (ref09_two (r.ttl % 65536) h12 (by omega)) rfl fun v13 h13 hs13 hr13 => ?_
  repeat (first|refine q1 ?_|refine q2 ?_|refine q3 ?_|refine q4 ?_|refine q5 ?_|refine q6 ?_|refine w_seq ?_|refine w_region ?_|refine w_ops_nil ?_|refine w_skip ?_|refine w_block ?_|refine w_blk ?_|refine q7 ?_|refine q8 ?_|refine q9 ?_)
  refine d_next (fun _ => ⟨h13, rfl, (((((hs7.nil.go hs8).go hs9).go hs10).go hs11).go hs12).go hs13⟩) ?_
  refine d_exec1 18 (by kernel_rfl) rfl ?_
  refine w_callF rfl (ref09_put (B ++ z1 ++ twoB r.typ ++ twoB r.cls ++ twoB (r.ttl / 65536)) (twoB (r.ttl % 65536)) z2 h13 (hw12.go hs13) hr13 (by (try simp only [List.length_append, List.length_cons, List.length_nil, twoB_len, first4, bytes16, fixB_len]); omega)) rfl fun u h14 hs14 hR => ?_
  obtain ⟨vB5, vN5, vA5, rfl, hw14⟩ := hR
  have hfix : B ++ z1 ++ twoB r.typ ++ twoB r.cls ++ twoB (r.ttl / 65536) ++ twoB (r.ttl % 65536) = B ++ z1 ++ fixB r := by simp [fixB]
  rw [hfix] at hw14
  have hstep : Step [] [11, 12, 13] g2 h14 := ((((((hs7.nil.go hs8).go hs9).go hs10).go hs11).go hs12).go hs13).go hs14
  replace hc1 := hc1.go hstep; replace hc2 := hc2.go hstep; replace hc3 := hc3.go hstep; replace hc6 := hc6.go hstep; replace hst := hst.go hstep
  repeat (first|refine q1 ?_|refine q2 ?_|refine q3 ?_|refine q4 ?_|refine q5 ?_|refine q6 ?_|refine w_seq ?_|refine w_region ?_|refine w_ops_nil ?_|refine w_skip ?_|refine w_block ?_|refine w_blk ?_|refine q7 ?_|refine q8 ?_|refine q9 ?_)
  refine d_over (by kernel_rfl) ?_
  refine d_phase (some 19) [] (by kernel_rfl) ?_
  refine d_exec1 19 (by kernel_rfl) rfl ?_
  refine w_store (us := [vB5, vN5, vA5]) (vs' := [vB5, vN5, vA5]) hc1 rfl rfl rfl rfl hw14.one (by simp) rfl fun h15 hb15 hs15 hc15 => ?_
  replace hw14 := hw14.go hs15
  replace hc2 := hc2.go hs15; replace hc3 := hc3.go hs15; replace hst := hst.go hs15
  clear hs7 hs8 hs9 hs10 hs11 hs12 hs13 hs14 hstep hw8 hw10 hw12 hw4 hr7 hr9 hr11 hr13 hc6 hc5 hc1
  repeat (first|refine q1 ?_|refine q2 ?_|refine q3 ?_|refine q4 ?_|refine q5 ?_|refine q6 ?_|refine w_seq ?_|refine w_region ?_|refine w_ops_nil ?_|refine w_skip ?_|refine w_block ?_|refine w_blk ?_|refine q7 ?_|refine q8 ?_|refine q9 ?_)
  refine d_over (by kernel_rfl) ?_
  refine d_done (by kernel_rfl) ?_
  have hlen1 : (B ++ z1 ++ fixB r).length = B.length + z1.length + 8 := by simp only [List.length_append, fixB_len]
  generalize hB1 : B ++ z1 ++ fixB r = B1 at hw14 hlen1
  repeat (first|refine q1 ?_|refine q2 ?_|refine q3 ?_|refine q4 ?_|refine q5 ?_|refine q6 ?_|refine w_seq ?_|refine w_region ?_|refine w_ops_nil ?_|refine w_skip ?_|refine w_block ?_|refine w_blk ?_|refine q7 ?_|refine q8 ?_|refine q9 ?_)
  refine w_fldA (by decide) rfl rfl ?_
  refine w_load1 (v := .int .i64 r.typ) hc2 rfl rfl rfl rfl ?_
  repeat (first|refine q1 ?_|refine q2 ?_|refine q3 ?_|refine q4 ?_|refine q5 ?_|refine q6 ?_|refine w_seq ?_|refine w_region ?_|refine w_ops_nil ?_|refine w_skip ?_|refine w_block ?_|refine w_blk ?_|refine q7 ?_|refine q8 ?_|refine q9 ?_)
  refine w_condP rfl (fun ht1 => ?_) (fun ht1 => ?_)
  · have hrec : recW B.length m r = (z1 ++ fixB r ++ (twoB 4 ++ first4 r.addr), z2) := by
      unfold recW; rw [hz]; dsimp only; rw [if_neg (by omega), dataB, if_pos ht1]
    repeat (first|refine q1 ?_|refine q2 ?_|refine q3 ?_|refine q4 ?_|refine q5 ?_|refine q6 ?_|refine w_seq ?_|refine w_region ?_|refine w_ops_nil ?_|refine w_skip ?_|refine w_blk ?_|refine q7 ?_|refine q8 ?_|refine q9 ?_)
    refine d_begin (some 6) [11, 12, 13] (by kernel_rfl) fun g3 hsd => ?_
    replace hw14 := hw14.go hsd
    replace hc15 := hc15.go hsd; replace hc2 := hc2.go hsd; replace hc3 := hc3.go hsd; replace hst := hst.go hsd
    refine d_read 0 calm_ret rfl (by kernel_rfl) rfl  (fun h hs => r_load (us := [vB5, vN5, vA5]) (hc15.go hs) rfl rfl rfl (fun e => by cases e)) ?_
    refine d_read 3 calm_ret rfl (by kernel_rfl) rfl  (fun h hs => r_fldA (by decide) rfl) ?_
    refine d_read 4 calm_ret rfl (by kernel_rfl) rfl  (fun h hs => r_fldA (by decide) rfl) ?_
    refine d_read 5 calm_ret rfl (by kernel_rfl) rfl  (fun h hs => r_slA (h := 4) rfl ⟨_, rfl, rfl⟩ (by decide)) ?_
    refine d_exec1 1 (by kernel_rfl) rfl ?_
    refine w_callF rfl (ref09_two 4 g3 (by omega)) rfl fun v7 h7 hs7 hr7 => ?_
    repeat (first|refine q1 ?_|refine q2 ?_|refine q3 ?_|refine q4 ?_|refine q5 ?_|refine q6 ?_|refine w_seq ?_|refine w_region ?_|refine w_ops_nil ?_|refine w_skip ?_|refine w_block ?_|refine w_blk ?_|refine q7 ?_|refine q8 ?_|refine q9 ?_)
    refine d_next (fun _ => ⟨h7, rfl, hs7.nil⟩) ?_
    refine d_exec1 2 (by kernel_rfl) rfl ?_
    refine w_callF rfl (ref09_put B1 (twoB 4) z2 h7 (hw14.go hs7) hr7 (by (try simp only [List.length_append, List.length_cons, List.length_nil, twoB_len, first4, bytes16, fixB_len]); omega)) rfl fun u h8 hs8 hR => ?_
    obtain ⟨vB6, vN6, vA6, rfl, hw8⟩ := hR
    repeat (first|refine q1 ?_|refine q2 ?_|refine q3 ?_|refine q4 ?_|refine q5 ?_|refine q6 ?_|refine w_seq ?_|refine w_region ?_|refine w_ops_nil ?_|refine w_skip ?_|refine w_block ?_|refine w_blk ?_|refine q7 ?_|refine q8 ?_|refine q9 ?_)
    refine d_next (fun _ => ⟨h8, rfl, hs7.nil.go hs8⟩) ?_
    refine d_exec1 6 (by kernel_rfl) rfl ?_
    replace hc2 := (hc2.go hs7).go hs8
    refine w_callF rfl (ref09_put (B1 ++ twoB 4) (first4 r.addr) z2 h8 hw8 (hc2.rdB (o := 5) (h := 4) (cap := 16) (l := first4 r.addr) rfl rfl (by decide) (by decide)) (by (try simp only [List.length_append, List.length_cons, List.length_nil, twoB_len, first4, bytes16, fixB_len]); omega)) rfl fun u h9 hs9 hR => ?_
    obtain ⟨vB7, vN7, vA7, rfl, hw9⟩ := hR
    replace hc3 := ((hc3.go hs7).go hs8).go hs9
    replace hst := ((hst.go hs7).go hs8).go hs9
    repeat (first|refine q1 ?_|refine q2 ?_|refine q3 ?_|refine q4 ?_|refine q5 ?_|refine q6 ?_|refine w_seq ?_|refine w_region ?_|refine w_ops_nil ?_|refine w_skip ?_|refine w_block ?_|refine w_blk ?_|refine q7 ?_|refine q8 ?_|refine q9 ?_)
    refine d_over (by kernel_rfl) ?_
    refine d_phase (some 7) [] (by kernel_rfl) ?_
    refine d_exec1 7 (by kernel_rfl) rfl ?_
    refine w_store (us := [vB7, vN7, vA7]) (vs' := [vB7, vN7, vA7]) hc3 rfl rfl rfl rfl hw9.one (by simp) rfl fun h10 hb10 hs10 hc10 => ?_
    repeat (first|refine q1 ?_|refine q2 ?_|refine q3 ?_|refine q4 ?_|refine q5 ?_|refine q6 ?_|refine w_seq ?_|refine w_region ?_|refine w_ops_nil ?_|refine w_skip ?_|refine w_block ?_|refine w_blk ?_|refine q7 ?_|refine q8 ?_|refine q9 ?_)
    refine d_over (by kernel_rfl) ?_
    refine d_done (by kernel_rfl) ?_
    repeat (first|refine q1 ?_|refine q2 ?_|refine q3 ?_|refine q4 ?_|refine q5 ?_|refine q6 ?_|refine w_seq ?_|refine w_region ?_|refine w_ops_nil ?_|refine w_skip ?_|refine w_block ?_|refine w_blk ?_|refine q7 ?_|refine q8 ?_|refine q9 ?_)
    refine w_retG (resCs hc10 rfl rfl rfl rfl) (hst.go hs10) fun h' hv' => ⟨vB7, vN7, vA7, rfl, ?_⟩
    rw [hrec]
    have := (hw9.go hs10).view hv' (by simp) (by simp) (by simp)
    rw [← hB1] at this
    simpa [List.append_assoc] using this
  repeat (first|refine q1 ?_|refine q2 ?_|refine q3 ?_|refine q4 ?_|refine q5 ?_|refine q6 ?_|refine w_seq ?_|refine w_region ?_|refine w_ops_nil ?_|refine w_skip ?_|refine w_block ?_|refine w_blk ?_|refine q7 ?_|refine q8 ?_|refine q9 ?_)
  refine w_fldA (by decide) rfl rfl ?_
  refine w_load1 (v := .int .i64 r.typ) hc2 rfl rfl rfl rfl ?_
  repeat (first|refine q1 ?_|refine q2 ?_|refine q3 ?_|refine q4 ?_|refine q5 ?_|refine q6 ?_|refine w_seq ?_|refine w_region ?_|refine w_ops_nil ?_|refine w_skip ?_|refine w_block ?_|refine w_blk ?_|refine q7 ?_|refine q8 ?_|refine q9 ?_)
  refine w_condP rfl (fun ht28 => ?_) (fun ht28 => ?_)
  · have hrec : recW B.length m r = (z1 ++ fixB r ++ (twoB 16 ++ bytes16 r.addr.b), z2) := by
      unfold recW; rw [hz]; dsimp only; rw [if_neg (by omega), dataB, if_neg ht1, if_pos ht28]
    repeat (first|refine q1 ?_|refine q2 ?_|refine q3 ?_|refine q4 ?_|refine q5 ?_|refine q6 ?_|refine w_seq ?_|refine w_region ?_|refine w_ops_nil ?_|refine w_skip ?_|refine w_blk ?_|refine q7 ?_|refine q8 ?_|refine q9 ?_)
    refine d_begin (some 6) [11, 12, 13] (by kernel_rfl) fun g3 hsd => ?_
    replace hw14 := hw14.go hsd
    replace hc15 := hc15.go hsd; replace hc2 := hc2.go hsd; replace hc3 := hc3.go hsd; replace hst := hst.go hsd
    refine d_read 0 calm_ret rfl (by kernel_rfl) rfl  (fun h hs => r_load (us := [vB5, vN5, vA5]) (hc15.go hs) rfl rfl rfl (fun e => by cases e)) ?_
    refine d_read 3 calm_ret rfl (by kernel_rfl) rfl  (fun h hs => r_fldA (by decide) rfl) ?_
    refine d_read 4 calm_ret rfl (by kernel_rfl) rfl  (fun h hs => r_fldA (by decide) rfl) ?_
    refine d_read 5 calm_ret rfl (by kernel_rfl) rfl  (fun h hs => r_slA (h := 16) rfl rfl (by decide)) ?_
    refine d_exec1 1 (by kernel_rfl) rfl ?_
    refine w_callF rfl (ref09_two 16 g3 (by omega)) rfl fun v7 h7 hs7 hr7 => ?_
    repeat (first|refine q1 ?_|refine q2 ?_|refine q3 ?_|refine q4 ?_|refine q5 ?_|refine q6 ?_|refine w_seq ?_|refine w_region ?_|refine w_ops_nil ?_|refine w_skip ?_|refine w_block ?_|refine w_blk ?_|refine q7 ?_|refine q8 ?_|refine q9 ?_)
    refine d_next (fun _ => ⟨h7, rfl, hs7.nil⟩) ?_
    refine d_exec1 2 (by kernel_rfl) rfl ?_
    refine w_callF rfl (ref09_put B1 (twoB 16) z2 h7 (hw14.go hs7) hr7 (by (try simp only [List.length_append, List.length_cons, List.length_nil, twoB_len, first4, bytes16, fixB_len]); omega)) rfl fun u h8 hs8 hR => ?_
    obtain ⟨vB6, vN6, vA6, rfl, hw8⟩ := hR
    repeat (first|refine q1 ?_|refine q2 ?_|refine q3 ?_|refine q4 ?_|refine q5 ?_|refine q6 ?_|refine w_seq ?_|refine w_region ?_|refine w_ops_nil ?_|refine w_skip ?_|refine w_block ?_|refine w_blk ?_|refine q7 ?_|refine q8 ?_|refine q9 ?_)
    refine d_next (fun _ => ⟨h8, rfl, hs7.nil.go hs8⟩) ?_
    refine d_exec1 6 (by kernel_rfl) rfl ?_
    replace hc2 := (hc2.go hs7).go hs8
    refine w_callF rfl (ref09_put (B1 ++ twoB 16) (bytes16 r.addr.b) z2 h8 hw8 (hc2.rdB (o := 5) (h := 16) (cap := 16) (l := bytes16 r.addr.b) rfl rfl (by decide) (by decide)) (by (try simp only [List.length_append, List.length_cons, List.length_nil, twoB_len, first4, bytes16, fixB_len]); omega)) rfl fun u h9 hs9 hR => ?_
    obtain ⟨vB7, vN7, vA7, rfl, hw9⟩ := hR
    replace hc3 := ((hc3.go hs7).go hs8).go hs9
    replace hst := ((hst.go hs7).go hs8).go hs9
    repeat (first|refine q1 ?_|refine q2 ?_|refine q3 ?_|refine q4 ?_|refine q5 ?_|refine q6 ?_|refine w_seq ?_|refine w_region ?_|refine w_ops_nil ?_|refine w_skip ?_|refine w_block ?_|refine w_blk ?_|refine q7 ?_|refine q8 ?_|refine q9 ?_)
    refine d_over (by kernel_rfl) ?_
    refine d_phase (some 7) [] (by kernel_rfl) ?_
    refine d_exec1 7 (by kernel_rfl) rfl ?_
    refine w_store (us := [vB7, vN7, vA7]) (vs' := [vB7, vN7, vA7]) hc3 rfl rfl rfl rfl hw9.one (by simp) rfl fun h10 hb10 hs10 hc10 => ?_
    repeat (first|refine q1 ?_|refine q2 ?_|refine q3 ?_|refine q4 ?_|refine q5 ?_|refine q6 ?_|refine w_seq ?_|refine w_region ?_|refine w_ops_nil ?_|refine w_skip ?_|refine w_block ?_|refine w_blk ?_|refine q7 ?_|refine q8 ?_|refine q9 ?_)
    refine d_over (by kernel_rfl) ?_
    refine d_done (by kernel_rfl) ?_
    repeat (first|refine q1 ?_|refine q2 ?_|refine q3 ?_|refine q4 ?_|refine q5 ?_|refine q6 ?_|refine w_seq ?_|refine w_region ?_|refine w_ops_nil ?_|refine w_skip ?_|refine w_block ?_|refine w_blk ?_|refine q7 ?_|refine q8 ?_|refine q9 ?_)
    refine w_retG (resCs hc10 rfl rfl rfl rfl) (hst.go hs10) fun h' hv' => ⟨vB7, vN7, vA7, rfl, ?_⟩
    rw [hrec]
    have := (hw9.go hs10).view hv' (by simp) (by simp) (by simp)
    rw [← hB1] at this
    simpa [List.append_assoc] using this
  repeat (first|refine q1 ?_|refine q2 ?_|refine q3 ?_|refine q4 ?_|refine q5 ?_|refine q6 ?_|refine w_seq ?_|refine w_region ?_|refine w_ops_nil ?_|refine w_skip ?_|refine w_block ?_|refine w_blk ?_|refine q7 ?_|refine q8 ?_|refine q9 ?_)
  refine w_fldA (by decide) rfl rfl ?_
  refine w_load1 (v := .int .i64 r.typ) hc2 rfl rfl rfl rfl ?_
  repeat (first|refine q1 ?_|refine q2 ?_|refine q3 ?_|refine q4 ?_|refine q5 ?_|refine q6 ?_|refine w_seq ?_|refine w_region ?_|refine w_ops_nil ?_|refine w_skip ?_|refine w_block ?_|refine w_blk ?_|refine q7 ?_|refine q8 ?_|refine q9 ?_)
  refine w_condP rfl (fun ht5 => ?_) (fun ht5 => ?_)
  · have hrec : recW B.length m r = (z1 ++ fixB r ++ (twoB r.data.length ++ r.data), z2) := by
      unfold recW; rw [hz]; dsimp only; rw [if_neg ht5, dataB, if_neg ht1, if_neg ht28]
    repeat (first|refine q1 ?_|refine q2 ?_|refine q3 ?_|refine q4 ?_|refine q5 ?_|refine q6 ?_|refine w_seq ?_|refine w_region ?_|refine w_ops_nil ?_|refine w_skip ?_|refine w_blk ?_|refine q7 ?_|refine q8 ?_|refine q9 ?_)
    refine d_begin (some 9) [11, 12, 13] (by kernel_rfl) fun g3 hsd => ?_
    replace hw14 := hw14.go hsd
    replace hc15 := hc15.go hsd; replace hc2 := hc2.go hsd; replace hc3 := hc3.go hsd; replace hst := hst.go hsd
    refine d_read 0 calm_ret rfl (by kernel_rfl) rfl  (fun h hs => r_load (us := [vB5, vN5, vA5]) (hc15.go hs) rfl rfl rfl (fun e => by cases e)) ?_
    refine d_read 1 calm_ret rfl (by kernel_rfl) rfl  (fun h hs => r_fldA (by decide) rfl) ?_
    refine d_read 2 calm_ret rfl (by kernel_rfl) rfl  (fun h hs => r_load1 (v := str r.data) (hc2.go hs) rfl rfl rfl) ?_
    refine d_read 3 calm_ret rfl (by kernel_rfl) rfl  (fun h hs => r_lenStr rfl) ?_
    refine d_read 6 calm_ret rfl (by kernel_rfl) rfl  (fun h hs => r_fldA (by decide) rfl) ?_
    refine d_read 7 calm_ret rfl (by kernel_rfl) rfl  (fun h hs => r_load1 (v := str r.data) (hc2.go hs) rfl rfl rfl) ?_
    refine d_exec2 4 8 (by kernel_rfl) rfl rfl ?_ ?_
    · refine w_callF rfl (ref09_two r.data.length g3 (by omega)) rfl fun v7 h7 hs7 hr7 => ?_
      repeat (first|refine q1 ?_|refine q2 ?_|refine q3 ?_|refine q4 ?_|refine q5 ?_|refine q6 ?_|refine w_seq ?_|refine w_region ?_|refine w_ops_nil ?_|refine w_skip ?_|refine w_block ?_|refine w_blk ?_|refine q7 ?_|refine q8 ?_|refine q9 ?_)
      refine d_next (fun _ => ⟨h7, rfl, hs7.nil⟩) ?_
      refine d_exec2 5 8 (by kernel_rfl) rfl rfl ?_ ?_
      · refine w_callF rfl (ref09_put B1 (twoB r.data.length) z2 h7 (hw14.go hs7) hr7 (by (try simp only [List.length_append, List.length_cons, List.length_nil, twoB_len, first4, bytes16, fixB_len]); omega)) rfl fun u h8 hs8 hR => ?_
        obtain ⟨vB6, vN6, vA6, rfl, hw8⟩ := hR
        repeat (first|refine q1 ?_|refine q2 ?_|refine q3 ?_|refine q4 ?_|refine q5 ?_|refine q6 ?_|refine w_seq ?_|refine w_region ?_|refine w_ops_nil ?_|refine w_skip ?_|refine w_block ?_|refine w_blk ?_|refine q7 ?_|refine q8 ?_|refine q9 ?_)
        refine d_next (fun _ => ⟨h8, rfl, hs7.nil.go hs8⟩) ?_
        refine d_exec1 8 (by kernel_rfl) rfl ?_
        refine w_s2b rfl (by omega) rfl fun hX vX hsx hrX => ?_
        have hsX : Step [] [11, 12, 13] g3 hX := (hs7.nil.go hs8).go hsx
        have hwX := hw8.go hsx
        repeat (first|refine q1 ?_|refine q2 ?_|refine q3 ?_|refine q4 ?_|refine q5 ?_|refine q6 ?_|refine w_seq ?_|refine w_region ?_|refine w_ops_nil ?_|refine w_skip ?_|refine w_block ?_|refine w_blk ?_|refine q7 ?_|refine q8 ?_|refine q9 ?_)
        refine d_next (fun _ => ⟨hX, rfl, hsX⟩) ?_
        refine d_exec1 9 (by kernel_rfl) rfl ?_
        refine w_callF rfl (ref09_put (B1 ++ twoB r.data.length) r.data z2 hX hwX hrX (by (try simp only [List.length_append, List.length_cons, List.length_nil, twoB_len, first4, bytes16, fixB_len]); omega)) rfl fun u h9 hs9 hR => ?_
        obtain ⟨vB7, vN7, vA7, rfl, hw9⟩ := hR
        replace hc3 := (hc3.go hsX).go hs9
        replace hst := (hst.go hsX).go hs9
        repeat (first|refine q1 ?_|refine q2 ?_|refine q3 ?_|refine q4 ?_|refine q5 ?_|refine q6 ?_|refine w_seq ?_|refine w_region ?_|refine w_ops_nil ?_|refine w_skip ?_|refine w_block ?_|refine w_blk ?_|refine q7 ?_|refine q8 ?_|refine q9 ?_)
        refine d_over (by kernel_rfl) ?_
        refine d_phase (some 10) [] (by kernel_rfl) ?_
        refine d_exec1 10 (by kernel_rfl) rfl ?_
        refine w_store (us := [vB7, vN7, vA7]) (vs' := [vB7, vN7, vA7]) hc3 rfl rfl rfl rfl hw9.one (by simp) rfl fun h10 hb10 hs10 hc10 => ?_
        repeat (first|refine q1 ?_|refine q2 ?_|refine q3 ?_|refine q4 ?_|refine q5 ?_|refine q6 ?_|refine w_seq ?_|refine w_region ?_|refine w_ops_nil ?_|refine w_skip ?_|refine w_block ?_|refine w_blk ?_|refine q7 ?_|refine q8 ?_|refine q9 ?_)
        refine d_over (by kernel_rfl) ?_
        refine d_done (by kernel_rfl) ?_
        repeat (first|refine q1 ?_|refine q2 ?_|refine q3 ?_|refine q4 ?_|refine q5 ?_|refine q6 ?_|refine w_seq ?_|refine w_region ?_|refine w_ops_nil ?_|refine w_skip ?_|refine w_block ?_|refine w_blk ?_|refine q7 ?_|refine q8 ?_|refine q9 ?_)
        refine w_retG (resCs hc10 rfl rfl rfl rfl) (hst.go hs10) fun h' hv' => ⟨vB7, vN7, vA7, rfl, ?_⟩
        rw [hrec]
        have := (hw9.go hs10).view hv' (by simp) (by simp) (by simp)
        rw [← hB1] at this
        simpa [List.append_assoc] using this
      · refine w_s2b rfl (by omega) rfl fun h8 vX hsx hr8 => ?_
        repeat (first|refine q1 ?_|refine q2 ?_|refine q3 ?_|refine q4 ?_|refine q5 ?_|refine q6 ?_|refine w_seq ?_|refine w_region ?_|refine w_ops_nil ?_|refine w_skip ?_|refine w_block ?_|refine w_blk ?_|refine q7 ?_|refine q8 ?_|refine q9 ?_)
        refine d_next (fun _ => ⟨h8, rfl, (hs7.go hsx).nil⟩) ?_
        refine d_exec1 5 (by kernel_rfl) rfl ?_
        refine w_callF rfl (ref09_put B1 (twoB r.data.length) z2 h8 ((hw14.go hs7).go hsx) (hr7.go hsx) (by (try simp only [List.length_append, List.length_cons, List.length_nil, twoB_len, first4, bytes16, fixB_len]); omega)) rfl fun u hX hsy hR => ?_
        obtain ⟨vB6, vN6, vA6, rfl, hwX⟩ := hR
        have hsX : Step [] [11, 12, 13] g3 hX := (hs7.go hsx).nil.go hsy
        have hrX := hr8.go hsy
        repeat (first|refine q1 ?_|refine q2 ?_|refine q3 ?_|refine q4 ?_|refine q5 ?_|refine q6 ?_|refine w_seq ?_|refine w_region ?_|refine w_ops_nil ?_|refine w_skip ?_|refine w_block ?_|refine w_blk ?_|refine q7 ?_|refine q8 ?_|refine q9 ?_)
        refine d_next (fun _ => ⟨hX, rfl, hsX⟩) ?_
        refine d_exec1 9 (by kernel_rfl) rfl ?_
        refine w_callF rfl (ref09_put (B1 ++ twoB r.data.length) r.data z2 hX hwX hrX (by (try simp only [List.length_append, List.length_cons, List.length_nil, twoB_len, first4, bytes16, fixB_len]); omega)) rfl fun u h9 hs9 hR => ?_
        obtain ⟨vB7, vN7, vA7, rfl, hw9⟩ := hR
        replace hc3 := (hc3.go hsX).go hs9
        replace hst := (hst.go hsX).go hs9
        repeat (first|refine q1 ?_|refine q2 ?_|refine q3 ?_|refine q4 ?_|refine q5 ?_|refine q6 ?_|refine w_seq ?_|refine w_region ?_|refine w_ops_nil ?_|refine w_skip ?_|refine w_block ?_|refine w_blk ?_|refine q7 ?_|refine q8 ?_|refine q9 ?_)
        refine d_over (by kernel_rfl) ?_
        refine d_phase (some 10) [] (by kernel_rfl) ?_
        refine d_exec1 10 (by kernel_rfl) rfl ?_
        refine w_store (us := [vB7, vN7, vA7]) (vs' := [vB7, vN7, vA7]) hc3 rfl rfl rfl rfl hw9.one (by simp) rfl fun h10 hb10 hs10 hc10 => ?_
        repeat (first|refine q1 ?_|refine q2 ?_|refine q3 ?_|refine q4 ?_|refine q5 ?_|refine q6 ?_|refine w_seq ?_|refine w_region ?_|refine w_ops_nil ?_|refine w_skip ?_|refine w_block ?_|refine w_blk ?_|refine q7 ?_|refine q8 ?_|refine q9 ?_)
        refine d_over (by kernel_rfl) ?_
        refine d_done (by kernel_rfl) ?_
        repeat (first|refine q1 ?_|refine q2 ?_|refine q3 ?_|refine q4 ?_|refine q5 ?_|refine q6 ?_|refine w_seq ?_|refine w_region ?_|refine w_ops_nil ?_|refine w_skip ?_|refine w_block ?_|refine w_blk ?_|refine q7 ?_|refine q8 ?_|refine q9 ?_)
        refine w_retG (resCs hc10 rfl rfl rfl rfl) (hst.go hs10) fun h' hv' => ⟨vB7, vN7, vA7, rfl, ?_⟩
        rw [hrec]
        have := (hw9.go hs10).view hv' (by simp) (by simp) (by simp)
        rw [← hB1] at this
        simpa [List.append_assoc] using this
    · refine w_s2b rfl (by omega) rfl fun h7 vX hs7 hr7 => ?_
      repeat (first|refine q1 ?_|refine q2 ?_|refine q3 ?_|refine q4 ?_|refine q5 ?_|refine q6 ?_|refine w_seq ?_|refine w_region ?_|refine w_ops_nil ?_|refine w_skip ?_|refine w_block ?_|refine w_blk ?_|refine q7 ?_|refine q8 ?_|refine q9 ?_)
      refine d_next (fun _ => ⟨h7, rfl, hs7.nil⟩) ?_
      refine d_exec1 4 (by kernel_rfl) rfl ?_
      refine w_callF rfl (ref09_two r.data.length h7 (by omega)) rfl fun v8 h8 hs8 hr8 => ?_
      repeat (first|refine q1 ?_|refine q2 ?_|refine q3 ?_|refine q4 ?_|refine q5 ?_|refine q6 ?_|refine w_seq ?_|refine w_region ?_|refine w_ops_nil ?_|refine w_skip ?_|refine w_block ?_|refine w_blk ?_|refine q7 ?_|refine q8 ?_|refine q9 ?_)
      refine d_next (fun _ => ⟨h8, rfl, (hs7.go hs8).nil⟩) ?_
      refine d_exec1 5 (by kernel_rfl) rfl ?_
      refine w_callF rfl (ref09_put B1 (twoB r.data.length) z2 h8 ((hw14.go hs7).go hs8) hr8 (by (try simp only [List.length_append, List.length_cons, List.length_nil, twoB_len, first4, bytes16, fixB_len]); omega)) rfl fun u hX hsy hR => ?_
      obtain ⟨vB6, vN6, vA6, rfl, hwX⟩ := hR
      have hsX : Step [] [11, 12, 13] g3 hX := (hs7.go hs8).nil.go hsy
      have hrX := (hr7.go hs8).go hsy
      repeat (first|refine q1 ?_|refine q2 ?_|refine q3 ?_|refine q4 ?_|refine q5 ?_|refine q6 ?_|refine w_seq ?_|refine w_region ?_|refine w_ops_nil ?_|refine w_skip ?_|refine w_block ?_|refine w_blk ?_|refine q7 ?_|refine q8 ?_|refine q9 ?_)
      refine d_next (fun _ => ⟨hX, rfl, hsX⟩) ?_
      refine d_exec1 9 (by kernel_rfl) rfl ?_
      refine w_callF rfl (ref09_put (B1 ++ twoB r.data.length) r.data z2 hX hwX hrX (by (try simp only [List.length_append, List.length_cons, List.length_nil, twoB_len, first4, bytes16, fixB_len]); omega)) rfl fun u h9 hs9 hR => ?_
      obtain ⟨vB7, vN7, vA7, rfl, hw9⟩ := hR
      replace hc3 := (hc3.go hsX).go hs9
      replace hst := (hst.go hsX).go hs9
      repeat (first|refine q1 ?_|refine q2 ?_|refine q3 ?_|refine q4 ?_|refine q5 ?_|refine q6 ?_|refine w_seq ?_|refine w_region ?_|refine w_ops_nil ?_|refine w_skip ?_|refine w_block ?_|refine w_blk ?_|refine q7 ?_|refine q8 ?_|refine q9 ?_)
      refine d_over (by kernel_rfl) ?_
      refine d_phase (some 10) [] (by kernel_rfl) ?_
      refine d_exec1 10 (by kernel_rfl) rfl ?_
      refine w_store (us := [vB7, vN7, vA7]) (vs' := [vB7, vN7, vA7]) hc3 rfl rfl rfl rfl hw9.one (by simp) rfl fun h10 hb10 hs10 hc10 => ?_
      repeat (first|refine q1 ?_|refine q2 ?_|refine q3 ?_|refine q4 ?_|refine q5 ?_|refine q6 ?_|refine w_seq ?_|refine w_region ?_|refine w_ops_nil ?_|refine w_skip ?_|refine w_block ?_|refine w_blk ?_|refine q7 ?_|refine q8 ?_|refine q9 ?_)
      refine d_over (by kernel_rfl) ?_
      refine d_done (by kernel_rfl) ?_
      repeat (first|refine q1 ?_|refine q2 ?_|refine q3 ?_|refine q4 ?_|refine q5 ?_|refine q6 ?_|refine w_seq ?_|refine w_region ?_|refine w_ops_nil ?_|refine w_skip ?_|refine w_block ?_|refine w_blk ?_|refine q7 ?_|refine q8 ?_|refine q9 ?_)
      refine w_retG (resCs hc10 rfl rfl rfl rfl) (hst.go hs10) fun h' hv' => ⟨vB7, vN7, vA7, rfl, ?_⟩
      rw [hrec]
      have := (hw9.go hs10).view hv' (by simp) (by simp) (by simp)
      rw [← hB1] at this
      simpa [List.append_assoc] using this
  have ht5 : r.typ = 5 := Decidable.not_not.1 ht5
  have hmt : mayB r.target = true := by
    rw [if_neg ht1, if_neg ht28, if_pos ht5] at hrest; exact hrest.1
  obtain ⟨e2, k1, k2⟩ := end_len hmt (B1 ++ twoB 0) z2
  have hn10 : B.length + z1.length + 10 = (B1 ++ twoB 0).length := by rw [List.length_append, twoB_len]; omega
  have hrec : recW B.length m r = (z1 ++ fixB r ++ twoB (nameW (B1 ++ twoB 0).length z2 (labelsB r.target)).1.length ++ (nameW (B1 ++ twoB 0).length z2 (labelsB r.target)).1, (nameW (B1 ++ twoB 0).length z2 (labelsB r.target)).2) := by
    unfold recW; rw [hz]; dsimp only; rw [if_pos ht5, hn10]
  generalize hy : nameW (B1 ++ twoB 0).length z2 (labelsB r.target) = y at e2 k1 k2 hrec
  obtain ⟨y1, y2⟩ := y
  dsimp only at e2 k1 k2 hrec
  repeat (first|refine q1 ?_|refine q2 ?_|refine q3 ?_|refine q4 ?_|refine q5 ?_|refine q6 ?_|refine w_seq ?_|refine w_region ?_|refine w_ops_nil ?_|refine w_skip ?_|refine w_block ?_|refine w_blk ?_|refine q7 ?_|refine q8 ?_|refine q9 ?_)
  refine w_fldA (by decide) rfl rfl ?_
  refine w_load1 (v := vB5) hc15 rfl rfl rfl rfl ?_
  refine w_lenSl hw14.b.isSl rfl rfl ?_
  repeat (first|refine q1 ?_|refine q2 ?_|refine q3 ?_|refine q4 ?_|refine q5 ?_|refine q6 ?_|refine w_seq ?_|refine w_region ?_|refine w_ops_nil ?_|refine w_skip ?_|refine w_blk ?_|refine q7 ?_|refine q8 ?_|refine q9 ?_)
  refine w_cut (ι := Nat) (fun kb => [(4, .pointer (some ⟨b3, 0, none⟩)), (7, .int .i64 (B1.length : Int)), (8, .pointer (some ⟨kb, 0, none⟩))])
    (fun kb w => ∃ h vB vN vA, h.w = w ∧ Step [] [11, 12, 13, 41, 42, 43, 44, 45] g1 h ∧ Cell h 43 b3 29 [.slice none 0 0, .slice none 0 0, .slice none 0 0] ∧ RW h vB vN vA (B1 ++ twoB 0 ++ y1) y2 ∧ Cell h 45 kb 29 [vB, vN, vA]) ?_ ?_
  · refine d_begin (some 5) [11, 12, 13] (by kernel_rfl) fun g3 hsd => ?_
    replace hw14 := hw14.go hsd
    replace hc15 := hc15.go hsd; replace hc2 := hc2.go hsd; replace hc3 := hc3.go hsd; replace hst := hst.go hsd
    refine d_read 0 calm_ret rfl (by kernel_rfl) rfl  (fun h hs => r_load (us := [vB5, vN5, vA5]) (hc15.go hs) rfl rfl rfl (fun e => by cases e)) ?_
    refine d_read 3 calm_ret rfl (by kernel_rfl) rfl  (fun h hs => r_fldA (by decide) rfl) ?_
    refine d_read 4 calm_ret rfl (by kernel_rfl) rfl  (fun h hs => r_load1 (v := str r.target) (hc2.go hs) rfl rfl rfl) ?_
    have kt0 : Step [] [11, 12, 13] g3 g3 := Step.refl _ _ _
    refine d_exec2 1 9 (by kernel_rfl) rfl rfl ?_ ?_
    · refine w_callF rfl (ref09_two 0 g3 (by omega)) rfl fun kv1 k1 ks1 kr1 => ?_
      have kt1 := kt0.go ks1
      have kw1 := hw14.go ks1
      repeat (first|refine q1 ?_|refine q2 ?_|refine q3 ?_|refine q4 ?_|refine q5 ?_|refine q6 ?_|refine w_seq ?_|refine w_region ?_|refine w_ops_nil ?_|refine w_skip ?_|refine w_block ?_|refine w_blk ?_|refine q7 ?_|refine q8 ?_|refine q9 ?_)
      refine d_next (fun _ => ⟨k1, rfl, kt1⟩) ?_
      refine d_exec2 2 9 (by kernel_rfl) rfl rfl ?_ ?_
      · refine w_callF rfl (ref09_put B1 (twoB 0) z2 k1 kw1 kr1 (by (try simp only [List.length_append, List.length_cons, List.length_nil, twoB_len, first4, bytes16, fixB_len]); omega)) rfl fun u k2 ks2 kR2 => ?_
        obtain ⟨kB2, kN2, kA2, rfl, kw2⟩ := kR2
        have kt2 := kt1.go ks2
        repeat (first|refine q1 ?_|refine q2 ?_|refine q3 ?_|refine q4 ?_|refine q5 ?_|refine q6 ?_|refine w_seq ?_|refine w_region ?_|refine w_ops_nil ?_|refine w_skip ?_|refine w_block ?_|refine w_blk ?_|refine q7 ?_|refine q8 ?_|refine q9 ?_)
        refine d_next (fun _ => ⟨k2, rfl, kt2⟩) ?_
        refine d_exec2 5 9 (by kernel_rfl) rfl rfl ?_ ?_
        · refine w_callF rfl (ref08_Name r.target (B1 ++ twoB 0) z2 k2 kw2 hs.2 (by (try simp only [List.length_append, List.length_cons, List.length_nil, twoB_len, first4, bytes16, fixB_len]); omega) (by omega)) rfl fun u k3 ks3 kR3 => ?_
          obtain ⟨kB3, kN3, kA3, rfl, kw3⟩ := kR3
          rw [e2] at kw3; dsimp only at kw3
          have kt3 := kt2.go ks3
          repeat (first|refine q1 ?_|refine q2 ?_|refine q3 ?_|refine q4 ?_|refine q5 ?_|refine q6 ?_|refine w_seq ?_|refine w_region ?_|refine w_ops_nil ?_|refine w_skip ?_|refine w_block ?_|refine w_blk ?_|refine q7 ?_|refine q8 ?_|refine q9 ?_)
          refine d_over (by kernel_rfl) ?_
          refine d_phase none [45] (by kernel_rfl) ?_
          refine d_pure 6 calm_ret rfl (by kernel_rfl) rfl rfl ?_; refine d_pure 7 calm_ret rfl (by kernel_rfl) rfl rfl ?_; refine d_pure 8 calm_ret rfl (by kernel_rfl) rfl rfl ?_
          refine d_exec1 9 (by kernel_rfl) rfl ?_
          refine w_alloc 45 (vs := [.slice none 0 0, .slice none 0 0, .slice none 0 0]) rfl rfl fun k4 kb ks4 kc4 => ?_
          have kt4 := kt3.go ks4
          have kw4 := kw3.go ks4
          repeat (first|refine q1 ?_|refine q2 ?_|refine q3 ?_|refine q4 ?_|refine q5 ?_|refine q6 ?_|refine w_seq ?_|refine w_region ?_|refine w_ops_nil ?_|refine w_skip ?_|refine w_block ?_|refine w_blk ?_|refine q7 ?_|refine q8 ?_|refine q9 ?_)
          refine d_next (fun _ => ⟨k4, rfl, ks4.nil⟩) ?_
          refine d_exec1 10 (by kernel_rfl) rfl ?_
          refine w_store (us := [kB3, kN3, kA3]) (vs' := [kB3, kN3, kA3]) kc4 rfl rfl rfl rfl kw4.one (by simp) rfl fun kh kzb kz kzc => ?_
          repeat (first|refine q1 ?_|refine q2 ?_|refine q3 ?_|refine q4 ?_|refine q5 ?_|refine q6 ?_|refine w_seq ?_|refine w_region ?_|refine w_ops_nil ?_|refine w_skip ?_|refine w_block ?_|refine w_blk ?_|refine q7 ?_|refine q8 ?_|refine q9 ?_)
          refine d_next (fun _ => ⟨kh, rfl, (ks4.nil.go kz)⟩) ?_
          refine d_pure 11 calm_ret rfl (by kernel_rfl) rfl rfl ?_
          refine d_done (by kernel_rfl) ?_
          exact w_meet kb ⟨kh, kB3, kN3, kA3, rfl, (hst.go kt4).go kz, (hc3.go kt4).go kz, kw4.go kz, kzc⟩ ⟨rfl, rfl, rfl, trivial⟩
        · refine w_alloc 45 (vs := [.slice none 0 0, .slice none 0 0, .slice none 0 0]) rfl rfl fun k5 kb ks5 kc5 => ?_
          have kt5 := kt2.go ks5
          have kw5 := kw2.go ks5
          repeat (first|refine q1 ?_|refine q2 ?_|refine q3 ?_|refine q4 ?_|refine q5 ?_|refine q6 ?_|refine w_seq ?_|refine w_region ?_|refine w_ops_nil ?_|refine w_skip ?_|refine w_block ?_|refine w_blk ?_|refine q7 ?_|refine q8 ?_|refine q9 ?_)
          refine d_next (fun _ => ⟨k5, rfl, kt5⟩) ?_
          refine d_exec1 5 (by kernel_rfl) rfl ?_
          refine w_callF rfl (ref08_Name r.target (B1 ++ twoB 0) z2 k5 kw5 hs.2 (by (try simp only [List.length_append, List.length_cons, List.length_nil, twoB_len, first4, bytes16, fixB_len]); omega) (by omega)) rfl fun u k6 ks6 kR6 => ?_
          obtain ⟨kB6, kN6, kA6, rfl, kw6⟩ := kR6
          rw [e2] at kw6; dsimp only at kw6
          have kt6 := kt5.go ks6
          replace kc5 := kc5.go ks6
          repeat (first|refine q1 ?_|refine q2 ?_|refine q3 ?_|refine q4 ?_|refine q5 ?_|refine q6 ?_|refine w_seq ?_|refine w_region ?_|refine w_ops_nil ?_|refine w_skip ?_|refine w_block ?_|refine w_blk ?_|refine q7 ?_|refine q8 ?_|refine q9 ?_)
          refine d_over (by kernel_rfl) ?_
          refine d_phase none [45] (by kernel_rfl) ?_
          refine d_pure 6 calm_ret rfl (by kernel_rfl) rfl rfl ?_; refine d_pure 7 calm_ret rfl (by kernel_rfl) rfl rfl ?_; refine d_pure 8 calm_ret rfl (by kernel_rfl) rfl rfl ?_
          refine d_exec1 10 (by kernel_rfl) rfl ?_
          refine w_store (us := [kB6, kN6, kA6]) (vs' := [kB6, kN6, kA6]) kc5 rfl rfl rfl rfl kw6.one (by simp) rfl fun kh kzb kz kzc => ?_
          repeat (first|refine q1 ?_|refine q2 ?_|refine q3 ?_|refine q4 ?_|refine q5 ?_|refine q6 ?_|refine w_seq ?_|refine w_region ?_|refine w_ops_nil ?_|refine w_skip ?_|refine w_block ?_|refine w_blk ?_|refine q7 ?_|refine q8 ?_|refine q9 ?_)
          refine d_next (fun _ => ⟨kh, rfl, kz⟩) ?_
          refine d_pure 11 calm_ret rfl (by kernel_rfl) rfl rfl ?_
          refine d_done (by kernel_rfl) ?_
          exact w_meet kb ⟨kh, kB6, kN6, kA6, rfl, (hst.go kt6).go kz, (hc3.go kt6).go kz, kw6.go kz, kzc⟩ ⟨rfl, rfl, rfl, trivial⟩
      · refine w_alloc 45 (vs := [.slice none 0 0, .slice none 0 0, .slice none 0 0]) rfl rfl fun k7 kb ks7 kc7 => ?_
        have kt7 := kt1.go ks7
        have kw7 := kw1.go ks7
        have kr7 := kr1.go ks7
        repeat (first|refine q1 ?_|refine q2 ?_|refine q3 ?_|refine q4 ?_|refine q5 ?_|refine q6 ?_|refine w_seq ?_|refine w_region ?_|refine w_ops_nil ?_|refine w_skip ?_|refine w_block ?_|refine w_blk ?_|refine q7 ?_|refine q8 ?_|refine q9 ?_)
        refine d_next (fun _ => ⟨k7, rfl, kt7⟩) ?_
        refine d_exec1 2 (by kernel_rfl) rfl ?_
        refine w_callF rfl (ref09_put B1 (twoB 0) z2 k7 kw7 kr7 (by (try simp only [List.length_append, List.length_cons, List.length_nil, twoB_len, first4, bytes16, fixB_len]); omega)) rfl fun u k8 ks8 kR8 => ?_
        obtain ⟨kB8, kN8, kA8, rfl, kw8⟩ := kR8
        have kt8 := kt7.go ks8
        replace kc7 := kc7.go ks8
        repeat (first|refine q1 ?_|refine q2 ?_|refine q3 ?_|refine q4 ?_|refine q5 ?_|refine q6 ?_|refine w_seq ?_|refine w_region ?_|refine w_ops_nil ?_|refine w_skip ?_|refine w_block ?_|refine w_blk ?_|refine q7 ?_|refine q8 ?_|refine q9 ?_)
        refine d_next (fun _ => ⟨k8, rfl, kt8⟩) ?_
        refine d_exec1 5 (by kernel_rfl) rfl ?_
        refine w_callF rfl (ref08_Name r.target (B1 ++ twoB 0) z2 k8 kw8 hs.2 (by (try simp only [List.length_append, List.length_cons, List.length_nil, twoB_len, first4, bytes16, fixB_len]); omega) (by omega)) rfl fun u k9 ks9 kR9 => ?_
        obtain ⟨kB9, kN9, kA9, rfl, kw9⟩ := kR9
        rw [e2] at kw9; dsimp only at kw9
        have kt9 := kt8.go ks9
        replace kc7 := kc7.go ks9
        repeat (first|refine q1 ?_|refine q2 ?_|refine q3 ?_|refine q4 ?_|refine q5 ?_|refine q6 ?_|refine w_seq ?_|refine w_region ?_|refine w_ops_nil ?_|refine w_skip ?_|refine w_block ?_|refine w_blk ?_|refine q7 ?_|refine q8 ?_|refine q9 ?_)
        refine d_over (by kernel_rfl) ?_
        refine d_phase none [45] (by kernel_rfl) ?_
        refine d_pure 6 calm_ret rfl (by kernel_rfl) rfl rfl ?_; refine d_pure 7 calm_ret rfl (by kernel_rfl) rfl rfl ?_; refine d_pure 8 calm_ret rfl (by kernel_rfl) rfl rfl ?_
        refine d_exec1 10 (by kernel_rfl) rfl ?_
        refine w_store (us := [kB9, kN9, kA9]) (vs' := [kB9, kN9, kA9]) kc7 rfl rfl rfl rfl kw9.one (by simp) rfl fun kh kzb kz kzc => ?_
        repeat (first|refine q1 ?_|refine q2 ?_|refine q3 ?_|refine q4 ?_|refine q5 ?_|refine q6 ?_|refine w_seq ?_|refine w_region ?_|refine w_ops_nil ?_|refine w_skip ?_|refine w_block ?_|refine w_blk ?_|refine q7 ?_|refine q8 ?_|refine q9 ?_)
        refine d_next (fun _ => ⟨kh, rfl, kz⟩) ?_
        refine d_pure 11 calm_ret rfl (by kernel_rfl) rfl rfl ?_
        refine d_done (by kernel_rfl) ?_
        exact w_meet kb ⟨kh, kB9, kN9, kA9, rfl, (hst.go kt9).go kz, (hc3.go kt9).go kz, kw9.go kz, kzc⟩ ⟨rfl, rfl, rfl, trivial⟩
    · refine w_alloc 45 (vs := [.slice none 0 0, .slice none 0 0, .slice none 0 0]) rfl rfl fun k10 kb ks10 kc10 => ?_
      have kt10 := kt0.go ks10
      have kw10 := hw14.go ks10
      repeat (first|refine q1 ?_|refine q2 ?_|refine q3 ?_|refine q4 ?_|refine q5 ?_|refine q6 ?_|refine w_seq ?_|refine w_region ?_|refine w_ops_nil ?_|refine w_skip ?_|refine w_block ?_|refine w_blk ?_|refine q7 ?_|refine q8 ?_|refine q9 ?_)
      refine d_next (fun _ => ⟨k10, rfl, kt10⟩) ?_
      refine d_exec1 1 (by kernel_rfl) rfl ?_
      refine w_callF rfl (ref09_two 0 k10 (by omega)) rfl fun kv11 k11 ks11 kr11 => ?_
      have kt11 := kt10.go ks11
      have kw11 := kw10.go ks11
      replace kc10 := kc10.go ks11
      repeat (first|refine q1 ?_|refine q2 ?_|refine q3 ?_|refine q4 ?_|refine q5 ?_|refine q6 ?_|refine w_seq ?_|refine w_region ?_|refine w_ops_nil ?_|refine w_skip ?_|refine w_block ?_|refine w_blk ?_|refine q7 ?_|refine q8 ?_|refine q9 ?_)
      refine d_next (fun _ => ⟨k11, rfl, kt11⟩) ?_
      refine d_exec1 2 (by kernel_rfl) rfl ?_
      refine w_callF rfl (ref09_put B1 (twoB 0) z2 k11 kw11 kr11 (by (try simp only [List.length_append, List.length_cons, List.length_nil, twoB_len, first4, bytes16, fixB_len]); omega)) rfl fun u k12 ks12 kR12 => ?_
      obtain ⟨kB12, kN12, kA12, rfl, kw12⟩ := kR12
      have kt12 := kt11.go ks12
      replace kc10 := kc10.go ks12
      repeat (first|refine q1 ?_|refine q2 ?_|refine q3 ?_|refine q4 ?_|refine q5 ?_|refine q6 ?_|refine w_seq ?_|refine w_region ?_|refine w_ops_nil ?_|refine w_skip ?_|refine w_block ?_|refine w_blk ?_|refine q7 ?_|refine q8 ?_|refine q9 ?_)
      refine d_next (fun _ => ⟨k12, rfl, kt12⟩) ?_
      refine d_exec1 5 (by kernel_rfl) rfl ?_
      refine w_callF rfl (ref08_Name r.target (B1 ++ twoB 0) z2 k12 kw12 hs.2 (by (try simp only [List.length_append, List.length_cons, List.length_nil, twoB_len, first4, bytes16, fixB_len]); omega) (by omega)) rfl fun u k13 ks13 kR13 => ?_
      obtain ⟨kB13, kN13, kA13, rfl, kw13⟩ := kR13
      rw [e2] at kw13; dsimp only at kw13
      have kt13 := kt12.go ks13
      replace kc10 := kc10.go ks13
      repeat (first|refine q1 ?_|refine q2 ?_|refine q3 ?_|refine q4 ?_|refine q5 ?_|refine q6 ?_|refine w_seq ?_|refine w_region ?_|refine w_ops_nil ?_|refine w_skip ?_|refine w_block ?_|refine w_blk ?_|refine q7 ?_|refine q8 ?_|refine q9 ?_)
      refine d_over (by kernel_rfl) ?_
      refine d_phase none [45] (by kernel_rfl) ?_
      refine d_pure 6 calm_ret rfl (by kernel_rfl) rfl rfl ?_; refine d_pure 7 calm_ret rfl (by kernel_rfl) rfl rfl ?_; refine d_pure 8 calm_ret rfl (by kernel_rfl) rfl rfl ?_
      refine d_exec1 10 (by kernel_rfl) rfl ?_
      refine w_store (us := [kB13, kN13, kA13]) (vs' := [kB13, kN13, kA13]) kc10 rfl rfl rfl rfl kw13.one (by simp) rfl fun kh kzb kz kzc => ?_
      repeat (first|refine q1 ?_|refine q2 ?_|refine q3 ?_|refine q4 ?_|refine q5 ?_|refine q6 ?_|refine w_seq ?_|refine w_region ?_|refine w_ops_nil ?_|refine w_skip ?_|refine w_block ?_|refine w_blk ?_|refine q7 ?_|refine q8 ?_|refine q9 ?_)
      refine d_next (fun _ => ⟨kh, rfl, kz⟩) ?_
      refine d_pure 11 calm_ret rfl (by kernel_rfl) rfl rfl ?_
      refine d_done (by kernel_rfl) ?_
      exact w_meet kb ⟨kh, kB13, kN13, kA13, rfl, (hst.go kt13).go kz, (hc3.go kt13).go kz, kw13.go kz, kzc⟩ ⟨rfl, rfl, rfl, trivial⟩
  clear hw14 hc15 hc2 hc3 hst
  rintro kb _ ⟨h, vB6, vN6, vA6, rfl, hst, hc3, hw, hc⟩
  have hyl : (B1 ++ twoB 0 ++ y1).length = B1.length + 2 + y1.length := by simp only [List.length_append, twoB_len]
  repeat (first|refine q1 ?_|refine q2 ?_|refine q3 ?_|refine q4 ?_|refine q5 ?_|refine q6 ?_|refine w_seq ?_|refine w_region ?_|refine w_ops_nil ?_|refine w_skip ?_|refine w_block ?_|refine w_blk ?_|refine q7 ?_|refine q8 ?_|refine q9 ?_)
  refine w_fldA (by decide) rfl rfl ?_
  refine w_load1 (v := vB6) hc rfl rfl rfl rfl ?_
  refine w_lenSl hw.b.isSl rfl rfl ?_
  repeat (first|refine q1 ?_|refine q2 ?_|refine q3 ?_|refine q4 ?_|refine q5 ?_|refine q6 ?_|refine w_seq ?_|refine w_region ?_|refine w_ops_nil ?_|refine w_skip ?_|refine w_block ?_|refine w_blk ?_|refine q7 ?_|refine q8 ?_|refine q9 ?_)
  refine w_known 87 (.int .i64 (y1.length : Int)) rfl (congrArg (Value.int .i64) (by omega)) ?_
  refine w_callF rfl (ref09_two y1.length h (by omega)) rfl fun v7 h7 hs7 hr7 => ?_
  replace hw := hw.go hs7
  replace hst := hst.go hs7; replace hc3 := hc3.go hs7; replace hc := hc.go hs7
  repeat (first|refine q1 ?_|refine q2 ?_|refine q3 ?_|refine q4 ?_|refine q5 ?_|refine q6 ?_|refine w_seq ?_|refine w_region ?_|refine w_ops_nil ?_|refine w_skip ?_|refine w_blk ?_|refine q7 ?_|refine q8 ?_|refine q9 ?_)
  refine d_begin (some 7) [] (by kernel_rfl) fun g4 hsd => ?_
  replace hw := hw.go hsd
  replace hst := hst.go hsd; replace hc3 := hc3.go hsd; replace hc := hc.go hsd; replace hr7 := hr7.go hsd
  refine d_read 0 calm_ret rfl (by kernel_rfl) rfl  (fun h hs => r_fldA (by decide) rfl) ?_
  refine d_read 1 calm_ret rfl (by kernel_rfl) rfl  (fun h hs => r_load1 (v := vB6) (hc.go hs) rfl rfl rfl) ?_
  refine d_pure 2 calm_ret rfl (by kernel_rfl) rfl rfl ?_; refine d_pure 3 calm_ret rfl (by kernel_rfl) rfl rfl ?_
  refine d_read 4 calm_ret rfl (by kernel_rfl) rfl  (fun h hs => r_idx (hr7.go hs) rfl rfl (by omega) (by rw [twoB_len]; decide)) ?_
  refine d_read 5 calm_ret rfl (by kernel_rfl) rfl  (fun h hs => r_loadE (i := 0) (y := UInt8.ofNat ((y1.length : Int) / 256).toNat) (hr7.go hs) rfl rfl rfl) ?_
  refine d_read 6 calm_ret rfl (by kernel_rfl) rfl  (fun h hs => r_idx (hw.b.rd.go hs) rfl rfl (by omega) (by omega)) ?_
  refine d_exec1 7 (by kernel_rfl) rfl ?_
  refine w_storeE (i := B1.length) (y := UInt8.ofNat ((y1.length : Int) / 256).toNat) hw.b rfl rfl (by omega) fun h8 hs8 ho8 => ?_
  have hn8 := hw.n.go hs8
  have ha8 := hw.a.go hs8
  replace hst := hst.go hs8; replace hc3 := hc3.go hs8; replace hc := hc.go hs8; replace hr7 := hr7.go hs8
  repeat (first|refine q1 ?_|refine q2 ?_|refine q3 ?_|refine q4 ?_|refine q5 ?_|refine q6 ?_|refine w_seq ?_|refine w_region ?_|refine w_ops_nil ?_|refine w_skip ?_|refine w_block ?_|refine w_blk ?_|refine q7 ?_|refine q8 ?_|refine q9 ?_)
  refine d_over (by kernel_rfl) ?_
  refine d_done (by kernel_rfl) ?_
  repeat (first|refine q1 ?_|refine q2 ?_|refine q3 ?_|refine q4 ?_|refine q5 ?_|refine q6 ?_|refine w_seq ?_|refine w_region ?_|refine w_ops_nil ?_|refine w_skip ?_|refine w_blk ?_|refine q7 ?_|refine q8 ?_|refine q9 ?_)
  refine d_begin (some 8) [] (by kernel_rfl) fun g5 hsd2 => ?_
  replace hst := hst.go hsd2; replace hc3 := hc3.go hsd2; replace hc := hc.go hsd2; replace hr7 := hr7.go hsd2; replace ho8 := ho8.go hsd2; replace hn8 := hn8.go hsd2; replace ha8 := ha8.go hsd2
  refine d_read 0 calm_ret rfl (by kernel_rfl) rfl  (fun h hs => r_fldA (by decide) rfl) ?_
  refine d_read 1 calm_ret rfl (by kernel_rfl) rfl  (fun h hs => r_load1 (v := vB6) (hc.go hs) rfl rfl rfl) ?_
  refine d_pure 2 calm_ret rfl (by kernel_rfl) rfl rfl ?_
  refine d_read 3 calm_ret rfl (by kernel_rfl) rfl  (fun h hs => r_add rfl rfl (by omega)) ?_
  refine d_pure 4 calm_ret rfl (by kernel_rfl) rfl rfl ?_
  refine d_read 5 calm_ret rfl (by kernel_rfl) rfl  (fun h hs => r_idx (hr7.go hs) rfl rfl (by omega) (by rw [twoB_len]; decide)) ?_
  refine d_read 6 calm_ret rfl (by kernel_rfl) rfl  (fun h hs => r_loadE (i := 1) (y := UInt8.ofNat ((y1.length : Int) % 256).toNat) (hr7.go hs) rfl rfl rfl) ?_
  refine d_read 7 calm_ret rfl (by kernel_rfl) rfl  (fun h hs => r_idx (ho8.rd.go hs) rfl rfl (by omega) (by rw [List.length_set]; omega)) ?_
  refine d_exec1 8 (by kernel_rfl) rfl ?_
  refine w_storeE (i := B1.length + 1) (y := UInt8.ofNat ((y1.length : Int) % 256).toNat) ho8 rfl rfl (by rw [List.length_set]; omega) fun h9 hs9 ho9 => ?_
  replace hst := hst.go hs9; replace hc3 := hc3.go hs9; replace hc := hc.go hs9; replace hn8 := hn8.go hs9; replace ha8 := ha8.go hs9
  repeat (first|refine q1 ?_|refine q2 ?_|refine q3 ?_|refine q4 ?_|refine q5 ?_|refine q6 ?_|refine w_seq ?_|refine w_region ?_|refine w_ops_nil ?_|refine w_skip ?_|refine w_block ?_|refine w_blk ?_|refine q7 ?_|refine q8 ?_|refine q9 ?_)
  refine d_over (by kernel_rfl) ?_
  refine d_done (by kernel_rfl) ?_
  have hset : ((B1 ++ twoB 0 ++ y1).set B1.length (UInt8.ofNat ((y1.length : Int) / 256).toNat)).set (B1.length + 1) (UInt8.ofNat ((y1.length : Int) % 256).toNat) = B1 ++ twoB y1.length ++ y1 := by
    simp [twoB, List.set_append]
  rw [hset] at ho9
  have hwf : RW h9 vB6 vN6 vA6 (B1 ++ twoB y1.length ++ y1) y2 := ⟨ho9, hn8, ha8, hw.s⟩
  repeat (first|refine q1 ?_|refine q2 ?_|refine q3 ?_|refine q4 ?_|refine q5 ?_|refine q6 ?_|refine w_seq ?_|refine w_region ?_|refine w_ops_nil ?_|refine w_skip ?_|refine w_block ?_|refine w_blk ?_|refine q7 ?_|refine q8 ?_|refine q9 ?_)
  refine w_loadS (us := [vB6, vN6, vA6]) hc rfl rfl rfl rfl rfl ?_
  refine w_store (us := [vB6, vN6, vA6]) (vs' := [vB6, vN6, vA6]) hc3 rfl rfl rfl rfl hwf.one (by simp) rfl fun h10 hb10 hs10 hc10 => ?_
  repeat (first|refine q1 ?_|refine q2 ?_|refine q3 ?_|refine q4 ?_|refine q5 ?_|refine q6 ?_|refine w_seq ?_|refine w_region ?_|refine w_ops_nil ?_|refine w_skip ?_|refine w_block ?_|refine w_blk ?_|refine q7 ?_|refine q8 ?_|refine q9 ?_)
  refine w_retG (resCs hc10 rfl rfl rfl rfl) (hst.go hs10) fun h' hv' => ⟨vB6, vN6, vA6, rfl, ?_⟩
  rw [hrec]
  have := (hwf.go hs10).view hv' (by simp) (by simp) (by simp)
  rw [← hB1] at this
  rw [← hB1] at hy
  simp only [hy]
  simpa [List.append_assoc] using this
end Go.Proofs.Ytnfokdhgajanpaa
