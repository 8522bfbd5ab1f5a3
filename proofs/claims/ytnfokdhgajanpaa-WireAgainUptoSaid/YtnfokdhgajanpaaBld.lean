/- strings.Builder and strings.Join. No statement of the seat is proved here. -/
import Derived.Test.YtnfokdhgajanpaaEng8
import Derived.Test.YtnfokdhgajanpaaTxt
set_option linter.unusedVariables false
namespace Go.Proofs.Ytnfokdhgajanpaa
open Go
attribute [local irreducible] Wp

instance : Ext Try.prog 113 Extern.AbiNoEscape.same := ⟨run_callFunc_extern Try.func113 (by kernel_rfl) (by kernel_rfl) (by kernel_rfl) (by kernel_rfl)⟩
instance : Ext Try.prog 114 (Extern.BytealgMakeNoZero.makeNoZero #[3] #[23]) := ⟨run_callFunc_extern Try.func114 (by kernel_rfl) (by kernel_rfl) (by kernel_rfl) (by kernel_rfl)⟩

theorem Builder_copyCheck (b : Nat) (p : Option Addr) (vb : Value) (g : G) (hc : Cell g 31 b 123 [.pointer p, vb]) (hp : p = none ∨ p = some ⟨b, 0, none⟩) :
    Fn Try.prog 99 [.pointer (some ⟨b, 0, none⟩)] g [31] fun _ h => Cell h 31 b 123 [.pointer (some ⟨b, 0, none⟩), vb] := by
  refine enterG [31] [] Try.func99 rfl Try.ntmps99 rfl (by simp) fun g1 hv ho => ?_
  replace hc := hc.view hv (.inr (by simp))
  repeat (first|refine q1 ?_|refine q2 ?_|refine q3 ?_|refine q4 ?_|refine q5 ?_|refine q6 ?_|refine w_seq ?_|refine w_region ?_|refine w_ops_nil ?_|refine w_skip ?_|refine w_block ?_|refine w_blk ?_|refine q7 ?_|refine q8 ?_|refine q9 ?_)
  refine w_fldA (by decide) rfl rfl ?_
  refine w_load1 hc rfl rfl rfl rfl ?_
  refine w_ptrEqNil rfl rfl rfl ?_
  rcases hp with rfl | rfl
  · repeat (first|refine q1 ?_|refine q2 ?_|refine q3 ?_|refine q4 ?_|refine q5 ?_|refine q6 ?_|refine w_seq ?_|refine w_region ?_|refine w_ops_nil ?_|refine w_skip ?_|refine w_block ?_|refine w_blk ?_|refine q7 ?_|refine q8 ?_|refine q9 ?_)
    refine w_toUnsafe hc rfl (by simp) rfl rfl ?_
    refine w_ext (h := g1) rfl (Lib.run_noEscape g1.w _) rfl ?_
    refine w_fromUnsafe hc (by kernel_rfl) rfl rfl ?_
    repeat (first|refine q1 ?_|refine q2 ?_|refine q3 ?_|refine q4 ?_|refine q5 ?_|refine q6 ?_|refine w_seq ?_|refine w_region ?_|refine w_ops_nil ?_|refine w_skip ?_|refine w_block ?_|refine w_blk ?_|refine q7 ?_|refine q8 ?_|refine q9 ?_)
    refine w_fldA (by decide) rfl rfl ?_
    refine w_store1 hc rfl rfl rfl (by simp) fun h1 hb1 hs1 hc1 => ?_
    repeat (first|refine q1 ?_|refine q2 ?_|refine q3 ?_|refine q4 ?_|refine q5 ?_|refine q6 ?_|refine w_seq ?_|refine w_region ?_|refine w_ops_nil ?_|refine w_skip ?_|refine w_block ?_|refine w_blk ?_|refine q7 ?_|refine q8 ?_|refine q9 ?_)
    exact w_endG (res0 rfl) (hs1.mono (by simp) (by simp)) fun h' hv' => hc1.view hv' (.inr (by simp))
  · repeat (first|refine q1 ?_|refine q2 ?_|refine q3 ?_|refine q4 ?_|refine q5 ?_|refine q6 ?_|refine w_seq ?_|refine w_region ?_|refine w_ops_nil ?_|refine w_skip ?_|refine w_block ?_|refine w_blk ?_|refine q7 ?_|refine q8 ?_|refine q9 ?_)
    refine w_condF rfl ?_
    repeat (first|refine q1 ?_|refine q2 ?_|refine q3 ?_|refine q4 ?_|refine q5 ?_|refine q6 ?_|refine w_seq ?_|refine w_region ?_|refine w_ops_nil ?_|refine w_skip ?_|refine w_block ?_|refine w_blk ?_|refine q7 ?_|refine q8 ?_|refine q9 ?_)
    refine w_fldA (by decide) rfl rfl ?_
    refine w_load1 hc rfl rfl rfl rfl ?_
    repeat (first|refine q1 ?_|refine q2 ?_|refine q3 ?_|refine q4 ?_|refine q5 ?_|refine q6 ?_|refine w_seq ?_|refine w_region ?_|refine w_ops_nil ?_|refine w_skip ?_|refine w_block ?_|refine w_blk ?_|refine q7 ?_|refine q8 ?_|refine q9 ?_)
    refine w_ptrNeSame rfl rfl rfl ?_
    repeat (first|refine q1 ?_|refine q2 ?_|refine q3 ?_|refine q4 ?_|refine q5 ?_|refine q6 ?_|refine w_seq ?_|refine w_region ?_|refine w_ops_nil ?_|refine w_skip ?_|refine w_block ?_|refine w_blk ?_|refine q7 ?_|refine q8 ?_|refine q9 ?_)
    exact w_endG (res0 rfl) (Step.refl _ _ _) fun h' hv' => hc.view hv' (.inr (by simp))

theorem Builder_grow (b n : Nat) (p : Value) (g : G) (hc : Cell g 31 b 123 [p, .slice none 0 0]) (hn : n ≤ 281474976710656) :
    Fn Try.prog 100 [.pointer (some ⟨b, 0, none⟩), .int .i64 (n : Int)] g [31, 32] fun _ h => ∃ q cap, Cell h 31 b 123 [p, .slice (some ⟨q, 0, none⟩) 0 cap] ∧ n ≤ cap ∧ Own h 32 El.u8 5 (.slice (some ⟨q, 0, none⟩) 0 cap) [] := by
  refine enterG [31, 32] [] Try.func100 rfl Try.ntmps100 rfl (by simp) fun g1 hv ho => ?_
  replace hc := hc.view hv (.inr (by simp))
  refine w_seq ?_
  refine d_begin none [] (by kernel_rfl) fun g2 hs2 => ?_
  replace hc := hc.go hs2
  refine d_pure 0 calm_ret rfl (by kernel_rfl) rfl rfl ?_; refine d_pure 1 calm_ret rfl (by kernel_rfl) rfl rfl ?_
  refine d_read 2 calm_ret rfl (by kernel_rfl) rfl  (fun h hs => r_fldA (by decide) rfl) ?_
  refine d_read 3 calm_ret rfl (by kernel_rfl) rfl  (fun h hs => r_load1 (hc.go hs) rfl rfl rfl) ?_
  refine d_read 4 calm_ret rfl (by kernel_rfl) rfl  (fun h hs => r_capSl rfl) ?_
  refine d_read 5 calm_ret rfl (by kernel_rfl) rfl  (fun h hs => r_mul rfl rfl (by omega)) ?_
  refine d_pure 6 calm_ret rfl (by kernel_rfl) rfl rfl ?_
  refine d_read 7 calm_ret rfl (by kernel_rfl) rfl  (fun h hs => r_add rfl rfl (by omega)) ?_
  refine d_known 12 (.int .i64 (n : Int)) rfl (congrArg (Value.int .i64) (by omega)) ?_
  refine d_pure 9 calm_ret rfl (by kernel_rfl) rfl rfl ?_; refine d_pure 10 calm_ret rfl (by kernel_rfl) rfl rfl ?_
  refine d_read 11 calm_ret rfl (by kernel_rfl) rfl  (fun h hs => r_fldA (by decide) rfl) ?_
  refine d_read 12 calm_ret rfl (by kernel_rfl) rfl  (fun h hs => r_load1 (hc.go hs) rfl rfl rfl) ?_
  refine d_read 13 calm_ret rfl (by kernel_rfl) rfl  (fun h hs => r_lenSl ⟨none, 0, rfl, by decide, by decide⟩ rfl) ?_
  refine d_exec1 8 (by kernel_rfl) rfl ?_
  obtain ⟨cs, hrun, hle, hmax⟩ := Lib.run_makeNoZero (P := Try.prog) g2.w #[3] 23 5 (Und.eq) n hn
  let g3 : G := ⟨g2.w.drew.drew, g2.col⟩
  have hs3 : Step [] [] g2 g3 := ⟨rfl, rfl, rfl, (show g2.w.drawn ≤ g2.w.drawn + 1 + 1 by omega), Nat.le_refl _, fun _ _ _ _ => ⟨rfl, rfl⟩⟩
  refine w_ext (h := g3.new (.cells cs 5) 32) rfl hrun rfl ?_
  have hs4 := Step.new g3 (.cells cs 5) 32
  have hcs := hmax (by simp only [maxLen]; omega)
  have hown : Own (g3.new (.cells cs 5) 32) 32 El.u8 5 (.slice (some ⟨g2.w.heap.size, 0, none⟩) 0 cs.size) [] :=
    ⟨World.ownsRow_made g3.w cs cs.size (Nat.zero_le _) hcs (by simp [El.u8]), fun q hq => by simp [Value.ownBlock] at hq; subst hq; exact if_pos rfl⟩
  have hcc := (hc.go hs3).go hs4
  have hst := (hs2.go hs3).go hs4
  generalize hh : g3.new (.cells cs 5) 32 = h4 at *
  repeat (first|refine q1 ?_|refine q2 ?_|refine q3 ?_|refine q4 ?_|refine q5 ?_|refine q6 ?_|refine w_seq ?_|refine w_region ?_|refine w_ops_nil ?_|refine w_skip ?_|refine w_block ?_|refine w_blk ?_|refine q7 ?_|refine q8 ?_|refine q9 ?_)
  refine d_next (fun _ => ⟨h4, rfl, hs3.go hs4⟩) ?_
  refine d_read 14 calm_ret rfl (by kernel_rfl) rfl  (fun h hs => r_slTo (b := 0) rfl rfl (by omega)) ?_
  refine d_pure 15 calm_ret rfl (by kernel_rfl) rfl rfl ?_
  refine d_done (by kernel_rfl) ?_
  repeat (first|refine q1 ?_|refine q2 ?_|refine q3 ?_|refine q4 ?_|refine q5 ?_|refine q6 ?_|refine w_seq ?_|refine w_region ?_|refine w_ops_nil ?_|refine w_skip ?_|refine w_block ?_|refine w_blk ?_|refine q7 ?_|refine q8 ?_|refine q9 ?_)
  refine w_fldA (by decide) rfl rfl ?_
  refine w_load1 hcc rfl rfl rfl rfl ?_
  refine w_copyNone rfl rfl rfl rfl ?_
  repeat (first|refine q1 ?_|refine q2 ?_|refine q3 ?_|refine q4 ?_|refine q5 ?_|refine q6 ?_|refine w_seq ?_|refine w_region ?_|refine w_ops_nil ?_|refine w_skip ?_|refine w_block ?_|refine w_blk ?_|refine q7 ?_|refine q8 ?_|refine q9 ?_)
  refine w_fldA (by decide) rfl rfl ?_
  refine w_store1 hcc rfl rfl rfl (by simp) fun h5 hb5 hs5 hc5 => ?_
  repeat (first|refine q1 ?_|refine q2 ?_|refine q3 ?_|refine q4 ?_|refine q5 ?_|refine q6 ?_|refine w_seq ?_|refine w_region ?_|refine w_ops_nil ?_|refine w_skip ?_|refine w_block ?_|refine w_blk ?_|refine q7 ?_|refine q8 ?_|refine q9 ?_)
  refine w_endG (res0 rfl) ((hst.mono (by simp) (by simp)).go hs5) fun h' hv' => ?_
  refine ⟨g2.w.heap.size, cs.size, hc5.view hv' (.inr (by simp)), hle, (hown.go hs5).view hv' (.inr (by simp))⟩

theorem Builder_Grow (b n : Nat) (p : Option Addr) (g : G) (hc : Cell g 31 b 123 [.pointer p, .slice none 0 0]) (hp : p = none ∨ p = some ⟨b, 0, none⟩) (h0 : 0 < n) (hn : n ≤ 281474976710656) :
    Fn Try.prog 81 [.pointer (some ⟨b, 0, none⟩), .int .i64 (n : Int)] g [31, 32] fun _ h => ∃ vb, Cell h 31 b 123 [.pointer (some ⟨b, 0, none⟩), vb] ∧ Own h 32 El.u8 5 vb [] := by
  refine enterG [31, 32] [] Try.func81 rfl Try.ntmps81 rfl (by simp) fun g1 hv ho => ?_
  replace hc := hc.view hv (.inr (by simp))
  repeat (first|refine q1 ?_|refine q2 ?_|refine q3 ?_|refine q4 ?_|refine q5 ?_|refine q6 ?_|refine w_seq ?_|refine w_region ?_|refine w_ops_nil ?_|refine w_skip ?_|refine w_block ?_|refine w_blk ?_|refine q7 ?_|refine q8 ?_|refine q9 ?_)
  refine w_callF rfl (Builder_copyCheck b p _ g1 hc hp) rfl fun _ h1 hs1 hc1 => ?_
  repeat (first|refine q1 ?_|refine q2 ?_|refine q3 ?_|refine q4 ?_|refine o5 ?_|refine o6 ?_|refine w_seq ?_|refine w_region ?_|refine w_ops_nil ?_|refine w_skip ?_|refine w_block ?_|refine w_blk ?_|refine q7 ?_|refine o8 ?_|refine o9 ?_)
  refine d_begin none [] (by kernel_rfl) fun g2 hs2 => ?_
  replace hc1 := hc1.go hs2
  refine d_pure 0 calm_ret rfl (by kernel_rfl) rfl rfl ?_; refine d_pure 1 calm_ret rfl (by kernel_rfl) rfl rfl ?_
  refine d_read 2 calm_ret rfl (by kernel_rfl) rfl  (fun h hs => r_fldA (by decide) rfl) ?_
  refine d_read 3 calm_ret rfl (by kernel_rfl) rfl  (fun h hs => r_load1 (hc1.go hs) rfl rfl rfl) ?_
  refine d_read 4 calm_ret rfl (by kernel_rfl) rfl  (fun h hs => r_capSl rfl) ?_
  refine d_pure 5 calm_ret rfl (by kernel_rfl) rfl rfl ?_; refine d_pure 6 calm_ret rfl (by kernel_rfl) rfl rfl ?_
  refine d_read 7 calm_ret rfl (by kernel_rfl) rfl  (fun h hs => r_fldA (by decide) rfl) ?_
  refine d_read 8 calm_ret rfl (by kernel_rfl) rfl  (fun h hs => r_load1 (hc1.go hs) rfl rfl rfl) ?_
  refine d_read 9 calm_ret rfl (by kernel_rfl) rfl  (fun h hs => r_lenSl ⟨none, 0, rfl, by decide, by decide⟩ rfl) ?_
  refine d_read 10 calm_ret rfl (by kernel_rfl) rfl  (fun h hs => r_sub rfl rfl (by omega)) ?_
  refine d_pure 11 calm_ret rfl (by kernel_rfl) rfl rfl ?_; refine d_pure 12 calm_ret rfl (by kernel_rfl) rfl rfl ?_
  refine d_done (by kernel_rfl) ?_
  repeat (first|refine q1 ?_|refine q2 ?_|refine q3 ?_|refine q4 ?_|refine o5 ?_|refine o6 ?_|refine w_seq ?_|refine w_region ?_|refine w_ops_nil ?_|refine w_skip ?_|refine w_block ?_|refine w_blk ?_|refine q7 ?_|refine o8 ?_|refine o9 ?_)
  refine w_callF rfl (Builder_grow b n _ g2 hc1 hn) rfl fun _ h3 hs3 hR => ?_
  obtain ⟨q, cap, hc3, _, ho3⟩ := hR
  repeat (first|refine q1 ?_|refine q2 ?_|refine q3 ?_|refine q4 ?_|refine q5 ?_|refine q6 ?_|refine w_seq ?_|refine w_region ?_|refine w_ops_nil ?_|refine w_skip ?_|refine w_block ?_|refine w_blk ?_|refine q7 ?_|refine q8 ?_|refine q9 ?_)
  exact w_endG (res0 rfl) (((hs1.mono (by simp) (by simp)).go hs2).go hs3) fun h' hv' => ⟨_, hc3.view hv' (.inr (by simp)), ho3.view hv' (.inr (by simp))⟩

theorem Builder_WriteString (b : Nat) (l s : List UInt8) (vb : Value) (g : G) (hc : Cell g 31 b 123 [.pointer (some ⟨b, 0, none⟩), vb]) (ho' : Own g 32 El.u8 5 vb l) (hn : l.length + s.length ≤ 140737488355328) :
    Fn Try.prog 82 [.pointer (some ⟨b, 0, none⟩), str s] g [31, 32] fun _ h => ∃ vb, Cell h 31 b 123 [.pointer (some ⟨b, 0, none⟩), vb] ∧ Own h 32 El.u8 5 vb (l ++ s) := by
  refine enterG [31, 32] [] Try.func82 rfl Try.ntmps82 rfl (by simp) fun g1 hv ho => ?_
  replace hc := hc.view hv (.inr (by simp))
  replace ho' := ho'.view hv (.inr (by simp))
  repeat (first|refine q1 ?_|refine q2 ?_|refine q3 ?_|refine q4 ?_|refine q5 ?_|refine q6 ?_|refine w_seq ?_|refine w_region ?_|refine w_ops_nil ?_|refine w_skip ?_|refine w_block ?_|refine w_blk ?_|refine q7 ?_|refine q8 ?_|refine q9 ?_)
  refine w_callF rfl (Builder_copyCheck b _ _ g1 hc (.inr rfl)) rfl fun _ h1 hs1 hc1 => ?_
  replace ho' := ho'.go hs1
  repeat (first|refine q1 ?_|refine q2 ?_|refine q3 ?_|refine q4 ?_|refine q5 ?_|refine q6 ?_|refine w_seq ?_|refine w_region ?_|refine w_ops_nil ?_|refine w_skip ?_|refine w_block ?_|refine w_blk ?_|refine q7 ?_|refine q8 ?_|refine q9 ?_)
  refine w_fldA (by decide) rfl rfl ?_
  refine w_load1 hc1 rfl rfl rfl rfl ?_
  repeat (first|refine q1 ?_|refine q2 ?_|refine q3 ?_|refine q4 ?_|refine q5 ?_|refine q6 ?_|refine w_seq ?_|refine w_region ?_|refine w_ops_nil ?_|refine w_skip ?_|refine w_block ?_|refine w_blk ?_|refine q7 ?_|refine q8 ?_|refine q9 ?_)
  refine w_appendStr ho' rfl rfl hn rfl fun h2 v2 hs2 ho2 => ?_
  replace hc1 := hc1.go hs2
  repeat (first|refine q1 ?_|refine q2 ?_|refine q3 ?_|refine q4 ?_|refine q5 ?_|refine q6 ?_|refine w_seq ?_|refine w_region ?_|refine w_ops_nil ?_|refine w_skip ?_|refine w_block ?_|refine w_blk ?_|refine q7 ?_|refine q8 ?_|refine q9 ?_)
  refine w_fldA (by decide) rfl rfl ?_
  refine w_store1 hc1 rfl rfl ho2.isSl.one (by simp) fun h3 hb3 hs3 hc3 => ?_
  repeat (first|refine q1 ?_|refine q2 ?_|refine q3 ?_|refine q4 ?_|refine q5 ?_|refine q6 ?_|refine w_seq ?_|refine w_region ?_|refine w_ops_nil ?_|refine w_skip ?_|refine w_block ?_|refine w_blk ?_|refine q7 ?_|refine q8 ?_|refine q9 ?_)
  exact w_retG (res2 rfl rfl rfl) (((hs1.mono (by simp) (by simp)).go hs2).go hs3) fun h' hv' => ⟨_, hc3.view hv' (.inr (by simp)), (ho2.go hs3).view hv' (.inr (by simp))⟩

theorem Builder_String (b : Nat) (l : List UInt8) (p vb : Value) (g : G) (hc : Cell g 31 b 123 [p, vb]) (ho' : Own g 32 El.u8 5 vb l) (h0 : l ≠ []) :
    Fn Try.prog 83 [.pointer (some ⟨b, 0, none⟩)] g [31, 32] fun u _ => u = str l := by
  refine enterG [31, 32] [] Try.func83 rfl Try.ntmps83 rfl (by simp) fun g1 hv ho => ?_
  replace hc := hc.view hv (.inr (by simp))
  replace ho' := ho'.view hv (.inr (by simp))
  have hpos := List.length_pos_iff.2 h0
  obtain ⟨q, cap, rfl, _, _⟩ := ho'.1.form hpos
  have hcap : l.length ≤ cap := by
    obtain ⟨A, c, he, h1, _⟩ := ho'.len
    injection he with _ _ he; omega
  repeat (first|refine q1 ?_|refine q2 ?_|refine q3 ?_|refine q4 ?_|refine q5 ?_|refine q6 ?_|refine w_seq ?_|refine w_region ?_|refine w_ops_nil ?_|refine w_skip ?_|refine w_block ?_|refine w_blk ?_|refine q7 ?_|refine q8 ?_|refine q9 ?_)
  refine d_begin (some 10) [] (by kernel_rfl) fun g2 hs2 => ?_
  replace hc := hc.go hs2; replace ho' := ho'.go hs2
  refine d_pure 0 calm_ret rfl (by kernel_rfl) rfl rfl ?_; refine d_pure 1 calm_ret rfl (by kernel_rfl) rfl rfl ?_
  refine d_read 2 calm_ret rfl (by kernel_rfl) rfl  (fun h hs => r_fldA (by decide) rfl) ?_
  refine d_read 3 calm_ret rfl (by kernel_rfl) rfl  (fun h hs => r_load1 (hc.go hs) rfl rfl rfl) ?_
  refine d_read 4 calm_ret rfl (by kernel_rfl) rfl  (fun h hs => r_unsafeData rfl (by omega)) ?_
  refine d_pure 5 calm_ret rfl (by kernel_rfl) rfl rfl ?_; refine d_pure 6 calm_ret rfl (by kernel_rfl) rfl rfl ?_
  refine d_read 7 calm_ret rfl (by kernel_rfl) rfl  (fun h hs => r_fldA (by decide) rfl) ?_
  refine d_read 8 calm_ret rfl (by kernel_rfl) rfl  (fun h hs => r_load1 (hc.go hs) rfl rfl rfl) ?_
  refine d_read 9 calm_ret rfl (by kernel_rfl) rfl  (fun h hs => r_lenSl ho'.isSl rfl) ?_
  refine d_exec1 10 (by kernel_rfl) rfl ?_
  refine w_strOf (by kernel_rfl) ho' h0 rfl rfl rfl fun h3 hs3 => ?_
  repeat (first|refine q1 ?_|refine q2 ?_|refine q3 ?_|refine q4 ?_|refine q5 ?_|refine q6 ?_|refine w_seq ?_|refine w_region ?_|refine w_ops_nil ?_|refine w_skip ?_|refine w_block ?_|refine w_blk ?_|refine q7 ?_|refine q8 ?_|refine q9 ?_)
  refine d_over (by kernel_rfl) ?_
  refine d_phase none [] (by kernel_rfl) ?_
  refine d_pure 11 calm_ret rfl (by kernel_rfl) rfl rfl ?_
  refine d_done (by kernel_rfl) ?_
  repeat (first|refine q1 ?_|refine q2 ?_|refine q3 ?_|refine q4 ?_|refine q5 ?_|refine q6 ?_|refine w_seq ?_|refine w_region ?_|refine w_ops_nil ?_|refine w_skip ?_|refine w_block ?_|refine w_blk ?_|refine q7 ?_|refine q8 ?_|refine q9 ?_)
  exact w_retG (res1 rfl rfl) ((hs2.mono (by simp) (by simp)).go hs3) fun h' hv' => rfl
end Go.Proofs.Ytnfokdhgajanpaa
