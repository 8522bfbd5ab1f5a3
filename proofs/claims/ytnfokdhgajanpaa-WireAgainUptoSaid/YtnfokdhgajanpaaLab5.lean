/- Names of hosts: the program's writer. No statement of the seat is proved here. -/
import Derived.Test.YtnfokdhgajanpaaLab4
set_option linter.unusedVariables false
namespace Go.Proofs.Ytnfokdhgajanpaa
open Go
attribute [local irreducible] Wp

def El.nat : El Nat := ⟨1, false, fun n => [.int .i64 (n : Int)], fun _ => rfl, fun _ => rfl, by decide, by intro x u hu; simp at hu; subst hu; rfl⟩
def MapO (g : G) (c : Nat) (r : Option Nat) (m : WM) : Prop := (r = none ∧ m = []) ∨ ∃ q, r = some q ∧ MapIs g c q El.str El.nat m
theorem MapO.go {g h : G} {c : Nat} {r : Option Nat} {m : WM} {M : List Nat} (hm : MapO g c r m) (hs : Step [] M g h) (h1 : c ∉ M := by simp) : MapO h c r m := hm.imp id fun ⟨q, e, hq⟩ => ⟨q, e, hq.step hs h1 (by simp)⟩
theorem MapO.view {g h : G} {c : Nat} {r : Option Nat} {m : WM} {M : List Nat} (hm : MapO g c r m) (hs : View M g h) (h1 : c ∈ M := by simp) : MapO h c r m := hm.imp id fun ⟨q, e, hq⟩ => ⟨q, e, hq.view hs (.inr h1)⟩
/-- The program's writer in memory, with its map r. -/
structure WrR (g : G) (b : Nat) (r : Option Nat) (B : List UInt8) (m : WM) : Prop where
  ex : ∃ vB, Cell g 21 b 26 [vB, .map r] ∧ Own g 22 El.u8 5 vB B ∧ MapO g 23 r m
  s : ∀ p ∈ m, p.2 < 16384
theorem WrR.go {g h : G} {b : Nat} {r : Option Nat} {B : List UInt8} {m : WM} {M : List Nat} (hw : WrR g b r B m) (hs : Step [] M g h) (h1 : 21 ∉ M := by simp) (h2 : 22 ∉ M := by simp) (h3 : 23 ∉ M := by simp) : WrR h b r B m := by
  obtain ⟨vB, hc, ho, hm⟩ := hw.ex
  exact ⟨⟨vB, hc.step hs h1 (by simp), ho.step hs h2, hm.go hs h3⟩, hw.s⟩
theorem WrR.view {g h : G} {b : Nat} {r : Option Nat} {B : List UInt8} {m : WM} {M : List Nat} (hw : WrR g b r B m) (hs : View M g h) (h1 : 21 ∈ M := by simp) (h2 : 22 ∈ M := by simp) (h3 : 23 ∈ M := by simp) : WrR h b r B m := by
  obtain ⟨vB, hc, ho, hm⟩ := hw.ex
  exact ⟨⟨vB, hc.view hs (.inr h1), ho.view hs (.inr h2), hm.view hs h3⟩, hw.s⟩
def Wr (g : G) (b : Nat) (B : List UInt8) (m : WM) : Prop := ∃ r, WrR g b r B m
theorem Wr.go {g h : G} {b : Nat} {B : List UInt8} {m : WM} {M : List Nat} (hw : Wr g b B m) (hs : Step [] M g h) (h1 : 21 ∉ M := by simp) (h2 : 22 ∉ M := by simp) (h3 : 23 ∉ M := by simp) : Wr h b B m := hw.imp fun r h => h.go hs h1 h2 h3
theorem Wr.view {g h : G} {b : Nat} {B : List UInt8} {m : WM} {M : List Nat} (hw : Wr g b B m) (hs : View M g h) (h1 : 21 ∈ M := by simp) (h2 : 22 ∈ M := by simp) (h3 : 23 ∈ M := by simp) : Wr h b B m := hw.imp fun r h => h.view hs h1 h2 h3

theorem Writer_RawR (b : Nat) (r : Option Nat) (B : List UInt8) (m : WM) (x : List UInt8) (g : G) {c : Nat} {v : Value} (hw : WrR g b r B m) (hr : Rd g c El.u8 v x) (hB : B.length + x.length ≤ 100000000) (hcc : c ∉ [21, 22, 23] := by simp) :
    Fn Try.prog 15 [.pointer (some ⟨b, 0, none⟩), v] g [21, 22, 23] fun _ h => WrR h b r (B ++ x) m := by
  refine enterG [21, 22, 23] [] Try.func15 rfl Try.ntmps15 rfl (by simp) fun g1 hv ho => ?_
  obtain ⟨⟨vB, hc, ho', hm⟩, hsm⟩ := hw.view hv
  obtain ⟨c', hc', hr1⟩ := hr.seen hv ho hcc
  repeat (first|refine q1 ?_|refine q2 ?_|refine q3 ?_|refine q4 ?_|refine q5 ?_|refine q6 ?_|refine w_seq ?_|refine w_region ?_|refine w_ops_nil ?_|refine w_skip ?_|refine w_block ?_|refine w_blk ?_|refine q7 ?_|refine q8 ?_|refine q9 ?_)
  refine w_fldA (by decide) rfl rfl ?_
  refine w_load1 hc rfl rfl rfl rfl ?_
  repeat (first|refine q1 ?_|refine q2 ?_|refine q3 ?_|refine q4 ?_|refine q5 ?_|refine q6 ?_|refine w_seq ?_|refine w_region ?_|refine w_ops_nil ?_|refine w_skip ?_|refine w_block ?_|refine w_blk ?_|refine q7 ?_|refine q8 ?_|refine q9 ?_)
  refine w_append ho' hr1 rfl rfl rfl (by decide) (by omega) rfl fun h2 v2 hs2 ho2 => ?_
  replace hc := hc.go hs2; replace hm := hm.go hs2
  repeat (first|refine q1 ?_|refine q2 ?_|refine q3 ?_|refine q4 ?_|refine q5 ?_|refine q6 ?_|refine w_seq ?_|refine w_region ?_|refine w_ops_nil ?_|refine w_skip ?_|refine w_block ?_|refine w_blk ?_|refine q7 ?_|refine q8 ?_|refine q9 ?_)
  refine w_fldA (by decide) rfl rfl ?_
  refine w_store1 hc rfl rfl ho2.isSl.one (by simp) fun h3 hb3 hs3 hc3 => ?_
  repeat (first|refine q1 ?_|refine q2 ?_|refine q3 ?_|refine q4 ?_|refine q5 ?_|refine q6 ?_|refine w_seq ?_|refine w_region ?_|refine w_ops_nil ?_|refine w_skip ?_|refine w_block ?_|refine w_blk ?_|refine q7 ?_|refine q8 ?_|refine q9 ?_)
  refine w_endG (res0 rfl) ((hs2.mono (by simp) (by simp)).go hs3) fun h' hv' => ?_
  have hw' : WrR h3 b r (B ++ x) m := ⟨⟨v2, hc3, ho2.go hs3, hm.go hs3⟩, hsm⟩
  exact hw'.view hv'
theorem Writer_Raw (b : Nat) (B : List UInt8) (m : WM) (x : List UInt8) (g : G) {c : Nat} {v : Value} (hw : Wr g b B m) (hr : Rd g c El.u8 v x) (hB : B.length + x.length ≤ 100000000) (hcc : c ∉ [21, 22, 23] := by simp) :
    Fn Try.prog 15 [.pointer (some ⟨b, 0, none⟩), v] g [21, 22, 23] fun _ h => Wr h b (B ++ x) m := by
  obtain ⟨r, hw⟩ := hw
  exact (Writer_RawR b r B m x g hw hr hB hcc).mono (by simp) fun v h _ h2 => ⟨r, h2⟩
theorem Writer_Len (b : Nat) (B : List UInt8) (m : WM) (g : G) (hw : Wr g b B m) :
    Fn Try.prog 12 [.pointer (some ⟨b, 0, none⟩)] g [] fun u _ => u = .int .i64 (B.length : Int) := by
  obtain ⟨r, ⟨vB, hc, ho', hm⟩, _⟩ := hw
  refine enterG [] [] Try.func12 rfl Try.ntmps12 rfl (by simp) fun g1 hv ho => ?_
  obtain ⟨c, hcl, hc⟩ := hc.seen hv ho (by simp)
  repeat (first|refine q1 ?_|refine q2 ?_|refine q3 ?_|refine q4 ?_|refine q5 ?_|refine q6 ?_|refine w_seq ?_|refine w_region ?_|refine w_ops_nil ?_|refine w_skip ?_|refine w_block ?_|refine w_blk ?_|refine q7 ?_|refine q8 ?_|refine q9 ?_)
  refine w_fldA (by decide) rfl rfl ?_
  refine w_load1 hc rfl rfl rfl rfl ?_
  refine w_lenSl ho'.isSl rfl rfl ?_
  repeat (first|refine q1 ?_|refine q2 ?_|refine q3 ?_|refine q4 ?_|refine q5 ?_|refine q6 ?_|refine w_seq ?_|refine w_region ?_|refine w_ops_nil ?_|refine w_skip ?_|refine w_block ?_|refine w_blk ?_|refine q7 ?_|refine q8 ?_|refine q9 ?_)
  exact w_retG (res1 rfl rfl) (Step.refl _ _ _) fun h' _ => rfl
theorem Clone_u8 (x : List UInt8) (g : G) {c : Nat} {v : Value} (hr : Rd g c El.u8 v x) (hx : x.length ≤ 100000000) :
    Fn Try.prog 44 [v] g [] fun u h => Rd h 0 El.u8 u x := by
  refine enterG [] [2] Try.func44 rfl Try.ntmps44 rfl (by simp) fun g1 hv ho => ?_
  obtain ⟨c', hc', hr1⟩ := hr.seen hv ho (by simp)
  obtain ⟨A, cap, rfl, h1, h2⟩ := hr1.len
  repeat (first|refine q1 ?_|refine q2 ?_|refine q3 ?_|refine q4 ?_|refine q5 ?_|refine q6 ?_|refine w_seq ?_|refine w_region ?_|refine w_ops_nil ?_|refine w_skip ?_|refine w_block ?_|refine w_blk ?_|refine q7 ?_|refine q8 ?_|refine q9 ?_)
  refine w_slEqNil rfl rfl rfl ?_
  repeat (first|refine q1 ?_|refine q2 ?_|refine q3 ?_|refine q4 ?_|refine q5 ?_|refine q6 ?_|refine w_seq ?_|refine w_region ?_|refine w_ops_nil ?_|refine w_skip ?_|refine w_block ?_|refine w_blk ?_|refine q7 ?_|refine q8 ?_|refine q9 ?_)
  refine w_cond rfl (fun hA => ?_) (fun hA => ?_)
  · repeat (first|refine q1 ?_|refine q2 ?_|refine q3 ?_|refine q4 ?_|refine q5 ?_|refine q6 ?_|refine w_seq ?_|refine w_region ?_|refine w_ops_nil ?_|refine w_skip ?_|refine w_block ?_|refine w_blk ?_|refine q7 ?_|refine q8 ?_|refine q9 ?_)
    refine w_retG (res1 rfl rfl) (Step.refl _ _ _) fun h' _ => ?_
    cases A with
    | some a => cases hA
    | none =>
      obtain ⟨A', cap', he, h3, h4, h5⟩ := hr1
      rcases h5 with h5 | ⟨a, ha, _⟩
      · subst h5; exact Rd.nil _ _ _ _ _ (by decide)
      · subst ha; injection he with he1; cases he1
  · repeat (first|refine q1 ?_|refine q2 ?_|refine q3 ?_|refine q4 ?_|refine q5 ?_|refine q6 ?_|refine w_seq ?_|refine w_region ?_|refine w_ops_nil ?_|refine w_skip ?_|refine w_block ?_|refine w_blk ?_|refine q7 ?_|refine q8 ?_|refine q9 ?_)
    refine w_buildSl 2 El.u8 [] rfl rfl rfl rfl fun h1 v1 hs1 ho1 => ?_
    replace hr1 := hr1.go hs1
    repeat (first|refine q1 ?_|refine q2 ?_|refine q3 ?_|refine q4 ?_|refine q5 ?_|refine q6 ?_|refine w_seq ?_|refine w_region ?_|refine w_ops_nil ?_|refine w_skip ?_|refine w_block ?_|refine w_blk ?_|refine q7 ?_|refine q8 ?_|refine q9 ?_)
    refine w_append ho1 hr1 rfl rfl rfl (by decide) (by simp; omega) rfl fun h2 v2 hs2 ho2 => ?_
    repeat (first|refine q1 ?_|refine q2 ?_|refine q3 ?_|refine q4 ?_|refine q5 ?_|refine q6 ?_|refine w_seq ?_|refine w_region ?_|refine w_ops_nil ?_|refine w_skip ?_|refine w_block ?_|refine w_blk ?_|refine q7 ?_|refine q8 ?_|refine q9 ?_)
    obtain ⟨h4, hw4, hs4, hr4⟩ := ho2.freeze (by decide)
    rw [← hw4]
    refine w_retG (res1 rfl rfl) (((hs1.mono (by simp) (by simp)).go hs2).go hs4) fun h' hv' => ?_
    exact hr4.view hv' (.inl rfl)
theorem Writer_Bytes (b : Nat) (B : List UInt8) (m : WM) (g : G) (hw : Wr g b B m) (hB : B.length ≤ 100000000) :
    Fn Try.prog 16 [.pointer (some ⟨b, 0, none⟩)] g [] fun u h => Rd h 0 El.u8 u B := by
  obtain ⟨r, ⟨vB, hc, ho', hm⟩, _⟩ := hw
  refine enterG [] [] Try.func16 rfl Try.ntmps16 rfl (by simp) fun g1 hv ho => ?_
  obtain ⟨c, hcl, hc⟩ := hc.seen hv ho (by simp)
  obtain ⟨c2, hcl2, hr⟩ := ho'.rd.seen hv ho (by simp)
  repeat (first|refine q1 ?_|refine q2 ?_|refine q3 ?_|refine q4 ?_|refine q5 ?_|refine q6 ?_|refine w_seq ?_|refine w_region ?_|refine w_ops_nil ?_|refine w_skip ?_|refine w_block ?_|refine w_blk ?_|refine q7 ?_|refine q8 ?_|refine q9 ?_)
  refine w_fldA (by decide) rfl rfl ?_
  refine w_load1 hc rfl rfl rfl rfl ?_
  refine w_callF rfl (Clone_u8 B g1 hr hB) rfl fun u h hs hu => ?_
  repeat (first|refine q1 ?_|refine q2 ?_|refine q3 ?_|refine q4 ?_|refine q5 ?_|refine q6 ?_|refine w_seq ?_|refine w_region ?_|refine w_ops_nil ?_|refine w_skip ?_|refine w_block ?_|refine w_blk ?_|refine q7 ?_|refine q8 ?_|refine q9 ?_)
  exact w_retG (res1 rfl rfl) hs.nil fun h' hv' => hu.view hv' (.inl rfl)
end Go.Proofs.Ytnfokdhgajanpaa
