/- Proved: for every text and number of bulk at most 1048576, a name that was asked is written once in its answers (WireSmall answers true, its arguments read as before). -/
import Derived.Test.YtnfokdhgajanpaaWirD
import Derived.Test.YtnfokdhgajanpaaRow
namespace Go.Proofs.Ytnfokdhgajanpaa
open Go
namespace wireSmall
open Go.ChangeShapes Go.WideShapes Go.ChangeAt Go.RowKit
theorem own : ownKnob Try.prog.godebug = none := by kernel_rfl
theorem laidOut : laidOutB Try.prog = true := by kernel_rfl
set_option maxRecDepth 100000 in
theorem contract (H : Type) (enc : TypeId × Value → H) (W : World) (base : Nat) (args : Array Value) (ds gs : List (DataW H)) (before : List MemPlace)
    (hval : ∀ (j : Nat) t v, Try.f6.params[j]? = some t → args[j]? = some v → Value.okWide Try.prog W .any base t v)
    (hW : DataW.Whole enc Try.prog Try.f6.params.toList Rows.wireSmallSpec.vars false W args.toList ds gs before) (hk : Rows.uptoSmall H (ds ++ gs) = true) :
    Calls Try.prog 6 args W fun e W' => ∃ v, e = .returned v ∧ Rows.wireSmallSpec.post enc Try.prog Try.f6 false true false false W args v W' := by
  have hW0 := hW
  obtain ⟨p, q, hA, hV, rfl, hfz, hnd⟩ := hW
  obtain ⟨rfl, rfl⟩ := trodVars_none hV
  have hread : ∀ u ∈ Try.f6.params.toList, Try.prog.readableRec u = true ∧ u < Try.prog.types.size := by
    rw [Try.params6]; simp only [List.mem_cons, List.not_mem_nil, or_false]
    rintro u (rfl | rfl) <;> exact ⟨by kernel_rfl, of_decide_eq_true (by kernel_rfl)⟩
  rw [Try.params6] at hA hval
  obtain ⟨v0, vs0, d0, ds0, p0, q0, hargs, rfl, rfl, k0, r0⟩ := trodAll_cons hA
  obtain ⟨v1, vs1, d1, ds1, p1, q1, rfl, rfl, rfl, k1, r1⟩ := trodAll_cons r0
  obtain ⟨rfl, rfl, rfl⟩ := trodAll_nil r1
  obtain rfl : args = #[v0, v1] := by cases args; simp_all
  have hb : Rows.uptoBulkAll [d0, d1] ≤ 1048576 := of_decide_eq_true hk
  simp only [Rows.uptoBulkAll] at hb
  have z0 := hval 0 9 v0 rfl rfl
  obtain ⟨y0, rfl, R0⟩ := arg_of (P := Try.prog) (t := 9) (opens_str (by kernel_rfl)) (by rfl) z0 k0
  have z1 := hval 1 3 v1 rfl rfl
  obtain ⟨y1, rfl, R1⟩ := arg_of (P := Try.prog) (t := 3) (opens_i64 (by kernel_rfl)) (by rfl) z1 k1
  refine row_calls laidOut rfl rfl (Und.eq (d := .bool)) hread rfl hW0 ?_
  obtain ⟨r1, r2⟩ := R0
  exact law09_Small y0 y1 _ (by omega) R1
set_option maxRecDepth 100000 in
theorem lifted (os : Os) (started : os.Started) (H : Type) (enc : TypeId × Value → H) (F : Stop.Interp) :
    ReturnsInHanded {} Try.checked os 6 .any ((Rows.OpenSpec.upto Rows.wireSmallSpec).pre6 enc Try.prog Try.f6 Rows.wireSmallUptoRow.domain false) (((Rows.OpenSpec.upto Rows.wireSmallSpec).at F).post enc Try.prog Try.f6 false true false false) := by
  refine returnsInHanded_of_cond (C := Try.checked) (s := Rows.OpenSpec.upto Rows.wireSmallSpec) (k := Rows.uptoSmall) rfl own started (by kernel_rfl) Try.func6
    (OpenSpec.witness (enc := enc) (C := Try.checked) (s := Rows.OpenSpec.upto Rows.wireSmallSpec) (k := Rows.uptoSmall) rfl false ⟨#[], #[.string ByteArray.empty, .int .i64 0], []⟩ 8 (by kernel_rfl) (by kernel_rfl) (by kernel_rfl)
      (x := ([.lit (.string []), .lit (.int .i64 0)], [], [])) (by kernel_rfl) rfl (by kernel_rfl)) ?_
  intro W base args ds gs before hval hW _ hk _
  exact contract H enc W base args ds gs before hval hW hk
theorem over : Rows.wireSmallUptoRow.holds Try.pinned (Rows.OpenSpec.upto Rows.wireSmallSpec) :=
  OpenClaim.holds_of_cond 6 Try.f6 rfl rfl rfl rfl rfl rfl rfl ⟨rfl, rfl, rfl, rfl, rfl⟩ rfl rfl rfl rfl rfl (by kernel_rfl) Try.func6 (by kernel_rfl)
    (of_decide_eq_true (by kernel_rfl)) (by unfold Func.isWrapper; first | (rw [if_pos (by decide +kernel)]; kernel_rfl) | (rw [if_neg (by decide +kernel)]; exact ⟨rfl, rfl⟩))
    (fun os started H enc _ F => lifted os started H enc F)
end wireSmall
theorem wireSmall_holds : Rows.WireSmallUptoSaid := wireSmall.over
#print axioms wireSmall_holds
end Go.Proofs.Ytnfokdhgajanpaa
