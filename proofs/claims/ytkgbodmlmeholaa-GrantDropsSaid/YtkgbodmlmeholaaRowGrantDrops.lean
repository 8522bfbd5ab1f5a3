/- Proved: for any keys, any origin and any number, all grants of a page's origin are let go, and no other one's (GrantDrops answers true, its arguments read as before). -/
import Derived.Test.YtkgbodmlmeholaaGrC
namespace Go.Proofs.Ytkgbodmlmeholaa
open Go
namespace grantDrops
open Go.ChangeShapes Go.WideShapes Go.ChangeAt Go.RowKit
theorem own : ownKnob Try.prog.godebug = none := by kernel_rfl
theorem laidOut : laidOutB Try.prog = true := by kernel_rfl
set_option maxRecDepth 100000 in
theorem contract (H : Type) (enc : TypeId × Value → H) (W : World) (base : Nat) (args : Array Value) (ds gs : List (DataW H)) (before : List MemPlace)
    (hval : ∀ (j : Nat) t v, Try.f6.params[j]? = some t → args[j]? = some v → Value.okWide Try.prog W .any base t v)
    (hW : DataW.Whole enc Try.prog Try.f6.params.toList Rows.grantDropsSpec.vars false W args.toList ds gs before) :
    Calls Try.prog 6 args W fun e W' => ∃ v, e = .returned v ∧ Rows.grantDropsSpec.post enc Try.prog Try.f6 false true false false W args v W' := by
  have hW0 := hW
  obtain ⟨p, q, hA, hV, rfl, hfz, hnd⟩ := hW
  obtain ⟨rfl, rfl⟩ := trodVars_none hV
  have hread : ∀ u ∈ Try.f6.params.toList, Try.prog.readableRec u = true ∧ u < Try.prog.types.size := by
    rw [Try.params6]; simp only [List.mem_cons, List.not_mem_nil, or_false]
    rintro u (rfl | rfl | rfl) <;> exact ⟨by kernel_rfl, of_decide_eq_true (by kernel_rfl)⟩
  rw [Try.params6] at hA hval
  obtain ⟨v0, vs0, d0, ds0, p0, q0, hargs, rfl, rfl, k0, r0⟩ := trodAll_cons hA
  obtain ⟨v1, vs1, d1, ds1, p1, q1, rfl, rfl, rfl, k1, r1⟩ := trodAll_cons r0
  obtain ⟨v2, vs2, d2, ds2, p2, q2, rfl, rfl, rfl, k2, r2⟩ := trodAll_cons r1
  obtain ⟨rfl, rfl, rfl⟩ := trodAll_nil r2
  obtain rfl : args = #[v0, v1, v2] := by cases args; simp_all
  have z0 := hval 0 53 v0 rfl rfl
  obtain ⟨y0, rfl, R0⟩ := arg_of (P := Try.prog) (t := 53) (opens_slice (e := 28) opens_ky (by kernel_rfl)) (by rfl) z0 k0
  have z1 := hval 1 23 v1 rfl rfl
  obtain ⟨y1, rfl, R1⟩ := arg_of (P := Try.prog) (t := 23) (opens_og) (by rfl) z1 k1
  have z2 := hval 2 3 v2 rfl rfl
  obtain ⟨y2, rfl, R2⟩ := arg_of (P := Try.prog) (t := 3) (opens_i64 (by kernel_rfl)) (by rfl) z2 k2
  refine row_calls laidOut rfl rfl (Und.eq (d := .bool)) hread rfl hW0 ?_
  obtain ⟨l, r, _⟩ := R0
  exact law18_Drops l _ y1 y2 _ r.x R2
set_option maxRecDepth 100000 in
theorem lifted (os : Os) (started : os.Started) (H : Type) (enc : TypeId × Value → H) :
    ReturnsInHanded {} Try.checked os 6 .any (Rows.grantDropsSpec.pre6 enc Try.prog Try.f6 Rows.grantDropsRow.domain false) (Rows.grantDropsSpec.post enc Try.prog Try.f6 false true false false) := by
  refine returnsInHanded_of_change_sized (C := Try.checked) own started (by kernel_rfl) Try.func6
    (ChangeSpec.witness6 (enc := enc) (C := Try.checked) false ⟨#[], #[.slice none 0 0, .agg #[.string ByteArray.empty, .string ByteArray.empty, .int .i64 0], .int .i64 0], []⟩ 8 (by kernel_rfl) (by kernel_rfl) (by kernel_rfl) (by kernel_rfl)) ?_
  intro W base args ds gs before hval hW _ _ _
  exact contract H enc W base args ds gs before hval hW
theorem over : Rows.grantDropsRow.holds Try.pinned (OpenSpec.ofChange Rows.grantDropsSpec) :=
  OpenClaim.holds_of_wide 6 Try.f6 rfl rfl rfl rfl rfl rfl rfl ⟨rfl, rfl, rfl, rfl, rfl⟩ rfl rfl rfl rfl rfl (by kernel_rfl) Try.func6 (by kernel_rfl)
    (of_decide_eq_true (by kernel_rfl)) (by unfold Func.isWrapper; first | (rw [if_pos (by decide +kernel)]; kernel_rfl) | (rw [if_neg (by decide +kernel)]; exact ⟨rfl, rfl⟩))
    (fun os started H enc _ => lifted os started H enc)
end grantDrops
theorem grantDrops_holds : Rows.GrantDropsSaid := grantDrops.over
#print axioms grantDrops_holds
end Go.Proofs.Ytkgbodmlmeholaa
