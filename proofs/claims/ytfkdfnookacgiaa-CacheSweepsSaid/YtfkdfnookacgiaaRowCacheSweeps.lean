/- Proved: for any lifetimes and any time, what is swept of a cache are those entries that are over, and these alone (CacheSweeps answers true, its arguments read as before). -/
import Derived.Test.YtfkdfnookacgiaaCa7
import Derived.Test.YtfkdfnookacgiaaRow
namespace Go.Proofs.Ytfkdfnookacgiaa
open Go
namespace cacheSweeps
open Go.ChangeShapes Go.WideShapes Go.ChangeAt Go.RowKit
theorem own : ownKnob Try.prog.godebug = none := by kernel_rfl
theorem laidOut : laidOutB Try.prog = true := by kernel_rfl
set_option maxRecDepth 100000 in
theorem contract (H : Type) (enc : TypeId × Value → H) (W : World) (base : Nat) (args : Array Value) (ds gs : List (DataW H)) (before : List MemPlace)
    (hval : ∀ (j : Nat) t v, Try.f4.params[j]? = some t → args[j]? = some v → Value.okWide Try.prog W .any base t v)
    (hW : DataW.Whole enc Try.prog Try.f4.params.toList Rows.cacheSweepsSpec.vars false W args.toList ds gs before) :
    Calls Try.prog 4 args W fun e W' => ∃ v, e = .returned v ∧ Rows.cacheSweepsSpec.post enc Try.prog Try.f4 false true false false W args v W' := by
  have hW0 := hW
  obtain ⟨p, q, hA, hV, rfl, hfz, hnd⟩ := hW
  obtain ⟨rfl, rfl⟩ := trodVars_none hV
  have hread : ∀ u ∈ Try.f4.params.toList, Try.prog.readableRec u = true ∧ u < Try.prog.types.size := by
    rw [Try.params4]; simp only [List.mem_cons, List.not_mem_nil, or_false]
    rintro u (rfl | rfl) <;> exact ⟨by kernel_rfl, of_decide_eq_true (by kernel_rfl)⟩
  rw [Try.params4] at hA hval
  obtain ⟨v0, vs0, d0, ds0, p0, q0, hargs, rfl, rfl, k0, r0⟩ := trodAll_cons hA
  obtain ⟨v1, vs1, d1, ds1, p1, q1, rfl, rfl, rfl, k1, r1⟩ := trodAll_cons r0
  obtain ⟨rfl, rfl, rfl⟩ := trodAll_nil r1
  obtain rfl : args = #[v0, v1] := by cases args; simp_all
  have z0 := hval 0 22 v0 rfl rfl
  obtain ⟨y0, rfl, R0⟩ := arg_of (P := Try.prog) (t := 22) (opens_slice (e := 3) (opens_i64 (by kernel_rfl)) (by kernel_rfl)) (by rfl) z0 k0
  have z1 := hval 1 3 v1 rfl rfl
  obtain ⟨y1, rfl, R1⟩ := arg_of (P := Try.prog) (t := 3) (opens_i64 (by kernel_rfl)) (by rfl) z1 k1
  refine row_calls laidOut rfl rfl (Und.eq (d := .bool)) hread rfl hW0 ?_
  obtain ⟨l, r, _, hel⟩ := R0
  exact law10_Sweeps l _ y1 _ r.x (fun x hx => by obtain ⟨_, _, h⟩ := hel x hx; exact h) R1
set_option maxRecDepth 100000 in
theorem lifted (os : Os) (started : os.Started) (H : Type) (enc : TypeId × Value → H) :
    ReturnsInHanded {} Try.checked os 4 .any (Rows.cacheSweepsSpec.pre6 enc Try.prog Try.f4 Rows.cacheSweepsRow.domain false) (Rows.cacheSweepsSpec.post enc Try.prog Try.f4 false true false false) := by
  refine returnsInHanded_of_change_sized (C := Try.checked) own started (by kernel_rfl) Try.func4
    (ChangeSpec.witness6 (enc := enc) (C := Try.checked) false ⟨#[], #[.slice none 0 0, .int .i64 0], []⟩ 8 (by kernel_rfl) (by kernel_rfl) (by kernel_rfl) (by kernel_rfl)) ?_
  intro W base args ds gs before hval hW _ _ _
  exact contract H enc W base args ds gs before hval hW
theorem over : Rows.cacheSweepsRow.holds Try.pinned (OpenSpec.ofChange Rows.cacheSweepsSpec) :=
  OpenClaim.holds_of_wide 4 Try.f4 rfl rfl rfl rfl rfl rfl rfl ⟨rfl, rfl, rfl, rfl, rfl⟩ rfl rfl rfl rfl rfl (by kernel_rfl) Try.func4 (by kernel_rfl)
    (of_decide_eq_true (by kernel_rfl)) (by unfold Func.isWrapper; first | (rw [if_pos (by decide +kernel)]; kernel_rfl) | (rw [if_neg (by decide +kernel)]; exact ⟨rfl, rfl⟩))
    (fun os started H enc _ => lifted os started H enc)
end cacheSweeps
theorem cacheSweeps_holds : Rows.CacheSweepsSaid := cacheSweeps.over
#print axioms cacheSweeps_holds
end Go.Proofs.Ytfkdfnookacgiaa
