/- Proved: for any name, any two types and any two lifetimes, each type's entry is its own, and two of one type are one (CacheTypes answers true, its arguments read as before). -/
import Derived.Test.YtfkdfnookacgiaaCa8
import Derived.Test.YtfkdfnookacgiaaRow
namespace Go.Proofs.Ytfkdfnookacgiaa
open Go
theorem two_of (y : {l : List Int // l.length = 2}) : ∃ a b, y.1 = [a, b] := by
  obtain ⟨l, h⟩ := y
  match l, h with
  | [a, b], _ => exact ⟨a, b, rfl⟩
namespace cacheTypes
open Go.ChangeShapes Go.WideShapes Go.ChangeAt Go.RowKit
theorem own : ownKnob Try.prog.godebug = none := by kernel_rfl
theorem laidOut : laidOutB Try.prog = true := by kernel_rfl
set_option maxRecDepth 100000 in
theorem contract (H : Type) (enc : TypeId × Value → H) (W : World) (base : Nat) (args : Array Value) (ds gs : List (DataW H)) (before : List MemPlace)
    (hval : ∀ (j : Nat) t v, Try.f5.params[j]? = some t → args[j]? = some v → Value.okWide Try.prog W .any base t v)
    (hW : DataW.Whole enc Try.prog Try.f5.params.toList Rows.cacheTypesSpec.vars false W args.toList ds gs before) :
    Calls Try.prog 5 args W fun e W' => ∃ v, e = .returned v ∧ Rows.cacheTypesSpec.post enc Try.prog Try.f5 false true false false W args v W' := by
  have hW0 := hW
  obtain ⟨p, q, hA, hV, rfl, hfz, hnd⟩ := hW
  obtain ⟨rfl, rfl⟩ := trodVars_none hV
  have hread : ∀ u ∈ Try.f5.params.toList, Try.prog.readableRec u = true ∧ u < Try.prog.types.size := by
    rw [Try.params5]; simp only [List.mem_cons, List.not_mem_nil, or_false]
    rintro u (rfl | rfl | rfl | rfl) <;> exact ⟨by kernel_rfl, of_decide_eq_true (by kernel_rfl)⟩
  rw [Try.params5] at hA hval
  obtain ⟨v0, vs0, d0, ds0, p0, q0, hargs, rfl, rfl, k0, r0⟩ := trodAll_cons hA
  obtain ⟨v1, vs1, d1, ds1, p1, q1, rfl, rfl, rfl, k1, r1⟩ := trodAll_cons r0
  obtain ⟨v2, vs2, d2, ds2, p2, q2, rfl, rfl, rfl, k2, r2⟩ := trodAll_cons r1
  obtain ⟨v3, vs3, d3, ds3, p3, q3, rfl, rfl, rfl, k3, r3⟩ := trodAll_cons r2
  obtain ⟨rfl, rfl, rfl⟩ := trodAll_nil r3
  obtain rfl : args = #[v0, v1, v2, v3] := by cases args; simp_all
  have z0 := hval 0 9 v0 rfl rfl
  obtain ⟨y0, rfl, R0⟩ := arg_of (P := Try.prog) (t := 9) (opens_str (by kernel_rfl)) (by rfl) z0 k0
  have z1 := hval 1 3 v1 rfl rfl
  obtain ⟨y1, rfl, R1⟩ := arg_of (P := Try.prog) (t := 3) (opens_i64 (by kernel_rfl)) (by rfl) z1 k1
  have z2 := hval 2 3 v2 rfl rfl
  obtain ⟨y2, rfl, R2⟩ := arg_of (P := Try.prog) (t := 3) (opens_i64 (by kernel_rfl)) (by rfl) z2 k2
  have z3 := hval 3 47 v3 rfl rfl
  obtain ⟨y3, rfl, R3⟩ := arg_of (P := Try.prog) (t := 47) (opens_array (n := 2) (e := 3) (opens_i64 (by kernel_rfl)) (by omega) (by kernel_rfl)) (by rfl) z3 k3
  refine row_calls laidOut rfl rfl (Und.eq (d := .bool)) hread rfl hW0 ?_
  obtain ⟨a, b, hy⟩ := two_of y3
  have e : (El.arr El.int 2 (by omega)).val y3 = .agg #[.int .i64 a, .int .i64 b] := by
    obtain ⟨l, hl⟩ := y3
    dsimp only at hy
    subst hy
    rfl
  obtain ⟨_, _, ha⟩ := R3 a (by rw [hy]; simp)
  obtain ⟨_, _, hb⟩ := R3 b (by rw [hy]; simp)
  rw [e]
  exact law10_Types y0 y1 y2 a b _ ha hb
set_option maxRecDepth 100000 in
theorem lifted (os : Os) (started : os.Started) (H : Type) (enc : TypeId × Value → H) :
    ReturnsInHanded {} Try.checked os 5 .any (Rows.cacheTypesSpec.pre6 enc Try.prog Try.f5 Rows.cacheTypesRow.domain false) (Rows.cacheTypesSpec.post enc Try.prog Try.f5 false true false false) := by
  refine returnsInHanded_of_change_sized (C := Try.checked) own started (by kernel_rfl) Try.func5
    (ChangeSpec.witness6 (enc := enc) (C := Try.checked) false ⟨#[], #[.string ByteArray.empty, .int .i64 0, .int .i64 0, .agg #[.int .i64 0, .int .i64 0]], []⟩ 8 (by kernel_rfl) (by kernel_rfl) (by kernel_rfl) (by kernel_rfl)) ?_
  intro W base args ds gs before hval hW _ _ _
  exact contract H enc W base args ds gs before hval hW
theorem over : Rows.cacheTypesRow.holds Try.pinned (OpenSpec.ofChange Rows.cacheTypesSpec) :=
  OpenClaim.holds_of_wide 5 Try.f5 rfl rfl rfl rfl rfl rfl rfl ⟨rfl, rfl, rfl, rfl, rfl⟩ rfl rfl rfl rfl rfl (by kernel_rfl) Try.func5 (by kernel_rfl)
    (of_decide_eq_true (by kernel_rfl)) (by unfold Func.isWrapper; first | (rw [if_pos (by decide +kernel)]; kernel_rfl) | (rw [if_neg (by decide +kernel)]; exact ⟨rfl, rfl⟩))
    (fun os started H enc _ => lifted os started H enc)
end cacheTypes
theorem cacheTypes_holds : Rows.CacheTypesSaid := cacheTypes.over
#print axioms cacheTypes_holds
end Go.Proofs.Ytfkdfnookacgiaa
