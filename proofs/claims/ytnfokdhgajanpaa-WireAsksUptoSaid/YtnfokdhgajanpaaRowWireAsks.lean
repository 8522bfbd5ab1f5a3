/- Proved: for every number, text, number and records of bulk at most 1048576, what asks and what answers is what the document says (WireAsks answers true, its arguments read as before). -/
import Derived.Test.YtnfokdhgajanpaaWirG
import Derived.Test.YtnfokdhgajanpaaRow
namespace Go.Proofs.Ytnfokdhgajanpaa
open Go
namespace wireAsks
open Go.ChangeShapes Go.WideShapes Go.ChangeAt Go.RowKit
theorem own : ownKnob Try.prog.godebug = none := by kernel_rfl
theorem laidOut : laidOutB Try.prog = true := by kernel_rfl
set_option maxRecDepth 100000 in
theorem contract (H : Type) (enc : TypeId × Value → H) (W : World) (base : Nat) (args : Array Value) (ds gs : List (DataW H)) (before : List MemPlace)
    (hval : ∀ (j : Nat) t v, Try.f8.params[j]? = some t → args[j]? = some v → Value.okWide Try.prog W .any base t v)
    (hW : DataW.Whole enc Try.prog Try.f8.params.toList Rows.wireAsksSpec.vars false W args.toList ds gs before) (hk : Rows.uptoSmall H (ds ++ gs) = true) :
    Calls Try.prog 8 args W fun e W' => ∃ v, e = .returned v ∧ Rows.wireAsksSpec.post enc Try.prog Try.f8 false true false false W args v W' := by
  have hW0 := hW
  obtain ⟨p, q, hA, hV, rfl, hfz, hnd⟩ := hW
  obtain ⟨rfl, rfl⟩ := trodVars_none hV
  have hread : ∀ u ∈ Try.f8.params.toList, Try.prog.readableRec u = true ∧ u < Try.prog.types.size := by
    rw [Try.params8]; simp only [List.mem_cons, List.not_mem_nil, or_false]
    rintro u (rfl | rfl | rfl | rfl) <;> exact ⟨by kernel_rfl, of_decide_eq_true (by kernel_rfl)⟩
  rw [Try.params8] at hA hval
  obtain ⟨v0, vs0, d0, ds0, p0, q0, hargs, rfl, rfl, k0, r0⟩ := trodAll_cons hA
  obtain ⟨v1, vs1, d1, ds1, p1, q1, rfl, rfl, rfl, k1, r1⟩ := trodAll_cons r0
  obtain ⟨v2, vs2, d2, ds2, p2, q2, rfl, rfl, rfl, k2, r2⟩ := trodAll_cons r1
  obtain ⟨v3, vs3, d3, ds3, p3, q3, rfl, rfl, rfl, k3, r3⟩ := trodAll_cons r2
  obtain ⟨rfl, rfl, rfl⟩ := trodAll_nil r3
  obtain rfl : args = #[v0, v1, v2, v3] := by cases args; simp_all
  have hb : Rows.uptoBulkAll [d0, d1, d2, d3] ≤ 1048576 := of_decide_eq_true hk
  simp only [Rows.uptoBulkAll] at hb
  have z0 := hval 0 3 v0 rfl rfl
  obtain ⟨y0, rfl, R0⟩ := arg_of (P := Try.prog) (t := 3) (opens_i64 (by kernel_rfl)) (by rfl) z0 k0
  have z1 := hval 1 9 v1 rfl rfl
  obtain ⟨y1, rfl, R1⟩ := arg_of (P := Try.prog) (t := 9) (opens_str (by kernel_rfl)) (by rfl) z1 k1
  have z2 := hval 2 3 v2 rfl rfl
  obtain ⟨y2, rfl, R2⟩ := arg_of (P := Try.prog) (t := 3) (opens_i64 (by kernel_rfl)) (by rfl) z2 k2
  have z3 := hval 3 44 v3 rfl rfl
  obtain ⟨y3, rfl, R3⟩ := arg_of (P := Try.prog) (t := 44) (opens_slice (e := 52) opens_rc (by kernel_rfl)) (by rfl) z3 k3
  refine row_calls laidOut rfl rfl (Und.eq (d := .bool)) hread rfl hW0 ?_
  obtain ⟨l, r, _⟩ := R3
  exact law09_Asks y0 y1 y2 l _ _ r.x
set_option maxRecDepth 100000 in
theorem lifted (os : Os) (started : os.Started) (H : Type) (enc : TypeId × Value → H) (F : Stop.Interp) :
    ReturnsInHanded {} Try.checked os 8 .any ((Rows.OpenSpec.upto Rows.wireAsksSpec).pre6 enc Try.prog Try.f8 Rows.wireAsksUptoRow.domain false) (((Rows.OpenSpec.upto Rows.wireAsksSpec).at F).post enc Try.prog Try.f8 false true false false) := by
  refine returnsInHanded_of_cond (C := Try.checked) (s := Rows.OpenSpec.upto Rows.wireAsksSpec) (k := Rows.uptoSmall) rfl own started (by kernel_rfl) Try.func8
    (OpenSpec.witness (enc := enc) (C := Try.checked) (s := Rows.OpenSpec.upto Rows.wireAsksSpec) (k := Rows.uptoSmall) rfl false ⟨#[], #[.int .i64 0, .string ByteArray.empty, .int .i64 0, .slice none 0 0], []⟩ 8 (by kernel_rfl) (by kernel_rfl) (by kernel_rfl)
      (x := ([.lit (.int .i64 0), .lit (.string []), .lit (.int .i64 0), .nil], [], [])) (by kernel_rfl) rfl (by kernel_rfl)) ?_
  intro W base args ds gs before hval hW _ hk _
  exact contract H enc W base args ds gs before hval hW hk
theorem over : Rows.wireAsksUptoRow.holds Try.pinned (Rows.OpenSpec.upto Rows.wireAsksSpec) :=
  OpenClaim.holds_of_cond 8 Try.f8 rfl rfl rfl rfl rfl rfl rfl ⟨rfl, rfl, rfl, rfl, rfl⟩ rfl rfl rfl rfl rfl (by kernel_rfl) Try.func8 (by kernel_rfl)
    (of_decide_eq_true (by kernel_rfl)) (by unfold Func.isWrapper; first | (rw [if_pos (by decide +kernel)]; kernel_rfl) | (rw [if_neg (by decide +kernel)]; exact ⟨rfl, rfl⟩))
    (fun os started H enc _ F => lifted os started H enc F)
end wireAsks
theorem wireAsks_holds : Rows.WireAsksUptoSaid := wireAsks.over
#print axioms wireAsks_holds
end Go.Proofs.Ytnfokdhgajanpaa
