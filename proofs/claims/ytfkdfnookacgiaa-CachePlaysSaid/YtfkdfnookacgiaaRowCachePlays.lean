/- Proved: for any room and any deeds, whatever is put, asked and swept, the answers, and all keys, are the document's (CachePlays answers true, its arguments read as before). -/
import Derived.Test.YtfkdfnookacgiaaCb6
import Derived.Test.YtfkdfnookacgiaaOpA
namespace Go.Proofs.Ytfkdfnookacgiaa
open Go
theorem opens_dv : Opens Try.prog 60 El.dv (fun w x _ => (-9223372036854775808 ≤ x.wait ∧ x.wait ≤ 9223372036854775807) ∧ ∃ a, Rd ⟨w, fun _ => 0⟩ 0 El.ad x.sl.1 a) := by
  apply Opens.as (E := El.pair El.int (El.pair El.int (El.pair El.int (El.pair El.int (El.pair El.str El.any))))) (f := (fun x => ⟨x.1, x.2.1, x.2.2.1, x.2.2.2.1, x.2.2.2.2.1, x.2.2.2.2.2⟩))
  case hsz => rfl
  case h =>
    apply opens_struct (P := Try.prog) (t := 60)
    case hc => kernel_rfl
    apply opensF_cons
    case ho => rfl
    case h => exact opens_i64 (by kernel_rfl)
    case ho' => rfl
    apply opensF_cons
    case ho => rfl
    case h => exact opens_i64 (by kernel_rfl)
    case ho' => rfl
    apply opensF_cons
    case ho => rfl
    case h => exact opens_i64 (by kernel_rfl)
    case ho' => rfl
    apply opensF_cons
    case ho => rfl
    case h => exact opens_i64 (by kernel_rfl)
    case ho' => rfl
    apply opensF_cons
    case ho => rfl
    case h => exact opens_str (by kernel_rfl)
    case ho' => rfl
    apply opensF_one
    case ho => rfl
    case h => exact opens_slice (e := 51) opens_ad (by kernel_rfl)
  case he =>
    exact fun w y n _ => rfl
  case hR =>
    intro w y n h
    obtain ⟨_, _, _, _, _, _, _, _, _, _, _, ⟨_, _, hw⟩, _, _, _, _, _, _, _, l, hl, _⟩ := h
    exact ⟨hw, l, hl⟩
namespace cachePlays
open Go.ChangeShapes Go.WideShapes Go.ChangeAt Go.RowKit
theorem own : ownKnob Try.prog.godebug = none := by kernel_rfl
theorem laidOut : laidOutB Try.prog = true := by kernel_rfl
set_option maxRecDepth 100000 in
theorem contract (H : Type) (enc : TypeId × Value → H) (W : World) (base : Nat) (args : Array Value) (ds gs : List (DataW H)) (before : List MemPlace)
    (hval : ∀ (j : Nat) t v, Try.f7.params[j]? = some t → args[j]? = some v → Value.okWide Try.prog W .any base t v)
    (hW : DataW.Whole enc Try.prog Try.f7.params.toList Rows.cachePlaysSpec.vars false W args.toList ds gs before) :
    Calls Try.prog 7 args W fun e W' => ∃ v, e = .returned v ∧ Rows.cachePlaysSpec.post enc Try.prog Try.f7 false true false false W args v W' := by
  have hW0 := hW
  obtain ⟨p, q, hA, hV, rfl, hfz, hnd⟩ := hW
  obtain ⟨rfl, rfl⟩ := trodVars_none hV
  have hread : ∀ u ∈ Try.f7.params.toList, Try.prog.readableRec u = true ∧ u < Try.prog.types.size := by
    rw [Try.params7]; simp only [List.mem_cons, List.not_mem_nil, or_false]
    rintro u (rfl | rfl) <;> exact ⟨by kernel_rfl, of_decide_eq_true (by kernel_rfl)⟩
  rw [Try.params7] at hA hval
  obtain ⟨v0, vs0, d0, ds0, p0, q0, hargs, rfl, rfl, k0, r0⟩ := trodAll_cons hA
  obtain ⟨v1, vs1, d1, ds1, p1, q1, rfl, rfl, rfl, k1, r1⟩ := trodAll_cons r0
  obtain ⟨rfl, rfl, rfl⟩ := trodAll_nil r1
  obtain rfl : args = #[v0, v1] := by cases args; simp_all
  have z0 := hval 0 3 v0 rfl rfl
  obtain ⟨y0, rfl, R0⟩ := arg_of (P := Try.prog) (t := 3) (opens_i64 (by kernel_rfl)) (by rfl) z0 k0
  have z1 := hval 1 58 v1 rfl rfl
  obtain ⟨y1, rfl, R1⟩ := arg_of (P := Try.prog) (t := 58) (opens_slice (e := 60) opens_dv (by kernel_rfl)) (by rfl) z1 k1
  refine row_calls laidOut rfl rfl (Und.eq (d := .bool)) hread rfl hW0 ?_
  obtain ⟨l, r, _, hel⟩ := R1
  exact law10_Plays y0 l _ _ r.x (fun x hx => by obtain ⟨_, _, h, a, h2⟩ := hel x hx; exact ⟨h, a, h2.x⟩)
set_option maxRecDepth 100000 in
theorem lifted (os : Os) (started : os.Started) (H : Type) (enc : TypeId × Value → H) :
    ReturnsInHanded {} Try.checked os 7 .any (Rows.cachePlaysSpec.pre6 enc Try.prog Try.f7 Rows.cachePlaysRow.domain false) (Rows.cachePlaysSpec.post enc Try.prog Try.f7 false true false false) := by
  refine returnsInHanded_of_change_sized (C := Try.checked) own started (by kernel_rfl) Try.func7
    (ChangeSpec.witness6 (enc := enc) (C := Try.checked) false ⟨#[], #[.int .i64 0, .slice none 0 0], []⟩ 8 (by kernel_rfl) (by kernel_rfl) (by kernel_rfl) (by kernel_rfl)) ?_
  intro W base args ds gs before hval hW _ _ _
  exact contract H enc W base args ds gs before hval hW
theorem over : Rows.cachePlaysRow.holds Try.pinned (OpenSpec.ofChange Rows.cachePlaysSpec) :=
  OpenClaim.holds_of_wide 7 Try.f7 rfl rfl rfl rfl rfl rfl rfl ⟨rfl, rfl, rfl, rfl, rfl⟩ rfl rfl rfl rfl rfl (by kernel_rfl) Try.func7 (by kernel_rfl)
    (of_decide_eq_true (by kernel_rfl)) (by unfold Func.isWrapper; first | (rw [if_pos (by decide +kernel)]; kernel_rfl) | (rw [if_neg (by decide +kernel)]; exact ⟨rfl, rfl⟩))
    (fun os started H enc _ => lifted os started H enc)
end cachePlays
theorem cachePlays_holds : Rows.CachePlaysSaid := cachePlays.over
#print axioms cachePlays_holds
end Go.Proofs.Ytfkdfnookacgiaa
