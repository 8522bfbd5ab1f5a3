/- Addresses as values. No statement of the seat is proved here. -/
import Derived.Test.YtfkdfnookacgiaaCmp
import Derived.Test.YtfkdfnookacgiaaTypes
set_option linter.unusedVariables false
set_option linter.unusedSimpArgs false
namespace Go.Proofs.Ytfkdfnookacgiaa
open Go

structure Ad where
  fam : Int
  b : Fin 16 → UInt8
theorem Ad.ext' {x y : Ad} (h : x.fam = y.fam) (h2 : ∀ i, x.b i = y.b i) : x = y := by
  cases x; cases y; simp only at h h2; subst h; congr; funext i; exact h2 i
instance : DecidableEq Ad := fun x y => if h : x.fam = y.fam ∧ ∀ i, x.b i = y.b i then isTrue (Ad.ext' h.1 h.2) else isFalse (fun e => h (by subst e; exact ⟨rfl, fun _ => rfl⟩))
def cells16 (b : Fin 16 → UInt8) : List Value := [bv (b 0), bv (b 1), bv (b 2), bv (b 3), bv (b 4), bv (b 5), bv (b 6), bv (b 7), bv (b 8), bv (b 9), bv (b 10), bv (b 11), bv (b 12), bv (b 13), bv (b 14), bv (b 15)]
def El.ad : El Ad := ⟨17, true, fun a => .int .i64 a.fam :: cells16 a.b, fun _ => rfl, fun h => (by cases h), by decide, by
  intro x u hu
  simp only [cells16, List.mem_cons, List.not_mem_nil, or_false] at hu
  rcases hu with h | h | h | h | h | h | h | h | h | h | h | h | h | h | h | h | h <;> subst h <;> rfl⟩
theorem cells16_get (b : Fin 16 → UInt8) : ∀ (i : Nat) (h : i < 16), (cells16 b)[i]? = some (bv (b ⟨i, h⟩)) := by
  intro i h
  match i, h with
  | 0, _ => rfl | 1, _ => rfl | 2, _ => rfl | 3, _ => rfl | 4, _ => rfl | 5, _ => rfl | 6, _ => rfl | 7, _ => rfl
  | 8, _ => rfl | 9, _ => rfl | 10, _ => rfl | 11, _ => rfl | 12, _ => rfl | 13, _ => rfl | 14, _ => rfl | 15, _ => rfl
  | n + 16, h => omega
def bytes16 (b : Fin 16 → UInt8) : List UInt8 := [b 0, b 1, b 2, b 3, b 4, b 5, b 6, b 7, b 8, b 9, b 10, b 11, b 12, b 13, b 14, b 15]
theorem cells16_eq (b : Fin 16 → UInt8) : cells16 b = (bytes16 b).map bv := rfl

theorem ad_part (a : Ad) (w : World) : (part 49 (El.ad.enc a).toArray 1).run Try.prog w = .ok (.agg (cells16 a.b).toArray) w := by
  have h := part_agg (P := Try.prog) (w := w) (T := 49) (cs := (El.ad.enc a).toArray) (off := 1) rfl
  have e : (El.ad.enc a).toArray.extract 1 (1 + 16) = (cells16 a.b).toArray := by simp [El.ad, cells16]
  rw [e] at h
  exact h
theorem ad_eqIn (n : Nat) (w : World) (a b : Ad) (hn : 3 ≤ n) : (Op.equalIn n 51 (El.ad.val a) (El.ad.val b)).run Try.prog w = .ok (decide (a = b)) w := by
  obtain ⟨m, rfl⟩ : ∃ m, n = m + 2 := ⟨n - 2, by omega⟩
  have hB : (Op.equalIn (m + 1) 49 (.agg (cells16 a.b).toArray) (.agg (cells16 b.b).toArray)).run Try.prog w = .ok ((List.range 16).all fun i => if h : i < 16 then decide (a.b ⟨i, h⟩ = b.b ⟨i, h⟩) else true) w := by
    refine eq_array (e := 5) Try.underlying49 fun i hi => ⟨bv (a.b ⟨i, hi⟩), bv (b.b ⟨i, hi⟩), ?_, ?_, ?_⟩
    · exact part_cell rfl (by rw [Nat.mul_one]; simpa using cells16_get a.b i hi)
    · exact part_cell rfl (by rw [Nat.mul_one]; simpa using cells16_get b.b i hi)
    · rw [dif_pos hi]; exact eqIn_u8 (by omega) _ _
  have h := eq_struct (P := Try.prog) (n := m + 1) (w := w) (T := 51) (xs := (El.ad.enc a).toArray) (ys := (El.ad.enc b).toArray) (bs := [decide (a.fam = b.fam), (List.range 16).all fun i => if h : i < 16 then decide (a.b ⟨i, h⟩ = b.b ⟨i, h⟩) else true])
    Try.underlying51 (by kernel_rfl) (by decide) rfl (fun i f c hf hc => by
      match i with
      | 0 =>
        simp only [List.getElem?_cons_zero, Option.some.injEq] at hf hc
        subst hf; subst hc
        exact ⟨.int .i64 a.fam, .int .i64 b.fam, part_cell rfl rfl, part_cell rfl rfl, eqIn_int (by omega) _ _⟩
      | 1 =>
        simp only [List.getElem?_cons_succ, List.getElem?_cons_zero, Option.some.injEq] at hf hc
        subst hf; subst hc
        exact ⟨.agg (cells16 a.b).toArray, .agg (cells16 b.b).toArray, ad_part a w, ad_part b w, hB⟩
      | k + 2 => simp at hf)
  have e : El.ad.val a = .agg (El.ad.enc a).toArray := rfl
  have e2 : El.ad.val b = .agg (El.ad.enc b).toArray := rfl
  rw [e, e2, h]
  refine congrArg (fun x => Result.ok x w) ?_
  rw [Bool.eq_iff_iff]
  simp only [List.all_cons, List.all_nil, id, Bool.and_true, Bool.and_eq_true, decide_eq_true_eq, List.all_eq_true, List.mem_range]
  constructor
  · rintro ⟨h1, h2⟩
    refine Ad.ext' h1 fun i => ?_
    have := h2 i.val i.isLt
    rw [dif_pos i.isLt] at this
    simpa using this
  · intro h; subst h
    exact ⟨rfl, fun i hi => by rw [dif_pos hi]; simp⟩

def Ad.zero : Ad := ⟨0, fun _ => 0⟩
instance eqvAd : EqV Try.prog 51 El.ad := ⟨fun n w a b hn => ad_eqIn n w a b (by omega)⟩
end Go.Proofs.Ytfkdfnookacgiaa
