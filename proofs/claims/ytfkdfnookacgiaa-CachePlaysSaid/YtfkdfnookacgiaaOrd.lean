/- Plain laws: sorted lists, the least of a list. No statement of the seat is proved here. -/
import Derived.Test.YtfkdfnookacgiaaCmp
import Derived.Test.YtfkdfnookacgiaaSort
set_option linter.unusedVariables false
set_option linter.unusedSimpArgs false
namespace Go.Proofs.Ytfkdfnookacgiaa
open Go Go.Sort

section
variable {α : Type} {c : α → α → Int}
theorem ltOf_iff (x y : α) : ltOf c x y = true ↔ c x y < 0 := by unfold ltOf; simp
theorem ltOf_no (x y : α) : ltOf c x y = false ↔ 0 ≤ c x y := by unfold ltOf; simp
theorem IsCmp.swo (h : IsCmp c) : SWO (ltOf c) where
  irrefl := fun x => by rw [ltOf_no, (h.eq x x).2 rfl]; omega
  trans := fun x y z h1 h2 => by
    rw [ltOf_iff] at *
    have h3 := h.trans x y z (by omega) (by omega)
    have h4 : c x z ≠ 0 := fun e => by
      have e := (h.eq x z).1 e
      subst e
      have := h.anti x y
      omega
    omega
  ntrans := fun x y z h1 h2 => by
    rw [ltOf_no] at *
    have a1 := h.anti x y
    have a2 := h.anti y z
    have a3 := h.anti x z
    have := h.trans z y x (by omega) (by omega)
    omega
theorem IsCmp.tot (h : IsCmp c) (x y : α) (h1 : ltOf c x y = false) (h2 : ltOf c y x = false) : x = y := by
  rw [ltOf_no] at *
  have := h.anti x y
  exact (h.eq x y).1 (by omega)
/-- The list, sorted. -/
def srt (c : α → α → Int) (l : List α) : List α := l.mergeSort fun x y => !(ltOf c) y x
theorem srt_perm (c : α → α → Int) (l : List α) : (srt c l).Perm l := List.mergeSort_perm l _
def Srtd (c : α → α → Int) (l : List α) : Prop := l.Pairwise fun x y => c x y ≤ 0
theorem srt_srtd (h : IsCmp c) (l : List α) : Srtd c (srt c l) := by
  have := List.pairwise_mergeSort (le := fun x y => !(ltOf c) y x) (fun x y z h1 h2 => by
    simp only [Bool.not_eq_true', ltOf_no] at *
    have a1 := h.anti x y
    have a2 := h.anti y z
    have a3 := h.anti x z
    have := h.trans x y z (by omega) (by omega)
    omega) (fun x y => by
    simp only [Bool.or_eq_true, Bool.not_eq_true', ltOf_no]
    have := h.anti x y
    omega) l
  refine List.Pairwise.imp (fun {x y} hxy => ?_) this
  simp only [Bool.not_eq_true', ltOf_no] at hxy
  have := h.anti x y
  omega
theorem srtd_eq (h : IsCmp c) : ∀ (l m : List α), Srtd c l → Srtd c m → l.Perm m → l = m
  | [], m, _, _, hp => by rw [hp.nil_eq]
  | x :: l, m, hl, hm, hp => by
    cases m with
    | nil => exact absurd hp.symm.nil_eq (by simp)
    | cons y m =>
      have hl' : (∀ z ∈ l, c x z ≤ 0) ∧ Srtd c l := List.pairwise_cons.1 hl
      have hm' : (∀ z ∈ m, c y z ≤ 0) ∧ Srtd c m := List.pairwise_cons.1 hm
      have e : x = y := by
        have h1 : x ∈ y :: m := hp.mem_iff.1 (by simp)
        have h2 : y ∈ x :: l := hp.mem_iff.2 (by simp)
        rcases List.mem_cons.1 h1 with h1 | h1
        · exact h1
        · rcases List.mem_cons.1 h2 with h2 | h2
          · exact h2.symm
          · have a1 := hl'.1 y h2
            have a2 := hm'.1 x h1
            have := h.anti x y
            exact (h.eq x y).1 (by omega)
      subst e
      rw [srtd_eq h l m hl'.2 hm'.2 ((List.perm_cons x).1 hp)]
theorem srt_of_perm (h : IsCmp c) {l m : List α} (hp : l.Perm m) : srt c l = srt c m :=
  srtd_eq h _ _ (srt_srtd h l) (srt_srtd h m) (((srt_perm c l).trans hp).trans (srt_perm c m).symm)
theorem srt_of_srtd (h : IsCmp c) {l : List α} (hl : Srtd c l) : srt c l = l := srtd_eq h _ _ (srt_srtd h l) hl (srt_perm c l)
theorem srt_len (c : α → α → Int) (l : List α) : (srt c l).length = l.length := (srt_perm c l).length_eq
end

/-- The first of those that f makes least. -/
def leastBy {α : Type} (f : α → Int) : α → List α → α
  | b, [] => b
  | b, x :: l => leastBy f (if f x < f b then x else b) l
theorem leastBy_mem {α : Type} (f : α → Int) : ∀ (l : List α) (b : α), leastBy f b l ∈ b :: l
  | [], b => by simp [leastBy]
  | x :: l, b => by
    rw [leastBy]
    by_cases h : f x < f b
    · rw [if_pos h]
      rcases List.mem_cons.1 (leastBy_mem f l x) with e | e
      · rw [e]; simp
      · simp [e]
    · rw [if_neg h]
      rcases List.mem_cons.1 (leastBy_mem f l b) with e | e
      · rw [e]; simp
      · simp [e]
theorem leastBy_map {α β : Type} (f : α → Int) (p : α → β) (t : β → Int) : ∀ (l : List α) (b : α), (∀ x ∈ b :: l, t (p x) = f x) → p (leastBy f b l) = leastBy t (p b) (l.map p)
  | [], b, _ => rfl
  | x :: l, b, h => by
    rw [leastBy, List.map_cons, leastBy]
    have hx := h x (by simp)
    have hb := h b (by simp)
    rw [hx, hb]
    rw [leastBy_map f p t l _ (fun y hy => by
      split at hy <;> rcases List.mem_cons.1 hy with e | e
      · rw [e]; exact hx
      · exact h y (by simp [e])
      · rw [e]; exact hb
      · exact h y (by simp [e]))]
    congr 1
    split <;> rfl
theorem leastBy_append {α : Type} (f : α → Int) : ∀ (l m : List α) (b : α), leastBy f b (l ++ m) = leastBy f (leastBy f b l) m
  | [], m, b => rfl
  | x :: l, m, b => by rw [List.cons_append, leastBy, leastBy, leastBy_append f l m]
end Go.Proofs.Ytfkdfnookacgiaa
