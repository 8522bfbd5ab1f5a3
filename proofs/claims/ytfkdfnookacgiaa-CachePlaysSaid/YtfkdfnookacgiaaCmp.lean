/- Plain laws of comparing; bytes that the model's entries read. No statement of the seat is proved here. -/
import Derived.Test.YtfkdfnookacgiaaMap
import Derived.Lib.Bytealg
import Derived.Lib.BytesEntry
set_option linter.unusedVariables false
set_option linter.unusedSimpArgs false
namespace Go.Proofs.Ytfkdfnookacgiaa
open Go

/-- A function that says which comes first. -/
structure IsCmp {α : Type} (c : α → α → Int) : Prop where
  val : ∀ a b, c a b = -1 ∨ c a b = 0 ∨ c a b = 1
  eq : ∀ a b, c a b = 0 ↔ a = b
  anti : ∀ a b, c b a = - c a b
  trans : ∀ a b d, c a b ≤ 0 → c b d ≤ 0 → c a d ≤ 0
def cmpI (a b : Int) : Int := if a < b then -1 else if b < a then 1 else 0
theorem isCmpI : IsCmp cmpI where
  val := fun a b => by unfold cmpI; split <;> (try split) <;> simp
  eq := fun a b => by unfold cmpI; split <;> (try split) <;> omega
  anti := fun a b => by unfold cmpI; split <;> (try split) <;> (try split) <;> omega
  trans := fun a b d => by unfold cmpI; split <;> (try split) <;> (try split) <;> (try split) <;> (try split) <;> omega
def cmpS (a b : List UInt8) : Int := Lib.compareBytes a b
theorem isCmpS : IsCmp cmpS where
  val := fun a => by
    unfold cmpS
    induction a with
    | nil => intro b; cases b <;> simp [Lib.compareBytes]
    | cons x a ih =>
      intro b
      cases b with
      | nil => simp [Lib.compareBytes]
      | cons y b =>
        rw [Lib.compareBytes]
        split
        · simp
        · split
          · simp
          · exact ih b
  eq := fun a => by
    unfold cmpS
    induction a with
    | nil => intro b; cases b <;> simp [Lib.compareBytes]
    | cons x a ih =>
      intro b
      cases b with
      | nil => simp [Lib.compareBytes]
      | cons y b =>
        rw [Lib.compareBytes]
        split
        · rename_i h
          have : x ≠ y := fun e => by rw [e] at h; exact UInt8.lt_irrefl _ h
          simp [this]
        · split
          · rename_i h h2
            have : x ≠ y := fun e => by rw [e] at h2; exact UInt8.lt_irrefl _ h2
            simp [this]
          · rename_i h h2
            have : x = y := UInt8.le_antisymm (UInt8.not_lt.1 h2) (UInt8.not_lt.1 h)
            rw [ih b, this]; simp
  anti := fun a => by
    unfold cmpS
    induction a with
    | nil => intro b; cases b <;> simp [Lib.compareBytes]
    | cons x a ih =>
      intro b
      cases b with
      | nil => simp [Lib.compareBytes]
      | cons y b =>
        rw [Lib.compareBytes, Lib.compareBytes]
        by_cases h : x < y
        · have h2 : ¬ y < x := UInt8.lt_asymm h
          simp [h, h2]
        · by_cases h2 : y < x
          · simp [h, h2]
          · simp only [if_neg h, if_neg h2]; exact ih b
  trans := fun a => by
    unfold cmpS
    induction a with
    | nil => intro b d; cases d <;> simp [Lib.compareBytes]
    | cons x a ih =>
      intro b d
      cases b with
      | nil => simp [Lib.compareBytes]
      | cons y b =>
        cases d with
        | nil => simp [Lib.compareBytes]
        | cons z d =>
          rw [Lib.compareBytes, Lib.compareBytes, Lib.compareBytes]
          by_cases h : x < y
          · by_cases h2 : z < y
            · intro _ hx; rw [if_neg (UInt8.lt_asymm h2), if_pos h2] at hx; omega
            · have h3 : x < z := UInt8.lt_of_lt_of_le h (UInt8.not_lt.1 h2)
              intro _ _; rw [if_pos h3]; omega
          · by_cases h1 : y < x
            · intro hx; rw [if_neg h, if_pos h1] at hx; omega
            · have : x = y := UInt8.le_antisymm (UInt8.not_lt.1 h1) (UInt8.not_lt.1 h)
              subst this
              rw [if_neg h, if_neg h]
              by_cases h2 : x < z
              · intro _ _; rw [if_pos h2]; omega
              · by_cases h3 : z < x
                · intro _ hx; rw [if_neg h2, if_pos h3] at hx; omega
                · intro h4 h5; rw [if_neg h2, if_neg h3] at *; exact ih b d h4 h5
/-- One behind the other. -/
def orI (a b : Int) : Int := if a ≠ 0 then a else b
theorem IsCmp.lex {α β : Type} {c : α → α → Int} {d : β → β → Int} (hc : IsCmp c) (hd : IsCmp d) : IsCmp (fun x y : α × β => orI (c x.1 y.1) (d x.2 y.2)) where
  val := fun a b => by
    dsimp only [orI]; split
    · exact hc.val _ _
    · exact hd.val _ _
  eq := fun a b => by
    dsimp only [orI]
    have h1 := hc.eq a.1 b.1
    have h2 := hd.eq a.2 b.2
    rw [Prod.ext_iff]
    split
    · rename_i h; simp only [h, false_iff]; exact fun e => h (h1.2 e.1)
    · rename_i h
      have h := Decidable.not_not.1 h
      rw [h2, h1.1 h]; simp
  anti := fun a b => by
    dsimp only [orI]
    rw [hc.anti a.1 b.1, hd.anti a.2 b.2]
    split <;> split <;> omega
  trans := fun a b e => by
    dsimp only [orI]
    intro x y
    have t1 := hc.trans a.1 b.1 e.1
    have e1 := hc.eq a.1 b.1
    have e2 := hc.eq b.1 e.1
    have e3 := hc.eq a.1 e.1
    have t2 := hd.trans a.2 b.2 e.2
    by_cases h1 : c a.1 b.1 = 0
    · rw [if_neg (by omega)] at x
      have := e1.1 h1
      rw [this]
      by_cases h2 : c b.1 e.1 = 0
      · rw [if_neg (by omega)] at y ⊢
        exact t2 x y
      · rw [if_pos h2] at y ⊢; exact y
    · rw [if_pos h1] at x
      by_cases h2 : c b.1 e.1 = 0
      · have := e2.1 h2
        rw [← this, if_pos h1]; exact x
      · rw [if_pos h2] at y
        have t := t1 x y
        by_cases h3 : c a.1 e.1 = 0
        · exfalso
          have := e3.1 h3
          have h4 := hc.anti a.1 b.1
          rw [this] at h4 x h1
          omega
        · rw [if_pos h3]; exact t
theorem IsCmp.on {α β : Type} {c : α → α → Int} (hc : IsCmp c) (f : β → α) (hf : ∀ x y, f x = f y → x = y) : IsCmp (fun x y => c (f x) (f y)) where
  val := fun a b => hc.val _ _
  eq := fun a b => by rw [hc.eq]; exact ⟨hf a b, fun e => by rw [e]⟩
  anti := fun a b => hc.anti _ _
  trans := fun a b d => hc.trans _ _ _

theorem less_cmp (a b : List UInt8) : Op.bytesLess a b = decide (cmpS a b = -1) := by
  unfold cmpS
  induction a generalizing b with
  | nil => cases b <;> simp [Op.bytesLess, Lib.compareBytes]
  | cons x a ih =>
    cases b with
    | nil => simp [Op.bytesLess, Lib.compareBytes]
    | cons y b =>
      rw [Op.bytesLess, Lib.compareBytes, ih b]
      by_cases h : x < y
      · simp [h]
      · by_cases h2 : y < x
        · have : x ≠ y := fun e => by rw [e] at h2; exact UInt8.lt_irrefl _ h2
          simp [h, h2, this]
        · have : x = y := UInt8.le_antisymm (UInt8.not_lt.1 h2) (UInt8.not_lt.1 h)
          simp [h, h2, this]
theorem cmpS_not {a b : List UInt8} (h : ¬ Op.bytesLess a b = true) : cmpS a b = if a = b then 0 else 1 := by
  rw [less_cmp] at h
  have h1 := isCmpS.val a b
  have h2 := isCmpS.eq a b
  simp only [decide_eq_true_eq] at h
  split
  · rename_i e; exact h2.2 e
  · rename_i e
    have : ¬ cmpS a b = 0 := fun x => e (h2.1 x)
    omega

section
variable {P : Program} {w : World}
theorem run_bytesOf {g : G} {c : Nat} {v : Value} {l : List UInt8} (hr : Rd g c El.u8 v l) : (Extern.Bytes.bytesOf v).run P g.w = .ok ⟨l.toArray⟩ g.w := by
  obtain ⟨A, cap, rfl, h1, h2, h3⟩ := hr
  rcases h3 with rfl | ⟨a, rfl, hlt, hcol, hcell⟩
  · cases A with
    | none => rfl
    | some a => simp [Extern.Bytes.bytesOf, Extern.Bytes.loadBytes]; rfl
  · have hl := Lib.run_loadBytesX (P := P) (w := g.w) (l.map fun x => (x.toNat : Int)) a .empty (fun j x hj => by
      rw [List.getElem?_map] at hj
      cases h : l[j]? with
      | none => rw [h] at hj; cases hj
      | some y =>
        rw [h] at hj
        injection hj with hj
        subst hj
        have hjl : j < l.length := (List.getElem?_eq_some_iff.1 h).1
        have := hcell j hjl 0 (by decide)
        simp only [El.u8, Nat.mul_one, Nat.add_zero] at this
        rw [this, (List.getElem?_eq_some_iff.1 h).2]
        rfl)
    rw [List.length_map] at hl
    simp only [Extern.Bytes.bytesOf]
    rw [hl]
    congr 1
    apply ByteArray.ext
    simp [Lib.bytesOf, List.map_map, Function.comp_def]
theorem run_cmpBytes {g : G} {c d : Nat} {u v : Value} {l k : List UInt8} (hu : Rd g c El.u8 u l) (hv : Rd g d El.u8 v k) :
    (Extern.BytealgCompare.compare #[u, v]).run P g.w = .ok (.int .i64 (cmpS l k)) g.w := by
  change Sem.run P (do pure (goInt (Extern.BytealgCompare.cmp (← Extern.Bytes.bytesOf u) (← Extern.Bytes.bytesOf v)))) g.w = _
  simp only [Sem.run_bind, run_bytesOf hu, run_bytesOf hv, Result.andThen, Sem.run_pure]
  rw [Lib.cmp_eq]
  rfl
end
end Go.Proofs.Ytfkdfnookacgiaa
