/- The engine: what is read of others; three operations that may come up. No statement of the seat is proved here. -/
import Derived.Test.YtfkdfnookacgiaaEng9
set_option linter.unusedVariables false
set_option linter.unusedSimpArgs false
namespace Go.Proofs.Ytfkdfnookacgiaa
open Go
def Rdx {α : Type} (g : G) (E : El α) (v : Value) (l : List α) : Prop := ∃ c, c < 2 ∧ Rd g c E v l
section
variable {α : Type} {E : El α} {g h : G} {v : Value} {l : List α} {M : List Nat} {c : Nat}
theorem Rd.x (hr : Rd g c E v l) (hc : c < 2 := by omega) : Rdx g E v l := ⟨c, hc, hr⟩
theorem Rdx.go (hr : Rdx g E v l) (hs : Step [] M g h) (hM : ∀ x ∈ M, 2 ≤ x := by simp) : Rdx h E v l := by
  obtain ⟨c, hc, hr⟩ := hr
  exact ⟨c, hc, hr.step hs (fun h => by have := hM _ h; omega)⟩
theorem Rdx.seen (hr : Rdx g E v l) (hv : View M g h) (ho : Out M g h) (hM : ∀ x ∈ M, 2 ≤ x := by simp) : Rdx h E v l := by
  obtain ⟨c, hc, hr⟩ := hr
  obtain ⟨c', hc', h⟩ := hr.seen hv ho (fun h => by have := hM _ h; omega)
  exact ⟨c', hc', h⟩
theorem Rdx.isSl (hr : Rdx g E v l) : IsSl v l.length := by obtain ⟨c, _, h⟩ := hr; exact h.isSl
end
section
variable {P : Program} {Z : Exit → Act → World → Prop} {N : Nat} {k : List It} {s : Env} {w : World} {ops : Array Oper} {st : Option Nat} {S : World → Prop} {fuel : Nat} {listed : Array Bool}
/-- Three that may come up. -/
theorem d_exec3 (i j q : Nat) {o o2 o3 : Oper} (hr : Region.ready .any ops listed = [i, j, q]) (hi : ops[i]? = some o) (hj : ops[j]? = some o2) (hq : ops[q]? = some o3)
    (h : Wp P Z N (.ops ops [o] :: .goal (Dnext P Z k ops st S fuel (listed.setIfInBounds i true)) :: k) s w)
    (h2 : Wp P Z N (.ops ops [o2] :: .goal (Dnext P Z k ops st S fuel (listed.setIfInBounds j true)) :: k) s w)
    (h3 : Wp P Z N (.ops ops [o3] :: .goal (Dnext P Z k ops st S fuel (listed.setIfInBounds q true)) :: k) s w) :
    WpD P Z N k ops st S (fuel + 1) listed s w := fun hS a ha =>
  ⟨fun h0 => (by rw [hr] at h0; cases h0), fun x hx => by
    rw [hr] at hx
    simp at hx
    rcases hx with rfl | rfl | rfl
    · exact d_one x hi h ha
    · exact d_one x hj h2 ha
    · exact d_one x hq h3 ha⟩
end
end Go.Proofs.Ytfkdfnookacgiaa
