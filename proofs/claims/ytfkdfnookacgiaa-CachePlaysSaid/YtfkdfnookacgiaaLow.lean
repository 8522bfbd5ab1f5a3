/- Small letters: the program's and the reference's Lower; Few. No statement of the seat is proved here. -/
import Derived.Test.YtfkdfnookacgiaaEng9
import Derived.Test.YtfkdfnookacgiaaTypes
import Derived.Laws.IdiomCopy
set_option linter.unusedVariables false
set_option linter.unusedSimpArgs false
namespace Go.Proofs.Ytfkdfnookacgiaa
open Go

def lowC (c : UInt8) : UInt8 := if 65 ≤ (c.toNat : Int) ∧ (c.toNat : Int) ≤ 90 then c + 32 else c
def lowB (s : List UInt8) : List UInt8 := s.map lowC
theorem lowB_len (s : List UInt8) : (lowB s).length = s.length := by simp [lowB]
theorem lowC_idem (c : UInt8) : lowC (lowC c) = lowC c := by
  unfold lowC
  by_cases h : 65 ≤ (c.toNat : Int) ∧ (c.toNat : Int) ≤ 90
  · rw [if_pos h]
    have : (c + 32).toNat = c.toNat + 32 := by simp [UInt8.toNat_add]; omega
    rw [if_neg (by omega)]
  · rw [if_neg h, if_neg h]
theorem lowB_idem (s : List UInt8) : lowB (lowB s) = lowB s := by
  unfold lowB
  rw [List.map_map]
  congr 1
  funext c
  exact lowC_idem c

/-- Bytes of a conversion's own row, which may be written. -/
def MuB (g : G) (c b : Nat) (l : List UInt8) : Prop :=
  g.col b = c ∧ ∃ cur T fz, g.w.heap[b]? = some (.cells cur T fz) ∧ l.length ≤ cur.size ∧ l.length ≤ fz.1 ∧ ∀ i, i < l.length → cur[i]? = (l[i]?).map bv
theorem MuB.lt {g : G} {c b : Nat} {l : List UInt8} (h : MuB g c b l) : b < g.w.heap.size := by
  obtain ⟨_, cur, T, fz, h1, _⟩ := h
  exact (Array.getElem?_eq_some_iff.1 h1).1
theorem MuB.go {g h : G} {c b : Nat} {l : List UInt8} {M : List Nat} (hm : MuB g c b l) (hs : Step [] M g h) (hM : c ∉ M := by simp) : MuB h c b l := by
  have hlt := hm.lt
  obtain ⟨h0, cur, T, fz, h1, h2⟩ := hm
  have := hs.keep b hlt (by simp) (by rw [h0]; exact hM)
  exact ⟨this.2.trans h0, cur, T, fz, this.1.trans h1, h2⟩
theorem MuB.rd {g : G} {c b cap : Nat} {l : List UInt8} (hm : MuB g c b l) (hc : l.length ≤ cap) (hm2 : cap ≤ maxLen) : Rd g c El.u8 (.slice (some ⟨b, 0, none⟩) l.length cap) l := by
  have hlt := hm.lt
  obtain ⟨h0, cur, T, fz, h1, h2, h3, h4⟩ := hm
  refine ⟨_, cap, rfl, hc, hm2, .inr ⟨_, rfl, hlt, h0, fun i hi j hj => ?_⟩⟩
  have hj0 : j = 0 := by simp only [El.u8] at hj; omega
  subst hj0
  simp only [El.u8, Nat.mul_one, Nat.add_zero]
  rw [addr_add, Nat.zero_add]
  simp only [World.cell?, h1]
  have := h4 i hi
  rw [List.getElem?_eq_getElem hi] at this
  simpa using this
section
variable {P : Program} {Z : Exit → Act → World → Prop} {N : Nat} {k : List It} {s : Env} {w : World} {g : G}
variable {all : Array Oper} {rest : List Oper} {op : Op} {ty : TypeId} {pos : String} {af : Array Edge} {d : Nat} {v : Value}
/-- []byte(s): a slice that may be written. -/
theorem w_s2bM (c : Nat) {x : Operand} {S T e : TypeId} [hS : Und P S .string] [hT : Und P T (.slice e)] [he : Und P e (.int .u8)] {l : List UInt8} (hx : evalS s x = some (.string ⟨l.toArray⟩)) (hl : l.length ≤ 140737488355328) (hdN : Nat.ble (d + 1) N = true)
    (hk : ∀ h b cap, Step [] [] g h → l.length ≤ cap → cap ≤ maxLen → MuB h c b l → Wp P Z N (.ops all rest :: k) ((d, .slice (some ⟨b, 0, none⟩) l.length cap) :: s) h.w) :
    Wp P Z N (.ops all (⟨some d, .convert S T x, ty, pos, af, none⟩ :: rest) :: k) s g.w := by
  let b : ByteArray := ⟨l.toArray⟩
  have hsz : b.size = l.length := by simp [b, ByteArray.size]
  let h : G := ⟨Lib.bytesWorld g.w e b, fun x => if x = g.w.heap.size then c else g.col x⟩
  have hge := grownCap_ge g.w l.length 0 e
  refine w_val (v := .slice (some ⟨g.w.heap.size, 0, none⟩) l.length (grownCap g.w l.length 0 e)) (w' := h.w) (fun ac ha => ?_) hdN (hk h g.w.heap.size _ ?_ hge (grownCap_le_maxLen _ _ _ _ (by simp only [maxLen]; omega)) ⟨if_pos rfl, ?_⟩)
  · simp only [execOp, ha.eval hx]
    rw [Sem.run_bind, Lib.run_convert_string_bytes g.w S T e b hS.eq hT.eq he.eq, hsz]; rfl
  · refine ⟨?_, ?_, ?_, run_drawn _ _ (Lib.run_convert_string_bytes (P := P) g.w S T e b hS.eq hT.eq he.eq), by show g.w.heap.size ≤ (Lib.bytesWorld g.w e b).heap.size; rw [Lib.bytesWorld_size]; omega, fun x hx _ _ => ⟨Lib.bytesWorld_at_old _ _ _ _ hx, if_neg (by omega)⟩⟩
    all_goals (show _ = _; simp only [h, Lib.bytesWorld, World.freeze]; rfl)
  · refine ⟨_, _, _, Lib.bytesWorld_at_new g.w e b, ?_, ?_, fun i hi => ?_⟩
    · simp [Lib.bytesCells, b]
    · simp [Lib.bytesCells, b]
    · simp [Lib.bytesCells, b, Array.getElem?_append, hi, bv]
theorem w_storeB {p x : Operand} {T : TypeId} {bts : Nat} {z : Value} [hi : Inf P T 1 bts z] {c b i cap n : Nat} {l : List UInt8} {y : UInt8} (hm : MuB g c b l) (hp : evalS s p = some (.pointer (elemA (.slice (some ⟨b, 0, none⟩) n cap) (i * 1)))) (hx : evalS s x = some (bv y)) (hil : i < l.length)
    (hk : ∀ h, Step [] [c] g h → MuB h c b (l.set i y) → Wp P Z N (.ops all rest :: k) s h.w) :
    Wp P Z N (.ops all (⟨none, .store T p x, ty, pos, af, none⟩ :: rest) :: k) s g.w := by
  have hlt := hm.lt
  obtain ⟨h0, cur, T', fz, h1, h2, h3, h4⟩ := hm
  have ep : elemA (.slice (some ⟨b, 0, none⟩) n cap) (i * 1) = some ⟨b, i, none⟩ := by simp [elemA, addr_add]
  rw [ep] at hp
  let h : G := ⟨g.w.setCell ⟨b, i, none⟩ (bv y), g.col⟩
  have hh : h.w.heap[b]? = some (.cells (cur.setIfInBounds i (bv y)) T' fz) := by
    show (g.w.setCell ⟨b, i, none⟩ (bv y)).heap[b]? = _
    simp [World.setCell, Array.getElem?_modify, h1]
  have hs : Step [b] [] g h := ⟨rfl, rfl, rfl, Nat.le_refl _, by show g.w.heap.size ≤ (g.w.setCell _ _).heap.size; simp [World.setCell], fun q hq hqb _ => ⟨by
    have hne : ¬ b = q := fun e => hqb (by simp [e])
    show (g.w.setCell ⟨b, i, none⟩ (bv y)).heap[q]? = _
    simp [World.setCell, Array.getElem?_modify, hne], rfl⟩⟩
  have hcell : (g.w.cell? ⟨b, 0 + i + 0, none⟩).isSome = true := by
    simp only [World.cell?, h1, Nat.zero_add, Nat.add_zero]
    rw [h4 i hil, List.getElem?_eq_getElem hil]; rfl
  have hfr : g.w.frozen? ⟨b, 0 + i + 0, none⟩ = false := by
    simp only [World.frozen?, h1, Nat.zero_add, Nat.add_zero]
    simp; omega
  refine w_drop (w' := h.w) (fun ac ha => ?_) (hk h (hs.cols (fun q hq _ => by simp at hq; subst hq; simp [h0]) (by simp)) ⟨h0, _, _, _, hh, by simpa using h2, by simpa using h3, fun j hj => ?_⟩)
  · simp only [execOp, ha.eval hp, ha.eval hx]
    have hst := run_storeCells_cells (P := P) b 0 [bv y] i g.w (fun j hj => by simp at hj; subst hj; exact hcell) (fun j hj => by simp at hj; subst hj; exact hfr) (by intro v hv; simp at hv; subst hv; rfl)
    have ea : (⟨b, 0, none⟩ : Addr).add i = ⟨b, i, none⟩ := by rw [addr_add, Nat.zero_add]
    have hrun : (Instr.storeAt T (.pointer (some ⟨b, i, none⟩)) (bv y)).run P g.w = .ok () h.w := by
      have hst2 : (storeCells ⟨b, i, none⟩ [bv y] 0).run P g.w = .ok () h.w := by
        simp only [storeCells] at hst ⊢
        rw [ea] at hst
        rw [show (⟨b, i, none⟩ : Addr).add 0 = ⟨b, i, none⟩ by rw [addr_add, Nat.add_zero]]
        simpa [World.setCells, h] using hst
      have hc1 : (bv y).cells = #[bv y] := rfl
      simp [Instr.storeAt, Instr.sureAddr, storeVar, sizeOf_inf hi, hc1, hst2]
    rw [Sem.run_bind, hrun]; rfl
  · rw [List.length_set] at hj
    rw [Array.getElem?_setIfInBounds, List.getElem?_set]
    by_cases e : i = j
    · subst e
      rw [if_pos rfl, if_pos rfl, if_pos (by omega), if_pos hj]; rfl
    · rw [if_neg e, if_neg e]; exact h4 j hj
end
end Go.Proofs.Ytfkdfnookacgiaa
