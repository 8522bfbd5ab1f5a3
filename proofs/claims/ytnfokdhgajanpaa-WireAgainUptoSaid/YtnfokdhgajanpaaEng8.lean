/- The engine, part 8: capacities, pointers held against each other, unsafe pointers, as strings.Builder needs them. No statement of the seat is proved here. -/
import Derived.Test.YtnfokdhgajanpaaEng7
import Derived.Laws.IdiomCopy
set_option linter.unusedVariables false
set_option linter.unusedSimpArgs false
namespace Go.Proofs.Ytnfokdhgajanpaa
open Go

section
variable {P : Program} {Z : Exit → Act → World → Prop} {N : Nat} {k : List It} {s : Env} {w : World} {g : G}
variable {all : Array Oper} {rest : List Oper} {op : Op} {ty : TypeId} {pos : String} {af : Array Edge} {d : Nat} {v : Value}

theorem r_capSl {x : Operand} {T e : TypeId} [hT : Und P T (.slice e)] {A : Option Addr} {n cap : Nat} (hx : evalS s x = some (.slice A n cap)) :
    ∀ ac, Fits N s ac → (execOp ac.eval ⟨some d, .call { callee := .builtin .cap, args := #[x], argTypes := #[T] }, ty, pos, af, none⟩).run P w = .ok (.value (.int .i64 (cap : Int))) w :=
  fun ac ha => by
    simp only [execOp, resolve, invoke, builtin, List.map_toArray, List.map_cons, List.map_nil, ha.eval hx]
    simp [Builtin.cap_, run_underlying hT.eq, goInt]
theorem w_ptrEqNil {x y : Operand} {T yt e : TypeId} [hT : Und P T (.pointer e)] {r : Option Addr} (hx : evalS s x = some (.pointer r)) (hy : evalS s y = some (.pointer none)) (hdN : Nat.ble (d + 1) N = true)
    (hk : Wp P Z N (.ops all rest :: k) ((d, .bool r.isNone) :: s) w) : Wp P Z N (.ops all (⟨some d, .binOp .eql T x y yt, ty, pos, af, none⟩ :: rest) :: k) s w :=
  w_val (fun ac ha => by
    simp only [execOp, ha.eval hx, ha.eval hy]
    have he : (eqGuard .eql T x y (.pointer r) (.pointer none)).run P w = .ok () w := rfl
    have h1 : ∀ q, (Op.equalIn (q + 1) T (.pointer r) (.pointer none)).run P w = .ok r.isNone w := fun q => by
      cases r <;> simp [Op.equalIn, run_underlying hT.eq]
    rw [Sem.run_bind, Sem.run_bind, he, Result.andThen_ok]
    simp only [binOp, Op.equal, Op.maxDepth, Sem.run_bind, h1 9999]
    rfl) hdN hk
theorem w_ptrNeSame {x y : Operand} {T yt e : TypeId} [hT : Und P T (.pointer e)] {sz bts : Nat} {z : Value} [hi : Inf P e sz bts z] {a : Addr} (hx : evalS s x = some (.pointer (some a))) (hy : evalS s y = some (.pointer (some a))) (hdN : Nat.ble (d + 1) N = true)
    (hk : Wp P Z N (.ops all rest :: k) ((d, .bool false) :: s) w) : Wp P Z N (.ops all (⟨some d, .binOp .neq T x y yt, ty, pos, af, none⟩ :: rest) :: k) s w :=
  w_val (fun ac ha => by
    obtain ⟨i, hi1, _⟩ := hi.get
    simp only [execOp, ha.eval hx, ha.eval hy]
    have he : (eqGuard .neq T x y (.pointer (some a)) (.pointer (some a))).run P w = .ok () w := rfl
    rw [Sem.run_bind, Sem.run_bind, he, Result.andThen_ok, Lib.run_neq_ptr_same w a hT.eq hi1]
    rfl) hdN hk
theorem Cell.shape {c b : Nat} {T : TypeId} {vs : List Value} (hc : Cell g c b T vs) : g.w.shape? b = some (T, vs.length) := by simp [World.shape?, hc.1]
theorem w_toUnsafe {x : Operand} {S T e T' : TypeId} [hS : Und P S (.pointer e)] [hT : Und P T .unsafePointer] {sz bts : Nat} {z : Value} [hi : Inf P e sz bts z] {c b : Nat} {vs : List Value} (hc : Cell g c b T' vs) (hsz : Nat.ble 1 sz = true) (hl : 0 < vs.length)
    (hx : evalS s x = some (.pointer (some ⟨b, 0, none⟩))) (hdN : Nat.ble (d + 1) N = true)
    (hk : Wp P Z N (.ops all rest :: k) ((d, .pointer (some ⟨b, 0, none⟩)) :: s) g.w) : Wp P Z N (.ops all (⟨some d, .convert S T x, ty, pos, af, none⟩ :: rest) :: k) s g.w :=
  w_val (fun ac ha => by
    obtain ⟨i, hi1, _, hi3, _⟩ := hi.get
    simp only [execOp, ha.eval hx]
    rw [Sem.run_bind, Lib.run_to_unsafe g.w ⟨b, 0, none⟩ hS.eq hT.eq hi1 (by rw [hi3]; have := Nat.le_of_ble_eq_true hsz; omega) hc.shape hl]
    rfl) hdN hk
theorem w_fromUnsafe {x : Operand} {S T e T' : TypeId} [hS : Und P S .unsafePointer] [hT : Und P T (.pointer e)] {sz bts : Nat} {z : Value} [hi : Inf P e sz bts z] {c b : Nat} {vs : List Value} (hc : Cell g c b T' vs)
    (hlies : liesAt P P.depth T' (vs.length / P.cellsOf T') 0 e 1 = true)
    (hx : evalS s x = some (.pointer (some ⟨b, 0, none⟩))) (hdN : Nat.ble (d + 1) N = true)
    (hk : Wp P Z N (.ops all rest :: k) ((d, .pointer (some ⟨b, 0, none⟩)) :: s) g.w) : Wp P Z N (.ops all (⟨some d, .convert S T x, ty, pos, af, none⟩ :: rest) :: k) s g.w :=
  w_val (fun ac ha => by
    obtain ⟨i, hi1, _, hi3, _⟩ := hi.get
    simp only [execOp, ha.eval hx]
    rw [Sem.run_bind, Lib.run_from_unsafe g.w ⟨b, 0, none⟩ hS.eq hT.eq hi1 hc.shape hlies]
    rfl) hdN hk
theorem w_copyNone {x y : Operand} {T T2 e : TypeId} [hT : Und P T (.slice e)] {bts : Nat} {z : Value} [hi : Inf P e 1 bts z] {A A2 : Option Addr} {n cap n2 cap2 : Nat} (hx : evalS s x = some (.slice A n cap)) (hy : evalS s y = some (.slice A2 n2 cap2)) (h0 : min n2 n = 0) (hdN : Nat.ble (d + 1) N = true)
    (hk : Wp P Z N (.ops all rest :: k) ((d, .int .i64 0) :: s) w) : Wp P Z N (.ops all (⟨some d, .call { callee := .builtin .copy, args := #[x, y], argTypes := #[T, T2] }, ty, pos, af, none⟩ :: rest) :: k) s w :=
  w_val (fun ac ha => by
    obtain ⟨i, hi1, _, hi3, _⟩ := hi.get
    simp only [execOp, resolve, invoke, builtin, List.map_toArray, List.map_cons, List.map_nil, ha.eval hx, ha.eval hy]
    have := run_copy_none (P := P) w T T2 ty e A A2 n cap n2 cap2 hT.eq (by rw [hi1]; simp [hi3]) h0
    simp [this, goInt]) hdN hk
theorem r_unsafeData {x : Operand} {T : TypeId} {a : Addr} {n cap : Nat} (hx : evalS s x = some (.slice (some a) n cap)) (hc : cap ≠ 0) :
    ∀ ac, Fits N s ac → (execOp ac.eval ⟨some d, .call { callee := .builtin .unsafeSliceData, args := #[x], argTypes := #[T] }, ty, pos, af, none⟩).run P w = .ok (.value (.pointer (some a))) w :=
  fun ac ha => by
    simp only [execOp, resolve, invoke, builtin, List.map_toArray, List.map_cons, List.map_nil, ha.eval hx]
    simp [Lib.run_unsafeSliceData_row w _ _ a n cap hc]
/-- The head of a slice. -/
theorem r_slTo {x o : Operand} {T e : TypeId} [hT : Und P T (.slice e)] {sz bts : Nat} {z : Value} [hi : Inf P e sz bts z] {q n cap b : Nat} (hx : evalS s x = some (.slice (some ⟨q, 0, none⟩) n cap)) (hoo : evalS s o = some (.int .i64 (b : Int))) (hb : b ≤ cap) :
    ∀ ac, Fits N s ac → (execOp ac.eval ⟨some d, .slice T x none (some o) none, ty, pos, af, none⟩).run P w = .ok (.value (.slice (some ⟨q, 0, none⟩) b cap)) w :=
  fun ac ha => by
    have hbnd : (Instr.sliceBounds true n cap none (some (.int .i64 (b : Int))) none).run P w = .ok (0, b, cap) w := by
      simp [Instr.sliceBounds, sliceBound_nat _ _ _ _ hb]
    simp only [execOp, ha.eval hx, Option.map_none, Option.map_some, ha.eval hoo]
    rw [Sem.run_bind]
    simp only [Instr.sliceAt, Sem.run_bind, run_underlying hT.eq, Result.andThen_ok, Instr.slice, hbnd, sizeOf_inf hi]
    by_cases hc : cap = 0
    · subst hc; simp
    · simp [hc, addr_add]
theorem Step.freeze (g : G) (a : Addr) (n : Nat) : Step [a.block] [] g ⟨g.w.freeze a n, g.col⟩ := by
  unfold World.freeze
  split
  · exact ⟨rfl, rfl, rfl, Nat.le_refl _, Nat.le_refl _, fun _ _ _ _ => ⟨rfl, rfl⟩⟩
  · refine ⟨rfl, rfl, rfl, Nat.le_refl _, by simp, fun x _ hx _ => ⟨?_, rfl⟩⟩
    simp only [Array.getElem?_modify]
    rw [if_neg (fun e => hx (by simp [e]))]
/-- The bytes of an owned slice as a string: it is given up. -/
theorem w_strOf {x y : Operand} {pt it e : TypeId} [hp : Und P pt (.pointer e)] (hcell : P.cellsOf e = 1) {c b cap : Nat} {l : List UInt8} (ho : Own g c El.u8 e (.slice (some ⟨b, 0, none⟩) l.length cap) l) (h0 : l ≠ [])
    (hx : evalS s x = some (.pointer (some ⟨b, 0, none⟩))) (hy : evalS s y = some (.int .i64 (l.length : Int))) (hdN : Nat.ble (d + 1) N = true)
    (hk : ∀ h, Step [] [c] g h → Wp P Z N (.ops all rest :: k) ((d, str l) :: s) h.w) :
    Wp P Z N (.ops all (⟨some d, .call { callee := .builtin .unsafeString, args := #[x, y], argTypes := #[pt, it] }, ty, pos, af, none⟩ :: rest) :: k) s g.w := by
  obtain ⟨⟨hlen, ho2⟩, hcol⟩ := ho
  rcases ho2 with ⟨h, _⟩ | ⟨b', cap', cur, h, _, hb, h1, h2, h3, h4⟩
  · simp at h
  simp only [Value.slice.injEq, Option.some.injEq, Addr.mk.injEq, and_true, true_and] at h
  obtain ⟨rfl, rfl⟩ := h
  have hsh : g.w.shape? b = some (e, cur.size) := by simp [World.shape?, hb]
  have h3' : cur.size = cap := by rw [h3]; exact Nat.mul_one cap
  have hrun := Lib.run_unsafeString_row (P := P) g.w pt it ty e hp.eq hcell b cur.size hsh l h0 (by omega) (by simp only [maxLen] at h2; omega) (fun j x hj => by
    rw [addr_add, Nat.zero_add, cell_of_row g.w b j cur e (0, 0) hb]
    have e1 : (l.flatMap El.u8.enc)[j]? = some (bv x) := by
      obtain ⟨hj1, hj2⟩ := List.getElem?_eq_some_iff.1 hj
      have := enc_flat El.u8 l j hj1 0 (by decide)
      simp only [show El.u8.sz = 1 from rfl, Nat.mul_one, Nat.add_zero] at this
      rw [this, hj2]; rfl
    rw [← h4, List.getElem?_take] at e1
    split at e1
    · rw [← Array.getElem?_toList]; exact e1
    · cases e1)
  refine w_val (w' := (G.mk (g.w.freeze ⟨b, 0, none⟩ l.length) g.col).w) (v := str l) (fun ac ha => ?_) hdN (hk ⟨g.w.freeze ⟨b, 0, none⟩ l.length, g.col⟩ ((Step.freeze g ⟨b, 0, none⟩ _).cols (fun y hy _ => by rw [List.mem_singleton.1 hy, hcol b rfl]; simp) (by simp)))
  simp only [execOp, resolve, invoke, builtin, List.map_toArray, List.map_cons, List.map_nil, ha.eval hx, ha.eval hy]
  simp [hrun, str]
end
end Go.Proofs.Ytnfokdhgajanpaa
