/- The engine, part 4: operations on memory. No statement of the seat is proved here. -/
import Derived.Test.YtnfokdhgajanpaaEng3
set_option linter.unusedVariables false
set_option linter.unusedSimpArgs false
namespace Go.Proofs.Ytnfokdhgajanpaa
open Go

section
variable {P : Program} {Z : Exit → Act → World → Prop} {N : Nat} {k : List It} {s : Env} {w : World} {g : G}
variable {all : Array Oper} {rest : List Oper} {op : Op} {ty : TypeId} {pos : String} {af : Array Edge} {d : Nat} {v : Value}

theorem addr_add (b o n : Nat) : (⟨b, o, none⟩ : Addr).add n = ⟨b, o + n, none⟩ := by
  unfold Addr.add; split
  · rename_i h; subst h; rfl
  · rfl
theorem addr_add_add (a : Addr) (m n : Nat) : (a.add m).add n = a.add (m + n) := by
  unfold Addr.add
  by_cases hm : m = 0
  · subst hm; simp
  · by_cases hn : n = 0
    · subst hn; simp [hm]
    · simp [hm, hn, show ¬ (m = 0 ∧ n = 0) from fun h => hm h.1]
      omega

/-- Where cell j of a slice lies. -/
def elemA : Value → Nat → Option Addr
  | .slice (some a) _ _, j => some (a.add j)
  | _, _ => none

theorem isAgg_und {T : TypeId} {dd : TypeDesc} (h : P.underlying T = some dd) : (isAgg T).run P w = .ok dd.agg w := by
  unfold isAgg
  rw [Sem.run_bind, run_underlying h, Result.andThen_ok]
  cases dd <;> rfl
theorem sizeOf_inf {T : TypeId} {sz bts : Nat} {z : Value} (h : Inf P T sz bts z) : (sizeOf T).run P w = .ok sz w := by
  obtain ⟨i, hi, h1, h2, h3⟩ := h.get
  simp [sizeOf, typeInfo, hi, h2]
theorem zero_inf {T : TypeId} {sz bts : Nat} {z : Value} (h : Inf P T sz bts z) : (zeroValue T).run P w = .ok z w := by
  obtain ⟨i, hi, h1, h2, h3⟩ := h.get
  simp [zeroValue, typeInfo, hi, h1]

/-- Reading a variable whose cells are known. -/
theorem run_loadVar {T : TypeId} {dd : TypeDesc} {sz bts : Nat} {z : Value} (hd : P.underlying T = some dd) (hi : Inf P T sz bts z) (p : Addr) (us : List Value) (hl : us.length = sz) (h1 : dd.agg = false → sz = 1)
    (hc : ∀ j u, us[j]? = some u → w.cell? (p.add j) = some u) : (loadVar T p).run P w = .ok (if dd.agg then .agg us.toArray else us.headD undef) w := by
  unfold loadVar
  rw [Sem.run_bind, isAgg_und hd, Result.andThen_ok]
  cases hdd : dd.agg with
  | true =>
    have := run_loadCells_list (P := P) w p us hc
    rw [hl] at this
    simp [sizeOf_inf hi, this]
  | false =>
    have h1' := h1 hdd
    subst h1'
    obtain ⟨u, rfl⟩ := List.length_eq_one_iff.1 hl
    have := hc 0 u rfl
    have e : p.add 0 = p := by unfold Addr.add; simp
    rw [e] at this
    simp [this]
theorem run_loadAt {T : TypeId} {dd : TypeDesc} {sz bts : Nat} {z : Value} (hd : P.underlying T = some dd) (hi : Inf P T sz bts z) (p : Addr) (us : List Value) (hl : us.length = sz) (h1 : dd.agg = false → sz = 1)
    (hc : ∀ j u, us[j]? = some u → w.cell? (p.add j) = some u) : (Instr.loadAt T (.pointer (some p))).run P w = .ok (if dd.agg then .agg us.toArray else us.headD undef) w := by
  simp [Instr.loadAt, Instr.sureAddr, run_loadVar hd hi p us hl h1 hc]

theorem Cell.cells {c b : Nat} {T : TypeId} {vs : List Value} (hc : Cell g c b T vs) (o n : Nat) (us : List Value) (hus : (vs.drop o).take n = us) : ∀ j u, us[j]? = some u → g.w.cell? ((⟨b, o, none⟩ : Addr).add j) = some u := by
  intro j u hu
  rw [addr_add, hc.at_]
  subst hus
  rw [List.getElem?_take] at hu
  split at hu
  · rw [List.getElem?_drop] at hu; exact hu
  · cases hu

theorem r_load {x : Operand} {T T' : TypeId} {dd : TypeDesc} {sz bts : Nat} {z : Value} [hd : Und P T dd] [hi : Inf P T sz bts z] {c b o : Nat} {vs us : List Value} (hc : Cell g c b T' vs) (hx : evalS s x = some (.pointer (some ⟨b, o, none⟩)))
    (hus : (vs.drop o).take sz = us) (hl : us.length = sz) (h1 : dd.agg = false → sz = 1) :
    ∀ ac, Fits N s ac → (execOp ac.eval ⟨some d, .load T x, ty, pos, af, none⟩).run P g.w = .ok (.value (if dd.agg then .agg us.toArray else us.headD undef)) g.w :=
  fun ac ha => by simp only [execOp, ha.eval hx]; rw [Sem.run_bind, run_loadAt hd.eq hi _ us hl h1 (hc.cells o sz us hus)]; rfl
theorem w_load {x : Operand} {T T' : TypeId} {dd : TypeDesc} {sz bts : Nat} {z : Value} [hd : Und P T dd] [hi : Inf P T sz bts z] {c b o : Nat} {vs us : List Value} (hc : Cell g c b T' vs) (hx : evalS s x = some (.pointer (some ⟨b, o, none⟩)))
    (hus : (vs.drop o).take sz = us) (hl : us.length = sz) (h1 : dd.agg = false → sz = 1) (hdN : Nat.ble (d + 1) N = true)
    (hk : Wp P Z N (.ops all rest :: k) ((d, if dd.agg then .agg us.toArray else us.headD undef) :: s) g.w) : Wp P Z N (.ops all (⟨some d, .load T x, ty, pos, af, none⟩ :: rest) :: k) s g.w :=
  w_val (r_load hc hx hus hl h1) hdN hk
/-- One cell. -/
theorem r_load1 {x : Operand} {T T' : TypeId} {dd : TypeDesc} {bts : Nat} {z : Value} [hd : Und P T dd] [hi : Inf P T 1 bts z] {c b o : Nat} {vs : List Value} (hc : Cell g c b T' vs) (hx : evalS s x = some (.pointer (some ⟨b, o, none⟩)))
    (hv : vs[o]? = some v) (h1 : dd.agg = false) :
    ∀ ac, Fits N s ac → (execOp ac.eval ⟨some d, .load T x, ty, pos, af, none⟩).run P g.w = .ok (.value (v)) g.w :=
  fun ac ha => by
    simp only [execOp, ha.eval hx]
    rw [Sem.run_bind, run_loadAt hd.eq hi ⟨b, o, none⟩ [v] rfl (fun _ => rfl) (fun j u hu => by
      cases j with
      | zero => simp at hu; subst hu; rw [addr_add]; rw [Nat.add_zero, hc.at_]; exact hv
      | succ j => simp at hu), h1]; rfl
theorem w_load1 {x : Operand} {T T' : TypeId} {dd : TypeDesc} {bts : Nat} {z : Value} [hd : Und P T dd] [hi : Inf P T 1 bts z] {c b o : Nat} {vs : List Value} (hc : Cell g c b T' vs) (hx : evalS s x = some (.pointer (some ⟨b, o, none⟩)))
    (hv : vs[o]? = some v) (h1 : dd.agg = false) (hdN : Nat.ble (d + 1) N = true)
    (hk : Wp P Z N (.ops all rest :: k) ((d, v) :: s) g.w) : Wp P Z N (.ops all (⟨some d, .load T x, ty, pos, af, none⟩ :: rest) :: k) s g.w :=
  w_val (r_load1 hc hx hv h1) hdN hk
/-- A struct or array that lies whole at the cells' beginning, or in them. -/
theorem w_loadS {x : Operand} {T T' : TypeId} {dd : TypeDesc} {sz bts : Nat} {z : Value} [hd : Und P T dd] [hi : Inf P T sz bts z] {c b o : Nat} {vs us : List Value} (hc : Cell g c b T' vs) (hx : evalS s x = some (.pointer (some ⟨b, o, none⟩)))
    (hus : (vs.drop o).take sz = us) (hl : us.length = sz) (h1 : dd.agg = true) (hdN : Nat.ble (d + 1) N = true)
    (hk : Wp P Z N (.ops all rest :: k) ((d, .agg us.toArray) :: s) g.w) :
    Wp P Z N (.ops all (⟨some d, .load T x, ty, pos, af, none⟩ :: rest) :: k) s g.w :=
  w_load hc hx hus hl (fun h => by rw [h1] at h; cases h) hdN (by rw [if_pos h1]; exact hk)

theorem Rd.cells {α : Type} {E : El α} {c : Nat} {l : List α} (hr : Rd g c E v l) {i : Nat} {y : α} (hy : l[i]? = some y) : ∃ p, elemA v (i * E.sz) = some p ∧ ∀ j u, (E.enc y)[j]? = some u → g.w.cell? (p.add j) = some u := by
  obtain ⟨A, cap, rfl, _, _, h⟩ := hr
  obtain ⟨hi, he⟩ := List.getElem?_eq_some_iff.1 hy
  rcases h with rfl | ⟨a, rfl, hlt, hc, hcell⟩
  · simp at hi
  · refine ⟨a.add (i * E.sz), rfl, fun j u hu => ?_⟩
    have hj : j < E.sz := by rw [← E.len y]; exact (List.getElem?_eq_some_iff.1 hu).1
    rw [addr_add_add, hcell i hi j hj, he]
    exact hu

/-- &v[i] -/
theorem r_idx {x i : Operand} {T e : TypeId} [hT : Und P T (.slice e)] {α : Type} {E : El α} {bts : Nat} {z : Value} [hi : Inf P e E.sz bts z] {c : Nat} {l : List α} (hr : Rd g c E v l) (hx : evalS s x = some v)
    {kk : IntKind} {n : Int} (hn : evalS s i = some (.int kk n)) (h0 : 0 ≤ n) (hlt : n.toNat < l.length) :
    ∀ ac, Fits N s ac → (execOp ac.eval ⟨some d, .indexAddr T x i, ty, pos, af, none⟩).run P g.w = .ok (.value (.pointer (elemA v (n.toNat * E.sz)))) g.w :=
  fun ac ha => by
    obtain ⟨A, cap, rfl, _, _, h⟩ := hr
    rcases h with rfl | ⟨a, rfl, _⟩
    · simp at hlt
    · have e0 : 0 ≤ n ∧ n < (l.length : Int) := ⟨h0, by omega⟩
      simp [execOp, ha.eval hx, ha.eval hn, Instr.indexAt, asIntOf, run_underlying hT.eq, sizeOf_inf hi, e0, elemA]
theorem w_idx {x i : Operand} {T e : TypeId} [hT : Und P T (.slice e)] {α : Type} {E : El α} {bts : Nat} {z : Value} [hi : Inf P e E.sz bts z] {c : Nat} {l : List α} (hr : Rd g c E v l) (hx : evalS s x = some v)
    {kk : IntKind} {n : Int} (hn : evalS s i = some (.int kk n)) (h0 : 0 ≤ n) (hlt : n.toNat < l.length) (hdN : Nat.ble (d + 1) N = true)
    (hk : Wp P Z N (.ops all rest :: k) ((d, .pointer (elemA v (n.toNat * E.sz))) :: s) g.w) : Wp P Z N (.ops all (⟨some d, .indexAddr T x i, ty, pos, af, none⟩ :: rest) :: k) s g.w :=
  w_val (r_idx hr hx hn h0 hlt) hdN hk
/-- &p.f where p is an element's address -/
theorem r_fldE {x : Operand} {T : TypeId} {f off sz : Nat} {ag : Bool} [hf : FldAt P T f off sz ag] {j : Nat} (hs : ∃ a, elemA v 0 = some a) (h0 : sz ≠ 0) (hx : evalS s x = some (.pointer (elemA v j))) :
    ∀ ac, Fits N s ac → (execOp ac.eval ⟨some d, .fieldAddr T x f, ty, pos, af, none⟩).run P w = .ok (.value (.pointer (elemA v (j + off)))) w :=
  fun ac ha => by
    obtain ⟨a, hs⟩ := hs
    unfold elemA at hs
    split at hs
    · rename_i b _ _ _
      obtain ⟨fs, F, dd, h1, h2, h3, h4, _⟩ := hf.eq
      obtain ⟨i, h4, h5⟩ := Option.map_eq_some_iff.1 h4
      simp [execOp, ha.eval hx, elemA, Instr.fieldAt, run_underlying h1, h2, Instr.sureAddr, fieldPlace, sizeOf, typeInfo, h4, h5, h0, h3, addr_add_add]
    · cases hs
theorem w_fldE {x : Operand} {T : TypeId} {f off sz : Nat} {ag : Bool} [hf : FldAt P T f off sz ag] {j : Nat} (hs : ∃ a, elemA v 0 = some a) (h0 : sz ≠ 0) (hx : evalS s x = some (.pointer (elemA v j))) (hdN : Nat.ble (d + 1) N = true)
    (hk : Wp P Z N (.ops all rest :: k) ((d, .pointer (elemA v (j + off))) :: s) w) : Wp P Z N (.ops all (⟨some d, .fieldAddr T x f, ty, pos, af, none⟩ :: rest) :: k) s w :=
  w_val (r_fldE hs h0 hx) hdN hk
/-- &p.f where p is a block's cell -/
theorem r_fldA {x : Operand} {T : TypeId} {f off sz : Nat} {ag : Bool} [hf : FldAt P T f off sz ag] {b o : Nat} (h0 : sz ≠ 0) (hx : evalS s x = some (.pointer (some ⟨b, o, none⟩))) :
    ∀ ac, Fits N s ac → (execOp ac.eval ⟨some d, .fieldAddr T x f, ty, pos, af, none⟩).run P w = .ok (.value (.pointer (some ⟨b, o + off, none⟩))) w :=
  fun ac ha => by
    obtain ⟨fs, F, dd, h1, h2, h3, h4, _⟩ := hf.eq
    obtain ⟨i, h4, h5⟩ := Option.map_eq_some_iff.1 h4
    simp [execOp, ha.eval hx, Instr.fieldAt, run_underlying h1, h2, Instr.sureAddr, fieldPlace, sizeOf, typeInfo, h4, h5, h0, h3, addr_add]
theorem w_fldA {x : Operand} {T : TypeId} {f off sz : Nat} {ag : Bool} [hf : FldAt P T f off sz ag] {b o : Nat} (h0 : sz ≠ 0) (hx : evalS s x = some (.pointer (some ⟨b, o, none⟩))) (hdN : Nat.ble (d + 1) N = true)
    (hk : Wp P Z N (.ops all rest :: k) ((d, .pointer (some ⟨b, o + off, none⟩)) :: s) w) : Wp P Z N (.ops all (⟨some d, .fieldAddr T x f, ty, pos, af, none⟩ :: rest) :: k) s w :=
  w_val (r_fldA h0 hx) hdN hk
/-- x.f of a struct that is a value -/
theorem r_fld {x : Operand} {T : TypeId} {f off sz : Nat} {ag : Bool} [hf : FldAt P T f off sz ag] {cs : Array Value} {u : Value} (hx : evalS s x = some (.agg cs)) (hu : (if ag then some (.agg (cs.extract off (off + sz))) else cs[off]?) = some u) :
    ∀ ac, Fits N s ac → (execOp ac.eval ⟨some d, .field T x f, ty, pos, af, none⟩).run P w = .ok (.value (u)) w :=
  fun ac ha => by
    obtain ⟨fs, F, dd, h1, h2, h3, h4, h6, h7⟩ := hf.eq
    obtain ⟨i, h4, h5⟩ := Option.map_eq_some_iff.1 h4
    have hag : (isAgg F.type).run P w = .ok ag w := by rw [isAgg_und h6, h7]
    subst h3
    simp only [execOp, ha.eval hx, Instr.field]
    simp only [Sem.run_bind, run_underlying h1, Result.andThen_ok, h2, asAgg, Sem.run_pure, part, hag]
    cases ag with
    | true => simp only [if_true, Option.some.injEq] at hu; subst hu; simp [sizeOf, typeInfo, h4, h5]
    | false => simp only [Bool.false_eq_true, if_false] at hu; simp [hu]
theorem w_fld {x : Operand} {T : TypeId} {f off sz : Nat} {ag : Bool} [hf : FldAt P T f off sz ag] {cs : Array Value} {u : Value} (hx : evalS s x = some (.agg cs)) (hu : (if ag then some (.agg (cs.extract off (off + sz))) else cs[off]?) = some u) (hdN : Nat.ble (d + 1) N = true)
    (hk : Wp P Z N (.ops all rest :: k) ((d, u) :: s) w) : Wp P Z N (.ops all (⟨some d, .field T x f, ty, pos, af, none⟩ :: rest) :: k) s w :=
  w_val (r_fld hx hu) hdN hk

/-- Reading an element. -/
theorem r_loadE {x : Operand} {T : TypeId} {dd : TypeDesc} {α : Type} {E : El α} {bts : Nat} {z : Value} [hd : Und P T dd] [hi : Inf P T E.sz bts z] {c i : Nat} {l : List α} {y : α} (hr : Rd g c E v l) (hx : evalS s x = some (.pointer (elemA v (i * E.sz))))
    (hy : l[i]? = some y) (ha1 : dd.agg = E.agg) :
    ∀ ac, Fits N s ac → (execOp ac.eval ⟨some d, .load T x, ty, pos, af, none⟩).run P g.w = .ok (.value (E.val y)) g.w :=
  fun ac ha => by
    obtain ⟨p, hp, hc⟩ := hr.cells hy
    rw [hp] at hx
    simp only [execOp, ha.eval hx]
    rw [Sem.run_bind, run_loadAt hd.eq hi p _ (E.len y) (fun h => E.one (ha1 ▸ h)) hc, ha1]; rfl
theorem w_loadE {x : Operand} {T : TypeId} {dd : TypeDesc} {α : Type} {E : El α} {bts : Nat} {z : Value} [hd : Und P T dd] [hi : Inf P T E.sz bts z] {c i : Nat} {l : List α} {y : α} (hr : Rd g c E v l) (hx : evalS s x = some (.pointer (elemA v (i * E.sz))))
    (hy : l[i]? = some y) (ha1 : dd.agg = E.agg) (hdN : Nat.ble (d + 1) N = true)
    (hk : Wp P Z N (.ops all rest :: k) ((d, E.val y) :: s) g.w) : Wp P Z N (.ops all (⟨some d, .load T x, ty, pos, af, none⟩ :: rest) :: k) s g.w :=
  w_val (r_loadE hr hx hy ha1) hdN hk
/-- Reading a field of an element, of one cell. -/
theorem r_loadEF {x : Operand} {T : TypeId} {dd : TypeDesc} {α : Type} {E : El α} {bts : Nat} {z : Value} [hd : Und P T dd] [hi : Inf P T 1 bts z] {c i off : Nat} {l : List α} {y : α} {u : Value} (hr : Rd g c E v l) (hx : evalS s x = some (.pointer (elemA v (i * E.sz + off))))
    (hy : l[i]? = some y) (hu : (E.enc y)[off]? = some u) (h1 : dd.agg = false) :
    ∀ ac, Fits N s ac → (execOp ac.eval ⟨some d, .load T x, ty, pos, af, none⟩).run P g.w = .ok (.value (u)) g.w :=
  fun ac ha => by
    obtain ⟨p, hp, hc⟩ := hr.cells hy
    have hp2 : elemA v (i * E.sz + off) = some (p.add off) := by
      unfold elemA at hp ⊢
      split at hp
      · injection hp with hp; subst hp; simp [addr_add_add]
      · cases hp
    rw [hp2] at hx
    simp only [execOp, ha.eval hx]
    rw [Sem.run_bind, run_loadAt hd.eq hi (p.add off) [u] rfl (fun _ => rfl) (fun j u' hu' => by
      cases j with
      | zero => simp at hu'; subst hu'; rw [addr_add_add]; exact hc _ _ hu
      | succ j => simp at hu'), h1]; rfl
theorem w_loadEF {x : Operand} {T : TypeId} {dd : TypeDesc} {α : Type} {E : El α} {bts : Nat} {z : Value} [hd : Und P T dd] [hi : Inf P T 1 bts z] {c i off : Nat} {l : List α} {y : α} {u : Value} (hr : Rd g c E v l) (hx : evalS s x = some (.pointer (elemA v (i * E.sz + off))))
    (hy : l[i]? = some y) (hu : (E.enc y)[off]? = some u) (h1 : dd.agg = false) (hdN : Nat.ble (d + 1) N = true)
    (hk : Wp P Z N (.ops all rest :: k) ((d, u) :: s) g.w) : Wp P Z N (.ops all (⟨some d, .load T x, ty, pos, af, none⟩ :: rest) :: k) s g.w :=
  w_val (r_loadEF hr hx hy hu h1) hdN hk
/-- .. of several cells. -/
theorem r_loadES {x : Operand} {T : TypeId} {dd : TypeDesc} {α : Type} {E : El α} {sz bts : Nat} {z : Value} [hd : Und P T dd] [hi : Inf P T sz bts z] {c i off : Nat} {l : List α} {y : α} {us : List Value} (hr : Rd g c E v l) (hx : evalS s x = some (.pointer (elemA v (i * E.sz + off))))
    (hy : l[i]? = some y) (hus : ((E.enc y).drop off).take sz = us) (hl : us.length = sz) (h1 : dd.agg = true) :
    ∀ ac, Fits N s ac → (execOp ac.eval ⟨some d, .load T x, ty, pos, af, none⟩).run P g.w = .ok (.value (.agg us.toArray)) g.w :=
  fun ac ha => by
    obtain ⟨p, hp, hc⟩ := hr.cells hy
    have hp2 : elemA v (i * E.sz + off) = some (p.add off) := by
      unfold elemA at hp ⊢
      split at hp
      · injection hp with hp; subst hp; simp [addr_add_add]
      · cases hp
    rw [hp2] at hx
    simp only [execOp, ha.eval hx]
    rw [Sem.run_bind, run_loadAt hd.eq hi (p.add off) us hl (fun h => by rw [h1] at h; cases h) (fun j u' hu' => by
      rw [addr_add_add]
      refine hc _ _ ?_
      subst hus
      rw [List.getElem?_take] at hu'
      split at hu'
      · rw [List.getElem?_drop] at hu'; exact hu'
      · cases hu'), h1]; rfl
theorem w_loadES {x : Operand} {T : TypeId} {dd : TypeDesc} {α : Type} {E : El α} {sz bts : Nat} {z : Value} [hd : Und P T dd] [hi : Inf P T sz bts z] {c i off : Nat} {l : List α} {y : α} {us : List Value} (hr : Rd g c E v l) (hx : evalS s x = some (.pointer (elemA v (i * E.sz + off))))
    (hy : l[i]? = some y) (hus : ((E.enc y).drop off).take sz = us) (hl : us.length = sz) (h1 : dd.agg = true) (hdN : Nat.ble (d + 1) N = true)
    (hk : Wp P Z N (.ops all rest :: k) ((d, .agg us.toArray) :: s) g.w) : Wp P Z N (.ops all (⟨some d, .load T x, ty, pos, af, none⟩ :: rest) :: k) s g.w :=
  w_val (r_loadES hr hx hy hus hl h1) hdN hk

/-! ### new blocks -/
def G.new (g : G) (o : Obj) (c : Nat) : G := ⟨g.w.alloc o, fun b => if b = g.w.heap.size then c else g.col b⟩
theorem Step.new (g : G) (o : Obj) (c : Nat) : Step [] [] g (g.new o c) :=
  ⟨rfl, rfl, rfl, Nat.le_refl _, by simp [G.new], fun b hb _ _ => ⟨heap_alloc_old (w := g.w) (o := o) hb, if_neg (by omega)⟩⟩
theorem Cell.new (g : G) (c : Nat) (T : TypeId) (vs : List Value) : Cell (g.new (.cells vs.toArray T) c) c g.w.heap.size T vs :=
  ⟨heap_alloc_new _ _, if_pos rfl⟩

theorem w_box (c : Nat) {x : Operand} {T : TypeId} {vs : List Value} (hx : evalS s x = some v) (hv : v.cells = vs.toArray) (hdN : Nat.ble (d + 1) N = true)
    (hk : ∀ h b, Step [] [] g h → Cell h c b T vs → Wp P Z N (.ops all rest :: k) ((d, .pointer (some ⟨b, 0, none⟩)) :: s) h.w) :
    Wp P Z N (.ops all (⟨some d, .box T x, ty, pos, af, none⟩ :: rest) :: k) s g.w :=
  w_val (fun ac ha => by
    simp only [execOp, ha.eval hx, Instr.box, newVar, newRow, hv]
    simp [G.new]) hdN (hk (g.new (.cells vs.toArray T) c) g.w.heap.size (Step.new _ _ _) (Cell.new _ _ _ _))
theorem w_alloc (c : Nat) {T : TypeId} {sz bts : Nat} {z : Value} [hi : Inf P T sz bts z] {vs : List Value} (hv : z.cells = vs.toArray) (hdN : Nat.ble (d + 1) N = true)
    (hk : ∀ h b, Step [] [] g h → Cell h c b T vs → Wp P Z N (.ops all rest :: k) ((d, .pointer (some ⟨b, 0, none⟩)) :: s) h.w) :
    Wp P Z N (.ops all (⟨some d, .alloc T, ty, pos, af, none⟩ :: rest) :: k) s g.w :=
  w_val (fun ac ha => by
    have := zero_inf (w := g.w) hi
    simp only [execOp, Instr.alloc, newVar, newRow]
    simp [this, hv, G.new]) hdN (hk (g.new (.cells vs.toArray T) c) g.w.heap.size (Step.new _ _ _) (Cell.new _ _ _ _))
theorem w_makeMap (c : Nat) {T : TypeId} (hdN : Nat.ble (d + 1) N = true)
    (hk : ∀ h b, Step [] [] g h → MapAt h c b #[] 0 → Wp P Z N (.ops all rest :: k) ((d, .map (some b)) :: s) h.w) :
    Wp P Z N (.ops all (⟨some d, .makeMap T none, ty, pos, af, none⟩ :: rest) :: k) s g.w :=
  w_val (fun ac ha => by simp [execOp, Instr.makeMap, G.new]) hdN (hk (g.new (.map #[] 0) c) g.w.heap.size (Step.new _ _ _) ⟨heap_alloc_new _ _, if_pos rfl⟩)

/-! ### stores -/
theorem run_storeVar {T T' : TypeId} {sz bts : Nat} {z u : Value} (hi : Inf P T sz bts z) {c b o : Nat} {vs us vs' : List Value} (hc : Cell g c b T' vs) (hu : u.cells = us.toArray) (hl : us.length = sz) (h1 : ∀ u ∈ us, u.oneCell' = true) (hfit : o + sz ≤ vs.length)
    (hvs : vs.take o ++ us ++ vs.drop (o + sz) = vs') : (Instr.storeAt T (.pointer (some ⟨b, o, none⟩)) u).run P g.w = .ok () (g.w.setRow b vs'.toArray) := by
  have hsz : u.cells.size = sz := by rw [hu]; simpa using hl
  have hst := run_storeCells_at P b o T' us 0 vs.toArray g.w hc.1 (by simp; omega) h1
  have e : (us.toArray).toList = us := rfl
  simp only [Nat.add_zero] at hst
  rw [hl, hvs] at hst
  have hne : ¬ (u.cells.size ≠ sz) := by simp [hsz]
  simp [Instr.storeAt, Instr.sureAddr, storeVar, sizeOf_inf hi, hsz]
  rw [hu, e]
  exact hst
theorem Cell.setRow {c b : Nat} {T : TypeId} {vs vs' : List Value} (hc : Cell g c b T vs) : Cell ⟨g.w.setRow b vs'.toArray, g.col⟩ c b T vs' :=
  ⟨setRow_heap g.w b _ _ T _ hc.1, hc.2⟩
theorem Step.setRow (b : Nat) (cs : Array Value) : Step [b] [] g ⟨g.w.setRow b cs, g.col⟩ :=
  ⟨rfl, rfl, rfl, Nat.le_refl _, by simp, fun x _ hx _ => ⟨setRow_other g.w b x cs (by simpa using hx), rfl⟩⟩
theorem w_store {p x : Operand} {T T' : TypeId} {sz bts : Nat} {z u : Value} [hi : Inf P T sz bts z] {c b o : Nat} {vs us vs' : List Value} (hc : Cell g c b T' vs) (hp : evalS s p = some (.pointer (some ⟨b, o, none⟩))) (hx : evalS s x = some u)
    (hu : u.cells = us.toArray) (hl : us.length = sz) (h1 : ∀ u ∈ us, u.oneCell' = true) (hfit : o + sz ≤ vs.length) (hvs : vs.take o ++ us ++ vs.drop (o + sz) = vs')
    (hk : ∀ h, Step [b] [] g h → Step [] [c] g h → Cell h c b T' vs' → Wp P Z N (.ops all rest :: k) s h.w) :
    Wp P Z N (.ops all (⟨none, .store T p x, ty, pos, af, none⟩ :: rest) :: k) s g.w :=
  w_drop (fun ac ha => by simp only [execOp, ha.eval hp, ha.eval hx]; rw [Sem.run_bind, run_storeVar hi hc hu hl h1 hfit hvs]; rfl)
    (hk ⟨g.w.setRow b vs'.toArray, g.col⟩ (Step.setRow b _) ((Step.setRow b _).cols (fun y hy _ => by simp at hy; subst hy; simp [hc.2]) (by simp)) hc.setRow)
/-- One cell. -/
theorem w_store1 {p x : Operand} {T T' : TypeId} {bts : Nat} {z u : Value} [hi : Inf P T 1 bts z] {c b o : Nat} {vs : List Value} (hc : Cell g c b T' vs) (hp : evalS s p = some (.pointer (some ⟨b, o, none⟩))) (hx : evalS s x = some u)
    (h1 : u.oneCell' = true) (hfit : o < vs.length)
    (hk : ∀ h, Step [b] [] g h → Step [] [c] g h → Cell h c b T' (vs.set o u) → Wp P Z N (.ops all rest :: k) s h.w) :
    Wp P Z N (.ops all (⟨none, .store T p x, ty, pos, af, none⟩ :: rest) :: k) s g.w :=
  w_store hc hp hx (us := [u]) (by cases u <;> first | rfl | simp [Value.oneCell'] at h1) rfl (by simpa using h1) hfit (by
    rw [List.set_eq_take_append_cons_drop, if_pos hfit, List.append_assoc]; rfl) hk

/-! ### slices -/
def IsSl (v : Value) (n : Nat) : Prop := ∃ A cap, v = .slice A n cap ∧ n ≤ cap ∧ cap ≤ maxLen
theorem Rd.isSl {α : Type} {E : El α} {c : Nat} {l : List α} (hr : Rd g c E v l) : IsSl v l.length := hr.len
theorem Own.isSl {α : Type} {E : El α} {c : Nat} {T : TypeId} {l : List α} (hr : Own g c E T v l) : IsSl v l.length := hr.len
theorem IsSl.one {n : Nat} (h : IsSl v n) : v.oneCell' = true := by obtain ⟨A, cap, rfl, _⟩ := h; rfl
theorem IsSl.cells {n : Nat} (h : IsSl v n) : v.cells = [v].toArray := by obtain ⟨A, cap, rfl, _⟩ := h; rfl
theorem IsSl.le {n : Nat} (h : IsSl v n) : (n : Int) ≤ 9223372036854775807 := by obtain ⟨A, cap, rfl, h1, h2⟩ := h; simp only [maxLen] at h2; omega

theorem r_lenSl {x : Operand} {T e : TypeId} [hT : Und P T (.slice e)] {n : Nat} (hl : IsSl v n) (hx : evalS s x = some v) :
    ∀ ac, Fits N s ac → (execOp ac.eval ⟨some d, .call { callee := .builtin .len, args := #[x], argTypes := #[T] }, ty, pos, af, none⟩).run P w = .ok (.value (.int .i64 (n : Int))) w :=
  fun ac ha => by
    obtain ⟨A, cap, rfl, _⟩ := hl
    simp only [execOp, resolve, invoke, builtin, List.map_toArray, List.map_cons, List.map_nil, ha.eval hx]
    simp [Builtin.len_, run_underlying hT.eq, goInt]
theorem w_lenSl {x : Operand} {T e : TypeId} [hT : Und P T (.slice e)] {n : Nat} (hl : IsSl v n) (hx : evalS s x = some v) (hdN : Nat.ble (d + 1) N = true)
    (hk : Wp P Z N (.ops all rest :: k) ((d, .int .i64 (n : Int)) :: s) w) : Wp P Z N (.ops all (⟨some d, .call { callee := .builtin .len, args := #[x], argTypes := #[T] }, ty, pos, af, none⟩ :: rest) :: k) s w :=
  w_val (r_lenSl hl hx) hdN hk

theorem fill_all {α : Type} (E : El α) : ∀ (l : List α) (n : Nat) (pre post : List Value), pre.length = n * E.sz → post.length = l.length * E.sz →
    Instr.fill (fun i => some (i * E.sz, E.sz)) (pre ++ post).toArray ((l.zipIdx n).map fun p => (p.2, E.val p.1)) = some (pre ++ l.flatMap E.enc).toArray
  | [], n, pre, post, h1, h2 => by
    have : post = [] := List.eq_nil_of_length_eq_zero (by simpa using h2)
    subst this; simp [Instr.fill]
  | x :: l, n, pre, post, h1, h2 => by
    have hsz : (E.val x).cells.size = E.sz := by rw [E.val_cells]; simp [E.len]
    have hp : E.sz ≤ post.length := by rw [h2, List.length_cons, Nat.add_mul, Nat.one_mul]; omega
    have hfold : ∀ (us : List Value) (q : Nat) (A B C : List Value), A.length = q → B.length = us.length →
        (us.zipIdx (q - n * E.sz)).foldl (fun cs (p : Value × Nat) => cs.setIfInBounds (n * E.sz + p.2) p.1) (A ++ B ++ C).toArray = (A ++ us ++ C).toArray ∨ q < n * E.sz := by
      intro us
      induction us with
      | nil => intro q A B C hA hB; left; have : B = [] := List.eq_nil_of_length_eq_zero (by simpa using hB); subst this; simp
      | cons u us ih =>
        intro q A B C hA hB
        rcases Nat.lt_or_ge q (n * E.sz) with hq | hq
        · exact .inr hq
        · left
          cases B with
          | nil => simp at hB
          | cons b B =>
            have hset : (A ++ b :: B ++ C).toArray.setIfInBounds (n * E.sz + (q - n * E.sz)) u = ((A ++ [u]) ++ B ++ C).toArray := by
              rw [show n * E.sz + (q - n * E.sz) = A.length by omega]
              simp [List.set_append]
            simp only [List.zipIdx_cons, List.foldl_cons, hset]
            rcases ih (q + 1) (A ++ [u]) B C (by simp [hA]) (by simpa using hB) with h | h
            · rw [show q + 1 - n * E.sz = q - n * E.sz + 1 by omega] at h
              rw [h]; simp
            · omega
    have hf := hfold (E.enc x) (n * E.sz) pre (post.take E.sz) (post.drop E.sz) h1 (by simp [E.len]; omega)
    rcases hf with hf | hf
    · simp only [Nat.sub_self] at hf
      rw [List.append_assoc, List.take_append_drop] at hf
      have hcond : ¬ ((E.val x).cells.size ≠ E.sz ∨ n * E.sz + (E.val x).cells.size > (pre ++ post).toArray.size) := by
        rw [hsz]; simp; omega
      have hz : (E.val x).cells.zipIdx = ((E.enc x).zipIdx 0).toArray := by rw [E.val_cells]; simp
      have hih := fill_all E l (n + 1) (pre ++ E.enc x) (post.drop E.sz) (by simp [E.len, h1, Nat.add_mul]) (by simp [h2, Nat.add_mul])
      have hc2 : (decide ((E.val x).cells.size ≠ E.sz) || decide (n * E.sz + (E.val x).cells.size > (pre ++ post).toArray.size)) = false := by
        rw [hsz]; simp; omega
      simp only [List.zipIdx_cons, List.map_cons, Instr.fill]
      rw [if_neg (by simpa using hcond)]
      rw [hz]
      simp only [List.foldl_toArray]
      rw [hf, hih]
      simp
    · omega

def evalP (s : Env) : List (Nat × Operand) → Option (List (Nat × Value))
  | [] => some []
  | (i, x) :: r => match evalS s x with
    | some v => match evalP s r with
      | some vs => some ((i, v) :: vs)
      | none => none
    | none => none
theorem Fits.evalP {a : Act} (h : Fits N s a) : ∀ {xs : List (Nat × Operand)} {vs : List (Nat × Value)}, Go.Proofs.Ytnfokdhgajanpaa.evalP s xs = some vs → (xs.map fun p => (p.1, a.eval p.2)) = vs
  | [], vs, hx => by simp only [Go.Proofs.Ytnfokdhgajanpaa.evalP, Option.some.injEq] at hx; subst hx; rfl
  | (i, x) :: r, vs, hx => by
    simp only [Go.Proofs.Ytnfokdhgajanpaa.evalP] at hx
    split at hx
    · rename_i v hv
      split at hx
      · rename_i us hu
        injection hx with hx
        subst hx
        rw [List.map_cons, h.eval hv, h.evalP hu]
      · cases hx
    · cases hx

/-- A slice literal: a row of the call's own (of the colour c). -/
theorem w_buildSl (c : Nat) {T e : TypeId} [hT : Und P T (.slice e)] {α : Type} (E : El α) {bts : Nat} {z : Value} [hi : Inf P e E.sz bts z] (l : List α) {n : Nat} {parts : Array (Nat × Operand)}
    (hx : evalP s parts.toList = some (l.zipIdx.map fun p => (p.2, E.val p.1))) (hn : n = l.length) (hle' : Nat.ble (l.length * E.sz) 16777216 = true) (hdN : Nat.ble (d + 1) N = true)
    (hk : ∀ h v, Step [] [] g h → Own h c E e v l → Wp P Z N (.ops all rest :: k) ((d, v) :: s) h.w) :
    Wp P Z N (.ops all (⟨some d, .buildSlice T n parts, ty, pos, af, none⟩ :: rest) :: k) s g.w := by
  subst hn
  have hle := Nat.le_of_ble_eq_true hle'
  have hlen := flat_length E l
  have hle2 : l.length ≤ 16777216 := Nat.le_trans (Nat.le_mul_of_pos_right _ E.pos) hle
  have hown : (g.w.alloc (.cells (l.flatMap E.enc).toArray e)).ownsRow 0 e E.sz (.slice (some ⟨g.w.heap.size, 0, none⟩) l.length l.length) l.length (l.flatMap E.enc) := by
    have := World.ownsRow_lit (base := 0) (e := e) (size := E.sz) g.w (l.flatMap E.enc).toArray l.length (Nat.zero_le _) (by simp only [maxLen]; omega) (by simpa using hlen)
    simpa using this
  refine w_val (v := .slice (some ⟨g.w.heap.size, 0, none⟩) l.length l.length) (w' := g.w.alloc (.cells (l.flatMap E.enc).toArray e)) (fun ac ha => ?_) hdN
    (hk (g.new (.cells (l.flatMap E.enc).toArray e) c) _ (Step.new _ _ _) ⟨hown, fun b hb => ?_⟩)
  · have hp : (parts.map fun (p : Nat × Operand) => (p.1, ac.eval p.2)).toList = l.zipIdx.map fun p => (p.2, E.val p.1) := by
      rw [Array.toList_map]; exact ha.evalP hx
    obtain ⟨i0, hi0, hz, hs, _⟩ := hi.get
    have hnle : ¬ (2 ^ 24 < l.length * E.sz) := by omega
    have hz2 := fill_all E l 0 [] ((Array.range (l.length * E.sz)).map (fun j => z.cells[j % z.cells.size]!)).toList (by simp) (by simp)
    simp only [List.nil_append, Array.toArray_toList] at hz2
    simp only [execOp, Instr.buildSlice]
    by_cases h0 : l.length * E.sz = 0
    · have hl0 : l = [] := by
        rcases Nat.mul_eq_zero.1 h0 with h | h
        · exact List.eq_nil_of_length_eq_zero h
        · exact absurd h (by have := E.pos; omega)
      subst hl0
      have hp0 : (parts.map fun (p : Nat × Operand) => (p.1, ac.eval p.2)).toList = [] := by simpa using hp
      simp only [Sem.run_bind, run_underlying hT.eq, Result.andThen_ok, sizeOf_inf hi]
      simp [newRow]
      rw [show (parts.toList.map fun (x : Nat × Operand) => (x.1, ac.eval x.2)) = [] by simpa using hp0]
      simp [Instr.fill]
      rw [show Array.range 0 = #[] from by apply Array.ext'; simp, Array.map_empty]
    · have hzero : (zeroValue e).run P g.w = .ok z g.w := by simp [zeroValue, typeInfo, hi0, hz]
      simp only [Sem.run_bind, run_underlying hT.eq, Result.andThen_ok, sizeOf_inf hi, gt_iff_lt, hnle, if_false, h0, hzero]
      simp only [Sem.run_pure, Result.andThen_ok, hzero, Sem.run_bind]
      rw [show (parts.map fun (x : Nat × Operand) => match x with | (i, x) => (i, ac.eval x)).toList = l.zipIdx.map fun p => (p.2, E.val p.1) from hp, hz2]
      simp [newRow]
  · simp [Value.ownBlock] at hb
    subst hb
    simp [G.new]
/-- .. that is only read. -/
theorem w_buildSlR {T e : TypeId} [hT : Und P T (.slice e)] {α : Type} (E : El α) {bts : Nat} {z : Value} [hi : Inf P e E.sz bts z] (l : List α) {n : Nat} {parts : Array (Nat × Operand)}
    (hx : evalP s parts.toList = some (l.zipIdx.map fun p => (p.2, E.val p.1))) (hn : n = l.length) (hle' : Nat.ble (l.length * E.sz) 16777216 = true) (hdN : Nat.ble (d + 1) N = true)
    (hk : ∀ h v, Step [] [] g h → Rd h 0 E v l → Wp P Z N (.ops all rest :: k) ((d, v) :: s) h.w) :
    Wp P Z N (.ops all (⟨some d, .buildSlice T n parts, ty, pos, af, none⟩ :: rest) :: k) s g.w :=
  w_buildSl 0 E l hx hn hle' hdN fun h v hs ho => hk h v hs ho.rd

/-- What may be appended: a slice that is read. -/
theorem run_append_rd {t ty e : TypeId} [hT : Und P t (.slice e)] {α : Type} {E : El α} {bts : Nat} {z : Value} [hi : Inf P e E.sz bts z] (hzz : z.cells.size = E.sz) {c c2 : Nat} {x : Value} {l m : List α} (ho : Own g c E e v l) (hr : Rd g c2 E x m)
    (hfit : (l.length + m.length) * bts ≤ 140737488355328) (hb : 0 < bts) :
    ∃ v' h, (Builtin.append_ #[t, t] ty #[v, x]).run P g.w = .ok v' h.w ∧ Step [] [c] g h ∧ Own h c E e v' (l ++ m) := by
  obtain ⟨i0, hi0, hz, hs, hby⟩ := hi.get
  have hlm : l.length + m.length ≤ 140737488355328 := Nat.le_trans (Nat.le_mul_of_pos_right _ hb) hfit
  obtain ⟨A, cap, rfl, h1, h2, h3⟩ := hr
  have key : ∀ a, A = some a → (∀ j u, (m.flatMap E.enc)[j]? = some u → g.w.cell? (a.add j) = some u) →
      ∃ v' h, (Builtin.append_ #[t, t] ty #[v, .slice A m.length cap]).run P g.w = .ok v' h.w ∧ Step [] [c] g h ∧ Own h c E e v' (l ++ m) := by
    intro a ha hcells
    subst ha
    obtain ⟨v', w', hrun, hown, hg, _, hat⟩ := run_append_own_at (P := P) g.w 0 t ty e i0 z E.sz bts hT.eq hi0 hz hs hby hzz E.pos v l.length (l.flatMap E.enc) ho.1 a m.length cap (m.flatMap E.enc) (flat_length E m) hcells
      (fun u hu => by obtain ⟨y, _, hy⟩ := List.mem_flatMap.1 hu; exact E.flat y u hy) (by simp only [maxLen]; omega) hfit (Nat.zero_le _)
    refine ⟨v', ⟨w', fun b => if b < g.w.heap.size then g.col b else c⟩, hrun, ⟨hg.os, hg.tape, hg.output, run_drawn _ _ hrun, hg.size, fun b hlt _ hcol => ⟨hg.block b hlt ?_, if_pos hlt⟩⟩, ?_, fun b hb => ?_⟩
    · intro e'
      exact hcol (by rw [ho.2 b e'.symm]; simp)
    · rw [List.length_append, List.flatMap_append]; exact hown
    · rcases hat with hat | hat
      · rw [hat] at hb
        show (if b < g.w.heap.size then g.col b else c) = c
        rw [if_pos (ho.lt hb)]; exact ho.2 b hb
      · rw [hat] at hb
        injection hb with hb
        show (if b < g.w.heap.size then g.col b else c) = c
        rw [if_neg (by omega)]
  rcases h3 with rfl | ⟨a, rfl, hlt, hcol, hcell⟩
  · cases A with
    | some a => exact key a rfl (by simp)
    | none =>
      obtain ⟨B, cap', rfl, g1, g2⟩ := ho.len
      refine ⟨.slice B l.length cap', g, ?_, Step.refl _ _ _, by simpa using ho⟩
      have hc0 : ∀ ad, (storeCells ad [] 0).run P g.w = .ok () g.w := fun _ => rfl
      cases B with
      | none => simp [Builtin.append_, run_underlying hT.eq, sizeOf, typeInfo, hi0, Builtin.lenOf, Builtin.firstCells, g1]
      | some ad => simp [Builtin.append_, run_underlying hT.eq, sizeOf, typeInfo, hi0, Builtin.lenOf, Builtin.firstCells, g1, storeCells]
  · refine key a rfl fun j u hu => ?_
    have hj : j < m.length * E.sz := by rw [← flat_length]; exact (List.getElem?_eq_some_iff.1 hu).1
    have hdm : j = (j / E.sz) * E.sz + j % E.sz := by rw [Nat.mul_comm]; exact (Nat.div_add_mod j E.sz).symm
    have hdi : j / E.sz < m.length := (Nat.div_lt_iff_lt_mul E.pos).2 hj
    have hmod : j % E.sz < E.sz := Nat.mod_lt _ E.pos
    have e1 := enc_flat E m (j / E.sz) hdi (j % E.sz) hmod
    rw [← hdm] at e1
    have e2 := hcell (j / E.sz) hdi (j % E.sz) hmod
    rw [← hdm] at e2
    rw [e2, ← e1]
    exact hu

theorem w_append {x y : Operand} {t e : TypeId} [hT : Und P t (.slice e)] {α : Type} {E : El α} {bts : Nat} {z : Value} [hi : Inf P e E.sz bts z] {c c2 : Nat} {v2 : Value} {l m : List α} (ho : Own g c E e v l) (hr : Rd g c2 E v2 m)
    (hx : evalS s x = some v) (hy : evalS s y = some v2) (hzz : z.cells.size = E.sz) (hb : 0 < bts) (hfit : (l.length + m.length) * bts ≤ 140737488355328) (hdN : Nat.ble (d + 1) N = true)
    (hk : ∀ h v', Step [] [c] g h → Own h c E e v' (l ++ m) → Wp P Z N (.ops all rest :: k) ((d, v') :: s) h.w) :
    Wp P Z N (.ops all (⟨some d, .call { callee := .builtin .append, args := #[x, y], argTypes := #[t, t] }, ty, pos, af, none⟩ :: rest) :: k) s g.w := by
  obtain ⟨v', h, hrun, hs, ho'⟩ := run_append_rd (P := P) (t := t) (ty := ty) (z := z) (bts := bts) hzz ho hr hfit hb
  refine w_val (v := v') (w' := h.w) (fun ac ha => ?_) hdN (hk h v' hs ho')
  simp only [execOp, resolve, invoke, builtin, List.map_toArray, List.map_cons, List.map_nil, ha.eval hx, ha.eval hy]
  simp [hrun]
theorem strCells_flat (m : List UInt8) : Lib.strCells ⟨m.toArray⟩ = m.flatMap El.u8.enc := by
  show m.map (fun b => Value.int .u8 b.toNat) = _
  induction m with
  | nil => rfl
  | cons a m ih => rw [List.map_cons, ih]; rfl
/-- append(b, s...) of a string. -/
theorem w_appendStr {x y : Operand} {t u e : TypeId} [hT : Und P t (.slice e)] [hu : Und P u .string] [hi : Inf P e 1 1 (.int .u8 0)] {c : Nat} {l m : List UInt8} (ho : Own g c El.u8 e v l)
    (hx : evalS s x = some v) (hy : evalS s y = some (.string ⟨m.toArray⟩)) (hfit : l.length + m.length ≤ 140737488355328) (hdN : Nat.ble (d + 1) N = true)
    (hk : ∀ h v', Step [] [c] g h → Own h c El.u8 e v' (l ++ m) → Wp P Z N (.ops all rest :: k) ((d, v') :: s) h.w) :
    Wp P Z N (.ops all (⟨some d, .call { callee := .builtin .append, args := #[x, y], argTypes := #[t, u] }, ty, pos, af, none⟩ :: rest) :: k) s g.w := by
  obtain ⟨i0, hi0, hz, hs, hby⟩ := hi.get
  have hsz : (ByteArray.mk m.toArray).size = m.length := by simp [ByteArray.size]
  have hcs : Lib.strCells ⟨m.toArray⟩ = m.flatMap El.u8.enc := strCells_flat m
  obtain ⟨v', w', hrun, hown, hg, hnil⟩ := Lib.run_append_own_string (P := P) g.w 0 t u ty e i0 hT.eq hu.eq hi0 hz hs hby v l.length (l.flatMap El.u8.enc) ho.1 ⟨m.toArray⟩ (by rw [hsz]; simp only [maxLen]; omega) (by rw [hsz]; exact hfit) (Nat.zero_le _)
  rw [hsz, hcs] at hown
  have hat : v'.ownBlock = v.ownBlock ∨ v'.ownBlock = some g.w.heap.size := by
    have hxl : (l.flatMap El.u8.enc).length = l.length := by rw [flat_length]; exact Nat.mul_one _
    rcases ho.1.2 with ⟨rfl, h0⟩ | ⟨q, cap, cur, rfl, hbg, hg', hnc, hcm, hcs', htake⟩
    · by_cases hm : m.length = 0
      · have h00 : m = [] := List.eq_nil_of_length_eq_zero hm
        subst h00
        rw [hnil.2 ⟨rfl, rfl⟩]
        exact .inl rfl
      · have hr := run_append_nil_string (P := P) g.w t u ty e i0 (.int .u8 0) hT.eq hu.eq hi0 hz ⟨m.toArray⟩ (by rw [hsz]; omega) (by rw [hsz]; omega) (by rw [hsz, hby]; omega)
        rw [hr] at hrun
        injection hrun with hrun _
        subst hrun
        exact .inr rfl
    · have hcs2 : cur.size = cap := by simpa [El.u8] using hcs'
      by_cases hroom : l.length + m.length ≤ cap
      · have hr := Lib.run_append_room_string (P := P) g.w t u ty e i0 hT.eq hu.eq hi0 hs q l.length cap cur hg' ⟨m.toArray⟩ (by rw [hsz]; exact hroom) (by rw [hsz]; omega)
        rw [hr] at hrun
        injection hrun with hrun _
        subst hrun
        exact .inl rfl
      · have hr := Lib.run_append_grow_string (P := P) g.w t u ty e i0 (.int .u8 0) hT.eq hu.eq hi0 hz ⟨q, 0, none⟩ l.length cap (l.flatMap El.u8.enc) (by rw [hs, hxl, Nat.mul_one]) (ho.1.cells (g := q) rfl) ⟨m.toArray⟩ (by rw [hsz]; omega) (by rw [hsz]; omega) (by rw [hby, hsz]; exact growslice_fits (by omega) (by omega))
        rw [hr] at hrun
        injection hrun with hrun _
        subst hrun
        exact .inr rfl
  let h : G := ⟨w', fun b => if b < g.w.heap.size then g.col b else c⟩
  refine w_val (v := v') (w' := h.w) (fun ac ha => ?_) hdN (hk h v' ⟨hg.os, hg.tape, hg.output, run_drawn _ _ hrun, hg.size, fun b hlt _ hcol => ⟨hg.block b hlt ?_, if_pos hlt⟩⟩ ⟨?_, fun b hb => ?_⟩)
  · simp only [execOp, resolve, invoke, builtin, List.map_toArray, List.map_cons, List.map_nil, ha.eval hx, ha.eval hy]
    simp [hrun, h]
  · intro e'
    exact hcol (by rw [ho.2 b e'.symm]; simp)
  · rw [List.length_append, List.flatMap_append]; exact hown
  · rcases hat with hat | hat
    · rw [hat] at hb
      show (if b < g.w.heap.size then g.col b else c) = c
      rw [if_pos (ho.lt hb)]; exact ho.2 b hb
    · rw [hat] at hb
      injection hb with hb
      show (if b < g.w.heap.size then g.col b else c) = c
      rw [if_neg (by omega)]
end
end Go.Proofs.Ytnfokdhgajanpaa
