/- The engine, part 9: structs and arrays as values, '==' of structs, loops unrolled, maps ranged over. No statement of the seat is proved here. -/
import Derived.Test.YtnfokdhgajanpaaEng7
import Derived.LoopN
import Derived.Maps.RangeRun
import Derived.Laws.CopyRow
set_option linter.unusedVariables false
set_option linter.unusedSimpArgs false
set_option linter.unusedSectionVars false
namespace Go.Proofs.Ytnfokdhgajanpaa
open Go

section
variable {P : Program} {Z : Exit → Act → World → Prop} {N : Nat} {k : List It} {s : Env} {w : World} {g : G}
variable {all : Array Oper} {rest : List Oper} {op : Op} {ty : TypeId} {pos : String} {af : Array Edge} {d : Nat} {v : Value}

/-! ### a loop of few rounds, round by round -/
def Rounds (P : Program) (Z : Exit → Act → World → Prop) (k : List It) (c : Code) (n : Nat) : Act → World → Prop := Code.rounds P c (sem P Z k) n
theorem w_rounds {c : Code} (n : Nat) (h : Wp P Z N (.goal (Rounds P Z k c n) :: k) s w) : Wp P Z N (.code (.loop c) :: k) s w := fun a ha => by
  have := h a ha
  simp only [sem] at this ⊢
  exact wp_loop_rounds n this
theorem w_round {c : Code} {n : Nat} (h : Wp P Z N (.code c :: .goal (Rounds P Z k c n) :: k) s w) : Wp P Z N (.goal (Rounds P Z k c (n + 1)) :: k) s w := fun a ha => by
  have := h a ha
  simp only [sem] at this ⊢
  show c.wp P (Exit.then (Code.rounds P c (sem P Z k) n) (sem P Z k)) a w
  rw [show Exit.then (Code.rounds P c (sem P Z k) n) (sem P Z k) = sem P Z (.goal (Rounds P Z k c n) :: k) from sem_goal_then _]
  exact this

/-! ### structs built of parts -/
theorem run_mapM {α β : Type} (F : α → Sem β) (w : World) : ∀ (l : List α) (r : List β), l.map (fun a => (F a).run P w) = r.map (fun b => .ok b w) → (l.mapM F).run P w = .ok r w
  | [], r, h => by
    have : r = [] := by simpa using h.symm
    subst this; rfl
  | a :: l, r, h => by
    cases r with
    | nil => simp at h
    | cons b r =>
      simp only [List.map_cons, List.cons.injEq] at h
      have ih := run_mapM F w l r h.2
      rw [List.mapM_cons]
      simp only [Sem.run_bind, h.1, Result.andThen_ok, ih, Sem.run_pure]
theorem run_places (fs : List Field) (ps : List (Nat × Nat)) (w : World) (h : fs.map (fun f => (P.info? f.type).map fun i => (f.offset, i.size)) = ps.map some) :
    (fs.mapM fun f => do pure (f.offset, ← sizeOf f.type) : Sem (List (Nat × Nat))).run P w = .ok ps w := by
  refine run_mapM _ w fs ps ?_
  induction fs generalizing ps with
  | nil =>
    have : ps = [] := by simpa using h.symm
    subst this; rfl
  | cons f fs ih =>
    cases ps with
    | nil => simp at h
    | cons p ps =>
      simp only [List.map_cons, List.cons.injEq] at h
      obtain ⟨i, hi, rfl⟩ := Option.map_eq_some_iff.1 h.1
      rw [List.map_cons, List.map_cons, ih ps h.2]
      simp [sizeOf, typeInfo, hi]
def fillL (ps : Nat → Option (Nat × Nat)) (cells : List Value) : List (Nat × Value) → Option (List Value)
  | [] => some cells
  | (i, v) :: rest => match ps i with
    | none => none
    | some (off, size) => bif Nat.beq v.cells.toList.length size && Nat.ble (off + size) cells.length then fillL ps (cells.take off ++ v.cells.toList ++ cells.drop (off + size)) rest else none
theorem fold_set : ∀ (us : List Value) (off j : Nat) (A B C : List Value), A.length = off + j → B.length = us.length →
    (us.zipIdx j).foldl (fun cs (p : Value × Nat) => cs.setIfInBounds (off + p.2) p.1) (A ++ B ++ C).toArray = (A ++ us ++ C).toArray
  | [], off, j, A, B, C, hA, hB => by
    have : B = [] := List.eq_nil_of_length_eq_zero (by simpa using hB)
    subst this; simp
  | u :: us, off, j, A, B, C, hA, hB => by
    cases B with
    | nil => simp at hB
    | cons b B =>
      have hset : (A ++ b :: B ++ C).toArray.setIfInBounds (off + j) u = ((A ++ [u]) ++ B ++ C).toArray := by
        rw [← hA]; simp [List.set_append]
      simp only [List.zipIdx_cons, List.foldl_cons, hset]
      rw [fold_set us off (j + 1) (A ++ [u]) B C (by simp; omega) (by simpa using hB)]
      simp
theorem fill_eq (ps : Nat → Option (Nat × Nat)) : ∀ (vs : List (Nat × Value)) (cells r : List Value), fillL ps cells vs = some r → Instr.fill ps cells.toArray vs = some r.toArray
  | [], cells, r, h => by simp only [fillL, Option.some.injEq] at h; subst h; rfl
  | (i, v) :: rest, cells, r, h => by
    simp only [fillL] at h
    simp only [Instr.fill]
    cases hp : ps i with
    | none => rw [hp] at h; cases h
    | some p =>
      obtain ⟨off, size⟩ := p
      rw [hp] at h
      dsimp only at h ⊢
      cases hb : (Nat.beq v.cells.toList.length size && Nat.ble (off + size) cells.length) with
      | false => rw [hb] at h; cases h
      | true =>
        rw [hb] at h
        simp only [cond_true] at h
        simp only [Bool.and_eq_true, Nat.beq_eq, Nat.ble_eq] at hb
        have hsz : v.cells.size = size := by simpa using hb.1
        have hc : (decide (v.cells.size ≠ size) || decide (off + v.cells.size > cells.toArray.size)) = false := by
          rw [hsz]; simp; omega
        rw [if_neg (by simpa using hc)]
        have hf := fold_set v.cells.toList off 0 (cells.take off) ((cells.drop off).take size) (cells.drop (off + size)) (by simp; omega) (by simp; omega)
        have e0 : cells.take off ++ (cells.drop off).take size ++ cells.drop (off + size) = cells := by
          rw [List.append_assoc, ← List.drop_drop, List.take_append_drop, List.take_append_drop]
        rw [e0] at hf
        have hz : v.cells.zipIdx = (v.cells.toList.zipIdx 0).toArray := by
          generalize v.cells = A
          obtain ⟨l⟩ := A
          simp
        rw [hz]
        simp only [List.foldl_toArray]
        rw [hf]
        exact fill_eq ps rest _ r h
theorem r_build {T : TypeId} {ps : List (Nat × Nat)} {sz bts : Nat} {z : Value} [hp : Places P T ps] [hi : Inf P T sz bts z] {parts : Array (Nat × Operand)} {vs : List (Nat × Value)} {r : List Value}
    (hx : evalP s parts.toList = some vs) (hf : fillL (fun i => ps[i]?) z.cells.toList vs = some r) :
    ∀ ac, Fits N s ac → (execOp ac.eval ⟨some d, .build T parts, ty, pos, af, none⟩).run P w = .ok (.value (.agg r.toArray)) w :=
  fun ac ha => by
    obtain ⟨fs, hu, hpl⟩ := hp.eq
    obtain ⟨fl⟩ := fs
    have hm := run_places (P := P) fl ps w hpl
    have hff := fill_eq _ _ _ _ hf
    have e1 : (parts.map fun (p : Nat × Operand) => (p.1, ac.eval p.2)).toList = vs := by rw [Array.toList_map]; exact ha.evalP hx
    have e2 : z.cells.toList.toArray = z.cells := by simp
    rw [e2] at hff
    have hmA : (fl.toArray.mapM fun f => do pure (f.offset, ← sizeOf f.type) : Sem (Array (Nat × Nat))).run P w = .ok ps.toArray w := by
      rw [List.mapM_toArray]
      rw [show ∀ (x : Sem (List (Nat × Nat))), (List.toArray <$> x) = (do let l ← x; pure l.toArray) from fun x => (bind_pure_comp _ _).symm, Sem.run_bind, hm]
      rfl
    simp only [execOp, Instr.build]
    simp only [Sem.run_bind, zero_inf hi, Result.andThen_ok, run_underlying hu, hmA]
    rw [show (parts.map fun (x : Nat × Operand) => match x with | (i, x) => (i, ac.eval x)).toList = vs from e1]
    have e3 : (fun i : Nat => ps.toArray[i]?) = fun i : Nat => ps[i]? := by funext i; simp
    simp only [e3, hff]
    rfl
theorem w_build {T : TypeId} {ps : List (Nat × Nat)} {sz bts : Nat} {z : Value} [hp : Places P T ps] [hi : Inf P T sz bts z] {parts : Array (Nat × Operand)} {vs : List (Nat × Value)} {r : List Value}
    (hx : evalP s parts.toList = some vs) (hf : fillL (fun i => ps[i]?) z.cells.toList vs = some r) (hdN : Nat.ble (d + 1) N = true)
    (hk : Wp P Z N (.ops all rest :: k) ((d, .agg r.toArray) :: s) w) : Wp P Z N (.ops all (⟨some d, .build T parts, ty, pos, af, none⟩ :: rest) :: k) s w := w_val (r_build hx hf) hdN hk
/-- An array built of all its parts in their row. -/
theorem r_buildA {T e n : TypeId} [hT : Und P T (.array n e)] {sz bts : Nat} {z : Value} [hi : Inf P T sz bts z] {es eb : Nat} {ez : Value} [he : Inf P e es eb ez] {parts : Array (Nat × Operand)} {vs : List (Nat × Value)} {r : List Value}
    (hx : evalP s parts.toList = some vs) (hf : fillL (fun i => some (i * es, es)) z.cells.toList vs = some r) :
    ∀ ac, Fits N s ac → (execOp ac.eval ⟨some d, .build T parts, ty, pos, af, none⟩).run P w = .ok (.value (.agg r.toArray)) w :=
  fun ac ha => by
    have hff := fill_eq _ _ _ _ hf
    have e1 : (parts.map fun (p : Nat × Operand) => (p.1, ac.eval p.2)).toList = vs := by rw [Array.toList_map]; exact ha.evalP hx
    have e2 : z.cells.toList.toArray = z.cells := by simp
    rw [e2] at hff
    simp only [execOp, Instr.build]
    simp only [Sem.run_bind, zero_inf hi, Result.andThen_ok, run_underlying hT.eq, sizeOf_inf he]
    rw [show (parts.map fun (x : Nat × Operand) => match x with | (i, x) => (i, ac.eval x)).toList = vs from e1]
    simp only [hff]
    rfl
theorem w_buildA {T e n : TypeId} [hT : Und P T (.array n e)] {sz bts : Nat} {z : Value} [hi : Inf P T sz bts z] {es eb : Nat} {ez : Value} [he : Inf P e es eb ez] {parts : Array (Nat × Operand)} {vs : List (Nat × Value)} {r : List Value}
    (hx : evalP s parts.toList = some vs) (hf : fillL (fun i => some (i * es, es)) z.cells.toList vs = some r) (hdN : Nat.ble (d + 1) N = true)
    (hk : Wp P Z N (.ops all rest :: k) ((d, .agg r.toArray) :: s) w) : Wp P Z N (.ops all (⟨some d, .build T parts, ty, pos, af, none⟩ :: rest) :: k) s w := w_val (r_buildA hx hf) hdN hk

/-! ### arrays -/
theorem r_idxA {x i : Operand} {T e n : TypeId} [hT : Und P T (.array n e)] {sz bts : Nat} {z : Value} [hi : Inf P e sz bts z] {b o : Nat} {kk : IntKind} {m : Int} (hx : evalS s x = some (.pointer (some ⟨b, o, none⟩))) (hm : evalS s i = some (.int kk m)) (h0 : 0 ≤ m) (hlt : m.toNat < n) :
    ∀ ac, Fits N s ac → (execOp ac.eval ⟨some d, .indexAddr T x i, ty, pos, af, none⟩).run P w = .ok (.value (.pointer (some ⟨b, o + m.toNat * sz, none⟩))) w :=
  fun ac ha => by
    have e0 : 0 ≤ m ∧ m < (n : Int) := ⟨h0, by omega⟩
    simp [execOp, ha.eval hx, ha.eval hm, Instr.indexAt, asIntOf, run_underlying hT.eq, Instr.sureAddr, sizeOf_inf hi, e0, addr_add]
theorem w_idxA {x i : Operand} {T e n : TypeId} [hT : Und P T (.array n e)] {sz bts : Nat} {z : Value} [hi : Inf P e sz bts z] {b o : Nat} {kk : IntKind} {m : Int} (hx : evalS s x = some (.pointer (some ⟨b, o, none⟩))) (hm : evalS s i = some (.int kk m)) (h0 : 0 ≤ m) (hlt : m.toNat < n) (hdN : Nat.ble (d + 1) N = true)
    (hk : Wp P Z N (.ops all rest :: k) ((d, .pointer (some ⟨b, o + m.toNat * sz, none⟩)) :: s) w) : Wp P Z N (.ops all (⟨some d, .indexAddr T x i, ty, pos, af, none⟩ :: rest) :: k) s w := w_val (r_idxA hx hm h0 hlt) hdN hk
/-- The head of an array behind an address, as a slice. -/
theorem r_slA {x : Operand} {T e n : TypeId} [hT : Und P T (.array n e)] {sz bts : Nat} {z : Value} [hi : Inf P e sz bts z] {b o h : Nat} {hi' : Option Operand} (hx : evalS s x = some (.pointer (some ⟨b, o, none⟩)))
    (hhi : match hi' with | some o => ∃ m, evalS s o = some (.int .i64 m) ∧ m = (h : Int) | none => h = n) (hle : h ≤ n) :
    ∀ ac, Fits N s ac → (execOp ac.eval ⟨some d, .slice T x none hi' none, ty, pos, af, none⟩).run P w = .ok (.value (.slice (some ⟨b, o, none⟩) h n)) w :=
  fun ac ha => by
    have hb : (Instr.sliceBounds false n n none (hi'.map ac.eval) none).run P w = .ok (0, h, n) w := by
      cases hi' with
      | none => simp only at hhi; subst hhi; simp [Instr.sliceBounds]
      | some o => obtain ⟨m, hm, rfl⟩ := hhi; simp [Instr.sliceBounds, ha.eval hm, sliceBound_nat _ _ _ _ hle]
    simp only [execOp, ha.eval hx, Instr.sliceAt]
    by_cases hn : n = 0
    · subst hn
      have : h = 0 := by omega
      subst this
      simp [run_underlying hT.eq, Instr.sureAddr, hb, sizeOf_inf hi]
    · simp [run_underlying hT.eq, Instr.sureAddr, hb, sizeOf_inf hi, hn, addr_add]
theorem w_slA {x : Operand} {T e n : TypeId} [hT : Und P T (.array n e)] {sz bts : Nat} {z : Value} [hi : Inf P e sz bts z] {b o h : Nat} {hi' : Option Operand} (hx : evalS s x = some (.pointer (some ⟨b, o, none⟩)))
    (hhi : match hi' with | some o => ∃ m, evalS s o = some (.int .i64 m) ∧ m = (h : Int) | none => h = n) (hle : h ≤ n) (hdN : Nat.ble (d + 1) N = true)
    (hk : Wp P Z N (.ops all rest :: k) ((d, .slice (some ⟨b, o, none⟩) h n) :: s) w) : Wp P Z N (.ops all (⟨some d, .slice T x none hi' none, ty, pos, af, none⟩ :: rest) :: k) s w := w_val (r_slA hx hhi hle) hdN hk
theorem w_s2ap {x : Operand} {T e n : TypeId} [hT : Und P T (.array n e)] {a : Option Addr} {len cap : Nat} (hx : evalS s x = some (.slice a len cap)) (hn : Nat.ble n len = true) (hdN : Nat.ble (d + 1) N = true)
    (hk : Wp P Z N (.ops all rest :: k) ((d, .pointer a) :: s) w) : Wp P Z N (.ops all (⟨some d, .sliceToArrayPointer T x, ty, pos, af, none⟩ :: rest) :: k) s w :=
  w_val (fun ac ha => by
    have := Nat.le_of_ble_eq_true hn
    have h : ¬ len < n := by omega
    simp [execOp, ha.eval hx, Instr.arrayAt, run_underlying hT.eq, h]) hdN hk
/-- Cells as the bytes of a slice. -/
theorem Cell.rdB {c b o h cap : Nat} {T : TypeId} {vs : List Value} {l : List UInt8} (hc : Cell g c b T vs) (hl : (vs.drop o).take h = l.map bv) (hlen : l.length = h) (hcap : h ≤ cap) (hmax : cap ≤ maxLen) : Rd g c El.u8 (.slice (some ⟨b, o, none⟩) h cap) l := by
  refine ⟨some ⟨b, o, none⟩, cap, by rw [hlen], by omega, hmax, .inr ⟨_, rfl, hc.lt, hc.2, fun i hi j hj => ?_⟩⟩
  have hj0 : j = 0 := by have : El.u8.sz = 1 := rfl; omega
  subst hj0
  rw [show El.u8.sz = 1 from rfl, Nat.mul_one, Nat.add_zero, addr_add, hc.at_]
  have e1 : ((vs.drop o).take h)[i]? = (l.map bv)[i]? := by rw [hl]
  rw [List.getElem?_take, if_pos (by omega), List.getElem?_drop] at e1
  rw [e1]
  simp [El.u8, hi]
/-- copy into the bytes of a cell's array. -/
theorem run_copyB {dT sT e T : TypeId} [hT : Und P dT (.slice e)] {bts : Nat} {z : Value} [hi : Inf P e 1 bts z] {c b o dl dcap c2 : Nat} {vs vs' : List Value} {l : List UInt8} {v : Value} (hc : Cell g c b T vs) (hr : Rd g c2 El.u8 v l)
    (hfit : o + min l.length dl ≤ vs.length) (hvs : vs.take o ++ (l.take (min l.length dl)).map bv ++ vs.drop (o + min l.length dl) = vs') :
    ∃ h : G, (Builtin.copy_ #[dT, sT] ty #[.slice (some ⟨b, o, none⟩) dl dcap, v]).run P g.w = .ok (.int .i64 ((min l.length dl : Nat) : Int)) h.w ∧ Step [b] [] g h ∧ Step [] [c] g h ∧ Cell h c b T vs' := by
  obtain ⟨i, hi1, _, hi3, _⟩ := hi.get
  have hs : (P.info? e).map (·.size) = some 1 := by rw [hi1]; simp [hi3]
  have hlen : ((l.take (min l.length dl)).map bv).length = min l.length dl := by simp
  obtain ⟨A, cap, rfl, h1, h2, h3⟩ := hr
  cases A with
  | none =>
    have hl0 : l = [] := by rcases h3 with h | ⟨a, h, _⟩; exact h; cases h
    subst hl0
    have := run_copy_none (P := P) g.w dT sT ty e (some ⟨b, o, none⟩) none dl dcap 0 cap hT.eq hs (by simp)
    refine ⟨g, by simpa [goInt] using this, Step.refl _ _ _, Step.refl _ _ _, ?_⟩
    have : vs' = vs := by rw [← hvs]; simp
    rw [this]; exact hc
  | some a =>
    have hcells : ∀ j u, ((l.take (min l.length dl)).map bv)[j]? = some u → g.w.cell? (a.add j) = some u := by
      intro j u hu
      rcases h3 with rfl | ⟨a', ha, hlt, hcol, hcell⟩
      · simp at hu
      · injection ha with ha; subst ha
        rw [List.getElem?_map, List.getElem?_take] at hu
        split at hu
        · obtain ⟨x, hx, rfl⟩ := Option.map_eq_some_iff.1 hu
          obtain ⟨hj, hj2⟩ := List.getElem?_eq_some_iff.1 hx
          have := hcell j hj 0 (by decide)
          rw [show El.u8.sz = 1 from rfl, Nat.mul_one, Nat.add_zero] at this
          rw [this, hj2]; rfl
        · cases hu
    have := run_copy_row (P := P) g.w dT sT ty e b o dl dcap a l.length cap vs.toArray T ((l.take (min l.length dl)).map bv) hT.eq hs hc.1 hlen hcells (by rw [hlen]; simpa using hfit) (by
      intro u hu; obtain ⟨x, _, rfl⟩ := List.mem_map.1 hu; rfl)
    rw [hlen] at this
    have e : vs.toArray.toList = vs := rfl
    rw [e, hvs] at this
    exact ⟨⟨g.w.setRow b vs'.toArray, g.col⟩, by simpa [goInt] using this, Step.setRow b _, (Step.setRow b _).cols (fun y hy _ => by simp at hy; subst hy; simp [hc.2]) (by simp), hc.setRow⟩
theorem w_copyB {x y : Operand} {dT sT e T : TypeId} [hT : Und P dT (.slice e)] {bts : Nat} {z : Value} [hi : Inf P e 1 bts z] {c b o dl dcap c2 : Nat} {vs vs' : List Value} {l : List UInt8} {v : Value} (hc : Cell g c b T vs) (hr : Rd g c2 El.u8 v l)
    (hx : evalS s x = some (.slice (some ⟨b, o, none⟩) dl dcap)) (hy : evalS s y = some v)
    (hfit : o + min l.length dl ≤ vs.length) (hvs : vs.take o ++ (l.take (min l.length dl)).map bv ++ vs.drop (o + min l.length dl) = vs') (hdN : Nat.ble (d + 1) N = true)
    (hk : ∀ h, Step [b] [] g h → Step [] [c] g h → Cell h c b T vs' → Wp P Z N (.ops all rest :: k) ((d, .int .i64 ((min l.length dl : Nat) : Int)) :: s) h.w) :
    Wp P Z N (.ops all (⟨some d, .call { callee := .builtin .copy, args := #[x, y], argTypes := #[dT, sT] }, ty, pos, af, none⟩ :: rest) :: k) s g.w := by
  obtain ⟨h, hr1, h1, h2, h3⟩ := run_copyB (P := P) (dT := dT) (sT := sT) (e := e) (ty := ty) (dcap := dcap) hc hr hfit hvs
  exact w_val (fun ac ha => by
    simp only [execOp, resolve, invoke, builtin, List.map_toArray, List.map_cons, List.map_nil, ha.eval hx, ha.eval hy]
    simp [hr1]) hdN (hk h h1 h2 h3)
/-- An element of an array that is a value. -/
theorem r_indexA {x i : Operand} {T e n : TypeId} [hT : Und P T (.array n e)] {dd : TypeDesc} [hd : Und P e dd] {bts : Nat} {z u : Value} [hi : Inf P e 1 bts z] {cs : Array Value} {kk : IntKind} {m : Int} (hx : evalS s x = some (.agg cs)) (hm : evalS s i = some (.int kk m)) (h0 : 0 ≤ m) (hlt : m.toNat < n)
    (h1 : dd.agg = false) (hu : cs[m.toNat]? = some u) :
    ∀ ac, Fits N s ac → (execOp ac.eval ⟨some d, .index T x i, ty, pos, af, none⟩).run P w = .ok (.value u) w :=
  fun ac ha => by
    have e0 : 0 ≤ m ∧ m < (n : Int) := ⟨h0, by omega⟩
    have hag : (isAgg e).run P w = .ok false w := by rw [isAgg_und hd.eq, h1]
    simp [execOp, ha.eval hx, ha.eval hm, Instr.index, asIntOf, run_underlying hT.eq, e0, sizeOf_inf hi, part, hag, hu]
theorem w_indexA {x i : Operand} {T e n : TypeId} [hT : Und P T (.array n e)] {dd : TypeDesc} [hd : Und P e dd] {bts : Nat} {z u : Value} [hi : Inf P e 1 bts z] {cs : Array Value} {kk : IntKind} {m : Int} (hx : evalS s x = some (.agg cs)) (hm : evalS s i = some (.int kk m)) (h0 : 0 ≤ m) (hlt : m.toNat < n)
    (h1 : dd.agg = false) (hu : cs[m.toNat]? = some u) (hdN : Nat.ble (d + 1) N = true)
    (hk : Wp P Z N (.ops all rest :: k) ((d, u) :: s) w) : Wp P Z N (.ops all (⟨some d, .index T x i, ty, pos, af, none⟩ :: rest) :: k) s w := w_val (r_indexA hx hm h0 hlt h1 hu) hdN hk

/-! ### '==' of structs and arrays -/
/-- '==' of values of the kind E says whether what they stand for is one. -/
class EqV (P : Program) (T : TypeId) {α : Type} [DecidableEq α] (E : El α) : Prop where
  eq : ∀ (n : Nat) (w : World) (a b : α), 5 ≤ n → (Op.equalIn n T (E.val a) (E.val b)).run P w = .ok (decide (a = b)) w
/-- One field's, or element's, part in it. -/
def PartEq (P : Program) (n : Nat) (T : TypeId) (xs ys : Array Value) (off : Nat) (w : World) (b : Bool) : Prop :=
  ∃ x y, (part T xs off).run P w = .ok x w ∧ (part T ys off).run P w = .ok y w ∧ (Op.equalIn n T x y).run P w = .ok b w
theorem eq_struct {n : Nat} {T : TypeId} {fs : List Field} {xs ys : Array Value} {bs : List Bool} (hu : P.underlying T = some (.struct fs.toArray)) (hst : P.stoodInHeld T = false)
    (hn : (fs.all fun f => decide (f.name ≠ "_")) = true) (hl : fs.length = bs.length) (hF : ∀ (i : Nat) (f : Field) (b : Bool), fs[i]? = some f → bs[i]? = some b → PartEq P n f.type xs ys f.offset w b) :
    (Op.equalIn (n + 1) T (.agg xs) (.agg ys)).run P w = .ok (bs.all id) w := by
  unfold Op.equalIn
  simp only [Sem.run_bind, run_underlying hu, Result.andThen_ok, run_program, hst]
  simp
  clear hu
  induction fs generalizing bs with
  | nil =>
    have : bs = [] := by simpa using hl.symm
    subst this; simp
  | cons f r ih =>
    cases bs with
    | nil => simp at hl
    | cons b bs =>
      obtain ⟨x, y, h1, h2, h3⟩ := hF 0 f b rfl rfl
      simp only [List.all_cons, Bool.and_eq_true, decide_eq_true_eq] at hn
      have ih' := ih hn.2 (by simpa using hl) (fun i f b hf hb => hF (i + 1) f b (by simpa using hf) (by simpa using hb))
      simp [hn.1, h1, h2, h3]
      cases b with
      | false => simp
      | true =>
        simp
        exact ih'
theorem eq_array {n len : Nat} {T e : TypeId} {sz bts : Nat} {z : Value} [hi : Inf P e sz bts z] {xs ys : Array Value} {F : Nat → Bool} (hu : P.underlying T = some (.array len e))
    (hF : ∀ i, i < len → PartEq P n e xs ys (i * sz) w (F i)) :
    (Op.equalIn (n + 1) T (.agg xs) (.agg ys)).run P w = .ok ((List.range len).all F) w := by
  unfold Op.equalIn
  simp only [Sem.run_bind, run_underlying hu, Result.andThen_ok, sizeOf_inf hi]
  simp [Std.Legacy.Range.forIn_eq_forIn_range']
  rw [List.range_eq_range']
  have hL : ∀ i ∈ List.range' 0 len, i < len := by intro i hi; simpa using hi
  generalize List.range' 0 len = L at hL ⊢
  induction L with
  | nil => simp
  | cons i L ih =>
    obtain ⟨x, y, h1, h2, h3⟩ := hF i (hL i (by simp))
    have ih' := ih (fun j hj => hL j (by simp [hj]))
    simp [h1, h2, h3]
    cases hb : F i with
    | false => simp
    | true => simp; exact ih'
theorem part_cell {T : TypeId} {dd : TypeDesc} {cs : Array Value} {off : Nat} {u : Value} [hd : Und P T dd] (h1 : dd.agg = false) (hu : cs[off]? = some u) : (part T cs off).run P w = .ok u w := by
  have hag : (isAgg T).run P w = .ok false w := by rw [isAgg_und hd.eq, h1]
  simp [part, hag, hu]
theorem part_agg {T : TypeId} {dd : TypeDesc} {cs : Array Value} {off sz bts : Nat} {z : Value} [hd : Und P T dd] [hi : Inf P T sz bts z] (h1 : dd.agg = true) : (part T cs off).run P w = .ok (.agg (cs.extract off (off + sz))) w := by
  have hag : (isAgg T).run P w = .ok true w := by rw [isAgg_und hd.eq, h1]
  simp [part, hag, sizeOf_inf hi]
theorem eqIn_int {T : TypeId} {kk : IntKind} [hT : Und P T (.int kk)] {n : Nat} (hn : 1 ≤ n) (a b : Int) : (Op.equalIn n T (.int kk a) (.int kk b)).run P w = .ok (decide (a = b)) w := by
  obtain ⟨m, rfl⟩ : ∃ m, n = m + 1 := ⟨n - 1, by omega⟩
  unfold Op.equalIn
  simp [run_underlying hT.eq, beq_dec]
theorem eqIn_str {T : TypeId} [hT : Und P T .string] {n : Nat} (hn : 1 ≤ n) (a b : List UInt8) : (Op.equalIn n T (str a) (str b)).run P w = .ok (decide (a = b)) w := by
  obtain ⟨m, rfl⟩ : ∃ m, n = m + 1 := ⟨n - 1, by omega⟩
  unfold Op.equalIn
  simp [run_underlying hT.eq, str]
  rw [beq_toListBytes, bytes_eq]
  show decide (a = b) = decide (a = b)
  congr
instance eqvInt (T : TypeId) [hT : Und P T (.int .i64)] : EqV P T El.int := ⟨fun n w a b hn => eqIn_int (by omega) a b⟩
instance eqvStr (T : TypeId) [hT : Und P T .string] : EqV P T El.str := ⟨fun n w a b hn => eqIn_str (by omega) a b⟩
theorem eqIn_u8 {T : TypeId} [hT : Und P T (.int .u8)] {n : Nat} (hn : 1 ≤ n) (a b : UInt8) : (Op.equalIn n T (bv a) (bv b)).run P w = .ok (decide (a = b)) w := by
  have := eqIn_int (P := P) (w := w) (T := T) (kk := .u8) hn (a.toNat : Int) (b.toNat : Int)
  unfold bv
  rw [this]
  congr 1
  rw [decide_eq_decide]
  constructor
  · intro h; exact UInt8.toNat_inj.1 (by omega)
  · intro h; rw [h]
theorem r_eqS {x y : Operand} {T yt : TypeId} {α : Type} [DecidableEq α] {E : El α} [he : EqV P T E] [hg : NoGuard P T] {a b : α} (hA : E.agg = true) (hx : evalS s x = some (E.val a)) (hy : evalS s y = some (E.val b)) :
    ∀ ac, Fits N s ac → (execOp ac.eval ⟨some d, .binOp .eql T x y yt, ty, pos, af, none⟩).run P w = .ok (.value (.bool (decide (a = b)))) w :=
  fun ac ha => by
    have e1 : ∀ a, E.val a = .agg (E.enc a).toArray := fun a => by simp [El.val, hA]
    have h1 := he.eq 10000 w a b (by decide)
    simp only [execOp, ha.eval hx, ha.eval hy]
    have hq : (eqGuard .eql T x y (E.val a) (E.val b)).run P w = .ok () w := by
      rw [e1, e1]
      simp [eqGuard, hg.eq]
    rw [Sem.run_bind, Sem.run_bind, hq, Result.andThen_ok]
    have h2 : binOp .eql T (E.val a) (E.val b) = (do pure (.bool (← Op.equal T (E.val a) (E.val b)))) := by rw [e1, e1]; rfl
    rw [h2]
    simp only [Op.equal, Op.maxDepth, Sem.run_bind, h1]
    rfl
theorem r_neS {x y : Operand} {T yt : TypeId} {α : Type} [DecidableEq α] {E : El α} [he : EqV P T E] [hg : NoGuard P T] {a b : α} (hA : E.agg = true) (hx : evalS s x = some (E.val a)) (hy : evalS s y = some (E.val b)) :
    ∀ ac, Fits N s ac → (execOp ac.eval ⟨some d, .binOp .neq T x y yt, ty, pos, af, none⟩).run P w = .ok (.value (.bool (decide (¬ a = b)))) w :=
  fun ac ha => by
    have e1 : ∀ a, E.val a = .agg (E.enc a).toArray := fun a => by simp [El.val, hA]
    have h1 := he.eq 10000 w a b (by decide)
    simp only [execOp, ha.eval hx, ha.eval hy]
    have hq : (eqGuard .neq T x y (E.val a) (E.val b)).run P w = .ok () w := by
      rw [e1, e1]
      simp [eqGuard, hg.eq]
    rw [Sem.run_bind, Sem.run_bind, hq, Result.andThen_ok]
    have h2 : binOp .neq T (E.val a) (E.val b) = (do pure (.bool (!(← Op.equal T (E.val a) (E.val b))))) := by rw [e1, e1]; rfl
    rw [h2]
    simp only [Op.equal, Op.maxDepth, Sem.run_bind, h1]
    simp
theorem w_eqS {x y : Operand} {T yt : TypeId} {α : Type} [DecidableEq α] {E : El α} [he : EqV P T E] [hg : NoGuard P T] {a b : α} (hA : E.agg = true) (hx : evalS s x = some (E.val a)) (hy : evalS s y = some (E.val b)) (hdN : Nat.ble (d + 1) N = true)
    (hk : Wp P Z N (.ops all rest :: k) ((d, .bool (decide (a = b))) :: s) w) : Wp P Z N (.ops all (⟨some d, .binOp .eql T x y yt, ty, pos, af, none⟩ :: rest) :: k) s w := w_val (r_eqS hA hx hy) hdN hk
theorem w_neS {x y : Operand} {T yt : TypeId} {α : Type} [DecidableEq α] {E : El α} [he : EqV P T E] [hg : NoGuard P T] {a b : α} (hA : E.agg = true) (hx : evalS s x = some (E.val a)) (hy : evalS s y = some (E.val b)) (hdN : Nat.ble (d + 1) N = true)
    (hk : Wp P Z N (.ops all rest :: k) ((d, .bool (decide (¬ a = b))) :: s) w) : Wp P Z N (.ops all (⟨some d, .binOp .neq T x y yt, ty, pos, af, none⟩ :: rest) :: k) s w := w_val (r_neS hA hx hy) hdN hk

/-! ### maps of numbers; maps ranged over -/
theorem findNow_int (x : Int) : ∀ (es : List MapEntry) (m : List Int) (i : Nat), es.map (·.key) = m.map El.int.val →
    Instr.findNow (.int .i64) (El.int.val x) es i = some ((m.findIdx? (fun y => decide (x = y))).bind fun j => (es[j]?).map fun e => (j + i, e.val))
  | [], m, i, h => by
    have : m = [] := by simpa using h.symm
    subst this; rfl
  | e :: es, m, i, h => by
    cases m with
    | nil => simp at h
    | cons y m =>
      simp only [List.map_cons, List.cons.injEq] at h
      obtain ⟨h1, h2⟩ := h
      have ih := findNow_int x es m (i + 1) h2
      have hs : Instr.sameNow (.int .i64) (El.int.val x) e.key = some (decide (x = y)) := by
        rw [h1]
        show (if IntKind.i64 = IntKind.i64 then some (x == y) else none) = _
        rw [if_pos rfl, beq_dec]
      simp only [Instr.findNow, hs]
      by_cases hxy : x = y
      · subst hxy
        simp [List.findIdx?_cons]
      · simp only [decide_eq_false hxy, ih, List.findIdx?_cons]
        cases List.findIdx? (fun y => decide (x = y)) m with
        | none => simp
        | some j => simp; cases es[j]? <;> simp [Nat.add_assoc, Nat.add_comm 1 i]
instance keyInt (T : TypeId) [hT : Und P T (.int .i64)] : KeyEq P T El.int where
  chk := fun w e x => by
    have h1 : ∀ q, (Instr.checkKey e (q + 1) T (El.int.val x)).run P w = .ok () w := fun q => by
      simp [Instr.checkKey, run_underlying hT.eq, El.val, El.int]
    exact h1 9999
  find := fun w x es m h => by
    simp only [Instr.findKey, Sem.run_bind, run_underlying hT.eq, Result.andThen_ok, findNow_int x es m 0 h]
    rfl
  bits := fun x => by
    show (IntKind.i64 == IntKind.i64 && x == x) = true
    simp

/-- An iterator over a map: the entries by their stamps, those that are still to come. -/
def IterIs (g : G) (c r b : Nat) (es : Array MapEntry) (clock : Nat) (seen : Array Nat) : Prop :=
  ∃ c0, g.w.heap[r]? = some (.mapIter (some b) clock seen c0) ∧ g.col r = c ∧ clock ≤ c0 ∧ (seen = #[] ∨ c0 = clock)
theorem IterIs.lt {c r b : Nat} {es : Array MapEntry} {clock : Nat} {seen : Array Nat} (h : IterIs g c r b es clock seen) : r < g.w.heap.size := by
  obtain ⟨c0, h1, _⟩ := h; exact (Array.getElem?_eq_some_iff.1 h1).1
theorem IterIs.go {h : G} {B M : List Nat} {c r b : Nat} {es : Array MapEntry} {clock : Nat} {seen : Array Nat} (hi : IterIs g c r b es clock seen) (hs : Step B M g h) (hM : c ∉ M := by first | (simp; done) | (simp; omega)) (hB : r ∉ B := by simp) : IterIs h c r b es clock seen := by
  have hlt := hi.lt
  obtain ⟨c0, h1, h2, h3⟩ := hi
  have := hs.keep r hlt hB (by rw [h2]; exact hM)
  exact ⟨c0, this.1.trans h1, this.2.trans h2, h3⟩
theorem w_range (c : Nat) {x : Operand} {T kt vt : TypeId} [hT : Und P T (.map kt vt)] {cm b : Nat} {es : Array MapEntry} {clock : Nat} (hm : MapAt g cm b es clock) (hx : evalS s x = some (.map (some b))) (hdN : Nat.ble (d + 1) N = true)
    (hk : ∀ h r, Step [] [] g h → IterIs h c r b es clock #[] → Wp P Z N (.ops all rest :: k) ((d, .pointer (some ⟨r, 0, none⟩)) :: s) h.w) :
    Wp P Z N (.ops all (⟨some d, .range T x, ty, pos, af, none⟩ :: rest) :: k) s g.w :=
  w_val (fun ac ha => by
    simp only [execOp, ha.eval hx]
    rw [Sem.run_bind, run_range_map g.w T kt vt b es clock hT.eq hm.1]
    rfl) hdN (hk (g.new (.mapIter (some b) clock #[] clock) c) g.w.heap.size (Step.new _ _ _) ⟨clock, heap_alloc_new _ _, if_pos rfl, Nat.le_refl _, .inl rfl⟩)
/-- The next entry, whichever; or none is left. -/
theorem w_next {x : Operand} {c r cm b : Nat} {es : Array MapEntry} {clock : Nat} {seen : Array Nat} (hi : IterIs g c r b es clock seen) (hm : MapAt g cm b es clock) (hst : Stamps es clock) (hx : evalS s x = some (.pointer (some ⟨r, 0, none⟩))) (hdN : Nat.ble (d + 1) N = true)
    (h0 : (∀ e ∈ es.toList, seen.contains e.born = true) → Wp P Z N (.ops all rest :: k) ((d, .tuple #[.bool false]) :: s) g.w)
    (h1 : ∀ e h, e ∈ es.toList → seen.contains e.born = false → Step [r] [] g h → Step [] [c] g h → IterIs h c r b es clock (seen.push e.born) → Wp P Z N (.ops all rest :: k) ((d, .tuple #[.bool true, e.key, e.val]) :: s) h.w) :
    Wp P Z N (.ops all (⟨some d, .next x false, ty, pos, af, none⟩ :: rest) :: k) s g.w := by
  have hlt := hi.lt
  obtain ⟨c0, hr, hcol, hc0, _⟩ := hi
  rcases run_next_at (P := P) g.w ty r b clock c0 seen es clock hr hm.1 hst.1 hc0 with ⟨hz, hrun⟩ | ⟨e, he, w1, hw1, hrun⟩
  · refine w_val (fun ac ha => ?_) hdN (h0 (all_seen es seen hz))
    simp only [execOp, ha.eval hx]
    rw [Sem.run_bind, hrun]; rfl
  · obtain ⟨he1, he2⟩ := mem_left he
    let h : G := ⟨Go.ChangeMaps.setBlock w1 r (.mapIter (some b) clock (seen.push e.born) clock), g.col⟩
    have hheap : w1.heap = g.w.heap := by rcases hw1 with rfl | rfl <;> rfl
    have hs : Step [r] [] g h := by
      refine ⟨by rcases hw1 with rfl | rfl <;> rfl, by rcases hw1 with rfl | rfl <;> rfl, by rcases hw1 with rfl | rfl <;> rfl, by rcases hw1 with rfl | rfl <;> first | exact Nat.le_refl _ | exact Nat.le_succ _, ?_, fun q hq hqr _ => ⟨?_, rfl⟩⟩
      · show g.w.heap.size ≤ (w1.heap.setIfInBounds r _).size
        rw [Array.size_setIfInBounds, hheap]; exact Nat.le_refl _
      · show (w1.heap.setIfInBounds r _)[q]? = _
        rw [Array.getElem?_setIfInBounds, if_neg (fun e => hqr (by simp [e])), hheap]
    refine w_val (w' := h.w) (fun ac ha => ?_) hdN (h1 e h he1 he2 hs (hs.cols (fun q hq _ => by simp at hq; subst hq; simp [hcol]) (by simp)) ⟨clock, ?_, hcol, Nat.le_refl _, .inr rfl⟩)
    · simp only [execOp, ha.eval hx]
      rw [Sem.run_bind, hrun]; rfl
    · show (w1.heap.setIfInBounds r _)[r]? = _
      rw [Array.getElem?_setIfInBounds, if_pos rfl, if_pos (by rw [hheap]; exact hlt)]
theorem w_entry {x : Operand} {c r cm b : Nat} {es : Array MapEntry} {clock : Nat} {seen : Array Nat} {e : MapEntry} (hi : IterIs g c r b es clock (seen.push e.born)) (hm : MapAt g cm b es clock) (hst : Stamps es clock) (he : e ∈ es.toList) (hx : evalS s x = some (.pointer (some ⟨r, 0, none⟩))) (hdN : Nat.ble (d + 1) N = true)
    (hk : Wp P Z N (.ops all rest :: k) ((d, .tuple #[e.key, e.val]) :: s) g.w) :
    Wp P Z N (.ops all (⟨some d, .entry x, ty, pos, af, none⟩ :: rest) :: k) s g.w := by
  obtain ⟨c0, hr, hcol, hc0, hc1⟩ := hi
  have hcc : c0 = clock := by
    rcases hc1 with h | h
    · have := congrArg Array.size h; simp at this
    · exact h
  subst hcc
  exact w_val (fun ac ha => by
    simp only [execOp, ha.eval hx]
    rw [Sem.run_bind, run_entry_at g.w r b c0 seen es c0 e hr hm.1 he hst.2]; rfl) hdN hk
end
end Go.Proofs.Ytnfokdhgajanpaa
