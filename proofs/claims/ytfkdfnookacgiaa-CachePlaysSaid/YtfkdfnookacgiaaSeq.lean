/- The engine: ranges over functions: maps.Keys and slices.AppendSeq, for any kind of elements. No statement of the seat is proved here. -/
import Derived.Test.YtfkdfnookacgiaaMap2
import Derived.RangeFuncSeq
import Derived.RangeFuncIn
import Derived.RangeFuncRecord
import Derived.RangeFuncLeaves
import Derived.TacticsIn
set_option linter.unusedVariables false
set_option linter.unusedSimpArgs false
namespace Go.Proofs.Ytfkdfnookacgiaa
open Go

/-! ### objects -/
/-- A block that is this object. -/
def ObjAt (g : G) (c b : Nat) (o : Obj) : Prop := g.w.heap[b]? = some o ∧ g.col b = c
theorem ObjAt.lt {g : G} {c b : Nat} {o : Obj} (h : ObjAt g c b o) : b < g.w.heap.size := (Array.getElem?_eq_some_iff.1 h.1).1
theorem ObjAt.step {g h : G} {c b : Nat} {o : Obj} {B M : List Nat} (hc : ObjAt g c b o) (hs : Step B M g h) (hM : c ∉ M) (hB : b ∉ B) : ObjAt h c b o := by
  have := hs.keep b hc.lt hB (by rw [hc.2]; exact hM)
  exact ⟨this.1.trans hc.1, this.2.trans hc.2⟩
theorem ObjAt.view {g h : G} {c b : Nat} {o : Obj} {M : List Nat} (hc : ObjAt g c b o) (hv : View M g h) (h0 : c = 0 ∨ c ∈ M) : ObjAt h c b o :=
  ⟨by rw [hv.1]; exact hc.1, (hv.2 b hc.lt (by rw [hc.2]; exact h0)).trans hc.2⟩
def G.putObj (g : G) (b : Nat) (o : Obj) : G := ⟨g.w.putObj b o, g.col⟩
theorem Step.putObj (g : G) (b : Nat) (o : Obj) : Step [b] [] g (g.putObj b o) :=
  ⟨rfl, rfl, rfl, Nat.le_refl _, by show g.w.heap.size ≤ (g.w.putObj b o).heap.size; simp, fun x _ hx _ => ⟨World.putObj_heap_other (by simpa using hx), rfl⟩⟩
theorem ObjAt.putObj {g : G} {c b : Nat} {o o' : Obj} (h : ObjAt g c b o) : ObjAt (g.putObj b o') c b o' := ⟨World.putObj_heap_same h.lt, h.2⟩
theorem ObjAt.put_other {g : G} {c b q : Nat} {o o' : Obj} (h : ObjAt g c b o) (hq : b ≠ q) : ObjAt (g.putObj q o') c b o := ⟨(World.putObj_heap_other hq).trans h.1, h.2⟩
theorem ObjAt.stepC {g : G} {c b : Nat} {o o' : Obj} (h : ObjAt g c b o) : Step [] [c] g (g.putObj b o') :=
  (Step.putObj g b o').cols (fun x hx _ => by simp at hx; subst hx; simp [h.2]) (by simp)
theorem ObjAt.new (g : G) (c : Nat) (o : Obj) : ObjAt (g.new o c) c g.w.heap.size o := ⟨heap_alloc_new _ _, if_pos rfl⟩

/-! ### operations within a fence -/
def WpI (P : Program) (F : Fence) (n : Nat) (Q : Exit → Act → World → Prop) (N : Nat) (all : Array Oper) (l : List Oper) (s : Env) (w : World) : Prop := ∀ a, Fits N s a → wpListIn F n P all Q l a w

section
variable {P : Program} {F : Fence} {n : Nat} {Q : Exit → Act → World → Prop} {N : Nat} {all : Array Oper} {rest : List Oper} {s : Env} {w w' : World} {g : G}
variable {op : Op} {ty : TypeId} {pos : String} {af : Array Edge} {d : Nat} {v : Value}
theorem i_nil (h : ∀ a, Fits N s a → Q .normal a w) : WpI P F n Q N all [] s w := fun a ha => wpListIn_nil (h a ha)
theorem i_val (hF : ∀ f, F.fn f) (hnd : ∀ c, op ≠ .defer c) (h : ∀ a, Fits N s a → (execOp a.eval ⟨some d, op, ty, pos, af, none⟩).run P w = .ok (.value v) w') (hdN : Nat.ble (d + 1) N = true)
    (hk : WpI P F n Q N all rest ((d, v) :: s) w') : WpI P F n Q N all (⟨some d, op, ty, pos, af, none⟩ :: rest) s w := fun a ha => by
  have hh := hk (a.put (some d) v) (ha.put (Nat.le_of_ble_eq_true hdN))
  unfold wpListIn
  rw [if_pos (by simp [Region.wanted])]
  refine ⟨fun f _ => hF f, ?_⟩
  rw [Oper.semAt_eq _ _ _ hnd, h a ha]
  exact hh
theorem i_drop (hF : ∀ f, F.fn f) (hnd : ∀ c, op ≠ .defer c) (h : ∀ a, Fits N s a → (execOp a.eval ⟨none, op, ty, pos, af, none⟩).run P w = .ok .skip w')
    (hk : WpI P F n Q N all rest s w') : WpI P F n Q N all (⟨none, op, ty, pos, af, none⟩ :: rest) s w := fun a ha => by
  have hh := hk a ha
  unfold wpListIn
  rw [if_pos (by simp [Region.wanted])]
  refine ⟨fun f _ => hF f, ?_⟩
  rw [Oper.semAt_eq _ _ _ hnd, h a ha]
  exact hh
theorem i_pure (hF : ∀ f, F.fn f) (hnd : ∀ c, op ≠ .defer c) (h : pureOp s op = some v) (hdN : Nat.ble (d + 1) N = true)
    (hk : WpI P F n Q N all rest ((d, v) :: s) w) : WpI P F n Q N all (⟨some d, op, ty, pos, af, none⟩ :: rest) s w := i_val hF hnd (fun a ha => run_pureOp h ha) hdN hk

/-- A round of a loop over a function, called by the function: what it changes is of the colours M. -/
def Yld (P : Program) (l : Nat) (args : List Value) (g : G) (M : List Nat) (R : Value → G → Prop) : Prop :=
  YieldAt Fence.wide 0 P l args.toArray g.w (Ret fun v w' => ∃ col', Step [] M g ⟨w', col'⟩ ∧ R v ⟨w', col'⟩)
theorem i_yield {fx : Operand} {l : Nat} {args : Array Operand} {ts : Array TypeId} {vs : List Value} {M : List Nat} {R : Value → G → Prop} (hnf : ∀ q, fx ≠ .func q) (hfx : evalS s fx = some (.func (.yield l) #[] #[])) (hx : evalL s args.toList = some vs)
    (hy : Yld P l vs g M R) (hdN : Nat.ble (d + 1) N = true)
    (hk : ∀ v h, Step [] M g h → R v h → WpI P Fence.wide 1 Q N all rest ((d, v) :: s) h.w) :
    WpI P Fence.wide 1 Q N all (⟨some d, .call { callee := .value fx, args, argTypes := ts }, ty, pos, af, none⟩ :: rest) s g.w := fun a ha => by
  obtain ⟨fn, tmps, assign, body, hrun, hR⟩ := hy
  have e := ha.evalL hx
  have e2 : args.map a.eval = vs.toArray := by rw [← e]; simp [← Array.toList_map]
  have hex : (execOp a.eval ⟨some d, .call { callee := .value fx, args, argTypes := ts }, ty, pos, af, none⟩).run P g.w = .ok (.round l fn tmps assign body) g.w := by
    simp [execOp, resolve, ha.eval hfx, Deferred.ofValue, invoke, e2, hrun]
  unfold wpListIn
  rw [if_pos (by simp [Region.wanted])]
  refine ⟨fun f _ => trivial, ?_⟩
  rw [Oper.semAt_eq _ _ _ (fun c => by intro h; cases h), hex]
  refine ⟨fun _ => Nat.le_refl _, hR.mono ?_⟩
  rintro e w' ⟨v, rfl, col', hs, hr⟩
  exact hk v ⟨w', col'⟩ hs hr (a.put (some d) v) (ha.put (Nat.le_of_ble_eq_true hdN))
end
theorem w_regionI {P : Program} {Z : Exit → Act → World → Prop} {N : Nat} {k : List It} {s : Env} {w : World} {id : Nat} {l : List Oper}
    (h : WpI P Fence.wide 1 (sem P Z k) N l.toArray l s w) : Wp P Z N (.code (.region id l.toArray false) :: k) s w := fun a ha => by
  simp only [sem]
  exact wpIn_wide.1 (wpIn_region_lit (h a ha))
theorem i_done {P : Program} {Z : Exit → Act → World → Prop} {N : Nat} {k : List It} {s : Env} {w : World} {all : Array Oper} (h : Wp P Z N k s w) : WpI P Fence.wide 1 (sem P Z k) N all [] s w := i_nil h

/-! ### the contract of a function that is ranged over -/
/-- What gf gives, one after the other, where the world's first blocks are those of w0. -/
def Gives {α : Type} (P : Program) (gf : FuncId) (lb : List Value) (K : α → Value) (S : List α → Prop) (n : Nat) (w0 : World) : Prop :=
  ∀ (g : G) (l : Nat) (M : List Nat) (J : List α → G → Prop), w0.heap.size ≤ g.w.heap.size → (∀ b, b < w0.heap.size → g.w.heap[b]? = w0.heap[b]? ∧ g.col b ∉ M) → (∀ x ∈ M, 2 ≤ x ∧ x < 10) →
    (∀ pre g h L, J pre g → Step [] L g h → (∀ x ∈ L, x ∉ M) → J pre h) → (∀ pre g h, J pre g → View M g h → J pre h) →
    (∀ pre x h, J pre h → pre.length < n → Yld P l [K x] h M fun v h' => v = .bool true ∧ J (pre ++ [x]) h') → J [] g →
    Fn P gf (.func (.yield l) #[] #[] :: lb) g M fun _ h => ∃ xs, S xs ∧ J xs h
theorem Gives.mono {α : Type} {P : Program} {gf : FuncId} {lb : List Value} {K : α → Value} {S : List α → Prop} {n : Nat} {w0 w1 : World} (h : Gives P gf lb K S n w0) (hs : w0.heap.size ≤ w1.heap.size) (hb : ∀ b, b < w0.heap.size → w1.heap[b]? = w0.heap[b]?) : Gives P gf lb K S n w1 :=
  fun g l M J h1 h2 h3 h4 h5 h6 h7 => h g l M J (Nat.le_trans hs h1) (fun b hlt => ⟨(h2 b (Nat.lt_of_lt_of_le hlt hs)).1.trans (hb b hlt), (h2 b (Nat.lt_of_lt_of_le hlt hs)).2⟩) h3 h4 h5 h6 h7

/-! ### more operations within a fence -/
section
variable {P : Program} {F : Fence} {n : Nat} {Q : Exit → Act → World → Prop} {N : Nat} {all : Array Oper} {rest : List Oper} {s : Env} {w w' : World} {g : G}
variable {op : Op} {ty : TypeId} {pos : String} {af : Array Edge} {d : Nat} {v : Value}
theorem i_alloc (hF : ∀ f, F.fn f) (c : Nat) {T : TypeId} {sz bts : Nat} {z : Value} [hi : Inf P T sz bts z] {vs : List Value} (hv : z.cells = vs.toArray) (hdN : Nat.ble (d + 1) N = true)
    (hk : ∀ h b, Step [] [] g h → Cell h c b T vs → WpI P F n Q N all rest ((d, .pointer (some ⟨b, 0, none⟩)) :: s) h.w) :
    WpI P F n Q N all (⟨some d, .alloc T, ty, pos, af, none⟩ :: rest) s g.w :=
  i_val hF (fun c => by intro h; cases h) (fun ac ha => by
    have := zero_inf (w := g.w) hi
    simp only [execOp, Instr.alloc, newVar, newRow]
    simp [this, hv, G.new]) hdN (hk (g.new (.cells vs.toArray T) c) g.w.heap.size (Step.new _ _ _) (Cell.new _ _ _ _))
theorem i_store (hF : ∀ f, F.fn f) {p x : Operand} {T T' : TypeId} {sz bts : Nat} {z u : Value} [hi : Inf P T sz bts z] {c b o : Nat} {vs us vs' : List Value} (hc : Cell g c b T' vs) (hp : evalS s p = some (.pointer (some ⟨b, o, none⟩))) (hx : evalS s x = some u)
    (hu : u.cells = us.toArray) (hl : us.length = sz) (h1 : ∀ u ∈ us, u.oneCell' = true) (hfit : o + sz ≤ vs.length) (hvs : vs.take o ++ us ++ vs.drop (o + sz) = vs')
    (hk : ∀ h, Step [b] [] g h → Step [] [c] g h → Cell h c b T' vs' → WpI P F n Q N all rest s h.w) :
    WpI P F n Q N all (⟨none, .store T p x, ty, pos, af, none⟩ :: rest) s g.w :=
  i_drop hF (fun c => by intro h; cases h) (fun ac ha => by simp only [execOp, ha.eval hp, ha.eval hx]; rw [Sem.run_bind, run_storeVar hi hc hu hl h1 hfit hvs]; rfl)
    (hk ⟨g.w.setRow b vs'.toArray, g.col⟩ (Step.setRow b _) ((Step.setRow b _).cols (fun y hy _ => by simp at hy; subst hy; simp [hc.2]) (by simp)) hc.setRow)
theorem i_load1 (hF : ∀ f, F.fn f) {x : Operand} {T T' : TypeId} {dd : TypeDesc} {bts : Nat} {z : Value} [hd : Und P T dd] [hi : Inf P T 1 bts z] {c b o : Nat} {vs : List Value} (hc : Cell g c b T' vs) (hx : evalS s x = some (.pointer (some ⟨b, o, none⟩)))
    (hv : vs[o]? = some v) (h1 : dd.agg = false) (hdN : Nat.ble (d + 1) N = true)
    (hk : WpI P F n Q N all rest ((d, v) :: s) g.w) : WpI P F n Q N all (⟨some d, .load T x, ty, pos, af, none⟩ :: rest) s g.w :=
  i_val hF (fun c => by intro h; cases h) (r_load1 hc hx hv h1) hdN hk
theorem i_loadS (hF : ∀ f, F.fn f) {x : Operand} {T T' : TypeId} {dd : TypeDesc} {sz bts : Nat} {z : Value} [hd : Und P T dd] [hi : Inf P T sz bts z] {c b o : Nat} {vs us : List Value} (hc : Cell g c b T' vs) (hx : evalS s x = some (.pointer (some ⟨b, o, none⟩)))
    (hus : (vs.drop o).take sz = us) (hl : us.length = sz) (h1 : dd.agg = true) (hdN : Nat.ble (d + 1) N = true)
    (hk : WpI P F n Q N all rest ((d, .agg us.toArray) :: s) g.w) : WpI P F n Q N all (⟨some d, .load T x, ty, pos, af, none⟩ :: rest) s g.w :=
  i_val hF (fun c => by intro h; cases h) (r_load hc hx hus hl (fun h => by rw [h1] at h; cases h)) hdN (by rw [if_pos h1]; exact hk)
theorem i_append (hF : ∀ f, F.fn f) {x y : Operand} {t e : TypeId} [hT : Und P t (.slice e)] {α : Type} {E : El α} {bts : Nat} {z : Value} [hi : Inf P e E.sz bts z] {c c2 : Nat} {v2 : Value} {l m : List α} (ho : Own g c E e v l) (hr : Rd g c2 E v2 m)
    (hx : evalS s x = some v) (hy : evalS s y = some v2) (hzz : z.cells.size = E.sz) (hb : 0 < bts) (hfit : (l.length + m.length) * bts ≤ 140737488355328) (hdN : Nat.ble (d + 1) N = true)
    (hk : ∀ h v', Step [] [c] g h → Own h c E e v' (l ++ m) → WpI P F n Q N all rest ((d, v') :: s) h.w) :
    WpI P F n Q N all (⟨some d, .call { callee := .builtin .append, args := #[x, y], argTypes := #[t, t] }, ty, pos, af, none⟩ :: rest) s g.w := by
  obtain ⟨v', h, hrun, hs, ho'⟩ := run_append_rd (P := P) (t := t) (ty := ty) (z := z) (bts := bts) hzz ho hr hfit hb
  refine i_val hF (fun c => by intro h; cases h) (v := v') (w' := h.w) (fun ac ha => ?_) hdN (hk h v' hs ho')
  simp only [execOp, resolve, invoke, builtin, List.map_toArray, List.map_cons, List.map_nil, ha.eval hx, ha.eval hy]
  simp [hrun]
/-- A slice literal of one element. -/
theorem i_buildOne (hF : ∀ f, F.fn f) (c : Nat) {T e : TypeId} [hT : Und P T (.slice e)] {α : Type} (E : El α) {bts : Nat} {z : Value} [hi : Inf P e E.sz bts z] (y : α) {x : Operand}
    (hx : evalS s x = some (E.val y)) (hle : E.sz ≤ 16777216) (hdN : Nat.ble (d + 1) N = true)
    (hk : ∀ h v, Step [] [] g h → Own h c E e v [y] → WpI P F n Q N all rest ((d, v) :: s) h.w) :
    WpI P F n Q N all (⟨some d, .buildSlice T 1 #[(0, x)], ty, pos, af, none⟩ :: rest) s g.w := by
  have hlen := flat_length E [y]
  have hown : (g.w.alloc (.cells ([y].flatMap E.enc).toArray e)).ownsRow 0 e E.sz (.slice (some ⟨g.w.heap.size, 0, none⟩) 1 1) 1 ([y].flatMap E.enc) := by
    have := World.ownsRow_lit (base := 0) (e := e) (size := E.sz) g.w ([y].flatMap E.enc).toArray 1 (Nat.zero_le _) (by decide) (by simpa using hlen)
    simpa using this
  refine i_val hF (fun c => by intro h; cases h) (v := .slice (some ⟨g.w.heap.size, 0, none⟩) 1 1) (w' := g.w.alloc (.cells ([y].flatMap E.enc).toArray e)) (fun ac ha => ?_) hdN
    (hk (g.new (.cells ([y].flatMap E.enc).toArray e) c) _ (Step.new _ _ _) ⟨hown, fun b hb => ?_⟩)
  · obtain ⟨i0, hi0, hz, hs, _⟩ := hi.get
    have hnle : ¬ (2 ^ 24 < 1 * E.sz) := by omega
    have hz2 := fill_all E [y] 0 [] ((Array.range (1 * E.sz)).map (fun j => z.cells[j % z.cells.size]!)).toList (by simp) (by simp)
    simp only [List.nil_append, Array.toArray_toList] at hz2
    simp only [execOp, Instr.buildSlice]
    have h0 : ¬ 1 * E.sz = 0 := by have := E.pos; omega
    have hzero : (zeroValue e).run P g.w = .ok z g.w := by simp [zeroValue, typeInfo, hi0, hz]
    simp only [Sem.run_bind, run_underlying hT.eq, Result.andThen_ok, sizeOf_inf hi, gt_iff_lt, hnle, if_false, h0, hzero]
    simp only [Sem.run_pure, Result.andThen_ok, hzero, Sem.run_bind]
    have e1 : (#[((0 : Nat), x)].map fun (p : Nat × Operand) => match p with | (i, x) => (i, ac.eval x)).toList = ([y].zipIdx 0).map fun p => (p.2, E.val p.1) := by
      simp [ha.eval hx]
    rw [e1, hz2]
    simp [newRow]
  · simp [Value.ownBlock] at hb
    subst hb
    simp [G.new]
end

/-! ### colours seen from within -/
theorem View.low {M : List Nat} {g h : G} {b : Nat} (hv : View M g h) (ho : Out M g h) (hb : b < g.w.heap.size) (hM : g.col b ∉ M) : h.col b < 2 := by
  by_cases h0 : g.col b = 0 ∨ g.col b ∈ M
  · rcases h0 with h0 | h0
    · rw [hv.2 b hb (.inl h0), h0]; omega
    · exact absurd h0 hM
  · rw [ho b hb h0]; omega

/-! ### functions that range over functions -/
theorem enterGM {P : Program} {f : FuncId} {fn : Func} {c : Code} {args : List Value} {g : G} {R : Value → G → Prop} {n : Nat} (M L : List Nat)
    (hf : P.funcs[f]? = some fn) (hb : fn.body = some c) (hn : fn.ntmps = n) (ha : Nat.ble args.length n = true) (hML : ∀ x ∈ M ++ L, 2 ≤ x)
    (h : ∀ g1, View M g g1 → Out M g g1 → Wp P (bodyPostM Fence.wide 1 P fn (Ret (End g1 M L R))) n [.code c] (envOf 0 args) g1.w) : Fn P f args g M R := by
  have h2 := h (g.inn M) (View.inn g M) (Out.inn g M)
  refine Fn.of_end hML ?_
  have hcalls : Calls P f args.toArray (g.inn M).w (Ret (End (g.inn M) M L R)) := by
    refine callsIn_wide.1 (callsIn_of_wp_marks (F := Fence.wide) (n := 1) hf hb trivial ?_)
    refine wpIn_wide.2 ?_
    have := h2 { tmps := args.toArray ++ Array.replicate (fn.ntmps - args.toArray.size) undef, defers := [] } ?_
    · simpa [sem] using this
    · have hle := Nat.le_of_ble_eq_true ha
      refine ⟨by simp [hn]; omega, rfl, fun k v hk => ?_⟩
      obtain ⟨_, h2⟩ := look_envOf _ _ _ _ hk
      simp only [Nat.sub_zero] at h2
      rw [Array.getElem?_append_left (by simpa using (List.getElem?_eq_some_iff.1 h2).1)]
      simpa using h2
  exact hcalls

/-- What is known of a frame among whose deferred calls is a loop's mark. -/
def FitsD (N : Nat) (s : Env) (D : Nat) (a : Act) : Prop := Fits N s { a with defers := [] } ∧ a.defers = [{ target := .collected D, args := #[] }]
def recOf (fn : FuncId) (tmps : Array Value) (ps : Array Tmp) (assign body : Code) (D : Nat) (st : LoopState) : Obj := .loop { state := st, pending := none, fn, tmps, params := ps, assign, body, defers := D }
theorem w_rangeFunc {P : Program} {Z : Exit → Act → World → Prop} {N : Nat} {k : List It} {s : Env} {g : G} {gop : Operand} {ps : Array Tmp} {assign body : Code} {gf : FuncId} {lb : Array Value} [he : Enter P gf]
    (c : Nat) {M : List Nat} {R : G → Prop} (hnf : ∀ q, gop ≠ .func q) (hg : evalS s gop = some (.func (.func gf) #[] lb)) (hcM : c ∈ M)
    (hcall : ∀ (h : G) (l D fn : Nat) (tmps : Array Value) (rc : LoopState → Obj), rc = recOf fn tmps ps assign body D → Step [] [] g h → tmps.size = N → (∀ k v, look s k = some v → tmps[k]? = some v) → l ≠ D → g.w.heap.size ≤ l → g.w.heap.size ≤ D →
      ObjAt h c l (rc .ready) → ObjAt h c D (.deferred (some [])) →
      Fn P gf (.func (.yield l) #[] #[] :: lb.toList) h M fun _ h' => R h' ∧ ObjAt h' c l (rc .ready) ∧ ObjAt h' c D (.deferred (some [])))
    (hR : ∀ h h', R h → Step [] [c] h h' → R h')
    (hk : ∀ (h : G) (D : Nat), Step [] M g h → R h → ObjAt h c D (.deferred (some [])) → ∀ a, FitsD N s D a → sem P Z k .normal a h.w) :
    Wp P Z N (.code (.rangeFunc gop ps assign body) :: k) s g.w := fun a ha => by
  simp only [sem]
  refine (wpIn_wide (n := 1)).1 (wpIn_rangeFunc fun fn _ => ?_)
  let D := g.w.heap.size
  let l := g.w.heap.size + 1
  let g1 : G := g.new (.deferred (some [])) c
  let g2 : G := g1.new (recOf fn a.tmps ps assign body D .ready) c
  have hs1 : Step [] [] g g1 := Step.new _ _ _
  have hs2 : Step [] [] g1 g2 := Step.new _ _ _
  have hD1 : ObjAt g1 c D (.deferred (some [])) := ObjAt.new _ _ _
  have hD2 : ObjAt g2 c D (.deferred (some [])) := hD1.step hs2 (by simp) (by simp)
  have hl2 : ObjAt g2 c l (recOf fn a.tmps ps assign body D .ready) := by
    have := ObjAt.new g1 c (recOf fn a.tmps ps assign body D .ready)
    have e : g1.w.heap.size = l := by simp [g1, G.new, l]
    rw [e] at this; exact this
  refine ⟨l, [{ target := .collected D, args := #[] }], g2.w, { target := .fn (.func gf) lb, args := #[.func (.yield l) #[] #[]] }, g2.w, gf, #[.func (.yield l) #[] #[]] ++ lb, g2.w, ?_, ?_, ?_, ?_, fun _ => Nat.le_refl _, ?_⟩
  · exact run_enterLoop_outer _ _ _ _ _
  · have hcst : ∀ v, a.eval (.const v) = v := fun _ => rfl
    simp [resolve, ha.eval hg, Deferred.ofValue, hcst]
  · intro f' _; trivial
  · simp [invoke, he.eq]
  · refine callsIn_wide.2 ?_
    have hc := hcall g2 l D fn a.tmps _ rfl (hs1.trans hs2) ha.size ha.get (by simp [l, D]) (by simp [l]) (by simp [D]) hl2 hD2
    have e : (#[Value.func (.yield l) #[] #[]] ++ lb : Array Value) = (Value.func (.yield l) #[] #[] :: lb.toList).toArray := by simp
    rw [e]
    refine Calls.mono hc ?_
    rintro e w' ⟨v, rfl, col', hs, hr, hl, hD⟩
    let h3 : G := ⟨w', col'⟩
    have hl3 : ObjAt h3 c l (recOf fn a.tmps ps assign body D .ready) := hl
    have hD3 : ObjAt h3 c D (.deferred (some [])) := hD
    refine ⟨none, w'.putObj l (recOf fn a.tmps ps assign body D .exhausted), run_endLoop hl3.1 (by simp), ?_⟩
    refine hk (h3.putObj l (recOf fn a.tmps ps assign body D .exhausted)) D ?_ (hR _ _ hr hl3.stepC) (hD3.put_other (by simp [l, D])) _ ⟨⟨ha.size, rfl, ha.get⟩, by simp [ha.def0]⟩
    exact ((hs1.trans hs2).mono (by simp) (by simp)).trans (Step.trans hs (hl3.stepC.mono (by simp) (by simp; exact hcM)))
/-- The function's end behind such a loop: one cell is read, and returned. -/
theorem tail_loadRet {P : Program} {fn : Func} {R : Value → World → Prop} {N : Nat} {s : Env} {g : G} {id : Nat} {x : Operand} {T T' : TypeId} {dd : TypeDesc} {bts : Nat} {z : Value} [hd : Und P T dd] [hi : Inf P T 1 bts z]
    {c c2 b D d1 d2 : Nat} {v : Value} {vs : List Value} {ty1 ty2 : TypeId} {p1 p2 : String} {af1 af2 : Array Edge} {a : Act}
    (hc : Cell g c b T' vs) (hx : evalS s x = some (.pointer (some ⟨b, 0, none⟩))) (hv : vs[0]? = some v) (h1 : dd.agg = false) (hn1 : d1 < N) (hn2 : d2 < N) (hne : d1 ≠ d2)
    (hres : fn.results = #[.tmp d2]) (hD : ObjAt g c2 D (.deferred (some []))) (ha : FitsD N s D a) (hR : R v (g.putObj D (.deferred none)).w) :
    sem P (bodyPostM Fence.wide 1 P fn (Ret R)) [.code (.seq (.region id #[⟨some d1, .load T x, ty1, p1, af1, none⟩, ⟨some d2, .assign (.tmp d1), ty2, p2, af2, none⟩] false) .ret)] .normal a g.w := by
  obtain ⟨hf, hdef⟩ := ha
  have hev : ∀ y, a.eval y = ({ a with defers := [] } : Act).eval y := fun y => by cases y <;> rfl
  simp only [sem]
  refine wp_seq (wp_region_lit ?_)
  unfold wpList
  rw [if_pos (by simp [Region.wanted])]
  refine .inl ?_
  have e1 := r_load1 (P := P) (N := N) (T := T) (d := d1) (ty := ty1) (pos := p1) (af := af1) hc hx hv h1 _ hf
  have e1' : (execOp a.eval ⟨some d1, .load T x, ty1, p1, af1, none⟩).run P g.w = .ok (.value v) g.w := by
    have : a.eval = ({ a with defers := [] } : Act).eval := funext hev
    rw [this]; exact e1
  simp only [Oper.wp, e1', Oper.upon]
  unfold wpList
  rw [if_pos (by simp [Region.wanted])]
  refine .inl ?_
  have hsz : a.tmps.size = N := hf.size
  have e2 : (a.put (some d1) v).eval (.tmp d1) = v := by
    simp [Act.eval, Act.put, Array.getD_eq_getD_getElem?, hsz, hn1]
  have e2' : (execOp (a.put (some d1) v).eval ⟨some d2, .assign (.tmp d1), ty2, p2, af2, none⟩).run P g.w = .ok (.value v) g.w := by
    simp [execOp, e2]
  simp only [Oper.wp, e2', Oper.upon]
  unfold wpList
  refine wp_ret ?_
  have hD' : (Instr.takeDeferred D).run P g.w = .ok [] (g.putObj D (.deferred none)).w := run_takeDeferred hD.1
  have hdd : ((a.put (some d1) v).put (some d2) v).defers = [{ target := .collected D, args := #[] }] := hdef
  show LeavesInM _ _ _ _ _ _ _ _ _
  rw [hdd]
  refine ⟨by simp, .inl ⟨D, _, rfl, hD', ?_⟩⟩
  refine ⟨v, ?_, v, rfl, hR⟩
  rw [results_tmp hres, Array.getD_eq_getD_getElem?]
  simp [Act.put, hsz, hn2]

section
variable {P : Program} {w : World} {l fn p D : Nat} {tmps : Array Value} {assign body : Code} {x : Value} {rc : LoopState → Obj} {ps : Array Tmp}
theorem run_yield1 (hrc : rc = recOf fn tmps #[p] assign body D) (h : w.heap[l]? = some (rc .ready)) :
    (Instr.yield l #[x]).run P w = .ok (.round l fn (tmps.setIfInBounds p x) assign body) w := by
  subst hrc
  have := run_yield (P := P) (args := #[x]) h rfl
  simpa using this
theorem run_begin1 (hrc : rc = recOf fn tmps ps assign body D) (h : w.heap[l]? = some (rc .ready)) : (Instr.beginRound l).run P w = .ok () (w.putObj l (rc .busy)) := by
  subst hrc
  exact run_beginRound h rfl
theorem run_end1 (hrc : rc = recOf fn tmps ps assign body D) (h : w.heap[l]? = some (rc .busy)) : (Instr.endRound l none).run P w = .ok (.bool true) (w.putObj l (rc .ready)) := by
  subst hrc
  exact run_endRound none h
end

/-! ### m[k], as an operation that reads -/
theorem r_lookup {P : Program} {N : Nat} {s : Env} {g : G} {d : Nat} {ty : TypeId} {pos : String} {af : Array Edge} {κ ν : Type} [DecidableEq κ] {K : El κ} {V : El ν} {c b : Nat} {m : List (κ × ν)}
    {x y : Operand} {T kt vt : TypeId} [hT : Und P T (.map kt vt)] [hK : KeyEq P kt K] {sz bts : Nat} {z : Value} [hi : Inf P vt sz bts z] {key : κ} (hm : MapIs g c b K V m) (hx : evalS s x = some (.map (some b))) (hy : evalS s y = some (K.val key)) :
    ∀ ac, Fits N s ac → (execOp ac.eval ⟨some d, .lookup T x y false, ty, pos, af, none⟩).run P g.w = .ok (.value (optV V z (mget key m))) g.w := fun ac ha => by
  obtain ⟨es, cl, h1, h2, h3, hst, hf⟩ := run_find (P := P) (T := kt) hm key
  simp only [execOp, ha.eval hx, ha.eval hy, Instr.lookup]
  simp only [Sem.run_bind, run_underlying hT.eq, Result.andThen_ok, run_getMap h1, Sem.run_pure, hK.chk, hf]
  cases hg : mget key m with
  | none => rw [(idx_none key m).2 hg]; simp [zero_inf hi, optV]
  | some u =>
    have hne : ¬ ((m.map (·.1)).findIdx? (fun y => decide (key = y))) = none := fun e => by rw [(idx_none key m).1 e] at hg; cases hg
    obtain ⟨i, hi'⟩ := Option.ne_none_iff_exists'.1 hne
    rw [hi']; simp [optV]

/-- v, ok := m[k], as an operation that reads. -/
theorem r_lookupOk {P : Program} {N : Nat} {s : Env} {g : G} {d : Nat} {ty : TypeId} {pos : String} {af : Array Edge} {κ ν : Type} [DecidableEq κ] {K : El κ} {V : El ν} {c b : Nat} {m : List (κ × ν)}
    {x y : Operand} {T kt vt : TypeId} [hT : Und P T (.map kt vt)] [hK : KeyEq P kt K] {sz bts : Nat} {z : Value} [hi : Inf P vt sz bts z] {key : κ} (hm : MapIs g c b K V m) (hx : evalS s x = some (.map (some b))) (hy : evalS s y = some (K.val key)) :
    ∀ ac, Fits N s ac → (execOp ac.eval ⟨some d, .lookup T x y true, ty, pos, af, none⟩).run P g.w = .ok (.value (.tuple #[optV V z (mget key m), .bool (mget key m).isSome])) g.w := fun ac ha => by
  obtain ⟨es, cl, h1, h2, h3, hst, hf⟩ := run_find (P := P) (T := kt) hm key
  simp only [execOp, ha.eval hx, ha.eval hy, Instr.lookup]
  simp only [Sem.run_bind, run_underlying hT.eq, Result.andThen_ok, run_getMap h1, Sem.run_pure, hK.chk, hf]
  cases hg : mget key m with
  | none => rw [(idx_none key m).2 hg]; simp [zero_inf hi, optV]
  | some u =>
    have hne : ¬ ((m.map (·.1)).findIdx? (fun y => decide (key = y))) = none := fun e => by rw [(idx_none key m).1 e] at hg; cases hg
    obtain ⟨i, hi'⟩ := Option.ne_none_iff_exists'.1 hne
    rw [hi']; simp [optV]

/-! ### plain laws -/
theorem nodup_of_map {α β : Type} (f : α → β) : ∀ {l : List α}, (l.map f).Nodup → l.Nodup
  | [], _ => List.nodup_nil
  | a :: l, h => by
    simp only [List.map_cons, List.nodup_cons] at h ⊢
    exact ⟨fun ha => h.1 (List.mem_map_of_mem ha), nodup_of_map f h.2⟩
theorem nodup_inj {α β : Type} (f : α → β) : ∀ {l : List α}, (l.map f).Nodup → ∀ x ∈ l, ∀ y ∈ l, f x = f y → x = y
  | [], _, x, hx, _, _, _ => by simp at hx
  | a :: l, h, x, hx, y, hy, e => by
    simp only [List.map_cons, List.nodup_cons] at h
    rcases List.mem_cons.1 hx with h1 | h1
    · rcases List.mem_cons.1 hy with h2 | h2
      · rw [h1, h2]
      · exact absurd (List.mem_map.2 ⟨y, h2, by rw [← e, h1]⟩) h.1
    · rcases List.mem_cons.1 hy with h2 | h2
      · exact absurd (List.mem_map.2 ⟨x, h1, by rw [e, h2]⟩) h.1
      · exact nodup_inj f h.2 x h1 y h2 e
theorem seen_push (seen : Array Nat) (a b : Nat) : (seen.push a).contains b = (seen.contains b || b == a) := by
  rw [Bool.eq_iff_iff]
  simp [Array.contains_eq_mem, Array.mem_push]
def left {α : Type} (f : α → Nat) (l : List α) (seen : Array Nat) : Nat := l.countP (fun x => !(seen.contains (f x)))
theorem left_le {α : Type} (f : α → Nat) (seen : Array Nat) (a : Nat) (l : List α) : left f l (seen.push a) ≤ left f l seen := by
  refine List.countP_mono_left fun x _ h => ?_
  rw [seen_push] at h
  cases h1 : seen.contains (f x) <;> simp_all
theorem left_lt {α : Type} (f : α → Nat) (seen : Array Nat) : ∀ (l : List α) (e : α), e ∈ l → seen.contains (f e) = false → left f l (seen.push (f e)) < left f l seen
  | [], e, he, _ => by simp at he
  | x :: l, e, he, hs => by
    have hle := left_le f seen (f e) l
    unfold left at hle ⊢
    rw [List.countP_cons, List.countP_cons]
    rcases List.mem_cons.1 he with hx | he
    · have a1 : (!(seen.push (f e)).contains (f x)) = false := by rw [seen_push, hx]; simp
      have a2 : (!seen.contains (f x)) = true := by rw [← hx, hs]; rfl
      rw [a1, a2, if_neg (by simp), if_pos rfl]
      omega
    · have ih := left_lt f seen l e he hs
      unfold left at ih
      by_cases a2 : (!seen.contains (f x)) = true
      · rw [if_pos a2]; split <;> omega
      · have a1 : ¬ (!(seen.push (f e)).contains (f x)) = true := by
          rw [seen_push]; intro h; simp_all
        rw [if_neg a1, if_neg a2]; omega
theorem nodup_len {α : Type} : ∀ (xs l : List α), xs.Nodup → (∀ x ∈ xs, x ∈ l) → xs.length ≤ l.length
  | [], l, _, _ => Nat.zero_le _
  | x :: xs, l, hn, hs => by
    obtain ⟨a, b, rfl⟩ := List.append_of_mem (hs x (by simp))
    simp only [List.nodup_cons] at hn
    have := nodup_len xs (a ++ b) hn.2 fun y hy => by
      have h1 := hs y (by simp [hy])
      simp only [List.mem_append, List.mem_cons] at h1 ⊢
      rcases h1 with h1 | h1 | h1
      · exact .inl h1
      · exact absurd (h1 ▸ hy) hn.1
      · exact .inr h1
    simp only [List.length_append, List.length_cons] at this ⊢
    omega
theorem nodup_perm {α : Type} : ∀ (xs l : List α), xs.Nodup → l.Nodup → (∀ x ∈ xs, x ∈ l) → (∀ x ∈ l, x ∈ xs) → xs.Perm l
  | [], l, _, _, _, h => by
    cases l with
    | nil => exact List.Perm.refl _
    | cons a l => exact absurd (h a (by simp)) (by simp)
  | x :: xs, l, hn, hl, hs, hs' => by
    obtain ⟨a, b, rfl⟩ := List.append_of_mem (hs x (by simp))
    simp only [List.nodup_cons] at hn
    have hp : (a ++ x :: b).Perm (x :: (a ++ b)) := List.perm_middle
    have hl2 := (hp.nodup_iff).1 hl
    simp only [List.nodup_cons] at hl2
    refine (List.Perm.cons x (nodup_perm xs (a ++ b) hn.2 hl2.2 (fun y hy => ?_) fun y hy => ?_)).trans hp.symm
    · have h1 := (hp.mem_iff (a := y)).1 (hs y (by simp [hy]))
      rcases List.mem_cons.1 h1 with h1 | h1
      · exact absurd (h1 ▸ hy) hn.1
      · exact h1
    · have h1 := hs' y ((hp.mem_iff (a := y)).2 (by simp only [List.mem_cons]; exact .inr hy))
      rcases List.mem_cons.1 h1 with h1 | h1
      · exact absurd (h1 ▸ hy) hl2.1
      · exact h1
end Go.Proofs.Ytfkdfnookacgiaa
