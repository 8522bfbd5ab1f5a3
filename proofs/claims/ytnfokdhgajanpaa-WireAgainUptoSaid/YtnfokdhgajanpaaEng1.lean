/- The engine, part 1: stepping through a function's code with a partial knowledge of its temporaries. No statement of the seat is proved here. -/
import Derived.WalkKit
import Derived.OrdersHeld
import Derived.Deep.LoopGhost
import Derived.KernelRfl
set_option linter.unusedVariables false
set_option linter.unusedSimpArgs false
namespace Go.Proofs.Ytnfokdhgajanpaa
open Go

abbrev Env := List (Nat × Value)

def look : Env → Nat → Option Value
  | [], _ => none
  | p :: r, n => bif Nat.beq p.1 n then some p.2 else look r n

theorem look_cons (k : Nat) (v : Value) (s : Env) (n : Nat) : look ((k, v) :: s) n = if k = n then some v else look s n := by
  simp only [look]
  by_cases h : k = n
  · subst h; simp
  · have : Nat.beq k n = false := by rw [← Bool.not_eq_true, Nat.beq_eq]; exact h
    simp [this, h]

/-- What is known of a frame. -/
structure Fits (N : Nat) (s : Env) (a : Act) : Prop where
  size : a.tmps.size = N
  def0 : a.defers = []
  get : ∀ k v, look s k = some v → a.tmps[k]? = some v

def evalS (s : Env) : Operand → Option Value
  | .tmp t => look s t
  | .const v => some v
  | .func f => some (.func (.func f) #[] #[])
  | .global g => some (.pointer (some ⟨g, 0, none⟩))

theorem Fits.eval {N : Nat} {s : Env} {a : Act} (h : Fits N s a) {x : Operand} {v : Value} (hx : evalS s x = some v) : a.eval x = v := by
  cases x <;> simp only [evalS, Option.some.injEq] at hx
  · have := h.get _ _ hx
    simp [Act.eval, Array.getD_eq_getD_getElem?, this]
  · exact hx
  · simpa [Act.eval] using hx
  · simpa [Act.eval] using hx

theorem Fits.put {N : Nat} {s : Env} {a : Act} (h : Fits N s a) {d : Nat} {v : Value} (hd : d < N) : Fits N ((d, v) :: s) (a.put (some d) v) := by
  refine ⟨by simp [Act.put, h.size], by simp [Act.put, h.def0], fun k u hk => ?_⟩
  rw [look_cons] at hk
  simp only [Act.put, Array.getElem?_setIfInBounds]
  split at hk
  · rename_i e
    subst e
    simp [h.size, hd] at hk ⊢
    exact hk
  · rename_i e
    simp [e]
    exact h.get _ _ hk

/-- s knows all that r says. -/
def Sub : Env → Env → Prop
  | [], _ => True
  | p :: r, s => look s p.1 = some p.2 ∧ Sub r s

theorem Sub.look {r s : Env} (h : Sub r s) : ∀ k v, Go.Proofs.Ytnfokdhgajanpaa.look r k = some v → Go.Proofs.Ytnfokdhgajanpaa.look s k = some v := by
  induction r with
  | nil => intro k v h; cases h
  | cons p r ih =>
    obtain ⟨k0, v0⟩ := p
    intro k v hk
    rw [look_cons] at hk
    split at hk
    · rename_i e; subst e; injection hk with hk; subst hk; exact h.1
    · exact ih h.2 _ _ hk

theorem Fits.sub {N : Nat} {r s : Env} {a : Act} (h : Fits N s a) (hs : Sub r s) : Fits N r a := ⟨h.size, h.def0, fun k v hk => h.get k v (hs.look k v hk)⟩

/-- What is still to be done. -/
inductive It
  | code (c : Code)
  | ops (all : Array Oper) (l : List Oper)
  | blk (id : Nat)
  | scp
  | goal (G : Act → World → Prop)

def sem (P : Program) (Z : Exit → Act → World → Prop) : List It → Exit → Act → World → Prop
  | [], e, a, w => Z e a w
  | it :: k, e, a, w =>
    match it, e with
    | .code c, .normal => c.wp P (sem P Z k) a w
    | .ops all l, .normal => wpList P all (sem P Z k) l a w
    | .blk id, .exit j => if j = id then sem P Z k .normal a w else sem P Z k (.exit j) a w
    | .scp, .goto _ => False
    | .goal G, .normal => G a w
    | _, e => sem P Z k e a w

def Wp (P : Program) (Z : Exit → Act → World → Prop) (N : Nat) (k : List It) (s : Env) (w : World) : Prop := ∀ a, Fits N s a → sem P Z k .normal a w

section
variable {P : Program} {Z : Exit → Act → World → Prop} {N : Nat} {k : List It} {s : Env} {w : World}

theorem sem_code_then (y : Code) : Exit.then (y.wp P (sem P Z k)) (sem P Z k) = sem P Z (.code y :: k) := by
  funext e a w; cases e <;> simp [Exit.then, sem]
theorem sem_blk_in (id : Nat) : Exit.inBlock id (sem P Z k) = sem P Z (.blk id :: k) := by
  funext e a w; cases e <;> simp [Exit.inBlock, sem]
theorem sem_goal_then (G : Act → World → Prop) : Exit.then G (sem P Z k) = sem P Z (.goal G :: k) := by
  funext e a w; cases e <;> simp [Exit.then, sem]
theorem sem_scp_in : Exit.noGoto (sem P Z k) = sem P Z (.scp :: k) := by
  funext e a w; cases e <;> simp [Exit.noGoto, sem]

theorem Wp.weaken {r : Env} (h : Wp P Z N k r w) (hs : Sub r s) : Wp P Z N k s w := fun a ha => h a (ha.sub hs)

theorem w_seq {x y : Code} (h : Wp P Z N (.code x :: .code y :: k) s w) : Wp P Z N (.code (.seq x y) :: k) s w := fun a ha => by
  have := h a ha
  simp only [sem] at this ⊢
  refine wp_seq ?_
  rw [sem_code_then]; exact this
theorem w_skip (h : Wp P Z N k s w) : Wp P Z N (.code .skip :: k) s w := fun a ha => by simp only [sem]; exact wp_skip (h a ha)
theorem w_label {l : Nat} (h : Wp P Z N k s w) : Wp P Z N (.code (.label l) :: k) s w := fun a ha => by simp only [sem]; exact wp_label (h a ha)
theorem w_block {id : Nat} {b : Code} (h : Wp P Z N (.code b :: .blk id :: k) s w) : Wp P Z N (.code (.block id b) :: k) s w := fun a ha => by
  have := h a ha
  simp only [sem] at this ⊢
  refine wp_block ?_
  rw [sem_blk_in]; exact this
theorem w_scope {b : Code} (h : Wp P Z N (.code b :: .scp :: k) s w) : Wp P Z N (.code (.scope b) :: k) s w := fun a ha => by
  have := h a ha
  simp only [sem] at this ⊢
  refine wp_scope_straight ?_
  rw [sem_scp_in]; exact this
theorem w_blk {id : Nat} (h : Wp P Z N k s w) : Wp P Z N (.blk id :: k) s w := fun a ha => by simp only [sem]; exact h a ha
theorem w_scp (h : Wp P Z N k s w) : Wp P Z N (.scp :: k) s w := fun a ha => by simp only [sem]; exact h a ha
theorem w_region {id : Nat} {l : List Oper} (h : Wp P Z N (.ops l.toArray l :: k) s w) : Wp P Z N (.code (.region id l.toArray false) :: k) s w := fun a ha => by
  have := h a ha
  simp only [sem] at this ⊢
  exact wp_region_lit this
theorem w_ops_nil {all : Array Oper} (h : Wp P Z N k s w) : Wp P Z N (.ops all [] :: k) s w := fun a ha => by simp only [sem]; exact h a ha
theorem w_goal {G : Act → World → Prop} (h : ∀ a, Fits N s a → G a w) : Wp P Z N (.goal G :: k) s w := fun a ha => by simp only [sem]; exact h a ha

/-- Where an exit leads to. -/
def popTo (id : Nat) : List It → Option (List It)
  | [] => none
  | .blk j :: k => bif Nat.beq id j then some k else popTo id k
  | _ :: k => popTo id k
theorem sem_popTo {id : Nat} {a : Act} {w : World} : ∀ {k k' : List It}, popTo id k = some k' → sem P Z k' .normal a w → sem P Z k (.exit id) a w
  | [], _, h, _ => by cases h
  | .blk j :: k, k', h, hs => by
    simp only [popTo] at h
    simp only [sem]
    by_cases e : id = j
    · subst e; simp at h; subst h; simpa using hs
    · have : Nat.beq id j = false := by rw [← Bool.not_eq_true, Nat.beq_eq]; exact e
      simp [this] at h
      rw [if_neg e]; exact sem_popTo h hs
  | .code c :: k, k', h, hs => by simp only [popTo] at h; simp only [sem]; exact sem_popTo h hs
  | .ops all l :: k, k', h, hs => by simp only [popTo] at h; simp only [sem]; exact sem_popTo h hs
  | .scp :: k, k', h, hs => by simp only [popTo] at h; simp only [sem]; exact sem_popTo h hs
  | .goal G :: k, k', h, hs => by simp only [popTo] at h; simp only [sem]; exact sem_popTo h hs
theorem gate_exit {id : Nat} (h : Wp P Z N (.code (.exit id) :: k) s w) : Wp P Z N (.code (.exit id) :: k) s w := h
theorem gate_cond {c : Operand} {x y : Code} (h : Wp P Z N (.code (.cond c x y) :: k) s w) : Wp P Z N (.code (.cond c x y) :: k) s w := h
theorem gate_op {all : Array Oper} {o : Oper} {rest : List Oper} (h : Wp P Z N (.ops all (o :: rest) :: k) s w) : Wp P Z N (.ops all (o :: rest) :: k) s w := h
theorem gate_guard {all : Array Oper} {d : Option Tmp} {op : Op} {ty : TypeId} {pos : String} {af : Array Edge} {j : Nat} {b : Bool} {rest : List Oper} (h : Wp P Z N (.ops all (⟨d, op, ty, pos, af, some (j, b)⟩ :: rest) :: k) s w) : Wp P Z N (.ops all (⟨d, op, ty, pos, af, some (j, b)⟩ :: rest) :: k) s w := h
theorem gate_bin {all : Array Oper} {d : Option Tmp} {bop : BinOp} {T yt : TypeId} {x y : Operand} {ty : TypeId} {pos : String} {af : Array Edge} {gd : Option (Nat × Bool)} {rest : List Oper} (h : Wp P Z N (.ops all (⟨d, .binOp bop T x y yt, ty, pos, af, gd⟩ :: rest) :: k) s w) : Wp P Z N (.ops all (⟨d, .binOp bop T x y yt, ty, pos, af, gd⟩ :: rest) :: k) s w := h
theorem gate_len {all : Array Oper} {d : Option Tmp} {x : Operand} {T : TypeId} {ty : TypeId} {pos : String} {af : Array Edge} {gd : Option (Nat × Bool)} {rest : List Oper} (h : Wp P Z N (.ops all (⟨d, .call { callee := .builtin .len, args := #[x], argTypes := #[T] }, ty, pos, af, gd⟩ :: rest) :: k) s w) : Wp P Z N (.ops all (⟨d, .call { callee := .builtin .len, args := #[x], argTypes := #[T] }, ty, pos, af, gd⟩ :: rest) :: k) s w := h
theorem w_exit {id : Nat} {k' : List It} (hk : popTo id k = some k') (h : Wp P Z N k' s w) : Wp P Z N (.code (.exit id) :: k) s w := fun a ha => by
  simp only [sem]
  exact wp_exit (sem_popTo hk (h a ha))

theorem sem_ret {a : Act} {w : World} (h : Z .ret a w) : ∀ k : List It, sem P Z k .ret a w
  | [] => h
  | .blk j :: k => by simp only [sem]; exact sem_ret h k
  | .code c :: k => by simp only [sem]; exact sem_ret h k
  | .ops all l :: k => by simp only [sem]; exact sem_ret h k
  | .scp :: k => by simp only [sem]; exact sem_ret h k
  | .goal G :: k => by simp only [sem]; exact sem_ret h k

theorem w_cond {c : Operand} {x y : Code} {b : Bool} (hc : evalS s c = some (.bool b)) (ht : b = true → Wp P Z N (.code x :: k) s w) (hf : b = false → Wp P Z N (.code y :: k) s w) :
    Wp P Z N (.code (.cond c x y) :: k) s w := fun a ha => by
  simp only [sem]
  refine wp_cond_split (ha.eval hc) (fun h => ?_) (fun h => ?_)
  · exact ht h a ha
  · exact hf h a ha
theorem w_condP {c : Operand} {x y : Code} {p : Prop} [Decidable p] (hc : evalS s c = some (.bool (decide p))) (ht : p → Wp P Z N (.code x :: k) s w) (hf : ¬ p → Wp P Z N (.code y :: k) s w) :
    Wp P Z N (.code (.cond c x y) :: k) s w := w_cond hc (fun h => ht (of_decide_eq_true h)) (fun h => hf (of_decide_eq_false h))
theorem w_condT {c : Operand} {x y : Code} (hc : evalS s c = some (.bool true)) (ht : Wp P Z N (.code x :: k) s w) : Wp P Z N (.code (.cond c x y) :: k) s w := w_cond hc (fun _ => ht) (fun h => by cases h)
theorem w_condF {c : Operand} {x y : Code} (hc : evalS s c = some (.bool false)) (hf : Wp P Z N (.code y :: k) s w) : Wp P Z N (.code (.cond c x y) :: k) s w := w_cond hc (fun h => by cases h) (fun _ => hf)

theorem w_condT' {c : Operand} {x y : Code} {v : Value} (hc : evalS s c = some v) (hv : v = .bool true) (ht : Wp P Z N (.code x :: k) s w) : Wp P Z N (.code (.cond c x y) :: k) s w := w_condT (by rw [hc, hv]) ht
theorem w_condF' {c : Operand} {x y : Code} {v : Value} (hc : evalS s c = some v) (hv : v = .bool false) (hf : Wp P Z N (.code y :: k) s w) : Wp P Z N (.code (.cond c x y) :: k) s w := w_condF (by rw [hc, hv]) hf

def Meet {ι : Type} (N : Nat) (E : ι → Env) (F : ι → World → Prop) (a : Act) (w : World) : Prop := ∃ i, Fits N (E i) a ∧ F i w
def Again {ι : Type} (N : Nat) (E : ι → Env) (F : ι → World → Prop) (μ : ι → Nat) (i : ι) (a : Act) (w : World) : Prop := ∃ j, μ j < μ i ∧ Fits N (E j) a ∧ F j w
/-- Ways meet again: behind the piece X only what E and F say is known. -/
theorem w_cut {ι : Type} {X : Code} (E : ι → Env) (F : ι → World → Prop)
    (h1 : Wp P Z N (.code X :: .goal (Meet N E F) :: k) s w)
    (h2 : ∀ i w, F i w → Wp P Z N k (E i) w) : Wp P Z N (.code X :: k) s w := fun a ha => by
  have := h1 a ha
  simp only [sem] at this ⊢
  refine wp_mono this fun e a' w' h => ?_
  cases e <;> simp only [sem] at h <;> first | exact h | skip
  obtain ⟨i, hf, hF⟩ := h
  exact h2 i w' hF a' hf
/-- The same where the piece is the rest of a block: behind the block only what E and F say is known. -/
theorem w_meet {ι : Type} (i : ι) {E : ι → Env} {F : ι → World → Prop} (hF : F i w) (hs : Sub (E i) s) : Wp P Z N (.goal (Meet N E F) :: k) s w :=
  w_goal fun a ha => ⟨i, ha.sub hs, hF⟩

/-- A loop: ι is what its rounds differ in, μ what becomes less. -/
theorem w_loop {ι : Type} {c : Code} (E : ι → Env) (F : ι → World → Prop) (μ : ι → Nat) (i0 : ι) (h0 : F i0 w) (hs : Sub (E i0) s)
    (h : ∀ i w, F i w → Wp P Z N (.code c :: .goal (Again N E F μ i) :: k) (E i) w) :
    Wp P Z N (.code (.loop c) :: k) s w := fun a ha => by
  simp only [sem]
  refine wp_loop_ghost (fun n a w => ∃ i, μ i = n ∧ Fits N (E i) a ∧ F i w) (μ i0) ⟨i0, rfl, ha.sub hs, h0⟩ fun n a w ⟨i, hn, hf, hF⟩ => ?_
  have := h i w hF a hf
  simp only [sem] at this
  refine wp_mono this fun e a' w' h => ?_
  cases e <;> simp only [sem, Exit.then] at h ⊢ <;> first | exact h | skip
  obtain ⟨j, hj, hf', hF'⟩ := h
  exact ⟨μ j, by omega, j, rfl, hf', hF'⟩
theorem w_again {ι : Type} {E : ι → Env} {F : ι → World → Prop} {μ : ι → Nat} {i : ι} (j : ι) (hm : μ j < μ i) (hF : F j w) (hs : Sub (E j) s) :
    Wp P Z N (.goal (Again N E F μ i) :: k) s w := w_goal fun a ha => ⟨j, hm, ha.sub hs, hF⟩

/-! ### operations -/
section
variable {all : Array Oper} {rest : List Oper} {op : Op} {ty : TypeId} {pos : String} {af : Array Edge} {d : Nat} {v : Value} {w' : World}

theorem w_guard_yes {o : Oper} {j t : Nat} {b : Bool} (hg : o.guard = some (j, b)) (hd : (all[j]?).bind (·.dst) = some t) (hl : look s t = some (.bool b))
    (h : Wp P Z N (.ops all ({ o with guard := none } :: rest) :: k) s w) : Wp P Z N (.ops all (o :: rest) :: k) s w := fun a ha => by
  have hh := h a ha
  simp only [sem] at hh ⊢
  unfold wpList at hh ⊢
  have hw : Region.wanted o (yielded all a.tmps) = true := by
    simp [Region.wanted, hg, yielded, hd, ha.get _ _ hl]
  rw [if_pos hw]
  rw [if_pos (by simp [Region.wanted])] at hh
  exact hh
theorem w_guard_no {o : Oper} {j t : Nat} {b : Bool} (hg : o.guard = some (j, b)) (hd : (all[j]?).bind (·.dst) = some t) (hl : look s t = some (.bool (!b))) (hdst : o.dst = some d) (hdN : Nat.ble (d + 1) N = true)
    (h : Wp P Z N (.ops all rest :: k) ((d, undef) :: s) w) : Wp P Z N (.ops all (o :: rest) :: k) s w := fun a ha => by
  have hh := h (a.put (some d) undef) (ha.put (Nat.le_of_ble_eq_true hdN))
  simp only [sem] at hh ⊢
  unfold wpList
  have hw : Region.wanted o (yielded all a.tmps) = false := by
    simp [Region.wanted, hg, yielded, hd, ha.get _ _ hl]
  rw [hw, if_neg (by simp), hdst]
  exact hh

theorem w_guard_yes' {o : Oper} {j t : Nat} {b : Bool} {v : Value} (hg : o.guard = some (j, b)) (hd : (all[j]?).bind (·.dst) = some t) (hl : look s t = some v) (hv : v = .bool b)
    (h : Wp P Z N (.ops all ({ o with guard := none } :: rest) :: k) s w) : Wp P Z N (.ops all (o :: rest) :: k) s w := w_guard_yes hg hd (by rw [hl, hv]) h
theorem w_guard_no' {o : Oper} {j t : Nat} {b : Bool} {v : Value} (hg : o.guard = some (j, b)) (hd : (all[j]?).bind (·.dst) = some t) (hl : look s t = some v) (hv : v = .bool (!b)) (hdst : o.dst = some d) (hdN : Nat.ble (d + 1) N = true)
    (h : Wp P Z N (.ops all rest :: k) ((d, undef) :: s) w) : Wp P Z N (.ops all (o :: rest) :: k) s w := w_guard_no hg hd (by rw [hl, hv]) hdst hdN h

/-- The general step: an operation that yields a value. -/
theorem w_val (h : ∀ a, Fits N s a → (execOp a.eval ⟨some d, op, ty, pos, af, none⟩).run P w = .ok (.value v) w') (hdN : Nat.ble (d + 1) N = true)
    (hk : Wp P Z N (.ops all rest :: k) ((d, v) :: s) w') : Wp P Z N (.ops all (⟨some d, op, ty, pos, af, none⟩ :: rest) :: k) s w := fun a ha => by
  have hh := hk (a.put (some d) v) (ha.put (Nat.le_of_ble_eq_true hdN))
  simp only [sem] at hh ⊢
  unfold wpList
  rw [if_pos (by simp [Region.wanted])]
  refine .inl ?_
  simp only [Oper.wp, h a ha, Oper.upon]
  exact hh
theorem w_drop (h : ∀ a, Fits N s a → (execOp a.eval ⟨none, op, ty, pos, af, none⟩).run P w = .ok .skip w') 
    (hk : Wp P Z N (.ops all rest :: k) s w') : Wp P Z N (.ops all (⟨none, op, ty, pos, af, none⟩ :: rest) :: k) s w := fun a ha => by
  have hh := hk a ha
  simp only [sem] at hh ⊢
  unfold wpList
  rw [if_pos (by simp [Region.wanted])]
  refine .inl ?_
  simp only [Oper.wp, h a ha, Oper.upon, Act.put]
  exact hh
/-- A call: by its contract. -/
theorem w_enter {f : FuncId} {args : Array Value} {R : Value → World → Prop} (h : ∀ a, Fits N s a → (execOp a.eval ⟨some d, op, ty, pos, af, none⟩).run P w = .ok (.enter f args) w') (hdN : Nat.ble (d + 1) N = true)
    (hc : Calls P f args w' fun e w'' => ∃ v, e = .returned v ∧ R v w'')
    (hk : ∀ v w'', R v w'' → Wp P Z N (.ops all rest :: k) ((d, v) :: s) w'') : Wp P Z N (.ops all (⟨some d, op, ty, pos, af, none⟩ :: rest) :: k) s w := fun a ha => by
  simp only [sem]
  unfold wpList
  rw [if_pos (by simp [Region.wanted])]
  refine .inl ?_
  simp only [Oper.wp, h a ha, Oper.upon]
  refine hc.mono fun e w'' ⟨v, he, hR⟩ => ?_
  subst he
  have hh := hk v w'' hR (a.put (some d) v) (ha.put (Nat.le_of_ble_eq_true hdN))
  simp only [sem] at hh
  exact hh
theorem w_enter0 {f : FuncId} {args : Array Value} {R : Value → World → Prop} (h : ∀ a, Fits N s a → (execOp a.eval ⟨none, op, ty, pos, af, none⟩).run P w = .ok (.enter f args) w')
    (hc : Calls P f args w' fun e w'' => ∃ v, e = .returned v ∧ R v w'')
    (hk : ∀ v w'', R v w'' → Wp P Z N (.ops all rest :: k) s w'') : Wp P Z N (.ops all (⟨none, op, ty, pos, af, none⟩ :: rest) :: k) s w := fun a ha => by
  simp only [sem]
  unfold wpList
  rw [if_pos (by simp [Region.wanted])]
  refine .inl ?_
  simp only [Oper.wp, h a ha, Oper.upon]
  refine hc.mono fun e w'' ⟨v, he, hR⟩ => ?_
  subst he
  have hh := hk v w'' hR a ha
  simp only [sem] at hh
  simpa [Act.put] using hh
end
end

/-! ### a function's end and beginning -/
/-- The contract's form: it returns, and of its value and the world R holds. -/
def Ret (R : Value → World → Prop) : Ending → World → Prop := fun e w => ∃ v, e = .returned v ∧ R v w

theorem w_ret {P : Program} {fn : Func} {R : Value → World → Prop} {N : Nat} {k : List It} {s : Env} {w : World} {v : Value}
    (hr : ∀ a, Fits N s a → (results fn a.tmps).run P w = .ok v w) (h : R v w) : Wp P (bodyPost P fn (Ret R)) N (.code .ret :: k) s w := fun a ha => by
  simp only [sem]
  exact wp_ret (sem_ret ⟨ha.def0, v, hr a ha, v, rfl, h⟩ k)
theorem w_end {P : Program} {fn : Func} {R : Value → World → Prop} {N : Nat} {s : Env} {w : World} {v : Value}
    (hr : ∀ a, Fits N s a → (results fn a.tmps).run P w = .ok v w) (h : R v w) : Wp P (bodyPost P fn (Ret R)) N [] s w := fun a ha =>
  ⟨ha.def0, v, hr a ha, v, rfl, h⟩

theorem res1 {P : Program} {fn : Func} {t : Tmp} {N : Nat} {s : Env} {w : World} {v : Value} (h : fn.results = #[.tmp t]) (hl : look s t = some v) : ∀ a, Fits N s a → (results fn a.tmps).run P w = .ok v w := fun a ha => by
  rw [results_tmp h, Array.getD_eq_getD_getElem?, ha.get _ _ hl]; rfl
theorem res0 {P : Program} {fn : Func} {N : Nat} {s : Env} {w : World} (h : fn.results = #[]) : ∀ a, Fits N s a → (results fn a.tmps).run P w = .ok (.tuple #[]) w := fun a ha => results_none h _ _ _
theorem res2 {P : Program} {fn : Func} {t u : Tmp} {N : Nat} {s : Env} {w : World} {v x : Value} (h : fn.results = #[.tmp t, .tmp u]) (hl : look s t = some v) (hx : look s u = some x) : ∀ a, Fits N s a → (results fn a.tmps).run P w = .ok (.tuple #[v, x]) w := fun a ha => by
  rw [results_tmp2 h, Array.getD_eq_getD_getElem?, ha.get _ _ hl, Array.getD_eq_getD_getElem?, ha.get _ _ hx]; rfl
theorem res3 {P : Program} {fn : Func} {t u q : Tmp} {N : Nat} {s : Env} {w : World} {v x y : Value} (h : fn.results = #[.tmp t, .tmp u, .tmp q]) (hl : look s t = some v) (hx : look s u = some x) (hy : look s q = some y) :
    ∀ a, Fits N s a → (results fn a.tmps).run P w = .ok (.tuple #[v, x, y]) w := fun a ha => by
  simp [results, h, Array.getD_eq_getD_getElem?, ha.get _ _ hl, ha.get _ _ hx, ha.get _ _ hy]
/-- Results that lie in cells. -/
theorem resC {P : Program} {fn : Func} {t : Tmp} {T : TypeId} {p : Addr} {N : Nat} {s : Env} {w : World} {v : Value} (h : fn.results = #[.cell t T]) (hl : look s t = some (.pointer (some p))) (hv : (loadVar T p).run P w = .ok v w) :
    ∀ a, Fits N s a → (results fn a.tmps).run P w = .ok v w := fun a ha => by
  simp [results, h, Array.getD_eq_getD_getElem?, ha.get _ _ hl, asAddr, hv]
theorem resC1 {P : Program} {fn : Func} {t u : Tmp} {T : TypeId} {p : Addr} {N : Nat} {s : Env} {w : World} {v x : Value} (h : fn.results = #[.cell t T, .tmp u]) (hl : look s t = some (.pointer (some p))) (hv : (loadVar T p).run P w = .ok v w) (hx : look s u = some x) :
    ∀ a, Fits N s a → (results fn a.tmps).run P w = .ok (.tuple #[v, x]) w := fun a ha => by
  simp [results, h, Array.getD_eq_getD_getElem?, ha.get _ _ hl, ha.get _ _ hx, asAddr, hv]

/-- The parameters lie in the first temporaries. -/
def envOf : Nat → List Value → Env
  | _, [] => []
  | i, v :: r => (i, v) :: envOf (i + 1) r
theorem look_envOf : ∀ (l : List Value) (i k : Nat) (v : Value), look (envOf i l) k = some v → i ≤ k ∧ l[k - i]? = some v
  | [], _, _, _, h => by cases h
  | u :: r, i, k, v, h => by
    simp only [envOf] at h
    rw [look_cons] at h
    split at h
    · rename_i e; subst e; injection h with h; subst h; simp
    · rename_i e
      obtain ⟨h1, h2⟩ := look_envOf r (i + 1) k v h
      refine ⟨by omega, ?_⟩
      rw [show k - i = (k - (i + 1)) + 1 from by omega]
      simpa using h2

theorem enter {P : Program} {f : FuncId} {fn : Func} {c : Code} {args : List Value} {w : World} {R : Value → World → Prop} {n : Nat}
    (hf : P.funcs[f]? = some fn) (hb : fn.body = some c) (hn : fn.ntmps = n) (ha : Nat.ble args.length n = true)
    (h : Wp P (bodyPost P fn (Ret R)) n [.code c] (envOf 0 args) w) : Calls P f args.toArray w (Ret R) := by
  refine calls_of_wp hf hb ?_
  have := h { tmps := args.toArray ++ Array.replicate (fn.ntmps - args.toArray.size) undef, defers := [] } ?_
  · simpa [sem] using this
  · have hle := Nat.le_of_ble_eq_true ha
    refine ⟨by simp [hn]; omega, rfl, fun k v hk => ?_⟩
    obtain ⟨_, h2⟩ := look_envOf _ _ _ _ hk
    simp only [Nat.sub_zero] at h2
    obtain ⟨hlt, _⟩ := List.getElem?_eq_some_iff.1 h2
    rw [Array.getElem?_append_left (by simpa using hlt)]
    simpa using h2

end Go.Proofs.Ytnfokdhgajanpaa
