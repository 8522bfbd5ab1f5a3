/- The engine, part 2: worlds with a colour for each block, and what is known of their memory. No statement of the seat is proved here. -/
import Derived.Test.YtnfokdhgajanpaaEng1
import Derived.Maps.AppendAt
import Derived.Deep.AppendLies
import Derived.Lib.AppendStr
import Derived.Lib.ConvBytes
import Derived.Laws.BytesArg
import Derived.Laws.CopyOwn
set_option linter.unusedVariables false
set_option linter.unusedSimpArgs false
namespace Go.Proofs.Ytnfokdhgajanpaa
open Go

/-! The number of draws never becomes less. -/
theorem viewStore_drawn {P : Program} {w : World} {at_ : Addr} {u : TypeId} {k : Addr} {v : Value} {b : Bool} {r : World × List Addr} (h : w.viewStore P at_ u k v b = .ok r) : r.1.drawn = w.drawn := by
  unfold World.viewStore at h
  simp only [bind, Except.bind, pure, Except.pure] at h
  repeat' split at h
  all_goals first | (injection h with h; subst h; rfl) | cases h
theorem farStore_drawn {P : Program} {w : World} {a : Addr} {v : Value} {b : Bool} {r : World × List Addr} (h : w.farStore P a v b = .ok r) : r.1.drawn = w.drawn := by
  unfold World.farStore at h
  split at h
  · split at h
    · rename_i h2; injection h with h; subst h; exact viewStore_drawn h2
    · cases h
  · cases h
theorem ask_drawn {α : Type} : ∀ (x : Ask α) (w : World), w.drawn ≤ (w.ask x).2.drawn := by
  intro x
  induction x with
  | done a => intro w; exact Nat.le_refl _
  | ask what range k ih =>
    intro w
    simp only [World.ask]
    split
    · exact ih _ _
    · exact Nat.le_trans (Nat.le_succ w.drawn) (ih _ { w with drawn := w.drawn + 1 })
theorem sys_drawn (w : World) (c : Sys) : w.drawn ≤ (w.sys c).2.drawn := by
  unfold World.sys
  have := ask_drawn (Kernel.perform c w.os) w
  split <;> simp_all
theorem run_drawn {P : Program} {α : Type} : ∀ (x : Sem α) (w : World) {v : α} {w' : World}, x.run P w = .ok v w' → w.drawn ≤ w'.drawn := by
  intro x
  induction x with
  | pure a => intro w v w' h; simp only [Sem.run] at h; injection h with _ h; subst h; exact Nat.le_refl _
  | load m a k ih =>
    intro w v w' h
    simp only [Sem.run] at h
    split at h
    · exact ih _ _ h
    · split at h
      · exact ih _ _ h
      · cases h
  | store m a u k ih =>
    intro w v w' h
    have key : (match w.cell? a with
        | some _ => if w.frozen? a then Result.halt (.unsupported (.unsafePointer "a write to bytes that a string shares")) w else k.run P (w.setCell a u)
        | none => match w.farStore P a u (m == .atomic) with
          | .ok (w, _) => k.run P w
          | .error h => .halt h w) = Result.ok v w' → w.drawn ≤ w'.drawn := by
      intro h
      split at h
      · split at h
        · cases h
        · exact ih (w.setCell a u) h
      · split at h
        · rename_i h2
          have h3 := farStore_drawn h2
          have h4 := ih _ h
          rw [← h3]; exact h4
        · cases h
    cases u <;> first | (simp only [Sem.run] at h; cases h; done) | (simp only [Sem.run] at h; exact key h)
  | new o k ih => intro w v w' h; exact ih _ { w with heap := w.heap.push o } h
  | shape r k ih => intro w v w' h; exact ih _ w h
  | freeze a n k ih =>
    intro w v w' h
    have := ih _ h
    unfold World.freeze at this
    split at this <;> exact this
  | frozen a k ih => intro w v w' h; exact ih _ _ h
  | getObj r k ih =>
    intro w v w' h
    simp only [Sem.run] at h
    split at h <;> first | cases h; done | exact ih _ _ h
  | setObj r o k ih =>
    intro w v w' h
    simp only [Sem.run] at h
    split at h <;> first | cases h; done | exact ih { w with heap := w.heap.setIfInBounds r o } h
  | choose q k ih =>
    intro w v w' h
    simp only [Sem.run] at h
    split at h
    · exact ih _ _ h
    · exact Nat.le_trans (Nat.le_succ w.drawn) (ih _ { w with drawn := w.drawn + 1 } h)
  | sys c k ih => intro w v w' h; exact Nat.le_trans (sys_drawn w c) (ih _ _ h)
  | program k ih => intro w v w' h; exact ih _ _ h
  | mark m k ih => intro w v w' h; exact ih _ h
  | halt x => intro w v w' h; cases h

/-- A world, and of each block whose it is: 0: nobody's (it stays as it is for ever), 1: another's, from 2 on: an object's. -/
structure G where
  w : World
  col : Nat → Nat

/-- Nothing but the blocks in B and those of the colours in M may have changed; blocks may have come. -/
structure Step (B M : List Nat) (g h : G) : Prop where
  os : h.w.os = g.w.os
  tape : h.w.tape = g.w.tape
  output : h.w.output = g.w.output
  drawn : g.w.drawn ≤ h.w.drawn
  size : g.w.heap.size ≤ h.w.heap.size
  keep : ∀ b, b < g.w.heap.size → b ∉ B → g.col b ∉ M → h.w.heap[b]? = g.w.heap[b]? ∧ h.col b = g.col b

theorem Step.refl (B M : List Nat) (g : G) : Step B M g g := ⟨rfl, rfl, rfl, Nat.le_refl _, Nat.le_refl _, fun _ _ _ _ => ⟨rfl, rfl⟩⟩
theorem Step.trans {B M : List Nat} {g h i : G} (a : Step B M g h) (b : Step B M h i) : Step B M g i :=
  ⟨b.os.trans a.os, b.tape.trans a.tape, b.output.trans a.output, Nat.le_trans a.drawn b.drawn, Nat.le_trans a.size b.size, fun x hx hB hM => by
    obtain ⟨h1, h2⟩ := a.keep x hx hB hM
    obtain ⟨h3, h4⟩ := b.keep x (Nat.lt_of_lt_of_le hx a.size) hB (by rw [h2]; exact hM)
    exact ⟨h3.trans h1, h4.trans h2⟩⟩
theorem Step.mono {B M B' M' : List Nat} {g h : G} (a : Step B M g h) (hB : ∀ x ∈ B, x ∈ B') (hM : ∀ x ∈ M, x ∈ M') : Step B' M' g h :=
  ⟨a.os, a.tape, a.output, a.drawn, a.size, fun x hx h1 h2 => a.keep x hx (fun e => h1 (hB _ e)) (fun e => h2 (hM _ e))⟩
/-- Blocks of the colours in M need not be named. -/
theorem Step.cols {B M M' : List Nat} {g h : G} (a : Step B M g h) (hB : ∀ x ∈ B, x < g.w.heap.size → g.col x ∈ M') (hM : ∀ x ∈ M, x ∈ M') : Step [] M' g h :=
  ⟨a.os, a.tape, a.output, a.drawn, a.size, fun x hx _ h2 => a.keep x hx (fun e => h2 (hB _ e hx)) (fun e => h2 (hM _ e))⟩
theorem Step.nil {M : List Nat} {g h : G} (a : Step [] [] g h) : Step [] M g h := a.mono (by simp) (by simp)
theorem Step.col {c : Nat} {M : List Nat} {g h : G} (a : Step [] [c] g h) (hc : c ∈ M) : Step [] M g h := a.mono (by simp) (by simpa using hc)

/-- The colours of g that are 0 or in M are those of h; the world is one. -/
def View (M : List Nat) (g h : G) : Prop := h.w = g.w ∧ ∀ b, b < g.w.heap.size → (g.col b = 0 ∨ g.col b ∈ M) → h.col b = g.col b

/-- What is another's has the colour 1. -/
def Out (M : List Nat) (g h : G) : Prop := ∀ b, b < g.w.heap.size → ¬ (g.col b = 0 ∨ g.col b ∈ M) → h.col b = 1

/-- The contract's form. -/
def Fn (P : Program) (f : FuncId) (args : List Value) (g : G) (M : List Nat) (R : Value → G → Prop) : Prop :=
  Calls P f args.toArray g.w (Ret fun v w' => ∃ col', Step [] M g ⟨w', col'⟩ ∧ R v ⟨w', col'⟩)

theorem Fn.mono {P : Program} {f : FuncId} {args : List Value} {g : G} {M M' : List Nat} {R R' : Value → G → Prop} (h : Fn P f args g M R) (hM : ∀ x ∈ M, x ∈ M') (hR : ∀ v h, Step [] M g h → R v h → R' v h) : Fn P f args g M' R' :=
  Calls.mono h fun e w' ⟨v, he, col', hs, hr⟩ => ⟨v, he, col', hs.mono (by simp) hM, hR v _ hs hr⟩

/-- What is to be shown at a function's end. -/
def End (g1 : G) (M L : List Nat) (R : Value → G → Prop) : Value → World → Prop := fun v w' => ∃ col', Step [] (M ++ L) g1 ⟨w', col'⟩ ∧ ∀ h', View M ⟨w', col'⟩ h' → R v h'

/-- A world as a function that may change the colours M sees it. -/
def G.inn (g : G) (M : List Nat) : G := ⟨g.w, fun b => if g.col b = 0 ∨ g.col b ∈ M then g.col b else 1⟩
theorem View.inn (g : G) (M : List Nat) : View M g (g.inn M) := ⟨rfl, fun b _ hb => if_pos hb⟩
theorem Out.inn (g : G) (M : List Nat) : Out M g (g.inn M) := fun b _ hb => if_neg hb
theorem Fn.of_end {P : Program} {f : FuncId} {args : List Value} {g : G} {R : Value → G → Prop} {M L : List Nat} (hML : ∀ x ∈ M ++ L, 2 ≤ x)
    (hc : Calls P f args.toArray g.w (Ret (End (g.inn M) M L R))) : Fn P f args g M R := by
  let g1 : G := g.inn M
  refine hc.mono fun e w' ⟨v, he, col', hs, hR⟩ => ⟨v, he, ?_⟩
  let cl : Nat → Nat := fun b => if b < g.w.heap.size then (if g.col b ∈ M then (if col' b ∈ M then col' b else 0) else g.col b) else (if col' b ∈ M then col' b else 0)
  have h0 : (0 : Nat) ∉ M ++ L := fun h => by have := hML 0 h; omega
  have h1 : (1 : Nat) ∉ M ++ L := fun h => by have := hML 1 h; omega
  have hkeep : ∀ b, b < g.w.heap.size → g.col b ∉ M → w'.heap[b]? = g.w.heap[b]? ∧ col' b = g1.col b := by
    intro b hb hM
    refine hs.keep b hb (by simp) ?_
    show (if g.col b = 0 ∨ g.col b ∈ M then g.col b else 1) ∉ M ++ L
    split
    · rename_i e; rcases e with e | e
      · rw [e]; exact h0
      · exact absurd e hM
    · exact h1
  refine ⟨cl, ⟨hs.os, hs.tape, hs.output, hs.drawn, hs.size, fun b hb _ hM => ⟨(hkeep b hb hM).1, ?_⟩⟩, hR _ ⟨rfl, fun b hb hc => ?_⟩⟩
  · show cl b = g.col b
    simp only [cl, if_pos hb, if_neg hM]
  · show cl b = col' b
    simp only at hc
    simp only [cl]
    by_cases hbs : b < g.w.heap.size
    · simp only [if_pos hbs]
      by_cases hM : g.col b ∈ M
      · simp only [if_pos hM]
        rcases hc with hc | hc
        · rw [hc]; rw [if_neg]; exact fun h => h0 (List.mem_append_left _ h)
        · rw [if_pos hc]
      · simp only [if_neg hM]
        have e := (hkeep b hbs hM).2
        have e2 : g1.col b = if g.col b = 0 ∨ g.col b ∈ M then g.col b else 1 := rfl
        rw [e, e2] at hc ⊢
        by_cases hz : g.col b = 0
        · rw [if_pos (.inl hz)]
        · rw [if_neg (by simp [hz, hM])] at hc
          rcases hc with hc | hc
          · omega
          · exact absurd (List.mem_append_left _ hc) h1
    · simp only [if_neg hbs]
      rcases hc with hc | hc
      · rw [hc, if_neg]; exact fun h => h0 (List.mem_append_left _ h)
      · rw [if_pos hc]

theorem enterG {P : Program} {f : FuncId} {fn : Func} {c : Code} {args : List Value} {g : G} {R : Value → G → Prop} {n : Nat} (M L : List Nat)
    (hf : P.funcs[f]? = some fn) (hb : fn.body = some c) (hn : fn.ntmps = n) (ha : Nat.ble args.length n = true) (hML : ∀ x ∈ M ++ L, 2 ≤ x)
    (h : ∀ g1, View M g g1 → Out M g g1 → Wp P (bodyPost P fn (Ret (End g1 M L R))) n [.code c] (envOf 0 args) g1.w) : Fn P f args g M R :=
  Fn.of_end hML (enter hf hb hn ha (h (g.inn M) (View.inn g M) (Out.inn g M)))

theorem w_call {P : Program} {Z : Exit → Act → World → Prop} {N : Nat} {k : List It} {s : Env} {all : Array Oper} {rest : List Oper} {op : Op} {ty : TypeId} {pos : String} {af : Array Edge} {d : Nat}
    {f : FuncId} {args : List Value} {g : G} {M : List Nat} {R : Value → G → Prop}
    (hc : Fn P f args g M R)
    (h : ∀ a, Fits N s a → (execOp a.eval ⟨some d, op, ty, pos, af, none⟩).run P g.w = .ok (.enter f args.toArray) g.w) (hdN : Nat.ble (d + 1) N = true)
    (hk : ∀ v h, Step [] M g h → R v h → Wp P Z N (.ops all rest :: k) ((d, v) :: s) h.w) : Wp P Z N (.ops all (⟨some d, op, ty, pos, af, none⟩ :: rest) :: k) s g.w :=
  w_enter h hdN hc fun v w'' ⟨col', hs, hr⟩ => hk v ⟨w'', col'⟩ hs hr
theorem w_call0 {P : Program} {Z : Exit → Act → World → Prop} {N : Nat} {k : List It} {s : Env} {all : Array Oper} {rest : List Oper} {op : Op} {ty : TypeId} {pos : String} {af : Array Edge}
    {f : FuncId} {args : List Value} {g : G} {M : List Nat} {R : Value → G → Prop}
    (hc : Fn P f args g M R)
    (h : ∀ a, Fits N s a → (execOp a.eval ⟨none, op, ty, pos, af, none⟩).run P g.w = .ok (.enter f args.toArray) g.w)
    (hk : ∀ v h, Step [] M g h → R v h → Wp P Z N (.ops all rest :: k) s h.w) : Wp P Z N (.ops all (⟨none, op, ty, pos, af, none⟩ :: rest) :: k) s g.w :=
  w_enter0 h hc fun v w'' ⟨col', hs, hr⟩ => hk v ⟨w'', col'⟩ hs hr

theorem w_retG {P : Program} {fn : Func} {M L : List Nat} {g1 h : G} {R : Value → G → Prop} {N : Nat} {k : List It} {s : Env} {v : Value}
    (hr : ∀ a, Fits N s a → (results fn a.tmps).run P h.w = .ok v h.w) (hs : Step [] (M ++ L) g1 h) (hR : ∀ h', View M h h' → R v h') :
    Wp P (bodyPost P fn (Ret (End g1 M L R))) N (.code .ret :: k) s h.w := w_ret hr ⟨h.col, hs, hR⟩
theorem w_endG {P : Program} {fn : Func} {M L : List Nat} {g1 h : G} {R : Value → G → Prop} {N : Nat} {s : Env} {v : Value}
    (hr : ∀ a, Fits N s a → (results fn a.tmps).run P h.w = .ok v h.w) (hs : Step [] (M ++ L) g1 h) (hR : ∀ h', View M h h' → R v h') :
    Wp P (bodyPost P fn (Ret (End g1 M L R))) N [] s h.w := w_end hr ⟨h.col, hs, hR⟩

/-- A change of colours alone. -/
def G.paint (g : G) (b c : Nat) : G := ⟨g.w, fun x => if x = b then c else g.col x⟩
theorem Step.paint (g : G) (b c : Nat) : Step [b] [] g (g.paint b c) := ⟨rfl, rfl, rfl, Nat.le_refl _, Nat.le_refl _, fun x _ hx _ => ⟨rfl, if_neg (by simpa using hx)⟩⟩

/-! ### kinds of elements -/
structure El (α : Type) where
  sz : Nat
  agg : Bool
  enc : α → List Value
  len : ∀ x, (enc x).length = sz
  one : agg = false → sz = 1
  pos : 0 < sz
  flat : ∀ x, ∀ u ∈ enc x, u.oneCell' = true

def El.val {α : Type} (E : El α) (x : α) : Value := if E.agg then .agg (E.enc x).toArray else (E.enc x).headD undef

theorem El.val_cells {α : Type} (E : El α) (x : α) : (E.val x).cells = (E.enc x).toArray := by
  unfold El.val
  split
  · rfl
  · rename_i h
    have h1 := E.one (by simpa using h)
    have h2 := E.len x
    rw [h1] at h2
    obtain ⟨u, hu⟩ := List.length_eq_one_iff.1 h2
    have hf := E.flat x u (by rw [hu]; simp)
    rw [hu]
    simp only [List.headD_cons]
    cases u <;> first | rfl | simp [Value.oneCell'] at hf

theorem enc_flat {α : Type} (E : El α) : ∀ (l : List α) (i : Nat) (hi : i < l.length) (j : Nat), j < E.sz → (l.flatMap E.enc)[i * E.sz + j]? = (E.enc l[i])[j]?
  | [], i, hi, _, _ => by simp at hi
  | x :: l, 0, hi, j, hj => by
    rw [List.flatMap_cons, Nat.zero_mul, Nat.zero_add, List.getElem?_append_left (by rw [E.len]; exact hj)]
    rfl
  | x :: l, i + 1, hi, j, hj => by
    rw [List.flatMap_cons, List.getElem?_append_right (by rw [E.len]; have := Nat.le_mul_of_pos_left E.sz (show 0 < i + 1 by omega); omega), E.len]
    rw [show (i + 1) * E.sz + j - E.sz = i * E.sz + j by rw [Nat.add_mul, Nat.one_mul]; omega]
    rw [enc_flat E l i (by simpa using hi) j hj]
    rfl
theorem flat_length {α : Type} (E : El α) : ∀ l : List α, (l.flatMap E.enc).length = l.length * E.sz
  | [] => by simp
  | x :: l => by rw [List.flatMap_cons, List.length_append, E.len, flat_length E l, List.length_cons, Nat.add_mul, Nat.one_mul, Nat.add_comm]

def str (l : List UInt8) : Value := .string ⟨l.toArray⟩
def bv (b : UInt8) : Value := .int .u8 (b.toNat : Int)
def El.str : El (List UInt8) := ⟨1, false, fun l => [Go.Proofs.Ytnfokdhgajanpaa.str l], fun _ => rfl, fun _ => rfl, by decide, by intro x u hu; simp at hu; subst hu; rfl⟩
def El.u8 : El UInt8 := ⟨1, false, fun b => [bv b], fun _ => rfl, fun _ => rfl, by decide, by intro x u hu; simp at hu; subst hu; rfl⟩
def El.int : El Int := ⟨1, false, fun n => [.int .i64 n], fun _ => rfl, fun _ => rfl, by decide, by intro x u hu; simp at hu; subst hu; rfl⟩

/-! ### what is known of memory -/
/-- A slice that reads as the list l; its array is of the colour c. -/
def Rd {α : Type} (g : G) (c : Nat) (E : El α) (v : Value) (l : List α) : Prop :=
  ∃ A cap, v = .slice A l.length cap ∧ l.length ≤ cap ∧ cap ≤ maxLen ∧
    (l = [] ∨ ∃ a, A = some a ∧ a.block < g.w.heap.size ∧ g.col a.block = c ∧ ∀ i (hi : i < l.length) j, j < E.sz → g.w.cell? (a.add (i * E.sz + j)) = (E.enc l[i])[j]?)
/-- A slice with an array of its own, that nobody else knows. -/
def Own {α : Type} (g : G) (c : Nat) (E : El α) (T : TypeId) (v : Value) (l : List α) : Prop :=
  g.w.ownsRow 0 T E.sz v l.length (l.flatMap E.enc) ∧ ∀ b, v.ownBlock = some b → g.col b = c
/-- A block of cells. -/
def Cell (g : G) (c b : Nat) (T : TypeId) (vs : List Value) : Prop := g.w.heap[b]? = some (.cells vs.toArray T (0, 0)) ∧ g.col b = c
/-- A block that is a map. -/
def MapAt (g : G) (c b : Nat) (es : Array MapEntry) (clock : Nat) : Prop := g.w.heap[b]? = some (.map es clock) ∧ g.col b = c

theorem cell_eq {w w' : World} {a : Addr} (h : w'.heap[a.block]? = w.heap[a.block]?) : w'.cell? a = w.cell? a := by simp [World.cell?, h]
theorem addr_add_block (a : Addr) (n : Nat) : (a.add n).block = a.block := by unfold Addr.add; split <;> rfl

section
variable {α : Type} {E : El α} {g h : G} {c b : Nat} {T : TypeId} {v : Value} {l : List α} {vs : List Value} {B M : List Nat}

theorem Rd.keep (hr : Rd g c E v l) (hb : ∀ a n cap, v = .slice (some a) n cap → a.block < g.w.heap.size → g.col a.block = c → h.w.heap[a.block]? = g.w.heap[a.block]? ∧ h.col a.block = c) (hsz : g.w.heap.size ≤ h.w.heap.size) : Rd h c E v l := by
  obtain ⟨A, cap, rfl, h1, h2, h3⟩ := hr
  refine ⟨A, cap, rfl, h1, h2, h3.imp id fun ⟨a, ha, hlt, hc, hcell⟩ => ?_⟩
  obtain ⟨e1, e2⟩ := hb a l.length cap (by rw [ha]) hlt hc
  refine ⟨a, ha, Nat.lt_of_lt_of_le hlt hsz, e2, fun i hi j hj => ?_⟩
  rw [← hcell i hi j hj]
  exact cell_eq (by rw [addr_add_block]; exact e1)
theorem Rd.step (hr : Rd g c E v l) (hs : Step [] M g h) (hc : c ∉ M) : Rd h c E v l :=
  hr.keep (fun a n cap _ hlt hcol => by have := hs.keep a.block hlt (by simp) (by rw [hcol]; exact hc); exact ⟨this.1, this.2.trans hcol⟩) hs.size
theorem Rd.view (hr : Rd g c E v l) (hv : View M g h) (hc : c = 0 ∨ c ∈ M) : Rd h c E v l :=
  hr.keep (fun a n cap _ hlt hcol => ⟨by rw [hv.1], (hv.2 _ hlt (by rw [hcol]; exact hc)).trans hcol⟩) (by rw [hv.1]; exact Nat.le_refl _)

theorem Own.lt (ho : Own g c E T v l) {b : Nat} (hb : v.ownBlock = some b) : b < g.w.heap.size := (ho.1.lt b hb).2
theorem Own.keep (ho : Own g c E T v l) (hb : ∀ b, v.ownBlock = some b → h.w.heap[b]? = g.w.heap[b]? ∧ h.col b = c) : Own h c E T v l := by
  refine ⟨⟨ho.1.1, ?_⟩, fun b e => (hb b e).2⟩
  rcases ho.1.2 with hn | ⟨q, cap, cur, rfl, h1, h2, h3⟩
  · exact .inl hn
  · exact .inr ⟨q, cap, cur, rfl, h1, (hb q rfl).1.trans h2, h3⟩
theorem Own.step (ho : Own g c E T v l) (hs : Step [] M g h) (hc : c ∉ M) : Own h c E T v l :=
  ho.keep fun b e => by have := hs.keep b (ho.lt e) (by simp) (by rw [ho.2 b e]; exact hc); exact ⟨this.1, this.2.trans (ho.2 b e)⟩
theorem Own.view (ho : Own g c E T v l) (hv : View M g h) (hc : c = 0 ∨ c ∈ M) : Own h c E T v l :=
  ho.keep fun b e => ⟨by rw [hv.1], (hv.2 b (ho.lt e) (by rw [ho.2 b e]; exact hc)).trans (ho.2 b e)⟩
theorem Own.nil (g : G) (c : Nat) (E : El α) (T : TypeId) : Own g c E T (.slice none 0 0) [] := ⟨World.ownsRow_nil _ _ _ _, by simp [Value.ownBlock]⟩
theorem Own.len (ho : Own g c E T v l) : ∃ A cap, v = .slice A l.length cap ∧ l.length ≤ cap ∧ cap ≤ maxLen := by
  rcases ho.1.2 with ⟨hn, h0⟩ | ⟨q, cap, cur, hn, h1, h2, h3, h4, _⟩
  · exact ⟨none, 0, by rw [hn, h0], by rw [h0]; exact Nat.le_refl _, by decide⟩
  · exact ⟨_, cap, hn, h3, h4⟩
theorem Rd.len (hr : Rd g c E v l) : ∃ A cap, v = .slice A l.length cap ∧ l.length ≤ cap ∧ cap ≤ maxLen := by
  obtain ⟨A, cap, h, h1, h2, _⟩ := hr; exact ⟨A, cap, h, h1, h2⟩
theorem Rd.nil (g : G) (c : Nat) (E : El α) (A : Option Addr) (cap : Nat) (h : cap ≤ maxLen) : Rd g c E (.slice A 0 cap) [] := ⟨A, cap, rfl, Nat.zero_le _, h, .inl rfl⟩

/-- An owned slice can be read. -/
theorem Own.rd (ho : Own g c E T v l) : Rd g c E v l := by
  obtain ⟨A, cap, rfl, h1, h2⟩ := ho.len
  refine ⟨A, cap, rfl, h1, h2, ?_⟩
  rcases Nat.eq_zero_or_pos l.length with h0 | h0
  · exact .inl (List.eq_nil_of_length_eq_zero h0)
  · obtain ⟨q, cap', he, _, hlt⟩ := ho.1.form h0
    injection he with he1 he2 he3
    subst he1
    refine .inr ⟨⟨q, 0, none⟩, rfl, hlt, ho.2 q rfl, fun i hi j hj => ?_⟩
    have hf := enc_flat E l i hi j hj
    rw [← hf]
    have hlt2 : i * E.sz + j < (l.flatMap E.enc).length := by
      rw [flat_length]
      calc i * E.sz + j < i * E.sz + E.sz := by omega
        _ = (i + 1) * E.sz := by rw [Nat.add_mul, Nat.one_mul]
        _ ≤ l.length * E.sz := Nat.mul_le_mul_right _ hi
    rw [List.getElem?_eq_getElem hlt2]
    exact ho.1.cells (g := q) rfl _ _ (List.getElem?_eq_getElem hlt2)

/-- An owned slice is given up: from now on it is only read. -/
theorem Own.freeze (ho : Own g c E T v l) (hc : c ≠ 0) : ∃ h : G, h.w = g.w ∧ Step [] [c] g h ∧ Rd h 0 E v l := by
  have hr := ho.rd
  cases hv : v.ownBlock with
  | none =>
    refine ⟨g, rfl, Step.refl _ _ _, ?_⟩
    obtain ⟨A, cap, rfl, h1, h2, h3⟩ := hr
    refine ⟨A, cap, rfl, h1, h2, h3.imp id fun ⟨a, ha, _⟩ => ?_⟩
    subst ha; simp [Value.ownBlock] at hv
  | some q =>
    refine ⟨g.paint q 0, rfl, (Step.paint g q 0).cols (by intro x hx _; simp at hx; subst hx; rw [ho.2 _ hv]; simp) (by simp), ?_⟩
    obtain ⟨A, cap, rfl, h1, h2, h3⟩ := hr
    refine ⟨A, cap, rfl, h1, h2, h3.imp id fun ⟨a, ha, hlt, hcol, hcell⟩ => ⟨a, ha, hlt, ?_, hcell⟩⟩
    subst ha
    simp [Value.ownBlock] at hv
    subst hv
    simp [G.paint]

theorem Cell.lt (hc : Cell g c b T vs) : b < g.w.heap.size := (Array.getElem?_eq_some_iff.1 hc.1).1
theorem Cell.step (hc : Cell g c b T vs) (hs : Step B M g h) (hM : c ∉ M) (hB : b ∉ B) : Cell h c b T vs := by
  have := hs.keep b hc.lt hB (by rw [hc.2]; exact hM)
  exact ⟨this.1.trans hc.1, this.2.trans hc.2⟩
theorem Cell.view (hc : Cell g c b T vs) (hv : View M g h) (h0 : c = 0 ∨ c ∈ M) : Cell h c b T vs :=
  ⟨by rw [hv.1]; exact hc.1, (hv.2 b hc.lt (by rw [hc.2]; exact h0)).trans hc.2⟩
theorem Cell.at_ (hc : Cell g c b T vs) (o : Nat) : g.w.cell? ⟨b, o, none⟩ = vs[o]? := by
  rw [cell_of_row _ _ _ _ _ _ hc.1]; simp
theorem Cell.frozen (hc : Cell g c b T vs) (o : Nat) : g.w.frozen? ⟨b, o, none⟩ = false := frozen_of_row _ _ _ _ _ hc.1

theorem View.seen (hv : View M g h) (ho : Out M g h) (b : Nat) (hb : b < g.w.heap.size) (hc : g.col b = c) : ∃ c', (c' < 2 ∨ (c' ∈ M ∧ c' = c)) ∧ h.col b = c' := by
  by_cases h0 : g.col b = 0 ∨ g.col b ∈ M
  · refine ⟨g.col b, ?_, hv.2 b hb h0⟩
    rcases h0 with h0 | h0
    · exact .inl (by omega)
    · exact .inr ⟨h0, hc⟩
  · exact ⟨1, .inl (by omega), ho b hb h0⟩
/-- What is read of whatever colour is read within, too. -/
theorem Rd.seen (hr : Rd g c E v l) (hv : View M g h) (ho : Out M g h) (hc : c ∉ M) : ∃ c', c' < 2 ∧ Rd h c' E v l := by
  obtain ⟨A, cap, rfl, h1, h2, h3⟩ := hr
  rcases h3 with h3 | ⟨a, ha, hlt, hcol, hcell⟩
  · exact ⟨0, by omega, A, cap, rfl, h1, h2, .inl h3⟩
  · obtain ⟨c', hc', e⟩ := hv.seen ho _ hlt hcol
    rcases hc' with hc' | ⟨hc', e'⟩
    · refine ⟨c', hc', A, cap, rfl, h1, h2, .inr ⟨a, ha, by rw [hv.1]; exact hlt, e, fun i hi j hj => ?_⟩⟩
      rw [hv.1]; exact hcell i hi j hj
    · exact absurd (e' ▸ hc') hc
theorem Cell.seen (hr : Cell g c b T vs) (hv : View M g h) (ho : Out M g h) (hc : c ∉ M) : ∃ c', c' < 2 ∧ Cell h c' b T vs := by
  obtain ⟨c', hc', e⟩ := hv.seen ho _ hr.lt hr.2
  rcases hc' with hc' | ⟨hc', e'⟩
  · exact ⟨c', hc', by rw [hv.1]; exact hr.1, e⟩
  · exact absurd (e' ▸ hc') hc

theorem MapAt.lt {es : Array MapEntry} {cl : Nat} (hc : MapAt g c b es cl) : b < g.w.heap.size := (Array.getElem?_eq_some_iff.1 hc.1).1
theorem MapAt.step {es : Array MapEntry} {cl : Nat} (hc : MapAt g c b es cl) (hs : Step B M g h) (hM : c ∉ M) (hB : b ∉ B) : MapAt h c b es cl := by
  have := hs.keep b hc.lt hB (by rw [hc.2]; exact hM)
  exact ⟨this.1.trans hc.1, this.2.trans hc.2⟩
theorem MapAt.view {es : Array MapEntry} {cl : Nat} (hc : MapAt g c b es cl) (hv : View M g h) (h0 : c = 0 ∨ c ∈ M) : MapAt h c b es cl :=
  ⟨by rw [hv.1]; exact hc.1, (hv.2 b hc.lt (by rw [hc.2]; exact h0)).trans hc.2⟩
end

end Go.Proofs.Ytnfokdhgajanpaa
