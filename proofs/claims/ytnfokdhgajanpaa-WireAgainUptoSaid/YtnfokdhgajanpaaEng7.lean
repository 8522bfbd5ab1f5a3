/- The engine, part 7: splitting on a symbolic bool, reading in drawn regions, stores into owned slices. No statement of the seat is proved here. -/
import Derived.Test.YtnfokdhgajanpaaEng6
set_option linter.unusedVariables false
set_option linter.unusedSimpArgs false
namespace Go.Proofs.Ytnfokdhgajanpaa
open Go

section
variable {P : Program} {Z : Exit → Act → World → Prop} {N : Nat} {k : List It} {s : Env} {w : World} {g : G}
variable {all : Array Oper} {rest : List Oper} {op : Op} {ty : TypeId} {pos : String} {af : Array Edge} {d : Nat} {v : Value}

theorem Fits.known {a : Act} (h : Fits N s a) {t : Nat} {v : Value} (hl : look s t = some v) : Fits N ((t, v) :: s) a :=
  ⟨h.size, h.def0, fun k u hk => by
    rw [look_cons] at hk
    split at hk
    · rename_i e; subst e; injection hk with hk; subst hk; exact h.get _ _ hl
    · exact h.get _ _ hk⟩
/-- Two ways on from here, by what a bool is. -/
theorem w_splitP (t : Nat) {p : Prop} [Decidable p] (hl : look s t = some (.bool (decide p))) (hy : p → Wp P Z N k ((t, .bool true) :: s) w) (hn : ¬ p → Wp P Z N k ((t, .bool false) :: s) w) : Wp P Z N k s w := fun a ha => by
  by_cases h : p
  · exact hy h a (ha.known (by rw [hl, decide_eq_true h]))
  · exact hn h a (ha.known (by rw [hl, decide_eq_false h]))
theorem w_splitB (t : Nat) {b : Bool} (hl : look s t = some (.bool b)) (hy : b = true → Wp P Z N k ((t, .bool true) :: s) w) (hn : b = false → Wp P Z N k ((t, .bool false) :: s) w) : Wp P Z N k s w := fun a ha => by
  cases b
  · exact hn rfl a (ha.known hl)
  · exact hy rfl a (ha.known hl)
theorem w_known (t : Nat) {v : Value} (u : Value) (hl : look s t = some v) (e : v = u) (h : Wp P Z N k ((t, u) :: s) w) : Wp P Z N k s w := fun a ha => h a (ha.known (by rw [hl, e]))

section
variable {ops : Array Oper} {st : Option Nat} {S : World → Prop} {fuel : Nat} {listed : Array Bool} {gd : Option (Nat × Bool)} {M : List Nat}
theorem d_splitP (t : Nat) {p : Prop} [Decidable p] (hl : look s t = some (.bool (decide p))) (hy : p → WpD P Z N k ops st S fuel listed ((t, .bool true) :: s) w) (hn : ¬ p → WpD P Z N k ops st S fuel listed ((t, .bool false) :: s) w) : WpD P Z N k ops st S fuel listed s w := fun hS a ha => by
  by_cases h : p
  · exact hy h hS a (ha.known (by rw [hl, decide_eq_true h]))
  · exact hn h hS a (ha.known (by rw [hl, decide_eq_false h]))
theorem d_splitB (t : Nat) {b : Bool} (hl : look s t = some (.bool b)) (hy : b = true → WpD P Z N k ops st S fuel listed ((t, .bool true) :: s) w) (hn : b = false → WpD P Z N k ops st S fuel listed ((t, .bool false) :: s) w) : WpD P Z N k ops st S fuel listed s w := fun hS a ha => by
  cases b
  · exact hn rfl hS a (ha.known hl)
  · exact hy rfl hS a (ha.known hl)
theorem d_known (t : Nat) {v : Value} (u : Value) (hl : look s t = some v) (e : v = u) (h : WpD P Z N k ops st S fuel listed ((t, u) :: s) w) : WpD P Z N k ops st S fuel listed s w := fun hS a ha => h hS a (ha.known (by rw [hl, e]))
theorem d_read (i : Nat) (hZ : Calm Z) (hi : ops[i]? = some ⟨some d, op, ty, pos, af, none⟩) (hc : dchk ops st listed i = true) (hdN : Nat.ble (d + 1) N = true)
    (h : ∀ h, Step [] M g h → ∀ ac, Fits N s ac → (execOp ac.eval ⟨some d, op, ty, pos, af, none⟩).run P h.w = .ok (.value v) h.w)
    (hk : WpD P Z N k ops st (SB M g) fuel (listed.setIfInBounds i true) ((d, v) :: s) w) : WpD P Z N k ops st (SB M g) (fuel + 1) listed s w :=
  d_val i hZ hi hc hdN (fun a w' ha ⟨h', e, hs⟩ => by subst e; exact h h' hs a ha) hk
theorem d_readG (i : Nat) {j t : Nat} {b : Bool} (hZ : Calm Z) (hi : ops[i]? = some ⟨some d, op, ty, pos, af, some (j, b)⟩) (hd : (ops[j]?).bind (·.dst) = some t) (hl : look s t = some (.bool b)) (hc : dchk ops st listed i = true) (hdN : Nat.ble (d + 1) N = true)
    (h : ∀ h, Step [] M g h → ∀ ac, Fits N s ac → (execOp ac.eval ⟨some d, op, ty, pos, af, none⟩).run P h.w = .ok (.value v) h.w)
    (hk : WpD P Z N k ops st (SB M g) fuel (listed.setIfInBounds i true) ((d, v) :: s) w) : WpD P Z N k ops st (SB M g) (fuel + 1) listed s w :=
  d_guard_yes i hZ hi hd hl hc hdN (fun a w' ha ⟨h', e, hs⟩ => by subst e; exact h h' hs a ha) hk
end

/-! ### stores into owned slices -/
section
variable {α : Type} {E : El α} {c : Nat} {T : TypeId} {l : List α}

theorem flat_set (E : El α) (y : α) : ∀ (l : List α) (i : Nat), i < l.length → (l.set i y).flatMap E.enc = (l.flatMap E.enc).take (i * E.sz) ++ E.enc y ++ (l.flatMap E.enc).drop (i * E.sz + E.sz)
  | [], i, h => by simp at h
  | x :: l, 0, _ => by simp [List.drop_append, E.len]
  | x :: l, i + 1, h => by
    have hs : (i + 1) * E.sz = E.sz + i * E.sz := by rw [Nat.add_mul, Nat.one_mul, Nat.add_comm]
    have e1 : ∀ (F : List Value) n, (E.enc x ++ F).take (E.sz + n) = E.enc x ++ F.take n := fun F n => by
      rw [List.take_append, E.len, List.take_of_length_le (by rw [E.len]; omega), show E.sz + n - E.sz = n by omega]
    have e2 : ∀ (F : List Value) n, (E.enc x ++ F).drop (E.sz + n) = F.drop n := fun F n => by
      rw [List.drop_append, E.len, List.drop_eq_nil_of_le (by rw [E.len]; omega), show E.sz + n - E.sz = n by omega]; rfl
    rw [List.set_cons_succ, List.flatMap_cons, List.flatMap_cons, flat_set E y l i (by simpa using h), hs, e1, Nat.add_assoc, e2]
    simp [List.append_assoc]

theorem run_storeE {T' : TypeId} {bts : Nat} {z : Value} [hi : Inf P T' E.sz bts z] {i : Nat} {y : α} (ho : Own g c E T v l) (hi' : i < l.length) :
    ∃ h : G, (Instr.storeAt T' (.pointer (elemA v (i * E.sz))) (E.val y)).run P g.w = .ok () h.w ∧ Step [] [c] g h ∧ Own h c E T v (l.set i y) := by
  obtain ⟨⟨hlen, ho2⟩, hcol⟩ := ho
  rcases ho2 with ⟨_, h0⟩ | ⟨b, cap, cur, rfl, hb0, hb, h1, h2, h3, h4⟩
  · omega
  have hfit : i * E.sz + E.sz ≤ l.length * E.sz := by
    calc i * E.sz + E.sz = (i + 1) * E.sz := by rw [Nat.add_mul, Nat.one_mul]
      _ ≤ l.length * E.sz := Nat.mul_le_mul_right _ hi'
  have hfit2 : l.length * E.sz ≤ cur.size := by rw [h3]; exact Nat.mul_le_mul_right _ h1
  have hc : Cell g c b T cur.toList := ⟨by simpa using hb, hcol b rfl⟩
  have hrun := run_storeVar (P := P) (g := g) (u := E.val y) hi hc (o := i * E.sz) (us := E.enc y) (E.val_cells y) (E.len y) (E.flat y) (by simp; omega) rfl
  have hA : elemA (.slice (some ⟨b, 0, none⟩) l.length cap) (i * E.sz) = some ⟨b, i * E.sz, none⟩ := by simp [elemA, addr_add]
  refine ⟨⟨g.w.setRow b (cur.toList.take (i * E.sz) ++ E.enc y ++ cur.toList.drop (i * E.sz + E.sz)).toArray, g.col⟩, by rw [hA]; exact hrun, (Step.setRow b _).cols (fun x hx _ => by simp at hx; subst hx; simp [hc.2]) (by simp), ?_⟩
  refine ⟨⟨by rw [flat_length], .inr ⟨b, cap, _, by simp, hb0, (hc.setRow (vs' := cur.toList.take (i * E.sz) ++ E.enc y ++ cur.toList.drop (i * E.sz + E.sz))).1, by simpa using h1, h2, ?_, ?_⟩⟩, hcol⟩
  · simp [E.len]; omega
  · rw [flat_set E y l i hi', ← h4, List.length_set, List.take_take, List.drop_take, Nat.min_eq_left (by omega)]
    show List.take (l.length * E.sz) (cur.toList.take (i * E.sz) ++ E.enc y ++ cur.toList.drop (i * E.sz + E.sz)) = _
    rw [List.take_append, List.take_of_length_le (by simp [E.len]; omega)]
    congr 1
    simp [E.len]
    congr 1
    omega
theorem w_storeE {p x : Operand} {T' : TypeId} {bts : Nat} {z : Value} [hi : Inf P T' E.sz bts z] {i : Nat} {y : α} (ho : Own g c E T v l) (hp : evalS s p = some (.pointer (elemA v (i * E.sz)))) (hx : evalS s x = some (E.val y)) (hi' : i < l.length)
    (hk : ∀ h, Step [] [c] g h → Own h c E T v (l.set i y) → Wp P Z N (.ops all rest :: k) s h.w) :
    Wp P Z N (.ops all (⟨none, .store T' p x, ty, pos, af, none⟩ :: rest) :: k) s g.w := by
  obtain ⟨h, hr, hs, ho'⟩ := run_storeE (P := P) (T' := T') (y := y) ho hi'
  exact w_drop (fun ac ha => by simp only [execOp, ha.eval hp, ha.eval hx]; rw [Sem.run_bind, hr]; rfl) (hk h hs ho')
end
end

section
variable {P : Program} {Z : Exit → Act → World → Prop} {N : Nat} {k : List It} {s : Env} {w : World} {g : G}
variable {all : Array Oper} {rest : List Oper} {op : Op} {ty : TypeId} {pos : String} {af : Array Edge} {d : Nat} {v : Value}
theorem wrap_u8 (a : Int) (h0 : 0 ≤ a) : IntKind.u8.wrap a = ((UInt8.ofNat a.toNat).toNat : Int) := by
  simp [IntKind.wrap, IntKind.signed, IntKind.bits]
  omega
theorem r_convB {x : Operand} {S T : TypeId} [hT : Und P T (.int .u8)] {k2 : IntKind} {dS : TypeDesc} [hS : Und P S dS] {a : Int} (hx : evalS s x = some (.int k2 a)) (h0 : 0 ≤ a) :
    ∀ ac, Fits N s ac → (execOp ac.eval ⟨some d, .convert S T x, ty, pos, af, none⟩).run P w = .ok (.value (bv (UInt8.ofNat a.toNat))) w := by
  have := r_conv (P := P) (N := N) (s := s) (w := w) (ty := ty) (pos := pos) (af := af) (d := d) (x := x) (S := S) (T := T) (kk := .u8) hx
  rw [wrap_u8 a h0] at this
  exact this
theorem w_convB {x : Operand} {S T : TypeId} [hT : Und P T (.int .u8)] {k2 : IntKind} {dS : TypeDesc} [hS : Und P S dS] {a : Int} (hx : evalS s x = some (.int k2 a)) (h0 : 0 ≤ a) (hdN : Nat.ble (d + 1) N = true)
    (hk : Wp P Z N (.ops all rest :: k) ((d, bv (UInt8.ofNat a.toNat)) :: s) w) : Wp P Z N (.ops all (⟨some d, .convert S T x, ty, pos, af, none⟩ :: rest) :: k) s w := w_val (r_convB hx h0) hdN hk
end

section
variable {P : Program} {N : Nat} {s : Env} {g : G}
/-- A result that lies in a cell. -/
theorem resCs {fn : Func} {t : Tmp} {T T' : TypeId} {dd : TypeDesc} {sz bts : Nat} {z : Value} [hd : Und P T dd] [hi : Inf P T sz bts z] {c b : Nat} {us : List Value} (hc : Cell g c b T' us)
    (h : fn.results = #[.cell t T]) (hl : look s t = some (.pointer (some ⟨b, 0, none⟩))) (hsz : us.length = sz) (h1 : dd.agg = true) : ∀ a, Fits N s a → (results fn a.tmps).run P g.w = .ok (.agg us.toArray) g.w :=
  resC h hl (by
    have := run_loadVar (w := g.w) hd.eq hi ⟨b, 0, none⟩ us hsz (fun e => by rw [h1] at e; cases e) (hc.cells 0 us.length us (by simp))
    rw [h1] at this; exact this)
theorem resCs1 {fn : Func} {t u : Tmp} {T T' : TypeId} {dd : TypeDesc} {sz bts : Nat} {z x : Value} [hd : Und P T dd] [hi : Inf P T sz bts z] {c b : Nat} {us : List Value} (hc : Cell g c b T' us)
    (h : fn.results = #[.cell t T, .tmp u]) (hl : look s t = some (.pointer (some ⟨b, 0, none⟩))) (hsz : us.length = sz) (h1 : dd.agg = true) (hx : look s u = some x) : ∀ a, Fits N s a → (results fn a.tmps).run P g.w = .ok (.tuple #[.agg us.toArray, x]) g.w :=
  resC1 h hl (by
    have := run_loadVar (w := g.w) hd.eq hi ⟨b, 0, none⟩ us hsz (fun e => by rw [h1] at e; cases e) (hc.cells 0 us.length us (by simp))
    rw [h1] at this; exact this) hx
end

/-! ### facts go along -/
section
variable {α : Type} {E : El α} {g h i : G} {c b : Nat} {T : TypeId} {v : Value} {l : List α} {vs : List Value} {B M B' M' : List Nat}
theorem Rd.go (hr : Rd g c E v l) (hs : Step [] M g h) (hc : c ∉ M := by first | (simp; done) | (simp; omega)) : Rd h c E v l := hr.step hs hc
theorem Own.go (ho : Own g c E T v l) (hs : Step [] M g h) (hc : c ∉ M := by first | (simp; done) | (simp; omega)) : Own h c E T v l := ho.step hs hc
theorem Cell.go (hc : Cell g c b T vs) (hs : Step B M g h) (hM : c ∉ M := by first | (simp; done) | (simp; omega)) (hB : b ∉ B := by simp) : Cell h c b T vs := hc.step hs hM hB
theorem MapIs.go {κ ν : Type} [DecidableEq κ] {K : El κ} {V : El ν} {m : List (κ × ν)} (hm : MapIs g c b K V m) (hs : Step B M g h) (hM : c ∉ M := by first | (simp; done) | (simp; omega)) (hB : b ∉ B := by simp) : MapIs h c b K V m := hm.step hs hM hB
theorem Step.go (a : Step B M g h) (s : Step B' M' h i) (hB : ∀ x ∈ B', x ∈ B := by simp) (hM : ∀ x ∈ M', x ∈ M := by simp) : Step B M g i := a.trans (s.mono hB hM)
end
end Go.Proofs.Ytnfokdhgajanpaa
