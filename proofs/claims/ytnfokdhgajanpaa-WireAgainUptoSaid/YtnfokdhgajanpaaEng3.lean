/- The engine, part 3: one law for each kind of operation. No statement of the seat is proved here. -/
import Derived.Test.YtnfokdhgajanpaaEng2
set_option linter.unusedVariables false
set_option linter.unusedSimpArgs false
namespace Go.Proofs.Ytnfokdhgajanpaa
open Go

class Und (P : Program) (T : TypeId) (d : outParam TypeDesc) : Prop where eq : P.underlying T = some d
class Inf (P : Program) (T : TypeId) (sz bts : outParam Nat) (z : outParam Value) : Prop where eq : (P.info? T).map (fun i => (i.zero, i.size, i.bytes)) = some (some z, sz, bts)
class Enter (P : Program) (f : FuncId) : Prop where eq : ∀ (args : Array Value) (w : World), (callFunc f args).run P w = .ok (.enter f args) w
/-- Field f of the struct type T: where it is, how many cells, whether it is a struct or array. -/
def _root_.Go.TypeDesc.agg : TypeDesc → Bool
  | .struct _ | .array _ _ => true
  | _ => false

/-- Field f of the struct type T: where it is, how many cells, whether it is a struct or array. -/
class FldAt (P : Program) (T : TypeId) (f : Nat) (off sz : outParam Nat) (agg : outParam Bool) : Prop where
  eq : ∃ (fs : Array Field) (F : Field) (d : TypeDesc), P.underlying T = some (.struct fs) ∧ fs[f]? = some F ∧ F.offset = off ∧ (P.info? F.type).map (·.size) = some sz ∧ P.underlying F.type = some d ∧ d.agg = agg
/-- Where a struct's fields lie. -/
class Places (P : Program) (T : TypeId) (ps : outParam (List (Nat × Nat))) : Prop where
  eq : ∃ fs : Array Field, P.underlying T = some (.struct fs) ∧ fs.toList.map (fun f => (P.info? f.type).map fun i => (f.offset, i.size)) = ps.map some
/-- '==' of values of the type asks for no interface. -/
class NoGuard (P : Program) (T : TypeId) : Prop where eq : P.eqGuardType P.depth T = false
theorem enter_of {P : Program} {f : FuncId} {fn : Func} (hf : P.funcs[f]? = some fn) (hn : (fn.name == "runtime.NumGoroutine") = false) (hb : fn.body.isNone = false) (args : Array Value) (w : World) : (callFunc f args).run P w = .ok (.enter f args) w := by
  unfold callFunc
  rw [Sem.run_bind, run_program, Result.andThen_ok]
  simp only [hf, hn, hb]
  rfl
theorem Inf.get {P : Program} {T : TypeId} {sz bts : Nat} {z : Value} (h : Inf P T sz bts z) : ∃ i, P.info? T = some i ∧ i.zero = some z ∧ i.size = sz ∧ i.bytes = bts := by
  obtain ⟨i, hi, hz⟩ := Option.map_eq_some_iff.1 h.eq
  simp only [Prod.mk.injEq] at hz
  exact ⟨i, hi, hz.1, hz.2.1, hz.2.2⟩

def evalL (s : Env) : List Operand → Option (List Value)
  | [] => some []
  | x :: r => match evalS s x with
    | some v => match evalL s r with
      | some vs => some (v :: vs)
      | none => none
    | none => none
theorem Fits.evalL {N : Nat} {s : Env} {a : Act} (h : Fits N s a) : ∀ {xs : List Operand} {vs : List Value}, Go.Proofs.Ytnfokdhgajanpaa.evalL s xs = some vs → xs.map a.eval = vs
  | [], vs, hx => by simp only [Go.Proofs.Ytnfokdhgajanpaa.evalL, Option.some.injEq] at hx; subst hx; rfl
  | x :: r, vs, hx => by
    simp only [Go.Proofs.Ytnfokdhgajanpaa.evalL] at hx
    split at hx
    · rename_i v hv
      split at hx
      · rename_i us hu
        injection hx with hx
        subst hx
        rw [List.map_cons, h.eval hv, h.evalL hu]
      · cases hx
    · cases hx

def bl (s : ByteArray) : List UInt8 := s.data.toList

/-- Operations that look at their operands alone. -/
def cmpInt (op : BinOp) (a b : Int) : Option Value :=
  match op with
  | .lss => some (.bool (decide (a < b)))
  | .leq => some (.bool (decide (a ≤ b)))
  | .gtr => some (.bool (decide (b < a)))
  | .geq => some (.bool (decide (b ≤ a)))
  | .eql => some (.bool (decide (a = b)))
  | .neq => some (.bool (decide (¬ a = b)))
  | _ => none
def cmpStr (op : BinOp) (a b : List UInt8) : Option Value :=
  match op with
  | .eql => some (.bool (decide (a = b)))
  | .neq => some (.bool (decide (¬ a = b)))
  | .lss => some (.bool (Op.bytesLess a b))
  | .leq => some (.bool (Op.bytesLess a b || decide (a = b)))
  | .gtr => some (.bool (!(Op.bytesLess a b || decide (a = b))))
  | .geq => some (.bool (!(Op.bytesLess a b)))
  | _ => none
def pureOp (s : Env) : Op → Option Value
  | .move x => evalS s x
  | .assign x => evalS s x
  | .pick c x y => match evalS s c with
    | some (.bool true) => evalS s x
    | some (.bool false) => evalS s y
    | _ => none
  | .unOp .not _ x => match evalS s x with
    | some (.bool b) => some (.bool (!b))
    | _ => none
  | .extract x i => match evalS s x with
    | some (.tuple vs) => vs[i]?
    | _ => none
  | .nilCheck x => match evalS s x with
    | some (.pointer (some p)) => some (.pointer (some p))
    | _ => none
  | .makeFunc fn f c => match evalL s f.toList with
    | some vf => match evalL s c.toList with
      | some vc => some (.func fn vf.toArray vc.toArray)
      | none => none
    | none => none
  | .binOp op _ x y _ => match evalS s x with
    | some (.int k a) => match evalS s y with
      | some (.int k' b) => bif decide (k = k') then cmpInt op a b else none
      | _ => none
    | some (.string a) => match evalS s y with
      | some (.string b) => cmpStr op (bl a) (bl b)
      | _ => none
    | _ => none
  | _ => none

section
variable {P : Program} {Z : Exit → Act → World → Prop} {N : Nat} {k : List It} {s : Env} {w : World} {g : G}
variable {all : Array Oper} {rest : List Oper} {op : Op} {ty : TypeId} {pos : String} {af : Array Edge} {d : Nat} {v : Value}

theorem bytes_eq (a b : ByteArray) : (a.toList == b.toList) = decide (bl a = bl b) := by
  rw [ByteArray.toList_eq, ByteArray.toList_eq]
  unfold bl
  cases h : (a.data.toList == b.data.toList)
  · exact (decide_eq_false (by simpa using h)).symm
  · exact (decide_eq_true (by simpa using h)).symm

theorem beq_dec (a b : Int) : (a == b) = decide (a = b) := by
  by_cases h : a = b <;> simp [h]
theorem run_cmpInt {bop : BinOp} {k : IntKind} {a b : Int} {T : TypeId} {x y : Operand} (h : cmpInt bop a b = some v) :
    ((do eqGuard bop T x y (.int k a) (.int k b); binOp bop T (.int k a) (.int k b) : Sem Value)).run P w = .ok v w := by
  have he : (eqGuard bop T x y (.int k a) (.int k b)).run P w = .ok () w := by
    unfold eqGuard; cases bop <;> rfl
  rw [Sem.run_bind, he, Result.andThen_ok]
  cases bop <;> simp only [cmpInt, Option.some.injEq] at h <;> first | cases h; done | skip
  all_goals
    subst h
    simp [binOp, Op.intCmp, bne, beq_dec]
theorem run_cmpStr {bop : BinOp} {a b : ByteArray} {T : TypeId} {x y : Operand} (h : cmpStr bop (bl a) (bl b) = some v) :
    ((do eqGuard bop T x y (.string a) (.string b); binOp bop T (.string a) (.string b) : Sem Value)).run P w = .ok v w := by
  have he : (eqGuard bop T x y (.string a) (.string b)).run P w = .ok () w := by
    unfold eqGuard; cases bop <;> rfl
  rw [Sem.run_bind, he, Result.andThen_ok]
  have hb : binOp bop T (.string a) (.string b) = Op.stringOp bop a b := by cases bop <;> simp [binOp]
  have ha : Op.bytesLess a.toList b.toList = Op.bytesLess (bl a) (bl b) := by rw [ByteArray.toList_eq, ByteArray.toList_eq]; rfl
  rw [hb]
  cases bop <;> simp only [cmpStr, Option.some.injEq] at h <;> first | cases h; done | skip
  all_goals
    subst h
    simp only [Op.stringOp, bytes_eq, ha, Sem.run_pure]
    try rfl
  all_goals simp

theorem run_pureOp (h : pureOp s op = some v) {a : Act} (ha : Fits N s a) : (execOp a.eval ⟨some d, op, ty, pos, af, none⟩).run P w = .ok (.value v) w := by
  unfold pureOp at h
  split at h
  · simp [execOp, ha.eval h]
  · simp [execOp, ha.eval h]
  · split at h <;> first | cases h; done | skip
    · rename_i hc; simp [execOp, ha.eval hc, asBool, ha.eval h]
    · rename_i hc; simp [execOp, ha.eval hc, asBool, ha.eval h]
  · split at h <;> first | cases h; done | skip
    rename_i hc; injection h with h; subst h; simp [execOp, ha.eval hc, Op.unary]
  · split at h <;> first | cases h; done | skip
    rename_i hc; simp [execOp, ha.eval hc, Instr.extract, h]
  · split at h <;> first | cases h; done | skip
    rename_i hc; injection h with h; subst h; simp [execOp, ha.eval hc]
  · split at h <;> first | cases h; done | skip
    rename_i hf
    split at h <;> first | cases h; done | skip
    rename_i hc
    injection h with h; subst h
    have e1 := ha.evalL hf
    have e2 := ha.evalL hc
    simp only [execOp, Instr.makeFunc, Sem.run_bind, Sem.run_pure, Result.andThen_ok]
    rw [← e1, ← e2]
    simp [← Array.toList_map]
  · rename_i bop T x y yt
    split at h <;> first | cases h; done | skip
    · rename_i kk aa hx
      split at h <;> first | cases h; done | skip
      rename_i k2 bb hy
      by_cases hk : kk = k2
      · subst hk
        simp at h
        simp only [execOp, ha.eval hx, ha.eval hy]
        rw [Sem.run_bind, run_cmpInt h]
        rfl
      · simp [hk] at h
    · rename_i aa hx
      split at h <;> first | cases h; done | skip
      rename_i bb hy
      simp only [execOp, ha.eval hx, ha.eval hy]
      rw [Sem.run_bind, run_cmpStr h]
      rfl
  · cases h

theorem w_pure (h : pureOp s op = some v) (hdN : Nat.ble (d + 1) N = true) (hk : Wp P Z N (.ops all rest :: k) ((d, v) :: s) w) :
    Wp P Z N (.ops all (⟨some d, op, ty, pos, af, none⟩ :: rest) :: k) s w := w_val (fun a ha => run_pureOp h ha) hdN hk

/-! ### whole numbers -/
theorem run_arith {bop : BinOp} {kk : IntKind} {a b : Int} {T : TypeId} {x y : Operand} (hb : bop = .add ∨ bop = .sub ∨ bop = .mul) :
    ((do eqGuard bop T x y (.int kk a) (.int kk b); binOp bop T (.int kk a) (.int kk b) : Sem Value)).run P w =
      .ok (.int kk (kk.wrap (match bop with | .add => a + b | .sub => a - b | _ => a * b))) w := by
  rcases hb with rfl | rfl | rfl <;> simp [eqGuard, binOp, Op.intArith]
section
variable {x y : Operand} {a b : Int} {kk : IntKind} {T yt : TypeId}
theorem r_add (hx : evalS s x = some (.int .i64 a)) (hy : evalS s y = some (.int .i64 b)) (hr : -9223372036854775808 ≤ a + b ∧ a + b ≤ 9223372036854775807) :
    ∀ ac, Fits N s ac → (execOp ac.eval ⟨some d, .binOp .add T x y yt, ty, pos, af, none⟩).run P w = .ok (.value (.int .i64 (a + b))) w :=
  fun ac ha => by simp only [execOp, ha.eval hx, ha.eval hy]; rw [Sem.run_bind, run_arith (.inl rfl)]; simp only [IntWalk.i64_in _ hr]; rfl
theorem w_add (hx : evalS s x = some (.int .i64 a)) (hy : evalS s y = some (.int .i64 b)) (hr : -9223372036854775808 ≤ a + b ∧ a + b ≤ 9223372036854775807) (hdN : Nat.ble (d + 1) N = true)
    (hk : Wp P Z N (.ops all rest :: k) ((d, .int .i64 (a + b)) :: s) w) : Wp P Z N (.ops all (⟨some d, .binOp .add T x y yt, ty, pos, af, none⟩ :: rest) :: k) s w :=
  w_val (r_add hx hy hr) hdN hk
theorem r_sub (hx : evalS s x = some (.int .i64 a)) (hy : evalS s y = some (.int .i64 b)) (hr : -9223372036854775808 ≤ a - b ∧ a - b ≤ 9223372036854775807) :
    ∀ ac, Fits N s ac → (execOp ac.eval ⟨some d, .binOp .sub T x y yt, ty, pos, af, none⟩).run P w = .ok (.value (.int .i64 (a - b))) w :=
  fun ac ha => by simp only [execOp, ha.eval hx, ha.eval hy]; rw [Sem.run_bind, run_arith (.inr (.inl rfl))]; simp only [IntWalk.i64_in _ hr]; rfl
theorem w_sub (hx : evalS s x = some (.int .i64 a)) (hy : evalS s y = some (.int .i64 b)) (hr : -9223372036854775808 ≤ a - b ∧ a - b ≤ 9223372036854775807) (hdN : Nat.ble (d + 1) N = true)
    (hk : Wp P Z N (.ops all rest :: k) ((d, .int .i64 (a - b)) :: s) w) : Wp P Z N (.ops all (⟨some d, .binOp .sub T x y yt, ty, pos, af, none⟩ :: rest) :: k) s w :=
  w_val (r_sub hx hy hr) hdN hk
theorem r_mul (hx : evalS s x = some (.int .i64 a)) (hy : evalS s y = some (.int .i64 b)) (hr : -9223372036854775808 ≤ a * b ∧ a * b ≤ 9223372036854775807) :
    ∀ ac, Fits N s ac → (execOp ac.eval ⟨some d, .binOp .mul T x y yt, ty, pos, af, none⟩).run P w = .ok (.value (.int .i64 (a * b))) w :=
  fun ac ha => by simp only [execOp, ha.eval hx, ha.eval hy]; rw [Sem.run_bind, run_arith (.inr (.inr rfl))]; simp only [IntWalk.i64_in _ hr]; rfl
theorem w_mul (hx : evalS s x = some (.int .i64 a)) (hy : evalS s y = some (.int .i64 b)) (hr : -9223372036854775808 ≤ a * b ∧ a * b ≤ 9223372036854775807) (hdN : Nat.ble (d + 1) N = true)
    (hk : Wp P Z N (.ops all rest :: k) ((d, .int .i64 (a * b)) :: s) w) : Wp P Z N (.ops all (⟨some d, .binOp .mul T x y yt, ty, pos, af, none⟩ :: rest) :: k) s w :=
  w_val (r_mul hx hy hr) hdN hk
/-- Of any kind, wrapped. -/
theorem r_addW (hx : evalS s x = some (.int kk a)) (hy : evalS s y = some (.int kk b)) :
    ∀ ac, Fits N s ac → (execOp ac.eval ⟨some d, .binOp .add T x y yt, ty, pos, af, none⟩).run P w = .ok (.value (.int kk (kk.wrap (a + b)))) w :=
  fun ac ha => by simp only [execOp, ha.eval hx, ha.eval hy]; rw [Sem.run_bind, run_arith (.inl rfl)]; rfl
theorem w_addW (hx : evalS s x = some (.int kk a)) (hy : evalS s y = some (.int kk b)) (hdN : Nat.ble (d + 1) N = true)
    (hk : Wp P Z N (.ops all rest :: k) ((d, .int kk (kk.wrap (a + b))) :: s) w) : Wp P Z N (.ops all (⟨some d, .binOp .add T x y yt, ty, pos, af, none⟩ :: rest) :: k) s w :=
  w_val (r_addW hx hy) hdN hk
theorem r_subW (hx : evalS s x = some (.int kk a)) (hy : evalS s y = some (.int kk b)) :
    ∀ ac, Fits N s ac → (execOp ac.eval ⟨some d, .binOp .sub T x y yt, ty, pos, af, none⟩).run P w = .ok (.value (.int kk (kk.wrap (a - b)))) w :=
  fun ac ha => by simp only [execOp, ha.eval hx, ha.eval hy]; rw [Sem.run_bind, run_arith (.inr (.inl rfl))]; rfl
theorem w_subW (hx : evalS s x = some (.int kk a)) (hy : evalS s y = some (.int kk b)) (hdN : Nat.ble (d + 1) N = true)
    (hk : Wp P Z N (.ops all rest :: k) ((d, .int kk (kk.wrap (a - b))) :: s) w) : Wp P Z N (.ops all (⟨some d, .binOp .sub T x y yt, ty, pos, af, none⟩ :: rest) :: k) s w :=
  w_val (r_subW hx hy) hdN hk
theorem r_mulW (hx : evalS s x = some (.int kk a)) (hy : evalS s y = some (.int kk b)) :
    ∀ ac, Fits N s ac → (execOp ac.eval ⟨some d, .binOp .mul T x y yt, ty, pos, af, none⟩).run P w = .ok (.value (.int kk (kk.wrap (a * b)))) w :=
  fun ac ha => by simp only [execOp, ha.eval hx, ha.eval hy]; rw [Sem.run_bind, run_arith (.inr (.inr rfl))]; rfl
theorem w_mulW (hx : evalS s x = some (.int kk a)) (hy : evalS s y = some (.int kk b)) (hdN : Nat.ble (d + 1) N = true)
    (hk : Wp P Z N (.ops all rest :: k) ((d, .int kk (kk.wrap (a * b))) :: s) w) : Wp P Z N (.ops all (⟨some d, .binOp .mul T x y yt, ty, pos, af, none⟩ :: rest) :: k) s w :=
  w_val (r_mulW hx hy) hdN hk
theorem eqGuard_int {bop : BinOp} {k1 k2 : IntKind} : (eqGuard bop T x y (.int k1 a) (.int k2 b)).run P w = .ok () w := by unfold eqGuard; cases bop <;> rfl
/-- '/' and '%' of what is not below 0 by what is above 0. -/
theorem r_quo (hx : evalS s x = some (.int .i64 a)) (hy : evalS s y = some (.int .i64 b)) (hr : 0 ≤ a ∧ a ≤ 9223372036854775807 ∧ 1 ≤ b) :
    ∀ ac, Fits N s ac → (execOp ac.eval ⟨some d, .binOp .quo T x y yt, ty, pos, af, none⟩).run P w = .ok (.value (.int .i64 (a / b))) w :=
  fun ac ha => by
    have h0 : b ≠ 0 := by omega
    simp only [execOp, ha.eval hx, ha.eval hy]
    rw [Sem.run_bind, Sem.run_bind, eqGuard_int]
    simp [binOp, Op.intDiv, h0, IntWalk.i64_quo a b hr]
theorem w_quo (hx : evalS s x = some (.int .i64 a)) (hy : evalS s y = some (.int .i64 b)) (hr : 0 ≤ a ∧ a ≤ 9223372036854775807 ∧ 1 ≤ b) (hdN : Nat.ble (d + 1) N = true)
    (hk : Wp P Z N (.ops all rest :: k) ((d, .int .i64 (a / b)) :: s) w) : Wp P Z N (.ops all (⟨some d, .binOp .quo T x y yt, ty, pos, af, none⟩ :: rest) :: k) s w :=
  w_val (r_quo hx hy hr) hdN hk
theorem r_rem (hx : evalS s x = some (.int kk a)) (hy : evalS s y = some (.int kk b)) (hr : 0 ≤ a ∧ 1 ≤ b) :
    ∀ ac, Fits N s ac → (execOp ac.eval ⟨some d, .binOp .rem T x y yt, ty, pos, af, none⟩).run P w = .ok (.value (.int kk (a % b))) w :=
  fun ac ha => by
    have h0 : b ≠ 0 := by omega
    simp only [execOp, ha.eval hx, ha.eval hy]
    rw [Sem.run_bind, Sem.run_bind, eqGuard_int]
    simp [binOp, Op.intDiv, h0, Int.tmod_eq_emod_of_nonneg hr.1]
theorem w_rem (hx : evalS s x = some (.int kk a)) (hy : evalS s y = some (.int kk b)) (hr : 0 ≤ a ∧ 1 ≤ b) (hdN : Nat.ble (d + 1) N = true)
    (hk : Wp P Z N (.ops all rest :: k) ((d, .int kk (a % b)) :: s) w) : Wp P Z N (.ops all (⟨some d, .binOp .rem T x y yt, ty, pos, af, none⟩ :: rest) :: k) s w :=
  w_val (r_rem hx hy hr) hdN hk
theorem r_remT (hx : evalS s x = some (.int kk a)) (hy : evalS s y = some (.int kk b)) (h0 : b ≠ 0) :
    ∀ ac, Fits N s ac → (execOp ac.eval ⟨some d, .binOp .rem T x y yt, ty, pos, af, none⟩).run P w = .ok (.value (.int kk (a.tmod b))) w :=
  fun ac ha => by
    simp only [execOp, ha.eval hx, ha.eval hy]
    rw [Sem.run_bind, Sem.run_bind, eqGuard_int]
    simp [binOp, Op.intDiv, h0]
theorem w_remT (hx : evalS s x = some (.int kk a)) (hy : evalS s y = some (.int kk b)) (h0 : b ≠ 0) (hdN : Nat.ble (d + 1) N = true)
    (hk : Wp P Z N (.ops all rest :: k) ((d, .int kk (a.tmod b)) :: s) w) : Wp P Z N (.ops all (⟨some d, .binOp .rem T x y yt, ty, pos, af, none⟩ :: rest) :: k) s w :=
  w_val (r_remT hx hy h0) hdN hk
theorem r_quoW (hx : evalS s x = some (.int kk a)) (hy : evalS s y = some (.int kk b)) (h0 : b ≠ 0) :
    ∀ ac, Fits N s ac → (execOp ac.eval ⟨some d, .binOp .quo T x y yt, ty, pos, af, none⟩).run P w = .ok (.value (.int kk (kk.wrap (a.tdiv b)))) w :=
  fun ac ha => by
    simp only [execOp, ha.eval hx, ha.eval hy]
    rw [Sem.run_bind, Sem.run_bind, eqGuard_int]
    simp [binOp, Op.intDiv, h0]
theorem w_quoW (hx : evalS s x = some (.int kk a)) (hy : evalS s y = some (.int kk b)) (h0 : b ≠ 0) (hdN : Nat.ble (d + 1) N = true)
    (hk : Wp P Z N (.ops all rest :: k) ((d, .int kk (kk.wrap (a.tdiv b))) :: s) w) : Wp P Z N (.ops all (⟨some d, .binOp .quo T x y yt, ty, pos, af, none⟩ :: rest) :: k) s w :=
  w_val (r_quoW hx hy h0) hdN hk
/-- '<<', '>>' by a constant or a number. -/
theorem r_shl {k2 : IntKind} (hx : evalS s x = some (.int kk a)) (hy : evalS s y = some (.int k2 b)) (h0 : 0 ≤ b) :
    ∀ ac, Fits N s ac → (execOp ac.eval ⟨some d, .binOp .shl T x y yt, ty, pos, af, none⟩).run P w = .ok (.value (.int kk (kk.wrap (a * 2 ^ min b.toNat kk.bits)))) w :=
  fun ac ha => by
    simp only [execOp, ha.eval hx, ha.eval hy]
    rw [Sem.run_bind, Sem.run_bind, eqGuard_int]
    simp [binOp, shift_shl_any _ _ _ _ h0]
theorem w_shl {k2 : IntKind} (hx : evalS s x = some (.int kk a)) (hy : evalS s y = some (.int k2 b)) (h0 : 0 ≤ b) (hdN : Nat.ble (d + 1) N = true)
    (hk : Wp P Z N (.ops all rest :: k) ((d, .int kk (kk.wrap (a * 2 ^ min b.toNat kk.bits))) :: s) w) : Wp P Z N (.ops all (⟨some d, .binOp .shl T x y yt, ty, pos, af, none⟩ :: rest) :: k) s w :=
  w_val (r_shl hx hy h0) hdN hk
theorem r_shr {k2 : IntKind} (hx : evalS s x = some (.int kk a)) (hy : evalS s y = some (.int k2 b)) (h0 : 0 ≤ b) :
    ∀ ac, Fits N s ac → (execOp ac.eval ⟨some d, .binOp .shr T x y yt, ty, pos, af, none⟩).run P w = .ok (.value (.int kk (a / 2 ^ min b.toNat kk.bits))) w :=
  fun ac ha => by
    simp only [execOp, ha.eval hx, ha.eval hy]
    rw [Sem.run_bind, Sem.run_bind, eqGuard_int]
    simp [binOp, shift_shr_any _ _ _ _ h0]
theorem w_shr {k2 : IntKind} (hx : evalS s x = some (.int kk a)) (hy : evalS s y = some (.int k2 b)) (h0 : 0 ≤ b) (hdN : Nat.ble (d + 1) N = true)
    (hk : Wp P Z N (.ops all rest :: k) ((d, .int kk (a / 2 ^ min b.toNat kk.bits)) :: s) w) : Wp P Z N (.ops all (⟨some d, .binOp .shr T x y yt, ty, pos, af, none⟩ :: rest) :: k) s w :=
  w_val (r_shr hx hy h0) hdN hk
/-- '&', '|', '^', '&^'. -/
def bitsOf (op : BinOp) (k : IntKind) (x y : Int) : Int :=
  let a := BitVec.ofInt k.bits x
  let b := BitVec.ofInt k.bits y
  k.wrap (match op with | .and => a &&& b | .or => a ||| b | .xor => a ^^^ b | _ => a &&& ~~~b).toNat
theorem r_bits {bop : BinOp} (hb : bop = .and ∨ bop = .or ∨ bop = .xor ∨ bop = .andNot) (hx : evalS s x = some (.int kk a)) (hy : evalS s y = some (.int kk b)) :
    ∀ ac, Fits N s ac → (execOp ac.eval ⟨some d, .binOp bop T x y yt, ty, pos, af, none⟩).run P w = .ok (.value (.int kk (bitsOf bop kk a b))) w :=
  fun ac ha => by
    simp only [execOp, ha.eval hx, ha.eval hy]
    rw [Sem.run_bind, Sem.run_bind, eqGuard_int]
    rcases hb with rfl | rfl | rfl | rfl <;> simp [binOp, Op.intBits, bitsOf]
theorem w_bits {bop : BinOp} (hb : bop = .and ∨ bop = .or ∨ bop = .xor ∨ bop = .andNot) (hx : evalS s x = some (.int kk a)) (hy : evalS s y = some (.int kk b)) (hdN : Nat.ble (d + 1) N = true)
    (hk : Wp P Z N (.ops all rest :: k) ((d, .int kk (bitsOf bop kk a b)) :: s) w) : Wp P Z N (.ops all (⟨some d, .binOp bop T x y yt, ty, pos, af, none⟩ :: rest) :: k) s w :=
  w_val (r_bits hb hx hy) hdN hk
theorem r_neg (hx : evalS s x = some (.int .i64 a)) (hr : -9223372036854775807 ≤ a ∧ a ≤ 9223372036854775807) :
    ∀ ac, Fits N s ac → (execOp ac.eval ⟨some d, .unOp .neg T x, ty, pos, af, none⟩).run P w = .ok (.value (.int .i64 (-a))) w :=
  fun ac ha => by
    simp only [execOp, ha.eval hx]
    have e : IntKind.i64.wrap (-a) = -a := IntWalk.i64_in _ (by omega)
    simp [Op.unary, Op.intArith, e]
theorem w_neg (hx : evalS s x = some (.int .i64 a)) (hr : -9223372036854775807 ≤ a ∧ a ≤ 9223372036854775807) (hdN : Nat.ble (d + 1) N = true)
    (hk : Wp P Z N (.ops all rest :: k) ((d, .int .i64 (-a)) :: s) w) : Wp P Z N (.ops all (⟨some d, .unOp .neg T x, ty, pos, af, none⟩ :: rest) :: k) s w :=
  w_val (r_neg hx hr) hdN hk
/-- int to int. -/
theorem r_conv {S T : TypeId} [hT : Und P T (.int kk)] {k2 : IntKind} {dS : TypeDesc} [hS : Und P S dS] (hx : evalS s x = some (.int k2 a)) :
    ∀ ac, Fits N s ac → (execOp ac.eval ⟨some d, .convert S T x, ty, pos, af, none⟩).run P w = .ok (.value (.int kk (kk.wrap a))) w :=
  fun ac ha => by
    simp only [execOp, ha.eval hx]
    simp [convert, run_underlying hS.eq, run_underlying hT.eq, Conv.intToInt]
theorem w_conv {S T : TypeId} [hT : Und P T (.int kk)] {k2 : IntKind} {dS : TypeDesc} [hS : Und P S dS] (hx : evalS s x = some (.int k2 a)) (hdN : Nat.ble (d + 1) N = true)
    (hk : Wp P Z N (.ops all rest :: k) ((d, .int kk (kk.wrap a)) :: s) w) : Wp P Z N (.ops all (⟨some d, .convert S T x, ty, pos, af, none⟩ :: rest) :: k) s w :=
  w_val (r_conv hx) hdN hk
theorem r_conv64 {S T : TypeId} [hT : Und P T (.int .i64)] {k2 : IntKind} {dS : TypeDesc} [hS : Und P S dS] (hx : evalS s x = some (.int k2 a)) (hr : -9223372036854775808 ≤ a ∧ a ≤ 9223372036854775807) :
    ∀ ac, Fits N s ac → (execOp ac.eval ⟨some d, .convert S T x, ty, pos, af, none⟩).run P w = .ok (.value (.int .i64 a)) w := fun ac ha => by
  have := r_conv (P := P) (w := w) (ty := ty) (pos := pos) (af := af) (d := d) (S := S) (T := T) hx ac ha
  rwa [IntWalk.i64_in _ hr] at this
theorem w_conv64 {S T : TypeId} [hT : Und P T (.int .i64)] {k2 : IntKind} {dS : TypeDesc} [hS : Und P S dS] (hx : evalS s x = some (.int k2 a)) (hr : -9223372036854775808 ≤ a ∧ a ≤ 9223372036854775807) (hdN : Nat.ble (d + 1) N = true)
    (hk : Wp P Z N (.ops all rest :: k) ((d, .int .i64 a) :: s) w) : Wp P Z N (.ops all (⟨some d, .convert S T x, ty, pos, af, none⟩ :: rest) :: k) s w :=
  w_val (r_conv64 hx hr) hdN hk
theorem r_max {ts : Array TypeId} (hx : evalS s x = some (.int kk a)) (hy : evalS s y = some (.int kk b)) :
    ∀ ac, Fits N s ac → (execOp ac.eval ⟨some d, .call { callee := .builtin .max, args := #[x, y], argTypes := ts }, ty, pos, af, none⟩).run P w = .ok (.value (.int kk (max a b))) w :=
  fun ac ha => by
    have e : (if b > a then b else a) = max a b := by split <;> omega
    simp only [execOp, resolve, invoke, builtin, List.map_toArray, List.map_cons, List.map_nil, ha.eval hx, ha.eval hy]
    simp [run_max_int2, e]
theorem w_max {ts : Array TypeId} (hx : evalS s x = some (.int kk a)) (hy : evalS s y = some (.int kk b)) (hdN : Nat.ble (d + 1) N = true)
    (hk : Wp P Z N (.ops all rest :: k) ((d, .int kk (max a b)) :: s) w) : Wp P Z N (.ops all (⟨some d, .call { callee := .builtin .max, args := #[x, y], argTypes := ts }, ty, pos, af, none⟩ :: rest) :: k) s w :=
  w_val (r_max hx hy) hdN hk
theorem r_min {ts : Array TypeId} (hx : evalS s x = some (.int kk a)) (hy : evalS s y = some (.int kk b)) :
    ∀ ac, Fits N s ac → (execOp ac.eval ⟨some d, .call { callee := .builtin .min, args := #[x, y], argTypes := ts }, ty, pos, af, none⟩).run P w = .ok (.value (.int kk (min a b))) w :=
  fun ac ha => by
    have e : (if b < a then b else a) = min a b := by split <;> omega
    simp only [execOp, resolve, invoke, builtin, List.map_toArray, List.map_cons, List.map_nil, ha.eval hx, ha.eval hy]
    simp [run_min_int2, e]
theorem w_min {ts : Array TypeId} (hx : evalS s x = some (.int kk a)) (hy : evalS s y = some (.int kk b)) (hdN : Nat.ble (d + 1) N = true)
    (hk : Wp P Z N (.ops all rest :: k) ((d, .int kk (min a b)) :: s) w) : Wp P Z N (.ops all (⟨some d, .call { callee := .builtin .min, args := #[x, y], argTypes := ts }, ty, pos, af, none⟩ :: rest) :: k) s w :=
  w_val (r_min hx hy) hdN hk
end

/-! ### bool == bool -/
theorem r_eqBool {T yt : TypeId} [hT : Und P T .bool] {x y : Operand} {a b : Bool} (hx : evalS s x = some (.bool a)) (hy : evalS s y = some (.bool b)) :
    ∀ ac, Fits N s ac → (execOp ac.eval ⟨some d, .binOp .eql T x y yt, ty, pos, af, none⟩).run P w = .ok (.value (.bool (decide (a = b)))) w :=
  fun ac ha => by
    simp only [execOp, ha.eval hx, ha.eval hy]
    have he : (eqGuard .eql T x y (.bool a) (.bool b)).run P w = .ok () w := rfl
    rw [Sem.run_bind, Sem.run_bind, he, Result.andThen_ok, run_eql_bool w T a b hT.eq]
    cases a <;> cases b <;> rfl
theorem w_eqBool {T yt : TypeId} [hT : Und P T .bool] {x y : Operand} {a b : Bool} (hx : evalS s x = some (.bool a)) (hy : evalS s y = some (.bool b)) (hdN : Nat.ble (d + 1) N = true)
    (hk : Wp P Z N (.ops all rest :: k) ((d, .bool (decide (a = b))) :: s) w) : Wp P Z N (.ops all (⟨some d, .binOp .eql T x y yt, ty, pos, af, none⟩ :: rest) :: k) s w :=
  w_val (r_eqBool hx hy) hdN hk
theorem r_neBool {T yt : TypeId} [hT : Und P T .bool] {x y : Operand} {a b : Bool} (hx : evalS s x = some (.bool a)) (hy : evalS s y = some (.bool b)) :
    ∀ ac, Fits N s ac → (execOp ac.eval ⟨some d, .binOp .neq T x y yt, ty, pos, af, none⟩).run P w = .ok (.value (.bool (decide (¬ a = b)))) w :=
  fun ac ha => by
    simp only [execOp, ha.eval hx, ha.eval hy]
    have he : (eqGuard .neq T x y (.bool a) (.bool b)).run P w = .ok () w := rfl
    rw [Sem.run_bind, Sem.run_bind, he, Result.andThen_ok, run_neq_bool w T a b hT.eq]
    cases a <;> cases b <;> rfl
theorem w_neBool {T yt : TypeId} [hT : Und P T .bool] {x y : Operand} {a b : Bool} (hx : evalS s x = some (.bool a)) (hy : evalS s y = some (.bool b)) (hdN : Nat.ble (d + 1) N = true)
    (hk : Wp P Z N (.ops all rest :: k) ((d, .bool (decide (¬ a = b))) :: s) w) : Wp P Z N (.ops all (⟨some d, .binOp .neq T x y yt, ty, pos, af, none⟩ :: rest) :: k) s w :=
  w_val (r_neBool hx hy) hdN hk

/-! ### strings -/
theorem r_lenStr {x : Operand} {T : TypeId} [hT : Und P T .string] {l : List UInt8} (hx : evalS s x = some (.string ⟨l.toArray⟩)) :
    ∀ ac, Fits N s ac → (execOp ac.eval ⟨some d, .call { callee := .builtin .len, args := #[x], argTypes := #[T] }, ty, pos, af, none⟩).run P w = .ok (.value (.int .i64 (l.length : Int))) w :=
  fun ac ha => by
    have e := run_len_string (P := P) w T ty ⟨l.toArray⟩ hT.eq
    have e2 : ((ByteArray.mk l.toArray).size : Int) = (l.length : Int) := by simp [ByteArray.size]
    rw [e2] at e
    simp only [execOp, resolve, invoke, builtin, List.map_toArray, List.map_cons, List.map_nil, ha.eval hx]
    simp [e, goInt]
theorem w_lenStr {x : Operand} {T : TypeId} [hT : Und P T .string] {l : List UInt8} (hx : evalS s x = some (.string ⟨l.toArray⟩)) (hdN : Nat.ble (d + 1) N = true)
    (hk : Wp P Z N (.ops all rest :: k) ((d, .int .i64 (l.length : Int)) :: s) w) : Wp P Z N (.ops all (⟨some d, .call { callee := .builtin .len, args := #[x], argTypes := #[T] }, ty, pos, af, none⟩ :: rest) :: k) s w :=
  w_val (r_lenStr hx) hdN hk
theorem r_indexStr {x i : Operand} {T : TypeId} [hT : Und P T .string] {l : List UInt8} {kk : IntKind} {n : Int} {b : UInt8} (hx : evalS s x = some (.string ⟨l.toArray⟩)) (hi : evalS s i = some (.int kk n)) (h0 : 0 ≤ n) (hb : l[n.toNat]? = some b) :
    ∀ ac, Fits N s ac → (execOp ac.eval ⟨some d, .index T x i, ty, pos, af, none⟩).run P w = .ok (.value (bv b)) w :=
  fun ac ha => by
    have hs : (ByteArray.mk l.toArray)[n.toNat]? = some b := by
      obtain ⟨hlt, he⟩ := List.getElem?_eq_some_iff.1 hb
      rw [ByteArray.getElem?_lt' _ _ (by simpa [ByteArray.size] using hlt)]
      exact congrArg some he
    simp [execOp, ha.eval hx, ha.eval hi, Instr.index, asIntOf, run_underlying hT.eq, h0, hs, bv]
theorem w_indexStr {x i : Operand} {T : TypeId} [hT : Und P T .string] {l : List UInt8} {kk : IntKind} {n : Int} {b : UInt8} (hx : evalS s x = some (.string ⟨l.toArray⟩)) (hi : evalS s i = some (.int kk n)) (h0 : 0 ≤ n) (hb : l[n.toNat]? = some b) (hdN : Nat.ble (d + 1) N = true)
    (hk : Wp P Z N (.ops all rest :: k) ((d, bv b) :: s) w) : Wp P Z N (.ops all (⟨some d, .index T x i, ty, pos, af, none⟩ :: rest) :: k) s w :=
  w_val (r_indexStr hx hi h0 hb) hdN hk
theorem sliceBound_nat (kk : IntKind) (a y : Nat) (code : BoundsCode) (h : a ≤ y) : (Instr.sliceBound (.int kk (a : Int)) y code).run P w = .ok a w := by simp [Instr.sliceBound, asIntOf, h]
theorem r_sliceStr {x : Operand} {T : TypeId} [hT : Und P T .string] {l : List UInt8} {lo hi : Option Operand} {a b : Nat} (hx : evalS s x = some (.string ⟨l.toArray⟩))
    (hlo : match lo with | some o => ∃ kk n, evalS s o = some (.int kk n) ∧ n = (a : Int) | none => a = 0)
    (hhi : match hi with | some o => ∃ kk n, evalS s o = some (.int kk n) ∧ n = (b : Int) | none => b = l.length)
    (hab : a ≤ b) (hb : b ≤ l.length) :
    ∀ ac, Fits N s ac → (execOp ac.eval ⟨some d, .slice T x lo hi none, ty, pos, af, none⟩).run P w = .ok (.value (.string ⟨((l.take b).drop a).toArray⟩)) w :=
  fun ac ha => by
    have hsz : (ByteArray.mk l.toArray).size = l.length := by simp [ByteArray.size]
    have hex : (ByteArray.mk l.toArray).extract a b = ⟨((l.take b).drop a).toArray⟩ := by rw [ByteArray.extract_mk, List.drop_take]
    have h1 : (Instr.sliceBounds false l.length l.length (lo.map ac.eval) (hi.map ac.eval) none).run P w = .ok (a, b, l.length) w := by
      cases lo <;> cases hi <;> simp only [Option.map] at *
      · subst hlo; subst hhi; simp [Instr.sliceBounds]
      · obtain ⟨kk, n, hn, rfl⟩ := hhi; subst hlo
        simp [Instr.sliceBounds, ha.eval hn, sliceBound_nat _ _ _ _ hb]
      · obtain ⟨kk, n, hn, rfl⟩ := hlo; subst hhi
        simp [Instr.sliceBounds, ha.eval hn, sliceBound_nat _ _ _ _ hab]
      · obtain ⟨kk, n, hn, rfl⟩ := hlo; obtain ⟨kk2, n2, hn2, rfl⟩ := hhi
        simp [Instr.sliceBounds, ha.eval hn, ha.eval hn2, sliceBound_nat _ _ _ _ hb, sliceBound_nat _ _ _ _ hab]
    simp only [execOp, ha.eval hx, Instr.sliceAt]
    simp [run_underlying hT.eq, Instr.slice, hsz, h1, hex]
theorem w_sliceStr {x : Operand} {T : TypeId} [hT : Und P T .string] {l : List UInt8} {lo hi : Option Operand} {a b : Nat} (hx : evalS s x = some (.string ⟨l.toArray⟩))
    (hlo : match lo with | some o => ∃ kk n, evalS s o = some (.int kk n) ∧ n = (a : Int) | none => a = 0)
    (hhi : match hi with | some o => ∃ kk n, evalS s o = some (.int kk n) ∧ n = (b : Int) | none => b = l.length)
    (hab : a ≤ b) (hb : b ≤ l.length) (hdN : Nat.ble (d + 1) N = true)
    (hk : Wp P Z N (.ops all rest :: k) ((d, .string ⟨((l.take b).drop a).toArray⟩) :: s) w) : Wp P Z N (.ops all (⟨some d, .slice T x lo hi none, ty, pos, af, none⟩ :: rest) :: k) s w :=
  w_val (r_sliceStr hx hlo hhi hab hb) hdN hk
theorem r_concat {x y : Operand} {T yt : TypeId} {l m : List UInt8} (hx : evalS s x = some (.string ⟨l.toArray⟩)) (hy : evalS s y = some (.string ⟨m.toArray⟩)) (hr : l.length + m.length ≤ 9223372036854775807) :
    ∀ ac, Fits N s ac → (execOp ac.eval ⟨some d, .binOp .add T x y yt, ty, pos, af, none⟩).run P w = .ok (.value (.string ⟨(l ++ m).toArray⟩)) w :=
  fun ac ha => by
    simp only [execOp, ha.eval hx, ha.eval hy]
    have he : (eqGuard .add T x y (.string ⟨l.toArray⟩) (.string ⟨m.toArray⟩)).run P w = .ok () w := rfl
    rw [Sem.run_bind, Sem.run_bind, he, Result.andThen_ok, binOp_string_add, run_string_add_sum _ _ _ (by simpa [ByteArray.size] using hr), ByteArray.mk_append_mk]
    rfl
theorem w_concat {x y : Operand} {T yt : TypeId} {l m : List UInt8} (hx : evalS s x = some (.string ⟨l.toArray⟩)) (hy : evalS s y = some (.string ⟨m.toArray⟩)) (hr : l.length + m.length ≤ 9223372036854775807) (hdN : Nat.ble (d + 1) N = true)
    (hk : Wp P Z N (.ops all rest :: k) ((d, .string ⟨(l ++ m).toArray⟩) :: s) w) : Wp P Z N (.ops all (⟨some d, .binOp .add T x y yt, ty, pos, af, none⟩ :: rest) :: k) s w :=
  w_val (r_concat hx hy hr) hdN hk

/-! ### calls -/
theorem w_callF {f : FuncId} {args : Array Operand} {ts : Array TypeId} {vs : List Value} {M : List Nat} {R : Value → G → Prop} [he : Enter P f] (hx : evalL s args.toList = some vs) (hc : Fn P f vs g M R) (hdN : Nat.ble (d + 1) N = true)
    (hk : ∀ v h, Step [] M g h → R v h → Wp P Z N (.ops all rest :: k) ((d, v) :: s) h.w) :
    Wp P Z N (.ops all (⟨some d, .call { callee := .value (.func f), args, argTypes := ts }, ty, pos, af, none⟩ :: rest) :: k) s g.w :=
  w_call hc (fun ac ha => by
    have e := ha.evalL hx
    have e2 : args.map ac.eval = vs.toArray := by rw [← e]; simp [← Array.toList_map]
    simp [execOp, resolve, Act.eval, Deferred.ofValue, invoke, he.eq, e2]) hdN hk
theorem w_callF0 {f : FuncId} {args : Array Operand} {ts : Array TypeId} {vs : List Value} {M : List Nat} {R : Value → G → Prop} [he : Enter P f] (hx : evalL s args.toList = some vs) (hc : Fn P f vs g M R)
    (hk : ∀ v h, Step [] M g h → R v h → Wp P Z N (.ops all rest :: k) s h.w) :
    Wp P Z N (.ops all (⟨none, .call { callee := .value (.func f), args, argTypes := ts }, ty, pos, af, none⟩ :: rest) :: k) s g.w :=
  w_call0 hc (fun ac ha => by
    have e := ha.evalL hx
    have e2 : args.map ac.eval = vs.toArray := by rw [← e]; simp [← Array.toList_map]
    simp [execOp, resolve, Act.eval, Deferred.ofValue, invoke, he.eq, e2]) hk
/-- A call of a function value. -/
theorem w_callV {fx : Operand} {f : FuncId} {first captured : Array Value} {args : Array Operand} {ts : Array TypeId} {vs : List Value} {M : List Nat} {R : Value → G → Prop} [he : Enter P f] (hnf : ∀ q, fx ≠ .func q) (hfx : evalS s fx = some (.func (.func f) first captured)) (hx : evalL s args.toList = some vs)
    (hc : Fn P f (first.toList ++ vs ++ captured.toList) g M R) (hdN : Nat.ble (d + 1) N = true)
    (hk : ∀ v h, Step [] M g h → R v h → Wp P Z N (.ops all rest :: k) ((d, v) :: s) h.w) :
    Wp P Z N (.ops all (⟨some d, .call { callee := .value fx, args, argTypes := ts }, ty, pos, af, none⟩ :: rest) :: k) s g.w :=
  w_call hc (fun ac ha => by
    have e := ha.evalL hx
    have e2 : args.map ac.eval = vs.toArray := by rw [← e]; simp [← Array.toList_map]
    simp [execOp, resolve, ha.eval hfx, Deferred.ofValue, invoke, he.eq, e2]) hdN hk
end

/-! ### the same laws in short words, for runs of plain operations -/
section
variable {P : Program} {Z : Exit → Act → World → Prop} {N : Nat} {k : List It} {s : Env} {w : World}
variable {all : Array Oper} {rest : List Oper} {op : Op} {ty : TypeId} {pos : String} {af : Array Edge} {d : Nat} {v : Value}
theorem q0 {o : Oper} (h : Wp P Z N (.ops all (o :: rest) :: k) s w) : Wp P Z N (.ops all (o :: rest) :: k) s w := h
theorem q1 (hk : Wp P Z N (.ops all rest :: k) ((d, v) :: s) w) (h : pureOp s op = some v := by exact rfl) (hdN : Nat.ble (d + 1) N = true := by exact rfl) :
    Wp P Z N (.ops all (⟨some d, op, ty, pos, af, none⟩ :: rest) :: k) s w := w_pure h hdN hk
theorem q2 {x y : Operand} {a b : Int} {T yt : TypeId} (hk : Wp P Z N (.ops all rest :: k) ((d, .int .i64 (a + b)) :: s) w) (hx : evalS s x = some (.int .i64 a) := by exact rfl) (hy : evalS s y = some (.int .i64 b) := by exact rfl) (hr : -9223372036854775808 ≤ a + b ∧ a + b ≤ 9223372036854775807 := by omega) (hdN : Nat.ble (d + 1) N = true := by exact rfl) :
    Wp P Z N (.ops all (⟨some d, .binOp .add T x y yt, ty, pos, af, none⟩ :: rest) :: k) s w := w_add hx hy hr hdN hk
theorem q3 {x y : Operand} {a b : Int} {T yt : TypeId} (hk : Wp P Z N (.ops all rest :: k) ((d, .int .i64 (a - b)) :: s) w) (hx : evalS s x = some (.int .i64 a) := by exact rfl) (hy : evalS s y = some (.int .i64 b) := by exact rfl) (hr : -9223372036854775808 ≤ a - b ∧ a - b ≤ 9223372036854775807 := by omega) (hdN : Nat.ble (d + 1) N = true := by exact rfl) :
    Wp P Z N (.ops all (⟨some d, .binOp .sub T x y yt, ty, pos, af, none⟩ :: rest) :: k) s w := w_sub hx hy hr hdN hk
theorem q4 {x : Operand} {T : TypeId} [hT : Und P T .string] {l : List UInt8} (hk : Wp P Z N (.ops all rest :: k) ((d, .int .i64 (l.length : Int)) :: s) w) (hx : evalS s x = some (.string ⟨l.toArray⟩) := by exact rfl) (hdN : Nat.ble (d + 1) N = true := by exact rfl) :
    Wp P Z N (.ops all (⟨some d, .call { callee := .builtin .len, args := #[x], argTypes := #[T] }, ty, pos, af, none⟩ :: rest) :: k) s w := w_lenStr hx hdN hk
theorem q5 {j t : Nat} {b : Bool} {v : Value} {o : Option Tmp} (h : Wp P Z N (.ops all (⟨o, op, ty, pos, af, none⟩ :: rest) :: k) s w) (hd : (all[j]?).bind (·.dst) = some t := by exact rfl) (hl : look s t = some v := by exact rfl) (hv : v = .bool b := by first | with_reducible rfl | exact congrArg Value.bool (by decide)) :
    Wp P Z N (.ops all (⟨o, op, ty, pos, af, some (j, b)⟩ :: rest) :: k) s w := w_guard_yes' rfl hd hl hv h
theorem q6 {j t : Nat} {b : Bool} {v : Value} (h : Wp P Z N (.ops all rest :: k) ((d, undef) :: s) w) (hd : (all[j]?).bind (·.dst) = some t := by exact rfl) (hl : look s t = some v := by exact rfl) (hv : v = .bool (!b) := by first | with_reducible rfl | exact congrArg Value.bool (by decide)) (hdN : Nat.ble (d + 1) N = true := by exact rfl) :
    Wp P Z N (.ops all (⟨some d, op, ty, pos, af, some (j, b)⟩ :: rest) :: k) s w := w_guard_no' (d := d) rfl hd hl hv rfl hdN h
theorem q7 {id : Nat} {k' : List It} (h : Wp P Z N k' s w) (hk : popTo id k = some k' := by exact rfl) : Wp P Z N (.code (.exit id) :: k) s w := w_exit hk h
theorem q8 {c : Operand} {x y : Code} {v : Value} (ht : Wp P Z N (.code x :: k) s w) (hc : evalS s c = some v := by exact rfl) (hv : v = .bool true := by first | with_reducible rfl | exact congrArg Value.bool (by decide)) : Wp P Z N (.code (.cond c x y) :: k) s w := w_condT' hc hv ht
theorem q9 {c : Operand} {x y : Code} {v : Value} (ht : Wp P Z N (.code y :: k) s w) (hc : evalS s c = some v := by exact rfl) (hv : v = .bool false := by first | with_reducible rfl | exact congrArg Value.bool (by decide)) : Wp P Z N (.code (.cond c x y) :: k) s w := w_condF' hc hv ht
theorem o8 {c : Operand} {x y : Code} {v : Value} (ht : Wp P Z N (.code x :: k) s w) (hc : evalS s c = some v := by exact rfl) (hv : v = .bool true := by first | with_reducible rfl | exact congrArg Value.bool (by decide) | exact congrArg Value.bool (decide_eq_true (by (try simp only [List.length_cons, List.length_nil]); omega))) : Wp P Z N (.code (.cond c x y) :: k) s w := w_condT' hc hv ht
theorem o9 {c : Operand} {x y : Code} {v : Value} (ht : Wp P Z N (.code y :: k) s w) (hc : evalS s c = some v := by exact rfl) (hv : v = .bool false := by first | with_reducible rfl | exact congrArg Value.bool (by decide) | exact congrArg Value.bool (decide_eq_false (by (try simp only [List.length_cons, List.length_nil]); omega))) : Wp P Z N (.code (.cond c x y) :: k) s w := w_condF' hc hv ht
theorem o5 {j t : Nat} {b : Bool} {v : Value} {o : Option Tmp} (h : Wp P Z N (.ops all (⟨o, op, ty, pos, af, none⟩ :: rest) :: k) s w) (hd : (all[j]?).bind (·.dst) = some t := by exact rfl) (hl : look s t = some v := by exact rfl) (hv : v = .bool b := by first | with_reducible rfl | exact congrArg Value.bool (by decide) | exact congrArg Value.bool (decide_eq_true (by (try simp only [List.length_cons, List.length_nil]); omega)) | exact congrArg Value.bool (decide_eq_false (by (try simp only [List.length_cons, List.length_nil]); omega))) :
    Wp P Z N (.ops all (⟨o, op, ty, pos, af, some (j, b)⟩ :: rest) :: k) s w := w_guard_yes' rfl hd hl hv h
theorem o6 {j t : Nat} {b : Bool} {v : Value} (h : Wp P Z N (.ops all rest :: k) ((d, undef) :: s) w) (hd : (all[j]?).bind (·.dst) = some t := by exact rfl) (hl : look s t = some v := by exact rfl) (hv : v = .bool (!b) := by first | with_reducible rfl | exact congrArg Value.bool (by decide) | exact congrArg Value.bool (decide_eq_true (by (try simp only [List.length_cons, List.length_nil]); omega)) | exact congrArg Value.bool (decide_eq_false (by (try simp only [List.length_cons, List.length_nil]); omega))) (hdN : Nat.ble (d + 1) N = true := by exact rfl) :
    Wp P Z N (.ops all (⟨some d, op, ty, pos, af, some (j, b)⟩ :: rest) :: k) s w := w_guard_no' (d := d) rfl hd hl hv rfl hdN h
end
end Go.Proofs.Ytnfokdhgajanpaa
