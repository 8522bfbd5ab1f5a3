/- The engine: structs as keys of maps; delete; lengths of maps. No statement of the seat is proved here. -/
import Derived.Test.YtfkdfnookacgiaaEng9
import Derived.Test.YtfkdfnookacgiaaEng8
set_option linter.unusedVariables false
set_option linter.unusedSimpArgs false
namespace Go.Proofs.Ytfkdfnookacgiaa
open Go

section
variable {P : Program} {w : World}
/-- Values of the kind E may be keys. -/
class Chk (P : Program) (T : TypeId) {α : Type} (E : El α) : Prop where
  ok : ∀ (n : Nat) (w : World) (e : Bool) (a : α), 4 ≤ n → (Instr.checkKey e n T (E.val a)).run P w = .ok () w
theorem chk_int {T : TypeId} {k : IntKind} [hT : Und P T (.int k)] {n : Nat} (hn : 1 ≤ n) (e : Bool) (v : Value) : (Instr.checkKey e n T v).run P w = .ok () w := by
  obtain ⟨m, rfl⟩ : ∃ m, n = m + 1 := ⟨n - 1, by omega⟩
  cases v <;> simp [Instr.checkKey, run_underlying hT.eq]
theorem chk_str {T : TypeId} [hT : Und P T .string] {n : Nat} (hn : 1 ≤ n) (e : Bool) (v : Value) : (Instr.checkKey e n T v).run P w = .ok () w := by
  obtain ⟨m, rfl⟩ : ∃ m, n = m + 1 := ⟨n - 1, by omega⟩
  cases v <;> simp [Instr.checkKey, run_underlying hT.eq]
def PartChk (P : Program) (n : Nat) (e : Bool) (T : TypeId) (xs : Array Value) (off : Nat) (w : World) : Prop :=
  ∃ x, (part T xs off).run P w = .ok x w ∧ (Instr.checkKey e n T x).run P w = .ok () w
theorem chk_struct {n : Nat} {T : TypeId} {e : Bool} {fs : List Field} {xs : Array Value} (hu : P.underlying T = some (.struct fs.toArray))
    (hF : ∀ (i : Nat) (f : Field), fs[i]? = some f → PartChk P n e f.type xs f.offset w) : (Instr.checkKey e (n + 1) T (.agg xs)).run P w = .ok () w := by
  unfold Instr.checkKey
  simp only [Sem.run_bind, run_underlying hu, Result.andThen_ok]
  simp
  clear hu
  induction fs with
  | nil => simp
  | cons f r ih =>
    obtain ⟨x, h1, h2⟩ := hF 0 f rfl
    have ih' := ih (fun i f hf => hF (i + 1) f (by simpa using hf))
    by_cases hn : f.name = "_"
    · simp [hn]; exact ih'
    · simp [hn, h1, h2]; exact ih'
theorem chk_array {n len : Nat} {T el : TypeId} {e : Bool} {sz bts : Nat} {z : Value} [hi : Inf P el sz bts z] {xs : Array Value} (hu : P.underlying T = some (.array len el))
    (hF : ∀ i, i < len → PartChk P n e el xs (i * sz) w) : (Instr.checkKey e (n + 1) T (.agg xs)).run P w = .ok () w := by
  unfold Instr.checkKey
  simp only [Sem.run_bind, run_underlying hu, Result.andThen_ok, sizeOf_inf hi]
  simp [Std.Legacy.Range.forIn_eq_forIn_range']
  have hL : ∀ i ∈ List.range' 0 len, i < len := by intro i hi; simpa using hi
  generalize List.range' 0 len = L at hL ⊢
  induction L with
  | nil => simp
  | cons i L ih =>
    obtain ⟨x, h1, h2⟩ := hF i (hL i (by simp))
    have ih' := ih (fun j hj => hL j (by simp [hj]))
    simp [sizeOf_inf hi, h1, h2]
    exact ih'
theorem findAsking_is {T : TypeId} {κ : Type} [DecidableEq κ] {K : El κ} [he : EqV P T K] (x : κ) : ∀ (es : List MapEntry) (m : List κ) (i : Nat), es.map (·.key) = m.map K.val →
    (Instr.findAsking T (K.val x) es i).run P w = .ok ((m.findIdx? (fun y => decide (x = y))).bind fun j => (es[j]?).map fun e => (j + i, e.val)) w
  | [], m, i, h => by
    have : m = [] := by simpa using h.symm
    subst this; simp [Instr.findAsking]
  | e :: es, m, i, h => by
    cases m with
    | nil => simp at h
    | cons y m =>
      simp only [List.map_cons, List.cons.injEq] at h
      obtain ⟨h1, h2⟩ := h
      have ih := findAsking_is (T := T) (K := K) x es m (i + 1) h2
      have hq : (Op.equal T (K.val x) e.key).run P w = .ok (decide (x = y)) w := by rw [h1]; exact he.eq 10000 w x y (by decide)
      simp only [Instr.findAsking, Sem.run_bind, hq, Result.andThen_ok]
      by_cases hxy : x = y
      · subst hxy; simp [List.findIdx?_cons]
      · simp only [hxy, decide_false, Bool.false_eq_true, if_false, ih, List.findIdx?_cons]
        cases hf : List.findIdx? (fun y => decide (x = y)) m with
        | none => simp [hxy, hf]
        | some j => simp [hxy, hf]; cases es[j]? <;> simp; omega
theorem bits_int (k : IntKind) (n : Int) (q : Nat) : Instr.sameBits q (.int k n) (.int k n) = true := by simp [Instr.sameBits]
theorem bits_str (l : List UInt8) (q : Nat) : Instr.sameBits q (str l) (str l) = true := by
  unfold str
  cases q <;> (show (_ == _) = true; rw [beq_toListBytes]; simp)
theorem key_struct {T : TypeId} {fs : List Field} {κ : Type} [DecidableEq κ] {K : El κ} [he : EqV P T K] [hc : Chk P T K] (hu : P.underlying T = some (.struct fs.toArray)) (hA : K.agg = true)
    (hb : ∀ x, ∀ u ∈ K.enc x, Instr.sameBits 9999 u u = true) : KeyEq P T K where
  chk := fun w e x => hc.ok 10000 w e x (by decide)
  find := fun w x es m h => by
    have e1 : K.val x = .agg (K.enc x).toArray := by simp [El.val, hA]
    have hf := findAsking_is (P := P) (w := w) (T := T) (K := K) x es m 0 h
    simp only [Instr.findKey, Sem.run_bind, run_underlying hu, Result.andThen_ok]
    cases es with
    | nil =>
      have : m = [] := by simpa using h.symm
      subst this; simp [Instr.findNow]
    | cons e es =>
      have hn : Instr.findNow (.struct fs.toArray) (K.val x) (e :: es) 0 = none := by simp [Instr.findNow, Instr.sameNow]
      rw [hn]
      simpa using hf
  bits := fun x => by
    have e1 : K.val x = .agg (K.enc x).toArray := by simp [El.val, hA]
    rw [e1]
    have hb := hb x
    simp only [Instr.sameBits, beq_self_eq_true, Bool.true_and, List.all_eq_true]
    intro p hp
    generalize K.enc x = l at hb hp
    have : ∀ l : List Value, (∀ u ∈ l, Instr.sameBits 9999 u u = true) → ∀ p ∈ l.zip l, Instr.sameBits 9999 p.1 p.2 = true := by
      intro l
      induction l with
      | nil => intro _ p hp; simp at hp
      | cons a l ih =>
        intro h p hp
        simp only [List.zip_cons_cons, List.mem_cons] at hp
        rcases hp with rfl | hp
        · exact h a (by simp)
        · exact ih (fun u hu => h u (by simp [hu])) p hp
    exact this l hb p hp
end

theorem MapIs.seen {κ ν : Type} {K : El κ} {V : El ν} {c b : Nat} {m : List (κ × ν)} {g h : G} {M : List Nat} (hm : MapIs g c b K V m) (hv : View M g h) (ho : Out M g h) (hc : c ∉ M) : ∃ c', c' < 2 ∧ MapIs h c' b K V m := by
  obtain ⟨es, cl, h1, h2⟩ := hm
  obtain ⟨c', hc', e⟩ := hv.seen ho _ h1.lt h1.2
  rcases hc' with hc' | ⟨hc', e'⟩
  · exact ⟨c', hc', es, cl, ⟨by rw [hv.1]; exact h1.1, e⟩, h2⟩
  · exact absurd (e' ▸ hc') hc
theorem MapIs.size {κ ν : Type} {K : El κ} {V : El ν} {c b : Nat} {m : List (κ × ν)} {g : G} (hm : MapIs g c b K V m) : ∃ es cl, g.w.heap[b]? = some (.map es cl) ∧ es.size = m.length := by
  obtain ⟨es, cl, h1, h2, _⟩ := hm
  refine ⟨es, cl, h1.1, ?_⟩
  have := congrArg List.length h2
  simpa using this

section
variable {P : Program} {Z : Exit → Act → World → Prop} {N : Nat} {k : List It} {s : Env} {w : World} {g : G}
variable {all : Array Oper} {rest : List Oper} {op : Op} {ty : TypeId} {pos : String} {af : Array Edge} {d : Nat} {v : Value}
variable {κ ν : Type} {K : El κ} {V : El ν} {c b : Nat} {m : List (κ × ν)}
theorem r_lenMap {x : Operand} {T kt vt : TypeId} [hT : Und P T (.map kt vt)] (hm : MapIs g c b K V m) (hx : evalS s x = some (.map (some b))) :
    ∀ ac, Fits N s ac → (execOp ac.eval ⟨some d, .call { callee := .builtin .len, args := #[x], argTypes := #[T] }, ty, pos, af, none⟩).run P g.w = .ok (.value (.int .i64 (m.length : Int))) g.w :=
  fun ac ha => by
    obtain ⟨es, cl, h1, h2⟩ := hm.size
    have e : (Builtin.len_ #[T] ty #[.map (some b)]).run P g.w = .ok (.int .i64 (m.length : Int)) g.w := by
      simp [Builtin.len_, run_underlying hT.eq, run_getMap h1, goInt, h2]
    simp only [execOp, resolve, invoke, builtin, List.map_toArray, List.map_cons, List.map_nil, ha.eval hx]
    simp [e]
theorem w_lenMap {x : Operand} {T kt vt : TypeId} [hT : Und P T (.map kt vt)] (hm : MapIs g c b K V m) (hx : evalS s x = some (.map (some b))) (hdN : Nat.ble (d + 1) N = true)
    (hk : Wp P Z N (.ops all rest :: k) ((d, .int .i64 (m.length : Int)) :: s) g.w) : Wp P Z N (.ops all (⟨some d, .call { callee := .builtin .len, args := #[x], argTypes := #[T] }, ty, pos, af, none⟩ :: rest) :: k) s g.w :=
  w_val (r_lenMap hm hx) hdN hk
end
end Go.Proofs.Ytfkdfnookacgiaa
