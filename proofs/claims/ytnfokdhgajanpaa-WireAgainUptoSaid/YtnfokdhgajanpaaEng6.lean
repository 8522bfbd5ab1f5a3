/- The engine, part 6: conversions, cuts of slices, maps, functions without a body. No statement of the seat is proved here. -/
import Derived.Test.YtnfokdhgajanpaaEng5
import Derived.Lib.MakeNoZero
import Derived.Lib.UnsafeStr
import Derived.Lib.Bytealg
import Derived.Lib.Builder
set_option linter.unusedVariables false
set_option linter.unusedSimpArgs false
set_option linter.unusedSectionVars false
namespace Go.Proofs.Ytnfokdhgajanpaa
open Go

section
variable {P : Program} {Z : Exit → Act → World → Prop} {N : Nat} {k : List It} {s : Env} {w : World} {g : G}
variable {all : Array Oper} {rest : List Oper} {op : Op} {ty : TypeId} {pos : String} {af : Array Edge} {d : Nat} {v : Value}

/-! ### []byte and string -/
theorem strOfNums_bytes (l : List UInt8) : strOfNums (l.map fun b => (b.toNat : Int)) = ⟨l.toArray⟩ := by
  unfold strOfNums
  congr 1
  apply Array.ext'
  simp only [List.map_map]
  induction l with
  | nil => rfl
  | cons a l ih => rw [List.map_cons, ih]; simp
theorem run_b2s {S T e : TypeId} [hS : Und P S (.slice e)] [he : Und P e (.int .u8)] [hT : Und P T .string] {c : Nat} {l : List UInt8} (hr : Rd g c El.u8 v l) : (convert S T v).run P g.w = .ok (.string ⟨l.toArray⟩) g.w := by
  obtain ⟨A, cap, rfl, h1, h2, h3⟩ := hr
  cases A with
  | none =>
    have : l = [] := by rcases h3 with h | ⟨a, h, _⟩; exact h; cases h
    subst this
    rw [run_convert_bytes_nil g.w S e hS.eq he.eq _ _ T hT.eq]; rfl
  | some a =>
    rcases h3 with rfl | ⟨a', ha, hlt, hcol, hcell⟩
    · simp [convert, run_underlying hS.eq, run_underlying hT.eq, run_underlying he.eq, Conv.bytesToString, loadCells, loadCellsFrom]
      rfl
    · injection ha with ha
      subst ha
      by_cases h0 : l = []
      · subst h0
        simp [convert, run_underlying hS.eq, run_underlying hT.eq, run_underlying he.eq, Conv.bytesToString, loadCells, loadCellsFrom]
        rfl
      · have hpos : 0 < l.length := List.length_pos_iff.2 h0
        have hc0 := hcell 0 hpos 0 (by decide)
        obtain ⟨b, off, sp⟩ := a
        have hsp : sp = none := by
          cases sp with
          | none => rfl
          | some q =>
            simp only [El.u8, Nat.zero_mul, Nat.add_zero] at hc0
            have e : (⟨b, off, some q⟩ : Addr).add 0 = ⟨b, off, some q⟩ := by unfold Addr.add; simp
            rw [e] at hc0
            unfold World.cell? at hc0
            split at hc0 <;> simp at hc0
        subst hsp
        rw [run_convert_bytes_arg g.w S e hS.eq he.eq b off l.length cap (l.map fun b => (b.toNat : Int)) (by simp) (fun i hi => ?_) T hT.eq, strOfNums_bytes]
        have := hcell i hi 0 (by decide)
        simp only [El.u8, Nat.mul_one, Nat.add_zero] at this
        rw [addr_add] at this
        rw [this]
        simp [bv, List.getD_eq_getElem?_getD, hi]
theorem w_b2s {x : Operand} {S T e : TypeId} [hS : Und P S (.slice e)] [he : Und P e (.int .u8)] [hT : Und P T .string] {c : Nat} {l : List UInt8} (hr : Rd g c El.u8 v l) (hx : evalS s x = some v) (hdN : Nat.ble (d + 1) N = true)
    (hk : Wp P Z N (.ops all rest :: k) ((d, .string ⟨l.toArray⟩) :: s) g.w) : Wp P Z N (.ops all (⟨some d, .convert S T x, ty, pos, af, none⟩ :: rest) :: k) s g.w :=
  w_val (fun ac ha => by simp only [execOp, ha.eval hx]; rw [Sem.run_bind, run_b2s hr]; rfl) hdN hk
/-- []byte(s): a slice that is only read. -/
theorem w_s2b {x : Operand} {S T e : TypeId} [hS : Und P S .string] [hT : Und P T (.slice e)] [he : Und P e (.int .u8)] {l : List UInt8} (hx : evalS s x = some (.string ⟨l.toArray⟩)) (hl : l.length ≤ 140737488355328) (hdN : Nat.ble (d + 1) N = true)
    (hk : ∀ h v, Step [] [] g h → Rd h 0 El.u8 v l → Wp P Z N (.ops all rest :: k) ((d, v) :: s) h.w) :
    Wp P Z N (.ops all (⟨some d, .convert S T x, ty, pos, af, none⟩ :: rest) :: k) s g.w := by
  let b : ByteArray := ⟨l.toArray⟩
  have hsz : b.size = l.length := by simp [b, ByteArray.size]
  let h : G := ⟨Lib.bytesWorld g.w e b, fun x => if x = g.w.heap.size then 0 else g.col x⟩
  refine w_val (v := .slice (some ⟨g.w.heap.size, 0, none⟩) b.size (grownCap g.w b.size 0 e)) (w' := h.w) (fun ac ha => ?_) hdN (hk h _ ?_ ?_)
  · simp only [execOp, ha.eval hx]
    rw [Sem.run_bind, Lib.run_convert_string_bytes g.w S T e b hS.eq hT.eq he.eq]; rfl
  · refine ⟨?_, ?_, ?_, run_drawn _ _ (Lib.run_convert_string_bytes (P := P) g.w S T e b hS.eq hT.eq he.eq), by show g.w.heap.size ≤ (Lib.bytesWorld g.w e b).heap.size; rw [Lib.bytesWorld_size]; omega, fun x hx _ _ => ⟨Lib.bytesWorld_at_old _ _ _ _ hx, if_neg (by omega)⟩⟩
    all_goals (show _ = _; simp only [h, Lib.bytesWorld, World.freeze]; rfl)
  · rw [hsz]
    refine ⟨some ⟨g.w.heap.size, 0, none⟩, _, rfl, grownCap_ge g.w l.length 0 e, grownCap_le_maxLen _ _ _ _ (by simp only [maxLen]; omega), .inr ⟨_, rfl, ?_, if_pos rfl, fun i hi j hj => ?_⟩⟩
    · show g.w.heap.size < (Lib.bytesWorld g.w e b).heap.size
      rw [Lib.bytesWorld_size]; omega
    · have hj0 : j = 0 := by simp only [El.u8] at hj; omega
      subst hj0
      simp only [El.u8, Nat.mul_one, Nat.add_zero]
      rw [addr_add, Nat.zero_add]
      show (Lib.bytesWorld g.w e b).cell? _ = _
      rw [Lib.bytesWorld_cell g.w e b i (by rw [hsz]; exact hi)]
      simp [b, bv, List.getD_eq_getElem?_getD, hi]

/-! ### cuts -/
/-- A slice of a slice. -/
def cutV (v : Value) (sz a b : Nat) : Value := match v with
  | .slice A _ cap => .slice (if cap = a then A else A.map (·.add (a * sz))) (b - a) (cap - a)
  | _ => undef
theorem Rd.cut {α : Type} {E : El α} {c : Nat} {l : List α} (hr : Rd g c E v l) {a b : Nat} (hab : a ≤ b) (hb : b ≤ l.length) : Rd g c E (cutV v E.sz a b) ((l.take b).drop a) := by
  obtain ⟨A, cap, rfl, h1, h2, h3⟩ := hr
  have hlen : ((l.take b).drop a).length = b - a := by simp; omega
  refine ⟨_, _, by rw [hlen]; rfl, by rw [hlen]; omega, by omega, ?_⟩
  rcases h3 with rfl | ⟨q, rfl, hlt, hcol, hcell⟩
  · left; simp
  · by_cases h0 : b - a = 0
    · left; exact List.eq_nil_of_length_eq_zero (by rw [hlen]; exact h0)
    · right
      have hne : ¬ cap = a := by omega
      refine ⟨q.add (a * E.sz), by rw [if_neg hne]; rfl, by rw [addr_add_block]; exact hlt, by rw [addr_add_block]; exact hcol, fun i hi j hj => ?_⟩
      rw [hlen] at hi
      rw [addr_add_add, show a * E.sz + (i * E.sz + j) = (a + i) * E.sz + j by rw [Nat.add_mul]; omega, hcell (a + i) (by omega) j hj]
      congr 2
      simp
theorem run_cutSl {T e : TypeId} [hT : Und P T (.slice e)] {α : Type} {E : El α} {bts : Nat} {z : Value} [hi : Inf P e E.sz bts z] {c : Nat} {l : List α} (hr : Rd g c E v l) {a b : Nat} (hab : a ≤ b) (hb : b ≤ l.length) {lo hi' : Option Value}
    (hlo : lo = some (.int .i64 a) ∨ (lo = none ∧ a = 0)) (hhi : hi' = some (.int .i64 b) ∨ (hi' = none ∧ b = l.length)) :
    (Instr.sliceAt T v lo hi' none).run P g.w = .ok (cutV v E.sz a b) g.w := by
  obtain ⟨A, cap, rfl, h1, h2, h3⟩ := hr
  have hbnd : (Instr.sliceBounds true l.length cap lo hi' none).run P g.w = .ok (a, b, cap) g.w := by
    rcases hlo with rfl | ⟨rfl, rfl⟩ <;> rcases hhi with rfl | ⟨rfl, rfl⟩
    · simp [Instr.sliceBounds, sliceBound_nat _ _ _ _ (Nat.le_trans hb h1), sliceBound_nat _ _ _ _ hab]
    · simp [Instr.sliceBounds, sliceBound_nat _ _ _ _ hab]
    · simp [Instr.sliceBounds, sliceBound_nat _ _ _ _ (Nat.le_trans hb h1)]
    · simp [Instr.sliceBounds]
  simp only [Instr.sliceAt, Sem.run_bind, run_underlying hT.eq, Result.andThen_ok, Instr.slice, hbnd, sizeOf_inf hi]
  rfl
theorem w_cut_ {x : Operand} {T e : TypeId} [hT : Und P T (.slice e)] {α : Type} {E : El α} {bts : Nat} {z : Value} [hi : Inf P e E.sz bts z] {c : Nat} {l : List α} {lo hi' : Option Operand} {a b : Nat} (hr : Rd g c E v l) (hx : evalS s x = some v)
    (hlo : match lo with | some o => ∃ n, evalS s o = some (.int .i64 n) ∧ n = (a : Int) | none => a = 0)
    (hhi : match hi' with | some o => ∃ n, evalS s o = some (.int .i64 n) ∧ n = (b : Int) | none => b = l.length)
    (hab : a ≤ b) (hb : b ≤ l.length) (hdN : Nat.ble (d + 1) N = true)
    (hk : Rd g c E (cutV v E.sz a b) ((l.take b).drop a) → Wp P Z N (.ops all rest :: k) ((d, cutV v E.sz a b) :: s) g.w) :
    Wp P Z N (.ops all (⟨some d, .slice T x lo hi' none, ty, pos, af, none⟩ :: rest) :: k) s g.w := by
  have key : ∀ lo2 hi2, (lo2 = some (.int .i64 a) ∨ (lo2 = none ∧ a = 0)) → (hi2 = some (.int .i64 b) ∨ (hi2 = none ∧ b = l.length)) → (∀ ac, Fits N s ac → lo.map ac.eval = lo2) → (∀ ac, Fits N s ac → hi'.map ac.eval = hi2) →
      Wp P Z N (.ops all (⟨some d, .slice T x lo hi' none, ty, pos, af, none⟩ :: rest) :: k) s g.w := by
    intro lo2 hi2 h1 h2 h3 h4
    have hrun := run_cutSl (P := P) (T := T) (e := e) (z := z) (bts := bts) hr hab hb h1 h2
    refine w_val (v := cutV v E.sz a b) (fun ac ha => ?_) hdN (hk (hr.cut hab hb))
    simp only [execOp, ha.eval hx, h3 ac ha, h4 ac ha, Option.map_none]
    rw [Sem.run_bind, hrun]; rfl
  cases lo with
  | none => cases hi' with
    | none => exact key none none (.inr ⟨rfl, hlo⟩) (.inr ⟨rfl, hhi⟩) (fun _ _ => rfl) (fun _ _ => rfl)
    | some o => obtain ⟨n, hn, rfl⟩ := hhi; exact key none _ (.inr ⟨rfl, hlo⟩) (.inl rfl) (fun _ _ => rfl) (fun ac ha => by simp [ha.eval hn])
  | some o => obtain ⟨m, hm, rfl⟩ := hlo; cases hi' with
    | none => exact key _ none (.inl rfl) (.inr ⟨rfl, hhi⟩) (fun ac ha => by simp [ha.eval hm]) (fun _ _ => rfl)
    | some o => obtain ⟨n, hn, rfl⟩ := hhi; exact key _ _ (.inl rfl) (.inl rfl) (fun ac ha => by simp [ha.eval hm]) (fun ac ha => by simp [ha.eval hn])

/-- A slice, or a map, held against nil. -/
theorem w_slEqNil {x y : Operand} {T yt e : TypeId} [hT : Und P T (.slice e)] {A : Option Addr} {n cap : Nat} (hx : evalS s x = some (.slice A n cap)) (hy : evalS s y = some (.slice none 0 0)) (hdN : Nat.ble (d + 1) N = true)
    (hk : Wp P Z N (.ops all rest :: k) ((d, .bool A.isNone) :: s) w) : Wp P Z N (.ops all (⟨some d, .binOp .eql T x y yt, ty, pos, af, none⟩ :: rest) :: k) s w :=
  w_val (fun ac ha => by
    simp only [execOp, ha.eval hx, ha.eval hy]
    have he : (eqGuard .eql T x y (.slice A n cap) (.slice none 0 0)).run P w = .ok () w := rfl
    have h1 : ∀ q, (Op.equalIn (q + 1) T (.slice A n cap) (.slice none 0 0)).run P w = .ok A.isNone w := fun q => by
      cases A <;> simp [Op.equalIn, run_underlying hT.eq]
    rw [Sem.run_bind, Sem.run_bind, he, Result.andThen_ok]
    simp only [binOp, Op.equal, Op.maxDepth, Sem.run_bind, h1 9999]
    rfl) hdN hk
theorem w_mapEqNil {x y : Operand} {T yt a b : TypeId} [hT : Und P T (.map a b)] {r : Option Nat} (hx : evalS s x = some (.map r)) (hy : evalS s y = some (.map none)) (hdN : Nat.ble (d + 1) N = true)
    (hk : Wp P Z N (.ops all rest :: k) ((d, .bool r.isNone) :: s) w) : Wp P Z N (.ops all (⟨some d, .binOp .eql T x y yt, ty, pos, af, none⟩ :: rest) :: k) s w :=
  w_val (fun ac ha => by
    simp only [execOp, ha.eval hx, ha.eval hy]
    have he : (eqGuard .eql T x y (.map r) (.map none)).run P w = .ok () w := rfl
    have h1 : ∀ q, (Op.equalIn (q + 1) T (.map r) (.map none)).run P w = .ok r.isNone w := fun q => by
      cases r <;> simp [Op.equalIn, run_underlying hT.eq]
    rw [Sem.run_bind, Sem.run_bind, he, Result.andThen_ok]
    simp only [binOp, Op.equal, Op.maxDepth, Sem.run_bind, h1 9999]
    rfl) hdN hk

/-! ### maps -/
/-- A key type: its values are held against each other as x and y are. -/
class KeyEq (P : Program) (T : TypeId) {κ : Type} [DecidableEq κ] (K : El κ) : Prop where
  chk : ∀ w e x, (Instr.checkKey e 10000 T (K.val x)).run P w = .ok () w
  find : ∀ w x (es : List MapEntry) (m : List κ), es.map (·.key) = m.map K.val →
    (Instr.findKey T (K.val x) es).run P w = .ok ((m.findIdx? (fun y => decide (x = y))).bind fun i => (es[i]?).map fun e => (i, e.val)) w
  bits : ∀ x, Instr.sameBits 10000 (K.val x) (K.val x) = true

theorem findNow_str (x : List UInt8) : ∀ (es : List MapEntry) (m : List (List UInt8)) (i : Nat), es.map (·.key) = m.map El.str.val →
    Instr.findNow .string (El.str.val x) es i = some ((m.findIdx? (fun y => decide (x = y))).bind fun j => (es[j]?).map fun e => (j + i, e.val))
  | [], m, i, h => by
    have : m = [] := by simpa using h.symm
    subst this; rfl
  | e :: es, m, i, h => by
    cases m with
    | nil => simp at h
    | cons y m =>
      simp only [List.map_cons, List.cons.injEq] at h
      obtain ⟨h1, h2⟩ := h
      have ih := findNow_str x es m (i + 1) h2
      have hs : Instr.sameNow .string (El.str.val x) e.key = some (decide (x = y)) := by
        rw [h1]
        show some (ByteArray.mk x.toArray == ByteArray.mk y.toArray) = _
        rw [beq_toListBytes, bytes_eq]
        rfl
      simp only [Instr.findNow, hs]
      by_cases hxy : x = y
      · subst hxy
        simp [List.findIdx?_cons]
      · simp only [decide_eq_false hxy, ih, List.findIdx?_cons]
        cases List.findIdx? (fun y => decide (x = y)) m with
        | none => simp
        | some j => simp; cases es[j]? <;> simp [Nat.add_assoc, Nat.add_comm 1 i]
instance keyStr (T : TypeId) [hT : Und P T .string] : KeyEq P T El.str where
  chk := fun w e x => by
    have h1 : ∀ q, (Instr.checkKey e (q + 1) T (El.str.val x)).run P w = .ok () w := fun q => by
      simp [Instr.checkKey, run_underlying hT.eq, El.val, El.str, str]
    exact h1 9999
  find := fun w x es m h => by
    simp only [Instr.findKey, Sem.run_bind, run_underlying hT.eq, Result.andThen_ok, findNow_str x es m 0 h]
    rfl
  bits := fun x => by
    show (ByteArray.mk x.toArray == ByteArray.mk x.toArray) = true
    rw [beq_toListBytes, bytes_eq]; simp

/-- A map's keys and values, in the row of their coming. -/
def Stamps (es : Array MapEntry) (clock : Nat) : Prop := (∀ e ∈ es.toList, e.born < clock) ∧ (es.toList.map (·.born)).Nodup
theorem Stamps.nil (c : Nat) : Stamps #[] c := ⟨by simp, by simp⟩
theorem Stamps.push {es : Array MapEntry} {clock : Nat} (h : Stamps es clock) (k v : Value) : Stamps (es.push { key := k, val := v, born := clock }) (clock + 1) := by
  refine ⟨fun e he => ?_, ?_⟩
  · rw [Array.toList_push] at he
    rcases List.mem_append.1 he with he | he
    · have := h.1 e he; omega
    · simp at he; subst he; show clock < clock + 1; omega
  · rw [Array.toList_push, List.map_append, List.nodup_append]
    refine ⟨h.2, by simp, ?_⟩
    intro a ha b hb
    simp at hb
    subst hb
    obtain ⟨e, he, rfl⟩ := List.mem_map.1 ha
    have := h.1 e he
    omega
theorem Stamps.modify {es : Array MapEntry} {clock : Nat} (h : Stamps es clock) (i : Nat) (k v : Value) : Stamps (es.modify i fun e => { e with key := k, val := v }) clock := by
  have e1 : (es.modify i fun e => { e with key := k, val := v }).toList.map (·.born) = es.toList.map (·.born) := by
    apply List.ext_getElem?
    intro j
    simp only [List.getElem?_map, Array.getElem?_toList, Array.getElem?_modify]
    by_cases hij : i = j
    · subst hij; simp only [if_true]; cases es[i]? <;> rfl
    · simp only [hij, if_false]
  refine ⟨fun e he => ?_, by rw [e1]; exact h.2⟩
  have : e.born ∈ es.toList.map (·.born) := by rw [← e1]; exact List.mem_map.2 ⟨e, he, rfl⟩
  obtain ⟨e', he', hb⟩ := List.mem_map.1 this
  rw [← hb]; exact h.1 e' he'
def MapIs {κ ν : Type} (g : G) (c b : Nat) (K : El κ) (V : El ν) (m : List (κ × ν)) : Prop :=
  ∃ es clock, MapAt g c b es clock ∧ es.toList.map (·.key) = m.map (fun p => K.val p.1) ∧ es.toList.map (·.val) = m.map (fun p => V.val p.2) ∧ Stamps es clock
def mget {κ ν : Type} [DecidableEq κ] (k : κ) : List (κ × ν) → Option ν
  | [] => none
  | p :: m => if k = p.1 then some p.2 else mget k m
def mput {κ ν : Type} [DecidableEq κ] (k : κ) (x : ν) : List (κ × ν) → List (κ × ν)
  | [] => [(k, x)]
  | p :: m => if k = p.1 then (k, x) :: m else p :: mput k x m
def mdel {κ ν : Type} [DecidableEq κ] (k : κ) : List (κ × ν) → List (κ × ν)
  | [] => []
  | p :: m => if k = p.1 then m else p :: mdel k m

section
variable {κ ν : Type} [DecidableEq κ] {K : El κ} {V : El ν} {c b : Nat} {m : List (κ × ν)} {h : G} {B M : List Nat}
theorem MapIs.step (hm : MapIs g c b K V m) (hs : Step B M g h) (hM : c ∉ M) (hB : b ∉ B) : MapIs h c b K V m := by
  obtain ⟨es, cl, h1, h2⟩ := hm
  exact ⟨es, cl, h1.step hs hM hB, h2⟩
theorem MapIs.view (hm : MapIs g c b K V m) (hv : View M g h) (h0 : c = 0 ∨ c ∈ M) : MapIs h c b K V m := by
  obtain ⟨es, cl, h1, h2⟩ := hm
  exact ⟨es, cl, h1.view hv h0, h2⟩
theorem MapIs.lt (hm : MapIs g c b K V m) : b < g.w.heap.size := by obtain ⟨es, cl, h1, _⟩ := hm; exact h1.lt
theorem MapAt.empty (hm : MapAt g c b #[] 0) : MapIs g c b K V [] := ⟨#[], 0, hm, rfl, rfl, Stamps.nil _⟩

theorem idx_get (x : κ) : ∀ (m : List (κ × ν)) (es : List MapEntry), es.map (·.val) = m.map (fun p => V.val p.2) →
    (((m.map (·.1)).findIdx? (fun y => decide (x = y))).bind fun i => (es[i]?).map fun e => (i, e.val)) = (((m.map (·.1)).findIdx? (fun y => decide (x = y))).bind fun i => (mget x m).map fun u => (i, V.val u))
  | [], es, h => by simp
  | p :: m, es, h => by
    cases es with
    | nil => simp at h
    | cons e es =>
      simp only [List.map_cons, List.cons.injEq] at h
      have ih := idx_get x m es h.2
      simp only [List.map_cons, List.findIdx?_cons, mget]
      by_cases hx : x = p.1
      · simp [hx, h.1]
      · rw [if_neg (by simp [hx]), if_neg hx]
        cases hf : List.findIdx? (fun y => decide (x = y)) (m.map (·.1)) with
        | none => rfl
        | some i =>
          rw [hf] at ih
          simp only [Option.bind_some, Option.map_some] at ih ⊢
          cases he : es[i]? with
          | none => rw [he] at ih; cases hg : mget x m with
            | none => simp [he]
            | some u => rw [hg] at ih; cases ih
          | some e' => rw [he] at ih; cases hg : mget x m with
            | none => rw [hg] at ih; cases ih
            | some u => rw [hg] at ih; simp at ih; simp [he, ih]
theorem idx_none (x : κ) : ∀ (m : List (κ × ν)), ((m.map (·.1)).findIdx? (fun y => decide (x = y))) = none ↔ mget x m = none
  | [] => by simp [mget]
  | p :: m => by
    have ih := idx_none x m
    simp only [List.map_cons, List.findIdx?_cons, mget]
    by_cases hx : x = p.1
    · simp [hx]
    · rw [if_neg (by simp [hx]), if_neg hx, Option.map_eq_none_iff]
      exact ih

theorem run_find {T : TypeId} [hK : KeyEq P T K] (hm : MapIs g c b K V m) (x : κ) : ∃ es cl, g.w.heap[b]? = some (.map es cl) ∧ es.toList.map (·.key) = m.map (fun p => K.val p.1) ∧ es.toList.map (·.val) = m.map (fun p => V.val p.2) ∧ Stamps es cl ∧
    (Instr.findKey T (K.val x) es.toList).run P g.w = .ok (((m.map (·.1)).findIdx? (fun y => decide (x = y))).bind fun i => (mget x m).map fun u => (i, V.val u)) g.w := by
  obtain ⟨es, cl, h1, h2, h3, h4⟩ := hm
  refine ⟨es, cl, h1.1, h2, h3, h4, ?_⟩
  rw [hK.find g.w x es.toList (m.map (·.1)) (by rw [h2, List.map_map]; rfl), idx_get x m es.toList h3]

theorem run_getMap {es : Array MapEntry} {cl : Nat} (h : w.heap[b]? = some (.map es cl)) : (getObj b).run P w = .ok (.map es cl) w := by
  unfold getObj
  simp only [Sem.run, h]
/-- v, ok := m[k] -/
theorem w_lookupOk {x y : Operand} {T kt vt : TypeId} [hT : Und P T (.map kt vt)] [hK : KeyEq P kt K] {sz bts : Nat} {z : Value} [hi : Inf P vt sz bts z] {key : κ} (hm : MapIs g c b K V m) (hx : evalS s x = some (.map (some b))) (hy : evalS s y = some (K.val key)) (hdN : Nat.ble (d + 1) N = true)
    (hk : Wp P Z N (.ops all rest :: k) ((d, .tuple #[match mget key m with | some u => V.val u | none => z, .bool (mget key m).isSome]) :: s) g.w) :
    Wp P Z N (.ops all (⟨some d, .lookup T x y true, ty, pos, af, none⟩ :: rest) :: k) s g.w :=
  w_val (fun ac ha => by
    obtain ⟨es, cl, h1, h2, h3, hst, hf⟩ := run_find (P := P) (T := kt) hm key
    simp only [execOp, ha.eval hx, ha.eval hy, Instr.lookup]
    simp only [Sem.run_bind, run_underlying hT.eq, Result.andThen_ok, run_getMap h1, Sem.run_pure, hK.chk, hf]
    cases hg : mget key m with
    | none => rw [(idx_none key m).2 hg]; simp [zero_inf hi]
    | some u =>
      have hne : ¬ ((m.map (·.1)).findIdx? (fun y => decide (key = y))) = none := fun e => by rw [(idx_none key m).1 e] at hg; cases hg
      obtain ⟨i, hi'⟩ := Option.ne_none_iff_exists'.1 hne
      rw [hi']; simp) hdN hk
/-- What is found, or the type's zero. -/
def optV {ν : Type} (V : El ν) (z : Value) : Option ν → Value
  | some u => V.val u
  | none => z
/-- m[k] -/
theorem w_lookup {x y : Operand} {T kt vt : TypeId} [hT : Und P T (.map kt vt)] [hK : KeyEq P kt K] {sz bts : Nat} {z : Value} [hi : Inf P vt sz bts z] {key : κ} (hm : MapIs g c b K V m) (hx : evalS s x = some (.map (some b))) (hy : evalS s y = some (K.val key)) (hdN : Nat.ble (d + 1) N = true)
    (hk : Wp P Z N (.ops all rest :: k) ((d, optV V z (mget key m)) :: s) g.w) :
    Wp P Z N (.ops all (⟨some d, .lookup T x y false, ty, pos, af, none⟩ :: rest) :: k) s g.w :=
  w_val (fun ac ha => by
    obtain ⟨es, cl, h1, h2, h3, hst, hf⟩ := run_find (P := P) (T := kt) hm key
    simp only [execOp, ha.eval hx, ha.eval hy, Instr.lookup]
    simp only [Sem.run_bind, run_underlying hT.eq, Result.andThen_ok, run_getMap h1, Sem.run_pure, hK.chk, hf]
    cases hg : mget key m with
    | none => rw [(idx_none key m).2 hg]; simp [zero_inf hi, optV]
    | some u =>
      have hne : ¬ ((m.map (·.1)).findIdx? (fun y => decide (key = y))) = none := fun e => by rw [(idx_none key m).1 e] at hg; cases hg
      obtain ⟨i, hi'⟩ := Option.ne_none_iff_exists'.1 hne
      rw [hi']; simp [optV]) hdN hk

theorem mput_keys (x : κ) (u : ν) : ∀ (m : List (κ × ν)) , (mput x u m) = match (m.map (·.1)).findIdx? (fun y => decide (x = y)) with | some i => m.set i (x, u) | none => m ++ [(x, u)]
  | [] => rfl
  | p :: m => by
    have ih := mput_keys x u m
    simp only [List.map_cons, List.findIdx?_cons, mput]
    by_cases hx : x = p.1
    · simp [hx]
    · simp only [decide_eq_false hx, hx, if_false, Bool.false_eq_true, ih]
      cases List.findIdx? (fun y => decide (x = y)) (m.map (·.1)) <;> simp
theorem idx_key (x : κ) : ∀ (m : List (κ × ν)) (i : Nat), (m.map (·.1)).findIdx? (fun y => decide (x = y)) = some i → ∃ u, m[i]? = some (x, u)
  | [], i, h => by simp at h
  | p :: m, i, h => by
    simp only [List.map_cons, List.findIdx?_cons] at h
    by_cases hx : x = p.1
    · simp [hx] at h; subst h; exact ⟨p.2, by rw [hx]; rfl⟩
    · simp only [decide_eq_false hx, Bool.false_eq_true, if_false, Option.map_eq_some_iff] at h
      obtain ⟨j, hj, rfl⟩ := h
      obtain ⟨u, hu⟩ := idx_key x m j hj
      exact ⟨u, by simpa using hu⟩
/-- m[k] = v -/
theorem run_mapSet {T kt vt : TypeId} [hT : Und P T (.map kt vt)] [hK : KeyEq P kt K] {key : κ} {u : ν} (hm : MapIs g c b K V m) :
    ∃ h : G, (Instr.mapUpdate T (.map (some b)) (K.val key) (V.val u)).run P g.w = .ok () h.w ∧ Step [b] [] g h ∧ Step [] [c] g h ∧ MapIs h c b K V (mput key u m) := by
  obtain ⟨es, cl, h1, h2, h3, hst, hf⟩ := run_find (P := P) (T := kt) hm key
  have hcol : g.col b = c := by obtain ⟨_, _, h, _⟩ := hm; exact h.2
  have hblt : b < g.w.heap.size := hm.lt
  have key2 : ∀ (es' : Array MapEntry) (cl' : Nat), (Instr.mapUpdate T (.map (some b)) (K.val key) (V.val u)).run P g.w = .ok () { g.w with heap := g.w.heap.setIfInBounds b (.map es' cl') } →
      es'.toList.map (·.key) = (mput key u m).map (fun p => K.val p.1) → es'.toList.map (·.val) = (mput key u m).map (fun p => V.val p.2) → Stamps es' cl' →
      ∃ h : G, (Instr.mapUpdate T (.map (some b)) (K.val key) (V.val u)).run P g.w = .ok () h.w ∧ Step [b] [] g h ∧ Step [] [c] g h ∧ MapIs h c b K V (mput key u m) := by
    intro es' cl' hrun e1 e2 e3
    let h : G := ⟨{ g.w with heap := g.w.heap.setIfInBounds b (.map es' cl') }, g.col⟩
    have hs : Step [b] [] g h := ⟨rfl, rfl, rfl, Nat.le_refl _, by simp [h], fun z hz hb _ => ⟨by
      have : b ≠ z := fun e => hb (by simp [e])
      simp [h, Array.getElem?_setIfInBounds, this], rfl⟩⟩
    exact ⟨h, hrun, hs, hs.cols (fun z hz _ => by simp at hz; subst hz; simp [hcol]) (by simp), es', cl', ⟨by simp [h, Array.getElem?_setIfInBounds, hblt], hcol⟩, e1, e2, e3⟩
  have hsetrun : ∀ (o : Obj), (setObj b o).run P g.w = .ok () { g.w with heap := g.w.heap.setIfInBounds b o } := by
    intro o
    unfold setObj
    simp only [Sem.run, h1]
  cases hg : mget key m with
  | none =>
    have hidx := (idx_none key m).2 hg
    refine key2 (es.push { key := K.val key, val := V.val u, born := cl }) (cl + 1) ?_ ?_ ?_ (hst.push _ _)
    · simp only [Instr.mapUpdate, Sem.run_bind, run_underlying hT.eq, Result.andThen_ok, run_getMap h1, hK.chk, hf, hidx, Option.bind_none]
      exact hsetrun _
    · rw [mput_keys, hidx]; simp [h2]
    · rw [mput_keys, hidx]; simp [h3]
  | some u0 =>
    have hne : ¬ ((m.map (·.1)).findIdx? (fun y => decide (key = y))) = none := fun e => by rw [(idx_none key m).1 e] at hg; cases hg
    obtain ⟨i, hi⟩ := Option.ne_none_iff_exists'.1 hne
    obtain ⟨u1, hu1⟩ := idx_key key m i hi
    have hlen : es.size = m.length := by have := congrArg List.length h2; simpa using this
    have him : i < m.length := (List.getElem?_eq_some_iff.1 hu1).1
    have hold : ((es[i]?).map (·.key)).getD (K.val key) = K.val key := by
      have : (es.toList.map (·.key))[i]? = some (K.val key) := by rw [h2, List.getElem?_map, hu1]; rfl
      rw [List.getElem?_map] at this
      simp only [Array.getElem?_toList] at this
      rw [this]; rfl
    refine key2 (es.modify i fun e => { e with key := K.val key, val := V.val u }) cl ?_ ?_ ?_ (hst.modify _ _ _)
    · simp only [Instr.mapUpdate, Sem.run_bind, run_underlying hT.eq, Result.andThen_ok, run_getMap h1, hK.chk, hf, hi, hg, Option.bind_some, Option.map_some, hold, Instr.keyThatStays, hK.bits, if_true, Sem.run_pure]
      exact hsetrun _
    · rw [mput_keys, hi]
      apply List.ext_getElem?
      intro j
      simp only [List.getElem?_map, Array.getElem?_toList, Array.getElem?_modify, List.getElem?_set, him, if_true]
      have hj : ∀ j : Nat, (es[j]?).map (·.key) = (m[j]?).map (fun p => K.val p.1) := fun j => by
        have := congrArg (·[j]?) h2; simpa using this
      by_cases hij : i = j
      · subst hij
        have := hj i
        rw [hu1] at this
        simp only [Option.map_some, if_true] at this ⊢
        cases he : es[i]? with
        | none => rw [he] at this; cases this
        | some e => simp
      · simp only [hij, if_false]; exact hj j
    · rw [mput_keys, hi]
      apply List.ext_getElem?
      intro j
      simp only [List.getElem?_map, Array.getElem?_toList, Array.getElem?_modify, List.getElem?_set, him, if_true]
      have hj : ∀ j : Nat, (es[j]?).map (·.val) = (m[j]?).map (fun p => V.val p.2) := fun j => by
        have := congrArg (·[j]?) h3; simpa using this
      by_cases hij : i = j
      · subst hij
        have := hj i
        rw [hu1] at this
        simp only [Option.map_some, if_true] at this ⊢
        cases he : es[i]? with
        | none => rw [he] at this; cases this
        | some e => simp
      · simp only [hij, if_false]; exact hj j
theorem w_mapSet {x y q : Operand} {T kt vt : TypeId} [hT : Und P T (.map kt vt)] [hK : KeyEq P kt K] {key : κ} {u : ν} (hm : MapIs g c b K V m) (hx : evalS s x = some (.map (some b))) (hy : evalS s y = some (K.val key)) (hq : evalS s q = some (V.val u))
    (hk : ∀ h, Step [b] [] g h → Step [] [c] g h → MapIs h c b K V (mput key u m) → Wp P Z N (.ops all rest :: k) s h.w) :
    Wp P Z N (.ops all (⟨none, .mapUpdate T x y q, ty, pos, af, none⟩ :: rest) :: k) s g.w := by
  obtain ⟨h, hr, h1, h2, h3⟩ := run_mapSet (P := P) (T := T) (kt := kt) (vt := vt) (key := key) (u := u) hm
  exact w_drop (fun ac ha => by simp only [execOp, ha.eval hx, ha.eval hy, ha.eval hq]; rw [Sem.run_bind, hr]; rfl) (hk h h1 h2 h3)
/-- An entry of a map literal. -/
theorem w_insert {x y q : Operand} {T kt vt : TypeId} [hT : Und P T (.map kt vt)] [hK : KeyEq P kt K] {key : κ} {u : ν} (hm : MapIs g c b K V m) (hx : evalS s x = some (.map (some b))) (hy : evalS s y = some (K.val key)) (hq : evalS s q = some (V.val u))
    (hk : ∀ h, Step [b] [] g h → Step [] [c] g h → MapIs h c b K V (mput key u m) → Wp P Z N (.ops all rest :: k) s h.w) :
    Wp P Z N (.ops all (⟨none, .insert T x y q, ty, pos, af, none⟩ :: rest) :: k) s g.w := by
  obtain ⟨h, hr, h1, h2, h3⟩ := run_mapSet (P := P) (T := T) (kt := kt) (vt := vt) (key := key) (u := u) hm
  exact w_drop (fun ac ha => by simp only [execOp, ha.eval hx, ha.eval hy, ha.eval hq]; rw [Sem.run_bind, hr]; rfl) (hk h h1 h2 h3)
end

/-! ### functions without a body -/
class Ext (P : Program) (f : FuncId) (e : outParam (Array Value → Sem Value)) : Prop where eq : ∀ (args : Array Value) (w : World), (callFunc f args).run P w = ((e args).run P w).andThen fun v w' => .ok (.value v) w'
theorem w_ext {f : FuncId} {e : Array Value → Sem Value} [he : Ext P f e] {args : Array Operand} {ts : Array TypeId} {vs : List Value} {h : G} (hx : evalL s args.toList = some vs) (hrun : (e vs.toArray).run P g.w = .ok v h.w) (hdN : Nat.ble (d + 1) N = true)
    (hk : Wp P Z N (.ops all rest :: k) ((d, v) :: s) h.w) :
    Wp P Z N (.ops all (⟨some d, .call { callee := .value (.func f), args, argTypes := ts }, ty, pos, af, none⟩ :: rest) :: k) s g.w :=
  w_val (fun ac ha => by
    have e1 := ha.evalL hx
    have e2 : args.map ac.eval = vs.toArray := by rw [← e1]; simp [← Array.toList_map]
    simp [execOp, resolve, Act.eval, Deferred.ofValue, invoke, he.eq, e2, hrun]) hdN hk
end
end Go.Proofs.Ytnfokdhgajanpaa
