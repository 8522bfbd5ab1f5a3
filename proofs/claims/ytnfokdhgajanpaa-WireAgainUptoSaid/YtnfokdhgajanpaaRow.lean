/- From a statement's arguments to what the contracts speak of, and back. No statement of the seat is proved here. -/
import Derived.Test.YtnfokdhgajanpaaRows
import Derived.Test.YtnfokdhgajanpaaEng4
import Derived.ProofKit
import Derived.OpenShut
import Derived.ChangeOld
import Derived.SizedLaws
import Derived.JoinedCond
import Derived.Carry
set_option linter.unusedVariables false
namespace Go.Proofs.Ytnfokdhgajanpaa
open Go Go.ChangeShapes Go.WideShapes Go.RowKit

/-- What reads as data is of the kind E, and R holds of it, of the world and of the datum's bulk. -/
def Opens (P : Program) (t : TypeId) {α : Type} (E : El α) (R : World → α → Nat → Prop) : Prop :=
  P.cellsOf t = E.sz ∧ ∀ (H : Type) (enc : TypeId × Value → H) (w : World) (spare : Nat → Bool) (held : Bool) (fuel : Nat) (cs : List Value) (x : DataW H × List MemPlace),
    DataW.trod enc P w 0 spare held fuel t cs = some x → ∃ y, cs = E.enc y ∧ R w y (Rows.uptoBulk x.1)

def El.ik (k : IntKind) : El Int := ⟨1, false, fun n => [.int k n], fun _ => rfl, fun _ => rfl, by decide, by intro x u hu; simp at hu; subst hu; rfl⟩
def El.bool : El Bool := ⟨1, false, fun b => [.bool b], fun _ => rfl, fun _ => rfl, by decide, by intro x u hu; simp at hu; subst hu; rfl⟩
/-- Any value of one cell. -/
def El.any : El {v : Value // v.oneCell' = true} := ⟨1, false, fun v => [v.1], fun _ => rfl, fun _ => rfl, by decide, by intro x u hu; simp at hu; subst hu; exact x.2⟩
def El.pair {α β : Type} (A : El α) (B : El β) : El (α × β) := ⟨A.sz + B.sz, true, fun x => A.enc x.1 ++ B.enc x.2, fun x => by rw [List.length_append, A.len, B.len], fun h => (by cases h), by have := A.pos; omega, by
  intro x u hu
  rcases List.mem_append.1 hu with h | h
  · exact A.flat _ _ h
  · exact B.flat _ _ h⟩
/-- A struct of one field. -/
def El.solo {α : Type} (A : El α) : El α := ⟨A.sz, true, A.enc, A.len, fun h => (by cases h), A.pos, A.flat⟩
def El.arr {α : Type} (A : El α) (n : Nat) (hn : 0 < n) : El {l : List α // l.length = n} := ⟨n * A.sz, true, fun l => l.1.flatMap A.enc, fun l => by rw [flat_length, l.2], fun h => (by cases h), Nat.mul_pos hn A.pos, by
  intro x u hu
  obtain ⟨y, _, hy⟩ := List.mem_flatMap.1 hu
  exact A.flat _ _ hy⟩

section
variable {P : Program} {t : TypeId}
theorem opens_int {k : IntKind} [ht : Und P t (.int k)] (hc : P.cellsOf t = 1) : Opens P t (El.ik k) (fun _ n _ => (Lit.int k n).wf = true) :=
  ⟨hc, fun H enc w spare held fuel cs x h => by
    obtain ⟨n, rfl, rfl, hw⟩ := DataW.trod_int ht.eq h
    exact ⟨n, rfl, hw⟩⟩
theorem opens_i64 [ht : Und P t (.int .i64)] (hc : P.cellsOf t = 1) : Opens P t El.int (fun _ n _ => -9223372036854775808 ≤ n ∧ n ≤ 9223372036854775807) :=
  ⟨hc, fun H enc w spare held fuel cs x h => by
    obtain ⟨n, rfl, rfl, hw⟩ := DataW.trod_int ht.eq h
    refine ⟨n, rfl, ?_⟩
    simp [Lit.wf, IntKind.min, IntKind.max, IntKind.signed, IntKind.bits] at hw
    omega⟩
theorem opens_u8 [ht : Und P t (.int .u8)] (hc : P.cellsOf t = 1) : Opens P t El.u8 (fun _ _ _ => True) :=
  ⟨hc, fun H enc w spare held fuel cs x h => by
    obtain ⟨n, rfl, rfl, hw⟩ := DataW.trod_int ht.eq h
    simp [Lit.wf, IntKind.min, IntKind.max, IntKind.signed, IntKind.bits] at hw
    refine ⟨UInt8.ofNat n.toNat, ?_, trivial⟩
    show [Value.int .u8 n] = [bv _]
    unfold bv
    rw [UInt8.toNat_ofNat', show ((n.toNat % 2 ^ 8 : Nat) : Int) = n by simp only [Nat.reducePow]; omega]⟩
theorem opens_bool [ht : Und P t .bool] (hc : P.cellsOf t = 1) : Opens P t El.bool (fun _ _ _ => True) :=
  ⟨hc, fun H enc w spare held fuel cs x h => by
    obtain ⟨b, rfl, rfl⟩ := DataW.trod_bool ht.eq h
    exact ⟨b, rfl, trivial⟩⟩
theorem opens_str [ht : Und P t .string] (hc : P.cellsOf t = 1) : Opens P t El.str (fun _ s n => s.length + 1 ≤ n ∧ s.length ≤ maxLen) :=
  ⟨hc, fun H enc w spare held fuel cs x h => by
    obtain ⟨s, rfl, rfl, hw⟩ := DataW.trod_string ht.eq h
    refine ⟨s.data.toList, ?_, ?_, ?_⟩
    · show [Value.string s] = [Value.string ⟨s.data.toList.toArray⟩]
      rfl
    · simp [Rows.uptoBulk]
    · have e : s.data.toList.length = s.size := Array.length_toList
      rw [e]; exact hw⟩

theorem bulk_one {H : Type} (d : DataW H) : 1 ≤ Rows.uptoBulk d := by
  cases d with
  | lit l => cases l <;> simp [Rows.uptoBulk]
  | _ => simp [Rows.uptoBulk]
theorem bulk_part {H : Type} {d : DataW H} {l : List (DataW H)} (h : d ∈ l) : Rows.uptoBulk d ≤ Rows.uptoBulkAll l := by
  induction l with
  | nil => cases h
  | cons x r ih =>
    simp only [Rows.uptoBulkAll]
    rcases List.mem_cons.1 h with e | e
    · subst e; omega
    · have := ih e; omega
theorem bulk_len {H : Type} (l : List (DataW H)) : l.length ≤ Rows.uptoBulkAll l := by
  induction l with
  | nil => simp [Rows.uptoBulkAll]
  | cons x r ih => have := bulk_one x; simp only [Rows.uptoBulkAll, List.length_cons]; omega

/-- What is read of a slice: its elements, each of its kind. -/
def ReadsAs {α : Type} (E : El α) (R : World → α → Nat → Prop) (w : World) (v : {v : Value // v.oneCell' = true}) (n : Nat) : Prop :=
  ∃ l : List α, Rd ⟨w, fun _ => 0⟩ 0 E v.1 l ∧ l.length + 1 ≤ n ∧ ∀ y ∈ l, ∃ m, m + 1 ≤ n ∧ R w y m
theorem cells_at {w : World} {a : Addr} {n : Nat} {cs : List Value} (h : w.cells? 0 a n = some cs) : cs.length = n ∧ ∀ j, j < n → w.cell? (a.add j) = cs[j]? := (World.cells?_some h).2
theorem opens_slice {e : TypeId} [ht : Und P t (.slice e)] {α : Type} {E : El α} {R : World → α → Nat → Prop} (he : Opens P e E R) (hc : P.cellsOf t = 1) : Opens P t El.any (ReadsAs E R) :=
  ⟨hc, fun H enc w spare held fuel cs x h => by
    rcases DataW.trod_slice ht.eq h with ⟨rfl, rfl⟩ | ⟨a, len, cap, elems, rest, n, _, rfl, rfl, hb, hl, hm, hlen, hel, _, _⟩
    · exact ⟨⟨.slice none 0 0, rfl⟩, rfl, [], Rd.nil _ _ _ none 0 (by decide), by simp [Rows.uptoBulk], by simp⟩
    · have each : ∀ i (hi : i < len), ∃ y, (∀ j, j < E.sz → w.cell? (a.add (i * E.sz + j)) = (E.enc y)[j]?) ∧ ∃ z, elems[i]? = some z ∧ R w y (Rows.uptoBulk z.1) := by
        intro i hi
        have h1 := hel i hi
        obtain ⟨z, hz⟩ : ∃ z, elems[i]? = some z := ⟨_, List.getElem?_eq_getElem (by omega)⟩
        rw [hz, Option.bind_eq_some_iff] at h1
        obtain ⟨cs', hcs, hy⟩ := h1
        obtain ⟨y, rfl, hR⟩ := he.2 _ _ _ _ _ _ _ _ hy
        refine ⟨y, fun j hj => ?_, z, hz, hR⟩
        obtain ⟨_, h2⟩ := cells_at hcs
        have := h2 j (by rw [he.1]; exact hj)
        rw [addr_add_add, he.1] at this
        exact this
      have hF := fun i : Fin len => each i.1 i.2
      let F : Fin len → α := fun i => Classical.choose (hF i)
      refine ⟨⟨.slice (some a) len cap, rfl⟩, rfl, List.ofFn F, ⟨some a, cap, by simp, by simpa using hl, hm, ?_⟩, ?_, ?_⟩
      · by_cases h0 : len = 0
        · left; subst h0; simp
        · right
          refine ⟨a, rfl, ?_, rfl, fun i hi j hj => ?_⟩
          · obtain ⟨z, hz⟩ : ∃ z, elems[0]? = some z := ⟨_, List.getElem?_eq_getElem (by omega)⟩
            have h1 := hel 0 (by omega)
            rw [hz, Option.bind_eq_some_iff] at h1
            obtain ⟨cs', hcs, _⟩ := h1
            have := World.cells?_block hcs (by rw [he.1]; exact E.pos)
            rwa [addr_add_block] at this
          · rw [List.length_ofFn] at hi
            rw [List.getElem_ofFn]
            exact (Classical.choose_spec (hF ⟨i, hi⟩)).1 j hj
      · have := bulk_len (elems.map (·.1))
        simp only [Rows.uptoBulk, List.length_ofFn]
        rw [List.length_map] at this
        omega
      · intro y hy
        obtain ⟨i, hi⟩ := (List.mem_ofFn).1 hy
        obtain ⟨z, hz, hR⟩ := (Classical.choose_spec (hF i)).2
        refine ⟨Rows.uptoBulk z.1, ?_, by rw [← hi]; exact hR⟩
        have hz2 : z.1 ∈ elems.map (·.1) := List.mem_map.2 ⟨z, List.mem_of_getElem? hz, rfl⟩
        have := bulk_part hz2
        simp only [Rows.uptoBulk]
        omega⟩

/-- The fields of a struct from one on. -/
def OpensF (P : Program) (fs : List Field) (off : Nat) {α : Type} (E : El α) (R : World → α → Nat → Prop) : Prop :=
  ∀ (H : Type) (enc : TypeId × Value → H) (w : World) (spare : Nat → Bool) (held : Bool) (n : Nat) (cs : List Value) (xs : List (DataW H × List MemPlace)), off + E.sz = cs.length →
    (xs.length = fs.length ∧ ∀ (i : Nat) (f : Field), fs[i]? = some f → DataW.trod enc P w 0 spare held n f.type ((cs.drop f.offset).take (P.cellsOf f.type)) = xs[i]?) → ∃ y, cs.drop off = E.enc y ∧ R w y (Rows.uptoBulkAll (xs.map (·.1)))
theorem opensF_one {f : Field} {off : Nat} {α : Type} {E : El α} {R : World → α → Nat → Prop} (ho : f.offset = off) (h : Opens P f.type E R) : OpensF P [f] off E (fun w y n => ∃ m, m ≤ n ∧ R w y m) :=
  fun H enc w spare held n cs xs hl ⟨hx, hat⟩ => by
    match xs, hx with
    | [z], _ =>
      have h1 := hat 0 f rfl
      simp only [List.getElem?_cons_zero] at h1
      obtain ⟨y, hy, hR⟩ := h.2 _ _ _ _ _ _ _ _ h1
      refine ⟨y, ?_, Rows.uptoBulk z.1, by simp [Rows.uptoBulkAll], hR⟩
      rw [ho, h.1, List.take_of_length_le (by rw [List.length_drop]; omega)] at hy
      exact hy
theorem opensF_cons {f : Field} {fs : List Field} {off off' : Nat} {α β : Type} {E : El α} {E' : El β} {R : World → α → Nat → Prop} {R' : World → β → Nat → Prop} (ho : f.offset = off) (h : Opens P f.type E R) (ho' : off + E.sz = off') (h' : OpensF P fs off' E' R') :
    OpensF P (f :: fs) off (E.pair E') (fun w y n => (∃ m, m ≤ n ∧ R w y.1 m) ∧ ∃ m, m ≤ n ∧ R' w y.2 m) :=
  fun H enc w spare held n cs xs hl ⟨hx, hat⟩ => by
    match xs, hx with
    | z :: zs, hx =>
      have h1 := hat 0 f rfl
      simp only [List.getElem?_cons_zero] at h1
      obtain ⟨y, hy, hR⟩ := h.2 _ _ _ _ _ _ _ _ h1
      have hl' : off + (E.sz + E'.sz) = cs.length := hl
      obtain ⟨y', hy', hR'⟩ := h' H enc w spare held n cs zs (by omega) ⟨by simpa using hx, fun i g hg => by have := hat (i + 1) g (by simpa using hg); simpa using this⟩
      refine ⟨(y, y'), ?_, ⟨Rows.uptoBulk z.1, by simp [Rows.uptoBulkAll], hR⟩, Rows.uptoBulkAll (zs.map (·.1)), by simp [Rows.uptoBulkAll], hR'⟩
      show _ = E.enc y ++ E'.enc y'
      rw [← hy, ← hy', ho, h.1, ← ho', ← List.drop_drop, List.take_append_drop]
theorem opens_struct {fs : List Field} [ht : Und P t (.struct fs.toArray)] {α : Type} {E : El α} {R : World → α → Nat → Prop} (h : OpensF P fs 0 E R) (hc : P.cellsOf t = E.sz) : Opens P t E (fun w y n => ∃ m, m + 1 = n ∧ R w y m) :=
  ⟨hc, fun H enc w spare held fuel cs x hx => by
    obtain ⟨xs, n, _, rfl, hl, hxs, hat⟩ := DataW.trod_struct ht.eq hx
    obtain ⟨y, hy, hR⟩ := h H enc w spare held n cs xs (by omega) ⟨by simpa using hxs, fun i f hf => hat i f (by simpa using hf)⟩
    exact ⟨y, by simpa using hy, Rows.uptoBulkAll (xs.map (·.1)), by simp [Rows.uptoBulk], hR⟩⟩
/-- The same cells, seen as another kind's. -/
theorem Opens.as {α β : Type} {E : El α} {E' : El β} {R : World → α → Nat → Prop} {R' : World → β → Nat → Prop} (h : Opens P t E R) (f : α → β) (hsz : E'.sz = E.sz) (he : ∀ w y n, R w y n → E'.enc (f y) = E.enc y) (hR : ∀ w y n, R w y n → R' w (f y) n) : Opens P t E' R' :=
  ⟨by rw [hsz]; exact h.1, fun H enc w spare held fuel cs x hx => by
    obtain ⟨y, rfl, hy⟩ := h.2 _ _ _ _ _ _ _ _ hx
    exact ⟨f y, (he _ _ _ hy).symm, hR _ _ _ hy⟩⟩
theorem opens_array {n : Nat} {e : TypeId} [ht : Und P t (.array n e)] {α : Type} {E : El α} {R : World → α → Nat → Prop} (he : Opens P e E R) (hn : 0 < n) (hc : P.cellsOf t = n * E.sz) : Opens P t (E.arr n hn) (fun w y k => ∀ z ∈ y.1, ∃ m, m + 1 ≤ k ∧ R w z m) :=
  ⟨hc, fun H enc w spare held fuel cs x hx => by
    obtain ⟨xs, m, _, rfl, hl, hxs, hat⟩ := DataW.trod_array ht.eq hx
    have each : ∀ i (hi : i < n), ∃ y, (cs.drop (i * E.sz)).take E.sz = E.enc y ∧ ∃ z, xs[i]? = some z ∧ R w y (Rows.uptoBulk z.1) := by
      intro i hi
      obtain ⟨z, hz⟩ : ∃ z, xs[i]? = some z := ⟨_, List.getElem?_eq_getElem (by omega)⟩
      have h1 := hat i hi
      rw [hz, he.1] at h1
      obtain ⟨y, hy, hR⟩ := he.2 _ _ _ _ _ _ _ _ h1
      exact ⟨y, hy, z, hz, hR⟩
    have hF := fun i : Fin n => each i.1 i.2
    let F : Fin n → α := fun i => Classical.choose (hF i)
    refine ⟨⟨List.ofFn F, by simp⟩, ?_, fun y hy => ?_⟩
    · rw [hc] at hl
      have key : ∀ k, k ≤ n → cs.take (k * E.sz) = ((List.ofFn F).take k).flatMap E.enc := by
        intro k
        induction k with
        | zero => intro _; simp
        | succ k ih =>
          intro hk
          have hkl : k < (List.ofFn F).length := by rw [List.length_ofFn]; omega
          rw [List.take_succ_eq_append_getElem hkl, List.flatMap_append, ← ih (by omega), Nat.add_mul, Nat.one_mul, List.take_add]
          congr 1
          rw [List.getElem_ofFn]
          simp only [List.flatMap_cons, List.flatMap_nil, List.append_nil]
          exact (Classical.choose_spec (hF ⟨k, by omega⟩)).1
      have := key n (Nat.le_refl _)
      rw [List.take_of_length_le (by omega), List.take_of_length_le (by rw [List.length_ofFn]; omega)] at this
      exact this
    · obtain ⟨i, hi⟩ := (List.mem_ofFn).1 hy
      obtain ⟨z, hz, hR⟩ := (Classical.choose_spec (hF i)).2
      refine ⟨Rows.uptoBulk z.1, ?_, by rw [← hi]; exact hR⟩
      have hz2 : z.1 ∈ xs.map (·.1) := List.mem_map.2 ⟨z, List.mem_of_getElem? hz, rfl⟩
      have := bulk_part hz2
      simp only [Rows.uptoBulk]
      omega⟩
end

/-! ### the row's frame -/
theorem val_of {P : Program} {W : World} {base : Nat} {t : TypeId} {d : TypeDesc} {v : Value} {α : Type} {E : El α} {y : α} (hu : P.underlying t = some d) (hd : d.agg = E.agg) (hok : Value.okWide P W .any base t v) (hc : v.cells.toList = E.enc y) : v = E.val y := by
  unfold Value.okWide at hok
  unfold El.val
  cases hE : E.agg with
  | true =>
    rw [hE] at hd
    rw [hu] at hok
    cases d <;> simp only [TypeDesc.agg] at hd <;> first | cases hd | skip
    all_goals
      obtain ⟨cs, rfl, _, _⟩ := hok
      have : cs.toList = E.enc y := hc
      simp [← this]
  | false =>
    rw [hE] at hd
    have h1 := E.one hE
    have h2 := E.len y
    rw [h1] at h2
    obtain ⟨u, hu1⟩ := List.length_eq_one_iff.1 h2
    rw [hu1] at hc
    have hna : ∀ cs, v ≠ .agg cs := by
      intro cs e
      subst e
      rw [hu] at hok
      cases d <;> simp only [TypeDesc.agg] at hd <;> first | (cases hd; done) | skip
      all_goals simp [Cell.okWide, Cell.ok, hu] at hok
    simp only [hu1, List.headD_cons, Bool.false_eq_true, if_false]
    cases v <;> simp [Value.cells] at hc <;> first | exact hc | exact absurd rfl (hna _) | skip
theorem arg_of {P : Program} {W : World} {base : Nat} {t : TypeId} {d : TypeDesc} {v : Value} {α : Type} {E : El α} {R : World → α → Nat → Prop} {H : Type} {enc : TypeId × Value → H} {spare : Nat → Bool} {held : Bool} {x : DataW H} {ps : List MemPlace}
    [hu : Und P t d] (ho : Opens P t E R) (hd : d.agg = E.agg) (hok : Value.okWide P W .any base t v) (h : DataW.Trod enc P W 0 spare held t v x ps) : ∃ y, v = E.val y ∧ R W y (Rows.uptoBulk x) := by
  obtain ⟨fuel, hf⟩ := h
  obtain ⟨y, hy, hR⟩ := ho.2 _ _ _ _ _ _ _ _ hf
  exact ⟨y, val_of hu.eq hd hok hy, hR⟩

theorem trodAll_stay {H : Type} {enc : TypeId × Value → H} {P : Program} {W W' : World} (hl : laidOutB P = true) (hb : Below W.heap.size W W') : ∀ {ts : List TypeId} {vs : List Value} {ds : List (DataW H)} {ps : List MemPlace},
    (∀ t ∈ ts, P.readableRec t = true ∧ t < P.types.size) → DataW.TrodAll enc P W 0 (fun _ => true) true ts vs ds ps → (∀ x ∈ ps, x.block < W.heap.size) → DataW.TrodAll enc P W' 0 (fun b => decide (b < W.heap.size)) true ts vs ds ps
  | [], [], [], ps, _, h, _ => h
  | t :: ts, v :: vs, d :: ds, ps, hr, h, hlt => by
    obtain ⟨p, q, h1, h2, rfl⟩ := h
    exact ⟨p, q, Below.trod hl (hr t (by simp)).1 (hr t (by simp)).2 h1 hb (fun x hx => hlt x (by simp [hx])), trodAll_stay hl hb (fun t ht => hr t (by simp [ht])) h2 (fun x hx => hlt x (by simp [hx])), rfl⟩
  | [], [], _ :: _, _, _, h, _ => by simp [DataW.TrodAll] at h
  | [], _ :: _, _, _, _, h, _ => by simp [DataW.TrodAll] at h
  | _ :: _, [], _, _, _, h, _ => by simp [DataW.TrodAll] at h
  | _ :: _, _ :: _, [], _, _, h, _ => by simp [DataW.TrodAll] at h

theorem Step.below {g h : G} (hs : Step [] [] g h) : Below g.w.heap.size g.w h.w := ⟨hs.os, hs.tape, hs.output, hs.size, fun k hk => (hs.keep k hk (by simp) (by simp)).1⟩

/-- What a row's contract asks, out of the law's contract over a world whose blocks are all read only. -/
theorem row_calls {P : Program} {H : Type} {enc : TypeId × Value → H} {f : FuncId} {fn : Func} {s : ChangeSpec} {W : World} {args : Array Value} {ds gs : List (DataW H)} {before : List MemPlace} {t : TypeId}
    (hlaid : laidOutB P = true) (hvars : s.vars = []) (hr : fn.resultTypes = #[t]) (ht : P.underlying t = some .bool) (hread : ∀ u ∈ fn.params.toList, P.readableRec u = true ∧ u < P.types.size)
    (hfn : s.fn H (ds ++ gs) = { results := [.lit (.bool true)], args := ds }) (hW : DataW.Whole enc P fn.params.toList s.vars false W args.toList ds gs before)
    (hlaw : Fn P f args.toList ⟨W, fun _ => 0⟩ [] fun u _ => u = .bool true) :
    Calls P f args W fun e W' => ∃ v, e = .returned v ∧ s.post enc P fn false true false false W args v W' := by
  have hW' := hW
  have hlt := hW.lt
  obtain ⟨p, q, hA, hV, rfl, hfz, hnd⟩ := hW
  rw [hvars] at hV
  obtain ⟨rfl, rfl⟩ := trodVars_none hV
  have hlaw' : Calls P f args W (Ret fun v w' => ∃ col', Step [] [] ⟨W, fun _ => 0⟩ ⟨w', col'⟩ ∧ v = .bool true) := hlaw
  refine hlaw'.mono fun e W' ⟨v, he, col', hs, hv⟩ => ⟨v, he, ?_⟩
  subst hv
  have bel : Below W.heap.size W W' := hs.below
  refine ⟨ds, [], p ++ [], [], p, [], hW', ?_, ?_, ?_, bel.frame _, fun h => by cases h⟩
  · rw [hr, hfn]
    exact trodAll_mk1 (shut_bool ht _)
  · rw [hfn]
    exact trodAll_stay hlaid bel hread hA (fun x hx => hlt x (by simp [hx]))
  · rw [hvars, hfn]; rfl
end Go.Proofs.Ytnfokdhgajanpaa
