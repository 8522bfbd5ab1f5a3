/- The engine: entries taken out of maps, while the maps are ranged over. No statement of the seat is proved here. -/
import Derived.Test.YtfkdfnookacgiaaMap
set_option linter.unusedVariables false
set_option linter.unusedSimpArgs false
namespace Go.Proofs.Ytfkdfnookacgiaa
open Go

/-- A map's entries: key, value, stamp. -/
def entE {κ ν : Type} (K : El κ) (V : El ν) (x : κ × ν × Nat) : MapEntry := { key := K.val x.1, val := V.val x.2.1, born := x.2.2 }
def MapE {κ ν : Type} (g : G) (c b : Nat) (K : El κ) (V : El ν) (l : List (κ × ν × Nat)) (clock : Nat) : Prop :=
  MapAt g c b (l.map (entE K V)).toArray clock ∧ Stamps (l.map (entE K V)).toArray clock
theorem MapE.step {κ ν : Type} {K : El κ} {V : El ν} {c b clock : Nat} {l : List (κ × ν × Nat)} {g h : G} {B M : List Nat} (hm : MapE g c b K V l clock) (hs : Step B M g h) (hM : c ∉ M) (hB : b ∉ B) : MapE h c b K V l clock :=
  ⟨hm.1.step hs hM hB, hm.2⟩
theorem MapE.is {κ ν : Type} {K : El κ} {V : El ν} {c b clock : Nat} {l : List (κ × ν × Nat)} {g : G} (hm : MapE g c b K V l clock) : MapIs g c b K V (l.map fun x => (x.1, x.2.1)) :=
  ⟨_, clock, hm.1, by simp [List.map_map, Function.comp_def, entE], by simp [List.map_map, Function.comp_def, entE], hm.2⟩
theorem zip_ent {κ ν : Type} {K : El κ} {V : El ν} : ∀ (m : List (κ × ν)) (es : List MapEntry), es.map (·.key) = m.map (fun p => K.val p.1) → es.map (·.val) = m.map (fun p => V.val p.2) →
    ∃ l : List (κ × ν × Nat), es = l.map (entE K V) ∧ m = l.map fun x => (x.1, x.2.1)
  | [], [], _, _ => ⟨[], rfl, rfl⟩
  | [], e :: es, h, _ => by simp at h
  | p :: m, [], h, _ => by simp at h
  | p :: m, e :: es, h, h2 => by
    simp only [List.map_cons, List.cons.injEq] at h h2
    obtain ⟨l, h3, h4⟩ := zip_ent m es h.2 h2.2
    refine ⟨(p.1, p.2, e.born) :: l, ?_, by simp [← h4]⟩
    obtain ⟨k, v, b⟩ := e
    simp only at h h2
    simp [entE, ← h3, h.1, h2.1]
theorem MapIs.ent {κ ν : Type} {K : El κ} {V : El ν} {c b : Nat} {m : List (κ × ν)} {g : G} (hm : MapIs g c b K V m) : ∃ l clock, MapE g c b K V l clock ∧ m = l.map fun x => (x.1, x.2.1) := by
  obtain ⟨es, clock, h1, h2, h3, h4⟩ := hm
  obtain ⟨l, e1, e2⟩ := zip_ent m es.toList h2 h3
  refine ⟨l, clock, ?_, e2⟩
  have : (l.map (entE K V)).toArray = es := by rw [← e1]
  unfold MapE
  rw [this]
  exact ⟨h1, h4⟩
/-- Without the first entry of a key. -/
def edel {κ ν : Type} [DecidableEq κ] (k : κ) : List (κ × ν × Nat) → List (κ × ν × Nat)
  | [] => []
  | x :: l => if k = x.1 then l else x :: edel k l
theorem edel_idx {κ ν : Type} [DecidableEq κ] (k : κ) : ∀ (l : List (κ × ν × Nat)), edel k l = match (l.map (·.1)).findIdx? (fun y => decide (k = y)) with
    | some i => l.eraseIdx i
    | none => l
  | [] => rfl
  | x :: l => by
    have ih := edel_idx k l
    rw [edel, List.map_cons, List.findIdx?_cons]
    by_cases h : k = x.1
    · simp [h]
    · rw [if_neg h, ih]
      simp only [h, decide_false, Bool.false_eq_true, if_false]
      cases hf : List.findIdx? (fun y => decide (k = y)) (l.map (·.1)) <;> simp
theorem edel_filter {κ ν : Type} [DecidableEq κ] (k : κ) : ∀ (l : List (κ × ν × Nat)), (l.map (·.1)).Nodup → edel k l = l.filter fun x => decide (¬ k = x.1)
  | [], _ => rfl
  | x :: l, h => by
    simp only [List.map_cons, List.nodup_cons] at h
    have ih := edel_filter k l h.2
    rw [edel, List.filter_cons]
    by_cases hk : k = x.1
    · have : l.filter (fun y => decide (¬ k = y.1)) = l := by
        rw [List.filter_eq_self]
        intro y hy
        refine decide_eq_true fun e => h.1 ?_
        rw [← hk, e]
        exact List.mem_map_of_mem hy
      simp [hk]
      rw [hk] at this
      simpa using this.symm
    · simp [hk, ih]
theorem map_eraseIdx' {α β : Type} (f : α → β) : ∀ (l : List α) (i : Nat), (l.map f).eraseIdx i = (l.eraseIdx i).map f
  | [], _ => rfl
  | x :: l, 0 => rfl
  | x :: l, i + 1 => by simp [map_eraseIdx' f l i]
theorem Stamps.sub {es es' : List MapEntry} {clock : Nat} (h : Stamps es.toArray clock) (hs : es'.Sublist es) : Stamps es'.toArray clock := by
  refine ⟨fun e he => h.1 e ?_, ?_⟩
  · have := hs.subset (by simpa using he)
    simpa using this
  · have h2 := h.2
    simp only at h2 ⊢
    exact (hs.map (·.born)).nodup h2

section
variable {P : Program} {Z : Exit → Act → World → Prop} {N : Nat} {k : List It} {s : Env} {w : World} {g : G}
variable {all : Array Oper} {rest : List Oper} {op : Op} {ty : TypeId} {pos : String} {af : Array Edge} {d : Nat} {v : Value}
variable {κ ν : Type} [DecidableEq κ] {K : El κ} {V : El ν} {c b clock : Nat} {l : List (κ × ν × Nat)}
theorem run_delE {T kt vt : TypeId} {ts : Array TypeId} [hT : Und P T (.map kt vt)] [hK : KeyEq P kt K] (hm : MapE g c b K V l clock) (key : κ) (h0 : ts[0]? = some T) :
    ∃ h : G, (Builtin.delete_ ts ty #[.map (some b), K.val key]).run P g.w = .ok (.tuple #[]) h.w ∧ Step [b] [] g h ∧ Step [] [c] g h ∧ MapE h c b K V (edel key l) clock := by
  have hkeys : (l.map (entE K V)).map (·.key) = (l.map (·.1)).map K.val := by simp [List.map_map, Function.comp_def, entE]
  have hfind := hK.find g.w key (l.map (entE K V)) (l.map (·.1)) hkeys
  have hsub : (edel key l).Sublist l := by
    clear hfind hkeys hm
    induction l with
    | nil => exact List.Sublist.refl _
    | cons x l ih =>
      rw [edel]; split
      · exact List.sublist_cons_self _ _
      · exact ih.cons_cons _
  have hst' : Stamps ((edel key l).map (entE K V)).toArray clock := hm.2.sub (hsub.map _)
  have hcol : g.col b = c := hm.1.2
  have hblt : b < g.w.heap.size := hm.1.lt
  have h1 := hm.1.1
  let h : G := ⟨{ g.w with heap := g.w.heap.setIfInBounds b (.map ((edel key l).map (entE K V)).toArray clock) }, g.col⟩
  have hs : Step [b] [] g h := ⟨rfl, rfl, rfl, Nat.le_refl _, by simp [h], fun z hz hb _ => ⟨by
    have : b ≠ z := fun e => hb (by simp [e])
    simp [h, Array.getElem?_setIfInBounds, this], rfl⟩⟩
  refine ⟨h, ?_, hs, hs.cols (fun z hz _ => by simp at hz; subst hz; simp [hcol]) (by simp), ⟨by simp [h, Array.getElem?_setIfInBounds, hblt], hcol⟩, hst'⟩
  have hsetrun : ∀ (o : Obj), (setObj b o).run P g.w = .ok () { g.w with heap := g.w.heap.setIfInBounds b o } := by
    intro o
    unfold setObj
    simp only [Sem.run, h1]
  have h2 : (#[Value.map (some b), K.val key] : Array Value)[0]? = some (.map (some b)) := rfl
  have h3 : (#[Value.map (some b), K.val key] : Array Value)[1]? = some (K.val key) := rfl
  simp only [Builtin.delete_, h0, h2, h3, Sem.run_bind, run_underlying hT.eq, Result.andThen_ok, run_getMap h1, hK.chk, hfind]
  have hd := edel_idx key l
  cases hi : (l.map (·.1)).findIdx? (fun y => decide (key = y)) with
  | none =>
    rw [hi] at hd
    simp only [Option.bind_none, Sem.run_bind, hsetrun, Result.andThen_ok, Sem.run_pure]
    simp only [h, hd]
  | some i =>
    rw [hi] at hd
    have hlt : i < l.length := by
      have := (List.findIdx?_eq_some_iff_getElem.1 hi).1
      simpa using this
    have he : (l.map (entE K V))[i]? = some (entE K V l[i]) := by simp [hlt]
    simp only [Option.bind_some, he, Option.map_some, Sem.run_bind, hsetrun, Result.andThen_ok, Sem.run_pure]
    have ee : (l.map (entE K V)).toArray.eraseIdxIfInBounds i = ((l.eraseIdx i).map (entE K V)).toArray := by
      apply Array.ext'
      simp [Array.eraseIdxIfInBounds, hlt, map_eraseIdx']
    simp only [h, hd, ee]
theorem w_valN {w' : World} (h : ∀ a, Fits N s a → (execOp a.eval ⟨none, op, ty, pos, af, none⟩).run P w = .ok (.value v) w')
    (hk : Wp P Z N (.ops all rest :: k) s w') : Wp P Z N (.ops all (⟨none, op, ty, pos, af, none⟩ :: rest) :: k) s w := fun a ha => by
  have hh := hk a ha
  simp only [sem] at hh ⊢
  unfold wpList
  rw [if_pos (by simp [Region.wanted])]
  refine .inl ?_
  simp only [Oper.wp, h a ha, Oper.upon, Act.put]
  exact hh
theorem w_delE {x y : Operand} {T kt vt : TypeId} {ts : Array TypeId} [hT : Und P T (.map kt vt)] [hK : KeyEq P kt K] (hm : MapE g c b K V l clock) {key : κ} (hx : evalS s x = some (.map (some b))) (hy : evalS s y = some (K.val key)) (h0 : ts[0]? = some T)
    (hk : ∀ h, Step [b] [] g h → Step [] [c] g h → MapE h c b K V (edel key l) clock → Wp P Z N (.ops all rest :: k) s h.w) :
    Wp P Z N (.ops all (⟨none, .call { callee := .builtin .delete, args := #[x, y], argTypes := ts }, ty, pos, af, none⟩ :: rest) :: k) s g.w := by
  obtain ⟨h, hr, h1, h2, h3⟩ := run_delE (P := P) (ty := ty) (ts := ts) (T := T) (kt := kt) (vt := vt) hm key h0
  exact w_valN (v := .tuple #[]) (fun ac ha => by
    simp only [execOp, resolve, invoke, builtin, List.map_toArray, List.map_cons, List.map_nil, ha.eval hx, ha.eval hy]
    simp [hr]) (hk h h1 h2 h3)
end

/-- Two results that lie in cells, and one that doesn't. -/
theorem resCC1s {P : Program} {N : Nat} {s : Env} {g : G} {fn : Func} {t t2 u : Tmp} {T T' T2 T2' : TypeId} {dd dd2 : TypeDesc} {sz bts sz2 bts2 : Nat} {z z2 x : Value} [hd : Und P T dd] [hi : Inf P T sz bts z] [hd2 : Und P T2 dd2] [hi2 : Inf P T2 sz2 bts2 z2] {c b c2 b2 : Nat} {us us2 : List Value} (hc : Cell g c b T' us) (hc2 : Cell g c2 b2 T2' us2)
    (h : fn.results = #[.cell t T, .cell t2 T2, .tmp u]) (hl : look s t = some (.pointer (some ⟨b, 0, none⟩))) (hl2 : look s t2 = some (.pointer (some ⟨b2, 0, none⟩))) (hsz : us.length = sz) (hsz2 : us2.length = sz2) (h1 : dd.agg = true) (h2 : dd2.agg = true) (hx : look s u = some x) :
    ∀ a, Fits N s a → (results fn a.tmps).run P g.w = .ok (.tuple #[.agg us.toArray, .agg us2.toArray, x]) g.w := fun a ha => by
  have e1 := run_loadVar (w := g.w) hd.eq hi ⟨b, 0, none⟩ us hsz (fun e => by rw [h1] at e; cases e) (hc.cells 0 us.length us (by simp))
  have e2 := run_loadVar (w := g.w) hd2.eq hi2 ⟨b2, 0, none⟩ us2 hsz2 (fun e => by rw [h2] at e; cases e) (hc2.cells 0 us2.length us2 (by simp))
  rw [h1] at e1
  rw [h2] at e2
  simp only [if_true] at e1 e2
  simp [results, h, Array.getD_eq_getD_getElem?, ha.get _ _ hl, ha.get _ _ hl2, ha.get _ _ hx, asAddr, e1, e2]
end Go.Proofs.Ytfkdfnookacgiaa
