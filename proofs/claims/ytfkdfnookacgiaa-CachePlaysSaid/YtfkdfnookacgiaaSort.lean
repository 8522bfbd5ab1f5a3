/- The engine: slices.SortFunc at structs, out of the library's contract. No statement of the seat is proved here. -/
import Derived.Test.YtfkdfnookacgiaaSeq
import Derived.Shelf.SlSortCmp.NoneTotal
set_option linter.unusedVariables false
set_option linter.unusedSimpArgs false
namespace Go.Proofs.Ytfkdfnookacgiaa
open Go Go.Sort

theorem step_grow {g h : G} (hs : Step [] [] g h) : ∃ q os, h.w = grow (g.w.drewN q) os := by
  refine ⟨h.w.drawn - g.w.drawn, h.w.heap.extract g.w.heap.size h.w.heap.size, ?_⟩
  obtain ⟨⟨heap, tape, drawn, os, output⟩, col⟩ := h
  obtain ⟨⟨heap0, tape0, drawn0, os0, output0⟩, col0⟩ := g
  obtain ⟨e1, e2, e3, e4, e5, e6⟩ := hs
  simp only at e1 e2 e3 e4 e5 e6
  subst e1; subst e2; subst e3
  unfold grow World.drewN
  simp only [World.mk.injEq, and_true, true_and]
  refine ⟨?_, by omega⟩
  apply Array.ext
  · simp; omega
  · intro i h1 h2
    by_cases hi : i < heap0.size
    · have := (e6 i hi (by simp) (by simp)).1
      rw [Array.getElem_append_left hi]
      rw [Array.getElem?_eq_getElem h1, Array.getElem?_eq_getElem hi] at this
      injection this
    · rw [Array.getElem_append_right (by omega), Array.getElem_extract]
      congr 1
      omega

theorem flatK_list {α : Type} [Inhabited α] (E : El α) (l : List α) : (flatK E.enc E.sz l.toArray).toList = l.flatMap E.enc := by
  apply List.ext_getElem?
  intro t
  by_cases ht : t < l.length * E.sz
  · have hdm : t = (t / E.sz) * E.sz + t % E.sz := by rw [Nat.mul_comm]; exact (Nat.div_add_mod t E.sz).symm
    have hdi : t / E.sz < l.length := (Nat.div_lt_iff_lt_mul E.pos).2 ht
    have hmod : t % E.sz < E.sz := Nat.mod_lt _ E.pos
    have e1 := enc_flat E l (t / E.sz) hdi (t % E.sz) hmod
    rw [← hdm] at e1
    rw [e1]
    have hsz : t < (flatK E.enc E.sz l.toArray).size := by simpa using ht
    rw [Array.getElem?_toList, Array.getElem?_eq_getElem hsz]
    have h2 := get_flatK E.enc E.sz l.toArray t (by simpa using ht)
    rw [getElem!_pos _ t hsz] at h2
    rw [h2]
    have h3 : l.toArray[t / E.sz]! = l[t / E.sz] := by
      rw [getElem!_pos _ _ (by simpa using hdi)]; simp
    rw [h3]
    have h4 : t % E.sz < (E.enc l[t / E.sz]).length := by rw [E.len]; exact hmod
    rw [List.getElem?_eq_getElem h4, getElem!_pos (E.enc l[t / E.sz]) (t % E.sz) h4]
  · rw [List.getElem?_eq_none (by simpa using ht), List.getElem?_eq_none (by rw [flat_length]; omega)]

theorem sortFunc_fn {P : Program} {ρ : Go.Shelf.Ren} (L : Go.Proofs.SlLaysF0.n6 P ρ) {α : Type} [Inhabited α] {E : El α} {e : TypeId} {dd : TypeDesc} {bts : Nat} {z : Value} (hdd : P.underlying (ρ.t 24) = some dd) (hagg : dd.agg = true) (hi : Inf P (ρ.t 24) E.sz bts z) (hE : E.agg = true)
    (cf : α → α → Int) (hO : SWO (ltOf cf)) (hT : ∀ x y, (ltOf cf) x y = false → (ltOf cf) y x = false → x = y) (f : FuncId) [he : Enter P f] (hcmp : ∀ x y g, Fn P f [E.val x, E.val y] g [] fun v _ => v = .int .i64 (cf x y))
    {g : G} {c : Nat} {v : Value} {xs : List α} (ho : Own g c E e v xs) (hlen : xs.length < 4611686018427387904) :
    Fn P (ρ.f 6) [v, .func (.func f) #[] #[]] g [c] fun _ h => Own h c E e v (xs.mergeSort fun x y => !(ltOf cf) y x) := by
  have hval : ∀ x, E.val x = .agg (E.enc x).toArray := fun x => by unfold El.val; rw [if_pos hE]
  unfold Fn
  rcases ho.1.2 with ⟨rfl, h0⟩ | ⟨q, cap, cur, rfl, _, hq, hnc, hcm, hcs, htake⟩
  · have hx : xs = [] := List.eq_nil_of_length_eq_zero h0
    subst hx
    refine (AnyF.slices_SortFunc_none L none 0 (.func (.func f) #[] #[]) g.w).mono ?_
    rintro e' w' ⟨rfl, rfl⟩
    exact ⟨_, rfl, g.col, Step.refl _ _ _, by simpa using ho⟩
  · have hqlt : q < g.w.heap.size := (Array.getElem?_eq_some_iff.1 hq).1
    have hqc : g.col q = c := ho.2 q rfl
    have hfl := flatK_list E xs
    have hH : HoldsK E.enc E.sz g.w q 0 xs.toArray := by
      intro j hj
      have hj' : j < xs.length * E.sz := by simpa using hj
      have hcell : g.w.cell? ⟨q, 0 + j, none⟩ = cur[j]? := by rw [cell_of_row _ _ _ _ _ _ hq]; simp
      refine ⟨?_, frozen_of_row _ _ _ _ _ hq⟩
      rw [hcell]
      have e1 : (xs.flatMap E.enc)[j]? = cur[j]? := by
        rw [← htake, List.getElem?_take, if_pos hj']; simp
      rw [← e1, ← hfl, Array.getElem?_toList, Array.getElem?_eq_getElem hj, id, getElem!_pos (flatK E.enc E.sz xs.toArray) j hj]
    have hcl : CmpLays P f #[] E.enc E.sz cf q 0 xs.toArray.size g.w := by
      intro m os dk _ x y
      have h1 := hcmp x y ⟨sortWorldK E.enc E.sz g.w q 0 m dk os, fun _ => 0⟩
      unfold Fn at h1
      rw [hval, hval] at h1
      refine Calls.mono h1 ?_
      rintro e' w' ⟨u, rfl, col', hs, rfl⟩
      exact ⟨rfl, step_grow hs⟩
    have hsort := AnyQ.slices_SortFunc_total L E.sz (fun w => by rw [isAgg_und hdd, hagg]) (fun w => sizeOf_inf hi) E.enc E.len E.flat cf hO f #[] q 0 cap xs.toArray g.w he.eq hcl hH hqlt (by simpa using hlen) hT
    rw [show xs.toArray.size = xs.length from by simp] at hsort
    refine Calls.mono hsort ?_
    rintro e' w' ⟨rfl, n, os, rfl⟩
    rw [show xs.toArray.toList = xs from rfl]
    generalize hys : (xs.mergeSort fun x y => !(ltOf cf) y x) = ys
    have hyl : ys.length = xs.length := by rw [← hys, List.length_mergeSort]
    have hfy := flatK_list E ys
    have hheap : (sortWorldK E.enc E.sz g.w q 0 n ys.toArray os).heap = g.w.heap.modify q (onCells (putCells id 0 (flatK E.enc E.sz ys.toArray))) ++ os := rfl
    have hstep : Step [q] [] g ⟨sortWorldK E.enc E.sz g.w q 0 n ys.toArray os, g.col⟩ := by
      refine ⟨rfl, rfl, rfl, Nat.le_add_right _ _, ?_, fun b hb hbq _ => ⟨?_, rfl⟩⟩
      · rw [hheap]; simp
      · have hbq' : ¬ q = b := fun e => hbq (by simp [e])
        rw [hheap, Array.getElem?_append_left (by simpa using hb), Array.getElem?_modify, if_neg hbq']
    refine ⟨_, rfl, g.col, hstep.cols (fun b hb _ => by simp at hb; subst hb; simp [hqc]) (by simp), ⟨by rw [flat_length], .inr ⟨q, cap, putCells id 0 (flatK E.enc E.sz ys.toArray) cur, by rw [hyl], Nat.zero_le _, ?_, by rw [hyl]; exact hnc, hcm, ?_, ?_⟩⟩, fun b hb => ho.2 b hb⟩
    · rw [hheap, Array.getElem?_append_left (by simpa using hqlt), Array.getElem?_modify, if_pos rfl, hq]; rfl
    · unfold putCells; rw [Array.size_mapIdx]; exact hcs
    · rw [← hfy]
      apply List.ext_getElem?
      intro t
      rw [List.getElem?_take]
      by_cases ht : t < ys.length * E.sz
      · rw [if_pos ht]
        have htc : t < cur.size := by
          rw [hcs]
          exact Nat.lt_of_lt_of_le ht (Nat.mul_le_mul_right _ (by rw [hyl]; exact hnc))
        have hsz : t < (flatK E.enc E.sz ys.toArray).size := by simpa using ht
        unfold putCells
        rw [Array.getElem?_toList, Array.getElem?_toList, Array.getElem?_mapIdx, Array.getElem?_eq_getElem htc, Array.getElem?_eq_getElem hsz]
        simp only [Option.map_some]
        rw [if_pos ⟨Nat.zero_le _, by omega⟩, Nat.sub_zero, id, getElem!_pos (flatK E.enc E.sz ys.toArray) t hsz]
      · rw [if_neg ht, List.getElem?_eq_none]
        simpa using ht
end Go.Proofs.Ytfkdfnookacgiaa
