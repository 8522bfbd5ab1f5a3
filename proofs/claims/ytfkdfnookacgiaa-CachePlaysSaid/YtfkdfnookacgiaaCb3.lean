/- Caches: both caches hold the same. No program is in sight here. No statement of the seat is proved here. -/
import Derived.Test.YtfkdfnookacgiaaCb2
set_option linter.unusedVariables false
set_option linter.unusedSimpArgs false
namespace Go.Proofs.Ytfkdfnookacgiaa
open Go
def av (v : Cv) : List Ad × Int := (v.addrs, v.till)
def ab (x : Ck × Cv) : Ck × List Ad × Int := (x.1, av x.2)
section
variable {β : Type}
theorem mgetG_mem {k : Ck} {u : β} : ∀ {m : List (Ck × β)}, mget k m = some u → (k, u) ∈ m
  | [], h => by cases h
  | a :: m, h => by
    rw [mget] at h
    split at h
    · rename_i e; injection h with h; subst h; rw [e]; exact List.mem_cons_self
    · exact List.mem_cons_of_mem _ (mgetG_mem h)
theorem mgetG_get {m : List (Ck × β)} (hn : (m.map (·.1)).Nodup) {x : Ck × β} (hx : x ∈ m) : mget x.1 m = some x.2 := by
  induction m with
  | nil => simp at hx
  | cons a m ih =>
    simp only [List.map_cons, List.nodup_cons] at hn
    rw [mget]
    rcases List.mem_cons.1 hx with h | h
    · rw [h, if_pos rfl]
    · rw [if_neg (fun e => hn.1 (by rw [← e]; exact List.mem_map_of_mem h))]
      exact ih hn.2 h
theorem mgetG_perm (k : Ck) {m L : List (Ck × β)} (hp : m.Perm L) (hn : (m.map (·.1)).Nodup) : mget k m = mget k L := by
  have hL : (L.map (·.1)).Nodup := (hp.map _).nodup_iff.1 hn
  cases h : mget k m with
  | some u => exact (mgetG_get hL (hp.mem_iff.1 (mgetG_mem h))).symm
  | none =>
    cases h2 : mget k L with
    | none => rfl
    | some u =>
      have := mgetG_get hn (hp.mem_iff.2 (mgetG_mem h2))
      rw [h] at this; cases this
end
theorem mget_ab (k : Ck) : ∀ m : CaM, mget k (m.map ab) = (mget k m).map av
  | [] => rfl
  | x :: m => by
    rw [List.map_cons, mget, mget]
    show (if k = x.1 then _ else _) = _
    by_cases h : k = x.1
    · rw [if_pos h, if_pos h]; rfl
    · rw [if_neg h, if_neg h]; exact mget_ab k m
theorem ab_fst (m : CaM) : (m.map ab).map (·.1) = m.map (·.1) := by rw [List.map_map]; rfl
/-- Both caches hold the same; the reference's entries lie in the row. -/
structure BooksC (m L : CaM) : Prop where
  perm : (m.map ab).Perm (L.map ab)
  nd : NdC m
  srt : Srtd cmpC (L.map (·.1))
theorem BooksC.kp {m L : CaM} (h : BooksC m L) : (m.map (·.1)).Perm (L.map (·.1)) := by
  have := h.perm.map (fun x => x.1)
  rw [ab_fst, ab_fst] at this
  exact this
theorem BooksC.nd2 {m L : CaM} (h : BooksC m L) : NdC L := by
  have := h.nd
  unfold NdC at this ⊢
  exact h.kp.nodup_iff.1 this
theorem BooksC.keys {m L : CaM} (h : BooksC m L) : keysC m = L.map (·.1) := by
  unfold keysC
  rw [srt_of_perm isCmpC h.kp, srt_of_srtd isCmpC h.srt]
theorem BooksC.get {m L : CaM} (h : BooksC m L) (k : Ck) : (mget k m).map av = (mget k L).map av := by
  rw [← mget_ab, ← mget_ab]
  exact mgetG_perm k h.perm (by rw [ab_fst]; exact h.nd)
theorem BooksC.len {m L : CaM} (h : BooksC m L) : m.length = L.length := by have := h.perm.length_eq; simpa using this
theorem BooksC.has {m L : CaM} (h : BooksC m L) (k : Ck) : (mget k m).isSome = (mget k L).isSome := by
  have := congrArg Option.isSome (h.get k)
  simpa using this
theorem BooksC.tv {m L : CaM} (h : BooksC m L) (k : Ck) : tvC m k = tvC L k := by
  have := h.get k
  unfold tvC getD
  cases h1 : mget k m <;> cases h2 : mget k L <;> rw [h1, h2] at this <;> simp_all [av]
theorem BooksC.hit {m L : CaM} (h : BooksC m L) (k : Ck) (now : Int) : hitC m k now = hitC L k now := by
  have := h.get k
  unfold hitC
  cases h1 : mget k m <;> cases h2 : mget k L <;> rw [h1, h2] at this <;> simp_all [av]
theorem BooksC.addrs {m L : CaM} (h : BooksC m L) (k : Ck) (now : Int) : addrsC m k now = addrsC L k now := by
  unfold addrsC
  rw [h.hit]
  have := h.get k
  unfold getD
  cases h1 : mget k m <;> cases h2 : mget k L <;> rw [h1, h2] at this <;> simp_all [av]
theorem filter_ab (p : Ck → Int → Bool) (l : CaM) : (l.filter fun x => p x.1 x.2.till).map ab = (l.map ab).filter fun y => p y.1 y.2.2 := by
  rw [List.filter_map]; rfl
theorem BooksC.filter {m L : CaM} (h : BooksC m L) (p : Ck → Int → Bool) : BooksC (m.filter fun x => p x.1 x.2.till) (L.filter fun x => p x.1 x.2.till) :=
  ⟨by rw [filter_ab, filter_ab]; exact h.perm.filter _, h.nd.sub List.filter_sublist, List.Pairwise.sublist (List.filter_sublist.map _) h.srt⟩
theorem filterC_ne {k : Ck} {m : CaM} (h : ∀ x ∈ m, ¬ k = x.1) : (m.filter fun y => decide (¬ k = y.1)) = m := by
  rw [List.filter_eq_self]
  intro x hx
  exact decide_eq_true (h x hx)
theorem BooksC.over {m L : CaM} (h : BooksC m L) (now : Int) : BooksC (overC now m) (overC now L) := h.filter (fun _ t => !(decide (t ≤ now)))
theorem BooksC.without {m L : CaM} (h : BooksC m L) (k : Ck) : BooksC (m.filter fun y => decide (¬ k = y.1)) (L.filter fun y => decide (¬ k = y.1)) := h.filter (fun x _ => decide (¬ k = x))
/-- What both make ready for a key is the same. -/
theorem BooksC.pre {m L : CaM} (h : BooksC m L) (room now : Int) (k : Ck) :
    (preC room now k m).2 = ((preLC room now k L).2.1.1, (preLC room now k L).2.2) ∧ BooksC ((preC room now k m).1.filter fun y => decide (¬ k = y.1)) (preLC room now k L).1 ∧ NdC (preC room now k m).1 := by
  have hg := h.has k
  have hl := h.len
  unfold preC preLC
  by_cases hf : 0 ≤ findC k L
  · have h1 := (findC_some k L).1 hf
    rw [if_pos hf, if_neg (by rw [hg, h1]; simp)]
    exact ⟨rfl, h.without k, h.nd⟩
  · have h1 : (mget k L).isSome = false := by
      cases hh : (mget k L).isSome with
      | false => rfl
      | true => exact absurd ((findC_some k L).2 hh) hf
    have hnm : ∀ x ∈ m, ¬ k = x.1 := mgetC_none.1 (by rw [hg]; exact h1)
    rw [if_neg hf]
    by_cases hroom : (L.length : Int) = room
    · rw [if_pos hroom, if_pos ⟨by rw [hg]; exact h1, by rw [hl]; exact hroom⟩]
      unfold mkRoomC mkRoomLC
      have ho := h.over now
      have hol : (overC now m).length = (overC now L).length := ho.len
      rw [hol, hl]
      split
      · refine ⟨rfl, ?_, h.nd.sub List.filter_sublist⟩
        have e : ((overC now m).filter fun y => decide (¬ k = y.1)) = overC now m := filterC_ne (fun x hx => hnm x (List.mem_filter.1 hx).1)
        dsimp only
        rw [e]
        exact ho
      · rw [h.keys]
        cases L with
        | nil =>
          refine ⟨rfl, ?_, h.nd⟩
          show BooksC (m.filter fun y => decide (¬ k = y.1)) []
          rw [filterC_ne hnm]; exact h
        | cons b l =>
          have hx : leastBy (tvC m) b.1 (l.map (·.1)) = (leastBy (·.2.till) b l).1 := by
            refine (leastBy_map (·.2.till) (·.1) (tvC m) l b fun x hx => ?_).symm
            rw [h.tv x.1]
            unfold tvC getD
            rw [h.nd2.get hx]; rfl
          refine (show (leastBy (tvC m) b.1 (l.map (·.1)), true) = ((leastBy (·.2.till) b l).1, true) ∧ BooksC ((m.filter fun y => decide (¬ leastBy (tvC m) b.1 (l.map (·.1)) = y.1)).filter fun y => decide (¬ k = y.1)) ((b :: l).filter fun y => decide (¬ (leastBy (·.2.till) b l).1 = y.1)) ∧
            NdC (m.filter fun y => decide (¬ leastBy (tvC m) b.1 (l.map (·.1)) = y.1)) from ?_)
          rw [hx]
          refine ⟨rfl, ?_, h.nd.sub List.filter_sublist⟩
          rw [filterC_ne (fun x hx => hnm x (List.mem_filter.1 hx).1)]
          exact h.without _
    · rw [if_neg hroom, if_neg (by rw [hl]; exact fun e => hroom e.2)]
      refine ⟨rfl, ?_, h.nd⟩
      dsimp only
      rw [filterC_ne hnm]; exact h
theorem insC_srtd {k : Ck} {v : Cv} {L1 L' : CaM} (hs : Srtd cmpC (L1.map (·.1))) (hi : InsC k v L1 L') : Srtd cmpC (L'.map (·.1)) := by
  obtain ⟨n, ⟨hn, hge, hlast⟩, rfl⟩ := hi
  have h0 : L1 = L1.take n ++ L1.drop n := (List.take_append_drop n L1).symm
  rw [h0, List.map_append] at hs
  unfold Srtd at hs ⊢
  rw [List.pairwise_append] at hs
  obtain ⟨h1, h2, h3⟩ := hs
  rw [List.map_append, List.map_cons, List.pairwise_append, List.pairwise_cons]
  have hafter : ∀ y ∈ (L1.drop n).map (·.1), cmpC k y ≤ 0 := fun y hy => by
    obtain ⟨x, hx, rfl⟩ := List.mem_map.1 hy
    obtain ⟨j, hj⟩ := List.mem_iff_getElem?.1 hx
    rw [List.getElem?_drop] at hj
    have := hge (n + j) x (by omega) hj
    omega
  have hbefore : ∀ y ∈ (L1.take n).map (·.1), cmpC y k ≤ 0 := fun y hy => by
    rcases hlast with rfl | ⟨z, hz, hkz⟩
    · simp at hy
    · obtain ⟨x, hx, rfl⟩ := List.mem_map.1 hy
      have hzk : cmpC z.1 k ≤ 0 := by have := isCmpC.anti k z.1; omega
      obtain ⟨j, hj⟩ := List.mem_iff_getElem?.1 hx
      rw [List.getElem?_take] at hj
      split at hj
      · rename_i hjn
        by_cases e : j = n - 1
        · subst e; rw [hz] at hj; injection hj with hj; subst hj; exact hzk
        · refine isCmpC.trans x.1 z.1 k ?_ hzk
          obtain ⟨a1, a2⟩ := List.getElem?_eq_some_iff.1 hj
          obtain ⟨b1, b2⟩ := List.getElem?_eq_some_iff.1 hz
          have hp := List.pairwise_iff_getElem.1 h1 j (n - 1) (by simp; omega) (by simp; omega) (by omega)
          simp only [List.getElem_map, List.getElem_take] at hp
          rw [a2, b2] at hp
          exact hp
      · cases hj
  refine ⟨h1, ⟨hafter, h2⟩, fun x hx y hy => ?_⟩
  rcases List.mem_cons.1 hy with rfl | hy
  · exact hbefore x hx
  · exact h3 x hx y hy
theorem insC_perm {k : Ck} {v : Cv} {L1 L' : CaM} (hi : InsC k v L1 L') : L'.Perm ((k, v) :: L1) := by
  obtain ⟨n, _, rfl⟩ := hi
  refine List.perm_middle.trans ?_
  rw [List.take_append_drop]
/-- An entry is put into both. -/
theorem BooksC.put {m L L' : CaM} (h : BooksC m L) (room now : Int) (k : Ck) (cv v : Cv) (hv : av cv = av v) (hi : InsC k v (preLC room now k L).1 L') :
    BooksC (mput k cv (preC room now k m).1) L' := by
  obtain ⟨h1, h2, h3⟩ := h.pre room now k
  refine ⟨?_, h3.put k cv, insC_srtd h2.srt hi⟩
  have e1 := (mputC_perm k cv _ h3).map ab
  have e2 := (insC_perm hi).map ab
  rw [List.map_cons] at e1 e2
  have e3 : ab (k, cv) = ab (k, v) := by unfold ab; dsimp only; rw [hv]
  rw [e3] at e1
  exact (e1.trans (h2.perm.cons _)).trans e2.symm
theorem filterC_lt {L : CaM} {p : Ck × Cv → Bool} {x : Ck × Cv} (hx : x ∈ L) (hp : p x = false) : (L.filter p).length < L.length := by
  induction L with
  | nil => simp at hx
  | cons a L ih =>
    have hle := List.length_filter_le p L
    rw [List.filter_cons]
    rcases List.mem_cons.1 hx with rfl | hx
    · rw [hp]; simp; omega
    · have := ih hx
      split <;> simp only [List.length_cons] <;> omega
/-- There is room. -/
theorem preLC_room {room now : Int} {k : Ck} {L : CaM} (hr : 1 ≤ room) (hl : (L.length : Int) ≤ room) : ((preLC room now k L).1.length : Int) < room := by
  unfold preLC
  split
  · rename_i hf
    rcases findC_get k L with ⟨h1, h2⟩ | ⟨h1, v, h2, h3⟩
    · omega
    · have := filterC_lt (p := fun y : Ck × Cv => decide (¬ k = y.1)) (List.mem_of_getElem? h2) (by simp)
      dsimp only; omega
  · split
    · unfold mkRoomLC
      split
      · dsimp only; omega
      · cases L with
        | nil => simp only [List.length_nil] at *; omega
        | cons b l =>
          have := filterC_lt (p := fun y : Ck × Cv => decide (¬ (leastBy (·.2.till) b l).1 = y.1)) (leastBy_mem (·.2.till) l b) (by simp)
          dsimp only; omega
    · dsimp only; omega
theorem preLC_sub {room now : Int} {k : Ck} {L : CaM} : ∀ x ∈ (preLC room now k L).1, x ∈ L := by
  intro x hx
  unfold preLC at hx
  split at hx
  · exact (List.mem_filter.1 hx).1
  · split at hx
    · unfold mkRoomLC at hx
      split at hx
      · exact (List.mem_filter.1 hx).1
      · cases L with
        | nil => exact hx
        | cons b l => exact (List.mem_filter.1 hx).1
    · exact hx
theorem insC_sub {room now : Int} {k : Ck} {v : Cv} {L L' : CaM} (hi : InsC k v (preLC room now k L).1 L') : ∀ x ∈ L', x = (k, v) ∨ x ∈ L := by
  intro x hx
  rcases List.mem_cons.1 ((insC_perm hi).mem_iff.1 hx) with e | e
  · exact .inl e
  · exact .inr (preLC_sub x e)
/-- The first of those that end first, in a row: none ends ahead of it, and of those that end with it none stands ahead of it. -/
theorem leastC_first : ∀ (l : CaM) (b : Ck × Cv), Srtd cmpC ((b :: l).map (·.1)) → ∀ x ∈ b :: l, (leastBy (·.2.till) b l).2.till ≤ x.2.till ∧ (x.2.till = (leastBy (·.2.till) b l).2.till → cmpC (leastBy (·.2.till) b l).1 x.1 ≤ 0)
  | [], b, _, x, hx => by
    rw [List.mem_singleton.1 hx]
    have := (isCmpC.eq b.1 b.1).2 rfl
    simp only [leastBy]
    exact ⟨Int.le_refl _, fun _ => by omega⟩
  | a :: l, b, hs, x, hx => by
    have hs1 : Srtd cmpC ((a :: l).map (·.1)) := by
      unfold Srtd at hs ⊢
      rw [List.map_cons, List.pairwise_cons] at hs
      exact hs.2
    have hs2 : Srtd cmpC ((b :: l).map (·.1)) := by
      unfold Srtd at hs ⊢
      exact List.Pairwise.sublist ((List.Sublist.cons_cons b (List.sublist_cons_self a l)).map _) hs
    have hba : cmpC b.1 a.1 ≤ 0 := by
      unfold Srtd at hs
      rw [List.map_cons, List.map_cons, List.pairwise_cons] at hs
      exact hs.1 _ List.mem_cons_self
    rw [leastBy]
    by_cases h : a.2.till < b.2.till
    · rw [if_pos h]
      have ih := leastC_first l a hs1
      rcases List.mem_cons.1 hx with rfl | hx
      · have := (ih a List.mem_cons_self).1
        exact ⟨by omega, fun e => by omega⟩
      · exact ih x hx
    · rw [if_neg h]
      have ih := leastC_first l b hs2
      rcases List.mem_cons.1 hx with rfl | hx
      · exact ih x List.mem_cons_self
      · rcases List.mem_cons.1 hx with rfl | hx
        · have hb := ih b List.mem_cons_self
          refine ⟨by omega, fun e => ?_⟩
          exact isCmpC.trans _ _ _ (hb.2 (by omega)) hba
        · exact ih x (List.mem_cons_of_mem _ hx)
theorem leastOfC_le {k : Ck} {x : Ck} (h : cmpC k x ≤ 0) : ¬ Op.bytesLess x.name k.name = true := fun e => by
  have h1 := (cmpC_lt x k).2 (.inl e)
  have h2 := isCmpC.anti k x
  omega
/-- The first of those that end first; none: the zero. -/
def leastOfC : CaM → Ck × Cv
  | [] => ceZ
  | b :: l => leastBy (·.2.till) b l
theorem mkRoomLC_fresh {L : CaM} (hne : L ≠ []) (h : ∀ x ∈ L, 1 ≤ x.2.till) : (mkRoomLC 0 L).2 = (leastOfC L, true) := by
  have : overC 0 L = L := by
    unfold overC
    rw [List.filter_eq_self]
    intro x hx
    have := h x hx
    simp; omega
  unfold mkRoomLC
  rw [this, if_neg (Nat.lt_irrefl _)]
  cases L with
  | nil => exact absurd rfl hne
  | cons b l => rfl
theorem leastOfC_first {L : CaM} (hs : Srtd cmpC (L.map (·.1))) : ∀ x ∈ L, (leastOfC L).2.till ≤ x.2.till ∧ (x.2.till = (leastOfC L).2.till → ¬ Op.bytesLess x.1.name (leastOfC L).1.name = true) := by
  cases L with
  | nil => intro x hx; simp at hx
  | cons b l =>
    intro x hx
    have := leastC_first l b hs x hx
    exact ⟨this.1, fun e => leastOfC_le (this.2 e)⟩
end Go.Proofs.Ytfkdfnookacgiaa
