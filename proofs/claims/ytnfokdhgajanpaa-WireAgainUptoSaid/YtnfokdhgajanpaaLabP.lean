/- Names of hosts: what is written is read: plain laws. No statement of the seat is proved here. -/
import Derived.Test.YtnfokdhgajanpaaLab7
set_option linter.unusedVariables false
namespace Go.Proofs.Ytnfokdhgajanpaa
open Go

/-- At the place n of B a name's labels are read (in a run that began at began), and e is where it ends. -/
def Reads (B : List UInt8) (began n : Nat) (l : List (List UInt8)) (e : Nat) : Prop := ∀ X l0 size next, size + l.flatten.length + l.length ≤ 255 →
  readGo (B ++ X) n began l0 size next = (joinB [46] (l0 ++ l), if next = 0 then e else next, 0)
theorem Reads.append {B : List UInt8} {began n : Nat} {l : List (List UInt8)} {e : Nat} (h : Reads B began n l e) (Y : List UInt8) : Reads (B ++ Y) began n l e := by
  intro X l0 size next hs
  rw [List.append_assoc]; exact h _ _ _ _ hs
theorem Reads.nil (A R : List UInt8) (began : Nat) : Reads (A ++ 0 :: R) began A.length [] (A.length + 1) := by
  intro X l0 size next hs
  rw [readGo, dif_pos (by simp only [List.length_append, List.length_cons]; omega)]
  have e : (A ++ 0 :: R ++ X)[A.length]'(by simp only [List.length_append, List.length_cons]; omega) = 0 := by simp
  rw [e]
  simp
theorem ofNat_toNat (n : Nat) (h : n < 256) : (UInt8.ofNat n).toNat = n := by
  rw [UInt8.toNat_ofNat']; omega
theorem Reads.cons {A R x : List UInt8} {began e : Nat} {l : List (List UInt8)} (h1 : 1 ≤ x.length) (h2 : x.length ≤ 63) (h3 : (46 : UInt8) ∉ x) (h : Reads (A ++ encB x ++ R) began (A ++ encB x).length l e) : Reads (A ++ encB x ++ R) began A.length (x :: l) e := by
  intro X l0 size next hs
  simp only [List.flatten_cons, List.length_append, List.length_cons] at hs
  have hlen : (A ++ encB x ++ R ++ X).length = A.length + 1 + x.length + R.length + X.length := by simp only [encB, List.length_append, List.length_cons]; omega
  rw [readGo, dif_pos (by omega)]
  have e1 : (A ++ encB x ++ R ++ X)[A.length]'(by omega) = UInt8.ofNat x.length := by simp [encB]
  rw [e1, ofNat_toNat _ (by omega)]
  have e2 : ((A ++ encB x ++ R ++ X).take (A.length + 1 + x.length)).drop (A.length + 1) = x := by
    have : A ++ encB x ++ R ++ X = (A ++ [UInt8.ofNat x.length]) ++ (x ++ (R ++ X)) := by simp [encB]
    rw [this, List.drop_take, show A.length + 1 = (A ++ [UInt8.ofNat x.length]).length by simp, List.drop_left]
    rw [show (A ++ [UInt8.ofNat x.length]).length + x.length - (A ++ [UInt8.ofNat x.length]).length = x.length by omega, List.take_left]
  simp only [e2]
  rw [if_neg (by omega), if_neg (by omega), if_neg (by omega), if_neg h3, if_neg (by omega)]
  have hn : A.length + 1 + x.length = (A ++ encB x).length := by simp only [encB, List.length_append, List.length_cons]; omega
  rw [hn, h _ _ _ _ (by omega)]
  simp
theorem Reads.ptr {A R : List UInt8} {began p e : Nat} {l : List (List UInt8)} (h1 : p < 16384) (h2 : p < began) (h : Reads (A ++ ptrB p ++ R) p p l e) : Reads (A ++ ptrB p ++ R) began A.length l (A.length + 2) := by
  intro X l0 size next hs
  have hlen : (A ++ ptrB p ++ R ++ X).length = A.length + 2 + R.length + X.length := by simp only [ptrB, List.length_append, List.length_cons, List.length_nil] <;> omega
  rw [readGo, dif_pos (by omega)]
  have e1 : (A ++ ptrB p ++ R ++ X)[A.length]'(by omega) = UInt8.ofNat (192 + p / 256) := by simp [ptrB]
  have e2 : (A ++ ptrB p ++ R ++ X)[A.length + 1]'(by omega) = UInt8.ofNat (p % 256) := by
    have : A ++ ptrB p ++ R ++ X = (A ++ [UInt8.ofNat (192 + p / 256)]) ++ (UInt8.ofNat (p % 256) :: (R ++ X)) := by simp [ptrB]
    simp only [this]
    rw [List.getElem_append_right (by simp)]
    simp
  have hd : A.length + 1 < (A ++ ptrB p ++ R ++ X).length := by omega
  simp only [e1, e2, hd, dite_true]
  rw [ofNat_toNat _ (by omega), ofNat_toNat _ (by omega)]
  have e3 : (192 + p / 256 - 192) * 256 + p % 256 = p := by omega
  rw [e3, if_neg (by omega), if_pos (by omega), dif_neg (by omega), h _ _ _ _ hs]
  by_cases hn : next = 0
  · simp [hn]
  · simp [hn]

/-- The shortened writing: the bytes alone. -/
def nameW : Nat → WM → List (List UInt8) → List UInt8 × WM
  | _, m, [] => ([0], m)
  | n, m, l :: r => match mget (joinB [46] (l :: r)) m with
    | some p => (ptrB p, m)
    | none => (encB l ++ (nameW (n + 1 + l.length) (if n < 16384 then m ++ [(joinB [46] (l :: r), n)] else m) r).1, (nameW (n + 1 + l.length) (if n < 16384 then m ++ [(joinB [46] (l :: r), n)] else m) r).2)
theorem nameGo_eq : ∀ (l : List (List UInt8)) (B : List UInt8) (m : WM), nameGo B m l = (B ++ (nameW B.length m l).1, (nameW B.length m l).2)
  | [], B, m => rfl
  | x :: r, B, m => by
    rw [nameGo, nameW]
    cases mget (joinB [46] (x :: r)) m with
    | some p => rfl
    | none =>
      dsimp only
      have e : (B ++ [UInt8.ofNat x.length] ++ x).length = B.length + 1 + x.length := by simp only [List.length_append, List.length_cons, List.length_nil]
      rw [nameGo_eq r, e]
      simp [encB]
theorem nameW_len : ∀ (l : List (List UInt8)) (n : Nat) (m : WM), (nameW n m l).1.length ≤ l.flatten.length + l.length + 2 ∧ (nameW n m l).2.length ≤ m.length + l.length
  | [], n, m => by simp [nameW]
  | x :: r, n, m => by
    rw [nameW]
    cases mget (joinB [46] (x :: r)) m with
    | some p => simp [ptrB]
    | none =>
      have ih := nameW_len r (n + 1 + x.length) (if n < 16384 then m ++ [(joinB [46] (x :: r), n)] else m)
      have hs : (if n < 16384 then m ++ [(joinB [46] (x :: r), n)] else m).length ≤ m.length + 1 := by split <;> simp
      simp only [List.length_append, encB, List.length_cons, List.flatten_cons]
      omega
theorem nameW_len1 : ∀ (l : List (List UInt8)) (n : Nat) (m : WM), 1 ≤ (nameW n m l).1.length
  | [], n, m => by simp [nameW]
  | x :: r, n, m => by
    rw [nameW]
    cases mget (joinB [46] (x :: r)) m with
    | some p => simp [ptrB]
    | none => simp only [List.length_append, encB, List.length_cons]; omega
theorem mget_mem {κ ν : Type} [DecidableEq κ] {k : κ} {u : ν} : ∀ {m : List (κ × ν)}, mget k m = some u → (k, u) ∈ m
  | [], h => by cases h
  | p :: m, h => by
    unfold mget at h
    split at h
    · rename_i e; injection h with h; subst h; subst e; simp
    · exact List.mem_cons_of_mem _ (mget_mem h)
def OkLabels (l : List (List UInt8)) : Prop := ∀ x ∈ l, 1 ≤ x.length ∧ x.length ≤ 63 ∧ (46 : UInt8) ∉ x
theorem OkLabels.labels {l : List (List UInt8)} (h : OkLabels l) : labelsB (joinB [46] l) = l :=
  labelsB_join l (fun x hx => (h x hx).2.2) (fun x hx e => by have := (h x hx).1; rw [e] at this; simp at this)
theorem may_ok {s : List UInt8} (h : mayB s = true) : OkLabels (labelsB s) := fun x hx => ⟨(may_labels h x hx).1, (may_labels h x hx).2, labelsB_no s x hx⟩

theorem nameW_ok : ∀ (l : List (List UInt8)) (A : List UInt8) (m : WM) (b0 : Nat), OkLabels l → b0 ≤ A.length →
    (∀ q ∈ m, q.2 < 16384 ∧ ((q.2 < b0 ∧ ∃ e, Reads A q.2 q.2 (labelsB q.1) e) ∨ (joinB [46] l).length < q.1.length)) →
    (∀ began, b0 ≤ began → Reads (A ++ (nameW A.length m l).1) began A.length l (A ++ (nameW A.length m l).1).length) ∧
    ∃ new, (nameW A.length m l).2 = m ++ new ∧ ∀ q ∈ new, q.2 < 16384 ∧ q.2 < (A ++ (nameW A.length m l).1).length ∧ ∃ e, Reads (A ++ (nameW A.length m l).1) q.2 q.2 (labelsB q.1) e
  | [], A, m, b0, _, _, _ => by
    refine ⟨fun began _ => ?_, [], by simp [nameW], by simp⟩
    have := Reads.nil A [] began
    simpa [nameW] using this
  | x :: r, A, m, b0, hl, hb, hm => by
    obtain ⟨h1, h2, h3⟩ := hl x (by simp)
    have hlr : OkLabels r := fun y hy => hl y (by simp [hy])
    rw [nameW]
    cases hg : mget (joinB [46] (x :: r)) m with
    | some p =>
      dsimp only
      obtain ⟨hp, hq⟩ := hm _ (mget_mem hg)
      dsimp only at hp hq
      rcases hq with ⟨hp0, e, hre⟩ | hq
      · rw [hl.labels] at hre
        refine ⟨fun began hbe => ?_, [], by simp, by simp⟩
        have := Reads.ptr (A := A) (R := []) (began := began) hp (by omega) (e := e) (l := x :: r) (by rw [List.append_nil]; exact hre.append _)
        rw [List.append_nil] at this
        have e2 : (A ++ ptrB p).length = A.length + 2 := by simp [ptrB]
        rw [e2]; exact this
      · omega
    | none =>
      dsimp only
      have hA : (A ++ encB x).length = A.length + 1 + x.length := by simp only [encB, List.length_append, List.length_cons]; omega
      let m' : WM := if A.length < 16384 then m ++ [(joinB [46] (x :: r), A.length)] else m
      have hjl : (joinB [46] r).length < (joinB [46] (x :: r)).length := by
        cases r with
        | nil => simp [joinB]; omega
        | cons y r => simp only [joinB, List.length_append, List.length_cons, List.length_nil]; omega
      have ih := nameW_ok r (A ++ encB x) m' b0 hlr (by omega) (fun q hq => by
        have hold : q ∈ m → q.2 < 16384 ∧ ((q.2 < b0 ∧ ∃ e, Reads (A ++ encB x) q.2 q.2 (labelsB q.1) e) ∨ (joinB [46] r).length < q.1.length) := fun hq => by
          obtain ⟨h1, h2⟩ := hm q hq
          refine ⟨h1, h2.imp (fun ⟨h2, e, h3⟩ => ⟨h2, e, h3.append _⟩) (fun h2 => by omega)⟩
        simp only [m'] at hq
        split at hq
        · rename_i hlt
          rcases List.mem_append.1 hq with hq | hq
          · exact hold hq
          · simp only [List.mem_cons, List.not_mem_nil, or_false] at hq
            subst hq
            exact ⟨hlt, .inr hjl⟩
        · exact hold hq)
      rw [hA] at ih
      obtain ⟨ih1, new, ih2, ih3⟩ := ih
      have eB : A ++ (encB x ++ (nameW (A.length + 1 + x.length) m' r).1) = A ++ encB x ++ (nameW (A.length + 1 + x.length) m' r).1 := by rw [List.append_assoc]
      show (∀ began, b0 ≤ began → Reads (A ++ (encB x ++ (nameW (A.length + 1 + x.length) m' r).1)) began A.length (x :: r) (A ++ (encB x ++ (nameW (A.length + 1 + x.length) m' r).1)).length) ∧
        ∃ new, (nameW (A.length + 1 + x.length) m' r).2 = m ++ new ∧ ∀ q ∈ new, q.2 < 16384 ∧ q.2 < (A ++ (encB x ++ (nameW (A.length + 1 + x.length) m' r).1)).length ∧ ∃ e, Reads (A ++ (encB x ++ (nameW (A.length + 1 + x.length) m' r).1)) q.2 q.2 (labelsB q.1) e
      rw [eB]
      have key : ∀ began, b0 ≤ began → Reads (A ++ encB x ++ (nameW (A.length + 1 + x.length) m' r).1) began A.length (x :: r) (A ++ encB x ++ (nameW (A.length + 1 + x.length) m' r).1).length := fun began hbe =>
        Reads.cons h1 h2 h3 (by rw [hA]; exact ih1 began hbe)
      refine ⟨key, ?_⟩
      simp only [m'] at ih2 ih3 key ⊢
      by_cases hlt : A.length < 16384
      · refine ⟨(joinB [46] (x :: r), A.length) :: new, by rw [ih2, if_pos hlt]; simp, fun q hq => ?_⟩
        rcases List.mem_cons.1 hq with rfl | hq
        · refine ⟨hlt, by simp only [encB, List.length_append, List.length_cons]; omega, ?_⟩
          dsimp only
          rw [hl.labels]; exact ⟨_, key _ hb⟩
        · exact ih3 q hq
      · exact ⟨new, by rw [ih2, if_neg hlt], ih3⟩

def WOk (B : List UInt8) (m : WM) : Prop := ∀ q ∈ m, q.2 < 16384 ∧ q.2 < B.length ∧ ∃ e, Reads B q.2 q.2 (labelsB q.1) e
theorem WOk.append {B : List UInt8} {m : WM} (h : WOk B m) (Y : List UInt8) : WOk (B ++ Y) m := fun q hq => by
  obtain ⟨h1, h2, e, h3⟩ := h q hq
  exact ⟨h1, by rw [List.length_append]; omega, e, h3.append Y⟩
theorem WOk.nil (B : List UInt8) : WOk B [] := fun q hq => by cases hq
/-- A name is written: its bytes are behind what there was, it is read there, and so is all that was. -/
theorem WOk.name {B : List UInt8} {m : WM} (h : WOk B m) {s : List UInt8} (hs : mayB s = true) :
    nameEnd B m s = (B ++ (nameW B.length m (labelsB s)).1, (nameW B.length m (labelsB s)).2) ∧ WOk (nameEnd B m s).1 (nameEnd B m s).2 ∧ Reads (nameEnd B m s).1 B.length B.length (labelsB s) (nameEnd B m s).1.length ∧
    (nameEnd B m s).1.length ≤ B.length + 257 ∧ (nameEnd B m s).2.length ≤ m.length + 255 ∧ B.length < (nameEnd B m s).1.length := by
  have e : nameEnd B m s = (B ++ (nameW B.length m (labelsB s)).1, (nameW B.length m (labelsB s)).2) := by rw [nameEnd, if_pos hs, nameGo_eq]
  obtain ⟨h1, new, h2, h3⟩ := nameW_ok (labelsB s) B m B.length (may_ok hs) (Nat.le_refl _) (fun q hq => by obtain ⟨a, b, c⟩ := h q hq; exact ⟨a, .inl ⟨b, c⟩⟩)
  have h4 := nameW_len (labelsB s) B.length m
  have h6 := nameW_len1 (labelsB s) B.length m
  have h5 := may_size hs
  unfold sizeB at h5
  refine ⟨e, ?_, ?_, ?_, ?_, ?_⟩
  · rw [e]
    intro q hq
    dsimp only at hq ⊢
    rw [h2] at hq
    rcases List.mem_append.1 hq with hq | hq
    · exact (h.append _) q hq
    · exact h3 q hq
  · rw [e]; exact h1 _ (Nat.le_refl _)
  · rw [e]; dsimp only; rw [List.length_append]; omega
  · rw [e]; dsimp only; omega
  · rw [e]; dsimp only; rw [List.length_append]; omega
theorem Reads.read {B : List UInt8} {n e : Nat} {s : List UInt8} (hs : mayB s = true) (h : Reads B n n (labelsB s) e) (X : List UInt8) : readGo (B ++ X) n n [] 1 0 = (s, e, 0) := by
  have h5 := may_size hs
  unfold sizeB at h5
  rw [h X [] 1 0 (by omega)]
  simp [join_labels]
theorem Reads.read' {B : List UInt8} {n e : Nat} {s : List UInt8} (hs : mayB s = true) (h : Reads B n n (labelsB s) e) : readGo B n n [] 1 0 = (s, e, 0) := by
  have := h.read hs []
  rwa [List.append_nil] at this

theorem plain_reads : ∀ (l : List (List UInt8)) (A R : List UInt8) (began : Nat), OkLabels l → Reads (A ++ (l.flatMap encB ++ [0]) ++ R) began A.length l (A ++ (l.flatMap encB ++ [0])).length
  | [], A, R, began, _ => by
    have := Reads.nil A R began
    simpa using this
  | x :: r, A, R, began, hl => by
    obtain ⟨h1, h2, h3⟩ := hl x (by simp)
    have ih := plain_reads r (A ++ encB x) R began (fun y hy => hl y (by simp [hy]))
    have e : A ++ ((x :: r).flatMap encB ++ [0]) ++ R = A ++ encB x ++ ((r.flatMap encB ++ [0]) ++ R) := by simp
    have e2 : A ++ ((x :: r).flatMap encB ++ [0]) = A ++ encB x ++ (r.flatMap encB ++ [0]) := by simp
    rw [e, e2]
    refine Reads.cons h1 h2 h3 ?_
    rw [← List.append_assoc]; exact ih
theorem good_ok (s : List UInt8) : OkLabels (goodL (labelsB s)) := by
  intro x hx
  have hx2 := List.mem_of_mem_take hx
  simp only [List.mem_filter, List.mem_map, decide_eq_true_eq] at hx2
  obtain ⟨⟨y, hy, rfl⟩, hne⟩ := hx2
  refine ⟨List.length_pos_iff.2 hne, by rw [List.length_take]; omega, fun h => labelsB_no s y hy (List.mem_of_mem_take h)⟩
theorem good_labels (s : List UInt8) : labelsB (goodB s) = goodL (labelsB s) := (good_ok s).labels
theorem good_len (s : List UInt8) : (goodL (labelsB s)).length ≤ 6 ∧ (goodL (labelsB s)).flatten.length ≤ 72 := by
  have h1 : (goodL (labelsB s)).length ≤ 6 := by unfold goodL; rw [List.length_take]; omega
  have h2 : ∀ x ∈ goodL (labelsB s), x.length ≤ 12 := by
    intro x hx
    have hx2 := List.mem_of_mem_take hx
    simp only [List.mem_filter, List.mem_map, decide_eq_true_eq] at hx2
    obtain ⟨⟨y, hy, rfl⟩, hne⟩ := hx2
    rw [List.length_take]; omega
  refine ⟨h1, ?_⟩
  have : ∀ l : List (List UInt8), (∀ x ∈ l, x.length ≤ 12) → l.flatten.length ≤ 12 * l.length := by
    intro l hl
    induction l with
    | nil => simp
    | cons a l ih => have := hl a (by simp); have := ih (fun x hx => hl x (by simp [hx])); simp only [List.flatten_cons, List.length_append, List.length_cons]; omega
  have := this _ h2
  omega
theorem good_may (s : List UInt8) : mayB (goodB s) = true := by
  have h1 := good_len s
  unfold mayB
  rw [good_labels, Bool.and_eq_true, List.all_eq_true]
  refine ⟨fun x hx => ?_, decide_eq_true (by unfold sizeB; omega)⟩
  obtain ⟨h2, h3, _⟩ := good_ok s x hx
  unfold okLab; rw [decide_eq_true h2, decide_eq_true h3]; rfl
theorem goodB_len (s : List UInt8) : (goodB s).length ≤ 78 := by
  have h1 := good_len s
  have h2 := joinB_flat [46] (goodL (labelsB s))
  unfold goodB
  simp only [List.length_cons, List.length_nil] at h2
  omega
end Go.Proofs.Ytnfokdhgajanpaa
