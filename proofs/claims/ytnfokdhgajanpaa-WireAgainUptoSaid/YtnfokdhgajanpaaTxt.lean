/- Texts as lists of bytes: the plain functions, and the contracts of the reference's layer 1. No statement of the seat is proved here. -/
import Derived.Test.YtnfokdhgajanpaaEng4
import Derived.Test.YtnfokdhgajanpaaTypes
set_option linter.unusedVariables false
namespace Go.Proofs.Ytnfokdhgajanpaa
open Go
attribute [local irreducible] Wp

/-- The pieces of a text between bytes c. -/
def splitB (c : UInt8) : List UInt8 → List (List UInt8)
  | [] => [[]]
  | x :: r => if x = c then [] :: splitB c r else match splitB c r with
    | h :: t => (x :: h) :: t
    | [] => [[x]]
def joinB (sep : List UInt8) : List (List UInt8) → List UInt8
  | [] => []
  | [x] => x
  | x :: y :: r => x ++ sep ++ joinB sep (y :: r)

theorem splitB_ne (c : UInt8) : ∀ l, splitB c l ≠ []
  | [] => by simp [splitB]
  | x :: r => by
    unfold splitB
    split
    · simp
    · split <;> simp
theorem splitB_none (c : UInt8) : ∀ {l : List UInt8}, c ∉ l → splitB c l = [l]
  | [], _ => rfl
  | x :: r, h => by
    have h1 : ¬ x = c := fun e => h (by simp [e])
    have h2 := splitB_none c (l := r) (fun e => h (by simp [e]))
    simp [splitB, h1, h2]
theorem splitB_append (c : UInt8) : ∀ {a b : List UInt8}, c ∉ a → splitB c (a ++ c :: b) = a :: splitB c b
  | [], b, _ => by simp [splitB]
  | x :: r, b, h => by
    have h1 : ¬ x = c := fun e => h (by simp [e])
    have h2 := splitB_append c (a := r) (b := b) (fun e => h (by simp [e]))
    simp [splitB, h1, h2]
theorem splitB_length (c : UInt8) : ∀ l : List UInt8, (splitB c l).length ≤ l.length + 1
  | [] => by simp [splitB]
  | x :: r => by
    have := splitB_length c r
    unfold splitB
    split
    · simp; omega
    · split
      · rename_i h t e; rw [e] at this; simp at this ⊢; omega
      · simp
theorem splitB_flat (c : UInt8) : ∀ l : List UInt8, (splitB c l).flatten.length ≤ l.length
  | [] => by simp [splitB]
  | x :: r => by
    have := splitB_flat c r
    unfold splitB
    split
    · simp at this ⊢; omega
    · split
      · rename_i h t e; rw [e] at this; simp at this ⊢; omega
      · simp
theorem splitB_mem_no (c : UInt8) : ∀ (l : List UInt8) (x : List UInt8), x ∈ splitB c l → c ∉ x
  | [], x, h => by simp [splitB] at h; subst h; simp
  | y :: r, x, h => by
    have ih := splitB_mem_no c r
    unfold splitB at h
    split at h
    · rcases List.mem_cons.1 h with h | h
      · subst h; simp
      · exact ih x h
    · rename_i hne
      split at h
      · rename_i a t e
        rcases List.mem_cons.1 h with h | h
        · subst h
          have := ih a (by rw [e]; simp)
          simp [this]; exact fun e => hne e.symm
        · exact ih x (by rw [e]; simp [h])
      · simp at h; subst h; simp; exact fun e => hne e.symm
theorem joinB_split (c : UInt8) : ∀ l : List UInt8, joinB [c] (splitB c l) = l
  | [] => rfl
  | x :: r => by
    have ih := joinB_split c r
    unfold splitB
    split
    · rename_i e
      subst e
      cases h : splitB x r with
      | nil => exact absurd h (splitB_ne _ _)
      | cons a t => rw [h] at ih; simp [joinB, ih]
    · split
      · rename_i a t e
        rw [e] at ih
        cases t with
        | nil => simp [joinB] at ih ⊢; exact ih
        | cons b t => simp [joinB] at ih ⊢; rw [← ih]
      · rename_i e; exact absurd e (splitB_ne _ _)
theorem joinB_flat (sep : List UInt8) : ∀ l : List (List UInt8), (joinB sep l).length ≤ l.flatten.length + (l.length - 1) * sep.length
  | [] => by simp [joinB]
  | [x] => by simp [joinB]
  | x :: y :: r => by
    have ih := joinB_flat sep (y :: r)
    simp only [joinB, List.length_append, List.flatten_cons, List.length_cons] at ih ⊢
    have : (r.length + 1 + 1 - 1) * sep.length = (r.length + 1 - 1) * sep.length + sep.length := by
      rw [show r.length + 1 + 1 - 1 = (r.length + 1 - 1) + 1 by omega, Nat.add_mul, Nat.one_mul]
    omega

theorem len_str (l : List UInt8) : (ByteArray.mk l.toArray).size = l.length := by simp [ByteArray.size]

/-! ### the reference's layer 1 -/
theorem ref01_Few (s : List UInt8) (n : Int) (g : G) (h0 : 0 ≤ n) : Fn Try.prog 11 [str s, .int .i64 n] g [] fun v _ => v = str (s.take n.toNat) := by
  refine enterG [] [] Try.func11 rfl Try.ntmps11 rfl (by simp) fun g1 hv ho => ?_
  repeat (first|refine q1 ?_|refine q2 ?_|refine q3 ?_|refine q4 ?_|refine q5 ?_|refine q6 ?_|refine w_seq ?_|refine w_region ?_|refine w_ops_nil ?_|refine w_skip ?_|refine w_block ?_|refine w_blk ?_|refine q7 ?_|refine q8 ?_|refine q9 ?_)
  refine w_condP rfl (fun hc => ?_) (fun hc => ?_)
  · repeat (first|refine q1 ?_|refine q2 ?_|refine q3 ?_|refine q4 ?_|refine q5 ?_|refine q6 ?_|refine w_seq ?_|refine w_region ?_|refine w_ops_nil ?_|refine w_skip ?_|refine w_block ?_|refine w_blk ?_|refine q7 ?_|refine q8 ?_|refine q9 ?_)
    refine w_sliceStr (a := 0) (b := n.toNat) rfl rfl ⟨_, _, rfl, by omega⟩ (by omega) (by omega) rfl ?_
    repeat (first|refine q1 ?_|refine q2 ?_|refine q3 ?_|refine q4 ?_|refine q5 ?_|refine q6 ?_|refine w_seq ?_|refine w_region ?_|refine w_ops_nil ?_|refine w_skip ?_|refine w_block ?_|refine w_blk ?_|refine q7 ?_|refine q8 ?_|refine q9 ?_)
    exact w_retG (res1 rfl rfl) (Step.refl _ _ _) fun h' _ => by simp [str]
  · repeat (first|refine q1 ?_|refine q2 ?_|refine q3 ?_|refine q4 ?_|refine q5 ?_|refine q6 ?_|refine w_seq ?_|refine w_region ?_|refine w_ops_nil ?_|refine w_skip ?_|refine w_block ?_|refine w_blk ?_|refine q7 ?_|refine q8 ?_|refine q9 ?_)
    exact w_retG (res1 rfl rfl) (Step.refl _ _ _) fun h' _ => by rw [List.take_of_length_le (by omega)]

theorem take_succ_get {α : Type} (l : List α) (i : Nat) (x : α) (h : l[i]? = some x) : l.take (i + 1) = l.take i ++ [x] := by
  rw [List.take_add_one, h]; rfl
theorem drop_get {α : Type} (l : List α) (i : Nat) (x : α) (h : l[i]? = some x) : l.drop i = x :: l.drop (i + 1) := by
  obtain ⟨hi, he⟩ := List.getElem?_eq_some_iff.1 h
  rw [List.drop_eq_getElem_cons hi, he]

/-- What Split has at a round's begin: the pieces so far, where the next one begins, and where it stands. -/
def splitInv (c : UInt8) (s : List UInt8) (out : List (List UInt8)) (p i : Nat) : Prop :=
  p ≤ i ∧ i ≤ s.length ∧ out.length ≤ i ∧ c ∉ (s.drop p).take (i - p) ∧ splitB c s = out ++ splitB c (s.drop p)
theorem splitInv_hit {c : UInt8} {s : List UInt8} {out : List (List UInt8)} {p i : Nat} (h : splitInv c s out p i) (hi : s[i]? = some c) : splitInv c s (out ++ [(s.take i).drop p]) (i + 1) (i + 1) := by
  obtain ⟨h1, h2, h3, h4, h5⟩ := h
  obtain ⟨hlt, _⟩ := List.getElem?_eq_some_iff.1 hi
  refine ⟨Nat.le_refl _, hlt, by simp; omega, by simp, ?_⟩
  rw [h5, List.append_assoc]
  congr 1
  have e1 : s.drop p = (s.drop p).take (i - p) ++ c :: s.drop (i + 1) := by
    conv => lhs; rw [← List.take_append_drop (i - p) (s.drop p)]
    rw [List.drop_drop, show p + (i - p) = i by omega, drop_get s i c hi]
  rw [e1, splitB_append c h4, List.drop_take]
  rfl
theorem splitInv_miss {c x : UInt8} {s : List UInt8} {out : List (List UInt8)} {p i : Nat} (h : splitInv c s out p i) (hi : s[i]? = some x) (hx : ¬ x = c) : splitInv c s out p (i + 1) := by
  obtain ⟨h1, h2, h3, h4, h5⟩ := h
  obtain ⟨hlt, _⟩ := List.getElem?_eq_some_iff.1 hi
  refine ⟨by omega, hlt, by omega, ?_, h5⟩
  rw [show i + 1 - p = (i - p) + 1 by omega, take_succ_get (s.drop p) (i - p) x (by rw [List.getElem?_drop, show p + (i - p) = i by omega]; exact hi)]
  simp [h4]
  exact fun e => hx e.symm
theorem splitInv_end {c : UInt8} {s : List UInt8} {out : List (List UInt8)} {p : Nat} (h : splitInv c s out p s.length) : splitB c s = out ++ [s.drop p] := by
  obtain ⟨h1, h2, h3, h4, h5⟩ := h
  rw [h5, splitB_none c (by rwa [List.take_of_length_le (by simp)] at h4)]

theorem ref01_Split (s : List UInt8) (c : UInt8) (g : G) (hs : s.length ≤ 1099511627776) : Fn Try.prog 75 [str s, bv c] g [] fun v h => Rd h 0 El.str v (splitB c s) := by
  refine enterG [] [2] Try.func75 rfl Try.ntmps75 rfl (by simp) fun g1 hv ho => ?_
  repeat (first|refine q1 ?_|refine q2 ?_|refine q3 ?_|refine q4 ?_|refine q5 ?_|refine q6 ?_|refine w_seq ?_|refine w_region ?_|refine w_ops_nil ?_|refine w_skip ?_|refine w_block ?_|refine w_blk ?_|refine q7 ?_|refine q8 ?_|refine q9 ?_)
  refine w_loop (ι := List (List UInt8) × Value × Nat × Nat) (fun x => [(0, str s), (1, bv c), (5, x.2.1), (6, .int .i64 (x.2.2.1 : Int)), (7, .int .i64 (x.2.2.2 : Int))])
    (fun x w => ∃ h : G, h.w = w ∧ Step [] [2] g1 h ∧ Own h 2 El.str 9 x.2.1 x.1 ∧ splitInv c s x.1 x.2.2.1 x.2.2.2) (fun x => s.length - x.2.2.2)
    ([], .slice none 0 0, 0, 0) ⟨g1, rfl, Step.refl _ _ _, Own.nil _ _ _ _, by simp [splitInv]⟩ ⟨rfl, rfl, rfl, rfl, rfl, trivial⟩ ?_
  rintro ⟨out, v, p, i⟩ _ ⟨h, rfl, hst, hown, hinv⟩
  dsimp only at hst hown hinv ⊢
  have hle : i ≤ s.length := hinv.2.1
  have hpi : p ≤ i := hinv.1
  have hol : out.length ≤ i := hinv.2.2.1
  repeat (first|refine q1 ?_|refine q2 ?_|refine q3 ?_|refine q4 ?_|refine q5 ?_|refine q6 ?_|refine w_seq ?_|refine w_region ?_|refine w_ops_nil ?_|refine w_skip ?_|refine w_block ?_|refine w_blk ?_|refine q7 ?_|refine q8 ?_|refine q9 ?_)
  refine w_condP rfl (fun hc => ?_) (fun hc => ?_)
  · have hlt : i < s.length := by omega
    repeat (first|refine q1 ?_|refine q2 ?_|refine q3 ?_|refine q4 ?_|refine q5 ?_|refine q6 ?_|refine w_seq ?_|refine w_region ?_|refine w_ops_nil ?_|refine w_skip ?_|refine w_block ?_|refine w_blk ?_|refine q7 ?_|refine q8 ?_|refine q9 ?_)
    refine w_indexStr (b := s[i]) rfl rfl (by omega) (by simp [hlt]) rfl ?_
    repeat (first|refine q1 ?_|refine q2 ?_|refine q3 ?_|refine q4 ?_|refine q5 ?_|refine q6 ?_|refine w_seq ?_|refine w_region ?_|refine w_ops_nil ?_|refine w_skip ?_|refine w_block ?_|refine w_blk ?_|refine q7 ?_|refine q8 ?_|refine q9 ?_)
    refine w_condP rfl (fun hb => ?_) (fun hb => ?_)
    · repeat (first|refine q1 ?_|refine q2 ?_|refine q3 ?_|refine q4 ?_|refine q5 ?_|refine q6 ?_|refine w_seq ?_|refine w_region ?_|refine w_ops_nil ?_|refine w_skip ?_|refine w_block ?_|refine w_blk ?_|refine q7 ?_|refine q8 ?_|refine q9 ?_)
      refine w_sliceStr (a := p) (b := i) rfl ⟨_, _, rfl, rfl⟩ ⟨_, _, rfl, rfl⟩ (by omega) (by omega) rfl ?_
      refine w_buildSlR El.str [(s.take i).drop p] rfl rfl rfl rfl fun h2 v2 hs2 hr2 => ?_
      refine w_append (hown.step hs2 (by simp)) hr2 rfl rfl rfl (by decide) (by simp; omega) rfl fun h3 v3 hs3 ho3 => ?_
      repeat (first|refine q1 ?_|refine q2 ?_|refine q3 ?_|refine q4 ?_|refine q5 ?_|refine q6 ?_|refine w_seq ?_|refine w_region ?_|refine w_ops_nil ?_|refine w_skip ?_|refine w_block ?_|refine w_blk ?_|refine q7 ?_|refine q8 ?_|refine q9 ?_)
      have hcb : s[i]? = some c := by
        rw [List.getElem?_eq_getElem hlt]; congr 1
        have : (s[i].toNat : Int) = (c.toNat : Int) := hb
        exact UInt8.toNat_inj.1 (by omega)
      exact w_again (out ++ [(s.take i).drop p], v3, i + 1, i + 1) (by simp; omega) ⟨h3, rfl, (hst.trans hs2.nil).trans hs3, ho3, splitInv_hit hinv hcb⟩ ⟨rfl, rfl, rfl, rfl, rfl, trivial⟩
    · repeat (first|refine q1 ?_|refine q2 ?_|refine q3 ?_|refine q4 ?_|refine q5 ?_|refine q6 ?_|refine w_seq ?_|refine w_region ?_|refine w_ops_nil ?_|refine w_skip ?_|refine w_block ?_|refine w_blk ?_|refine q7 ?_|refine q8 ?_|refine q9 ?_)
      have hcb : ¬ s[i] = c := fun e => hb (by rw [e])
      exact w_again (out, v, p, i + 1) (by simp; omega) ⟨h, rfl, hst, hown, splitInv_miss hinv (List.getElem?_eq_getElem hlt) hcb⟩ ⟨rfl, rfl, rfl, rfl, rfl, trivial⟩
  · have hie : i = s.length := by omega
    subst hie
    repeat (first|refine q1 ?_|refine q2 ?_|refine q3 ?_|refine q4 ?_|refine q5 ?_|refine q6 ?_|refine w_seq ?_|refine w_region ?_|refine w_ops_nil ?_|refine w_skip ?_|refine w_block ?_|refine w_blk ?_|refine q7 ?_|refine q8 ?_|refine q9 ?_)
    refine w_sliceStr (a := p) (b := s.length) rfl ⟨_, _, rfl, rfl⟩ rfl (by omega) (by omega) rfl ?_
    refine w_buildSlR El.str [(s.take s.length).drop p] rfl rfl rfl rfl fun h2 v2 hs2 hr2 => ?_
    refine w_append (hown.step hs2 (by simp)) hr2 rfl rfl rfl (by decide) (by simp; omega) rfl fun h3 v3 hs3 ho3 => ?_
    repeat (first|refine q1 ?_|refine q2 ?_|refine q3 ?_|refine q4 ?_|refine q5 ?_|refine q6 ?_|refine w_seq ?_|refine w_region ?_|refine w_ops_nil ?_|refine w_skip ?_|refine w_block ?_|refine w_blk ?_|refine q7 ?_|refine q8 ?_|refine q9 ?_)
    obtain ⟨h4, hw4, hs4, hr4⟩ := ho3.freeze (by decide)
    rw [← hw4]
    refine w_retG (res1 rfl rfl) (((hst.trans hs2.nil).trans hs3).trans hs4) fun h' hv' => ?_
    rw [splitInv_end hinv]
    simpa using hr4.view hv' (.inl rfl)

end Go.Proofs.Ytnfokdhgajanpaa
