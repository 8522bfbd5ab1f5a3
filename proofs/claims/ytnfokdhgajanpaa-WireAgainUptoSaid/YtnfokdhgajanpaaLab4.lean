/- Names of hosts: the program's May, Parent. No statement of the seat is proved here. -/
import Derived.Test.YtnfokdhgajanpaaLab3
set_option linter.unusedVariables false
namespace Go.Proofs.Ytnfokdhgajanpaa
open Go
attribute [local irreducible] Wp

/-! ### a slice searched by a function -/
def idxP {α : Type} (p : α → Bool) : List α → Int
  | [] => -1
  | x :: l => if p x then 0 else if idxP p l = -1 then -1 else idxP p l + 1
theorem idxP_ge {α : Type} (p : α → Bool) : ∀ l : List α, -1 ≤ idxP p l
  | [] => by simp [idxP]
  | x :: l => by have := idxP_ge p l; unfold idxP; split; omega; split <;> omega
theorem idxP_any {α : Type} (p : α → Bool) : ∀ l : List α, decide (0 ≤ idxP p l) = l.any p
  | [] => by simp [idxP]
  | x :: l => by
    have ih := idxP_any p l
    have hg := idxP_ge p l
    unfold idxP
    by_cases hx : p x = true
    · simp [hx]
    · by_cases h1 : idxP p l = -1
      · have h2 : ¬ 0 ≤ idxP p l := by omega
        simp [h2] at ih
        simp [hx, h1]
        exact ih
      · have h2 : 0 ≤ idxP p l := by omega
        have h3 : 0 ≤ idxP p l + 1 := by omega
        simp [h2] at ih
        simp [hx, h1, h3]
        exact ih
theorem idxP_skip {α : Type} (p : α → Bool) : ∀ (l : List α) (i : Nat), (∀ j x, j < i → l[j]? = some x → p x = false) → i ≤ l.length → idxP p l = if idxP p (l.drop i) = -1 then -1 else idxP p (l.drop i) + (i : Int)
  | l, 0, _, _ => by simp
  | [], i + 1, _, h => by simp at h
  | x :: l, i + 1, hn, h => by
    have ih := idxP_skip p l i (fun j y hj hy => hn (j + 1) y (by omega) (by simpa using hy)) (by simpa using h)
    have hx : p x = false := hn 0 x (by omega) rfl
    have hg := idxP_ge p (l.drop i)
    rw [idxP, hx, List.drop_succ_cons]
    simp only [Bool.false_eq_true, if_false]
    rw [ih]
    split <;> split <;> omega

theorem IndexFunc_str (f : FuncId) (cap : Array Value) [Enter Try.prog f] (p : List UInt8 → Bool) (l : List (List UInt8)) (g : G) {c : Nat} {v : Value} (hr : Rd g c El.str v l)
    (hp : ∀ (x : List UInt8) (g : G), Fn Try.prog f (str x :: cap.toList) g [] fun u _ => u = .bool (p x)) :
    Fn Try.prog 96 [v, .func (.func f) #[] cap] g [] fun u _ => u = .int .i64 (idxP p l) := by
  refine enterG [] [] Try.func96 rfl Try.ntmps96 rfl (by simp) fun g1 hv ho => ?_
  obtain ⟨c', hc', hr1⟩ := hr.seen hv ho (by simp)
  have hlm := hr1.isSl.le
  repeat (first|refine q1 ?_|refine q2 ?_|refine q3 ?_|refine q4 ?_|refine q5 ?_|refine q6 ?_|refine w_seq ?_|refine w_region ?_|refine w_ops_nil ?_|refine w_skip ?_|refine w_block ?_|refine w_blk ?_|refine q7 ?_|refine q8 ?_|refine q9 ?_)
  refine w_lenSl hr1.isSl rfl rfl ?_
  repeat (first|refine q1 ?_|refine q2 ?_|refine q3 ?_|refine q4 ?_|refine q5 ?_|refine q6 ?_|refine w_seq ?_|refine w_region ?_|refine w_ops_nil ?_|refine w_skip ?_|refine w_block ?_|refine w_blk ?_|refine q7 ?_|refine q8 ?_|refine q9 ?_)
  refine w_loop (ι := Nat) (fun i => [(0, v), (1, .func (.func f) #[] cap), (7, .int .i64 (l.length : Int)), (8, .int .i64 (i : Int))])
    (fun i w => ∃ h : G, h.w = w ∧ Step [] [] g1 h ∧ i ≤ l.length ∧ ∀ j x, j < i → l[j]? = some x → p x = false) (fun i => l.length - i)
    0 ⟨g1, rfl, Step.refl _ _ _, by omega, fun j x hj => by omega⟩ ⟨rfl, rfl, rfl, rfl, trivial⟩ ?_
  rintro i _ ⟨h, rfl, hst, hi, hno⟩
  repeat (first|refine q1 ?_|refine q2 ?_|refine q3 ?_|refine q4 ?_|refine q5 ?_|refine q6 ?_|refine w_seq ?_|refine w_region ?_|refine w_ops_nil ?_|refine w_skip ?_|refine w_block ?_|refine w_blk ?_|refine q7 ?_|refine q8 ?_|refine q9 ?_)
  refine w_condP rfl (fun hc => ?_) (fun hc => ?_)
  · have hlt : i < l.length := by omega
    repeat (first|refine q1 ?_|refine q2 ?_|refine q3 ?_|refine q4 ?_|refine q5 ?_|refine q6 ?_|refine w_seq ?_|refine w_region ?_|refine w_ops_nil ?_|refine w_skip ?_|refine w_block ?_|refine w_blk ?_|refine q7 ?_|refine q8 ?_|refine q9 ?_)
    refine w_idx (hr1.go hst) rfl rfl (by omega) (by simp; omega) rfl ?_
    refine w_loadE (i := i) (y := l[i]) (hr1.go hst) rfl (by simp [hlt]) rfl rfl ?_
    refine w_callV (f := f) (first := #[]) (captured := cap) (by intro q; exact Operand.noConfusion) rfl rfl (hp l[i] h) rfl fun u h2 hs2 hu => ?_
    subst hu
    repeat (first|refine q1 ?_|refine q2 ?_|refine q3 ?_|refine q4 ?_|refine q5 ?_|refine q6 ?_|refine w_seq ?_|refine w_region ?_|refine w_ops_nil ?_|refine w_skip ?_|refine w_block ?_|refine w_blk ?_|refine q7 ?_|refine q8 ?_|refine q9 ?_)
    refine w_cond rfl (fun hb => ?_) (fun hb => ?_)
    · repeat (first|refine q1 ?_|refine q2 ?_|refine q3 ?_|refine q4 ?_|refine q5 ?_|refine q6 ?_|refine w_seq ?_|refine w_region ?_|refine w_ops_nil ?_|refine w_skip ?_|refine w_block ?_|refine w_blk ?_|refine q7 ?_|refine q8 ?_|refine q9 ?_)
      refine w_retG (res1 rfl rfl) (hst.go hs2) fun h' _ => ?_
      rw [idxP_skip p l i hno hi, List.drop_eq_getElem_cons hlt, idxP, if_pos hb]; simp
    · repeat (first|refine q1 ?_|refine q2 ?_|refine q3 ?_|refine q4 ?_|refine q5 ?_|refine q6 ?_|refine w_seq ?_|refine w_region ?_|refine w_ops_nil ?_|refine w_skip ?_|refine w_block ?_|refine w_blk ?_|refine q7 ?_|refine q8 ?_|refine q9 ?_)
      refine w_again (i + 1) (by omega) ⟨h2, rfl, hst.go hs2, by omega, fun j x hj hx => ?_⟩ ⟨rfl, rfl, rfl, rfl, trivial⟩
      by_cases e : j = i
      · subst e; rw [List.getElem?_eq_getElem hlt] at hx; injection hx with hx; subst hx; exact hb
      · exact hno j x (by omega) hx
  · have : i = l.length := by omega
    subst this
    repeat (first|refine q1 ?_|refine q2 ?_|refine q3 ?_|refine q4 ?_|refine q5 ?_|refine q6 ?_|refine w_seq ?_|refine w_region ?_|refine w_ops_nil ?_|refine w_skip ?_|refine w_block ?_|refine w_blk ?_|refine q7 ?_|refine q8 ?_|refine q9 ?_)
    refine w_retG (res1 rfl rfl) hst fun h' _ => ?_
    rw [idxP_skip p l l.length hno hi, List.drop_length]; rfl
theorem ContainsFunc_str (f : FuncId) (cap : Array Value) [Enter Try.prog f] (p : List UInt8 → Bool) (l : List (List UInt8)) (g : G) {c : Nat} {v : Value} (hr : Rd g c El.str v l)
    (hp : ∀ (x : List UInt8) (g : G), Fn Try.prog f (str x :: cap.toList) g [] fun u _ => u = .bool (p x)) :
    Fn Try.prog 77 [v, .func (.func f) #[] cap] g [] fun u _ => u = .bool (l.any p) := by
  refine enterG [] [] Try.func77 rfl Try.ntmps77 rfl (by simp) fun g1 hv ho => ?_
  obtain ⟨c', hc', hr1⟩ := hr.seen hv ho (by simp)
  repeat (first|refine q1 ?_|refine q2 ?_|refine q3 ?_|refine q4 ?_|refine q5 ?_|refine q6 ?_|refine w_seq ?_|refine w_region ?_|refine w_ops_nil ?_|refine w_skip ?_|refine w_block ?_|refine w_blk ?_|refine q7 ?_|refine q8 ?_|refine q9 ?_)
  refine w_callF rfl (IndexFunc_str f cap p l g1 hr1 hp) rfl fun u h hs hu => ?_
  subst hu
  repeat (first|refine q1 ?_|refine q2 ?_|refine q3 ?_|refine q4 ?_|refine q5 ?_|refine q6 ?_|refine w_seq ?_|refine w_region ?_|refine w_ops_nil ?_|refine w_skip ?_|refine w_block ?_|refine w_blk ?_|refine q7 ?_|refine q8 ?_|refine q9 ?_)
  refine w_retG (res1 rfl rfl) hs.nil fun h' _ => ?_
  rw [← idxP_any]

theorem label_May1 (x : List UInt8) (g : G) : Fn Try.prog 76 [str x] g [] fun u _ => u = .bool (!(okLab x)) := by
  refine enterG [] [] Try.func76 rfl Try.ntmps76 rfl (by simp) fun g1 hv ho => ?_
  repeat (first|refine q1 ?_|refine q2 ?_|refine q3 ?_|refine q4 ?_|refine q5 ?_|refine q6 ?_|refine w_seq ?_|refine w_region ?_|refine w_ops_nil ?_|refine w_skip ?_|refine w_block ?_|refine w_blk ?_|refine q7 ?_|refine q8 ?_|refine q9 ?_)
  refine w_splitP 5 rfl (fun h1 => ?_) (fun h1 => ?_)
  · have h1 : x = [] := h1
    subst h1
    repeat (first|refine q1 ?_|refine q2 ?_|refine q3 ?_|refine q4 ?_|refine q5 ?_|refine q6 ?_|refine w_seq ?_|refine w_region ?_|refine w_ops_nil ?_|refine w_skip ?_|refine w_block ?_|refine w_blk ?_|refine q7 ?_|refine q8 ?_|refine q9 ?_)
    exact w_retG (res1 rfl rfl) (Step.refl _ _ _) fun h' _ => rfl
  · have h1 : ¬ x = [] := h1
    have h2 := List.length_pos_iff.2 h1
    repeat (first|refine q1 ?_|refine q2 ?_|refine q3 ?_|refine q4 ?_|refine q5 ?_|refine q6 ?_|refine w_seq ?_|refine w_region ?_|refine w_ops_nil ?_|refine w_skip ?_|refine w_block ?_|refine w_blk ?_|refine q7 ?_|refine q8 ?_|refine q9 ?_)
    refine w_retG (res1 rfl rfl) (Step.refl _ _ _) fun h' _ => ?_
    refine congrArg Value.bool ?_
    rw [Bool.eq_iff_iff]
    simp [okLab, h1]
    omega

theorem label_May (s : List UInt8) (g : G) (hs : s.length ≤ 1000000000) : Fn Try.prog 41 [str s] g [] fun u _ => u = .bool (mayB s) := by
  refine enterG [] [] Try.func41 rfl Try.ntmps41 rfl (by simp) fun g1 hv ho => ?_
  repeat (first|refine q1 ?_|refine q2 ?_|refine q3 ?_|refine q4 ?_|refine q5 ?_|refine q6 ?_|refine w_seq ?_|refine w_region ?_|refine w_ops_nil ?_|refine w_skip ?_|refine w_block ?_|refine w_blk ?_|refine q7 ?_|refine q8 ?_|refine q9 ?_)
  have key : mayB s = (decide (s.length ≤ 253) && (labelsB s).all okLab) := by
    unfold mayB
    by_cases h0 : s = []
    · subst h0; rfl
    · have e : sizeB (labelsB s) = s.length + 2 := by
        rw [labelsB, if_neg h0, sizeB]
        have := splitB_total 46 s
        omega
      rw [e, Bool.and_comm]
      congr 1
      simp
  refine w_splitP 7 rfl (fun h1 => ?_) (fun h1 => ?_)
  · repeat (first|refine q1 ?_|refine q2 ?_|refine q3 ?_|refine q4 ?_|refine q5 ?_|refine q6 ?_|refine w_seq ?_|refine w_region ?_|refine w_ops_nil ?_|refine w_skip ?_|refine w_block ?_|refine w_blk ?_|refine q7 ?_|refine q8 ?_|refine q9 ?_)
    refine w_callF rfl (label_Labels s g1 hs) rfl fun v h hs1 hr => ?_
    repeat (first|refine q1 ?_|refine q2 ?_|refine q3 ?_|refine q4 ?_|refine q5 ?_|refine q6 ?_|refine w_seq ?_|refine w_region ?_|refine w_ops_nil ?_|refine w_skip ?_|refine w_block ?_|refine w_blk ?_|refine q7 ?_|refine q8 ?_|refine q9 ?_)
    refine w_callF rfl (ContainsFunc_str 76 #[] (fun x => !(okLab x)) _ h hr fun x g => label_May1 x g) rfl fun u h2 hs2 hu => ?_
    subst hu
    repeat (first|refine q1 ?_|refine q2 ?_|refine q3 ?_|refine q4 ?_|refine q5 ?_|refine q6 ?_|refine w_seq ?_|refine w_region ?_|refine w_ops_nil ?_|refine w_skip ?_|refine w_block ?_|refine w_blk ?_|refine q7 ?_|refine q8 ?_|refine q9 ?_)
    refine w_retG (res1 rfl rfl) (hs1.go hs2).nil fun h' _ => ?_
    rw [key, List.all_eq_not_any_not]
    simp
    omega
  · repeat (first|refine q1 ?_|refine q2 ?_|refine q3 ?_|refine q4 ?_|refine q5 ?_|refine q6 ?_|refine w_seq ?_|refine w_region ?_|refine w_ops_nil ?_|refine w_skip ?_|refine w_block ?_|refine w_blk ?_|refine q7 ?_|refine q8 ?_|refine q9 ?_)
    refine w_retG (res1 rfl rfl) (Step.refl _ _ _) fun h' _ => ?_
    rw [key]; simp; omega

/-! ### searching a byte -/
instance : Ext Try.prog 118 Extern.BytealgIndexByte.indexByte := ⟨run_callFunc_extern Try.func118 (by kernel_rfl) (by kernel_rfl) (by kernel_rfl) (by kernel_rfl)⟩
def idxB (c : UInt8) (s : List UInt8) : Int := idxP (fun b => b == c) s
theorem indexByte_idxB (c : UInt8) : ∀ s : List UInt8, Lib.indexByte s c = idxB c s
  | [] => rfl
  | b :: s => by
    have ih := indexByte_idxB c s
    unfold idxB at ih ⊢
    rw [Lib.indexByte, idxP, ih]
    by_cases h : b == c <;> simp [h]
theorem idxB_le (c : UInt8) (s : List UInt8) : idxB c s < s.length ∨ idxB c s = -1 := by
  induction s with
  | nil => exact .inr rfl
  | cons b s ih =>
    unfold idxB at ih ⊢
    rw [idxP]
    have := idxP_ge (fun b => b == c) s
    split
    · left; simp only [List.length_cons]; omega
    · split
      · right; rfl
      · left; simp only [List.length_cons]; omega
theorem stringslite_IndexByte (s : List UInt8) (c : UInt8) (g : G) : Fn Try.prog 109 [str s, bv c] g [] fun u _ => u = .int .i64 (idxB c s) := by
  refine enterG [] [] Try.func109 rfl Try.ntmps109 rfl (by simp) fun g1 hv ho => ?_
  repeat (first|refine q1 ?_|refine q2 ?_|refine q3 ?_|refine q4 ?_|refine q5 ?_|refine q6 ?_|refine w_seq ?_|refine w_region ?_|refine w_ops_nil ?_|refine w_skip ?_|refine w_block ?_|refine w_blk ?_|refine q7 ?_|refine q8 ?_|refine q9 ?_)
  refine w_ext (h := g1) rfl ((Lib.run_indexByteString ⟨s.toArray⟩ (c.toNat : Int) g1.w)) rfl ?_
  repeat (first|refine q1 ?_|refine q2 ?_|refine q3 ?_|refine q4 ?_|refine q5 ?_|refine q6 ?_|refine w_seq ?_|refine w_region ?_|refine w_ops_nil ?_|refine w_skip ?_|refine w_block ?_|refine w_blk ?_|refine q7 ?_|refine q8 ?_|refine q9 ?_)
  refine w_retG (res1 rfl rfl) (Step.refl _ _ _) fun h' _ => ?_
  rw [← indexByte_idxB]
  have e : ((c.toNat : Int).toNat).toUInt8 = c := by simp
  rw [e]
theorem stringslite_Index1 (s : List UInt8) (c : UInt8) (g : G) : Fn Try.prog 98 [str s, str [c]] g [] fun u _ => u = .int .i64 (idxB c s) := by
  refine enterG [] [] Try.func98 rfl Try.ntmps98 rfl (by simp) fun g1 hv ho => ?_
  repeat (first|refine q1 ?_|refine q2 ?_|refine q3 ?_|refine q4 ?_|refine o5 ?_|refine o6 ?_|refine w_seq ?_|refine w_region ?_|refine w_ops_nil ?_|refine w_skip ?_|refine w_block ?_|refine w_blk ?_|refine q7 ?_|refine o8 ?_|refine o9 ?_)
  refine w_condP rfl (fun he => ?_) (fun he => ?_)
  · have he : [c] = s := he
    subst he
    repeat (first|refine q1 ?_|refine q2 ?_|refine q3 ?_|refine q4 ?_|refine q5 ?_|refine q6 ?_|refine w_seq ?_|refine w_region ?_|refine w_ops_nil ?_|refine w_skip ?_|refine w_block ?_|refine w_blk ?_|refine q7 ?_|refine q8 ?_|refine q9 ?_)
    exact w_retG (res1 rfl rfl) (Step.refl _ _ _) fun h' _ => by simp [idxB, idxP]
  repeat (first|refine q1 ?_|refine q2 ?_|refine q3 ?_|refine q4 ?_|refine o5 ?_|refine o6 ?_|refine w_seq ?_|refine w_region ?_|refine w_ops_nil ?_|refine w_skip ?_|refine w_block ?_|refine w_blk ?_|refine q7 ?_|refine o8 ?_|refine o9 ?_)
  refine w_indexStr (b := c) rfl rfl (by omega) rfl rfl ?_
  repeat (first|refine q1 ?_|refine q2 ?_|refine q3 ?_|refine q4 ?_|refine q5 ?_|refine q6 ?_|refine w_seq ?_|refine w_region ?_|refine w_ops_nil ?_|refine w_skip ?_|refine w_block ?_|refine w_blk ?_|refine q7 ?_|refine q8 ?_|refine q9 ?_)
  refine w_callF rfl (stringslite_IndexByte s c g1) rfl fun u h hs hu => ?_
  subst hu
  repeat (first|refine q1 ?_|refine q2 ?_|refine q3 ?_|refine q4 ?_|refine q5 ?_|refine q6 ?_|refine w_seq ?_|refine w_region ?_|refine w_ops_nil ?_|refine w_skip ?_|refine w_block ?_|refine w_blk ?_|refine q7 ?_|refine q8 ?_|refine q9 ?_)
  exact w_retG (res1 rfl rfl) hs.nil fun h' _ => rfl
theorem strings_Index1 (s : List UInt8) (c : UInt8) (g : G) : Fn Try.prog 80 [str s, str [c]] g [] fun u _ => u = .int .i64 (idxB c s) := by
  refine enterG [] [] Try.func80 rfl Try.ntmps80 rfl (by simp) fun g1 hv ho => ?_
  repeat (first|refine q1 ?_|refine q2 ?_|refine q3 ?_|refine q4 ?_|refine q5 ?_|refine q6 ?_|refine w_seq ?_|refine w_region ?_|refine w_ops_nil ?_|refine w_skip ?_|refine w_block ?_|refine w_blk ?_|refine q7 ?_|refine q8 ?_|refine q9 ?_)
  refine w_callF rfl (stringslite_Index1 s c g1) rfl fun u h hs hu => ?_
  subst hu
  repeat (first|refine q1 ?_|refine q2 ?_|refine q3 ?_|refine q4 ?_|refine q5 ?_|refine q6 ?_|refine w_seq ?_|refine w_region ?_|refine w_ops_nil ?_|refine w_skip ?_|refine w_block ?_|refine w_blk ?_|refine q7 ?_|refine q8 ?_|refine q9 ?_)
  exact w_retG (res1 rfl rfl) hs.nil fun h' _ => rfl
theorem strings_Contains1 (s : List UInt8) (c : UInt8) (g : G) : Fn Try.prog 45 [str s, str [c]] g [] fun u _ => u = .bool (decide (c ∈ s)) := by
  refine enterG [] [] Try.func45 rfl Try.ntmps45 rfl (by simp) fun g1 hv ho => ?_
  repeat (first|refine q1 ?_|refine q2 ?_|refine q3 ?_|refine q4 ?_|refine q5 ?_|refine q6 ?_|refine w_seq ?_|refine w_region ?_|refine w_ops_nil ?_|refine w_skip ?_|refine w_block ?_|refine w_blk ?_|refine q7 ?_|refine q8 ?_|refine q9 ?_)
  refine w_callF rfl (strings_Index1 s c g1) rfl fun u h hs hu => ?_
  subst hu
  repeat (first|refine q1 ?_|refine q2 ?_|refine q3 ?_|refine q4 ?_|refine q5 ?_|refine q6 ?_|refine w_seq ?_|refine w_region ?_|refine w_ops_nil ?_|refine w_skip ?_|refine w_block ?_|refine w_blk ?_|refine q7 ?_|refine q8 ?_|refine q9 ?_)
  refine w_retG (res1 rfl rfl) hs.nil fun h' _ => ?_
  refine congrArg Value.bool ?_
  rw [idxB, idxP_any]
  rw [Bool.eq_iff_iff]
  simp

def parentB (s : List UInt8) : List UInt8 := if idxB 46 s = -1 then [] else s.drop ((idxB 46 s).toNat + 1)
def cutB (c : UInt8) (s : List UInt8) : List UInt8 × List UInt8 × Bool := if idxB c s = -1 then (s, [], false) else (s.take (idxB c s).toNat, s.drop ((idxB c s).toNat + 1), true)
theorem stringslite_Cut1 (s : List UInt8) (c : UInt8) (g : G) (hs : s.length ≤ 1000000000) : Fn Try.prog 97 [str s, str [c]] g [] fun u _ => u = .tuple #[str (cutB c s).1, str (cutB c s).2.1, .bool (cutB c s).2.2] := by
  refine enterG [] [] Try.func97 rfl Try.ntmps97 rfl (by simp) fun g1 hv ho => ?_
  repeat (first|refine q1 ?_|refine q2 ?_|refine q3 ?_|refine q4 ?_|refine q5 ?_|refine q6 ?_|refine w_seq ?_|refine w_region ?_|refine w_ops_nil ?_|refine w_skip ?_|refine w_block ?_|refine w_blk ?_|refine q7 ?_|refine q8 ?_|refine q9 ?_)
  refine w_callF rfl (stringslite_Index1 s c g1) rfl fun u h hs1 hu => ?_
  subst hu
  have hge := idxP_ge (fun b => b == c) s
  rw [show idxP (fun b => b == c) s = idxB c s from rfl] at hge
  have hle := idxB_le c s
  repeat (first|refine q1 ?_|refine q2 ?_|refine q3 ?_|refine q4 ?_|refine q5 ?_|refine q6 ?_|refine w_seq ?_|refine w_region ?_|refine w_ops_nil ?_|refine w_skip ?_|refine w_block ?_|refine w_blk ?_|refine q7 ?_|refine q8 ?_|refine q9 ?_)
  refine w_condP rfl (fun h1 => ?_) (fun h1 => ?_)
  · obtain ⟨i, hi⟩ : ∃ i : Nat, idxB c s = i := ⟨(idxB c s).toNat, by omega⟩
    rw [hi] at hle h1 ⊢
    repeat (first|refine q1 ?_|refine q2 ?_|refine q3 ?_|refine q4 ?_|refine q5 ?_|refine q6 ?_|refine w_seq ?_|refine w_region ?_|refine w_ops_nil ?_|refine w_skip ?_|refine w_block ?_|refine w_blk ?_|refine q7 ?_|refine q8 ?_|refine q9 ?_)
    refine d_begin none [] (by kernel_rfl) fun g2 hs2 => ?_
    refine d_pure 0 calm_ret rfl (by kernel_rfl) rfl rfl ?_; refine d_pure 1 calm_ret rfl (by kernel_rfl) rfl rfl ?_
    refine d_read 2 calm_ret rfl (by kernel_rfl) rfl  (fun h hs => r_sliceStr (a := 0) (b := i) rfl rfl ⟨_, _, rfl, rfl⟩ (by omega) (by omega)) ?_
    refine d_pure 3 calm_ret rfl (by kernel_rfl) rfl rfl ?_; refine d_pure 4 calm_ret rfl (by kernel_rfl) rfl rfl ?_; refine d_pure 5 calm_ret rfl (by kernel_rfl) rfl rfl ?_
    refine d_read 6 calm_ret rfl (by kernel_rfl) rfl  (fun h hs => r_lenStr rfl) ?_
    refine d_read 7 calm_ret rfl (by kernel_rfl) rfl  (fun h hs => r_add rfl rfl (by simp; omega)) ?_
    refine d_read 8 calm_ret rfl (by kernel_rfl) rfl  (fun h hs => r_sliceStr (a := i + 1) (b := s.length) rfl ⟨_, _, rfl, by simp⟩ rfl (by omega) (by omega)) ?_
    refine d_pure 9 calm_ret rfl (by kernel_rfl) rfl rfl ?_; refine d_pure 10 calm_ret rfl (by kernel_rfl) rfl rfl ?_; refine d_pure 11 calm_ret rfl (by kernel_rfl) rfl rfl ?_
    refine d_done (by kernel_rfl) ?_
    repeat (first|refine q1 ?_|refine q2 ?_|refine q3 ?_|refine q4 ?_|refine q5 ?_|refine q6 ?_|refine w_seq ?_|refine w_region ?_|refine w_ops_nil ?_|refine w_skip ?_|refine w_block ?_|refine w_blk ?_|refine q7 ?_|refine q8 ?_|refine q9 ?_)
    refine w_retG (res3 rfl rfl rfl rfl) (hs1.go hs2).nil fun h' _ => ?_
    have h2 : ¬ idxB c s = -1 := by omega
    rw [cutB, if_neg h2, hi]
    simp [str]
  · have h2 : idxB c s = -1 := by omega
    repeat (first|refine q1 ?_|refine q2 ?_|refine q3 ?_|refine q4 ?_|refine q5 ?_|refine q6 ?_|refine w_seq ?_|refine w_region ?_|refine w_ops_nil ?_|refine w_skip ?_|refine w_block ?_|refine w_blk ?_|refine q7 ?_|refine q8 ?_|refine q9 ?_)
    refine w_retG (res3 rfl rfl rfl rfl) hs1.nil fun h' _ => ?_
    rw [cutB, if_pos h2]; rfl
theorem strings_Cut1 (s : List UInt8) (c : UInt8) (g : G) (hs : s.length ≤ 1000000000) : Fn Try.prog 79 [str s, str [c]] g [] fun u _ => u = .tuple #[str (cutB c s).1, str (cutB c s).2.1, .bool (cutB c s).2.2] := by
  refine enterG [] [] Try.func79 rfl Try.ntmps79 rfl (by simp) fun g1 hv ho => ?_
  repeat (first|refine q1 ?_|refine q2 ?_|refine q3 ?_|refine q4 ?_|refine q5 ?_|refine q6 ?_|refine w_seq ?_|refine w_region ?_|refine w_ops_nil ?_|refine w_skip ?_|refine w_block ?_|refine w_blk ?_|refine q7 ?_|refine q8 ?_|refine q9 ?_)
  refine w_callF rfl (stringslite_Cut1 s c g1 hs) rfl fun u h hs1 hu => ?_
  subst hu
  repeat (first|refine q1 ?_|refine q2 ?_|refine q3 ?_|refine q4 ?_|refine q5 ?_|refine q6 ?_|refine w_seq ?_|refine w_region ?_|refine w_ops_nil ?_|refine w_skip ?_|refine w_block ?_|refine w_blk ?_|refine q7 ?_|refine q8 ?_|refine q9 ?_)
  exact w_retG (res3 rfl rfl rfl rfl) hs1.nil fun h' _ => rfl
theorem label_Parent (s : List UInt8) (g : G) (hs : s.length ≤ 1000000000) : Fn Try.prog 43 [str s] g [] fun u _ => u = str (parentB s) := by
  refine enterG [] [] Try.func43 rfl Try.ntmps43 rfl (by simp) fun g1 hv ho => ?_
  repeat (first|refine q1 ?_|refine q2 ?_|refine q3 ?_|refine q4 ?_|refine q5 ?_|refine q6 ?_|refine w_seq ?_|refine w_region ?_|refine w_ops_nil ?_|refine w_skip ?_|refine w_block ?_|refine w_blk ?_|refine q7 ?_|refine q8 ?_|refine q9 ?_)
  refine w_callF rfl (strings_Cut1 s 46 g1 hs) rfl fun u h hs1 hu => ?_
  subst hu
  repeat (first|refine q1 ?_|refine q2 ?_|refine q3 ?_|refine q4 ?_|refine q5 ?_|refine q6 ?_|refine w_seq ?_|refine w_region ?_|refine w_ops_nil ?_|refine w_skip ?_|refine w_block ?_|refine w_blk ?_|refine q7 ?_|refine q8 ?_|refine q9 ?_)
  refine w_retG (res1 rfl rfl) hs1.nil fun h' _ => ?_
  unfold parentB cutB
  split <;> rfl
end Go.Proofs.Ytnfokdhgajanpaa
