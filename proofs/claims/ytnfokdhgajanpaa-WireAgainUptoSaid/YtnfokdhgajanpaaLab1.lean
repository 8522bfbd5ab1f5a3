/- Names of hosts: the plain functions, and the contracts of the reference's layer 8. No statement of the seat is proved here. -/
import Derived.Test.YtnfokdhgajanpaaTxt
import Derived.Test.YtnfokdhgajanpaaEng7
set_option linter.unusedVariables false
namespace Go.Proofs.Ytnfokdhgajanpaa
open Go
attribute [local irreducible] Wp

def labelsB (s : List UInt8) : List (List UInt8) := if s = [] then [] else splitB 46 s
def sizeB (l : List (List UInt8)) : Nat := 1 + l.flatten.length + l.length
def okLab (l : List UInt8) : Bool := decide (1 ≤ l.length) && decide (l.length ≤ 63)
def mayB (s : List UInt8) : Bool := (labelsB s).all okLab && decide (sizeB (labelsB s) ≤ 255)
def restB (s : List UInt8) (n : Nat) : List UInt8 := joinB [46] ((labelsB s).drop n)

theorem labelsB_length (s : List UInt8) : (labelsB s).length ≤ s.length + 1 := by
  unfold labelsB; split
  · simp
  · exact splitB_length _ _
theorem labelsB_flat (s : List UInt8) : (labelsB s).flatten.length ≤ s.length := by
  unfold labelsB; split
  · simp
  · exact splitB_flat _ _
theorem splitB_total (c : UInt8) : ∀ l : List UInt8, (splitB c l).flatten.length + (splitB c l).length = l.length + 1
  | [] => by simp [splitB]
  | x :: r => by
    have ih := splitB_total c r
    unfold splitB
    split
    · simp only [List.flatten_cons, List.length_append, List.length_cons, List.length_nil]; omega
    · split
      · rename_i h t e; rw [e] at ih; simp only [List.flatten_cons, List.length_append, List.length_cons] at ih ⊢; omega
      · rename_i e; exact absurd e (splitB_ne _ _)
theorem joinB_snoc (sep x : List UInt8) : ∀ l : List (List UInt8), l ≠ [] → joinB sep (l ++ [x]) = joinB sep l ++ sep ++ x
  | [], h => absurd rfl h
  | [y], _ => by simp [joinB]
  | y :: z :: r, _ => by
    have ih := joinB_snoc sep x (z :: r) (by simp)
    simp only [List.cons_append, joinB] at ih ⊢
    rw [ih]; simp [List.append_assoc]
theorem flatten_take {α : Type} (l : List (List α)) (i : Nat) : (l.take i).flatten.length ≤ l.flatten.length := by
  conv => rhs; rw [← List.take_append_drop i l, List.flatten_append, List.length_append]
  omega
theorem flatten_drop {α : Type} (l : List (List α)) (i : Nat) : (l.drop i).flatten.length ≤ l.flatten.length := by
  conv => rhs; rw [← List.take_append_drop i l, List.flatten_append, List.length_append]
  omega
theorem len_le_flatten {α : Type} : ∀ (l : List (List α)) (i : Nat) (x : List α), l[i]? = some x → x.length ≤ l.flatten.length
  | [], i, x, h => by simp at h
  | y :: l, 0, x, h => by simp at h; subst h; simp
  | y :: l, i + 1, x, h => by have := len_le_flatten l i x (by simpa using h); simp only [List.flatten_cons, List.length_append]; omega

theorem ref08_Labels (s : List UInt8) (g : G) (hs : s.length ≤ 1099511627776) : Fn Try.prog 38 [str s] g [] fun v h => Rd h 0 El.str v (labelsB s) := by
  refine enterG [] [2] Try.func38 rfl Try.ntmps38 rfl (by simp) fun g1 hv ho => ?_
  repeat (first|refine q1 ?_|refine q2 ?_|refine q3 ?_|refine q4 ?_|refine q5 ?_|refine q6 ?_|refine w_seq ?_|refine w_region ?_|refine w_ops_nil ?_|refine w_skip ?_|refine w_block ?_|refine w_blk ?_|refine q7 ?_|refine q8 ?_|refine q9 ?_)
  refine w_condP rfl (fun hc => ?_) (fun hc => ?_)
  · have hc : s = [] := hc
    subst hc
    repeat (first|refine q1 ?_|refine q2 ?_|refine q3 ?_|refine q4 ?_|refine q5 ?_|refine q6 ?_|refine w_seq ?_|refine w_region ?_|refine w_ops_nil ?_|refine w_skip ?_|refine w_block ?_|refine w_blk ?_|refine q7 ?_|refine q8 ?_|refine q9 ?_)
    exact w_retG (res1 rfl rfl) (Step.refl _ _ _) fun h' _ => Rd.nil _ _ _ none 0 (by decide)
  · have hc : ¬ s = [] := hc
    repeat (first|refine q1 ?_|refine q2 ?_|refine q3 ?_|refine q4 ?_|refine q5 ?_|refine q6 ?_|refine w_seq ?_|refine w_region ?_|refine w_ops_nil ?_|refine w_skip ?_|refine w_block ?_|refine w_blk ?_|refine q7 ?_|refine q8 ?_|refine q9 ?_)
    refine w_callF rfl (ref01_Split s 46 g1 hs) rfl fun v h hs1 hr => ?_
    repeat (first|refine q1 ?_|refine q2 ?_|refine q3 ?_|refine q4 ?_|refine q5 ?_|refine q6 ?_|refine w_seq ?_|refine w_region ?_|refine w_ops_nil ?_|refine w_skip ?_|refine w_block ?_|refine w_blk ?_|refine q7 ?_|refine q8 ?_|refine q9 ?_)
    refine w_retG (res1 rfl rfl) hs1.nil fun h' hv' => ?_
    rw [labelsB, if_neg hc]
    exact hr.view hv' (.inl rfl)

theorem ref08_size (l : List (List UInt8)) (g : G) {c : Nat} {v : Value} (hr : Rd g c El.str v l) (hb : l.flatten.length + l.length ≤ 1099511627776) : Fn Try.prog 74 [v] g [] fun u _ => u = .int .i64 (sizeB l : Int) := by
  refine enterG [] [] Try.func74 rfl Try.ntmps74 rfl (by simp) fun g1 hv ho => ?_
  obtain ⟨c', hc', hr1⟩ := hr.seen hv ho (by simp)
  repeat (first|refine q1 ?_|refine q2 ?_|refine q3 ?_|refine q4 ?_|refine q5 ?_|refine q6 ?_|refine w_seq ?_|refine w_region ?_|refine w_ops_nil ?_|refine w_skip ?_|refine w_block ?_|refine w_blk ?_|refine q7 ?_|refine q8 ?_|refine q9 ?_)
  refine w_loop (ι := Nat) (fun i => [(0, v), (3, .int .i64 (sizeB (l.take i) : Int)), (4, .int .i64 (i : Int))])
    (fun i w => w = g1.w ∧ i ≤ l.length) (fun i => l.length - i) 0 ⟨rfl, by omega⟩ ⟨rfl, rfl, rfl, trivial⟩ ?_
  rintro i _ ⟨rfl, hi⟩
  repeat (first|refine q1 ?_|refine q2 ?_|refine q3 ?_|refine q4 ?_|refine q5 ?_|refine q6 ?_|refine w_seq ?_|refine w_region ?_|refine w_ops_nil ?_|refine w_skip ?_|refine w_block ?_|refine w_blk ?_|refine q7 ?_|refine q8 ?_|refine q9 ?_)
  refine w_lenSl hr1.isSl rfl rfl ?_
  repeat (first|refine q1 ?_|refine q2 ?_|refine q3 ?_|refine q4 ?_|refine q5 ?_|refine q6 ?_|refine w_seq ?_|refine w_region ?_|refine w_ops_nil ?_|refine w_skip ?_|refine w_block ?_|refine w_blk ?_|refine q7 ?_|refine q8 ?_|refine q9 ?_)
  have hsz : sizeB (l.take i) ≤ 1 + l.flatten.length + l.length := by
    have := flatten_take l i
    unfold sizeB; simp only [List.length_take]; omega
  refine w_condP rfl (fun hc => ?_) (fun hc => ?_)
  · have hlt : i < l.length := by omega
    repeat (first|refine q1 ?_|refine q2 ?_|refine q3 ?_|refine q4 ?_|refine q5 ?_|refine q6 ?_|refine w_seq ?_|refine w_region ?_|refine w_ops_nil ?_|refine w_skip ?_|refine w_block ?_|refine w_blk ?_|refine q7 ?_|refine q8 ?_|refine q9 ?_)
    refine w_idx hr1 rfl rfl (by omega) (by simp; omega) rfl ?_
    refine w_loadE (y := l[i]) hr1 rfl (by simp [hlt]) rfl rfl ?_
    have hle := len_le_flatten l i l[i] (by simp [hlt])
    repeat (first|refine q1 ?_|refine q2 ?_|refine q3 ?_|refine q4 ?_|refine q5 ?_|refine q6 ?_|refine w_seq ?_|refine w_region ?_|refine w_ops_nil ?_|refine w_skip ?_|refine w_block ?_|refine w_blk ?_|refine q7 ?_|refine q8 ?_|refine q9 ?_)
    refine w_again (i + 1) (by omega) ⟨rfl, by omega⟩ ⟨rfl, ?_, rfl, trivial⟩
    have e : sizeB (l.take (i + 1)) = sizeB (l.take i) + 1 + l[i].length := by
      unfold sizeB; rw [List.take_succ_eq_append_getElem hlt, List.flatten_append, List.length_append, List.length_append]; simp only [List.flatten_cons, List.flatten_nil, List.append_nil, List.length_cons, List.length_nil]; omega
    rw [e]; rfl
  · have : i = l.length := by omega
    subst this
    repeat (first|refine q1 ?_|refine q2 ?_|refine q3 ?_|refine q4 ?_|refine q5 ?_|refine q6 ?_|refine w_seq ?_|refine w_region ?_|refine w_ops_nil ?_|refine w_skip ?_|refine w_block ?_|refine w_blk ?_|refine q7 ?_|refine q8 ?_|refine q9 ?_)
    exact w_retG (res1 rfl rfl) (Step.refl _ _ _) fun h' _ => by rw [List.take_length]

theorem ref08_May (s : List UInt8) (g : G) (hs : s.length ≤ 1000000000) : Fn Try.prog 37 [str s] g [] fun u _ => u = .bool (mayB s) := by
  refine enterG [] [2] Try.func37 rfl Try.ntmps37 rfl (by simp) fun g1 hv ho => ?_
  repeat (first|refine q1 ?_|refine q2 ?_|refine q3 ?_|refine q4 ?_|refine q5 ?_|refine q6 ?_|refine w_seq ?_|refine w_region ?_|refine w_ops_nil ?_|refine w_skip ?_|refine w_block ?_|refine w_blk ?_|refine q7 ?_|refine q8 ?_|refine q9 ?_)
  refine w_callF rfl (ref08_Labels s g1 (by omega)) rfl fun v h hs1 hr => ?_
  repeat (first|refine q1 ?_|refine q2 ?_|refine q3 ?_|refine q4 ?_|refine q5 ?_|refine q6 ?_|refine w_seq ?_|refine w_region ?_|refine w_ops_nil ?_|refine w_skip ?_|refine w_block ?_|refine w_blk ?_|refine q7 ?_|refine q8 ?_|refine q9 ?_)
  have hll := labelsB_length s
  have hlf := labelsB_flat s
  refine w_loop (ι := Nat) (fun i => [(2, .bool false), (3, v), (4, .int .i64 (i : Int))])
    (fun i w => w = h.w ∧ i ≤ (labelsB s).length ∧ ((labelsB s).take i).all okLab = true) (fun i => (labelsB s).length - i) 0 ⟨rfl, by omega, by simp⟩ ⟨rfl, rfl, rfl, trivial⟩ ?_
  rintro i _ ⟨rfl, hi, hok⟩
  repeat (first|refine q1 ?_|refine q2 ?_|refine q3 ?_|refine q4 ?_|refine q5 ?_|refine q6 ?_|refine w_seq ?_|refine w_region ?_|refine w_ops_nil ?_|refine w_skip ?_|refine w_block ?_|refine w_blk ?_|refine q7 ?_|refine q8 ?_|refine q9 ?_)
  refine w_lenSl hr.isSl rfl rfl ?_
  repeat (first|refine q1 ?_|refine q2 ?_|refine q3 ?_|refine q4 ?_|refine q5 ?_|refine q6 ?_|refine w_seq ?_|refine w_region ?_|refine w_ops_nil ?_|refine w_skip ?_|refine w_block ?_|refine w_blk ?_|refine q7 ?_|refine q8 ?_|refine q9 ?_)
  refine w_condP rfl (fun hc => ?_) (fun hc => ?_)
  · have hlt : i < (labelsB s).length := by omega
    repeat (first|refine q1 ?_|refine q2 ?_|refine q3 ?_|refine q4 ?_|refine q5 ?_|refine q6 ?_|refine w_seq ?_|refine w_region ?_|refine w_ops_nil ?_|refine w_skip ?_|refine w_block ?_|refine w_blk ?_|refine q7 ?_|refine q8 ?_|refine q9 ?_)
    refine w_idx hr rfl rfl (by omega) (by simp; omega) rfl ?_
    refine w_loadE (y := (labelsB s)[i]) hr rfl (by simp [hlt]) rfl rfl ?_
    repeat (first|refine q1 ?_|refine q2 ?_|refine q3 ?_|refine q4 ?_|refine q5 ?_|refine q6 ?_|refine w_seq ?_|refine w_region ?_|refine w_ops_nil ?_|refine w_skip ?_|refine w_block ?_|refine w_blk ?_|refine q7 ?_|refine q8 ?_|refine q9 ?_)
    have hbad : okLab (labelsB s)[i] = false → mayB s = false := fun hx => by
      have : (labelsB s).all okLab = false := by
        rw [List.all_eq_false]; exact ⟨_, List.getElem_mem hlt, by simp [hx]⟩
      simp [mayB, this]
    refine w_splitP 19 rfl (fun h1 => ?_) (fun h1 => ?_)
    · repeat (first|refine q1 ?_|refine q2 ?_|refine q3 ?_|refine q4 ?_|refine q5 ?_|refine q6 ?_|refine w_seq ?_|refine w_region ?_|refine w_ops_nil ?_|refine w_skip ?_|refine w_block ?_|refine w_blk ?_|refine q7 ?_|refine q8 ?_|refine q9 ?_)
      refine w_retG (res1 rfl rfl) hs1.nil fun h' _ => ?_
      rw [hbad]; simp [okLab]; omega
    · repeat (first|refine q1 ?_|refine q2 ?_|refine q3 ?_|refine q4 ?_|refine q5 ?_|refine q6 ?_|refine w_seq ?_|refine w_region ?_|refine w_ops_nil ?_|refine w_skip ?_|refine w_block ?_|refine w_blk ?_|refine q7 ?_|refine q8 ?_|refine q9 ?_)
      refine w_idx hr rfl rfl (by omega) (by simp; omega) rfl ?_
      repeat (first|refine q1 ?_|refine q2 ?_|refine q3 ?_|refine q4 ?_|refine q5 ?_|refine q6 ?_|refine w_seq ?_|refine w_region ?_|refine w_ops_nil ?_|refine w_skip ?_|refine w_block ?_|refine w_blk ?_|refine q7 ?_|refine q8 ?_|refine q9 ?_)
      refine w_loadE (i := i) (y := (labelsB s)[i]) hr rfl (by simp [hlt]) rfl rfl ?_
      repeat (first|refine q1 ?_|refine q2 ?_|refine q3 ?_|refine q4 ?_|refine q5 ?_|refine q6 ?_|refine w_seq ?_|refine w_region ?_|refine w_ops_nil ?_|refine w_skip ?_|refine w_block ?_|refine w_blk ?_|refine q7 ?_|refine q8 ?_|refine q9 ?_)
      refine w_condP rfl (fun h2 => ?_) (fun h2 => ?_)
      · repeat (first|refine q1 ?_|refine q2 ?_|refine q3 ?_|refine q4 ?_|refine q5 ?_|refine q6 ?_|refine w_seq ?_|refine w_region ?_|refine w_ops_nil ?_|refine w_skip ?_|refine w_block ?_|refine w_blk ?_|refine q7 ?_|refine q8 ?_|refine q9 ?_)
        refine w_retG (res1 rfl rfl) hs1.nil fun h' _ => ?_
        rw [hbad]; simp [okLab]; omega
      · repeat (first|refine q1 ?_|refine q2 ?_|refine q3 ?_|refine q4 ?_|refine q5 ?_|refine q6 ?_|refine w_seq ?_|refine w_region ?_|refine w_ops_nil ?_|refine w_skip ?_|refine w_block ?_|refine w_blk ?_|refine q7 ?_|refine q8 ?_|refine q9 ?_)
        refine w_again (i + 1) (by omega) ⟨rfl, by omega, ?_⟩ ⟨rfl, rfl, rfl, trivial⟩
        rw [List.take_succ_eq_append_getElem hlt, List.all_append, hok]
        simp [okLab]; omega
  · have : i = (labelsB s).length := by omega
    subst this
    rw [List.take_length] at hok
    repeat (first|refine q1 ?_|refine q2 ?_|refine q3 ?_|refine q4 ?_|refine q5 ?_|refine q6 ?_|refine w_seq ?_|refine w_region ?_|refine w_ops_nil ?_|refine w_skip ?_|refine w_block ?_|refine w_blk ?_|refine q7 ?_|refine q8 ?_|refine q9 ?_)
    refine w_callF rfl (ref08_size _ h hr (by omega)) rfl fun v2 h2 hs2 hr2 => ?_
    subst hr2
    repeat (first|refine q1 ?_|refine q2 ?_|refine q3 ?_|refine q4 ?_|refine q5 ?_|refine q6 ?_|refine w_seq ?_|refine w_region ?_|refine w_ops_nil ?_|refine w_skip ?_|refine w_block ?_|refine w_blk ?_|refine q7 ?_|refine q8 ?_|refine q9 ?_)
    refine w_retG (res1 rfl rfl) (hs1.trans hs2).nil fun h' _ => ?_
    simp [mayB, hok]
    omega

theorem ref01_Join (l : List (List UInt8)) (sep : List UInt8) (g : G) {c : Nat} {v : Value} (hr : Rd g c El.str v l) (hb : l.flatten.length + l.length * sep.length ≤ 1152921504606846976) : Fn Try.prog 62 [v, str sep] g [] fun u _ => u = str (joinB sep l) := by
  refine enterG [] [] Try.func62 rfl Try.ntmps62 rfl (by simp) fun g1 hv ho => ?_
  obtain ⟨c', hc', hr1⟩ := hr.seen hv ho (by simp)
  repeat (first|refine q1 ?_|refine q2 ?_|refine q3 ?_|refine q4 ?_|refine q5 ?_|refine q6 ?_|refine w_seq ?_|refine w_region ?_|refine w_ops_nil ?_|refine w_skip ?_|refine w_block ?_|refine w_blk ?_|refine q7 ?_|refine q8 ?_|refine q9 ?_)
  refine w_loop (ι := Nat) (fun i => [(0, v), (1, str sep), (5, str (joinB sep (l.take i))), (6, .int .i64 (i : Int))])
    (fun i w => w = g1.w ∧ i ≤ l.length) (fun i => l.length - i) 0 ⟨rfl, by omega⟩ ⟨rfl, rfl, rfl, rfl, trivial⟩ ?_
  rintro i _ ⟨rfl, hi⟩
  repeat (first|refine q1 ?_|refine q2 ?_|refine q3 ?_|refine q4 ?_|refine q5 ?_|refine q6 ?_|refine w_seq ?_|refine w_region ?_|refine w_ops_nil ?_|refine w_skip ?_|refine w_block ?_|refine w_blk ?_|refine q7 ?_|refine q8 ?_|refine q9 ?_)
  refine w_lenSl hr1.isSl rfl rfl ?_
  repeat (first|refine q1 ?_|refine q2 ?_|refine q3 ?_|refine q4 ?_|refine q5 ?_|refine q6 ?_|refine w_seq ?_|refine w_region ?_|refine w_ops_nil ?_|refine w_skip ?_|refine w_block ?_|refine w_blk ?_|refine q7 ?_|refine q8 ?_|refine q9 ?_)
  have hll := hr1.isSl.le
  have hlen : ∀ i, (joinB sep (l.take i)).length + sep.length ≤ l.flatten.length + l.length * sep.length + sep.length := fun i => by
    have h1 := joinB_flat sep (l.take i)
    have h2 := flatten_take l i
    have h3 : ((l.take i).length - 1) * sep.length ≤ l.length * sep.length := Nat.mul_le_mul_right _ (by simp only [List.length_take]; omega)
    omega
  have hi' := hlen i
  refine w_condP rfl (fun hc => ?_) (fun hc => ?_)
  · have hlt : i < l.length := by omega
    have hsl : sep.length ≤ l.length * sep.length := Nat.le_mul_of_pos_left _ (by omega)
    have hle := len_le_flatten l i l[i] (by simp [hlt])
    repeat (first|refine q1 ?_|refine q2 ?_|refine q3 ?_|refine q4 ?_|refine q5 ?_|refine q6 ?_|refine w_seq ?_|refine w_region ?_|refine w_ops_nil ?_|refine w_skip ?_|refine w_block ?_|refine w_blk ?_|refine q7 ?_|refine q8 ?_|refine q9 ?_)
    refine w_cut (ι := Unit) (fun _ => [(0, v), (1, str sep), (5, str (joinB sep (l.take i) ++ if i = 0 then [] else sep)), (6, .int .i64 (i : Int))]) (fun _ w => w = g1.w) ?_ ?_
    · refine w_condP rfl (fun h0 => ?_) (fun h0 => ?_)
      · repeat (first|refine q1 ?_|refine q2 ?_|refine q3 ?_|refine q4 ?_|refine q5 ?_|refine q6 ?_|refine w_seq ?_|refine w_region ?_|refine w_ops_nil ?_|refine w_skip ?_|refine w_block ?_|refine w_blk ?_|refine q7 ?_|refine q8 ?_|refine q9 ?_)
        refine w_concat rfl rfl (by omega) rfl ?_
        repeat (first|refine q1 ?_|refine q2 ?_|refine q3 ?_|refine q4 ?_|refine q5 ?_|refine q6 ?_|refine w_seq ?_|refine w_region ?_|refine w_ops_nil ?_|refine w_skip ?_|refine w_block ?_|refine w_blk ?_|refine q7 ?_|refine q8 ?_|refine q9 ?_)
        refine w_meet () rfl ⟨rfl, rfl, ?_, rfl, trivial⟩
        rw [if_neg (by omega)]; rfl
      · repeat (first|refine q1 ?_|refine q2 ?_|refine q3 ?_|refine q4 ?_|refine q5 ?_|refine q6 ?_|refine w_seq ?_|refine w_region ?_|refine w_ops_nil ?_|refine w_skip ?_|refine w_block ?_|refine w_blk ?_|refine q7 ?_|refine q8 ?_|refine q9 ?_)
        refine w_meet () rfl ⟨rfl, rfl, ?_, rfl, trivial⟩
        rw [if_pos (by omega), List.append_nil]; rfl
    · rintro _ _ rfl
      repeat (first|refine q1 ?_|refine q2 ?_|refine q3 ?_|refine q4 ?_|refine q5 ?_|refine q6 ?_|refine w_seq ?_|refine w_region ?_|refine w_ops_nil ?_|refine w_skip ?_|refine w_block ?_|refine w_blk ?_|refine q7 ?_|refine q8 ?_|refine q9 ?_)
      refine w_idx hr1 rfl rfl (by omega) (by simp; omega) rfl ?_
      refine w_loadE (y := l[i]) hr1 rfl (by simp [hlt]) rfl rfl ?_
      refine w_concat (l := joinB sep (l.take i) ++ if i = 0 then [] else sep) rfl rfl (by rw [List.length_append]; split <;> (try simp only [List.length_nil]) <;> omega) rfl ?_
      repeat (first|refine q1 ?_|refine q2 ?_|refine q3 ?_|refine q4 ?_|refine q5 ?_|refine q6 ?_|refine w_seq ?_|refine w_region ?_|refine w_ops_nil ?_|refine w_skip ?_|refine w_block ?_|refine w_blk ?_|refine q7 ?_|refine q8 ?_|refine q9 ?_)
      refine w_again (i + 1) (by omega) ⟨rfl, by omega⟩ ⟨rfl, rfl, ?_, rfl, trivial⟩
      rw [List.take_succ_eq_append_getElem hlt]
      by_cases h0 : i = 0
      · subst h0; simp [joinB]; rfl
      · rw [joinB_snoc _ _ _ (by simp [h0]; intro h; simp [h] at hlt), if_neg h0]; rfl
  · have : i = l.length := by omega
    subst this
    repeat (first|refine q1 ?_|refine q2 ?_|refine q3 ?_|refine q4 ?_|refine q5 ?_|refine q6 ?_|refine w_seq ?_|refine w_region ?_|refine w_ops_nil ?_|refine w_skip ?_|refine w_block ?_|refine w_blk ?_|refine q7 ?_|refine q8 ?_|refine q9 ?_)
    exact w_retG (res1 rfl rfl) (Step.refl _ _ _) fun h' _ => by rw [List.take_length]

theorem ref08_Rest (s : List UInt8) (n : Nat) (g : G) (hs : s.length ≤ 1000000000) : Fn Try.prog 39 [str s, .int .i64 (n : Int)] g [] fun u _ => u = str (restB s n) := by
  refine enterG [] [2] Try.func39 rfl Try.ntmps39 rfl (by simp) fun g1 hv ho => ?_
  repeat (first|refine q1 ?_|refine q2 ?_|refine q3 ?_|refine q4 ?_|refine q5 ?_|refine q6 ?_|refine w_seq ?_|refine w_region ?_|refine w_ops_nil ?_|refine w_skip ?_|refine w_block ?_|refine w_blk ?_|refine q7 ?_|refine q8 ?_|refine q9 ?_)
  refine w_callF rfl (ref08_Labels s g1 (by omega)) rfl fun v h hs1 hr => ?_
  repeat (first|refine q1 ?_|refine q2 ?_|refine q3 ?_|refine q4 ?_|refine q5 ?_|refine q6 ?_|refine w_seq ?_|refine w_region ?_|refine w_ops_nil ?_|refine w_skip ?_|refine w_block ?_|refine w_blk ?_|refine q7 ?_|refine q8 ?_|refine q9 ?_)
  have hll := labelsB_length s
  have hlf := labelsB_flat s
  refine w_lenSl hr.isSl rfl rfl ?_
  repeat (first|refine q1 ?_|refine q2 ?_|refine q3 ?_|refine q4 ?_|refine q5 ?_|refine q6 ?_|refine w_seq ?_|refine w_region ?_|refine w_ops_nil ?_|refine w_skip ?_|refine w_block ?_|refine w_blk ?_|refine q7 ?_|refine q8 ?_|refine q9 ?_)
  refine w_condP rfl (fun hc => ?_) (fun hc => ?_)
  · repeat (first|refine q1 ?_|refine q2 ?_|refine q3 ?_|refine q4 ?_|refine q5 ?_|refine q6 ?_|refine w_seq ?_|refine w_region ?_|refine w_ops_nil ?_|refine w_skip ?_|refine w_block ?_|refine w_blk ?_|refine q7 ?_|refine q8 ?_|refine q9 ?_)
    refine w_retG (res1 rfl rfl) hs1.nil fun h' _ => ?_
    rw [restB, List.drop_eq_nil_of_le (by omega)]; rfl
  · repeat (first|refine q1 ?_|refine q2 ?_|refine q3 ?_|refine q4 ?_|refine q5 ?_|refine q6 ?_|refine w_seq ?_|refine w_region ?_|refine w_ops_nil ?_|refine w_skip ?_|refine w_block ?_|refine w_blk ?_|refine q7 ?_|refine q8 ?_|refine q9 ?_)
    refine w_cut_ (a := n) (b := (labelsB s).length) hr rfl ⟨_, rfl, rfl⟩ rfl (by omega) (by omega) rfl fun hr' => ?_
    rw [List.take_length] at hr'
    have hfd := flatten_drop (labelsB s) n
    refine w_callF rfl (ref01_Join _ [46] h hr' (by simp only [List.length_drop, List.length_cons, List.length_nil]; omega)) rfl fun v2 h2 hs2 hr2 => ?_
    subst hr2
    repeat (first|refine q1 ?_|refine q2 ?_|refine q3 ?_|refine q4 ?_|refine q5 ?_|refine q6 ?_|refine w_seq ?_|refine w_region ?_|refine w_ops_nil ?_|refine w_skip ?_|refine w_block ?_|refine w_blk ?_|refine q7 ?_|refine q8 ?_|refine q9 ?_)
    exact w_retG (res1 rfl rfl) (hs1.trans hs2).nil fun h' _ => rfl

theorem ref08_SameBytes (a b : List UInt8) (g : G) {c d : Nat} {u v : Value} (hu : Rd g c El.u8 u a) (hv' : Rd g d El.u8 v b) : Fn Try.prog 17 [u, v] g [] fun x _ => x = .bool (decide (a = b)) := by
  refine enterG [] [] Try.func17 rfl Try.ntmps17 rfl (by simp) fun g1 hv ho => ?_
  obtain ⟨c', hc', hr1⟩ := hu.seen hv ho (by simp)
  obtain ⟨d', hd', hr2⟩ := hv'.seen hv ho (by simp)
  repeat (first|refine q1 ?_|refine q2 ?_|refine q3 ?_|refine q4 ?_|refine q5 ?_|refine q6 ?_|refine w_seq ?_|refine w_region ?_|refine w_ops_nil ?_|refine w_skip ?_|refine w_block ?_|refine w_blk ?_|refine q7 ?_|refine q8 ?_|refine q9 ?_)
  refine w_b2s hr1 rfl rfl ?_
  repeat (first|refine q1 ?_|refine q2 ?_|refine q3 ?_|refine q4 ?_|refine q5 ?_|refine q6 ?_|refine w_seq ?_|refine w_region ?_|refine w_ops_nil ?_|refine w_skip ?_|refine w_block ?_|refine w_blk ?_|refine q7 ?_|refine q8 ?_|refine q9 ?_)
  refine w_b2s hr2 rfl rfl ?_
  repeat (first|refine q1 ?_|refine q2 ?_|refine q3 ?_|refine q4 ?_|refine q5 ?_|refine q6 ?_|refine w_seq ?_|refine w_region ?_|refine w_ops_nil ?_|refine w_skip ?_|refine w_block ?_|refine w_blk ?_|refine q7 ?_|refine q8 ?_|refine q9 ?_)
  exact w_retG (res1 rfl rfl) (Step.refl _ _ _) fun h' _ => rfl

def fewV (v : Value) (b : List UInt8) (n : Nat) : Value := if b.length > n then cutV v 1 0 n else v
theorem Rd.few {g : G} {c : Nat} {v : Value} {b : List UInt8} (hr : Rd g c El.u8 v b) (n : Nat) : Rd g c El.u8 (fewV v b n) (b.take n) := by
  unfold fewV
  split
  · exact hr.cut (Nat.zero_le _) (by omega)
  · rw [List.take_of_length_le (by omega)]; exact hr
theorem law08_few (b : List UInt8) (n : Nat) (g : G) {c : Nat} {v : Value} (hr : Rd g c El.u8 v b) : Fn Try.prog 32 [v, .int .i64 (n : Int)] g [] fun x _ => x = fewV v b n := by
  refine enterG [] [] Try.func32 rfl Try.ntmps32 rfl (by simp) fun g1 hv ho => ?_
  obtain ⟨c', hc', hr1⟩ := hr.seen hv ho (by simp)
  repeat (first|refine q1 ?_|refine q2 ?_|refine q3 ?_|refine q4 ?_|refine q5 ?_|refine q6 ?_|refine w_seq ?_|refine w_region ?_|refine w_ops_nil ?_|refine w_skip ?_|refine w_block ?_|refine w_blk ?_|refine q7 ?_|refine q8 ?_|refine q9 ?_)
  refine w_lenSl hr1.isSl rfl rfl ?_
  repeat (first|refine q1 ?_|refine q2 ?_|refine q3 ?_|refine q4 ?_|refine q5 ?_|refine q6 ?_|refine w_seq ?_|refine w_region ?_|refine w_ops_nil ?_|refine w_skip ?_|refine w_block ?_|refine w_blk ?_|refine q7 ?_|refine q8 ?_|refine q9 ?_)
  refine w_condP rfl (fun hc => ?_) (fun hc => ?_)
  · repeat (first|refine q1 ?_|refine q2 ?_|refine q3 ?_|refine q4 ?_|refine q5 ?_|refine q6 ?_|refine w_seq ?_|refine w_region ?_|refine w_ops_nil ?_|refine w_skip ?_|refine w_block ?_|refine w_blk ?_|refine q7 ?_|refine q8 ?_|refine q9 ?_)
    refine w_cut_ (a := 0) (b := n) hr1 rfl rfl ⟨_, rfl, rfl⟩ (by omega) (by omega) rfl fun hr' => ?_
    repeat (first|refine q1 ?_|refine q2 ?_|refine q3 ?_|refine q4 ?_|refine q5 ?_|refine q6 ?_|refine w_seq ?_|refine w_region ?_|refine w_ops_nil ?_|refine w_skip ?_|refine w_block ?_|refine w_blk ?_|refine q7 ?_|refine q8 ?_|refine q9 ?_)
    exact w_retG (res1 rfl rfl) (Step.refl _ _ _) fun h' _ => by rw [fewV, if_pos (by omega)]; rfl
  · repeat (first|refine q1 ?_|refine q2 ?_|refine q3 ?_|refine q4 ?_|refine q5 ?_|refine q6 ?_|refine w_seq ?_|refine w_region ?_|refine w_ops_nil ?_|refine w_skip ?_|refine w_block ?_|refine w_blk ?_|refine q7 ?_|refine q8 ?_|refine q9 ?_)
    exact w_retG (res1 rfl rfl) (Step.refl _ _ _) fun h' _ => by rw [fewV, if_neg (by omega)]

/-! ### the shortened writing -/
abbrev WM := List (List UInt8 × Nat)
def ptrB (n : Nat) : List UInt8 := [UInt8.ofNat (192 + n / 256), UInt8.ofNat (n % 256)]
def nameGo : List UInt8 → WM → List (List UInt8) → List UInt8 × WM
  | B, m, [] => (B ++ [0], m)
  | B, m, l :: r => match mget (joinB [46] (l :: r)) m with
    | some n => (B ++ ptrB n, m)
    | none => nameGo (B ++ [UInt8.ofNat l.length] ++ l) (if B.length < 16384 then m ++ [(joinB [46] (l :: r), B.length)] else m) r
/-- What the reference's writer is in memory. -/
structure RW (g : G) (vB vN vA : Value) (B : List UInt8) (m : WM) : Prop where
  b : Own g 11 El.u8 5 vB B
  n : Own g 12 El.str 9 vN (m.map (·.1))
  a : Own g 13 El.int 3 vA (m.map fun p => (p.2 : Int))
  s : ∀ p ∈ m, p.2 < 16384
theorem mget_small {m : WM} {k : List UInt8} {n : Nat} (hm : ∀ p ∈ m, p.2 < 16384) (h : mget k m = some n) : n < 16384 := by
  induction m with
  | nil => cases h
  | cons p m ih =>
    unfold mget at h
    split at h
    · injection h with h; subst h; exact hm p (by simp)
    · exact ih (fun q hq => hm q (by simp [hq])) h
theorem RW.step {g h : G} {vB vN vA : Value} {B : List UInt8} {m : WM} {M : List Nat} (hw : RW g vB vN vA B m) (hs : Step [] M g h) (h1 : 11 ∉ M) (h2 : 12 ∉ M) (h3 : 13 ∉ M) : RW h vB vN vA B m :=
  ⟨hw.b.step hs h1, hw.n.step hs h2, hw.a.step hs h3, hw.s⟩
theorem RW.go {g h : G} {vB vN vA : Value} {B : List UInt8} {m : WM} {M : List Nat} (hw : RW g vB vN vA B m) (hs : Step [] M g h) (h1 : 11 ∉ M := by simp) (h2 : 12 ∉ M := by simp) (h3 : 13 ∉ M := by simp) : RW h vB vN vA B m := hw.step hs h1 h2 h3
theorem RW.view {g h : G} {vB vN vA : Value} {B : List UInt8} {m : WM} {M : List Nat} (hw : RW g vB vN vA B m) (hs : View M g h) (h1 : 11 ∈ M) (h2 : 12 ∈ M) (h3 : 13 ∈ M) : RW h vB vN vA B m :=
  ⟨hw.b.view hs (.inr h1), hw.n.view hs (.inr h2), hw.a.view hs (.inr h3), hw.s⟩

theorem mget_drop_none (s : List UInt8) (m : WM) (i : Nat) (h : ∀ j < i, (m[j]?).map (·.1) ≠ some s) : mget s m = mget s (m.drop i) := by
  induction i generalizing m with
  | zero => rfl
  | succ i ih =>
    cases m with
    | nil => rfl
    | cons p m =>
      have h0 : ¬ s = p.1 := fun e => h 0 (by omega) (by simp [e])
      rw [List.drop_succ_cons, ← ih m (fun j hj => h (j + 1) (by omega))]
      simp [mget, h0]

theorem ref08_find (s : List UInt8) (m : WM) (g : G) {c d : Nat} {vB vN vA : Value} (hB : vB.oneCell' = true) (hn : Rd g c El.str vN (m.map (·.1))) (ha : Rd g d El.int vA (m.map fun p => (p.2 : Int))) :
    Fn Try.prog 40 [.agg #[vB, vN, vA], str s] g [] fun u _ => u = .int .i64 (match mget s m with | some n => (n : Int) | none => -1) := by
  refine enterG [] [2] Try.func40 rfl Try.ntmps40 rfl (by simp) fun g1 hv ho => ?_
  obtain ⟨c', hc', hr1⟩ := hn.seen hv ho (by simp)
  obtain ⟨d', hd', hr2⟩ := ha.seen hv ho (by simp)
  repeat (first|refine q1 ?_|refine q2 ?_|refine q3 ?_|refine q4 ?_|refine q5 ?_|refine q6 ?_|refine w_seq ?_|refine w_region ?_|refine w_ops_nil ?_|refine w_skip ?_|refine w_block ?_|refine w_blk ?_|refine q7 ?_|refine q8 ?_|refine q9 ?_)
  refine w_box 2 (vs := [vB, vN, vA]) rfl rfl rfl fun h b hs hcell => ?_
  replace hr1 := hr1.step hs (by simp)
  replace hr2 := hr2.step hs (by simp)
  repeat (first|refine q1 ?_|refine q2 ?_|refine q3 ?_|refine q4 ?_|refine q5 ?_|refine q6 ?_|refine w_seq ?_|refine w_region ?_|refine w_ops_nil ?_|refine w_skip ?_|refine w_block ?_|refine w_blk ?_|refine q7 ?_|refine q8 ?_|refine q9 ?_)
  refine w_loop (ι := Nat) (fun i => [(0, .agg #[vB, vN, vA]), (1, str s), (2, .pointer (some ⟨b, 0, none⟩)), (5, .int .i64 (i : Int))])
    (fun i w => w = h.w ∧ i ≤ m.length ∧ ∀ j < i, (m[j]?).map (·.1) ≠ some s) (fun i => m.length - i) 0 ⟨rfl, by omega, fun j hj => by omega⟩ ⟨rfl, rfl, rfl, rfl, trivial⟩ ?_
  rintro i _ ⟨rfl, hi, hno⟩
  have hlm := hr1.isSl.le
  rw [List.length_map] at hlm
  repeat (first|refine q1 ?_|refine q2 ?_|refine q3 ?_|refine q4 ?_|refine q5 ?_|refine q6 ?_|refine w_seq ?_|refine w_region ?_|refine w_ops_nil ?_|refine w_skip ?_|refine w_block ?_|refine w_blk ?_|refine q7 ?_|refine q8 ?_|refine q9 ?_)
  refine w_fldA (by decide) rfl rfl ?_
  refine w_load1 hcell rfl rfl rfl rfl ?_
  refine w_lenSl hr1.isSl rfl rfl ?_
  repeat (first|refine q1 ?_|refine q2 ?_|refine q3 ?_|refine q4 ?_|refine q5 ?_|refine q6 ?_|refine w_seq ?_|refine w_region ?_|refine w_ops_nil ?_|refine w_skip ?_|refine w_block ?_|refine w_blk ?_|refine q7 ?_|refine q8 ?_|refine q9 ?_)
  rw [List.length_map]
  refine w_condP rfl (fun hc => ?_) (fun hc => ?_)
  · have hlt : i < m.length := by omega
    repeat (first|refine q1 ?_|refine q2 ?_|refine q3 ?_|refine q4 ?_|refine q5 ?_|refine q6 ?_|refine w_seq ?_|refine w_region ?_|refine w_ops_nil ?_|refine w_skip ?_|refine w_block ?_|refine w_blk ?_|refine q7 ?_|refine q8 ?_|refine q9 ?_)
    refine w_fldA (by decide) rfl rfl ?_
    refine w_load1 hcell rfl rfl rfl rfl ?_
    repeat (first|refine q1 ?_|refine q2 ?_|refine q3 ?_|refine q4 ?_|refine q5 ?_|refine q6 ?_|refine w_seq ?_|refine w_region ?_|refine w_ops_nil ?_|refine w_skip ?_|refine w_block ?_|refine w_blk ?_|refine q7 ?_|refine q8 ?_|refine q9 ?_)
    refine w_idx hr1 rfl rfl (by omega) (by simp; omega) rfl ?_
    refine w_loadE (i := i) (y := m[i].1) hr1 rfl (by simp [hlt]) rfl rfl ?_
    repeat (first|refine q1 ?_|refine q2 ?_|refine q3 ?_|refine q4 ?_|refine q5 ?_|refine q6 ?_|refine w_seq ?_|refine w_region ?_|refine w_ops_nil ?_|refine w_skip ?_|refine w_block ?_|refine w_blk ?_|refine q7 ?_|refine q8 ?_|refine q9 ?_)
    refine w_condP rfl (fun he => ?_) (fun he => ?_)
    · have he : m[i].1 = s := he
      repeat (first|refine q1 ?_|refine q2 ?_|refine q3 ?_|refine q4 ?_|refine q5 ?_|refine q6 ?_|refine w_seq ?_|refine w_region ?_|refine w_ops_nil ?_|refine w_skip ?_|refine w_block ?_|refine w_blk ?_|refine q7 ?_|refine q8 ?_|refine q9 ?_)
      refine w_fldA (by decide) rfl rfl ?_
      refine w_load1 hcell rfl rfl rfl rfl ?_
      repeat (first|refine q1 ?_|refine q2 ?_|refine q3 ?_|refine q4 ?_|refine q5 ?_|refine q6 ?_|refine w_seq ?_|refine w_region ?_|refine w_ops_nil ?_|refine w_skip ?_|refine w_block ?_|refine w_blk ?_|refine q7 ?_|refine q8 ?_|refine q9 ?_)
      refine w_idx hr2 rfl rfl (by omega) (by simp; omega) rfl ?_
      refine w_loadE (i := i) (y := (m[i].2 : Int)) hr2 rfl (by simp [hlt]) rfl rfl ?_
      repeat (first|refine q1 ?_|refine q2 ?_|refine q3 ?_|refine q4 ?_|refine q5 ?_|refine q6 ?_|refine w_seq ?_|refine w_region ?_|refine w_ops_nil ?_|refine w_skip ?_|refine w_block ?_|refine w_blk ?_|refine q7 ?_|refine q8 ?_|refine q9 ?_)
      refine w_retG (res1 rfl rfl) hs.nil fun h' _ => ?_
      rw [mget_drop_none s m i hno, List.drop_eq_getElem_cons hlt, mget, if_pos he.symm]; rfl
    · have he : ¬ m[i].1 = s := he
      repeat (first|refine q1 ?_|refine q2 ?_|refine q3 ?_|refine q4 ?_|refine q5 ?_|refine q6 ?_|refine w_seq ?_|refine w_region ?_|refine w_ops_nil ?_|refine w_skip ?_|refine w_block ?_|refine w_blk ?_|refine q7 ?_|refine q8 ?_|refine q9 ?_)
      refine w_again (i + 1) (by omega) ⟨rfl, by omega, fun j hj => ?_⟩ ⟨rfl, rfl, rfl, rfl, trivial⟩
      by_cases hji : j = i
      · subst hji; simp [hlt, he]
      · exact hno j (by omega)
  · have : i = m.length := by omega
    subst this
    repeat (first|refine q1 ?_|refine q2 ?_|refine q3 ?_|refine q4 ?_|refine q5 ?_|refine q6 ?_|refine w_seq ?_|refine w_region ?_|refine w_ops_nil ?_|refine w_skip ?_|refine w_block ?_|refine w_blk ?_|refine q7 ?_|refine q8 ?_|refine q9 ?_)
    refine w_retG (res1 rfl rfl) hs.nil fun h' _ => ?_
    rw [mget_drop_none s m m.length hno, List.drop_length]; rfl
end Go.Proofs.Ytnfokdhgajanpaa
