/- Messages: which may be: the program's answers. No statement of the seat is proved here. -/
import Derived.Test.YtnfokdhgajanpaaWir2
set_option linter.unusedVariables false
set_option linter.unusedSimpArgs false
namespace Go.Proofs.Ytnfokdhgajanpaa
open Go
attribute [local irreducible] Wp

theorem wire_within1 (n most : Int) (b : Nat) (g : G) {c : Nat} (hc : Cell g c b 3 [.int .i64 most]) : Fn Try.prog 89 [.int .i64 n, .pointer (some ⟨b, 0, none⟩)] g [] fun u _ => u = .bool (decide (n < 0 ∨ most < n)) := by
  refine enterG [] [] Try.func89 rfl Try.ntmps89 rfl (by simp) fun g1 hv ho => ?_
  obtain ⟨c', hc', hc1⟩ := hc.seen hv ho (by simp)
  repeat (first|refine q1 ?_|refine q2 ?_|refine q3 ?_|refine q4 ?_|refine q5 ?_|refine q6 ?_|refine w_seq ?_|refine w_region ?_|refine w_ops_nil ?_|refine w_skip ?_|refine w_block ?_|refine w_blk ?_|refine q7 ?_|refine q8 ?_|refine q9 ?_)
  refine w_splitP 6 rfl (fun h0 => ?_) (fun h0 => ?_)
  · repeat (first|refine q1 ?_|refine q2 ?_|refine q3 ?_|refine q4 ?_|refine q5 ?_|refine q6 ?_|refine w_seq ?_|refine w_region ?_|refine w_ops_nil ?_|refine w_skip ?_|refine w_block ?_|refine w_blk ?_|refine q7 ?_|refine q8 ?_|refine q9 ?_)
    exact w_retG (res1 rfl rfl) (Step.refl _ _ _) fun h' _ => congrArg Value.bool (decide_eq_true (.inl h0)).symm
  · repeat (first|refine q1 ?_|refine q2 ?_|refine q3 ?_|refine q4 ?_|refine q5 ?_|refine q6 ?_|refine w_seq ?_|refine w_region ?_|refine w_ops_nil ?_|refine w_skip ?_|refine w_block ?_|refine w_blk ?_|refine q7 ?_|refine q8 ?_|refine q9 ?_)
    refine w_load1 (v := .int .i64 most) hc1 rfl rfl rfl rfl ?_
    repeat (first|refine q1 ?_|refine q2 ?_|refine q3 ?_|refine q4 ?_|refine q5 ?_|refine q6 ?_|refine w_seq ?_|refine w_region ?_|refine w_ops_nil ?_|refine w_skip ?_|refine w_block ?_|refine w_blk ?_|refine q7 ?_|refine q8 ?_|refine q9 ?_)
    refine w_retG (res1 rfl rfl) (Step.refl _ _ _) fun h' _ => congrArg Value.bool ?_
    rw [decide_eq_decide]; omega

theorem wire_within (most : Int) (l : List Int) (g : G) {v : Value} (hr : Rdx g El.int v l) : Fn Try.prog 56 [.int .i64 most, v] g [] fun u _ => u = .bool (decide (∀ n ∈ l, 0 ≤ n ∧ n ≤ most)) := by
  refine enterG [] [2] Try.func56 rfl Try.ntmps56 rfl (by simp) fun g1 hv ho => ?_
  obtain ⟨c, hc, hr1⟩ := hr.seen hv ho
  repeat (first|refine q1 ?_|refine q2 ?_|refine q3 ?_|refine q4 ?_|refine q5 ?_|refine q6 ?_|refine w_seq ?_|refine w_region ?_|refine w_ops_nil ?_|refine w_skip ?_|refine w_block ?_|refine w_blk ?_|refine q7 ?_|refine q8 ?_|refine q9 ?_)
  refine w_box 2 (vs := [.int .i64 most]) rfl rfl rfl fun h1 b1 hs1 hc1 => ?_
  replace hr1 := hr1.go hs1
  repeat (first|refine q1 ?_|refine q2 ?_|refine q3 ?_|refine q4 ?_|refine q5 ?_|refine q6 ?_|refine w_seq ?_|refine w_region ?_|refine w_ops_nil ?_|refine w_skip ?_|refine w_block ?_|refine w_blk ?_|refine q7 ?_|refine q8 ?_|refine q9 ?_)
  refine w_callF rfl (ContainsFunc_int 89 #[.pointer (some ⟨b1, 0, none⟩)] (fun n => decide (n < 0 ∨ most < n)) (fun g => ∃ c, Cell g c b1 3 [.int .i64 most]) (Stable.cell _ _ _) l h1 ⟨_, hc1⟩ hr1
    (fun x g _ ⟨c, hc⟩ => wire_within1 x most b1 g hc)) rfl fun u h2 hs2 hu => ?_
  subst hu
  repeat (first|refine q1 ?_|refine q2 ?_|refine q3 ?_|refine q4 ?_|refine q5 ?_|refine q6 ?_|refine w_seq ?_|refine w_region ?_|refine w_ops_nil ?_|refine w_skip ?_|refine w_block ?_|refine w_blk ?_|refine q7 ?_|refine q8 ?_|refine q9 ?_)
  refine w_retG (res1 rfl rfl) (hs1.nil.go hs2) fun h' _ => congrArg Value.bool ?_
  rw [Bool.eq_iff_iff]
  simp only [Bool.not_eq_true', List.any_eq_false, decide_eq_true_eq]
  constructor
  · intro h n hn; have := h n hn; omega
  · intro h n hn; have := h n hn; omega

def famOf (t : Int) : Int := if t = 1 then 4 else if t = 28 then 6 else 0
theorem fam_get (t : Int) : optV El.int (Value.int .i64 0) (mget t (mput (28 : Int) (6 : Int) (mput 1 4 []))) = .int .i64 (famOf t) := by
  rw [show mput (28 : Int) (6 : Int) (mput 1 4 []) = [(1, 4), (28, 6)] from rfl]
  unfold famOf
  simp only [mget]
  by_cases h1 : t = 1
  · rw [if_pos h1, if_pos h1]; rfl
  · rw [if_neg h1, if_neg h1]
    by_cases h2 : t = 28
    · rw [if_pos h2, if_pos h2]; rfl
    · rw [if_neg h2, if_neg h2]; rfl
theorem wire_record (r : Rc) (g : G) (hn : r.name.length ≤ 1000000000) (ht : r.target.length ≤ 1000000000) : Fn Try.prog 54 [El.rc.val r] g [] fun u _ => u = .bool (decide (recMay r)) := by
  refine enterG [] [2, 3] Try.func54 rfl Try.ntmps54 rfl (by simp) fun g1 hv ho => ?_
  repeat (first|refine q1 ?_|refine q2 ?_|refine q3 ?_|refine q4 ?_|refine q5 ?_|refine q6 ?_|refine w_seq ?_|refine w_region ?_|refine w_ops_nil ?_|refine w_skip ?_|refine w_block ?_|refine w_blk ?_|refine q7 ?_|refine q8 ?_|refine q9 ?_)
  refine w_box 2 (vs := El.rc.enc r) rfl rfl rfl fun h1 b1 hs1 hc1 => ?_
  have hst : Step [] [2, 3] g1 h1 := hs1.nil
  repeat (first|refine q1 ?_|refine q2 ?_|refine q3 ?_|refine q4 ?_|refine q5 ?_|refine q6 ?_|refine w_seq ?_|refine w_region ?_|refine w_ops_nil ?_|refine w_skip ?_|refine w_block ?_|refine w_blk ?_|refine q7 ?_|refine q8 ?_|refine q9 ?_)
  refine w_fldA (by decide) rfl rfl ?_
  refine w_load1 (v := str r.name) hc1 rfl rfl rfl rfl ?_
  refine w_callF rfl (label_May r.name h1 hn) rfl fun u h2 hs2 hu => ?_
  subst hu
  replace hc1 := hc1.go hs2; replace hst := hst.go hs2
  have no : ∀ {p : Prop}, (¬ p) → (recMay r → p) → Value.bool false = .bool (decide (recMay r)) := fun hp h => congrArg Value.bool (decide_eq_false (fun hr => hp (h hr))).symm
  repeat (first|refine q1 ?_|refine q2 ?_|refine q3 ?_|refine q4 ?_|refine q5 ?_|refine q6 ?_|refine w_seq ?_|refine w_region ?_|refine w_ops_nil ?_|refine w_skip ?_|refine w_block ?_|refine w_blk ?_|refine q7 ?_|refine q8 ?_|refine q9 ?_)
  refine w_splitB 8 rfl (fun h => ?_) (fun hnm => ?_)
  · repeat (first|refine q1 ?_|refine q2 ?_|refine q3 ?_|refine q4 ?_|refine q5 ?_|refine q6 ?_|refine w_seq ?_|refine w_region ?_|refine w_ops_nil ?_|refine w_skip ?_|refine w_block ?_|refine w_blk ?_|refine q7 ?_|refine q8 ?_|refine q9 ?_)
    exact w_retG (res1 rfl rfl) hst fun h' _ => no (p := mayB r.name = true) (by simpa using h) (fun h => h.1)
  repeat (first|refine q1 ?_|refine q2 ?_|refine q3 ?_|refine q4 ?_|refine q5 ?_|refine q6 ?_|refine w_seq ?_|refine w_region ?_|refine w_ops_nil ?_|refine w_skip ?_|refine w_block ?_|refine w_blk ?_|refine q7 ?_|refine q8 ?_|refine q9 ?_)
  refine w_fldA (by decide) rfl rfl ?_
  repeat (first|refine q1 ?_|refine q2 ?_|refine q3 ?_|refine q4 ?_|refine q5 ?_|refine q6 ?_|refine w_seq ?_|refine w_region ?_|refine w_ops_nil ?_|refine w_skip ?_|refine w_block ?_|refine w_blk ?_|refine q7 ?_|refine q8 ?_|refine q9 ?_)
  refine w_load1 (v := .int .i64 r.typ) hc1 rfl rfl rfl rfl ?_
  repeat (first|refine q1 ?_|refine q2 ?_|refine q3 ?_|refine q4 ?_|refine q5 ?_|refine q6 ?_|refine w_seq ?_|refine w_region ?_|refine w_ops_nil ?_|refine w_skip ?_|refine w_block ?_|refine w_blk ?_|refine q7 ?_|refine q8 ?_|refine q9 ?_)
  refine w_fldA (by decide) rfl rfl ?_
  repeat (first|refine q1 ?_|refine q2 ?_|refine q3 ?_|refine q4 ?_|refine q5 ?_|refine q6 ?_|refine w_seq ?_|refine w_region ?_|refine w_ops_nil ?_|refine w_skip ?_|refine w_block ?_|refine w_blk ?_|refine q7 ?_|refine q8 ?_|refine q9 ?_)
  refine w_load1 (v := .int .i64 r.cls) hc1 rfl rfl rfl rfl ?_
  repeat (first|refine q1 ?_|refine q2 ?_|refine q3 ?_|refine q4 ?_|refine q5 ?_|refine q6 ?_|refine w_seq ?_|refine w_region ?_|refine w_ops_nil ?_|refine w_skip ?_|refine w_block ?_|refine w_blk ?_|refine q7 ?_|refine q8 ?_|refine q9 ?_)
  refine w_fldA (by decide) rfl rfl ?_
  repeat (first|refine q1 ?_|refine q2 ?_|refine q3 ?_|refine q4 ?_|refine q5 ?_|refine q6 ?_|refine w_seq ?_|refine w_region ?_|refine w_ops_nil ?_|refine w_skip ?_|refine w_block ?_|refine w_blk ?_|refine q7 ?_|refine q8 ?_|refine q9 ?_)
  refine w_load1 (v := str r.data) hc1 rfl rfl rfl rfl ?_
  repeat (first|refine q1 ?_|refine q2 ?_|refine q3 ?_|refine q4 ?_|refine q5 ?_|refine q6 ?_|refine w_seq ?_|refine w_region ?_|refine w_ops_nil ?_|refine w_skip ?_|refine w_block ?_|refine w_blk ?_|refine q7 ?_|refine q8 ?_|refine q9 ?_)
  refine w_buildSlR El.int [r.typ, r.cls, (r.data.length : Int)] rfl rfl rfl rfl fun h3 v3 hs3 hr3 => ?_
  replace hc1 := hc1.go hs3; replace hst := hst.go hs3
  repeat (first|refine q1 ?_|refine q2 ?_|refine q3 ?_|refine q4 ?_|refine q5 ?_|refine q6 ?_|refine w_seq ?_|refine w_region ?_|refine w_ops_nil ?_|refine w_skip ?_|refine w_block ?_|refine w_blk ?_|refine q7 ?_|refine q8 ?_|refine q9 ?_)
  refine w_callF rfl (wire_within 65535 _ h3 hr3.x) rfl fun u h4 hs4 hu => ?_
  subst hu
  replace hc1 := hc1.go hs4; replace hst := hst.go hs4
  repeat (first|refine q1 ?_|refine q2 ?_|refine q3 ?_|refine q4 ?_|refine q5 ?_|refine q6 ?_|refine w_seq ?_|refine w_region ?_|refine w_ops_nil ?_|refine w_skip ?_|refine w_block ?_|refine w_blk ?_|refine q7 ?_|refine q8 ?_|refine q9 ?_)
  refine w_splitB 20 rfl (fun h => ?_) (fun hw1 => ?_)
  · repeat (first|refine q1 ?_|refine q2 ?_|refine q3 ?_|refine q4 ?_|refine q5 ?_|refine q6 ?_|refine w_seq ?_|refine w_region ?_|refine w_ops_nil ?_|refine w_skip ?_|refine w_block ?_|refine w_blk ?_|refine q7 ?_|refine q8 ?_|refine q9 ?_)
    refine w_retG (res1 rfl rfl) hst fun h' _ => no (p := wordP r.typ ∧ wordP r.cls ∧ r.data.length ≤ 65535) ?_ (fun h => ⟨h.2.1, h.2.2.1, h.2.2.2.2.1⟩)
    simp only [Bool.not_eq_true', decide_eq_false_iff_not] at h
    rintro ⟨k1, k2, k3⟩
    refine h (fun n hn => ?_)
    simp only [List.mem_cons, List.not_mem_nil, or_false] at hn
    unfold wordP at k1 k2
    rcases hn with rfl | rfl | rfl <;> omega
  have hw1' : wordP r.typ ∧ wordP r.cls ∧ r.data.length ≤ 65535 := by
    simp only [Bool.not_eq_false', decide_eq_true_eq] at hw1
    have k1 := hw1 r.typ (by simp); have k2 := hw1 r.cls (by simp); have k3 := hw1 (r.data.length : Int) (by simp)
    exact ⟨k1, k2, by omega⟩
  repeat (first|refine q1 ?_|refine q2 ?_|refine q3 ?_|refine q4 ?_|refine q5 ?_|refine q6 ?_|refine w_seq ?_|refine w_region ?_|refine w_ops_nil ?_|refine w_skip ?_|refine w_block ?_|refine w_blk ?_|refine q7 ?_|refine q8 ?_|refine q9 ?_)
  refine w_fldA (by decide) rfl rfl ?_
  repeat (first|refine q1 ?_|refine q2 ?_|refine q3 ?_|refine q4 ?_|refine q5 ?_|refine q6 ?_|refine w_seq ?_|refine w_region ?_|refine w_ops_nil ?_|refine w_skip ?_|refine w_block ?_|refine w_blk ?_|refine q7 ?_|refine q8 ?_|refine q9 ?_)
  refine w_load1 (v := .int .i64 r.ttl) hc1 rfl rfl rfl rfl ?_
  repeat (first|refine q1 ?_|refine q2 ?_|refine q3 ?_|refine q4 ?_|refine q5 ?_|refine q6 ?_|refine w_seq ?_|refine w_region ?_|refine w_ops_nil ?_|refine w_skip ?_|refine w_block ?_|refine w_blk ?_|refine q7 ?_|refine q8 ?_|refine q9 ?_)
  refine w_buildSlR El.int [r.ttl] rfl rfl rfl rfl fun h5 v5 hs5 hr5 => ?_
  replace hc1 := hc1.go hs5; replace hst := hst.go hs5
  repeat (first|refine q1 ?_|refine q2 ?_|refine q3 ?_|refine q4 ?_|refine q5 ?_|refine q6 ?_|refine w_seq ?_|refine w_region ?_|refine w_ops_nil ?_|refine w_skip ?_|refine w_block ?_|refine w_blk ?_|refine q7 ?_|refine q8 ?_|refine q9 ?_)
  refine w_callF rfl (wire_within 2147483647 _ h5 hr5.x) rfl fun u h6 hs6 hu => ?_
  subst hu
  replace hc1 := hc1.go hs6; replace hst := hst.go hs6
  repeat (first|refine q1 ?_|refine q2 ?_|refine q3 ?_|refine q4 ?_|refine q5 ?_|refine q6 ?_|refine w_seq ?_|refine w_region ?_|refine w_ops_nil ?_|refine w_skip ?_|refine w_block ?_|refine w_blk ?_|refine q7 ?_|refine q8 ?_|refine q9 ?_)
  refine w_cond rfl (fun h => ?_) (fun hw2 => ?_)
  · repeat (first|refine q1 ?_|refine q2 ?_|refine q3 ?_|refine q4 ?_|refine q5 ?_|refine q6 ?_|refine w_seq ?_|refine w_region ?_|refine w_ops_nil ?_|refine w_skip ?_|refine w_block ?_|refine w_blk ?_|refine q7 ?_|refine q8 ?_|refine q9 ?_)
    refine w_retG (res1 rfl rfl) hst fun h' _ => no (p := 0 ≤ r.ttl ∧ r.ttl ≤ 2147483647) ?_ (fun h => h.2.2.2.1)
    simp only [Bool.not_eq_true', decide_eq_false_iff_not] at h
    intro k
    refine h (fun n hn => ?_)
    simp only [List.mem_cons, List.not_mem_nil, or_false] at hn
    rw [hn]; exact k
  have hw2' : 0 ≤ r.ttl ∧ r.ttl ≤ 2147483647 := by
    simp only [Bool.not_eq_false', decide_eq_true_eq] at hw2
    exact hw2 r.ttl (by simp)
  have hbase : ∀ (p : Prop), (p ↔ (if r.typ = 1 then mayA r.addr = true ∧ r.addr.fam = 4 ∧ r.target = [] ∧ r.data = []
   else if r.typ = 28 then mayA r.addr = true ∧ r.addr.fam = 6 ∧ r.target = [] ∧ r.data = []
   else if r.typ = 5 then mayB r.target = true ∧ r.addr = Ad.zero ∧ r.data = []
   else r.addr = Ad.zero ∧ r.target = [])) → (recMay r ↔ p) := by
    intro p hp
    unfold recMay
    rw [← hp]
    have hnm : mayB r.name = true := by simpa using hnm
    constructor
    · intro h; exact h.2.2.2.2.2
    · intro h; exact ⟨hnm, hw1'.1, hw1'.2.1, hw2', hw1'.2.2, h⟩
  have fin : ∀ (p : Prop) [Decidable p], (p ↔ (if r.typ = 1 then mayA r.addr = true ∧ r.addr.fam = 4 ∧ r.target = [] ∧ r.data = []
   else if r.typ = 28 then mayA r.addr = true ∧ r.addr.fam = 6 ∧ r.target = [] ∧ r.data = []
   else if r.typ = 5 then mayB r.target = true ∧ r.addr = Ad.zero ∧ r.data = []
   else r.addr = Ad.zero ∧ r.target = [])) → Value.bool (decide p) = .bool (decide (recMay r)) := by
    intro p _ hp
    refine congrArg Value.bool ?_
    rw [decide_eq_decide]; exact (hbase p hp).symm
  repeat (first|refine q1 ?_|refine q2 ?_|refine q3 ?_|refine q4 ?_|refine q5 ?_|refine q6 ?_|refine w_seq ?_|refine w_region ?_|refine w_ops_nil ?_|refine w_skip ?_|refine w_block ?_|refine w_blk ?_|refine q7 ?_|refine q8 ?_|refine q9 ?_)
  refine w_makeMap 3 rfl fun h7 q hs7 hm7 => ?_
  replace hc1 := hc1.go hs7; replace hst := hst.go hs7
  refine w_insert (K := El.int) (V := El.int) (m := []) (key := 1) (u := 4) hm7.empty rfl rfl rfl fun h8 hb8 hs8 hm8 => ?_
  replace hc1 := hc1.go hs8; replace hst := hst.go hs8
  refine w_insert (K := El.int) (V := El.int) (key := 28) (u := 6) hm8 rfl rfl rfl fun h9 hb9 hs9 hm9 => ?_
  replace hc1 := hc1.go hs9; replace hst := hst.go hs9
  repeat (first|refine q1 ?_|refine q2 ?_|refine q3 ?_|refine q4 ?_|refine q5 ?_|refine q6 ?_|refine w_seq ?_|refine w_region ?_|refine w_ops_nil ?_|refine w_skip ?_|refine w_block ?_|refine w_blk ?_|refine q7 ?_|refine q8 ?_|refine q9 ?_)
  refine w_fldA (by decide) rfl rfl ?_
  refine w_load1 (v := .int .i64 r.typ) hc1 rfl rfl rfl rfl ?_
  refine w_lookup (K := El.int) (V := El.int) (key := r.typ) hm9 rfl rfl rfl ?_
  refine w_known 31 (.int .i64 (famOf r.typ)) rfl (by exact fam_get r.typ) ?_
  repeat (first|refine q1 ?_|refine q2 ?_|refine q3 ?_|refine q4 ?_|refine q5 ?_|refine q6 ?_|refine w_seq ?_|refine w_region ?_|refine w_ops_nil ?_|refine w_skip ?_|refine w_block ?_|refine w_blk ?_|refine q7 ?_|refine q8 ?_|refine q9 ?_)
  refine w_condP rfl (fun hf => ?_) (fun hf => ?_)
  · have h128 : r.typ = 1 ∨ r.typ = 28 := by
      unfold famOf at hf
      by_cases h1 : r.typ = 1
      · exact .inl h1
      · by_cases h2 : r.typ = 28
        · exact .inr h2
        · simp [h1, h2] at hf
    have ht5 : (if r.typ = 1 then mayA r.addr = true ∧ r.addr.fam = 4 ∧ r.target = [] ∧ r.data = []
       else if r.typ = 28 then mayA r.addr = true ∧ r.addr.fam = 6 ∧ r.target = [] ∧ r.data = []
       else if r.typ = 5 then mayB r.target = true ∧ r.addr = Ad.zero ∧ r.data = []
       else r.addr = Ad.zero ∧ r.target = []) ↔ (mayA r.addr = true ∧ r.addr.fam = famOf r.typ ∧ r.target = [] ∧ r.data = []) := by
      rcases h128 with h | h <;> simp [h, famOf]
    repeat (first|refine q1 ?_|refine q2 ?_|refine q3 ?_|refine q4 ?_|refine q5 ?_|refine q6 ?_|refine w_seq ?_|refine w_region ?_|refine w_ops_nil ?_|refine w_skip ?_|refine w_block ?_|refine w_blk ?_|refine q7 ?_|refine q8 ?_|refine q9 ?_)
    refine w_fldA (by decide) rfl rfl ?_
    refine w_loadS (us := El.ad.enc r.addr) hc1 rfl rfl rfl rfl rfl ?_
    refine w_callF rfl (addr_May r.addr h9) rfl fun u h10 hs10 hu => ?_
    subst hu
    replace hc1 := hc1.go hs10; replace hst := hst.go hs10
    repeat (first|refine q1 ?_|refine q2 ?_|refine q3 ?_|refine q4 ?_|refine q5 ?_|refine q6 ?_|refine w_seq ?_|refine w_region ?_|refine w_ops_nil ?_|refine w_skip ?_|refine w_block ?_|refine w_blk ?_|refine q7 ?_|refine q8 ?_|refine q9 ?_)
    refine w_splitB 38 rfl (fun ha => ?_) (fun ha => ?_)
    · repeat (first|refine q1 ?_|refine q2 ?_|refine q3 ?_|refine q4 ?_|refine q5 ?_|refine q6 ?_|refine w_seq ?_|refine w_region ?_|refine w_ops_nil ?_|refine w_skip ?_|refine w_block ?_|refine w_blk ?_|refine q7 ?_|refine q8 ?_|refine q9 ?_)
      refine w_fldA (by decide) rfl rfl ?_
      repeat (first|refine q1 ?_|refine q2 ?_|refine q3 ?_|refine q4 ?_|refine q5 ?_|refine q6 ?_|refine w_seq ?_|refine w_region ?_|refine w_ops_nil ?_|refine w_skip ?_|refine w_block ?_|refine w_blk ?_|refine q7 ?_|refine q8 ?_|refine q9 ?_)
      refine w_fldA (by decide) rfl rfl ?_
      repeat (first|refine q1 ?_|refine q2 ?_|refine q3 ?_|refine q4 ?_|refine q5 ?_|refine q6 ?_|refine w_seq ?_|refine w_region ?_|refine w_ops_nil ?_|refine w_skip ?_|refine w_block ?_|refine w_blk ?_|refine q7 ?_|refine q8 ?_|refine q9 ?_)
      refine w_load1 (v := .int .i64 r.addr.fam) hc1 rfl rfl rfl rfl ?_
      repeat (first|refine q1 ?_|refine q2 ?_|refine q3 ?_|refine q4 ?_|refine q5 ?_|refine q6 ?_|refine w_seq ?_|refine w_region ?_|refine w_ops_nil ?_|refine w_skip ?_|refine w_block ?_|refine w_blk ?_|refine q7 ?_|refine q8 ?_|refine q9 ?_)
      refine w_splitP 45 rfl (fun hf => ?_) (fun hf => ?_)
      · repeat (first|refine q1 ?_|refine q2 ?_|refine q3 ?_|refine q4 ?_|refine q5 ?_|refine q6 ?_|refine w_seq ?_|refine w_region ?_|refine w_ops_nil ?_|refine w_skip ?_|refine w_block ?_|refine w_blk ?_|refine q7 ?_|refine q8 ?_|refine q9 ?_)
        refine w_fldA (by decide) rfl rfl ?_
        repeat (first|refine q1 ?_|refine q2 ?_|refine q3 ?_|refine q4 ?_|refine q5 ?_|refine q6 ?_|refine w_seq ?_|refine w_region ?_|refine w_ops_nil ?_|refine w_skip ?_|refine w_block ?_|refine w_blk ?_|refine q7 ?_|refine q8 ?_|refine q9 ?_)
        refine w_load1 (v := str r.target) hc1 rfl rfl rfl rfl ?_
        repeat (first|refine q1 ?_|refine q2 ?_|refine q3 ?_|refine q4 ?_|refine q5 ?_|refine q6 ?_|refine w_seq ?_|refine w_region ?_|refine w_ops_nil ?_|refine w_skip ?_|refine w_block ?_|refine w_blk ?_|refine q7 ?_|refine q8 ?_|refine q9 ?_)
        refine w_splitP 50 rfl (fun htg => ?_) (fun htg => ?_)
        · repeat (first|refine q1 ?_|refine q2 ?_|refine q3 ?_|refine q4 ?_|refine q5 ?_|refine q6 ?_|refine w_seq ?_|refine w_region ?_|refine w_ops_nil ?_|refine w_skip ?_|refine w_block ?_|refine w_blk ?_|refine q7 ?_|refine q8 ?_|refine q9 ?_)
          refine w_fldA (by decide) rfl rfl ?_
          repeat (first|refine q1 ?_|refine q2 ?_|refine q3 ?_|refine q4 ?_|refine q5 ?_|refine q6 ?_|refine w_seq ?_|refine w_region ?_|refine w_ops_nil ?_|refine w_skip ?_|refine w_block ?_|refine w_blk ?_|refine q7 ?_|refine q8 ?_|refine q9 ?_)
          refine w_load1 (v := str r.data) hc1 rfl rfl rfl rfl ?_
          repeat (first|refine q1 ?_|refine q2 ?_|refine q3 ?_|refine q4 ?_|refine q5 ?_|refine q6 ?_|refine w_seq ?_|refine w_region ?_|refine w_ops_nil ?_|refine w_skip ?_|refine w_block ?_|refine w_blk ?_|refine q7 ?_|refine q8 ?_|refine q9 ?_)
          refine w_retG (res1 rfl rfl) hst fun h' _ => fin (r.data = []) ?_
          have htg : r.target = [] := htg
          rw [ht5]; simp [ha, hf, htg]
        · repeat (first|refine q1 ?_|refine q2 ?_|refine q3 ?_|refine q4 ?_|refine q5 ?_|refine q6 ?_|refine w_seq ?_|refine w_region ?_|refine w_ops_nil ?_|refine w_skip ?_|refine w_block ?_|refine w_blk ?_|refine q7 ?_|refine q8 ?_|refine q9 ?_)
          refine w_retG (res1 rfl rfl) hst fun h' _ => fin False ?_
          have htg : ¬ r.target = [] := htg
          rw [ht5]; simp [htg]
      · repeat (first|refine q1 ?_|refine q2 ?_|refine q3 ?_|refine q4 ?_|refine q5 ?_|refine q6 ?_|refine w_seq ?_|refine w_region ?_|refine w_ops_nil ?_|refine w_skip ?_|refine w_block ?_|refine w_blk ?_|refine q7 ?_|refine q8 ?_|refine q9 ?_)
        refine w_retG (res1 rfl rfl) hst fun h' _ => fin False ?_
        rw [ht5]; simp [hf]
    · repeat (first|refine q1 ?_|refine q2 ?_|refine q3 ?_|refine q4 ?_|refine q5 ?_|refine q6 ?_|refine w_seq ?_|refine w_region ?_|refine w_ops_nil ?_|refine w_skip ?_|refine w_block ?_|refine w_blk ?_|refine q7 ?_|refine q8 ?_|refine q9 ?_)
      refine w_retG (res1 rfl rfl) hst fun h' _ => fin False ?_
      rw [ht5]; simp [ha]
  have h1 : ¬ r.typ = 1 := by intro h; apply hf; simp [famOf, h]
  have h28 : ¬ r.typ = 28 := by intro h; apply hf; simp [famOf, h]
  repeat (first|refine q1 ?_|refine q2 ?_|refine q3 ?_|refine q4 ?_|refine q5 ?_|refine q6 ?_|refine w_seq ?_|refine w_region ?_|refine w_ops_nil ?_|refine w_skip ?_|refine w_block ?_|refine w_blk ?_|refine q7 ?_|refine q8 ?_|refine q9 ?_)
  refine w_fldA (by decide) rfl rfl ?_
  refine w_load1 (v := .int .i64 r.typ) hc1 rfl rfl rfl rfl ?_
  repeat (first|refine q1 ?_|refine q2 ?_|refine q3 ?_|refine q4 ?_|refine q5 ?_|refine q6 ?_|refine w_seq ?_|refine w_region ?_|refine w_ops_nil ?_|refine w_skip ?_|refine w_block ?_|refine w_blk ?_|refine q7 ?_|refine q8 ?_|refine q9 ?_)
  refine w_condP rfl (fun h5 => ?_) (fun h5 => ?_)
  · repeat (first|refine q1 ?_|refine q2 ?_|refine q3 ?_|refine q4 ?_|refine q5 ?_|refine q6 ?_|refine w_seq ?_|refine w_region ?_|refine w_ops_nil ?_|refine w_skip ?_|refine w_block ?_|refine w_blk ?_|refine q7 ?_|refine q8 ?_|refine q9 ?_)
    refine w_fldA (by decide) rfl rfl ?_
    refine w_load1 (v := str r.target) hc1 rfl rfl rfl rfl ?_
    refine w_callF rfl (label_May r.target h9 ht) rfl fun u h10 hs10 hu => ?_
    subst hu
    replace hc1 := hc1.go hs10; replace hst := hst.go hs10
    repeat (first|refine q1 ?_|refine q2 ?_|refine q3 ?_|refine q4 ?_|refine q5 ?_|refine q6 ?_|refine w_seq ?_|refine w_region ?_|refine w_ops_nil ?_|refine w_skip ?_|refine w_block ?_|refine w_blk ?_|refine q7 ?_|refine q8 ?_|refine q9 ?_)
    refine w_splitB 62 rfl (fun ha => ?_) (fun ha => ?_)
    · repeat (first|refine q1 ?_|refine q2 ?_|refine q3 ?_|refine q4 ?_|refine q5 ?_|refine q6 ?_|refine w_seq ?_|refine w_region ?_|refine w_ops_nil ?_|refine w_skip ?_|refine w_block ?_|refine w_blk ?_|refine q7 ?_|refine q8 ?_|refine q9 ?_)
      refine w_fldA (by decide) rfl rfl ?_
      repeat (first|refine q1 ?_|refine q2 ?_|refine q3 ?_|refine q4 ?_|refine q5 ?_|refine q6 ?_|refine w_seq ?_|refine w_region ?_|refine w_ops_nil ?_|refine w_skip ?_|refine w_block ?_|refine w_blk ?_|refine q7 ?_|refine q8 ?_|refine q9 ?_)
      refine w_loadS (us := El.ad.enc r.addr) hc1 rfl rfl rfl rfl rfl ?_
      repeat (first|refine q1 ?_|refine q2 ?_|refine q3 ?_|refine q4 ?_|refine q5 ?_|refine q6 ?_|refine w_seq ?_|refine w_region ?_|refine w_ops_nil ?_|refine w_skip ?_|refine w_block ?_|refine w_blk ?_|refine q7 ?_|refine q8 ?_|refine q9 ?_)
      refine w_build (vs := []) (r := El.ad.enc Ad.zero) rfl rfl rfl ?_
      repeat (first|refine q1 ?_|refine q2 ?_|refine q3 ?_|refine q4 ?_|refine q5 ?_|refine q6 ?_|refine w_seq ?_|refine w_region ?_|refine w_ops_nil ?_|refine w_skip ?_|refine w_block ?_|refine w_blk ?_|refine q7 ?_|refine q8 ?_|refine q9 ?_)
      refine w_eqS (E := El.ad) (a := r.addr) (b := Ad.zero) rfl rfl rfl rfl ?_
      repeat (first|refine q1 ?_|refine q2 ?_|refine q3 ?_|refine q4 ?_|refine q5 ?_|refine q6 ?_|refine w_seq ?_|refine w_region ?_|refine w_ops_nil ?_|refine w_skip ?_|refine w_block ?_|refine w_blk ?_|refine q7 ?_|refine q8 ?_|refine q9 ?_)
      refine w_splitP 68 rfl (fun hz => ?_) (fun hz => ?_)
      · repeat (first|refine q1 ?_|refine q2 ?_|refine q3 ?_|refine q4 ?_|refine q5 ?_|refine q6 ?_|refine w_seq ?_|refine w_region ?_|refine w_ops_nil ?_|refine w_skip ?_|refine w_block ?_|refine w_blk ?_|refine q7 ?_|refine q8 ?_|refine q9 ?_)
        refine w_fldA (by decide) rfl rfl ?_
        repeat (first|refine q1 ?_|refine q2 ?_|refine q3 ?_|refine q4 ?_|refine q5 ?_|refine q6 ?_|refine w_seq ?_|refine w_region ?_|refine w_ops_nil ?_|refine w_skip ?_|refine w_block ?_|refine w_blk ?_|refine q7 ?_|refine q8 ?_|refine q9 ?_)
        refine w_load1 (v := str r.data) hc1 rfl rfl rfl rfl ?_
        repeat (first|refine q1 ?_|refine q2 ?_|refine q3 ?_|refine q4 ?_|refine q5 ?_|refine q6 ?_|refine w_seq ?_|refine w_region ?_|refine w_ops_nil ?_|refine w_skip ?_|refine w_block ?_|refine w_blk ?_|refine q7 ?_|refine q8 ?_|refine q9 ?_)
        refine w_retG (res1 rfl rfl) hst fun h' _ => fin (r.data = []) ?_
        rw [if_neg h1, if_neg h28, if_pos h5]; simp [ha, hz]
      · repeat (first|refine q1 ?_|refine q2 ?_|refine q3 ?_|refine q4 ?_|refine q5 ?_|refine q6 ?_|refine w_seq ?_|refine w_region ?_|refine w_ops_nil ?_|refine w_skip ?_|refine w_block ?_|refine w_blk ?_|refine q7 ?_|refine q8 ?_|refine q9 ?_)
        refine w_retG (res1 rfl rfl) hst fun h' _ => fin False ?_
        rw [if_neg h1, if_neg h28, if_pos h5]; simp [hz]
    · repeat (first|refine q1 ?_|refine q2 ?_|refine q3 ?_|refine q4 ?_|refine q5 ?_|refine q6 ?_|refine w_seq ?_|refine w_region ?_|refine w_ops_nil ?_|refine w_skip ?_|refine w_block ?_|refine w_blk ?_|refine q7 ?_|refine q8 ?_|refine q9 ?_)
      refine w_retG (res1 rfl rfl) hst fun h' _ => fin False ?_
      rw [if_neg h1, if_neg h28, if_pos h5]; simp [ha]
  repeat (first|refine q1 ?_|refine q2 ?_|refine q3 ?_|refine q4 ?_|refine q5 ?_|refine q6 ?_|refine w_seq ?_|refine w_region ?_|refine w_ops_nil ?_|refine w_skip ?_|refine w_block ?_|refine w_blk ?_|refine q7 ?_|refine q8 ?_|refine q9 ?_)
  refine w_fldA (by decide) rfl rfl ?_
  refine w_loadS (us := El.ad.enc r.addr) hc1 rfl rfl rfl rfl rfl ?_
  refine w_build (vs := []) (r := El.ad.enc Ad.zero) rfl rfl rfl ?_
  refine w_eqS (E := El.ad) (a := r.addr) (b := Ad.zero) rfl rfl rfl rfl ?_
  repeat (first|refine q1 ?_|refine q2 ?_|refine q3 ?_|refine q4 ?_|refine q5 ?_|refine q6 ?_|refine w_seq ?_|refine w_region ?_|refine w_ops_nil ?_|refine w_skip ?_|refine w_block ?_|refine w_blk ?_|refine q7 ?_|refine q8 ?_|refine q9 ?_)
  refine w_splitP 77 rfl (fun hz => ?_) (fun hz => ?_)
  · repeat (first|refine q1 ?_|refine q2 ?_|refine q3 ?_|refine q4 ?_|refine q5 ?_|refine q6 ?_|refine w_seq ?_|refine w_region ?_|refine w_ops_nil ?_|refine w_skip ?_|refine w_block ?_|refine w_blk ?_|refine q7 ?_|refine q8 ?_|refine q9 ?_)
    refine w_fldA (by decide) rfl rfl ?_
    repeat (first|refine q1 ?_|refine q2 ?_|refine q3 ?_|refine q4 ?_|refine q5 ?_|refine q6 ?_|refine w_seq ?_|refine w_region ?_|refine w_ops_nil ?_|refine w_skip ?_|refine w_block ?_|refine w_blk ?_|refine q7 ?_|refine q8 ?_|refine q9 ?_)
    refine w_load1 (v := str r.target) hc1 rfl rfl rfl rfl ?_
    repeat (first|refine q1 ?_|refine q2 ?_|refine q3 ?_|refine q4 ?_|refine q5 ?_|refine q6 ?_|refine w_seq ?_|refine w_region ?_|refine w_ops_nil ?_|refine w_skip ?_|refine w_block ?_|refine w_blk ?_|refine q7 ?_|refine q8 ?_|refine q9 ?_)
    refine w_retG (res1 rfl rfl) hst fun h' _ => fin (r.target = []) ?_
    rw [if_neg h1, if_neg h28, if_neg h5]; simp [hz]
  · repeat (first|refine q1 ?_|refine q2 ?_|refine q3 ?_|refine q4 ?_|refine q5 ?_|refine q6 ?_|refine w_seq ?_|refine w_region ?_|refine w_ops_nil ?_|refine w_skip ?_|refine w_block ?_|refine w_blk ?_|refine q7 ?_|refine q8 ?_|refine q9 ?_)
    refine w_retG (res1 rfl rfl) hst fun h' _ => fin False ?_
    rw [if_neg h1, if_neg h28, if_neg h5]; simp [hz]

theorem wire_May1 (r : Rc) (g : G) (hok : RcOk r) : Fn Try.prog 53 [El.rc.val r] g [] fun u _ => u = .bool (!(decide (recMay r))) := by
  refine enterG [] [2] Try.func53 rfl Try.ntmps53 rfl (by simp) fun g1 hv ho => ?_
  repeat (first|refine q1 ?_|refine q2 ?_|refine q3 ?_|refine q4 ?_|refine q5 ?_|refine q6 ?_|refine w_seq ?_|refine w_region ?_|refine w_ops_nil ?_|refine w_skip ?_|refine w_block ?_|refine w_blk ?_|refine q7 ?_|refine q8 ?_|refine q9 ?_)
  refine w_box 2 (vs := El.rc.enc r) rfl rfl rfl fun h1 b1 hs1 hc1 => ?_
  repeat (first|refine q1 ?_|refine q2 ?_|refine q3 ?_|refine q4 ?_|refine q5 ?_|refine q6 ?_|refine w_seq ?_|refine w_region ?_|refine w_ops_nil ?_|refine w_skip ?_|refine w_block ?_|refine w_blk ?_|refine q7 ?_|refine q8 ?_|refine q9 ?_)
  refine w_loadS (us := El.rc.enc r) hc1 rfl rfl rfl rfl rfl ?_
  refine w_callF rfl (wire_record r h1 hok.1 hok.2) rfl fun u h2 hs2 hu => ?_
  subst hu
  repeat (first|refine q1 ?_|refine q2 ?_|refine q3 ?_|refine q4 ?_|refine q5 ?_|refine q6 ?_|refine w_seq ?_|refine w_region ?_|refine w_ops_nil ?_|refine w_skip ?_|refine w_block ?_|refine w_blk ?_|refine q7 ?_|refine q8 ?_|refine q9 ?_)
  exact w_retG (res1 rfl rfl) (hs1.go hs2).nil fun h' _ => rfl
theorem wire_May2 (q : Qn) (g : G) (hok : q.name.length ≤ 1000000000) : Fn Try.prog 58 [El.qn.val q] g [] fun u _ => u = .bool (!(decide (qnMay q))) := by
  refine enterG [] [2] Try.func58 rfl Try.ntmps58 rfl (by simp) fun g1 hv ho => ?_
  repeat (first|refine q1 ?_|refine q2 ?_|refine q3 ?_|refine q4 ?_|refine q5 ?_|refine q6 ?_|refine w_seq ?_|refine w_region ?_|refine w_ops_nil ?_|refine w_skip ?_|refine w_block ?_|refine w_blk ?_|refine q7 ?_|refine q8 ?_|refine q9 ?_)
  refine w_box 2 (vs := El.qn.enc q) rfl rfl rfl fun h1 b1 hs1 hc1 => ?_
  have hst : Step [] [2] g1 h1 := hs1.nil
  repeat (first|refine q1 ?_|refine q2 ?_|refine q3 ?_|refine q4 ?_|refine q5 ?_|refine q6 ?_|refine w_seq ?_|refine w_region ?_|refine w_ops_nil ?_|refine w_skip ?_|refine w_block ?_|refine w_blk ?_|refine q7 ?_|refine q8 ?_|refine q9 ?_)
  refine w_fldA (by decide) rfl rfl ?_
  refine w_load1 (v := str q.name) hc1 rfl rfl rfl rfl ?_
  refine w_callF rfl (label_May q.name h1 hok) rfl fun u h2 hs2 hu => ?_
  subst hu
  replace hc1 := hc1.go hs2; replace hst := hst.go hs2
  repeat (first|refine q1 ?_|refine q2 ?_|refine q3 ?_|refine q4 ?_|refine q5 ?_|refine q6 ?_|refine w_seq ?_|refine w_region ?_|refine w_ops_nil ?_|refine w_skip ?_|refine w_block ?_|refine w_blk ?_|refine q7 ?_|refine q8 ?_|refine q9 ?_)
  refine w_splitB 7 rfl (fun h => ?_) (fun hnm => ?_)
  · repeat (first|refine q1 ?_|refine q2 ?_|refine q3 ?_|refine q4 ?_|refine q5 ?_|refine q6 ?_|refine w_seq ?_|refine w_region ?_|refine w_ops_nil ?_|refine w_skip ?_|refine w_block ?_|refine w_blk ?_|refine q7 ?_|refine q8 ?_|refine q9 ?_)
    refine w_retG (res1 rfl rfl) hst fun h' _ => congrArg Value.bool ?_
    rw [decide_eq_false (fun hq => by simp [hq.1] at h)]; rfl
  repeat (first|refine q1 ?_|refine q2 ?_|refine q3 ?_|refine q4 ?_|refine q5 ?_|refine q6 ?_|refine w_seq ?_|refine w_region ?_|refine w_ops_nil ?_|refine w_skip ?_|refine w_block ?_|refine w_blk ?_|refine q7 ?_|refine q8 ?_|refine q9 ?_)
  refine w_fldA (by decide) rfl rfl ?_
  repeat (first|refine q1 ?_|refine q2 ?_|refine q3 ?_|refine q4 ?_|refine q5 ?_|refine q6 ?_|refine w_seq ?_|refine w_region ?_|refine w_ops_nil ?_|refine w_skip ?_|refine w_block ?_|refine w_blk ?_|refine q7 ?_|refine q8 ?_|refine q9 ?_)
  refine w_load1 (v := .int .i64 q.typ) hc1 rfl rfl rfl rfl ?_
  repeat (first|refine q1 ?_|refine q2 ?_|refine q3 ?_|refine q4 ?_|refine q5 ?_|refine q6 ?_|refine w_seq ?_|refine w_region ?_|refine w_ops_nil ?_|refine w_skip ?_|refine w_block ?_|refine w_blk ?_|refine q7 ?_|refine q8 ?_|refine q9 ?_)
  refine w_fldA (by decide) rfl rfl ?_
  repeat (first|refine q1 ?_|refine q2 ?_|refine q3 ?_|refine q4 ?_|refine q5 ?_|refine q6 ?_|refine w_seq ?_|refine w_region ?_|refine w_ops_nil ?_|refine w_skip ?_|refine w_block ?_|refine w_blk ?_|refine q7 ?_|refine q8 ?_|refine q9 ?_)
  refine w_load1 (v := .int .i64 q.cls) hc1 rfl rfl rfl rfl ?_
  repeat (first|refine q1 ?_|refine q2 ?_|refine q3 ?_|refine q4 ?_|refine q5 ?_|refine q6 ?_|refine w_seq ?_|refine w_region ?_|refine w_ops_nil ?_|refine w_skip ?_|refine w_block ?_|refine w_blk ?_|refine q7 ?_|refine q8 ?_|refine q9 ?_)
  refine w_buildSlR El.int [q.typ, q.cls] rfl rfl rfl rfl fun h3 v3 hs3 hr3 => ?_
  replace hc1 := hc1.go hs3; replace hst := hst.go hs3
  repeat (first|refine q1 ?_|refine q2 ?_|refine q3 ?_|refine q4 ?_|refine q5 ?_|refine q6 ?_|refine w_seq ?_|refine w_region ?_|refine w_ops_nil ?_|refine w_skip ?_|refine w_block ?_|refine w_blk ?_|refine q7 ?_|refine q8 ?_|refine q9 ?_)
  refine w_callF rfl (wire_within 65535 _ h3 hr3.x) rfl fun u h4 hs4 hu => ?_
  subst hu
  replace hst := hst.go hs4
  repeat (first|refine q1 ?_|refine q2 ?_|refine q3 ?_|refine q4 ?_|refine q5 ?_|refine q6 ?_|refine w_seq ?_|refine w_region ?_|refine w_ops_nil ?_|refine w_skip ?_|refine w_block ?_|refine w_blk ?_|refine q7 ?_|refine q8 ?_|refine q9 ?_)
  refine w_retG (res1 rfl rfl) hst fun h' _ => congrArg Value.bool (congrArg (!·) ?_)
  rw [decide_eq_decide]
  unfold qnMay wordP
  have hnm : mayB q.name = true := by simpa using hnm
  constructor
  · intro h; exact ⟨hnm, h q.typ (by simp), h q.cls (by simp)⟩
  · rintro ⟨_, k1, k2⟩ n hn
    simp only [List.mem_cons, List.not_mem_nil, or_false] at hn
    rcases hn with rfl | rfl
    · exact k1
    · exact k2

def El.adr : El Addr := ⟨1, false, fun a => [.pointer (some a)], fun _ => rfl, fun _ => rfl, by decide, by intro x u hu; simp at hu; subst hu; rfl⟩
theorem wire_lists (b : Nat) (g : G) : Fn Try.prog 51 [.pointer (some ⟨b, 0, none⟩)] g [] fun u h => Rd h 0 El.adr u [⟨b, 3, none⟩, ⟨b, 4, none⟩, ⟨b, 5, none⟩] := by
  refine enterG [] [] Try.func51 rfl Try.ntmps51 rfl (by simp) fun g1 hv ho => ?_
  repeat (first|refine q1 ?_|refine q2 ?_|refine q3 ?_|refine q4 ?_|refine q5 ?_|refine q6 ?_|refine w_seq ?_|refine w_region ?_|refine w_ops_nil ?_|refine w_skip ?_|refine w_block ?_|refine w_blk ?_|refine q7 ?_|refine q8 ?_|refine q9 ?_)
  refine d_begin none [] (by kernel_rfl) fun g2 hsd => ?_
  refine d_pure 0 calm_ret rfl (by kernel_rfl) rfl rfl ?_; refine d_pure 1 calm_ret rfl (by kernel_rfl) rfl rfl ?_
  refine d_read 2 calm_ret rfl (by kernel_rfl) rfl  (fun h hs => r_fldA (by decide) rfl) ?_
  refine d_pure 3 calm_ret rfl (by kernel_rfl) rfl rfl ?_; refine d_pure 4 calm_ret rfl (by kernel_rfl) rfl rfl ?_
  refine d_read 5 calm_ret rfl (by kernel_rfl) rfl  (fun h hs => r_fldA (by decide) rfl) ?_
  refine d_pure 6 calm_ret rfl (by kernel_rfl) rfl rfl ?_; refine d_pure 7 calm_ret rfl (by kernel_rfl) rfl rfl ?_
  refine d_read 8 calm_ret rfl (by kernel_rfl) rfl  (fun h hs => r_fldA (by decide) rfl) ?_
  refine d_exec1 9 (by kernel_rfl) rfl ?_
  refine w_buildSlR El.adr [⟨b, 3, none⟩, ⟨b, 4, none⟩, ⟨b, 5, none⟩] rfl rfl rfl rfl fun h3 v3 hs3 hr3 => ?_
  repeat (first|refine q1 ?_|refine q2 ?_|refine q3 ?_|refine q4 ?_|refine q5 ?_|refine q6 ?_|refine w_seq ?_|refine w_region ?_|refine w_ops_nil ?_|refine w_skip ?_|refine w_block ?_|refine w_blk ?_|refine q7 ?_|refine q8 ?_|refine q9 ?_)
  refine d_next (fun _ => ⟨h3, rfl, hs3⟩) ?_
  refine d_pure 10 calm_ret rfl (by kernel_rfl) rfl rfl ?_
  refine d_done (by kernel_rfl) ?_
  repeat (first|refine q1 ?_|refine q2 ?_|refine q3 ?_|refine q4 ?_|refine q5 ?_|refine q6 ?_|refine w_seq ?_|refine w_region ?_|refine w_ops_nil ?_|refine w_skip ?_|refine w_block ?_|refine w_blk ?_|refine q7 ?_|refine q8 ?_|refine q9 ?_)
  exact w_retG (res1 rfl rfl) (hsd.go hs3).nil fun h' hv' => hr3.view hv' (.inl rfl)

theorem wire_May (m : Ms) (vs : List Value) (g : G) (hm : MsR g vs m) (hok : MsOk m) : Fn Try.prog 25 [.agg vs.toArray] g [] fun u _ => u = .bool (decide (msMay m)) := by
  refine enterG [] [2] Try.func25 rfl Try.ntmps25 rfl (by simp) fun g1 hv ho => ?_
  replace hm := hm.seen hv ho
  obtain ⟨vq, va, vu, vm, rfl, hq, ha, hu, hmo⟩ := hm
  obtain ⟨ok1, ok2, ok3, ok4⟩ := hok
  let cs : List Value := [.int .i64 m.id, .int .i64 m.flags, vq, va, vu, vm]
  repeat (first|refine q1 ?_|refine q2 ?_|refine q3 ?_|refine q4 ?_|refine q5 ?_|refine q6 ?_|refine w_seq ?_|refine w_region ?_|refine w_ops_nil ?_|refine w_skip ?_|refine w_block ?_|refine w_blk ?_|refine q7 ?_|refine q8 ?_|refine q9 ?_)
  refine w_box 2 (vs := cs) rfl rfl rfl fun h1 b1 hs1 hc1 => ?_
  repeat (first|refine q1 ?_|refine q2 ?_|refine q3 ?_|refine q4 ?_|refine q5 ?_|refine q6 ?_|refine w_seq ?_|refine w_region ?_|refine w_ops_nil ?_|refine w_skip ?_|refine w_block ?_|refine w_blk ?_|refine q7 ?_|refine q8 ?_|refine q9 ?_)
  refine w_callF rfl (wire_lists b1 h1) rfl fun vl h2 hs2 hl2 => ?_
  replace hc1 := hc1.go hs2
  have hst : Step [] [2] g1 h2 := (hs1.go hs2).nil
  refine w_lenSl hl2.isSl rfl rfl ?_
  refine w_known 7 (.int .i64 3) rfl rfl ?_
  have one : ∀ (o : Nat) (v : Value) (l : List Rc) (h : G), cs[o]? = some v → Step [] [2] g1 h → Rdx g1 El.rc v l → (∀ r ∈ l, RcOk r) →
      Fn Try.prog 55 [v, .func (.func 53) #[] #[]] h [] fun u _ => u = .bool (!(decide (∀ r ∈ l, recMay r))) := by
    intro o v l h ho hs hr hl
    obtain ⟨c, hc, hr⟩ := hr.go hs
    refine (ContainsFunc_rc 53 #[] (fun r => !(decide (recMay r))) (fun _ => True) Stable.triv l h trivial hr (fun x g hx _ => wire_May1 x g (hl x hx))).mono (by simp) fun u h2 _ hu => ?_
    rw [hu]
    refine congrArg Value.bool ?_
    rw [Bool.eq_iff_iff]
    simp
  have no : ∀ {p : Prop}, (¬ p) → (msMay m → p) → Value.bool false = .bool (decide (msMay m)) := fun hp h => congrArg Value.bool (decide_eq_false (fun hr => hp (h hr))).symm
  repeat (first|refine q1 ?_|refine q2 ?_|refine q3 ?_|refine q4 ?_|refine q5 ?_|refine q6 ?_|refine w_seq ?_|refine w_region ?_|refine w_ops_nil ?_|refine w_skip ?_|refine w_blk ?_|refine q7 ?_|refine q8 ?_|refine q9 ?_)
  refine w_cut (ι := Unit) (fun _ => [(1, .pointer (some ⟨b1, 0, none⟩))]) (fun _ w => ∃ h, h.w = w ∧ Step [] [2] g1 h ∧ Cell h 2 b1 46 cs ∧ (∀ r ∈ m.ans, recMay r) ∧ (∀ r ∈ m.auth, recMay r) ∧ ∀ r ∈ m.more, recMay r) ?_ ?_
  · repeat (first|refine q1 ?_|refine q2 ?_|refine q3 ?_|refine q4 ?_|refine q5 ?_|refine q6 ?_|refine w_seq ?_|refine w_region ?_|refine w_ops_nil ?_|refine w_skip ?_|refine w_block ?_|refine w_blk ?_|refine q7 ?_|refine q8 ?_|refine q9 ?_)
    refine w_rounds 4 ?_
    refine w_round ?_
    repeat (first|refine q1 ?_|refine q2 ?_|refine q3 ?_|refine q4 ?_|refine q5 ?_|refine q6 ?_|refine w_seq ?_|refine w_region ?_|refine w_ops_nil ?_|refine w_skip ?_|refine w_block ?_|refine w_blk ?_|refine q7 ?_|refine q8 ?_|refine q9 ?_)
    refine w_idx hl2 rfl rfl (by omega) (by simp only [List.length_cons, List.length_nil]; omega) rfl ?_
    refine w_loadE (i := 0) (y := ⟨b1, 3, none⟩) hl2 rfl rfl rfl rfl ?_
    repeat (first|refine q1 ?_|refine q2 ?_|refine q3 ?_|refine q4 ?_|refine q5 ?_|refine q6 ?_|refine w_seq ?_|refine w_region ?_|refine w_ops_nil ?_|refine w_skip ?_|refine w_block ?_|refine w_blk ?_|refine q7 ?_|refine q8 ?_|refine q9 ?_)
    refine w_load1 (v := va) hc1 rfl rfl rfl rfl ?_
    repeat (first|refine q1 ?_|refine q2 ?_|refine q3 ?_|refine q4 ?_|refine q5 ?_|refine q6 ?_|refine w_seq ?_|refine w_region ?_|refine w_ops_nil ?_|refine w_skip ?_|refine w_block ?_|refine w_blk ?_|refine q7 ?_|refine q8 ?_|refine q9 ?_)
    refine w_callF rfl (one 3 va m.ans h2 rfl hst ha ok2) rfl fun u h3 hs3 hu => ?_
    subst hu
    replace hc1 := hc1.go hs3; replace hst := hst.go hs3; replace hl2 := hl2.go hs3
    repeat (first|refine q1 ?_|refine q2 ?_|refine q3 ?_|refine q4 ?_|refine q5 ?_|refine q6 ?_|refine w_seq ?_|refine w_region ?_|refine w_ops_nil ?_|refine w_skip ?_|refine w_block ?_|refine w_blk ?_|refine q7 ?_|refine q8 ?_|refine q9 ?_)
    refine w_cond rfl (fun k => ?_) (fun k1 => ?_)
    · repeat (first|refine q1 ?_|refine q2 ?_|refine q3 ?_|refine q4 ?_|refine q5 ?_|refine q6 ?_|refine w_seq ?_|refine w_region ?_|refine w_ops_nil ?_|refine w_skip ?_|refine w_block ?_|refine w_blk ?_|refine q7 ?_|refine q8 ?_|refine q9 ?_)
      exact w_retG (res1 rfl rfl) hst fun h' _ => no (p := ∀ r ∈ m.ans, recMay r) (by simpa using k) (fun h => h.2.2.2.1)
    repeat (first|refine q1 ?_|refine q2 ?_|refine q3 ?_|refine q4 ?_|refine q5 ?_|refine q6 ?_|refine w_seq ?_|refine w_region ?_|refine w_ops_nil ?_|refine w_skip ?_|refine w_block ?_|refine w_blk ?_|refine q7 ?_|refine q8 ?_|refine q9 ?_)
    refine w_round ?_
    repeat (first|refine q1 ?_|refine q2 ?_|refine q3 ?_|refine q4 ?_|refine q5 ?_|refine q6 ?_|refine w_seq ?_|refine w_region ?_|refine w_ops_nil ?_|refine w_skip ?_|refine w_block ?_|refine w_blk ?_|refine q7 ?_|refine q8 ?_|refine q9 ?_)
    refine w_idx hl2 rfl rfl (by omega) (by simp only [List.length_cons, List.length_nil]; omega) rfl ?_
    refine w_loadE (i := 1) (y := ⟨b1, 4, none⟩) hl2 rfl rfl rfl rfl ?_
    repeat (first|refine q1 ?_|refine q2 ?_|refine q3 ?_|refine q4 ?_|refine q5 ?_|refine q6 ?_|refine w_seq ?_|refine w_region ?_|refine w_ops_nil ?_|refine w_skip ?_|refine w_block ?_|refine w_blk ?_|refine q7 ?_|refine q8 ?_|refine q9 ?_)
    refine w_load1 (v := vu) hc1 rfl rfl rfl rfl ?_
    repeat (first|refine q1 ?_|refine q2 ?_|refine q3 ?_|refine q4 ?_|refine q5 ?_|refine q6 ?_|refine w_seq ?_|refine w_region ?_|refine w_ops_nil ?_|refine w_skip ?_|refine w_block ?_|refine w_blk ?_|refine q7 ?_|refine q8 ?_|refine q9 ?_)
    refine w_callF rfl (one 4 vu m.auth h3 rfl hst hu ok3) rfl fun u h4 hs4 hu => ?_
    subst hu
    replace hc1 := hc1.go hs4; replace hst := hst.go hs4; replace hl2 := hl2.go hs4
    repeat (first|refine q1 ?_|refine q2 ?_|refine q3 ?_|refine q4 ?_|refine q5 ?_|refine q6 ?_|refine w_seq ?_|refine w_region ?_|refine w_ops_nil ?_|refine w_skip ?_|refine w_block ?_|refine w_blk ?_|refine q7 ?_|refine q8 ?_|refine q9 ?_)
    refine w_cond rfl (fun k => ?_) (fun k2 => ?_)
    · repeat (first|refine q1 ?_|refine q2 ?_|refine q3 ?_|refine q4 ?_|refine q5 ?_|refine q6 ?_|refine w_seq ?_|refine w_region ?_|refine w_ops_nil ?_|refine w_skip ?_|refine w_block ?_|refine w_blk ?_|refine q7 ?_|refine q8 ?_|refine q9 ?_)
      exact w_retG (res1 rfl rfl) hst fun h' _ => no (p := ∀ r ∈ m.auth, recMay r) (by simpa using k) (fun h => h.2.2.2.2.1)
    repeat (first|refine q1 ?_|refine q2 ?_|refine q3 ?_|refine q4 ?_|refine q5 ?_|refine q6 ?_|refine w_seq ?_|refine w_region ?_|refine w_ops_nil ?_|refine w_skip ?_|refine w_block ?_|refine w_blk ?_|refine q7 ?_|refine q8 ?_|refine q9 ?_)
    refine w_round ?_
    repeat (first|refine q1 ?_|refine q2 ?_|refine q3 ?_|refine q4 ?_|refine q5 ?_|refine q6 ?_|refine w_seq ?_|refine w_region ?_|refine w_ops_nil ?_|refine w_skip ?_|refine w_block ?_|refine w_blk ?_|refine q7 ?_|refine q8 ?_|refine q9 ?_)
    refine w_idx hl2 rfl rfl (by omega) (by simp only [List.length_cons, List.length_nil]; omega) rfl ?_
    refine w_loadE (i := 2) (y := ⟨b1, 5, none⟩) hl2 rfl rfl rfl rfl ?_
    repeat (first|refine q1 ?_|refine q2 ?_|refine q3 ?_|refine q4 ?_|refine q5 ?_|refine q6 ?_|refine w_seq ?_|refine w_region ?_|refine w_ops_nil ?_|refine w_skip ?_|refine w_block ?_|refine w_blk ?_|refine q7 ?_|refine q8 ?_|refine q9 ?_)
    refine w_load1 (v := vm) hc1 rfl rfl rfl rfl ?_
    repeat (first|refine q1 ?_|refine q2 ?_|refine q3 ?_|refine q4 ?_|refine q5 ?_|refine q6 ?_|refine w_seq ?_|refine w_region ?_|refine w_ops_nil ?_|refine w_skip ?_|refine w_block ?_|refine w_blk ?_|refine q7 ?_|refine q8 ?_|refine q9 ?_)
    refine w_callF rfl (one 5 vm m.more h4 rfl hst hmo ok4) rfl fun u h5 hs5 hu => ?_
    subst hu
    replace hc1 := hc1.go hs5; replace hst := hst.go hs5; replace hl2 := hl2.go hs5
    repeat (first|refine q1 ?_|refine q2 ?_|refine q3 ?_|refine q4 ?_|refine q5 ?_|refine q6 ?_|refine w_seq ?_|refine w_region ?_|refine w_ops_nil ?_|refine w_skip ?_|refine w_block ?_|refine w_blk ?_|refine q7 ?_|refine q8 ?_|refine q9 ?_)
    refine w_cond rfl (fun k => ?_) (fun k3 => ?_)
    · repeat (first|refine q1 ?_|refine q2 ?_|refine q3 ?_|refine q4 ?_|refine q5 ?_|refine q6 ?_|refine w_seq ?_|refine w_region ?_|refine w_ops_nil ?_|refine w_skip ?_|refine w_block ?_|refine w_blk ?_|refine q7 ?_|refine q8 ?_|refine q9 ?_)
      exact w_retG (res1 rfl rfl) hst fun h' _ => no (p := ∀ r ∈ m.more, recMay r) (by simpa using k) (fun h => h.2.2.2.2.2)
    repeat (first|refine q1 ?_|refine q2 ?_|refine q3 ?_|refine q4 ?_|refine q5 ?_|refine q6 ?_|refine w_seq ?_|refine w_region ?_|refine w_ops_nil ?_|refine w_skip ?_|refine w_block ?_|refine w_blk ?_|refine q7 ?_|refine q8 ?_|refine q9 ?_)
    refine w_round ?_
    repeat (first|refine q1 ?_|refine q2 ?_|refine q3 ?_|refine q4 ?_|refine q5 ?_|refine q6 ?_|refine w_seq ?_|refine w_region ?_|refine w_ops_nil ?_|refine w_skip ?_|refine w_block ?_|refine w_blk ?_|refine q7 ?_|refine q8 ?_|refine q9 ?_)
    exact w_meet () ⟨h5, rfl, hst, hc1, by simpa using k1, by simpa using k2, by simpa using k3⟩ ⟨rfl, trivial⟩
  clear hst hc1 hl2 hs1 hs2
  rintro _ _ ⟨h, rfl, hst, hc1, k1, k2, k3⟩
  repeat (first|refine q1 ?_|refine q2 ?_|refine q3 ?_|refine q4 ?_|refine q5 ?_|refine q6 ?_|refine w_seq ?_|refine w_region ?_|refine w_ops_nil ?_|refine w_skip ?_|refine w_block ?_|refine w_blk ?_|refine q7 ?_|refine q8 ?_|refine q9 ?_)
  refine w_fldA (by decide) rfl rfl ?_
  refine w_load1 (v := .int .i64 m.id) hc1 rfl rfl rfl rfl ?_
  refine w_fldA (by decide) rfl rfl ?_
  refine w_load1 (v := .int .i64 m.flags) hc1 rfl rfl rfl rfl ?_
  refine w_buildSlR El.int [m.id, m.flags] rfl rfl rfl rfl fun h6 v6 hs6 hr6 => ?_
  replace hc1 := hc1.go hs6; replace hst := hst.go hs6
  refine w_callF rfl (wire_within 65535 _ h6 hr6.x) rfl fun u h7 hs7 hu => ?_
  subst hu
  replace hc1 := hc1.go hs7; replace hst := hst.go hs7
  repeat (first|refine q1 ?_|refine q2 ?_|refine q3 ?_|refine q4 ?_|refine q5 ?_|refine q6 ?_|refine w_seq ?_|refine w_region ?_|refine w_ops_nil ?_|refine w_skip ?_|refine w_block ?_|refine w_blk ?_|refine q7 ?_|refine q8 ?_|refine q9 ?_)
  refine w_splitP 24 rfl (fun k4 => ?_) (fun k4 => ?_)
  case refine_2 =>
    repeat (first|refine q1 ?_|refine q2 ?_|refine q3 ?_|refine q4 ?_|refine q5 ?_|refine q6 ?_|refine w_seq ?_|refine w_region ?_|refine w_ops_nil ?_|refine w_skip ?_|refine w_block ?_|refine w_blk ?_|refine q7 ?_|refine q8 ?_|refine q9 ?_)
    refine w_retG (res1 rfl rfl) hst fun h' _ => no (p := wordP m.id ∧ wordP m.flags) ?_ (fun h => ⟨h.2.1, h.2.2.1⟩)
    rintro ⟨a1, a2⟩
    refine k4 (fun n hn => ?_)
    simp only [List.mem_cons, List.not_mem_nil, or_false] at hn
    rcases hn with rfl | rfl
    · exact a1
    · exact a2
  repeat (first|refine q1 ?_|refine q2 ?_|refine q3 ?_|refine q4 ?_|refine q5 ?_|refine q6 ?_|refine w_seq ?_|refine w_region ?_|refine w_ops_nil ?_|refine w_skip ?_|refine w_block ?_|refine w_blk ?_|refine q7 ?_|refine q8 ?_|refine q9 ?_)
  refine w_fldA (by decide) rfl rfl ?_
  repeat (first|refine q1 ?_|refine q2 ?_|refine q3 ?_|refine q4 ?_|refine q5 ?_|refine q6 ?_|refine w_seq ?_|refine w_region ?_|refine w_ops_nil ?_|refine w_skip ?_|refine w_block ?_|refine w_blk ?_|refine q7 ?_|refine q8 ?_|refine q9 ?_)
  refine w_load1 (v := vq) hc1 rfl rfl rfl rfl ?_
  repeat (first|refine q1 ?_|refine q2 ?_|refine q3 ?_|refine q4 ?_|refine q5 ?_|refine q6 ?_|refine w_seq ?_|refine w_region ?_|refine w_ops_nil ?_|refine w_skip ?_|refine w_block ?_|refine w_blk ?_|refine q7 ?_|refine q8 ?_|refine q9 ?_)
  obtain ⟨c, hc, hq1⟩ := hq.go hst
  refine w_callF rfl (ContainsFunc_qn 58 #[] (fun q => !(decide (qnMay q))) (fun _ => True) Stable.triv m.asked h7 trivial hq1 (fun x g hx _ => wire_May2 x g (ok1 x hx))) rfl fun u h8 hs8 hu => ?_
  subst hu
  repeat (first|refine q1 ?_|refine q2 ?_|refine q3 ?_|refine q4 ?_|refine q5 ?_|refine q6 ?_|refine w_seq ?_|refine w_region ?_|refine w_ops_nil ?_|refine w_skip ?_|refine w_block ?_|refine w_blk ?_|refine q7 ?_|refine q8 ?_|refine q9 ?_)
  refine w_retG (res1 rfl rfl) (hst.go hs8) fun h' _ => congrArg Value.bool ?_
  rw [Bool.eq_iff_iff]
  simp only [Bool.not_eq_true', List.any_eq_false, Bool.not_eq_true', decide_eq_true_eq, Bool.not_eq_true, Bool.not_eq_false', decide_eq_false_iff_not, Decidable.not_not]
  constructor
  · intro h; exact ⟨h, k4 m.id (by simp), k4 m.flags (by simp), k1, k2, k3⟩
  · intro h; exact h.1
end Go.Proofs.Ytnfokdhgajanpaa
