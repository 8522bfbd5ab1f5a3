/- The law of names that are written once, as a contract. No statement of the seat is proved here. -/
import Derived.Test.YtnfokdhgajanpaaWirB
set_option linter.unusedVariables false
set_option linter.unusedSimpArgs false
namespace Go.Proofs.Ytnfokdhgajanpaa
open Go

def aroundZ (n m : Int) : Int := if n < 0 then -(n + 1) % m else n % m
theorem ref01_Around (n m : Int) (g : G) (hn : -9223372036854775808 ≤ n ∧ n ≤ 9223372036854775807) (hm : 1 ≤ m ∧ m ≤ 9223372036854775807) : Fn Try.prog 28 [.int .i64 n, .int .i64 m] g [] fun u _ => u = .int .i64 (aroundZ n m) := by
  refine enterG [] [] Try.func28 rfl Try.ntmps28 rfl (by simp) fun g1 hv ho => ?_
  repeat (first | ((with_reducible refine q0 ?_); first | refine q1 ?_ | ((with_reducible refine gate_bin ?_); first | refine q2 ?_ | refine q3 ?_) | ((with_reducible refine gate_len ?_); refine q4 ?_) | ((with_reducible refine gate_guard ?_); first | refine q5 ?_ | refine q6 ?_)) | (with_reducible first | refine w_seq ?_ | refine w_region ?_ | refine w_ops_nil ?_ | refine w_skip ?_ | refine w_block ?_ | refine w_blk ?_) | ((with_reducible refine gate_exit ?_); refine q7 ?_) | ((with_reducible refine gate_cond ?_); first | refine q8 ?_ | refine q9 ?_))
  refine w_condP rfl (fun h => ?_) (fun h => ?_)
  · repeat (first | ((with_reducible refine q0 ?_); first | refine q1 ?_ | ((with_reducible refine gate_bin ?_); first | refine q2 ?_ | refine q3 ?_) | ((with_reducible refine gate_len ?_); refine q4 ?_) | ((with_reducible refine gate_guard ?_); first | refine q5 ?_ | refine q6 ?_)) | (with_reducible first | refine w_seq ?_ | refine w_region ?_ | refine w_ops_nil ?_ | refine w_skip ?_ | refine w_block ?_ | refine w_blk ?_) | ((with_reducible refine gate_exit ?_); refine q7 ?_) | ((with_reducible refine gate_cond ?_); first | refine q8 ?_ | refine q9 ?_))
    refine w_neg rfl (by omega) rfl ?_
    repeat (first | ((with_reducible refine q0 ?_); first | refine q1 ?_ | ((with_reducible refine gate_bin ?_); first | refine q2 ?_ | refine q3 ?_) | ((with_reducible refine gate_len ?_); refine q4 ?_) | ((with_reducible refine gate_guard ?_); first | refine q5 ?_ | refine q6 ?_)) | (with_reducible first | refine w_seq ?_ | refine w_region ?_ | refine w_ops_nil ?_ | refine w_skip ?_ | refine w_block ?_ | refine w_blk ?_) | ((with_reducible refine gate_exit ?_); refine q7 ?_) | ((with_reducible refine gate_cond ?_); first | refine q8 ?_ | refine q9 ?_))
    refine w_rem rfl rfl (by omega) rfl ?_
    repeat (first | ((with_reducible refine q0 ?_); first | refine q1 ?_ | ((with_reducible refine gate_bin ?_); first | refine q2 ?_ | refine q3 ?_) | ((with_reducible refine gate_len ?_); refine q4 ?_) | ((with_reducible refine gate_guard ?_); first | refine q5 ?_ | refine q6 ?_)) | (with_reducible first | refine w_seq ?_ | refine w_region ?_ | refine w_ops_nil ?_ | refine w_skip ?_ | refine w_block ?_ | refine w_blk ?_) | ((with_reducible refine gate_exit ?_); refine q7 ?_) | ((with_reducible refine gate_cond ?_); first | refine q8 ?_ | refine q9 ?_))
    exact w_retG (res1 rfl rfl) (Step.refl _ _ _) fun h' _ => by rw [aroundZ, if_pos h]
  · repeat (first | ((with_reducible refine q0 ?_); first | refine q1 ?_ | ((with_reducible refine gate_bin ?_); first | refine q2 ?_ | refine q3 ?_) | ((with_reducible refine gate_len ?_); refine q4 ?_) | ((with_reducible refine gate_guard ?_); first | refine q5 ?_ | refine q6 ?_)) | (with_reducible first | refine w_seq ?_ | refine w_region ?_ | refine w_ops_nil ?_ | refine w_skip ?_ | refine w_block ?_ | refine w_blk ?_) | ((with_reducible refine gate_exit ?_); refine q7 ?_) | ((with_reducible refine gate_cond ?_); first | refine q8 ?_ | refine q9 ?_))
    refine w_rem rfl rfl (by omega) rfl ?_
    repeat (first | ((with_reducible refine q0 ?_); first | refine q1 ?_ | ((with_reducible refine gate_bin ?_); first | refine q2 ?_ | refine q3 ?_) | ((with_reducible refine gate_len ?_); refine q4 ?_) | ((with_reducible refine gate_guard ?_); first | refine q5 ?_ | refine q6 ?_)) | (with_reducible first | refine w_seq ?_ | refine w_region ?_ | refine w_ops_nil ?_ | refine w_skip ?_ | refine w_block ?_ | refine w_blk ?_) | ((with_reducible refine gate_exit ?_); refine q7 ?_) | ((with_reducible refine gate_cond ?_); first | refine q8 ?_ | refine q9 ?_))
    exact w_retG (res1 rfl rfl) (Step.refl _ _ _) fun h' _ => by rw [aroundZ, if_neg h]
theorem around_range (n : Int) (m : Int) (h : 1 ≤ m) : 0 ≤ aroundZ n m ∧ aroundZ n m < m := by
  unfold aroundZ
  split
  · exact ⟨Int.emod_nonneg _ (by omega), Int.emod_lt_of_pos _ (by omega)⟩
  · exact ⟨Int.emod_nonneg _ (by omega), Int.emod_lt_of_pos _ (by omega)⟩

theorem ref08_Bytes (s : List UInt8) (g : G) (hs : s.length ≤ 1000000000) :
    Fn Try.prog 31 [str s] g [] fun u h => Rd h 0 El.u8 u (bytesB s) := by
  refine enterG [] [2] Try.func31 rfl Try.ntmps31 rfl (by simp) fun g1 hv ho => ?_
  repeat (first | ((with_reducible refine q0 ?_); first | refine q1 ?_ | ((with_reducible refine gate_bin ?_); first | refine q2 ?_ | refine q3 ?_) | ((with_reducible refine gate_len ?_); refine q4 ?_) | ((with_reducible refine gate_guard ?_); first | refine q5 ?_ | refine q6 ?_)) | (with_reducible first | refine w_seq ?_ | refine w_region ?_ | refine w_ops_nil ?_ | refine w_skip ?_ | refine w_block ?_ | refine w_blk ?_) | ((with_reducible refine gate_exit ?_); refine q7 ?_) | ((with_reducible refine gate_cond ?_); first | refine q8 ?_ | refine q9 ?_))
  refine w_callF rfl (ref08_Labels s g1 (by omega)) rfl fun vL h2 hs2 hrL => ?_
  have hll := labelsB_length s
  have hlf := labelsB_flat s
  repeat (first | ((with_reducible refine q0 ?_); first | refine q1 ?_ | ((with_reducible refine gate_bin ?_); first | refine q2 ?_ | refine q3 ?_) | ((with_reducible refine gate_len ?_); refine q4 ?_) | ((with_reducible refine gate_guard ?_); first | refine q5 ?_ | refine q6 ?_)) | (with_reducible first | refine w_seq ?_ | refine w_region ?_ | refine w_ops_nil ?_ | refine w_skip ?_ | refine w_block ?_ | refine w_blk ?_) | ((with_reducible refine gate_exit ?_); refine q7 ?_) | ((with_reducible refine gate_cond ?_); first | refine q8 ?_ | refine q9 ?_))
  refine w_loop (ι := Value × Nat) (fun x => [(3, vL), (4, x.1), (5, .int .i64 (x.2 : Int))])
    (fun x w => ∃ h : G, h.w = w ∧ Step [] [2] g1 h ∧ Rd h 0 El.str vL (labelsB s) ∧ Own h 2 El.u8 5 x.1 (((labelsB s).take x.2).flatMap encB) ∧ x.2 ≤ (labelsB s).length) (fun x => (labelsB s).length - x.2)
    (.slice none 0 0, 0) ⟨h2, rfl, hs2.nil, hrL, Own.nil _ _ _ _, by dsimp only; omega⟩ ⟨rfl, rfl, rfl, trivial⟩ ?_
  rintro ⟨vB, i⟩ _ ⟨h, rfl, hst, hrL, hown, hi⟩
  dsimp only at hst hrL hown hi ⊢
  have hfl := flatMap_enc_len ((labelsB s).take i)
  have hft := flatten_take (labelsB s) i
  simp only [List.length_take] at hfl
  repeat (first | ((with_reducible refine q0 ?_); first | refine q1 ?_ | ((with_reducible refine gate_bin ?_); first | refine q2 ?_ | refine q3 ?_) | ((with_reducible refine gate_len ?_); refine q4 ?_) | ((with_reducible refine gate_guard ?_); first | refine q5 ?_ | refine q6 ?_)) | (with_reducible first | refine w_seq ?_ | refine w_region ?_ | refine w_ops_nil ?_ | refine w_skip ?_ | refine w_block ?_ | refine w_blk ?_) | ((with_reducible refine gate_exit ?_); refine q7 ?_) | ((with_reducible refine gate_cond ?_); first | refine q8 ?_ | refine q9 ?_))
  refine w_lenSl hrL.isSl rfl rfl ?_
  repeat (first | ((with_reducible refine q0 ?_); first | refine q1 ?_ | ((with_reducible refine gate_bin ?_); first | refine q2 ?_ | refine q3 ?_) | ((with_reducible refine gate_len ?_); refine q4 ?_) | ((with_reducible refine gate_guard ?_); first | refine q5 ?_ | refine q6 ?_)) | (with_reducible first | refine w_seq ?_ | refine w_region ?_ | refine w_ops_nil ?_ | refine w_skip ?_ | refine w_block ?_ | refine w_blk ?_) | ((with_reducible refine gate_exit ?_); refine q7 ?_) | ((with_reducible refine gate_cond ?_); first | refine q8 ?_ | refine q9 ?_))
  refine w_condP rfl (fun hc => ?_) (fun hc => ?_)
  · have hlt : i < (labelsB s).length := by omega
    have hle := len_le_flatten (labelsB s) i (labelsB s)[i] (by simp [hlt])
    repeat (first | ((with_reducible refine q0 ?_); first | refine q1 ?_ | ((with_reducible refine gate_bin ?_); first | refine q2 ?_ | refine q3 ?_) | ((with_reducible refine gate_len ?_); refine q4 ?_) | ((with_reducible refine gate_guard ?_); first | refine q5 ?_ | refine q6 ?_)) | (with_reducible first | refine w_seq ?_ | refine w_region ?_ | refine w_ops_nil ?_ | refine w_skip ?_ | refine w_block ?_ | refine w_blk ?_) | ((with_reducible refine gate_exit ?_); refine q7 ?_) | ((with_reducible refine gate_cond ?_); first | refine q8 ?_ | refine q9 ?_))
    refine w_idx hrL rfl rfl (by omega) (by simp; omega) rfl ?_
    refine w_loadE (i := i) (y := (labelsB s)[i]) hrL rfl (by simp [hlt]) rfl rfl ?_
    repeat (first | ((with_reducible refine q0 ?_); first | refine q1 ?_ | ((with_reducible refine gate_bin ?_); first | refine q2 ?_ | refine q3 ?_) | ((with_reducible refine gate_len ?_); refine q4 ?_) | ((with_reducible refine gate_guard ?_); first | refine q5 ?_ | refine q6 ?_)) | (with_reducible first | refine w_seq ?_ | refine w_region ?_ | refine w_ops_nil ?_ | refine w_skip ?_ | refine w_block ?_ | refine w_blk ?_) | ((with_reducible refine gate_exit ?_); refine q7 ?_) | ((with_reducible refine gate_cond ?_); first | refine q8 ?_ | refine q9 ?_))
    refine w_convB rfl (by omega) rfl ?_
    refine w_buildSlR El.u8 [UInt8.ofNat (labelsB s)[i].length] rfl rfl rfl rfl fun h3 v3 hs3 hr3 => ?_
    refine w_append (hown.go hs3) hr3 rfl rfl rfl (by decide) (by (try simp only [List.length_append, List.length_cons, List.length_nil]); omega) rfl fun h4 v4 hs4 ho4 => ?_
    replace hrL := (hrL.go hs3).go hs4
    repeat (first | ((with_reducible refine q0 ?_); first | refine q1 ?_ | ((with_reducible refine gate_bin ?_); first | refine q2 ?_ | refine q3 ?_) | ((with_reducible refine gate_len ?_); refine q4 ?_) | ((with_reducible refine gate_guard ?_); first | refine q5 ?_ | refine q6 ?_)) | (with_reducible first | refine w_seq ?_ | refine w_region ?_ | refine w_ops_nil ?_ | refine w_skip ?_ | refine w_block ?_ | refine w_blk ?_) | ((with_reducible refine gate_exit ?_); refine q7 ?_) | ((with_reducible refine gate_cond ?_); first | refine q8 ?_ | refine q9 ?_))
    refine w_idx hrL rfl rfl (by omega) (by simp; omega) rfl ?_
    refine w_loadE (i := i) (y := (labelsB s)[i]) hrL rfl (by simp [hlt]) rfl rfl ?_
    refine w_appendStr ho4 rfl rfl (by (try simp only [List.length_append, List.length_cons, List.length_nil]); omega) rfl fun h5 v5 hs5 ho5 => ?_
    repeat (first | ((with_reducible refine q0 ?_); first | refine q1 ?_ | ((with_reducible refine gate_bin ?_); first | refine q2 ?_ | refine q3 ?_) | ((with_reducible refine gate_len ?_); refine q4 ?_) | ((with_reducible refine gate_guard ?_); first | refine q5 ?_ | refine q6 ?_)) | (with_reducible first | refine w_seq ?_ | refine w_region ?_ | refine w_ops_nil ?_ | refine w_skip ?_ | refine w_block ?_ | refine w_blk ?_) | ((with_reducible refine gate_exit ?_); refine q7 ?_) | ((with_reducible refine gate_cond ?_); first | refine q8 ?_ | refine q9 ?_))
    refine w_again (v5, i + 1) (by dsimp only; omega) ⟨h5, rfl, ((hst.go hs3).go hs4).go hs5, hrL.go hs5, ?_, by dsimp only; omega⟩ ⟨rfl, rfl, rfl, trivial⟩
    dsimp only
    rw [List.take_succ_eq_append_getElem hlt, List.flatMap_append]
    simpa [encB] using ho5
  · have : i = (labelsB s).length := by omega
    subst this
    rw [List.take_length] at hown hfl
    repeat (first | ((with_reducible refine q0 ?_); first | refine q1 ?_ | ((with_reducible refine gate_bin ?_); first | refine q2 ?_ | refine q3 ?_) | ((with_reducible refine gate_len ?_); refine q4 ?_) | ((with_reducible refine gate_guard ?_); first | refine q5 ?_ | refine q6 ?_)) | (with_reducible first | refine w_seq ?_ | refine w_region ?_ | refine w_ops_nil ?_ | refine w_skip ?_ | refine w_block ?_ | refine w_blk ?_) | ((with_reducible refine gate_exit ?_); refine q7 ?_) | ((with_reducible refine gate_cond ?_); first | refine q8 ?_ | refine q9 ?_))
    refine w_buildSlR El.u8 [0] rfl rfl rfl rfl fun h3 v3 hs3 hr3 => ?_
    refine w_append (hown.go hs3) hr3 rfl rfl rfl (by decide) (by (try simp only [List.length_append, List.length_cons, List.length_nil]); omega) rfl fun h4 v4 hs4 ho4 => ?_
    repeat (first | ((with_reducible refine q0 ?_); first | refine q1 ?_ | ((with_reducible refine gate_bin ?_); first | refine q2 ?_ | refine q3 ?_) | ((with_reducible refine gate_len ?_); refine q4 ?_) | ((with_reducible refine gate_guard ?_); first | refine q5 ?_ | refine q6 ?_)) | (with_reducible first | refine w_seq ?_ | refine w_region ?_ | refine w_ops_nil ?_ | refine w_skip ?_ | refine w_block ?_ | refine w_blk ?_) | ((with_reducible refine gate_exit ?_); refine q7 ?_) | ((with_reducible refine gate_cond ?_); first | refine q8 ?_ | refine q9 ?_))
    obtain ⟨h5, hw5, hs5, hr5⟩ := ho4.freeze (by decide)
    rw [← hw5]
    exact w_retG (res1 rfl rfl) (((hst.go hs3).go hs4).go hs5) fun h' hv' => hr5.view hv' (.inl rfl)

/-! ### plain -/
theorem mget_app {κ ν : Type} [DecidableEq κ] (k : κ) (y : List (κ × ν)) : ∀ m : List (κ × ν), mget k (m ++ y) = match mget k m with
    | some u => some u
    | none => mget k y
  | [] => rfl
  | p :: m => by
    simp only [List.cons_append, mget]
    split
    · rfl
    · exact mget_app k y m
theorem mget_long {ν : Type} (k : List UInt8) : ∀ m : List (List UInt8 × ν), (∀ p ∈ m, k.length < p.1.length) → mget k m = none
  | [], _ => rfl
  | p :: m, h => by
    rw [mget, if_neg (fun e => by have := h p (by simp); rw [e] at this; omega)]
    exact mget_long k m fun q hq => h q (by simp [hq])
theorem nameW_fresh : ∀ (l : List (List UInt8)) (n : Nat) (m : WM), (∀ x ∈ l, 1 ≤ x.length) → (∀ p ∈ m, (joinB [46] l).length < p.1.length) →
    (nameW n m l).1 = l.flatMap encB ++ [0] ∧ ∃ y, (nameW n m l).2 = m ++ y
  | [], n, m, _, _ => ⟨rfl, [], by simp [nameW]⟩
  | x :: r, n, m, hx, hm => by
    rw [nameW, mget_long _ _ hm]
    have h1 := hx x (by simp)
    have hlt : (joinB [46] r).length < (joinB [46] (x :: r)).length := by
      cases r with
      | nil => show 0 < x.length; omega
      | cons y r => simp only [joinB, List.length_append, List.length_cons, List.length_nil]; omega
    have hm' : ∀ p ∈ (if n < 16384 then m ++ [(joinB [46] (x :: r), n)] else m), (joinB [46] r).length < p.1.length := by
      intro p hp
      split at hp
      · rcases List.mem_append.1 hp with hp | hp
        · have := hm p hp; omega
        · simp only [List.mem_cons, List.not_mem_nil, or_false] at hp; subst hp; exact hlt
      · have := hm p hp; omega
    obtain ⟨i1, y, i2⟩ := nameW_fresh r (n + 1 + x.length) _ (fun z hz => hx z (by simp [hz])) hm'
    refine ⟨?_, ?_⟩
    · dsimp only
      rw [i1]; simp [List.flatMap_cons]
    · dsimp only
      rw [i2]
      split
      · exact ⟨(joinB [46] (x :: r), n) :: y, by simp⟩
      · exact ⟨y, rfl⟩
theorem nameW_first (l : List (List UInt8)) (n : Nat) (hn : n < 16384) (h0 : l ≠ []) (hx : ∀ x ∈ l, 1 ≤ x.length) : mget (joinB [46] l) (nameW n [] l).2 = some n := by
  cases l with
  | nil => exact absurd rfl h0
  | cons x r =>
    rw [nameW]
    simp only [mget, if_pos hn, List.nil_append]
    have hlt : (joinB [46] r).length < (joinB [46] (x :: r)).length := by
      have h1 := hx x (by simp)
      cases r with
      | nil => show 0 < x.length; omega
      | cons y r => simp only [joinB, List.length_append, List.length_cons, List.length_nil]; omega
    obtain ⟨_, y, i2⟩ := nameW_fresh r (n + 1 + x.length) [(joinB [46] (x :: r), n)] (fun z hz => hx z (by simp [hz])) (by
      intro p hp
      simp only [List.mem_cons, List.not_mem_nil, or_false] at hp; subst hp; exact hlt)
    rw [i2]
    simp [mget]
theorem nameW_known (l : List (List UInt8)) (n p : Nat) (m : WM) (h : mget (joinB [46] l) m = some p) (h0 : l ≠ []) : nameW n m l = (ptrB p, m) := by
  cases l with
  | nil => exact absurd rfl h0
  | cons x r => rw [nameW, h]

def aRec (s : List UInt8) : Rc := ⟨s, 1, 1, 0, ⟨4, fun _ => 0⟩, [], []⟩
theorem aRec_may {s : List UInt8} (h : mayB s = true) : recMay (aRec s) :=
  ⟨h, by show (0 : Int) ≤ 1 ∧ (1 : Int) ≤ 65535; omega, by show (0 : Int) ≤ 1 ∧ (1 : Int) ≤ 65535; omega, by show (0 : Int) ≤ 0 ∧ (0 : Int) ≤ 2147483647; omega, by simp [aRec], by
    rw [if_pos (show (aRec s).typ = 1 from rfl)]; exact ⟨decide_eq_true (.inr (.inl ⟨rfl, fun _ _ => rfl⟩)), rfl, rfl, rfl⟩⟩
theorem small_len (s : List UInt8) (hs : mayB s = true) (k : Nat) :
    (msW (ansM (askM 1 s 1) (List.replicate k (aRec s)))).length = 12 + (bytesB s).length + 4 + k * ((if s = [] then 1 else 2) + 10 + 4) := by
  have hok := may_ok hs
  have hfr := nameW_fresh (labelsB s) 12 [] (fun x hx => (hok x hx).1) (by simp)
  have hask : askW (ansM (askM 1 s 1) (List.replicate k (aRec s))) = (bytesB s ++ twoB 1 ++ twoB 1, (nameW 12 [] (labelsB s)).2) := by
    simp only [askW, ansM, askM, foldW, qnW, hfr.1, bytesB, List.append_nil]
  have hrec : ∀ n, (recW n (nameW 12 [] (labelsB s)).2 (aRec s)).1.length = (if s = [] then 1 else 2) + 14 ∧ (recW n (nameW 12 [] (labelsB s)).2 (aRec s)).2 = (nameW 12 [] (labelsB s)).2 := by
    intro n
    have hd : (dataB (aRec s)).length = 6 := by rw [dataB, if_pos (show (aRec s).typ = 1 from rfl)]; rfl
    have ht : ¬ (aRec s).typ = 5 := by show ¬ (1 : Int) = 5; omega
    by_cases h0 : s = []
    · subst h0
      rw [if_pos rfl]
      have : labelsB [] = [] := rfl
      unfold recW
      dsimp only
      rw [if_neg ht]
      simp only [aRec, this, nameW, List.length_append, fixB_len, List.length_cons, List.length_nil]
      simp only [aRec] at hd
      exact ⟨by omega, trivial⟩
    · have hl0 : labelsB s ≠ [] := by
        intro e
        have := join_labels s
        rw [e] at this
        exact h0 this.symm
      have hk := nameW_known (labelsB s) n 12 _ (nameW_first (labelsB s) 12 (by decide) hl0 (fun x hx => (hok x hx).1)) hl0
      rw [if_neg h0]
      unfold recW
      dsimp only
      rw [if_neg ht, show (aRec s).name = s from rfl, hk]
      simp only [List.length_append, fixB_len, hd]
      exact ⟨by simp [ptrB], trivial⟩
  have hf : ∀ (k n : Nat), (foldW recW n (nameW 12 [] (labelsB s)).2 (List.replicate k (aRec s))).1.length = k * ((if s = [] then 1 else 2) + 14) := by
    intro k
    induction k with
    | zero => intro n; simp [foldW]
    | succ k ih =>
      intro n
      simp only [List.replicate_succ, foldW, List.length_append]
      rw [(hrec n).2, ih, (hrec n).1, Nat.succ_mul]
      omega
  have hall : allR (ansM (askM 1 s 1) (List.replicate k (aRec s))) = List.replicate k (aRec s) := by simp [allR, ansM]
  rw [msW, hall, ansW, List.length_append, List.length_append, headB_len, hask]
  dsimp only
  rw [hf]
  simp only [List.length_append, twoB_len, Nat.mul_add]
  omega

theorem law09_Small (s : List UInt8) (n : Int) (g : G) (hs : s.length ≤ 1000000000) (hn : -9223372036854775808 ≤ n ∧ n ≤ 9223372036854775807) : Fn Try.prog 6 [str s, .int .i64 n] g [] fun u _ => u = .bool true := by
  refine enterG [] [41, 43] Try.func6 rfl Try.ntmps6 rfl (by simp) fun g1 hv ho => ?_
  repeat (first | ((with_reducible refine q0 ?_); first | refine q1 ?_ | ((with_reducible refine gate_bin ?_); first | refine q2 ?_ | refine q3 ?_) | ((with_reducible refine gate_len ?_); refine q4 ?_) | ((with_reducible refine gate_guard ?_); first | refine q5 ?_ | refine q6 ?_)) | (with_reducible first | refine w_seq ?_ | refine w_region ?_ | refine w_ops_nil ?_ | refine w_skip ?_ | refine w_block ?_ | refine w_blk ?_) | ((with_reducible refine gate_exit ?_); refine q7 ?_) | ((with_reducible refine gate_cond ?_); first | refine q8 ?_ | refine q9 ?_))
  refine w_callF rfl (ref08_Good s g1 hs) rfl fun u h1 hs1 hu => ?_
  subst hu
  have hst : Step [] [41, 43] g1 h1 := hs1.nil
  have hgl := goodB_len s
  have hgm := good_may s
  have hbl : (bytesB (goodB s)).length ≤ 80 := by
    have := good_len s
    unfold bytesB
    rw [good_labels, List.length_append, flatMap_enc_len]
    simp only [List.length_cons, List.length_nil]; omega
  generalize goodB s = s1 at hgl hgm hbl
  repeat (first | ((with_reducible refine q0 ?_); first | refine q1 ?_ | ((with_reducible refine gate_bin ?_); first | refine q2 ?_ | refine q3 ?_) | ((with_reducible refine gate_len ?_); refine q4 ?_) | ((with_reducible refine gate_guard ?_); first | refine q5 ?_ | refine q6 ?_)) | (with_reducible first | refine w_seq ?_ | refine w_region ?_ | refine w_ops_nil ?_ | refine w_skip ?_ | refine w_block ?_ | refine w_blk ?_) | ((with_reducible refine gate_exit ?_); refine q7 ?_) | ((with_reducible refine gate_cond ?_); first | refine q8 ?_ | refine q9 ?_))
  refine w_callF rfl (ref01_Around n 11 h1 hn (by omega)) rfl fun u h2 hs2 hu => ?_
  subst hu
  obtain ⟨z0, z1⟩ := around_range n 11 (by omega)
  obtain ⟨k, hk⟩ := Int.eq_ofNat_of_zero_le z0
  rw [hk] at z1 ⊢
  replace hst := hst.go hs2
  repeat (first | ((with_reducible refine q0 ?_); first | refine q1 ?_ | ((with_reducible refine gate_bin ?_); first | refine q2 ?_ | refine q3 ?_) | ((with_reducible refine gate_len ?_); refine q4 ?_) | ((with_reducible refine gate_guard ?_); first | refine q5 ?_ | refine q6 ?_)) | (with_reducible first | refine w_seq ?_ | refine w_region ?_ | refine w_ops_nil ?_ | refine w_skip ?_ | refine w_block ?_ | refine w_blk ?_) | ((with_reducible refine gate_exit ?_); refine q7 ?_) | ((with_reducible refine gate_cond ?_); first | refine q8 ?_ | refine q9 ?_))
  refine w_callF rfl (wire_Ask 1 s1 1 h2) rfl fun u h3 hs3 hR => ?_
  obtain ⟨vs, rfl, hm⟩ := hR
  replace hst := hst.go hs3
  obtain ⟨vq, va, vu, vm, rfl, hq, ha, hu, hmo⟩ := id hm
  let cs : List Value := [.int .i64 (askM 1 s1 1).id, .int .i64 (askM 1 s1 1).flags, vq, va, vu, vm]
  repeat (first | ((with_reducible refine q0 ?_); first | refine q1 ?_ | ((with_reducible refine gate_bin ?_); first | refine q2 ?_ | refine q3 ?_) | ((with_reducible refine gate_len ?_); refine q4 ?_) | ((with_reducible refine gate_guard ?_); first | refine q5 ?_ | refine q6 ?_)) | (with_reducible first | refine w_seq ?_ | refine w_region ?_ | refine w_ops_nil ?_ | refine w_skip ?_ | refine w_block ?_ | refine w_blk ?_) | ((with_reducible refine gate_exit ?_); refine q7 ?_) | ((with_reducible refine gate_cond ?_); first | refine q8 ?_ | refine q9 ?_))
  refine w_alloc 41 (vs := msZ) rfl rfl fun h4 b4 hs4 hc4 => ?_
  replace hst := hst.go hs4; replace hm := hm.go hs4
  repeat (first | ((with_reducible refine q0 ?_); first | refine q1 ?_ | ((with_reducible refine gate_bin ?_); first | refine q2 ?_ | refine q3 ?_) | ((with_reducible refine gate_len ?_); refine q4 ?_) | ((with_reducible refine gate_guard ?_); first | refine q5 ?_ | refine q6 ?_)) | (with_reducible first | refine w_seq ?_ | refine w_region ?_ | refine w_ops_nil ?_ | refine w_skip ?_ | refine w_block ?_ | refine w_blk ?_) | ((with_reducible refine gate_exit ?_); refine q7 ?_) | ((with_reducible refine gate_cond ?_); first | refine q8 ?_ | refine q9 ?_))
  refine w_store (us := cs) (vs' := cs) hc4 rfl rfl rfl rfl hm.one (show 0 + 6 ≤ 6 by decide) rfl fun h5 hb5 hs5 hc5 => ?_
  replace hst := hst.go hs5; replace hm := hm.go hs5
  clear hs1 hs2 hs3 hs4 hs5 hc4 hb5 hq ha hu hmo
  repeat (first | ((with_reducible refine q0 ?_); first | refine q1 ?_ | ((with_reducible refine gate_bin ?_); first | refine q2 ?_ | refine q3 ?_) | ((with_reducible refine gate_len ?_); refine q4 ?_) | ((with_reducible refine gate_guard ?_); first | refine q5 ?_ | refine q6 ?_)) | (with_reducible first | refine w_seq ?_ | refine w_region ?_ | refine w_ops_nil ?_ | refine w_skip ?_ | refine w_block ?_ | refine w_blk ?_) | ((with_reducible refine gate_exit ?_); refine q7 ?_) | ((with_reducible refine gate_cond ?_); first | refine q8 ?_ | refine q9 ?_))
  refine w_loop (ι := Value × Nat) (fun x => [(0, str s1), (1, .int .i64 (k : Int)), (5, .pointer (some ⟨b4, 0, none⟩)), (6, x.1), (7, .int .i64 (x.2 : Int))])
    (fun x w => ∃ h : G, h.w = w ∧ Step [] [43] h5 h ∧ Own h 43 El.rc 52 x.1 (List.replicate x.2 (aRec s1)) ∧ x.2 ≤ k) (fun x => k - x.2)
    (.slice none 0 0, 0) ⟨h5, rfl, Step.refl _ _ _, Own.nil _ _ _ _, by dsimp only; omega⟩ ⟨rfl, rfl, rfl, rfl, rfl, trivial⟩ ?_
  rintro ⟨vO, i⟩ _ ⟨h, rfl, hst2, hown, hi⟩
  dsimp only at hst2 hown hi ⊢
  repeat (first | ((with_reducible refine q0 ?_); first | refine q1 ?_ | ((with_reducible refine gate_bin ?_); first | refine q2 ?_ | refine q3 ?_) | ((with_reducible refine gate_len ?_); refine q4 ?_) | ((with_reducible refine gate_guard ?_); first | refine q5 ?_ | refine q6 ?_)) | (with_reducible first | refine w_seq ?_ | refine w_region ?_ | refine w_ops_nil ?_ | refine w_skip ?_ | refine w_block ?_ | refine w_blk ?_) | ((with_reducible refine gate_exit ?_); refine q7 ?_) | ((with_reducible refine gate_cond ?_); first | refine q8 ?_ | refine q9 ?_))
  refine w_condP rfl (fun hlt => ?_) (fun hlt => ?_)
  · repeat (first | ((with_reducible refine q0 ?_); first | refine q1 ?_ | ((with_reducible refine gate_bin ?_); first | refine q2 ?_ | refine q3 ?_) | ((with_reducible refine gate_len ?_); refine q4 ?_) | ((with_reducible refine gate_guard ?_); first | refine q5 ?_ | refine q6 ?_)) | (with_reducible first | refine w_seq ?_ | refine w_region ?_ | refine w_ops_nil ?_ | refine w_skip ?_ | refine w_block ?_ | refine w_blk ?_) | ((with_reducible refine gate_exit ?_); refine q7 ?_) | ((with_reducible refine gate_cond ?_); first | refine q8 ?_ | refine q9 ?_))
    refine w_build (vs := [(0, .int .i64 4)]) (r := El.ad.enc ⟨4, fun _ => 0⟩) rfl rfl rfl ?_
    refine w_build (vs := [(0, str s1), (1, .int .i64 1), (2, .int .i64 1), (4, .agg (El.ad.enc ⟨4, fun _ => 0⟩).toArray)]) (r := El.rc.enc (aRec s1)) rfl rfl rfl ?_
    refine w_buildSlR El.rc [aRec s1] rfl rfl rfl rfl fun h6 v6 hs6 hr6 => ?_
    refine w_append (hown.go hs6) hr6 rfl rfl rfl (by decide) (by simp only [List.length_replicate, List.length_cons, List.length_nil]; omega) rfl fun h7 v7 hs7 ho7 => ?_
    repeat (first | ((with_reducible refine q0 ?_); first | refine q1 ?_ | ((with_reducible refine gate_bin ?_); first | refine q2 ?_ | refine q3 ?_) | ((with_reducible refine gate_len ?_); refine q4 ?_) | ((with_reducible refine gate_guard ?_); first | refine q5 ?_ | refine q6 ?_)) | (with_reducible first | refine w_seq ?_ | refine w_region ?_ | refine w_ops_nil ?_ | refine w_skip ?_ | refine w_block ?_ | refine w_blk ?_) | ((with_reducible refine gate_exit ?_); refine q7 ?_) | ((with_reducible refine gate_cond ?_); first | refine q8 ?_ | refine q9 ?_))
    refine w_again (v7, i + 1) (by dsimp only; omega) ⟨h7, rfl, (hst2.go hs6).go hs7, ?_, by dsimp only; omega⟩ ⟨rfl, rfl, rfl, rfl, rfl, trivial⟩
    dsimp only
    rw [List.replicate_succ']
    exact ho7
  have : i = k := by omega
  subst this
  obtain ⟨h6, hw6, hs6, hr6⟩ := hown.freeze (by decide)
  rw [← hw6]
  replace hst2 := hst2.go hs6
  replace hst := hst.go hst2; replace hc5 := hc5.go hst2; replace hm := hm.go hst2
  clear hown hs6
  repeat (first | ((with_reducible refine q0 ?_); first | refine q1 ?_ | ((with_reducible refine gate_bin ?_); first | refine q2 ?_ | refine q3 ?_) | ((with_reducible refine gate_len ?_); refine q4 ?_) | ((with_reducible refine gate_guard ?_); first | refine q5 ?_ | refine q6 ?_)) | (with_reducible first | refine w_seq ?_ | refine w_region ?_ | refine w_ops_nil ?_ | refine w_skip ?_ | refine w_block ?_ | refine w_blk ?_) | ((with_reducible refine gate_exit ?_); refine q7 ?_) | ((with_reducible refine gate_cond ?_); first | refine q8 ?_ | refine q9 ?_))
  refine w_loadS (us := cs) hc5 rfl rfl rfl rfl rfl ?_
  repeat (first | ((with_reducible refine q0 ?_); first | refine q1 ?_ | ((with_reducible refine gate_bin ?_); first | refine q2 ?_ | refine q3 ?_) | ((with_reducible refine gate_len ?_); refine q4 ?_) | ((with_reducible refine gate_guard ?_); first | refine q5 ?_ | refine q6 ?_)) | (with_reducible first | refine w_seq ?_ | refine w_region ?_ | refine w_ops_nil ?_ | refine w_skip ?_ | refine w_block ?_ | refine w_blk ?_) | ((with_reducible refine gate_exit ?_); refine q7 ?_) | ((with_reducible refine gate_cond ?_); first | refine q8 ?_ | refine q9 ?_))
  refine w_callF rfl (wire_Answer (askM 1 s1 1) (List.replicate i (aRec s1)) cs vO h6 hm hr6.x (by simp [askM]) (by simp only [List.length_replicate]; omega)) rfl fun u h7 hs7 hR => ?_
  obtain ⟨ws, rfl, hA⟩ := hR
  replace hst := hst.go hs7
  have hlen := small_len s1 hgm i
  have hmayA : msMay (ansM (askM 1 s1 1) (List.replicate i (aRec s1))) := by
    refine ⟨?_, by show (0 : Int) ≤ 1 ∧ (1 : Int) ≤ 65535; omega, by show (0 : Int) ≤ 33152 ∧ (33152 : Int) ≤ 65535; omega, ?_, by simp [ansM], by simp [ansM]⟩
    · intro q hq
      simp only [ansM, askM, List.mem_cons, List.not_mem_nil, or_false] at hq
      subst hq
      exact ⟨hgm, by show (0 : Int) ≤ 1 ∧ (1 : Int) ≤ 65535; omega, by show (0 : Int) ≤ 1 ∧ (1 : Int) ≤ 65535; omega⟩
    · intro r hr
      rw [List.eq_of_mem_replicate hr]
      exact aRec_may hgm
  have hsm : Small (ansM (askM 1 s1 1) (List.replicate i (aRec s1))) := small_of hmayA (by simp [ansM, askM]) (by simp only [allR, ansM, List.length_append, List.length_replicate, List.length_nil]; omega)
  refine w_callF rfl (wire_Write _ ws h7 hA (msMay_ok hmayA) (fun _ => hsm)) rfl fun u h8 hs8 hR => ?_
  obtain ⟨vb, rfl, hb⟩ := hR
  replace hst := hst.go hs8
  have hi10 : i * ((if s1 = [] then 1 else 2) + 10 + 4) ≤ 160 := by
    have h1 : (if s1 = [] then 1 else 2) + 10 + 4 ≤ 16 := by split <;> omega
    have h2 := Nat.mul_le_mul (show i ≤ 10 by omega) h1
    omega
  have hB : wrB (ansM (askM 1 s1 1) (List.replicate i (aRec s1))) = (msW (ansM (askM 1 s1 1) (List.replicate i (aRec s1))), 0) := by
    rw [wrB, if_pos hmayA, if_pos (by omega)]
  rw [hB] at hb ⊢
  dsimp only at hb ⊢
  generalize msW (ansM (askM 1 s1 1) (List.replicate i (aRec s1))) = W at hb hlen
  have fin : ∀ (o : Int) (h : G), o = ((if s1 = [] then 1 else 2 : Nat) : Int) → Value.bool (decide ((W.length : Int) = 12 + ((bytesB s1).length : Int) + 4 + (i : Int) * (o + 10 + 4))) = .bool true := by
    intro o h ho
    refine congrArg Value.bool (decide_eq_true ?_)
    subst ho
    rw [hlen]
    push_cast
    rfl
  repeat (first | ((with_reducible refine q0 ?_); first | refine q1 ?_ | ((with_reducible refine gate_bin ?_); first | refine q2 ?_ | refine q3 ?_) | ((with_reducible refine gate_len ?_); refine q4 ?_) | ((with_reducible refine gate_guard ?_); first | refine q5 ?_ | refine q6 ?_)) | (with_reducible first | refine w_seq ?_ | refine w_region ?_ | refine w_ops_nil ?_ | refine w_skip ?_ | refine w_block ?_ | refine w_blk ?_) | ((with_reducible refine gate_exit ?_); refine q7 ?_) | ((with_reducible refine gate_cond ?_); first | refine q8 ?_ | refine q9 ?_))
  refine w_condP rfl (fun hs1 => ?_) (fun hs1 => ?_)
  · repeat (first | ((with_reducible refine q0 ?_); first | refine q1 ?_ | ((with_reducible refine gate_bin ?_); first | refine q2 ?_ | refine q3 ?_) | ((with_reducible refine gate_len ?_); refine q4 ?_) | ((with_reducible refine gate_guard ?_); first | refine q5 ?_ | refine q6 ?_)) | (with_reducible first | refine w_seq ?_ | refine w_region ?_ | refine w_ops_nil ?_ | refine w_skip ?_ | refine w_block ?_ | refine w_blk ?_) | ((with_reducible refine gate_exit ?_); refine q7 ?_) | ((with_reducible refine gate_cond ?_); first | refine q8 ?_ | refine q9 ?_))
    refine w_lenSl hb.isSl rfl rfl ?_
    repeat (first | ((with_reducible refine q0 ?_); first | refine q1 ?_ | ((with_reducible refine gate_bin ?_); first | refine q2 ?_ | refine q3 ?_) | ((with_reducible refine gate_len ?_); refine q4 ?_) | ((with_reducible refine gate_guard ?_); first | refine q5 ?_ | refine q6 ?_)) | (with_reducible first | refine w_seq ?_ | refine w_region ?_ | refine w_ops_nil ?_ | refine w_skip ?_ | refine w_block ?_ | refine w_blk ?_) | ((with_reducible refine gate_exit ?_); refine q7 ?_) | ((with_reducible refine gate_cond ?_); first | refine q8 ?_ | refine q9 ?_))
    refine w_callF rfl (ref08_Bytes s1 h8 (by omega)) rfl fun v9 h9 hs9 hr9 => ?_
    repeat (first | ((with_reducible refine q0 ?_); first | refine q1 ?_ | ((with_reducible refine gate_bin ?_); first | refine q2 ?_ | refine q3 ?_) | ((with_reducible refine gate_len ?_); refine q4 ?_) | ((with_reducible refine gate_guard ?_); first | refine q5 ?_ | refine q6 ?_)) | (with_reducible first | refine w_seq ?_ | refine w_region ?_ | refine w_ops_nil ?_ | refine w_skip ?_ | refine w_block ?_ | refine w_blk ?_) | ((with_reducible refine gate_exit ?_); refine q7 ?_) | ((with_reducible refine gate_cond ?_); first | refine q8 ?_ | refine q9 ?_))
    refine w_lenSl hr9.isSl rfl rfl ?_
    repeat (first | ((with_reducible refine q0 ?_); first | refine q1 ?_ | ((with_reducible refine gate_bin ?_); first | refine q2 ?_ | refine q3 ?_) | ((with_reducible refine gate_len ?_); refine q4 ?_) | ((with_reducible refine gate_guard ?_); first | refine q5 ?_ | refine q6 ?_)) | (with_reducible first | refine w_seq ?_ | refine w_region ?_ | refine w_ops_nil ?_ | refine w_skip ?_ | refine w_block ?_ | refine w_blk ?_) | ((with_reducible refine gate_exit ?_); refine q7 ?_) | ((with_reducible refine gate_cond ?_); first | refine q8 ?_ | refine q9 ?_))
    refine w_mul rfl rfl (by omega) rfl ?_
    repeat (first | ((with_reducible refine q0 ?_); first | refine q1 ?_ | ((with_reducible refine gate_bin ?_); first | refine q2 ?_ | refine q3 ?_) | ((with_reducible refine gate_len ?_); refine q4 ?_) | ((with_reducible refine gate_guard ?_); first | refine q5 ?_ | refine q6 ?_)) | (with_reducible first | refine w_seq ?_ | refine w_region ?_ | refine w_ops_nil ?_ | refine w_skip ?_ | refine w_block ?_ | refine w_blk ?_) | ((with_reducible refine gate_exit ?_); refine q7 ?_) | ((with_reducible refine gate_cond ?_); first | refine q8 ?_ | refine q9 ?_))
    refine w_known 55 (.bool true) rfl (fin 1 h9 (by rw [if_pos (show s1 = [] from hs1)]; rfl)) ?_
    repeat (first | ((with_reducible refine q0 ?_); first | refine q1 ?_ | ((with_reducible refine gate_bin ?_); first | refine q2 ?_ | refine q3 ?_) | ((with_reducible refine gate_len ?_); refine q4 ?_) | ((with_reducible refine gate_guard ?_); first | refine q5 ?_ | refine q6 ?_)) | (with_reducible first | refine w_seq ?_ | refine w_region ?_ | refine w_ops_nil ?_ | refine w_skip ?_ | refine w_block ?_ | refine w_blk ?_) | ((with_reducible refine gate_exit ?_); refine q7 ?_) | ((with_reducible refine gate_cond ?_); first | refine q8 ?_ | refine q9 ?_))
    refine w_callF rfl (law09_lives h9) rfl fun u h10 hs10 hu => ?_
    subst hu
    repeat (first | ((with_reducible refine q0 ?_); first | refine q1 ?_ | ((with_reducible refine gate_bin ?_); first | refine q2 ?_ | refine q3 ?_) | ((with_reducible refine gate_len ?_); refine q4 ?_) | ((with_reducible refine gate_guard ?_); first | refine q5 ?_ | refine q6 ?_)) | (with_reducible first | refine w_seq ?_ | refine w_region ?_ | refine w_ops_nil ?_ | refine w_skip ?_ | refine w_block ?_ | refine w_blk ?_) | ((with_reducible refine gate_exit ?_); refine q7 ?_) | ((with_reducible refine gate_cond ?_); first | refine q8 ?_ | refine q9 ?_))
    exact w_retG (res1 rfl rfl) ((hst.go hs9).go hs10) fun h' _ => rfl
  · repeat (first | ((with_reducible refine q0 ?_); first | refine q1 ?_ | ((with_reducible refine gate_bin ?_); first | refine q2 ?_ | refine q3 ?_) | ((with_reducible refine gate_len ?_); refine q4 ?_) | ((with_reducible refine gate_guard ?_); first | refine q5 ?_ | refine q6 ?_)) | (with_reducible first | refine w_seq ?_ | refine w_region ?_ | refine w_ops_nil ?_ | refine w_skip ?_ | refine w_block ?_ | refine w_blk ?_) | ((with_reducible refine gate_exit ?_); refine q7 ?_) | ((with_reducible refine gate_cond ?_); first | refine q8 ?_ | refine q9 ?_))
    refine w_lenSl hb.isSl rfl rfl ?_
    repeat (first | ((with_reducible refine q0 ?_); first | refine q1 ?_ | ((with_reducible refine gate_bin ?_); first | refine q2 ?_ | refine q3 ?_) | ((with_reducible refine gate_len ?_); refine q4 ?_) | ((with_reducible refine gate_guard ?_); first | refine q5 ?_ | refine q6 ?_)) | (with_reducible first | refine w_seq ?_ | refine w_region ?_ | refine w_ops_nil ?_ | refine w_skip ?_ | refine w_block ?_ | refine w_blk ?_) | ((with_reducible refine gate_exit ?_); refine q7 ?_) | ((with_reducible refine gate_cond ?_); first | refine q8 ?_ | refine q9 ?_))
    refine w_callF rfl (ref08_Bytes s1 h8 (by omega)) rfl fun v9 h9 hs9 hr9 => ?_
    repeat (first | ((with_reducible refine q0 ?_); first | refine q1 ?_ | ((with_reducible refine gate_bin ?_); first | refine q2 ?_ | refine q3 ?_) | ((with_reducible refine gate_len ?_); refine q4 ?_) | ((with_reducible refine gate_guard ?_); first | refine q5 ?_ | refine q6 ?_)) | (with_reducible first | refine w_seq ?_ | refine w_region ?_ | refine w_ops_nil ?_ | refine w_skip ?_ | refine w_block ?_ | refine w_blk ?_) | ((with_reducible refine gate_exit ?_); refine q7 ?_) | ((with_reducible refine gate_cond ?_); first | refine q8 ?_ | refine q9 ?_))
    refine w_lenSl hr9.isSl rfl rfl ?_
    repeat (first | ((with_reducible refine q0 ?_); first | refine q1 ?_ | ((with_reducible refine gate_bin ?_); first | refine q2 ?_ | refine q3 ?_) | ((with_reducible refine gate_len ?_); refine q4 ?_) | ((with_reducible refine gate_guard ?_); first | refine q5 ?_ | refine q6 ?_)) | (with_reducible first | refine w_seq ?_ | refine w_region ?_ | refine w_ops_nil ?_ | refine w_skip ?_ | refine w_block ?_ | refine w_blk ?_) | ((with_reducible refine gate_exit ?_); refine q7 ?_) | ((with_reducible refine gate_cond ?_); first | refine q8 ?_ | refine q9 ?_))
    refine w_mul rfl rfl (by omega) rfl ?_
    repeat (first | ((with_reducible refine q0 ?_); first | refine q1 ?_ | ((with_reducible refine gate_bin ?_); first | refine q2 ?_ | refine q3 ?_) | ((with_reducible refine gate_len ?_); refine q4 ?_) | ((with_reducible refine gate_guard ?_); first | refine q5 ?_ | refine q6 ?_)) | (with_reducible first | refine w_seq ?_ | refine w_region ?_ | refine w_ops_nil ?_ | refine w_skip ?_ | refine w_block ?_ | refine w_blk ?_) | ((with_reducible refine gate_exit ?_); refine q7 ?_) | ((with_reducible refine gate_cond ?_); first | refine q8 ?_ | refine q9 ?_))
    refine w_known 55 (.bool true) rfl (fin 2 h9 (by rw [if_neg (show ¬ s1 = [] from hs1)]; rfl)) ?_
    repeat (first | ((with_reducible refine q0 ?_); first | refine q1 ?_ | ((with_reducible refine gate_bin ?_); first | refine q2 ?_ | refine q3 ?_) | ((with_reducible refine gate_len ?_); refine q4 ?_) | ((with_reducible refine gate_guard ?_); first | refine q5 ?_ | refine q6 ?_)) | (with_reducible first | refine w_seq ?_ | refine w_region ?_ | refine w_ops_nil ?_ | refine w_skip ?_ | refine w_block ?_ | refine w_blk ?_) | ((with_reducible refine gate_exit ?_); refine q7 ?_) | ((with_reducible refine gate_cond ?_); first | refine q8 ?_ | refine q9 ?_))
    refine w_callF rfl (law09_lives h9) rfl fun u h10 hs10 hu => ?_
    subst hu
    repeat (first | ((with_reducible refine q0 ?_); first | refine q1 ?_ | ((with_reducible refine gate_bin ?_); first | refine q2 ?_ | refine q3 ?_) | ((with_reducible refine gate_len ?_); refine q4 ?_) | ((with_reducible refine gate_guard ?_); first | refine q5 ?_ | refine q6 ?_)) | (with_reducible first | refine w_seq ?_ | refine w_region ?_ | refine w_ops_nil ?_ | refine w_skip ?_ | refine w_block ?_ | refine w_blk ?_) | ((with_reducible refine gate_exit ?_); refine q7 ?_) | ((with_reducible refine gate_cond ?_); first | refine q8 ?_ | refine q9 ?_))
    exact w_retG (res1 rfl rfl) ((hst.go hs9).go hs10) fun h' _ => rfl
end Go.Proofs.Ytnfokdhgajanpaa
