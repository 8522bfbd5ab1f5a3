/- Names of hosts: the program's writer writes a name. No statement of the seat is proved here. -/
import Derived.Test.YtnfokdhgajanpaaLab5
import Derived.Test.YtnfokdhgajanpaaLab2
set_option linter.unusedVariables false
namespace Go.Proofs.Ytnfokdhgajanpaa
open Go
attribute [local irreducible] Wp

theorem splitB_join (c : UInt8) : ∀ l : List (List UInt8), l ≠ [] → (∀ x ∈ l, c ∉ x) → splitB c (joinB [c] l) = l
  | [], h, _ => absurd rfl h
  | [x], _, h => by simp [joinB]; exact splitB_none c (h x (by simp))
  | x :: y :: r, _, h => by
    have ih := splitB_join c (y :: r) (by simp) (fun z hz => h z (by simp [hz]))
    rw [joinB, List.append_assoc, List.singleton_append, splitB_append c (h x (by simp)), ih]
theorem joinB_ne (sep : List UInt8) : ∀ l : List (List UInt8), l ≠ [] → (∀ x ∈ l, x ≠ []) → joinB sep l ≠ []
  | [], h, _ => absurd rfl h
  | [x], _, h => by simpa [joinB] using h x (by simp)
  | x :: y :: r, _, h => by have := h x (by simp); simp [joinB, this]
theorem labelsB_join (l : List (List UInt8)) (h : ∀ x ∈ l, (46 : UInt8) ∉ x) (h0 : ∀ x ∈ l, x ≠ []) : labelsB (joinB [46] l) = l := by
  by_cases hl : l = []
  · subst hl; rfl
  · rw [labelsB, if_neg (joinB_ne _ _ hl h0), splitB_join _ _ hl h]
theorem idxB_none (c : UInt8) : ∀ x : List UInt8, c ∉ x → idxB c x = -1
  | [], _ => rfl
  | b :: x, h => by
    have h1 : ¬ (b == c) = true := by simp; intro e; exact h (by simp [e])
    have := idxB_none c x (fun e => h (by simp [e]))
    unfold idxB at this ⊢
    rw [idxP, if_neg h1, if_pos this]
theorem idxB_at (c : UInt8) : ∀ (x y : List UInt8), c ∉ x → idxB c (x ++ c :: y) = (x.length : Int)
  | [], y, _ => by simp [idxB, idxP]
  | b :: x, y, h => by
    have h1 : ¬ (b == c) = true := by simp; intro e; exact h (by simp [e])
    have := idxB_at c x y (fun e => h (by simp [e]))
    unfold idxB at this ⊢
    rw [List.cons_append, idxP, if_neg h1, this, if_neg (by omega)]; simp
theorem parentB_join (x : List UInt8) (r : List (List UInt8)) (h : (46 : UInt8) ∉ x) : parentB (joinB [46] (x :: r)) = joinB [46] r := by
  cases r with
  | nil => simp only [joinB]; rw [parentB, if_pos (idxB_none _ _ h)]
  | cons y r =>
    rw [joinB, List.append_assoc, List.singleton_append, parentB, idxB_at _ _ _ h, if_neg (by omega)]
    rw [Int.toNat_natCast, List.drop_append, List.drop_eq_nil_of_le (by omega)]
    simp
theorem labelsB_no (s : List UInt8) (x : List UInt8) (h : x ∈ labelsB s) : (46 : UInt8) ∉ x := by
  unfold labelsB at h
  split at h
  · simp at h
  · exact splitB_mem_no _ _ _ h
theorem may_labels {s : List UInt8} (h : mayB s = true) : ∀ x ∈ labelsB s, 1 ≤ x.length ∧ x.length ≤ 63 := by
  intro x hx
  simp only [mayB, Bool.and_eq_true, List.all_eq_true] at h
  have := h.1 x hx
  simpa [okLab] using this
theorem may_size {s : List UInt8} (h : mayB s = true) : sizeB (labelsB s) ≤ 255 := by
  simp only [mayB, Bool.and_eq_true] at h
  simpa using h.2
theorem join_labels (s : List UInt8) : joinB [46] (labelsB s) = s := by
  unfold labelsB; split
  · rename_i h; rw [h]; rfl
  · exact joinB_split _ _
theorem mput_none {κ ν : Type} [DecidableEq κ] (k : κ) (u : ν) : ∀ m : List (κ × ν), mget k m = none → mput k u m = m ++ [(k, u)]
  | [], _ => rfl
  | p :: m, h => by
    unfold mget at h
    split at h
    · cases h
    · rename_i hne; rw [mput, if_neg hne, mput_none k u m h]; rfl
theorem or192 : ∀ k : Nat, k < 64 → bitsOf .or .u8 ((UInt8.ofNat k).toNat : Int) 192 = ((UInt8.ofNat (192 + k)).toNat : Int) := by decide
theorem ptr_shr (n : Nat) (h : n < 16384) : Value.int .u8 (bitsOf .or .u8 ((UInt8.ofNat ((n : Int) / 2 ^ min (8 : Int).toNat IntKind.i64.bits).toNat).toNat : Int) 192) = bv (UInt8.ofNat (192 + n / 256)) := by
  have e : ((n : Int) / 2 ^ min (8 : Int).toNat IntKind.i64.bits).toNat = n / 256 := by
    show ((n : Int) / 256).toNat = _
    omega
  rw [e, or192 _ (by omega)]; rfl
theorem ofNat_mod (n : Nat) : UInt8.ofNat n = UInt8.ofNat (n % 256) := by
  apply UInt8.toNat_inj.1; simp


theorem Writer_Name (b : Nat) (s B : List UInt8) (m : WM) (g : G) (hw : Wr g b B m) (hs : s.length ≤ 100000) (hB : B.length ≤ 1000000) :
    Fn Try.prog 14 [.pointer (some ⟨b, 0, none⟩), str s] g [21, 22, 23] fun u h => u = .bool (mayB s) ∧ Wr h b (nameEnd B m s).1 (nameEnd B m s).2 := by
  refine enterG [21, 22, 23] [] Try.func14 rfl Try.ntmps14 rfl (by simp) fun g1 hv ho => ?_
  replace hw := hw.view hv
  repeat (first|refine q1 ?_|refine q2 ?_|refine q3 ?_|refine q4 ?_|refine q5 ?_|refine q6 ?_|refine w_seq ?_|refine w_region ?_|refine w_ops_nil ?_|refine w_skip ?_|refine w_block ?_|refine w_blk ?_|refine q7 ?_|refine q8 ?_|refine q9 ?_)
  refine w_callF rfl (label_May s g1 (by omega)) rfl fun u h1 hs1 hu => ?_
  subst hu
  replace hw := hw.go hs1
  repeat (first|refine q1 ?_|refine q2 ?_|refine q3 ?_|refine q4 ?_|refine q5 ?_|refine q6 ?_|refine w_seq ?_|refine w_region ?_|refine w_ops_nil ?_|refine w_skip ?_|refine w_block ?_|refine w_blk ?_|refine q7 ?_|refine q8 ?_|refine q9 ?_)
  refine w_cond rfl (fun hc => ?_) (fun hc => ?_)
  · have hmay : mayB s = false := by simpa using hc
    repeat (first|refine q1 ?_|refine q2 ?_|refine q3 ?_|refine q4 ?_|refine q5 ?_|refine q6 ?_|refine w_seq ?_|refine w_region ?_|refine w_ops_nil ?_|refine w_skip ?_|refine w_block ?_|refine w_blk ?_|refine q7 ?_|refine q8 ?_|refine q9 ?_)
    refine w_retG (res1 rfl rfl) hs1.nil fun h' hv' => ⟨by rw [hmay], ?_⟩
    simp only [nameEnd, hmay]
    exact hw.view hv'
  have hmay : mayB s = true := by simpa using hc
  have hlab := may_labels hmay
  have hsiz := may_size hmay
  unfold sizeB at hsiz
  obtain ⟨r, ⟨vB, hcell, hown, hm⟩, hsm⟩ := hw
  repeat (first|refine q1 ?_|refine q2 ?_|refine q3 ?_|refine q4 ?_|refine q5 ?_|refine q6 ?_|refine w_seq ?_|refine w_region ?_|refine w_ops_nil ?_|refine w_skip ?_|refine w_block ?_|refine w_blk ?_|refine q7 ?_|refine q8 ?_|refine q9 ?_)
  refine w_fldA (by decide) rfl rfl ?_
  refine w_load1 hcell rfl rfl rfl rfl ?_
  refine w_mapEqNil rfl rfl rfl ?_
  repeat (first|refine q1 ?_|refine q2 ?_|refine q3 ?_|refine q4 ?_|refine q5 ?_|refine q6 ?_|refine w_seq ?_|refine w_region ?_|refine w_ops_nil ?_|refine w_skip ?_|refine w_block ?_|refine w_blk ?_|refine q7 ?_|refine q8 ?_|refine q9 ?_)
  refine w_cut (ι := Unit) (fun _ => [(0, .pointer (some ⟨b, 0, none⟩)), (1, str s)])
    (fun _ w => ∃ h q, h.w = w ∧ Step [] [21, 22, 23] g1 h ∧ Cell h 21 b 26 [vB, .map (some q)] ∧ Own h 22 El.u8 5 vB B ∧ MapIs h 23 q El.str El.nat m) ?_ ?_
  · refine w_cond rfl (fun hn => ?_) (fun hn => ?_)
    · obtain rfl : r = none := by cases r <;> simp_all
      obtain rfl : m = [] := by rcases hm with ⟨_, h⟩ | ⟨q, h, _⟩; exact h; cases h
      repeat (first|refine q1 ?_|refine q2 ?_|refine q3 ?_|refine q4 ?_|refine q5 ?_|refine q6 ?_|refine w_seq ?_|refine w_region ?_|refine w_ops_nil ?_|refine w_skip ?_|refine w_block ?_|refine w_blk ?_|refine q7 ?_|refine q8 ?_|refine q9 ?_)
      refine w_makeMap 23 rfl fun h2 q hs2 hmap => ?_
      replace hcell := hcell.go hs2; replace hown := hown.go hs2
      repeat (first|refine q1 ?_|refine q2 ?_|refine q3 ?_|refine q4 ?_|refine q5 ?_|refine q6 ?_|refine w_seq ?_|refine w_region ?_|refine w_ops_nil ?_|refine w_skip ?_|refine w_block ?_|refine w_blk ?_|refine q7 ?_|refine q8 ?_|refine q9 ?_)
      refine w_fldA (by decide) rfl rfl ?_
      refine w_store1 hcell rfl rfl rfl (by simp) fun h3 hb3 hs3 hcell3 => ?_
      repeat (first|refine q1 ?_|refine q2 ?_|refine q3 ?_|refine q4 ?_|refine q5 ?_|refine q6 ?_|refine w_seq ?_|refine w_region ?_|refine w_ops_nil ?_|refine w_skip ?_|refine w_block ?_|refine w_blk ?_|refine q7 ?_|refine q8 ?_|refine q9 ?_)
      exact w_meet () ⟨h3, q, rfl, ((hs1.mono (by simp) (by simp)).go hs2).go hs3, hcell3, hown.go hs3, (MapAt.empty hmap).step hs3 (by simp) (by simp)⟩ ⟨rfl, rfl, trivial⟩
    · repeat (first|refine q1 ?_|refine q2 ?_|refine q3 ?_|refine q4 ?_|refine q5 ?_|refine q6 ?_|refine w_seq ?_|refine w_region ?_|refine w_ops_nil ?_|refine w_skip ?_|refine w_block ?_|refine w_blk ?_|refine q7 ?_|refine q8 ?_|refine q9 ?_)
      rcases hm with ⟨rfl, _⟩ | ⟨q, rfl, hm⟩
      · cases hn
      · exact w_meet () ⟨h1, q, rfl, hs1.mono (by simp) (by simp), hcell, hown, hm⟩ ⟨rfl, rfl, trivial⟩
  clear hcell hown hm hs1
  rintro _ _ ⟨h, q, rfl, hst, hcell, hown, hm⟩
  repeat (first|refine q1 ?_|refine q2 ?_|refine q3 ?_|refine q4 ?_|refine q5 ?_|refine q6 ?_|refine w_seq ?_|refine w_region ?_|refine w_ops_nil ?_|refine w_skip ?_|refine w_block ?_|refine w_blk ?_|refine q7 ?_|refine q8 ?_|refine q9 ?_)
  refine w_loop (ι := Nat) (fun i => [(0, .pointer (some ⟨b, 0, none⟩)), (1, str (joinB [46] ((labelsB s).drop i)))])
    (fun i w => ∃ h vB B' m', h.w = w ∧ Step [] [21, 22, 23] g1 h ∧ Cell h 21 b 26 [vB, .map (some q)] ∧ Own h 22 El.u8 5 vB B' ∧ MapIs h 23 q El.str El.nat m' ∧
      (∀ p ∈ m', p.2 < 16384) ∧ nameEnd B m s = nameGo B' m' ((labelsB s).drop i) ∧ i ≤ (labelsB s).length ∧ B'.length ≤ B.length + i + ((labelsB s).take i).flatten.length)
    (fun i => (labelsB s).length - i) 0 ⟨h, vB, B, m, rfl, hst, hcell, hown, hm, hsm, by simp [nameEnd, hmay], by omega, by simp⟩ ⟨rfl, by rw [List.drop_zero, join_labels]; rfl, trivial⟩ ?_
  clear hcell hown hm hst hsm h vB
  rintro i _ ⟨h, vB, B', m', rfl, hst, hcell, hown, hm, hsm, hend, hi, hb3⟩
  have hb1 := flatten_take (labelsB s) i
  repeat (first|refine q1 ?_|refine q2 ?_|refine q3 ?_|refine q4 ?_|refine q5 ?_|refine q6 ?_|refine w_seq ?_|refine w_region ?_|refine w_ops_nil ?_|refine w_skip ?_|refine w_block ?_|refine w_blk ?_|refine q7 ?_|refine q8 ?_|refine q9 ?_)
  refine w_condP rfl (fun hc => ?_) (fun hc => ?_)
  · have hc : ¬ joinB [46] ((labelsB s).drop i) = [] := hc
    have hlt : i < (labelsB s).length := by
      rcases Nat.lt_or_ge i (labelsB s).length with h | h
      · exact h
      · rw [List.drop_eq_nil_of_le h] at hc; exact absurd rfl hc
    have hle := len_le_flatten (labelsB s) i (labelsB s)[i] (by simp [hlt])
    have hli := hlab _ (List.getElem_mem hlt)
    have hjl : (joinB [46] ((labelsB s).drop i)).length ≤ 1000 := by
      have h1 := joinB_flat [46] ((labelsB s).drop i)
      have h2 := flatten_drop (labelsB s) i
      simp only [List.length_drop, List.length_cons, List.length_nil] at h1
      omega
    rw [nameGo_step _ _ _ _ hlt] at hend
    repeat (first|refine q1 ?_|refine q2 ?_|refine q3 ?_|refine q4 ?_|refine q5 ?_|refine q6 ?_|refine w_seq ?_|refine w_region ?_|refine w_ops_nil ?_|refine w_skip ?_|refine w_block ?_|refine w_blk ?_|refine q7 ?_|refine q8 ?_|refine q9 ?_)
    refine w_fldA (by decide) rfl rfl ?_
    refine w_load1 hcell rfl rfl rfl rfl ?_
    repeat (first|refine q1 ?_|refine q2 ?_|refine q3 ?_|refine q4 ?_|refine q5 ?_|refine q6 ?_|refine w_seq ?_|refine w_region ?_|refine w_ops_nil ?_|refine w_skip ?_|refine w_block ?_|refine w_blk ?_|refine q7 ?_|refine q8 ?_|refine q9 ?_)
    refine w_lookupOk (key := joinB [46] ((labelsB s).drop i)) hm rfl rfl rfl ?_
    cases hg : mget (joinB [46] ((labelsB s).drop i)) m' with
    | some n =>
      have hn := mget_small hsm hg
      rw [hg] at hend
      dsimp only at hend
      dsimp only [Option.isSome]
      repeat (first|refine q1 ?_|refine q2 ?_|refine q3 ?_|refine q4 ?_|refine q5 ?_|refine q6 ?_|refine w_seq ?_|refine w_region ?_|refine w_ops_nil ?_|refine w_skip ?_|refine w_block ?_|refine w_blk ?_|refine q7 ?_|refine q8 ?_|refine q9 ?_)
      refine w_shr rfl rfl (by omega) rfl ?_
      refine w_convB rfl (Int.ediv_nonneg (by omega) (by decide)) rfl ?_
      refine w_bits (.inr (.inl rfl)) rfl rfl rfl ?_
      refine w_known 36 (bv (UInt8.ofNat (192 + n / 256))) rfl (ptr_shr n hn) ?_
      repeat (first|refine q1 ?_|refine q2 ?_|refine q3 ?_|refine q4 ?_|refine q5 ?_|refine q6 ?_|refine w_seq ?_|refine w_region ?_|refine w_ops_nil ?_|refine w_skip ?_|refine w_block ?_|refine w_blk ?_|refine q7 ?_|refine q8 ?_|refine q9 ?_)
      refine w_convB rfl (by omega) rfl ?_
      refine w_known 38 (bv (UInt8.ofNat (n % 256))) rfl (by rw [Int.toNat_natCast, ofNat_mod]) ?_
      refine w_buildSlR El.u8 (ptrB n) rfl rfl rfl rfl fun h7 v7 hs7 hr7 => ?_
      have hw7 : Wr h7 b B' m' := ⟨some q, ⟨vB, hcell.go hs7, hown.go hs7, .inr ⟨q, rfl, hm.go hs7⟩⟩, hsm⟩
      refine w_callF rfl (Writer_Raw b B' m' (ptrB n) h7 hw7 hr7 (by simp [ptrB]; omega)) rfl fun u h8 hs8 hw8 => ?_
      repeat (first|refine q1 ?_|refine q2 ?_|refine q3 ?_|refine q4 ?_|refine q5 ?_|refine q6 ?_|refine w_seq ?_|refine w_region ?_|refine w_ops_nil ?_|refine w_skip ?_|refine w_block ?_|refine w_blk ?_|refine q7 ?_|refine q8 ?_|refine q9 ?_)
      refine w_retG (res1 rfl rfl) ((hst.go hs7).go hs8) fun h' hv' => ⟨by rw [hmay], ?_⟩
      rw [hend]
      exact hw8.view hv'
    | none =>
      rw [hg] at hend
      dsimp only at hend
      dsimp only [Option.isSome]
      repeat (first|refine q1 ?_|refine q2 ?_|refine q3 ?_|refine q4 ?_|refine q5 ?_|refine q6 ?_|refine w_seq ?_|refine w_region ?_|refine w_ops_nil ?_|refine w_skip ?_|refine w_block ?_|refine w_blk ?_|refine q7 ?_|refine q8 ?_|refine q9 ?_)
      refine w_fldA (by decide) rfl rfl ?_
      refine w_load1 hcell rfl rfl rfl rfl ?_
      refine w_lenSl hown.isSl rfl rfl ?_
      repeat (first|refine q1 ?_|refine q2 ?_|refine q3 ?_|refine q4 ?_|refine q5 ?_|refine q6 ?_|refine w_seq ?_|refine w_region ?_|refine w_ops_nil ?_|refine w_skip ?_|refine w_block ?_|refine w_blk ?_|refine q7 ?_|refine q8 ?_|refine q9 ?_)
      refine w_cut (ι := Unit) (fun _ => [(0, .pointer (some ⟨b, 0, none⟩)), (1, str (joinB [46] ((labelsB s).drop i)))])
        (fun _ w => ∃ h, h.w = w ∧ Step [] [21, 22, 23] g1 h ∧ Cell h 21 b 26 [vB, .map (some q)] ∧ Own h 22 El.u8 5 vB B' ∧ MapIs h 23 q El.str El.nat (if B'.length < 16384 then m' ++ [(joinB [46] ((labelsB s).drop i), B'.length)] else m')) ?_ ?_
      · refine w_condP rfl (fun h1 => ?_) (fun h1 => ?_)
        · refine d_begin (some 10) [] (by kernel_rfl) fun g2 hs2 => ?_
          replace hcell := hcell.go hs2; replace hown := hown.go hs2; replace hm := hm.go hs2; replace hst := hst.go hs2
          refine d_pure 0 calm_ret rfl (by kernel_rfl) rfl rfl ?_; refine d_pure 1 calm_ret rfl (by kernel_rfl) rfl rfl ?_
          refine d_read 2 calm_ret rfl (by kernel_rfl) rfl  (fun h hs => r_fldA (by decide) rfl) ?_
          refine d_read 3 calm_ret rfl (by kernel_rfl) rfl  (fun h hs => r_load1 (hcell.go hs) rfl rfl rfl) ?_
          refine d_pure 4 calm_ret rfl (by kernel_rfl) rfl rfl ?_; refine d_pure 5 calm_ret rfl (by kernel_rfl) rfl rfl ?_; refine d_pure 6 calm_ret rfl (by kernel_rfl) rfl rfl ?_
          refine d_read 7 calm_ret rfl (by kernel_rfl) rfl  (fun h hs => r_fldA (by decide) rfl) ?_
          refine d_read 8 calm_ret rfl (by kernel_rfl) rfl  (fun h hs => r_load1 (hcell.go hs) rfl rfl rfl) ?_
          refine d_read 9 calm_ret rfl (by kernel_rfl) rfl  (fun h hs => r_lenSl hown.isSl rfl) ?_
          refine d_exec1 10 (by kernel_rfl) rfl ?_
          refine w_mapSet (key := joinB [46] ((labelsB s).drop i)) (u := B'.length) hm rfl rfl rfl fun h3 hb3 hs3 hm3 => ?_
          replace hcell := hcell.go hs3; replace hown := hown.go hs3; replace hst := hst.go hs3
          repeat (first|refine q1 ?_|refine q2 ?_|refine q3 ?_|refine q4 ?_|refine q5 ?_|refine q6 ?_|refine w_seq ?_|refine w_region ?_|refine w_ops_nil ?_|refine w_skip ?_|refine w_block ?_|refine w_blk ?_|refine q7 ?_|refine q8 ?_|refine q9 ?_)
          refine d_over (by kernel_rfl) ?_
          refine d_done (by kernel_rfl) ?_
          refine w_meet () ⟨h3, rfl, hst, hcell, hown, ?_⟩ ⟨rfl, rfl, trivial⟩
          rw [if_pos (by omega), ← mput_none _ _ _ hg]; exact hm3
        · repeat (first|refine q1 ?_|refine q2 ?_|refine q3 ?_|refine q4 ?_|refine q5 ?_|refine q6 ?_|refine w_seq ?_|refine w_region ?_|refine w_ops_nil ?_|refine w_skip ?_|refine w_block ?_|refine w_blk ?_|refine q7 ?_|refine q8 ?_|refine q9 ?_)
          refine w_meet () ⟨h, rfl, hst, hcell, hown, ?_⟩ ⟨rfl, rfl, trivial⟩
          rw [if_neg (by omega)]; exact hm
      clear hcell hown hm hst h
      rintro _ _ ⟨h, rfl, hst, hcell, hown, hm⟩
      have hsm2 : ∀ p ∈ (if B'.length < 16384 then m' ++ [(joinB [46] ((labelsB s).drop i), B'.length)] else m'), p.2 < 16384 := by
        intro p hp
        split at hp
        · rcases List.mem_append.1 hp with hp | hp
          · exact hsm p hp
          · simp at hp; subst hp; dsimp only; omega
        · exact hsm p hp
      repeat (first|refine q1 ?_|refine q2 ?_|refine q3 ?_|refine q4 ?_|refine q5 ?_|refine q6 ?_|refine w_seq ?_|refine w_region ?_|refine w_ops_nil ?_|refine w_skip ?_|refine w_block ?_|refine w_blk ?_|refine q7 ?_|refine q8 ?_|refine q9 ?_)
      refine w_callF rfl (label_Labels _ h (by omega)) rfl fun v2 h2 hs2 hr2 => ?_
      rw [labelsB_join _ (fun x hx => labelsB_no s x (List.mem_of_mem_drop hx)) (fun x hx e => by have := (hlab x (List.mem_of_mem_drop hx)).1; rw [e] at this; simp at this)] at hr2
      replace hcell := hcell.go hs2; replace hown := hown.go hs2; replace hm := hm.go hs2
      replace hst := hst.go hs2
      refine w_idx hr2 rfl rfl (by omega) (by simp; omega) rfl ?_
      refine w_loadE (i := 0) (y := (labelsB s)[i]) hr2 rfl (by simp [hlt]) rfl rfl ?_
      repeat (first|refine q1 ?_|refine q2 ?_|refine q3 ?_|refine q4 ?_|refine q5 ?_|refine q6 ?_|refine w_seq ?_|refine w_region ?_|refine w_ops_nil ?_|refine w_skip ?_|refine w_block ?_|refine w_blk ?_|refine q7 ?_|refine q8 ?_|refine q9 ?_)
      refine w_convB rfl (by omega) rfl ?_
      refine w_buildSlR El.u8 [UInt8.ofNat (labelsB s)[i].length] rfl rfl rfl rfl fun h3 v3 hs3 hr3 => ?_
      have hw3 : WrR h3 b (some q) B' _ := ⟨⟨vB, hcell.go hs3, hown.go hs3, .inr ⟨q, rfl, hm.go hs3⟩⟩, hsm2⟩
      refine w_callF rfl (Writer_RawR b _ B' _ _ h3 hw3 hr3 (by simp; omega)) rfl fun u h4 hs4 hw4 => ?_
      repeat (first|refine q1 ?_|refine q2 ?_|refine q3 ?_|refine q4 ?_|refine q5 ?_|refine q6 ?_|refine w_seq ?_|refine w_region ?_|refine w_ops_nil ?_|refine w_skip ?_|refine w_block ?_|refine w_blk ?_|refine q7 ?_|refine q8 ?_|refine q9 ?_)
      refine w_s2b rfl (by omega) rfl fun h5 v5 hs5 hr5 => ?_
      refine w_callF rfl (Writer_RawR b _ _ _ _ h5 (hw4.go hs5) hr5 (by simp; omega)) rfl fun u2 h6 hs6 hw6 => ?_
      repeat (first|refine q1 ?_|refine q2 ?_|refine q3 ?_|refine q4 ?_|refine q5 ?_|refine q6 ?_|refine w_seq ?_|refine w_region ?_|refine w_ops_nil ?_|refine w_skip ?_|refine w_block ?_|refine w_blk ?_|refine q7 ?_|refine q8 ?_|refine q9 ?_)
      refine w_callF rfl (label_Parent _ h6 (by omega)) rfl fun u3 h7 hs7 hu7 => ?_
      have hj : List.drop i (labelsB s) = (labelsB s)[i] :: List.drop (i + 1) (labelsB s) := List.drop_eq_getElem_cons hlt
      rw [hj, parentB_join _ _ (labelsB_no s _ (List.getElem_mem hlt))] at hu7
      subst hu7
      obtain ⟨⟨vB', hcell', hown', hm'⟩, hsm'⟩ := hw6.go hs7
      rcases hm' with ⟨he, _⟩ | ⟨q', he, hm'⟩
      · cases he
      injection he with he
      subst he
      repeat (first|refine q1 ?_|refine q2 ?_|refine q3 ?_|refine q4 ?_|refine q5 ?_|refine q6 ?_|refine w_seq ?_|refine w_region ?_|refine w_ops_nil ?_|refine w_skip ?_|refine w_block ?_|refine w_blk ?_|refine q7 ?_|refine q8 ?_|refine q9 ?_)
      refine w_again (i + 1) (by omega) ⟨h7, vB', _, _, rfl, (((hst.go hs3).go hs4).go hs5).go hs6 |>.go hs7, hcell', hown', hm', hsm', hend, by omega, ?_⟩ ⟨rfl, rfl, trivial⟩
      rw [List.take_succ_eq_append_getElem hlt, List.flatten_append, List.length_append, List.length_append, List.length_append]
      simp only [List.flatten_cons, List.flatten_nil, List.append_nil, List.length_cons, List.length_nil]
      omega
  · have hc : joinB [46] ((labelsB s).drop i) = [] := Decidable.not_not.1 hc
    have : i = (labelsB s).length := by
      rcases Nat.lt_or_ge i (labelsB s).length with h | h
      · refine absurd hc (joinB_ne _ _ (by simp; omega) fun x hx e => ?_)
        have := (hlab x (List.mem_of_mem_drop hx)).1; rw [e] at this; simp at this
      · omega
    subst this
    rw [List.drop_length] at hend
    repeat (first|refine q1 ?_|refine q2 ?_|refine q3 ?_|refine q4 ?_|refine q5 ?_|refine q6 ?_|refine w_seq ?_|refine w_region ?_|refine w_ops_nil ?_|refine w_skip ?_|refine w_block ?_|refine w_blk ?_|refine q7 ?_|refine q8 ?_|refine q9 ?_)
    refine w_buildSlR El.u8 [0] rfl rfl rfl rfl fun h7 v7 hs7 hr7 => ?_
    have hw7 : Wr h7 b B' m' := ⟨some q, ⟨vB, hcell.go hs7, hown.go hs7, .inr ⟨q, rfl, hm.go hs7⟩⟩, hsm⟩
    refine w_callF rfl (Writer_Raw b B' m' [0] h7 hw7 hr7 (by simp; omega)) rfl fun u h8 hs8 hw8 => ?_
    repeat (first|refine q1 ?_|refine q2 ?_|refine q3 ?_|refine q4 ?_|refine q5 ?_|refine q6 ?_|refine w_seq ?_|refine w_region ?_|refine w_ops_nil ?_|refine w_skip ?_|refine w_block ?_|refine w_blk ?_|refine q7 ?_|refine q8 ?_|refine q9 ?_)
    refine w_retG (res1 rfl rfl) ((hst.go hs7).go hs8) fun h' hv' => ⟨by rw [hmay], ?_⟩
    rw [hend]
    exact hw8.view hv'
end Go.Proofs.Ytnfokdhgajanpaa
