/- Addresses, more: the reference's Of6, Map, May; the program's Four, Of4, May; '=='. No statement of the seat is proved here. -/
import Derived.Test.YtnfokdhgajanpaaAdr
set_option linter.unusedVariables false
set_option linter.unusedSimpArgs false
namespace Go.Proofs.Ytnfokdhgajanpaa
open Go
attribute [local irreducible] Wp

theorem cells16_set (b : Fin 16 → UInt8) (x : UInt8) : ∀ (i : Nat) (h : i < 16), (cells16 b).set i (bv x) = cells16 (fun j => if j.val = i then x else b j) := by
  intro i h
  match i, h with
  | 0, _ => rfl | 1, _ => rfl | 2, _ => rfl | 3, _ => rfl | 4, _ => rfl | 5, _ => rfl | 6, _ => rfl | 7, _ => rfl
  | 8, _ => rfl | 9, _ => rfl | 10, _ => rfl | 11, _ => rfl | 12, _ => rfl | 13, _ => rfl | 14, _ => rfl | 15, _ => rfl
  | n + 16, h => omega
def cells8 (f : Fin 8 → Nat) : List Value := [.int .u16 (f 0 : Int), .int .u16 (f 1 : Int), .int .u16 (f 2 : Int), .int .u16 (f 3 : Int), .int .u16 (f 4 : Int), .int .u16 (f 5 : Int), .int .u16 (f 6 : Int), .int .u16 (f 7 : Int)]
theorem cells8_get (f : Fin 8 → Nat) : ∀ (i : Nat) (h : i < 8), (cells8 f)[i]? = some (.int .u16 (f ⟨i, h⟩ : Int)) := by
  intro i h
  match i, h with
  | 0, _ => rfl | 1, _ => rfl | 2, _ => rfl | 3, _ => rfl | 4, _ => rfl | 5, _ => rfl | 6, _ => rfl | 7, _ => rfl
  | n + 8, h => omega
def of6 (f : Fin 8 → Nat) : Fin 16 → UInt8 := fun j => if j.val % 2 = 0 then UInt8.ofNat (f ⟨j.val / 2, by omega⟩ / 256) else UInt8.ofNat (f ⟨j.val / 2, by omega⟩ % 256)
def upTo (b : Fin 16 → UInt8) (n : Nat) : Fin 16 → UInt8 := fun j => if j.val < n then b j else 0
theorem upTo_set (b : Fin 16 → UInt8) (n : Nat) (h : n < 16) : (cells16 (upTo b n)).set n (bv (b ⟨n, h⟩)) = cells16 (upTo b (n + 1)) := by
  rw [cells16_set _ _ n h]
  refine congrArg cells16 (funext fun j => ?_)
  unfold upTo
  by_cases hj : j.val = n
  · rw [if_pos hj, if_pos (by omega)]; congr 1; exact Fin.ext hj.symm
  · rw [if_neg hj]
    by_cases h2 : j.val < n
    · rw [if_pos h2, if_pos (by omega)]
    · rw [if_neg h2, if_neg (by omega)]
theorem u16_quo (n : Nat) (h : n < 65536) : Value.int .u16 (IntKind.u16.wrap ((n : Int).tdiv 256)) = .int .u16 ((n / 256 : Nat) : Int) := by
  rw [tdiv_256 _ (by omega), wrap_u16 _ (by omega)]; exact congrArg (Value.int .u16) (by omega)

theorem ref04_Of6 (f : Fin 8 → Nat) (hf : ∀ i, f i < 65536) (g : G) : Fn Try.prog 115 [.agg (cells8 f).toArray] g [] fun u _ => u = El.ad.val ⟨6, of6 f⟩ := by
  refine enterG [] [2, 3, 4] Try.func115 rfl Try.ntmps115 rfl (by simp) fun g1 hv ho => ?_
  repeat (first|refine q1 ?_|refine q2 ?_|refine q3 ?_|refine q4 ?_|refine q5 ?_|refine q6 ?_|refine w_seq ?_|refine w_region ?_|refine w_ops_nil ?_|refine w_skip ?_|refine w_block ?_|refine w_blk ?_|refine q7 ?_|refine q8 ?_|refine q9 ?_)
  refine w_box 2 (vs := cells8 f) rfl rfl rfl fun h1 b1 hs1 hc1 => ?_
  refine w_alloc 3 (vs := El.ad.enc ⟨0, fun _ => 0⟩) rfl rfl fun h2 b2 hs2 hc2 => ?_
  replace hc1 := hc1.go hs2
  repeat (first|refine q1 ?_|refine q2 ?_|refine q3 ?_|refine q4 ?_|refine q5 ?_|refine q6 ?_|refine w_seq ?_|refine w_region ?_|refine w_ops_nil ?_|refine w_skip ?_|refine w_block ?_|refine w_blk ?_|refine q7 ?_|refine q8 ?_|refine q9 ?_)
  refine w_build (vs := [(0, .int .i64 6)]) (r := .int .i64 6 :: cells16 fun _ => 0) rfl rfl rfl ?_
  refine w_alloc 4 (vs := El.ad.enc ⟨0, fun _ => 0⟩) rfl rfl fun h3 b3 hs3 hc3 => ?_
  replace hc1 := hc1.go hs3; replace hc2 := hc2.go hs3
  repeat (first|refine q1 ?_|refine q2 ?_|refine q3 ?_|refine q4 ?_|refine q5 ?_|refine q6 ?_|refine w_seq ?_|refine w_region ?_|refine w_ops_nil ?_|refine w_skip ?_|refine w_block ?_|refine w_blk ?_|refine q7 ?_|refine q8 ?_|refine q9 ?_)
  refine w_store (us := El.ad.enc ⟨6, fun _ => 0⟩) (vs' := El.ad.enc ⟨6, fun _ => 0⟩) hc3 rfl rfl rfl rfl (El.ad.flat _) (Nat.le_refl 17) rfl fun h4 hb4 hs4 hc4 => ?_
  replace hc1 := hc1.go hs4; replace hc2 := hc2.go hs4
  have hst := ((hs1.go hs2).go hs3 |>.mono (by simp) (by simp) : Step [] [2, 3, 4] g1 h3).go hs4
  repeat (first|refine q1 ?_|refine q2 ?_|refine q3 ?_|refine q4 ?_|refine q5 ?_|refine q6 ?_|refine w_seq ?_|refine w_region ?_|refine w_ops_nil ?_|refine w_skip ?_|refine w_block ?_|refine w_blk ?_|refine q7 ?_|refine q8 ?_|refine q9 ?_)
  refine w_loop (ι := Nat) (fun i => [(1, .pointer (some ⟨b1, 0, none⟩)), (2, .pointer (some ⟨b2, 0, none⟩)), (3, .pointer (some ⟨b3, 0, none⟩)), (4, .int .i64 (i : Int))])
    (fun i w => ∃ h, h.w = w ∧ Step [] [2, 3, 4] g1 h ∧ i ≤ 8 ∧ Cell h 2 b1 148 (cells8 f) ∧ Cell h 3 b2 50 (El.ad.enc ⟨0, fun _ => 0⟩) ∧ Cell h 4 b3 50 (.int .i64 6 :: cells16 (upTo (of6 f) (2 * i))))
    (fun i => 8 - i) 0 ⟨h4, rfl, hst, by omega, hc1, hc2, hc4⟩ ⟨rfl, rfl, rfl, rfl, trivial⟩ ?_
  clear hs1 hs2 hs3 hs4 hst hc1 hc2 hc3 hc4
  rintro i _ ⟨h, rfl, hst, hi, hc1, hc2, hc3⟩
  repeat (first|refine q1 ?_|refine q2 ?_|refine q3 ?_|refine q4 ?_|refine q5 ?_|refine q6 ?_|refine w_seq ?_|refine w_region ?_|refine w_ops_nil ?_|refine w_skip ?_|refine w_block ?_|refine w_blk ?_|refine q7 ?_|refine q8 ?_|refine q9 ?_)
  refine w_condP rfl (fun hlt => ?_) (fun hlt => ?_)
  · have hlt : i < 8 := by omega
    have hfi := hf ⟨i, hlt⟩
    have hfb : ∀ {o : Nat}, o = i → (cells8 f)[0 + o * 1]? = some (.int .u16 (f ⟨i, hlt⟩ : Int)) := fun {x} e => by rw [e, show 0 + i * 1 = i by omega]; exact cells8_get f i hlt
    repeat (first|refine q1 ?_|refine q2 ?_|refine q3 ?_|refine q4 ?_|refine q5 ?_|refine q6 ?_|refine w_seq ?_|refine w_region ?_|refine w_ops_nil ?_|refine w_skip ?_|refine w_block ?_|refine w_blk ?_|refine q7 ?_|refine q8 ?_|refine q9 ?_)
    refine w_mul rfl rfl (by omega) rfl ?_
    repeat (first|refine q1 ?_|refine q2 ?_|refine q3 ?_|refine q4 ?_|refine q5 ?_|refine q6 ?_|refine w_seq ?_|refine w_region ?_|refine w_ops_nil ?_|refine w_skip ?_|refine w_block ?_|refine w_blk ?_|refine q7 ?_|refine q8 ?_|refine q9 ?_)
    refine w_idxA rfl rfl (by omega) (by omega) rfl ?_
    refine w_load1 (v := .int .u16 (f ⟨i, hlt⟩ : Int)) hc1 rfl (hfb (by omega)) rfl rfl ?_
    generalize hq : f ⟨i, hlt⟩ = q at hfi
    refine w_quoW rfl rfl (by decide) rfl ?_
    refine w_known 15 (.int .u16 ((q / 256 : Nat) : Int)) rfl (u16_quo _ hfi) ?_
    refine w_convB rfl (by omega) rfl ?_
    refine w_fldA (by decide) rfl rfl ?_
    refine w_idxA rfl rfl (by omega) (by omega) rfl ?_
    refine w_store1 hc3 rfl rfl rfl (by show 0 + 1 + (2 * (i : Int)).toNat * 1 < 17; omega) fun h5 hb5 hs5 hc5 => ?_
    have e1 : (Value.int .i64 6 :: cells16 (upTo (of6 f) (2 * i))).set (0 + 1 + (2 * (i : Int)).toNat * 1) (bv (UInt8.ofNat ((q / 256 : Nat) : Int).toNat)) = .int .i64 6 :: cells16 (upTo (of6 f) (2 * i + 1)) := by
      rw [show 0 + 1 + (2 * (i : Int)).toNat * 1 = 2 * i + 1 by omega, List.set_cons_succ, ← upTo_set _ _ (by omega)]
      congr 3
      unfold of6
      rw [if_pos (show 2 * i % 2 = 0 by omega)]
      have : (⟨2 * i / 2, by omega⟩ : Fin 8) = ⟨i, hlt⟩ := Fin.ext (show 2 * i / 2 = i by omega)
      simp only [this, hq, Int.toNat_natCast]
    rw [e1] at hc5
    replace hc1 := hc1.go hs5; replace hc2 := hc2.go hs5
    repeat (first|refine q1 ?_|refine q2 ?_|refine q3 ?_|refine q4 ?_|refine q5 ?_|refine q6 ?_|refine w_seq ?_|refine w_region ?_|refine w_ops_nil ?_|refine w_skip ?_|refine w_block ?_|refine w_blk ?_|refine q7 ?_|refine q8 ?_|refine q9 ?_)
    refine w_mul rfl rfl (by omega) rfl ?_
    repeat (first|refine q1 ?_|refine q2 ?_|refine q3 ?_|refine q4 ?_|refine q5 ?_|refine q6 ?_|refine w_seq ?_|refine w_region ?_|refine w_ops_nil ?_|refine w_skip ?_|refine w_block ?_|refine w_blk ?_|refine q7 ?_|refine q8 ?_|refine q9 ?_)
    refine w_idxA rfl rfl (by omega) (by omega) rfl ?_
    refine w_load1 (v := .int .u16 (f ⟨i, hlt⟩ : Int)) hc1 rfl (hfb (by omega)) rfl rfl ?_
    rw [hq]
    refine w_rem rfl rfl (by omega) rfl ?_
    refine w_convB rfl (by omega) rfl ?_
    refine w_fldA (by decide) rfl rfl ?_
    refine w_idxA rfl rfl (by omega) (by omega) rfl ?_
    refine w_store1 hc5 rfl rfl rfl (by show 0 + 1 + (2 * (i : Int) + 1).toNat * 1 < 17; omega) fun h6 hb6 hs6 hc6 => ?_
    have e2 : (Value.int .i64 6 :: cells16 (upTo (of6 f) (2 * i + 1))).set (0 + 1 + (2 * (i : Int) + 1).toNat * 1) (bv (UInt8.ofNat ((q : Int) % 256).toNat)) = .int .i64 6 :: cells16 (upTo (of6 f) (2 * (i + 1))) := by
      rw [show 0 + 1 + (2 * (i : Int) + 1).toNat * 1 = 2 * i + 1 + 1 by omega, List.set_cons_succ, show 2 * (i + 1) = 2 * i + 1 + 1 by omega, ← upTo_set _ (2 * i + 1) (by omega)]
      congr 3
      unfold of6
      rw [if_neg (show ¬ (2 * i + 1) % 2 = 0 by omega)]
      have : (⟨(2 * i + 1) / 2, by omega⟩ : Fin 8) = ⟨i, hlt⟩ := Fin.ext (show (2 * i + 1) / 2 = i by omega)
      simp only [this, hq]
      congr 1
    rw [e2] at hc6
    repeat (first|refine q1 ?_|refine q2 ?_|refine q3 ?_|refine q4 ?_|refine q5 ?_|refine q6 ?_|refine w_seq ?_|refine w_region ?_|refine w_ops_nil ?_|refine w_skip ?_|refine w_block ?_|refine w_blk ?_|refine q7 ?_|refine q8 ?_|refine q9 ?_)
    exact w_again (i + 1) (by omega) ⟨h6, rfl, (hst.go hs5).go hs6, by omega, hc1.go hs6, hc2.go hs6, hc6⟩ ⟨rfl, rfl, rfl, rfl, trivial⟩
  · have : i = 8 := by omega
    subst this
    repeat (first|refine q1 ?_|refine q2 ?_|refine q3 ?_|refine q4 ?_|refine q5 ?_|refine q6 ?_|refine w_seq ?_|refine w_region ?_|refine w_ops_nil ?_|refine w_skip ?_|refine w_block ?_|refine w_blk ?_|refine q7 ?_|refine q8 ?_|refine q9 ?_)
    refine w_loadS (us := El.ad.enc ⟨6, of6 f⟩) hc3 rfl (by show List.take 17 (Value.int .i64 6 :: cells16 (upTo (of6 f) (2 * 8))) = _; rfl) rfl rfl rfl ?_
    refine w_store (us := El.ad.enc ⟨6, of6 f⟩) (vs' := El.ad.enc ⟨6, of6 f⟩) hc2 rfl rfl rfl rfl (El.ad.flat _) (Nat.le_refl 17) rfl fun h5 hb5 hs5 hc5 => ?_
    repeat (first|refine q1 ?_|refine q2 ?_|refine q3 ?_|refine q4 ?_|refine q5 ?_|refine q6 ?_|refine w_seq ?_|refine w_region ?_|refine w_ops_nil ?_|refine w_skip ?_|refine w_block ?_|refine w_blk ?_|refine q7 ?_|refine q8 ?_|refine q9 ?_)
    exact w_retG (resCs hc5 rfl rfl rfl rfl) (hst.go hs5) fun h' _ => rfl

def map4 (a : Ad) : Fin 16 → UInt8 := fun j => match j.val with | 10 => 255 | 11 => 255 | 12 => a.b 0 | 13 => a.b 1 | 14 => a.b 2 | 15 => a.b 3 | _ => 0
def mapA (a : Ad) : Ad := if a.fam = 4 then ⟨6, map4 a⟩ else a
def grp (hi lo : Nat) : Fin 8 → Nat := fun i => match i.val with | 5 => 65535 | 6 => hi | 7 => lo | _ => 0
theorem of6_map (a : Ad) : of6 (grp (four4 a / 65536) (four4 a % 65536)) = map4 a := by
  have h1 := (a.b 0).toNat_lt; have h2 := (a.b 1).toNat_lt; have h3 := (a.b 2).toNat_lt; have h4 := (a.b 3).toNat_lt
  have e : ∀ (x : UInt8) (n : Nat), n % 256 = x.toNat → UInt8.ofNat n = x := fun x n h => by apply UInt8.toNat_inj.1; rw [UInt8.toNat_ofNat']; exact h
  funext j
  obtain ⟨j, hj⟩ := j
  match j, hj with
  | 0, _ => simp [of6, grp, map4]
  | 1, _ => simp [of6, grp, map4]
  | 2, _ => simp [of6, grp, map4]
  | 3, _ => simp [of6, grp, map4]
  | 4, _ => simp [of6, grp, map4]
  | 5, _ => simp [of6, grp, map4]
  | 6, _ => simp [of6, grp, map4]
  | 7, _ => simp [of6, grp, map4]
  | 8, _ => simp [of6, grp, map4]
  | 9, _ => simp [of6, grp, map4]
  | 10, _ => simp [of6, grp, map4]
  | 11, _ => simp [of6, grp, map4]
  | 12, _ => have := e (a.b 0) (four4 a / 65536 / 256) (by show four4 a / 65536 / 256 % 256 = _; unfold four4 n4; omega); simpa [of6, grp, map4] using this
  | 13, _ => have := e (a.b 1) (four4 a / 65536 % 256) (by show four4 a / 65536 % 256 % 256 = _; unfold four4 n4; omega); simpa [of6, grp, map4] using this
  | 14, _ => have := e (a.b 2) (four4 a % 65536 / 256) (by show four4 a % 65536 / 256 % 256 = _; unfold four4 n4; omega); simpa [of6, grp, map4] using this
  | 15, _ => have := e (a.b 3) (four4 a % 65536 % 256) (by show four4 a % 65536 % 256 % 256 = _; unfold four4 n4; omega); simpa [of6, grp, map4] using this
  | n + 16, h => omega
theorem ref04_Map (a : Ad) (g : G) : Fn Try.prog 104 [El.ad.val a] g [] fun u _ => u = El.ad.val (mapA a) := by
  refine enterG [] [2, 3] Try.func104 rfl Try.ntmps104 rfl (by simp) fun g1 hv ho => ?_
  repeat (first|refine q1 ?_|refine q2 ?_|refine q3 ?_|refine q4 ?_|refine q5 ?_|refine q6 ?_|refine w_seq ?_|refine w_region ?_|refine w_ops_nil ?_|refine w_skip ?_|refine w_block ?_|refine w_blk ?_|refine q7 ?_|refine q8 ?_|refine q9 ?_)
  refine w_box 2 (vs := El.ad.enc a) rfl rfl rfl fun h1 b1 hs1 hc1 => ?_
  refine w_alloc 3 (vs := El.ad.enc ⟨0, fun _ => 0⟩) rfl rfl fun h2 b2 hs2 hc2 => ?_
  replace hc1 := hc1.go hs2
  have hst := (hs1.go hs2 |>.mono (by simp) (by simp) : Step [] [2, 3] g1 h2)
  repeat (first|refine q1 ?_|refine q2 ?_|refine q3 ?_|refine q4 ?_|refine q5 ?_|refine q6 ?_|refine w_seq ?_|refine w_region ?_|refine w_ops_nil ?_|refine w_skip ?_|refine w_block ?_|refine w_blk ?_|refine q7 ?_|refine q8 ?_|refine q9 ?_)
  refine w_fldA (by decide) rfl rfl ?_
  refine w_load1 (v := .int .i64 a.fam) hc1 rfl rfl rfl rfl ?_
  repeat (first|refine q1 ?_|refine q2 ?_|refine q3 ?_|refine q4 ?_|refine q5 ?_|refine q6 ?_|refine w_seq ?_|refine w_region ?_|refine w_ops_nil ?_|refine w_skip ?_|refine w_block ?_|refine w_blk ?_|refine q7 ?_|refine q8 ?_|refine q9 ?_)
  refine w_condP rfl (fun h0 => ?_) (fun h0 => ?_)
  · repeat (first|refine q1 ?_|refine q2 ?_|refine q3 ?_|refine q4 ?_|refine q5 ?_|refine q6 ?_|refine w_seq ?_|refine w_region ?_|refine w_ops_nil ?_|refine w_skip ?_|refine w_block ?_|refine w_blk ?_|refine q7 ?_|refine q8 ?_|refine q9 ?_)
    refine w_loadS (us := El.ad.enc a) hc1 rfl rfl rfl rfl rfl ?_
    refine w_store (us := El.ad.enc a) (vs' := El.ad.enc a) hc2 rfl rfl rfl rfl (El.ad.flat _) (Nat.le_refl 17) rfl fun h5 hb5 hs5 hc5 => ?_
    repeat (first|refine q1 ?_|refine q2 ?_|refine q3 ?_|refine q4 ?_|refine q5 ?_|refine q6 ?_|refine w_seq ?_|refine w_region ?_|refine w_ops_nil ?_|refine w_skip ?_|refine w_block ?_|refine w_blk ?_|refine q7 ?_|refine q8 ?_|refine q9 ?_)
    refine w_retG (resCs hc5 rfl rfl rfl rfl) (hst.go hs5) fun h' _ => ?_
    rw [mapA, if_neg h0]; rfl
  · have h0 : a.fam = 4 := Decidable.not_not.1 h0
    have hlt : four4 a < 4294967296 := n4_lt _ _ _ _
    repeat (first|refine q1 ?_|refine q2 ?_|refine q3 ?_|refine q4 ?_|refine q5 ?_|refine q6 ?_|refine w_seq ?_|refine w_region ?_|refine w_ops_nil ?_|refine w_skip ?_|refine w_block ?_|refine w_blk ?_|refine q7 ?_|refine q8 ?_|refine q9 ?_)
    refine w_loadS (us := El.ad.enc a) hc1 rfl rfl rfl rfl rfl ?_
    refine w_callF rfl (ref04_Four a h2) rfl fun u h3 hs3 hu => ?_
    subst hu
    generalize hn : four4 a = n at hlt
    repeat (first|refine q1 ?_|refine q2 ?_|refine q3 ?_|refine q4 ?_|refine q5 ?_|refine q6 ?_|refine w_seq ?_|refine w_region ?_|refine w_ops_nil ?_|refine w_skip ?_|refine w_block ?_|refine w_blk ?_|refine q7 ?_|refine q8 ?_|refine q9 ?_)
    refine w_quoW rfl rfl (by decide) rfl ?_
    refine w_known 11 (.int .u32 ((n / 65536 : Nat) : Int)) rfl (by rw [Int.tdiv_eq_ediv_of_nonneg (by omega), wrap_u32 _ (by omega)]; exact congrArg (Value.int .u32) (by omega)) ?_
    refine w_conv rfl rfl ?_
    refine w_known 12 (.int .u16 ((n / 65536 : Nat) : Int)) rfl (by rw [wrap_u16 _ (by omega)]) ?_
    repeat (first|refine q1 ?_|refine q2 ?_|refine q3 ?_|refine q4 ?_|refine q5 ?_|refine q6 ?_|refine w_seq ?_|refine w_region ?_|refine w_ops_nil ?_|refine w_skip ?_|refine w_block ?_|refine w_blk ?_|refine q7 ?_|refine q8 ?_|refine q9 ?_)
    refine w_rem rfl rfl (by omega) rfl ?_
    refine w_conv rfl rfl ?_
    refine w_known 15 (.int .u16 ((n % 65536 : Nat) : Int)) rfl (by rw [wrap_u16 _ (by omega)]; exact congrArg (Value.int .u16) (by omega)) ?_
    refine w_buildA (vs := [(0, .int .u16 0), (1, .int .u16 0), (2, .int .u16 0), (3, .int .u16 0), (4, .int .u16 0), (5, .int .u16 65535), (6, .int .u16 ((n / 65536 : Nat) : Int)), (7, .int .u16 ((n % 65536 : Nat) : Int))]) (r := cells8 (grp (n / 65536) (n % 65536))) rfl rfl rfl ?_
    refine w_callF rfl (ref04_Of6 (grp (n / 65536) (n % 65536)) (fun i => by unfold grp; split <;> omega) h3) rfl fun u h4 hs4 hu => ?_
    subst hu
    subst hn
    rw [of6_map]
    refine w_store (us := El.ad.enc ⟨6, map4 a⟩) (vs' := El.ad.enc ⟨6, map4 a⟩) ((hc2.go hs3).go hs4) rfl rfl rfl rfl (El.ad.flat _) (Nat.le_refl 17) rfl fun h5 hb5 hs5 hc5 => ?_
    repeat (first|refine q1 ?_|refine q2 ?_|refine q3 ?_|refine q4 ?_|refine q5 ?_|refine q6 ?_|refine w_seq ?_|refine w_region ?_|refine w_ops_nil ?_|refine w_skip ?_|refine w_block ?_|refine w_blk ?_|refine q7 ?_|refine q8 ?_|refine q9 ?_)
    refine w_retG (resCs hc5 rfl rfl rfl rfl) (((hst.go hs3).go hs4).go hs5) fun h' _ => ?_
    rw [mapA, if_pos h0]; rfl

/-- Which addresses may be. -/
def mayA (a : Ad) : Bool := decide ((a.fam = 0 ∧ ∀ i : Fin 16, a.b i = 0) ∨ (a.fam = 4 ∧ ∀ i : Fin 16, 4 ≤ i.val → a.b i = 0) ∨ a.fam = 6)
theorem ref04_May (a : Ad) (g : G) : Fn Try.prog 105 [El.ad.val a] g [] fun u _ => u = .bool (mayA a) := by
  refine enterG [] [2] Try.func105 rfl Try.ntmps105 rfl (by simp) fun g1 hv ho => ?_
  repeat (first|refine q1 ?_|refine q2 ?_|refine q3 ?_|refine q4 ?_|refine q5 ?_|refine q6 ?_|refine w_seq ?_|refine w_region ?_|refine w_ops_nil ?_|refine w_skip ?_|refine w_block ?_|refine w_blk ?_|refine q7 ?_|refine q8 ?_|refine q9 ?_)
  refine w_box 2 (vs := El.ad.enc a) rfl rfl rfl fun h1 b1 hs1 hc1 => ?_
  repeat (first|refine q1 ?_|refine q2 ?_|refine q3 ?_|refine q4 ?_|refine q5 ?_|refine q6 ?_|refine w_seq ?_|refine w_region ?_|refine w_ops_nil ?_|refine w_skip ?_|refine w_block ?_|refine w_blk ?_|refine q7 ?_|refine q8 ?_|refine q9 ?_)
  refine w_fldA (by decide) rfl rfl ?_
  refine w_load1 (v := .int .i64 a.fam) hc1 rfl rfl rfl rfl ?_
  repeat (first|refine q1 ?_|refine q2 ?_|refine q3 ?_|refine q4 ?_|refine q5 ?_|refine q6 ?_|refine w_seq ?_|refine w_region ?_|refine w_ops_nil ?_|refine w_skip ?_|refine w_blk ?_|refine q7 ?_|refine q8 ?_|refine q9 ?_)
  let from_ : Nat := if a.fam = 0 then 0 else if a.fam = 4 then 4 else 16
  refine w_cut (ι := Unit) (fun _ => [(1, .pointer (some ⟨b1, 0, none⟩)), (3, .int .i64 (if a.fam = 4 then 4 else 16))]) (fun _ w => w = h1.w) ?_ ?_
  · refine w_condP rfl (fun h4 => ?_) (fun h4 => ?_)
    · repeat (first|refine q1 ?_|refine q2 ?_|refine q3 ?_|refine q4 ?_|refine q5 ?_|refine q6 ?_|refine w_seq ?_|refine w_region ?_|refine w_ops_nil ?_|refine w_skip ?_|refine w_block ?_|refine w_blk ?_|refine q7 ?_|refine q8 ?_|refine q9 ?_)
      exact w_meet () rfl ⟨rfl, by rw [if_pos h4]; rfl, trivial⟩
    · repeat (first|refine q1 ?_|refine q2 ?_|refine q3 ?_|refine q4 ?_|refine q5 ?_|refine q6 ?_|refine w_seq ?_|refine w_region ?_|refine w_ops_nil ?_|refine w_skip ?_|refine w_block ?_|refine w_blk ?_|refine q7 ?_|refine q8 ?_|refine q9 ?_)
      exact w_meet () rfl ⟨rfl, by rw [if_neg h4]; rfl, trivial⟩
  rintro _ _ rfl
  repeat (first|refine q1 ?_|refine q2 ?_|refine q3 ?_|refine q4 ?_|refine q5 ?_|refine q6 ?_|refine w_seq ?_|refine w_region ?_|refine w_ops_nil ?_|refine w_skip ?_|refine w_block ?_|refine w_blk ?_|refine q7 ?_|refine q8 ?_|refine q9 ?_)
  refine w_fldA (by decide) rfl rfl ?_
  refine w_load1 (v := .int .i64 a.fam) hc1 rfl rfl rfl rfl ?_
  repeat (first|refine q1 ?_|refine q2 ?_|refine q3 ?_|refine q4 ?_|refine q5 ?_|refine q6 ?_|refine w_seq ?_|refine w_region ?_|refine w_ops_nil ?_|refine w_skip ?_|refine w_blk ?_|refine q7 ?_|refine q8 ?_|refine q9 ?_)
  refine w_cut (ι := Unit) (fun _ => [(1, .pointer (some ⟨b1, 0, none⟩)), (3, .int .i64 (from_ : Int))]) (fun _ w => w = h1.w) ?_ ?_
  · refine w_condP rfl (fun h4 => ?_) (fun h4 => ?_)
    · repeat (first|refine q1 ?_|refine q2 ?_|refine q3 ?_|refine q4 ?_|refine q5 ?_|refine q6 ?_|refine w_seq ?_|refine w_region ?_|refine w_ops_nil ?_|refine w_skip ?_|refine w_block ?_|refine w_blk ?_|refine q7 ?_|refine q8 ?_|refine q9 ?_)
      refine w_meet () rfl ⟨rfl, ?_, trivial⟩
      simp only [from_]; rw [if_pos h4]; rfl
    · repeat (first|refine q1 ?_|refine q2 ?_|refine q3 ?_|refine q4 ?_|refine q5 ?_|refine q6 ?_|refine w_seq ?_|refine w_region ?_|refine w_ops_nil ?_|refine w_skip ?_|refine w_block ?_|refine w_blk ?_|refine q7 ?_|refine q8 ?_|refine q9 ?_)
      refine w_meet () rfl ⟨rfl, ?_, trivial⟩
      simp only [from_]; rw [if_neg h4]; by_cases h5 : a.fam = 4 <;> simp [h5] <;> rfl
  rintro _ _ rfl
  repeat (first|refine q1 ?_|refine q2 ?_|refine q3 ?_|refine q4 ?_|refine q5 ?_|refine q6 ?_|refine w_seq ?_|refine w_region ?_|refine w_ops_nil ?_|refine w_skip ?_|refine w_block ?_|refine w_blk ?_|refine q7 ?_|refine q8 ?_|refine q9 ?_)
  have hfr : from_ ≤ 16 := by simp only [from_]; split <;> (try split) <;> omega
  refine w_loop (ι := Nat) (fun i => [(1, .pointer (some ⟨b1, 0, none⟩)), (4, .int .i64 (i : Int))])
    (fun i w => w = h1.w ∧ i ≤ 16 ∧ from_ ≤ i ∧ ∀ j : Fin 16, from_ ≤ j.val → j.val < i → a.b j = 0) (fun i => 16 - i) from_ ⟨rfl, hfr, Nat.le_refl _, fun j h1 h2 => by omega⟩ ⟨rfl, rfl, trivial⟩ ?_
  rintro i _ ⟨rfl, hi, hfi, hall⟩
  repeat (first|refine q1 ?_|refine q2 ?_|refine q3 ?_|refine q4 ?_|refine q5 ?_|refine q6 ?_|refine w_seq ?_|refine w_region ?_|refine w_ops_nil ?_|refine w_skip ?_|refine w_block ?_|refine w_blk ?_|refine q7 ?_|refine q8 ?_|refine q9 ?_)
  have hbad : ∀ j : Fin 16, from_ ≤ j.val → ¬ a.b j = 0 → mayA a = false := by
    intro j hj hb
    refine decide_eq_false ?_
    rintro (⟨h0, h⟩ | ⟨h0, h⟩ | h0)
    · exact hb (h j)
    · refine hb (h j ?_)
      simp only [from_] at hj
      rw [if_neg (by omega), if_pos h0] at hj; exact hj
    · simp only [from_] at hj
      rw [if_neg (by omega), if_neg (by omega)] at hj
      omega
  refine w_condP rfl (fun hlt => ?_) (fun hlt => ?_)
  · have hlt : i < 16 := by omega
    repeat (first|refine q1 ?_|refine q2 ?_|refine q3 ?_|refine q4 ?_|refine q5 ?_|refine q6 ?_|refine w_seq ?_|refine w_region ?_|refine w_ops_nil ?_|refine w_skip ?_|refine w_block ?_|refine w_blk ?_|refine q7 ?_|refine q8 ?_|refine q9 ?_)
    refine w_fldA (by decide) rfl rfl ?_
    refine w_idxA rfl rfl (by omega) (by omega) rfl ?_
    refine w_load1 (v := bv (a.b ⟨i, hlt⟩)) hc1 rfl (by show (El.ad.enc a)[0 + 1 + (i : Int).toNat * 1]? = _; rw [show 0 + 1 + (i : Int).toNat * 1 = i + 1 by omega]; exact cells16_get a.b i hlt) rfl rfl ?_
    repeat (first|refine q1 ?_|refine q2 ?_|refine q3 ?_|refine q4 ?_|refine q5 ?_|refine q6 ?_|refine w_seq ?_|refine w_region ?_|refine w_ops_nil ?_|refine w_skip ?_|refine w_block ?_|refine w_blk ?_|refine q7 ?_|refine q8 ?_|refine q9 ?_)
    refine w_condP rfl (fun hb => ?_) (fun hb => ?_)
    · repeat (first|refine q1 ?_|refine q2 ?_|refine q3 ?_|refine q4 ?_|refine q5 ?_|refine q6 ?_|refine w_seq ?_|refine w_region ?_|refine w_ops_nil ?_|refine w_skip ?_|refine w_block ?_|refine w_blk ?_|refine q7 ?_|refine q8 ?_|refine q9 ?_)
      refine w_retG (res1 rfl rfl) hs1.nil fun h' _ => ?_
      rw [hbad ⟨i, hlt⟩ hfi (fun e => hb (by rw [e]; rfl))]
    · have hb : (((a.b ⟨i, hlt⟩).toNat : Int)) = 0 := Decidable.not_not.1 hb
      repeat (first|refine q1 ?_|refine q2 ?_|refine q3 ?_|refine q4 ?_|refine q5 ?_|refine q6 ?_|refine w_seq ?_|refine w_region ?_|refine w_ops_nil ?_|refine w_skip ?_|refine w_block ?_|refine w_blk ?_|refine q7 ?_|refine q8 ?_|refine q9 ?_)
      refine w_again (i + 1) (by omega) ⟨rfl, by omega, by omega, fun j h1 h2 => ?_⟩ ⟨rfl, rfl, trivial⟩
      by_cases hj : j.val = i
      · have : j = ⟨i, hlt⟩ := Fin.ext hj
        rw [this]; exact UInt8.toNat_inj.1 (by simpa using hb)
      · exact hall j h1 (by omega)
  · have : i = 16 := by omega
    subst this
    repeat (first|refine q1 ?_|refine q2 ?_|refine q3 ?_|refine q4 ?_|refine q5 ?_|refine q6 ?_|refine w_seq ?_|refine w_region ?_|refine w_ops_nil ?_|refine w_skip ?_|refine w_block ?_|refine w_blk ?_|refine q7 ?_|refine q8 ?_|refine q9 ?_)
    refine w_fldA (by decide) rfl rfl ?_
    refine w_load1 (v := .int .i64 a.fam) hc1 rfl rfl rfl rfl ?_
    repeat (first|refine q1 ?_|refine q2 ?_|refine q3 ?_|refine q4 ?_|refine q5 ?_|refine q6 ?_|refine w_seq ?_|refine w_region ?_|refine w_ops_nil ?_|refine w_skip ?_|refine w_block ?_|refine w_blk ?_|refine q7 ?_|refine q8 ?_|refine q9 ?_)
    refine w_splitP 24 rfl (fun h0 => ?_) (fun h0 => ?_)
    · repeat (first|refine q1 ?_|refine q2 ?_|refine q3 ?_|refine q4 ?_|refine q5 ?_|refine q6 ?_|refine w_seq ?_|refine w_region ?_|refine w_ops_nil ?_|refine w_skip ?_|refine w_block ?_|refine w_blk ?_|refine q7 ?_|refine q8 ?_|refine q9 ?_)
      refine w_retG (res1 rfl rfl) hs1.nil fun h' _ => congrArg Value.bool (decide_eq_true (.inl ⟨h0, fun j => hall j ?_ (by omega)⟩)).symm
      simp only [from_]; rw [if_pos h0]; omega
    · repeat (first|refine q1 ?_|refine q2 ?_|refine q3 ?_|refine q4 ?_|refine q5 ?_|refine q6 ?_|refine w_seq ?_|refine w_region ?_|refine w_ops_nil ?_|refine w_skip ?_|refine w_block ?_|refine w_blk ?_|refine q7 ?_|refine q8 ?_|refine q9 ?_)
      refine w_fldA (by decide) rfl rfl ?_
      repeat (first|refine q1 ?_|refine q2 ?_|refine q3 ?_|refine q4 ?_|refine q5 ?_|refine q6 ?_|refine w_seq ?_|refine w_region ?_|refine w_ops_nil ?_|refine w_skip ?_|refine w_block ?_|refine w_blk ?_|refine q7 ?_|refine q8 ?_|refine q9 ?_)
      refine w_load1 (v := .int .i64 a.fam) hc1 rfl rfl rfl rfl ?_
      repeat (first|refine q1 ?_|refine q2 ?_|refine q3 ?_|refine q4 ?_|refine q5 ?_|refine q6 ?_|refine w_seq ?_|refine w_region ?_|refine w_ops_nil ?_|refine w_skip ?_|refine w_block ?_|refine w_blk ?_|refine q7 ?_|refine q8 ?_|refine q9 ?_)
      refine w_splitP 29 rfl (fun h4 => ?_) (fun h4 => ?_)
      · repeat (first|refine q1 ?_|refine q2 ?_|refine q3 ?_|refine q4 ?_|refine q5 ?_|refine q6 ?_|refine w_seq ?_|refine w_region ?_|refine w_ops_nil ?_|refine w_skip ?_|refine w_block ?_|refine w_blk ?_|refine q7 ?_|refine q8 ?_|refine q9 ?_)
        refine w_retG (res1 rfl rfl) hs1.nil fun h' _ => congrArg Value.bool (decide_eq_true (.inr (.inl ⟨h4, fun j hj => hall j ?_ (by omega)⟩))).symm
        simp only [from_]; rw [if_neg h0, if_pos h4]; exact hj
      · repeat (first|refine q1 ?_|refine q2 ?_|refine q3 ?_|refine q4 ?_|refine q5 ?_|refine q6 ?_|refine w_seq ?_|refine w_region ?_|refine w_ops_nil ?_|refine w_skip ?_|refine w_block ?_|refine w_blk ?_|refine q7 ?_|refine q8 ?_|refine q9 ?_)
        refine w_fldA (by decide) rfl rfl ?_
        repeat (first|refine q1 ?_|refine q2 ?_|refine q3 ?_|refine q4 ?_|refine q5 ?_|refine q6 ?_|refine w_seq ?_|refine w_region ?_|refine w_ops_nil ?_|refine w_skip ?_|refine w_block ?_|refine w_blk ?_|refine q7 ?_|refine q8 ?_|refine q9 ?_)
        refine w_load1 (v := .int .i64 a.fam) hc1 rfl rfl rfl rfl ?_
        repeat (first|refine q1 ?_|refine q2 ?_|refine q3 ?_|refine q4 ?_|refine q5 ?_|refine q6 ?_|refine w_seq ?_|refine w_region ?_|refine w_ops_nil ?_|refine w_skip ?_|refine w_block ?_|refine w_blk ?_|refine q7 ?_|refine q8 ?_|refine q9 ?_)
        refine w_retG (res1 rfl rfl) hs1.nil fun h' _ => congrArg Value.bool ?_
        unfold mayA
        rw [decide_eq_decide]
        constructor
        · intro h; exact .inr (.inr h)
        · rintro (h | h | h)
          · exact absurd h.1 h0
          · exact absurd h.1 h4
          · exact h

theorem four_Of (x y z t : UInt8) (g : G) : Fn Try.prog 117 [.agg #[bv x, bv y, bv z, bv t]] g [] fun u _ => u = .int .u32 (n4 x y z t : Int) := by
  refine enterG [] [2] Try.func117 rfl Try.ntmps117 rfl (by simp) fun g1 hv ho => ?_
  have hx := x.toNat_lt; have hy := y.toNat_lt; have hz := z.toNat_lt; have ht := t.toNat_lt
  repeat (first|refine q1 ?_|refine q2 ?_|refine q3 ?_|refine q4 ?_|refine q5 ?_|refine q6 ?_|refine w_seq ?_|refine w_region ?_|refine w_ops_nil ?_|refine w_skip ?_|refine w_block ?_|refine w_blk ?_|refine q7 ?_|refine q8 ?_|refine q9 ?_)
  refine w_box 2 (vs := [bv x, bv y, bv z, bv t]) rfl rfl rfl fun h1 b1 hs1 hc1 => ?_
  repeat (first|refine q1 ?_|refine q2 ?_|refine q3 ?_|refine q4 ?_|refine q5 ?_|refine q6 ?_|refine w_seq ?_|refine w_region ?_|refine w_ops_nil ?_|refine w_skip ?_|refine w_block ?_|refine w_blk ?_|refine q7 ?_|refine q8 ?_|refine q9 ?_)
  refine w_loadS (us := [bv x, bv y, bv z, bv t]) hc1 rfl rfl rfl rfl rfl ?_
  repeat (first|refine q1 ?_|refine q2 ?_|refine q3 ?_|refine q4 ?_|refine q5 ?_|refine q6 ?_|refine w_seq ?_|refine w_region ?_|refine w_ops_nil ?_|refine w_skip ?_|refine w_block ?_|refine w_blk ?_|refine q7 ?_|refine q8 ?_|refine q9 ?_)
  have step : ∀ (n : Nat) (c : UInt8), n < 16777216 → Value.int .u32 (bitsOf .or .u32 (IntKind.u32.wrap ((n : Int) * 2 ^ min (8 : Int).toNat IntKind.u32.bits)) (IntKind.u32.wrap (c.toNat : Int))) = .int .u32 ((n * 256 + c.toNat : Nat) : Int) := by
    intro n c hn
    have hc := c.toNat_lt
    rw [show (2 : Int) ^ min (8 : Int).toNat IntKind.u32.bits = 256 from rfl, wrap_u32 _ (by omega), wrap_u32 _ (by omega)]
    have e := Nat.shiftLeft_add_eq_or_of_lt (i := 8) (show c.toNat < 2 ^ 8 from hc) n
    rw [Nat.shiftLeft_eq] at e
    refine congrArg (Value.int .u32) ?_
    show IntKind.u32.wrap (((BitVec.ofInt 32 ((n : Int) * 256) ||| BitVec.ofInt 32 (c.toNat : Int)).toNat : Nat) : Int) = _
    rw [BitVec.toNat_or, BitVec.toNat_ofInt, BitVec.toNat_ofInt]
    have e1 : (((n : Int) * 256) % ((2 ^ 32 : Nat) : Int)).toNat = n * 2 ^ 8 := by simp only [Nat.reducePow]; omega
    have e2 : ((c.toNat : Int) % ((2 ^ 32 : Nat) : Int)).toNat = c.toNat := by simp only [Nat.reducePow]; omega
    rw [e1, e2, ← e, wrap_u32 _ (by simp only [Nat.reducePow]; omega)]
  refine w_rounds 5 ?_
  have rd : True := trivial
  refine w_round ?_
  repeat (first|refine q1 ?_|refine q2 ?_|refine q3 ?_|refine q4 ?_|refine q5 ?_|refine q6 ?_|refine w_seq ?_|refine w_region ?_|refine w_ops_nil ?_|refine w_skip ?_|refine w_block ?_|refine w_blk ?_|refine q7 ?_|refine q8 ?_|refine q9 ?_)
  refine w_indexA (u := bv x) rfl rfl (by omega) (by decide) rfl rfl rfl ?_
  repeat (first|refine q1 ?_|refine q2 ?_|refine q3 ?_|refine q4 ?_|refine q5 ?_|refine q6 ?_|refine w_seq ?_|refine w_region ?_|refine w_ops_nil ?_|refine w_skip ?_|refine w_block ?_|refine w_blk ?_|refine q7 ?_|refine q8 ?_|refine q9 ?_)
  refine w_shl rfl rfl (by omega) rfl ?_
  repeat (first|refine q1 ?_|refine q2 ?_|refine q3 ?_|refine q4 ?_|refine q5 ?_|refine q6 ?_|refine w_seq ?_|refine w_region ?_|refine w_ops_nil ?_|refine w_skip ?_|refine w_block ?_|refine w_blk ?_|refine q7 ?_|refine q8 ?_|refine q9 ?_)
  refine w_conv (a := (x.toNat : Int)) rfl rfl ?_
  refine w_bits (.inr (.inl rfl)) rfl rfl rfl ?_
  refine w_known 14 (.int .u32 (x.toNat : Int)) rfl ((step 0 x (by omega)).trans (congrArg (Value.int .u32) (by omega))) ?_
  repeat (first|refine q1 ?_|refine q2 ?_|refine q3 ?_|refine q4 ?_|refine q5 ?_|refine q6 ?_|refine w_seq ?_|refine w_region ?_|refine w_ops_nil ?_|refine w_skip ?_|refine w_block ?_|refine w_blk ?_|refine q7 ?_|refine q8 ?_|refine q9 ?_)
  refine w_round ?_
  repeat (first|refine q1 ?_|refine q2 ?_|refine q3 ?_|refine q4 ?_|refine q5 ?_|refine q6 ?_|refine w_seq ?_|refine w_region ?_|refine w_ops_nil ?_|refine w_skip ?_|refine w_block ?_|refine w_blk ?_|refine q7 ?_|refine q8 ?_|refine q9 ?_)
  refine w_indexA (u := bv y) rfl rfl (by omega) (by decide) rfl rfl rfl ?_
  repeat (first|refine q1 ?_|refine q2 ?_|refine q3 ?_|refine q4 ?_|refine q5 ?_|refine q6 ?_|refine w_seq ?_|refine w_region ?_|refine w_ops_nil ?_|refine w_skip ?_|refine w_block ?_|refine w_blk ?_|refine q7 ?_|refine q8 ?_|refine q9 ?_)
  refine w_shl rfl rfl (by omega) rfl ?_
  repeat (first|refine q1 ?_|refine q2 ?_|refine q3 ?_|refine q4 ?_|refine q5 ?_|refine q6 ?_|refine w_seq ?_|refine w_region ?_|refine w_ops_nil ?_|refine w_skip ?_|refine w_block ?_|refine w_blk ?_|refine q7 ?_|refine q8 ?_|refine q9 ?_)
  refine w_conv (a := (y.toNat : Int)) rfl rfl ?_
  refine w_bits (.inr (.inl rfl)) rfl rfl rfl ?_
  refine w_known 14 (.int .u32 ((x.toNat * 256 + y.toNat : Nat) : Int)) rfl (step _ _ (by omega)) ?_
  repeat (first|refine q1 ?_|refine q2 ?_|refine q3 ?_|refine q4 ?_|refine q5 ?_|refine q6 ?_|refine w_seq ?_|refine w_region ?_|refine w_ops_nil ?_|refine w_skip ?_|refine w_block ?_|refine w_blk ?_|refine q7 ?_|refine q8 ?_|refine q9 ?_)
  refine w_round ?_
  repeat (first|refine q1 ?_|refine q2 ?_|refine q3 ?_|refine q4 ?_|refine q5 ?_|refine q6 ?_|refine w_seq ?_|refine w_region ?_|refine w_ops_nil ?_|refine w_skip ?_|refine w_block ?_|refine w_blk ?_|refine q7 ?_|refine q8 ?_|refine q9 ?_)
  refine w_indexA (u := bv z) rfl rfl (by omega) (by decide) rfl rfl rfl ?_
  repeat (first|refine q1 ?_|refine q2 ?_|refine q3 ?_|refine q4 ?_|refine q5 ?_|refine q6 ?_|refine w_seq ?_|refine w_region ?_|refine w_ops_nil ?_|refine w_skip ?_|refine w_block ?_|refine w_blk ?_|refine q7 ?_|refine q8 ?_|refine q9 ?_)
  refine w_shl rfl rfl (by omega) rfl ?_
  repeat (first|refine q1 ?_|refine q2 ?_|refine q3 ?_|refine q4 ?_|refine q5 ?_|refine q6 ?_|refine w_seq ?_|refine w_region ?_|refine w_ops_nil ?_|refine w_skip ?_|refine w_block ?_|refine w_blk ?_|refine q7 ?_|refine q8 ?_|refine q9 ?_)
  refine w_conv (a := (z.toNat : Int)) rfl rfl ?_
  refine w_bits (.inr (.inl rfl)) rfl rfl rfl ?_
  refine w_known 14 (.int .u32 (((x.toNat * 256 + y.toNat) * 256 + z.toNat : Nat) : Int)) rfl (step _ _ (by omega)) ?_
  repeat (first|refine q1 ?_|refine q2 ?_|refine q3 ?_|refine q4 ?_|refine q5 ?_|refine q6 ?_|refine w_seq ?_|refine w_region ?_|refine w_ops_nil ?_|refine w_skip ?_|refine w_block ?_|refine w_blk ?_|refine q7 ?_|refine q8 ?_|refine q9 ?_)
  refine w_round ?_
  repeat (first|refine q1 ?_|refine q2 ?_|refine q3 ?_|refine q4 ?_|refine q5 ?_|refine q6 ?_|refine w_seq ?_|refine w_region ?_|refine w_ops_nil ?_|refine w_skip ?_|refine w_block ?_|refine w_blk ?_|refine q7 ?_|refine q8 ?_|refine q9 ?_)
  refine w_indexA (u := bv t) rfl rfl (by omega) (by decide) rfl rfl rfl ?_
  repeat (first|refine q1 ?_|refine q2 ?_|refine q3 ?_|refine q4 ?_|refine q5 ?_|refine q6 ?_|refine w_seq ?_|refine w_region ?_|refine w_ops_nil ?_|refine w_skip ?_|refine w_block ?_|refine w_blk ?_|refine q7 ?_|refine q8 ?_|refine q9 ?_)
  refine w_shl rfl rfl (by omega) rfl ?_
  repeat (first|refine q1 ?_|refine q2 ?_|refine q3 ?_|refine q4 ?_|refine q5 ?_|refine q6 ?_|refine w_seq ?_|refine w_region ?_|refine w_ops_nil ?_|refine w_skip ?_|refine w_block ?_|refine w_blk ?_|refine q7 ?_|refine q8 ?_|refine q9 ?_)
  refine w_conv (a := (t.toNat : Int)) rfl rfl ?_
  refine w_bits (.inr (.inl rfl)) rfl rfl rfl ?_
  refine w_known 14 (.int .u32 ((((x.toNat * 256 + y.toNat) * 256 + z.toNat) * 256 + t.toNat : Nat) : Int)) rfl (step _ _ (by omega)) ?_
  repeat (first|refine q1 ?_|refine q2 ?_|refine q3 ?_|refine q4 ?_|refine q5 ?_|refine q6 ?_|refine w_seq ?_|refine w_region ?_|refine w_ops_nil ?_|refine w_skip ?_|refine w_block ?_|refine w_blk ?_|refine q7 ?_|refine q8 ?_|refine q9 ?_)
  refine w_round ?_
  repeat (first|refine q1 ?_|refine q2 ?_|refine q3 ?_|refine q4 ?_|refine q5 ?_|refine q6 ?_|refine w_seq ?_|refine w_region ?_|refine w_ops_nil ?_|refine w_skip ?_|refine w_block ?_|refine w_blk ?_|refine q7 ?_|refine q8 ?_|refine q9 ?_)
  exact w_retG (res1 rfl rfl) hs1.nil fun h' _ => rfl

theorem addr_Four (a : Ad) (g : G) : Fn Try.prog 107 [El.ad.val a] g [] fun u _ => u = .int .u32 (four4 a : Int) := by
  refine enterG [] [2] Try.func107 rfl Try.ntmps107 rfl (by simp) fun g1 hv ho => ?_
  repeat (first|refine q1 ?_|refine q2 ?_|refine q3 ?_|refine q4 ?_|refine q5 ?_|refine q6 ?_|refine w_seq ?_|refine w_region ?_|refine w_ops_nil ?_|refine w_skip ?_|refine w_block ?_|refine w_blk ?_|refine q7 ?_|refine q8 ?_|refine q9 ?_)
  refine w_box 2 (vs := El.ad.enc a) rfl rfl rfl fun h1 b1 hs1 hc1 => ?_
  repeat (first|refine q1 ?_|refine q2 ?_|refine q3 ?_|refine q4 ?_|refine q5 ?_|refine q6 ?_|refine w_seq ?_|refine w_region ?_|refine w_ops_nil ?_|refine w_skip ?_|refine w_block ?_|refine w_blk ?_|refine q7 ?_|refine q8 ?_|refine q9 ?_)
  refine w_fldA (by decide) rfl rfl ?_
  refine w_slA (h := 4) rfl ⟨_, rfl, rfl⟩ (by decide) rfl ?_
  refine w_s2ap rfl rfl rfl ?_
  refine w_loadS (us := [bv (a.b 0), bv (a.b 1), bv (a.b 2), bv (a.b 3)]) hc1 rfl rfl rfl rfl rfl ?_
  refine w_callF rfl (four_Of (a.b 0) (a.b 1) (a.b 2) (a.b 3) h1) rfl fun u h2 hs2 hu => ?_
  subst hu
  repeat (first|refine q1 ?_|refine q2 ?_|refine q3 ?_|refine q4 ?_|refine q5 ?_|refine q6 ?_|refine w_seq ?_|refine w_region ?_|refine w_ops_nil ?_|refine w_skip ?_|refine w_block ?_|refine w_blk ?_|refine q7 ?_|refine q8 ?_|refine q9 ?_)
  exact w_retG (res1 rfl rfl) (hs1.go hs2).nil fun h' _ => rfl
end Go.Proofs.Ytnfokdhgajanpaa
