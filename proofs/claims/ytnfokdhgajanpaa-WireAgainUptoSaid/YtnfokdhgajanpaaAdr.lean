/- Addresses: the values, and the contracts of layer 4 and of its reference that messages need. No statement of the seat is proved here. -/
import Derived.Test.YtnfokdhgajanpaaEng9
import Derived.Test.YtnfokdhgajanpaaTxt
set_option linter.unusedVariables false
set_option linter.unusedSimpArgs false
namespace Go.Proofs.Ytnfokdhgajanpaa
open Go
attribute [local irreducible] Wp

structure Ad where
  fam : Int
  b : Fin 16 → UInt8
theorem Ad.ext' {x y : Ad} (h : x.fam = y.fam) (h2 : ∀ i, x.b i = y.b i) : x = y := by
  cases x; cases y; simp only at h h2; subst h; congr; funext i; exact h2 i
instance : DecidableEq Ad := fun x y => if h : x.fam = y.fam ∧ ∀ i, x.b i = y.b i then isTrue (Ad.ext' h.1 h.2) else isFalse (fun e => h (by subst e; exact ⟨rfl, fun _ => rfl⟩))
def cells16 (b : Fin 16 → UInt8) : List Value := [bv (b 0), bv (b 1), bv (b 2), bv (b 3), bv (b 4), bv (b 5), bv (b 6), bv (b 7), bv (b 8), bv (b 9), bv (b 10), bv (b 11), bv (b 12), bv (b 13), bv (b 14), bv (b 15)]
def El.ad : El Ad := ⟨17, true, fun a => .int .i64 a.fam :: cells16 a.b, fun _ => rfl, fun h => (by cases h), by decide, by
  intro x u hu
  simp only [cells16, List.mem_cons, List.not_mem_nil, or_false] at hu
  rcases hu with h | h | h | h | h | h | h | h | h | h | h | h | h | h | h | h | h <;> subst h <;> rfl⟩
theorem cells16_get (b : Fin 16 → UInt8) : ∀ (i : Nat) (h : i < 16), (cells16 b)[i]? = some (bv (b ⟨i, h⟩)) := by
  intro i h
  match i, h with
  | 0, _ => rfl | 1, _ => rfl | 2, _ => rfl | 3, _ => rfl | 4, _ => rfl | 5, _ => rfl | 6, _ => rfl | 7, _ => rfl
  | 8, _ => rfl | 9, _ => rfl | 10, _ => rfl | 11, _ => rfl | 12, _ => rfl | 13, _ => rfl | 14, _ => rfl | 15, _ => rfl
  | n + 16, h => omega
def bytes16 (b : Fin 16 → UInt8) : List UInt8 := [b 0, b 1, b 2, b 3, b 4, b 5, b 6, b 7, b 8, b 9, b 10, b 11, b 12, b 13, b 14, b 15]
theorem cells16_eq (b : Fin 16 → UInt8) : cells16 b = (bytes16 b).map bv := rfl

theorem wrap_u32 (a : Int) (h : 0 ≤ a ∧ a < 4294967296) : IntKind.u32.wrap a = a := by
  simp only [IntKind.wrap, IntKind.signed, IntKind.bits]
  simp
  omega
theorem wrap_u16 (a : Int) (h : 0 ≤ a ∧ a < 65536) : IntKind.u16.wrap a = a := by
  simp only [IntKind.wrap, IntKind.signed, IntKind.bits]
  simp
  omega
def n4 (x y z t : UInt8) : Nat := ((x.toNat * 256 + y.toNat) * 256 + z.toNat) * 256 + t.toNat
theorem n4_lt (x y z t : UInt8) : n4 x y z t < 4294967296 := by
  have := x.toNat_lt; have := y.toNat_lt; have := z.toNat_lt; have := t.toNat_lt
  unfold n4; omega
def four4 (a : Ad) : Nat := n4 (a.b 0) (a.b 1) (a.b 2) (a.b 3)
def put4 (x y z t : UInt8) : Fin 16 → UInt8 := fun i => match i.val with | 0 => x | 1 => y | 2 => z | 3 => t | _ => 0
def of4 (n : Nat) : Ad := ⟨4, put4 (UInt8.ofNat (n / 16777216)) (UInt8.ofNat (n / 65536)) (UInt8.ofNat (n / 256)) (UInt8.ofNat n)⟩
theorem of4_n4 (x y z t : UInt8) : of4 (n4 x y z t) = ⟨4, put4 x y z t⟩ := by
  have h1 := x.toNat_lt; have h2 := y.toNat_lt; have h3 := z.toNat_lt; have h4 := t.toNat_lt
  unfold of4
  have e1 : UInt8.ofNat (n4 x y z t / 16777216) = x := by apply UInt8.toNat_inj.1; rw [UInt8.toNat_ofNat']; unfold n4; omega
  have e2 : UInt8.ofNat (n4 x y z t / 65536) = y := by apply UInt8.toNat_inj.1; rw [UInt8.toNat_ofNat']; unfold n4; omega
  have e3 : UInt8.ofNat (n4 x y z t / 256) = z := by apply UInt8.toNat_inj.1; rw [UInt8.toNat_ofNat']; unfold n4; omega
  have e4 : UInt8.ofNat (n4 x y z t) = t := by apply UInt8.toNat_inj.1; rw [UInt8.toNat_ofNat']; unfold n4; omega
  rw [e1, e2, e3, e4]

theorem ref04_Four (a : Ad) (g : G) : Fn Try.prog 103 [El.ad.val a] g [] fun u _ => u = .int .u32 (four4 a : Int) := by
  refine enterG [] [2] Try.func103 rfl Try.ntmps103 rfl (by simp) fun g1 hv ho => ?_
  repeat (first|refine q1 ?_|refine q2 ?_|refine q3 ?_|refine q4 ?_|refine q5 ?_|refine q6 ?_|refine w_seq ?_|refine w_region ?_|refine w_ops_nil ?_|refine w_skip ?_|refine w_block ?_|refine w_blk ?_|refine q7 ?_|refine q8 ?_|refine q9 ?_)
  refine w_box 2 (vs := El.ad.enc a) rfl rfl rfl fun h b hs hc => ?_
  repeat (first|refine q1 ?_|refine q2 ?_|refine q3 ?_|refine q4 ?_|refine q5 ?_|refine q6 ?_|refine w_seq ?_|refine w_region ?_|refine w_ops_nil ?_|refine w_skip ?_|refine w_block ?_|refine w_blk ?_|refine q7 ?_|refine q8 ?_|refine q9 ?_)
  let F : Nat → Nat := fun i => match i with | 0 => 0 | 1 => (a.b 0).toNat | 2 => (a.b 0).toNat * 256 + (a.b 1).toNat | 3 => ((a.b 0).toNat * 256 + (a.b 1).toNat) * 256 + (a.b 2).toNat | _ => four4 a
  have hF : ∀ i (hi : i < 4), F (i + 1) = F i * 256 + (a.b ⟨i, by omega⟩).toNat ∧ F i < 16777216 := by
    have h0 := (a.b 0).toNat_lt; have h1 := (a.b 1).toNat_lt; have h2 := (a.b 2).toNat_lt
    intro i hi
    match i, hi with
    | 0, _ => exact ⟨by simp [F], by simp [F]⟩
    | 1, _ => exact ⟨rfl, by simp only [F]; omega⟩
    | 2, _ => exact ⟨rfl, by simp only [F]; omega⟩
    | 3, _ => exact ⟨rfl, by simp only [F]; omega⟩
    | n + 4, h => omega
  refine w_loop (ι := Nat) (fun i => [(1, .pointer (some ⟨b, 0, none⟩)), (3, .int .u32 (F i : Int)), (4, .int .i64 (i : Int))])
    (fun i w => w = h.w ∧ i ≤ 4) (fun i => 4 - i) 0 ⟨rfl, by omega⟩ ⟨rfl, rfl, rfl, trivial⟩ ?_
  rintro i _ ⟨rfl, hi⟩
  repeat (first|refine q1 ?_|refine q2 ?_|refine q3 ?_|refine q4 ?_|refine q5 ?_|refine q6 ?_|refine w_seq ?_|refine w_region ?_|refine w_ops_nil ?_|refine w_skip ?_|refine w_block ?_|refine w_blk ?_|refine q7 ?_|refine q8 ?_|refine q9 ?_)
  refine w_condP rfl (fun hlt => ?_) (fun hlt => ?_)
  · have hlt : i < 4 := by omega
    obtain ⟨e1, e2⟩ := hF i hlt
    have hb := (a.b ⟨i, by omega⟩).toNat_lt
    repeat (first|refine q1 ?_|refine q2 ?_|refine q3 ?_|refine q4 ?_|refine q5 ?_|refine q6 ?_|refine w_seq ?_|refine w_region ?_|refine w_ops_nil ?_|refine w_skip ?_|refine w_block ?_|refine w_blk ?_|refine q7 ?_|refine q8 ?_|refine q9 ?_)
    refine w_mulW rfl rfl rfl ?_
    refine w_known 10 (.int .u32 ((F i * 256 : Nat) : Int)) rfl (by rw [wrap_u32 _ (by omega)]; exact congrArg (Value.int .u32) (by omega)) ?_
    repeat (first|refine q1 ?_|refine q2 ?_|refine q3 ?_|refine q4 ?_|refine q5 ?_|refine q6 ?_|refine w_seq ?_|refine w_region ?_|refine w_ops_nil ?_|refine w_skip ?_|refine w_block ?_|refine w_blk ?_|refine q7 ?_|refine q8 ?_|refine q9 ?_)
    refine w_fldA (by decide) rfl rfl ?_
    refine w_idxA rfl rfl (by omega) (by omega) rfl ?_
    refine w_load1 (v := bv (a.b ⟨i, by omega⟩)) hc rfl (by show (El.ad.enc a)[0 + 1 + (i : Int).toNat * 1]? = _; rw [show 0 + 1 + (i : Int).toNat * 1 = i + 1 by omega]; exact cells16_get a.b i (by omega)) rfl rfl ?_
    refine w_conv rfl rfl ?_
    refine w_known 15 (.int .u32 ((a.b ⟨i, by omega⟩).toNat : Int)) rfl (by rw [wrap_u32 _ (by omega)]) ?_
    refine w_addW rfl rfl rfl ?_
    refine w_known 16 (.int .u32 (F (i + 1) : Int)) rfl (by rw [wrap_u32 _ (by omega), e1]; exact congrArg (Value.int .u32) (by omega)) ?_
    repeat (first|refine q1 ?_|refine q2 ?_|refine q3 ?_|refine q4 ?_|refine q5 ?_|refine q6 ?_|refine w_seq ?_|refine w_region ?_|refine w_ops_nil ?_|refine w_skip ?_|refine w_block ?_|refine w_blk ?_|refine q7 ?_|refine q8 ?_|refine q9 ?_)
    exact w_again (i + 1) (by omega) ⟨rfl, by omega⟩ ⟨rfl, rfl, rfl, trivial⟩
  · have : i = 4 := by omega
    subst this
    repeat (first|refine q1 ?_|refine q2 ?_|refine q3 ?_|refine q4 ?_|refine q5 ?_|refine q6 ?_|refine w_seq ?_|refine w_region ?_|refine w_ops_nil ?_|refine w_skip ?_|refine w_block ?_|refine w_blk ?_|refine q7 ?_|refine q8 ?_|refine q9 ?_)
    exact w_retG (res1 rfl rfl) hs.nil fun h' _ => rfl

theorem tdiv_256 (a : Int) (h : 0 ≤ a) : a.tdiv 256 = a / 256 := Int.tdiv_eq_ediv_of_nonneg h
theorem u32_quo (n : Nat) (h : n < 4294967296) : Value.int .u32 (IntKind.u32.wrap ((n : Int).tdiv 256)) = .int .u32 ((n / 256 : Nat) : Int) := by
  rw [tdiv_256 _ (by omega), wrap_u32 _ (by omega)]; exact congrArg (Value.int .u32) (by omega)

theorem ref04_Of4 (n : Nat) (g : G) (hn : n < 4294967296) : Fn Try.prog 102 [.int .u32 (n : Int)] g [] fun u _ => u = El.ad.val (of4 n) := by
  refine enterG [] [2, 3] Try.func102 rfl Try.ntmps102 rfl (by simp) fun g1 hv ho => ?_
  repeat (first|refine q1 ?_|refine q2 ?_|refine q3 ?_|refine q4 ?_|refine q5 ?_|refine q6 ?_|refine w_seq ?_|refine w_region ?_|refine w_ops_nil ?_|refine w_skip ?_|refine w_block ?_|refine w_blk ?_|refine q7 ?_|refine q8 ?_|refine q9 ?_)
  refine w_alloc 2 (vs := El.ad.enc ⟨0, fun _ => 0⟩) rfl rfl fun h1 b1 hs1 hc1 => ?_
  repeat (first|refine q1 ?_|refine q2 ?_|refine q3 ?_|refine q4 ?_|refine q5 ?_|refine q6 ?_|refine w_seq ?_|refine w_region ?_|refine w_ops_nil ?_|refine w_skip ?_|refine w_block ?_|refine w_blk ?_|refine q7 ?_|refine q8 ?_|refine q9 ?_)
  refine w_build (vs := [(0, .int .i64 4)]) (r := .int .i64 4 :: cells16 fun _ => 0) rfl rfl rfl ?_
  refine w_alloc 3 (vs := El.ad.enc ⟨0, fun _ => 0⟩) rfl rfl fun h2 b2 hs2 hc2 => ?_
  replace hc1 := hc1.go hs2
  repeat (first|refine q1 ?_|refine q2 ?_|refine q3 ?_|refine q4 ?_|refine q5 ?_|refine q6 ?_|refine w_seq ?_|refine w_region ?_|refine w_ops_nil ?_|refine w_skip ?_|refine w_block ?_|refine w_blk ?_|refine q7 ?_|refine q8 ?_|refine q9 ?_)
  refine w_store (us := El.ad.enc ⟨4, fun _ => 0⟩) (vs' := El.ad.enc ⟨4, fun _ => 0⟩) hc2 rfl rfl rfl rfl (El.ad.flat _) (Nat.le_refl 17) rfl fun h3 hb3 hs3 hc3 => ?_
  replace hc1 := hc1.go hs3
  have hst := (hs1.go hs2 |>.mono (by simp) (by simp) : Step [] [2, 3] g1 h2).go hs3
  repeat (first|refine q1 ?_|refine q2 ?_|refine q3 ?_|refine q4 ?_|refine q5 ?_|refine q6 ?_|refine w_seq ?_|refine w_region ?_|refine w_ops_nil ?_|refine w_skip ?_|refine w_block ?_|refine w_blk ?_|refine q7 ?_|refine q8 ?_|refine q9 ?_)
  refine w_loop (ι := Nat) (fun i => [(0, .int .u32 ((n / 256 ^ i : Nat) : Int)), (2, .pointer (some ⟨b1, 0, none⟩)), (3, .pointer (some ⟨b2, 0, none⟩)), (4, .int .i64 (3 - (i : Int)))])
    (fun i w => ∃ h vs, h.w = w ∧ Step [] [2, 3] g1 h ∧ i ≤ 4 ∧ Cell h 2 b1 50 (El.ad.enc ⟨0, fun _ => 0⟩) ∧ Cell h 3 b2 50 vs ∧
      vs = El.ad.enc ⟨4, put4 (if 4 ≤ i then UInt8.ofNat (n / 16777216) else 0) (if 3 ≤ i then UInt8.ofNat (n / 65536) else 0) (if 2 ≤ i then UInt8.ofNat (n / 256) else 0) (if 1 ≤ i then UInt8.ofNat n else 0)⟩)
    (fun i => 4 - i) 0 ⟨h3, _, rfl, hst, by omega, hc1, hc3, rfl⟩ ⟨by rw [Nat.pow_zero, Nat.div_one]; rfl, rfl, rfl, rfl, trivial⟩ ?_
  clear hs1 hs2 hs3 hst hc1 hc2 hc3
  rintro i _ ⟨h, vs, rfl, hst, hi, hc1, hc2, rfl⟩
  repeat (first|refine q1 ?_|refine q2 ?_|refine q3 ?_|refine q4 ?_|refine q5 ?_|refine q6 ?_|refine w_seq ?_|refine w_region ?_|refine w_ops_nil ?_|refine w_skip ?_|refine w_block ?_|refine w_blk ?_|refine q7 ?_|refine q8 ?_|refine q9 ?_)
  refine w_condP rfl (fun hlt => ?_) (fun hlt => ?_)
  · have hlt : i < 4 := by omega
    have hle : n / 256 ^ i ≤ n := Nat.div_le_self _ _
    obtain ⟨q, hq⟩ : ∃ q, q = n / 256 ^ i := ⟨_, rfl⟩
    rw [← hq] at hle ⊢
    repeat (first|refine q1 ?_|refine q2 ?_|refine q3 ?_|refine q4 ?_|refine q5 ?_|refine q6 ?_|refine w_seq ?_|refine w_region ?_|refine w_ops_nil ?_|refine w_skip ?_|refine w_block ?_|refine w_blk ?_|refine q7 ?_|refine q8 ?_|refine q9 ?_)
    refine w_rem rfl rfl (by omega) rfl ?_
    refine w_convB rfl (by omega) rfl ?_
    refine w_known 13 (bv (UInt8.ofNat q)) rfl (congrArg bv (by apply UInt8.toNat_inj.1; rw [UInt8.toNat_ofNat', UInt8.toNat_ofNat']; omega)) ?_
    refine w_fldA (by decide) rfl rfl ?_
    refine w_idxA rfl rfl (by omega) (by omega) rfl ?_
    refine w_store1 hc2 rfl rfl rfl (by show 0 + 1 + (3 - (i : Int)).toNat * 1 < 17; omega) fun h4 hb4 hs4 hc4 => ?_
    repeat (first|refine q1 ?_|refine q2 ?_|refine q3 ?_|refine q4 ?_|refine q5 ?_|refine q6 ?_|refine w_seq ?_|refine w_region ?_|refine w_ops_nil ?_|refine w_skip ?_|refine w_block ?_|refine w_blk ?_|refine q7 ?_|refine q8 ?_|refine q9 ?_)
    refine w_quoW rfl rfl (by decide) rfl ?_
    refine w_known 17 (.int .u32 ((q / 256 : Nat) : Int)) rfl (u32_quo _ (by omega)) ?_
    repeat (first|refine q1 ?_|refine q2 ?_|refine q3 ?_|refine q4 ?_|refine q5 ?_|refine q6 ?_|refine w_seq ?_|refine w_region ?_|refine w_ops_nil ?_|refine w_skip ?_|refine w_block ?_|refine w_blk ?_|refine q7 ?_|refine q8 ?_|refine q9 ?_)
    refine w_again (i + 1) (by omega) ⟨h4, _, rfl, hst.go hs4, by omega, hc1.go hs4, hc4, ?_⟩ ⟨?_, rfl, rfl, ?_, trivial⟩
    · subst hq
      match i, hlt with
      | 0, _ => simp only [Nat.pow_zero, Nat.div_one]; rfl
      | 1, _ => rfl
      | 2, _ => rfl
      | 3, _ => rfl
      | k + 4, hlt => omega
    · rw [hq, Nat.div_div_eq_div_mul, ← Nat.pow_succ]; rfl
    · exact congrArg some (congrArg (Value.int .i64) (by omega))
  · have : i = 4 := by omega
    subst this
    repeat (first|refine q1 ?_|refine q2 ?_|refine q3 ?_|refine q4 ?_|refine q5 ?_|refine q6 ?_|refine w_seq ?_|refine w_region ?_|refine w_ops_nil ?_|refine w_skip ?_|refine w_block ?_|refine w_blk ?_|refine q7 ?_|refine q8 ?_|refine q9 ?_)
    refine w_loadS (us := El.ad.enc (of4 n)) hc2 rfl rfl rfl rfl rfl ?_
    refine w_store (us := El.ad.enc (of4 n)) (vs' := El.ad.enc (of4 n)) hc1 rfl rfl rfl rfl (El.ad.flat _) (Nat.le_refl 17) rfl fun h5 hb5 hs5 hc5 => ?_
    repeat (first|refine q1 ?_|refine q2 ?_|refine q3 ?_|refine q4 ?_|refine q5 ?_|refine q6 ?_|refine w_seq ?_|refine w_region ?_|refine w_ops_nil ?_|refine w_skip ?_|refine w_block ?_|refine w_blk ?_|refine q7 ?_|refine q8 ?_|refine q9 ?_)
    exact w_retG (resCs hc5 rfl rfl rfl rfl) (hst.go hs5) fun h' _ => rfl

def goodA (a : Ad) : Ad := if a.fam % 2 = 0 then ⟨4, put4 (a.b 0) (a.b 1) (a.b 2) (a.b 3)⟩ else ⟨6, a.b⟩
theorem tmod2 (a : Int) : (a.tmod 2 = 0) ↔ a % 2 = 0 := by
  constructor
  · intro h; exact Int.emod_eq_zero_of_dvd (Int.dvd_of_tmod_eq_zero h)
  · intro h; exact Int.tmod_eq_zero_of_dvd (Int.dvd_of_emod_eq_zero h)
theorem ref04_Good (a : Ad) (g : G) : Fn Try.prog 101 [El.ad.val a] g [] fun u _ => u = El.ad.val (goodA a) := by
  refine enterG [] [2, 3] Try.func101 rfl Try.ntmps101 rfl (by simp) fun g1 hv ho => ?_
  repeat (first|refine q1 ?_|refine q2 ?_|refine q3 ?_|refine q4 ?_|refine q5 ?_|refine q6 ?_|refine w_seq ?_|refine w_region ?_|refine w_ops_nil ?_|refine w_skip ?_|refine w_block ?_|refine w_blk ?_|refine q7 ?_|refine q8 ?_|refine q9 ?_)
  refine w_box 2 (vs := El.ad.enc a) rfl rfl rfl fun h1 b1 hs1 hc1 => ?_
  refine w_alloc 3 (vs := El.ad.enc ⟨0, fun _ => 0⟩) rfl rfl fun h2 b2 hs2 hc2 => ?_
  replace hc1 := hc1.go hs2
  have hst := (hs1.go hs2 |>.mono (by simp) (by simp) : Step [] [2, 3] g1 h2)
  repeat (first|refine q1 ?_|refine q2 ?_|refine q3 ?_|refine q4 ?_|refine q5 ?_|refine q6 ?_|refine w_seq ?_|refine w_region ?_|refine w_ops_nil ?_|refine w_skip ?_|refine w_block ?_|refine w_blk ?_|refine q7 ?_|refine q8 ?_|refine q9 ?_)
  refine w_fldA (by decide) rfl rfl ?_
  refine w_load1 (v := .int .i64 a.fam) hc1 rfl rfl rfl rfl ?_
  refine w_remT rfl rfl (by decide) rfl ?_
  repeat (first|refine q1 ?_|refine q2 ?_|refine q3 ?_|refine q4 ?_|refine q5 ?_|refine q6 ?_|refine w_seq ?_|refine w_region ?_|refine w_ops_nil ?_|refine w_skip ?_|refine w_block ?_|refine w_blk ?_|refine q7 ?_|refine q8 ?_|refine q9 ?_)
  refine w_condP rfl (fun h0 => ?_) (fun h0 => ?_)
  · repeat (first|refine q1 ?_|refine q2 ?_|refine q3 ?_|refine q4 ?_|refine q5 ?_|refine q6 ?_|refine w_seq ?_|refine w_region ?_|refine w_ops_nil ?_|refine w_skip ?_|refine w_block ?_|refine w_blk ?_|refine q7 ?_|refine q8 ?_|refine q9 ?_)
    refine w_loadS (us := El.ad.enc a) hc1 rfl rfl rfl rfl rfl ?_
    refine w_callF rfl (ref04_Four a h2) rfl fun u h3 hs3 hu => ?_
    subst hu
    refine w_callF rfl (ref04_Of4 (four4 a) h3 (n4_lt _ _ _ _)) rfl fun u h4 hs4 hu => ?_
    subst hu
    rw [show of4 (four4 a) = _ from of4_n4 _ _ _ _]
    refine w_store (us := El.ad.enc ⟨4, put4 (a.b 0) (a.b 1) (a.b 2) (a.b 3)⟩) (vs' := El.ad.enc ⟨4, put4 (a.b 0) (a.b 1) (a.b 2) (a.b 3)⟩) ((hc2.go hs3).go hs4) rfl rfl rfl rfl (El.ad.flat _) (Nat.le_refl 17) rfl fun h5 hb5 hs5 hc5 => ?_
    repeat (first|refine q1 ?_|refine q2 ?_|refine q3 ?_|refine q4 ?_|refine q5 ?_|refine q6 ?_|refine w_seq ?_|refine w_region ?_|refine w_ops_nil ?_|refine w_skip ?_|refine w_block ?_|refine w_blk ?_|refine q7 ?_|refine q8 ?_|refine q9 ?_)
    refine w_retG (resCs hc5 rfl rfl rfl rfl) (((hst.go hs3).go hs4).go hs5) fun h' _ => ?_
    rw [goodA, if_pos ((tmod2 _).1 h0)]; rfl
  · repeat (first|refine q1 ?_|refine q2 ?_|refine q3 ?_|refine q4 ?_|refine q5 ?_|refine q6 ?_|refine w_seq ?_|refine w_region ?_|refine w_ops_nil ?_|refine w_skip ?_|refine w_block ?_|refine w_blk ?_|refine q7 ?_|refine q8 ?_|refine q9 ?_)
    refine w_fldA (by decide) rfl rfl ?_
    refine w_store1 hc1 rfl rfl rfl (show 0 < 17 by omega) fun h3 hb3 hs3 hc3 => ?_
    repeat (first|refine q1 ?_|refine q2 ?_|refine q3 ?_|refine q4 ?_|refine q5 ?_|refine q6 ?_|refine w_seq ?_|refine w_region ?_|refine w_ops_nil ?_|refine w_skip ?_|refine w_block ?_|refine w_blk ?_|refine q7 ?_|refine q8 ?_|refine q9 ?_)
    refine w_loadS (us := El.ad.enc ⟨6, a.b⟩) hc3 rfl rfl rfl rfl rfl ?_
    refine w_store (us := El.ad.enc ⟨6, a.b⟩) (vs' := El.ad.enc ⟨6, a.b⟩) (hc2.go hs3) rfl rfl rfl rfl (El.ad.flat _) (Nat.le_refl 17) rfl fun h5 hb5 hs5 hc5 => ?_
    repeat (first|refine q1 ?_|refine q2 ?_|refine q3 ?_|refine q4 ?_|refine q5 ?_|refine q6 ?_|refine w_seq ?_|refine w_region ?_|refine w_ops_nil ?_|refine w_skip ?_|refine w_block ?_|refine w_blk ?_|refine q7 ?_|refine q8 ?_|refine q9 ?_)
    refine w_retG (resCs hc5 rfl rfl rfl rfl) ((hst.go hs3).go hs5) fun h' _ => ?_
    rw [goodA, if_neg (fun h => h0 ((tmod2 _).2 h))]; rfl
end Go.Proofs.Ytnfokdhgajanpaa
