/- Messages: what is written: the program's helpers. No statement of the seat is proved here. -/
import Derived.Test.YtnfokdhgajanpaaWir5
set_option linter.unusedVariables false
set_option linter.unusedSimpArgs false
namespace Go.Proofs.Ytnfokdhgajanpaa
open Go
attribute [local irreducible] Wp

theorem byte_mod (a b : Nat) (h : a % 256 = b % 256) : UInt8.ofNat a = UInt8.ofNat b := by
  apply UInt8.toNat_inj.1
  simpa using h
theorem twoB_mod (n : Int) (h : 0 ≤ n) : twoB (n % 65536) = twoB n := by
  unfold twoB
  rw [byte_mod (n % 65536 / 256).toNat (n / 256).toNat (by omega), show n % 65536 % 256 = n % 256 by omega]
theorem shr8 (n : Int) : n / 2 ^ min (8 : Int).toNat IntKind.i64.bits = n / 256 := rfl
theorem two_bytes (n : Int) (h : 0 ≤ n) : [UInt8.ofNat (n / 2 ^ min (8 : Int).toNat IntKind.i64.bits).toNat, UInt8.ofNat n.toNat] = twoB n := by
  rw [shr8]; unfold twoB
  rw [byte_mod n.toNat (n % 256).toNat (by omega)]

theorem wire_short (b : Nat) (B : List UInt8) (m : WM) (l : List Int) (g : G) {c : Nat} {v : Value} (hw : Wr g b B m) (hr : Rd g c El.int v l) (hl : ∀ n ∈ l, 0 ≤ n) (hB : B.length + 2 * l.length ≤ 100000000) (hcc : c < 2) :
    Fn Try.prog 50 [.pointer (some ⟨b, 0, none⟩), v] g [21, 22, 23] fun _ h => Wr h b (B ++ l.flatMap twoB) m := by
  refine enterG [21, 22, 23] [] Try.func50 rfl Try.ntmps50 rfl (by simp) fun g1 hv ho => ?_
  replace hw := hw.view hv
  replace hr := (hr.x hcc).seen hv ho
  have hlm := hr.isSl.le
  repeat (first|refine q1 ?_|refine q2 ?_|refine q3 ?_|refine q4 ?_|refine q5 ?_|refine q6 ?_|refine w_seq ?_|refine w_region ?_|refine w_ops_nil ?_|refine w_skip ?_|refine w_block ?_|refine w_blk ?_|refine q7 ?_|refine q8 ?_|refine q9 ?_)
  refine w_lenSl hr.isSl rfl rfl ?_
  repeat (first|refine q1 ?_|refine q2 ?_|refine q3 ?_|refine q4 ?_|refine q5 ?_|refine q6 ?_|refine w_seq ?_|refine w_region ?_|refine w_ops_nil ?_|refine w_skip ?_|refine w_block ?_|refine w_blk ?_|refine q7 ?_|refine q8 ?_|refine q9 ?_)
  refine w_loop (ι := Nat) (fun i => [(0, .pointer (some ⟨b, 0, none⟩)), (6, v), (7, .int .i64 (l.length : Int)), (8, .int .i64 (i : Int))])
    (fun i w => ∃ h : G, h.w = w ∧ Step [] [21, 22, 23] g1 h ∧ Wr h b (B ++ (l.take i).flatMap twoB) m ∧ i ≤ l.length) (fun i => l.length - i)
    0 ⟨g1, rfl, Step.refl _ _ _, by simpa using hw, by omega⟩ ⟨rfl, rfl, rfl, rfl, trivial⟩ ?_
  clear hw
  rintro i _ ⟨h, rfl, hst, hw, hi⟩
  obtain ⟨c, hc, hr1⟩ := hr.go hst
  repeat (first|refine q1 ?_|refine q2 ?_|refine q3 ?_|refine q4 ?_|refine q5 ?_|refine q6 ?_|refine w_seq ?_|refine w_region ?_|refine w_ops_nil ?_|refine w_skip ?_|refine w_block ?_|refine w_blk ?_|refine q7 ?_|refine q8 ?_|refine q9 ?_)
  refine w_condP rfl (fun hc => ?_) (fun hc => ?_)
  · have hlt : i < l.length := by omega
    have h0 := hl l[i] (List.getElem_mem hlt)
    have htake : l.take (i + 1) = l.take i ++ [l[i]] := List.take_succ_eq_append_getElem hlt
    have hfl : ∀ k : List Int, (k.flatMap twoB).length = 2 * k.length := by
      intro k; induction k with
      | nil => rfl
      | cons a k ih => simp only [List.flatMap_cons, List.length_append, List.length_cons, ih, twoB_len]; omega
    have hlen := hfl (l.take i)
    rw [List.length_take] at hlen
    generalize hx : l[i] = x at h0 htake
    repeat (first|refine q1 ?_|refine q2 ?_|refine q3 ?_|refine q4 ?_|refine q5 ?_|refine q6 ?_|refine w_seq ?_|refine w_region ?_|refine w_ops_nil ?_|refine w_skip ?_|refine w_block ?_|refine w_blk ?_|refine q7 ?_|refine q8 ?_|refine q9 ?_)
    refine w_idx hr1 rfl rfl (by omega) (by omega) rfl ?_
    refine w_loadE (i := i) (y := x) hr1 rfl (by simp [hlt, hx]) rfl rfl ?_
    repeat (first|refine q1 ?_|refine q2 ?_|refine q3 ?_|refine q4 ?_|refine q5 ?_|refine q6 ?_|refine w_seq ?_|refine w_region ?_|refine w_ops_nil ?_|refine w_skip ?_|refine w_block ?_|refine w_blk ?_|refine q7 ?_|refine q8 ?_|refine q9 ?_)
    refine w_shr rfl rfl (by decide) rfl ?_
    refine w_convB rfl (by rw [shr8]; omega) rfl ?_
    repeat (first|refine q1 ?_|refine q2 ?_|refine q3 ?_|refine q4 ?_|refine q5 ?_|refine q6 ?_|refine w_seq ?_|refine w_region ?_|refine w_ops_nil ?_|refine w_skip ?_|refine w_block ?_|refine w_blk ?_|refine q7 ?_|refine q8 ?_|refine q9 ?_)
    refine w_convB rfl h0 rfl ?_
    refine w_buildSlR El.u8 [UInt8.ofNat (x / 2 ^ min (8 : Int).toNat IntKind.i64.bits).toNat, UInt8.ofNat x.toNat] rfl rfl rfl rfl fun h2 v2 hs2 hr2 => ?_
    rw [two_bytes x h0] at hr2
    refine w_callF rfl (Writer_Raw b (B ++ (l.take i).flatMap twoB) m (twoB x) h2 (hw.go hs2) hr2 (by rw [List.length_append, twoB_len]; omega)) rfl fun u h3 hs3 hw3 => ?_
    repeat (first|refine q1 ?_|refine q2 ?_|refine q3 ?_|refine q4 ?_|refine q5 ?_|refine q6 ?_|refine w_seq ?_|refine w_region ?_|refine w_ops_nil ?_|refine w_skip ?_|refine w_block ?_|refine w_blk ?_|refine q7 ?_|refine q8 ?_|refine q9 ?_)
    refine w_again (i + 1) (by omega) ⟨h3, rfl, (hst.go hs2).go hs3, ?_, by omega⟩ ⟨rfl, rfl, rfl, rfl, trivial⟩
    rw [htake, List.flatMap_append, ← List.append_assoc]
    simpa using hw3
  · have : i = l.length := by omega
    subst this
    rw [List.take_length] at hw
    repeat (first|refine q1 ?_|refine q2 ?_|refine q3 ?_|refine q4 ?_|refine q5 ?_|refine q6 ?_|refine w_seq ?_|refine w_region ?_|refine w_ops_nil ?_|refine w_skip ?_|refine w_block ?_|refine w_blk ?_|refine q7 ?_|refine q8 ?_|refine q9 ?_)
    refine w_endG (res0 rfl) hst fun h' hv' => hw.view hv'

theorem wire_data (b : Nat) (B : List UInt8) (m : WM) (r : Rc) (g : G) (hw : Wr g b B m) (hB : B.length ≤ 1000000) (hd : r.data.length ≤ 65535) :
    Fn Try.prog 52 [.pointer (some ⟨b, 0, none⟩), El.rc.val r] g [21, 22, 23] fun _ h => Wr h b (B ++ dataB r) m := by
  refine enterG [21, 22, 23] [24] Try.func52 rfl Try.ntmps52 rfl (by simp) fun g1 hv ho => ?_
  replace hw := hw.view hv
  repeat (first|refine q1 ?_|refine q2 ?_|refine q3 ?_|refine q4 ?_|refine q5 ?_|refine q6 ?_|refine w_seq ?_|refine w_region ?_|refine w_ops_nil ?_|refine w_skip ?_|refine w_block ?_|refine w_blk ?_|refine q7 ?_|refine q8 ?_|refine q9 ?_)
  refine w_box 24 (vs := El.rc.enc r) rfl rfl rfl fun h1 b1 hs1 hc1 => ?_
  replace hw := hw.go hs1
  have hst : Step [] [21, 22, 23, 24] g1 h1 := hs1.nil
  repeat (first|refine q1 ?_|refine q2 ?_|refine q3 ?_|refine q4 ?_|refine q5 ?_|refine q6 ?_|refine w_seq ?_|refine w_region ?_|refine w_ops_nil ?_|refine w_skip ?_|refine w_block ?_|refine w_blk ?_|refine q7 ?_|refine q8 ?_|refine q9 ?_)
  refine w_fldA (by decide) rfl rfl ?_
  refine w_load1 (v := .int .i64 r.typ) hc1 rfl rfl rfl rfl ?_
  repeat (first|refine q1 ?_|refine q2 ?_|refine q3 ?_|refine q4 ?_|refine q5 ?_|refine q6 ?_|refine w_seq ?_|refine w_region ?_|refine w_ops_nil ?_|refine w_skip ?_|refine w_blk ?_|refine q7 ?_|refine q8 ?_|refine q9 ?_)
  refine w_cut (ι := Unit) (fun _ => []) (fun _ w => ∃ h, h.w = w ∧ Step [] [21, 22, 23, 24] g1 h ∧ Wr h b (B ++ dataB r) m) ?_ ?_
  · repeat (first|refine q1 ?_|refine q2 ?_|refine q3 ?_|refine q4 ?_|refine q5 ?_|refine q6 ?_|refine w_seq ?_|refine w_region ?_|refine w_ops_nil ?_|refine w_skip ?_|refine w_block ?_|refine w_blk ?_|refine q7 ?_|refine q8 ?_|refine q9 ?_)
    refine w_condP rfl (fun ht => ?_) (fun ht => ?_)
    · repeat (first|refine q1 ?_|refine q2 ?_|refine q3 ?_|refine q4 ?_|refine q5 ?_|refine q6 ?_|refine w_seq ?_|refine w_region ?_|refine w_ops_nil ?_|refine w_skip ?_|refine w_block ?_|refine w_blk ?_|refine q7 ?_|refine q8 ?_|refine q9 ?_)
      refine w_buildSlR El.int [4] rfl rfl rfl rfl fun h2 v2 hs2 hr2 => ?_
      replace hw := hw.go hs2; replace hc1 := hc1.go hs2
      refine w_callF rfl (wire_short b B m [4] h2 hw hr2 (by simp) (by simp; omega) (by omega)) rfl fun u h3 hs3 hw3 => ?_
      replace hc1 := hc1.go hs3
      repeat (first|refine q1 ?_|refine q2 ?_|refine q3 ?_|refine q4 ?_|refine q5 ?_|refine q6 ?_|refine w_seq ?_|refine w_region ?_|refine w_ops_nil ?_|refine w_skip ?_|refine w_block ?_|refine w_blk ?_|refine q7 ?_|refine q8 ?_|refine q9 ?_)
      refine w_fldA (by decide) rfl rfl ?_
      refine w_fldA (by decide) rfl rfl ?_
      refine w_slA (h := 4) rfl ⟨4, rfl, rfl⟩ (by decide) rfl ?_
      refine w_callF rfl (Writer_Raw b (B ++ [4].flatMap twoB) m (first4 r.addr) h3 hw3 (hc1.rdB (o := 5) (h := 4) (cap := 16) (l := first4 r.addr) rfl rfl (by decide) (by decide)) (by simp only [List.length_append, first4, List.flatMap_cons, List.flatMap_nil, twoB_len, List.length_nil, List.length_cons]; omega)) rfl fun u h4 hs4 hw4 => ?_
      repeat (first|refine q1 ?_|refine q2 ?_|refine q3 ?_|refine q4 ?_|refine q5 ?_|refine q6 ?_|refine w_seq ?_|refine w_region ?_|refine w_ops_nil ?_|refine w_skip ?_|refine w_block ?_|refine w_blk ?_|refine q7 ?_|refine q8 ?_|refine q9 ?_)
      refine w_meet () ⟨h4, rfl, ((hst.go hs2).go hs3).go hs4, ?_⟩ trivial
      unfold dataB; rw [if_pos ht]
      simpa using hw4
    · repeat (first|refine q1 ?_|refine q2 ?_|refine q3 ?_|refine q4 ?_|refine q5 ?_|refine q6 ?_|refine w_seq ?_|refine w_region ?_|refine w_ops_nil ?_|refine w_skip ?_|refine w_block ?_|refine w_blk ?_|refine q7 ?_|refine q8 ?_|refine q9 ?_)
      refine w_condP rfl (fun ht2 => ?_) (fun ht2 => ?_)
      · repeat (first|refine q1 ?_|refine q2 ?_|refine q3 ?_|refine q4 ?_|refine q5 ?_|refine q6 ?_|refine w_seq ?_|refine w_region ?_|refine w_ops_nil ?_|refine w_skip ?_|refine w_block ?_|refine w_blk ?_|refine q7 ?_|refine q8 ?_|refine q9 ?_)
        refine w_buildSlR El.int [16] rfl rfl rfl rfl fun h2 v2 hs2 hr2 => ?_
        replace hw := hw.go hs2; replace hc1 := hc1.go hs2
        refine w_callF rfl (wire_short b B m [16] h2 hw hr2 (by simp) (by simp; omega) (by omega)) rfl fun u h3 hs3 hw3 => ?_
        replace hc1 := hc1.go hs3
        repeat (first|refine q1 ?_|refine q2 ?_|refine q3 ?_|refine q4 ?_|refine q5 ?_|refine q6 ?_|refine w_seq ?_|refine w_region ?_|refine w_ops_nil ?_|refine w_skip ?_|refine w_block ?_|refine w_blk ?_|refine q7 ?_|refine q8 ?_|refine q9 ?_)
        refine w_fldA (by decide) rfl rfl ?_
        refine w_fldA (by decide) rfl rfl ?_
        refine w_slA (h := 16) rfl rfl (by decide) rfl ?_
        refine w_callF rfl (Writer_Raw b (B ++ [16].flatMap twoB) m (bytes16 r.addr.b) h3 hw3 (hc1.rdB (o := 5) (h := 16) (cap := 16) (l := bytes16 r.addr.b) rfl rfl (by decide) (by decide)) (by simp only [List.length_append, bytes16, List.flatMap_cons, List.flatMap_nil, twoB_len, List.length_nil, List.length_cons]; omega)) rfl fun u h4 hs4 hw4 => ?_
        repeat (first|refine q1 ?_|refine q2 ?_|refine q3 ?_|refine q4 ?_|refine q5 ?_|refine q6 ?_|refine w_seq ?_|refine w_region ?_|refine w_ops_nil ?_|refine w_skip ?_|refine w_block ?_|refine w_blk ?_|refine q7 ?_|refine q8 ?_|refine q9 ?_)
        refine w_meet () ⟨h4, rfl, ((hst.go hs2).go hs3).go hs4, ?_⟩ trivial
        unfold dataB; rw [if_neg ht, if_pos ht2]
        simpa using hw4
      · repeat (first|refine q1 ?_|refine q2 ?_|refine q3 ?_|refine q4 ?_|refine q5 ?_|refine q6 ?_|refine w_seq ?_|refine w_region ?_|refine w_ops_nil ?_|refine w_skip ?_|refine w_block ?_|refine w_blk ?_|refine q7 ?_|refine q8 ?_|refine q9 ?_)
        refine w_fldA (by decide) rfl rfl ?_
        refine w_load1 (v := str r.data) hc1 rfl rfl rfl rfl ?_
        repeat (first|refine q1 ?_|refine q2 ?_|refine q3 ?_|refine q4 ?_|refine q5 ?_|refine q6 ?_|refine w_seq ?_|refine w_region ?_|refine w_ops_nil ?_|refine w_skip ?_|refine w_block ?_|refine w_blk ?_|refine q7 ?_|refine q8 ?_|refine q9 ?_)
        refine w_buildSlR El.int [(r.data.length : Int)] rfl rfl rfl rfl fun h2 v2 hs2 hr2 => ?_
        replace hw := hw.go hs2; replace hc1 := hc1.go hs2
        refine w_callF rfl (wire_short b B m [(r.data.length : Int)] h2 hw hr2 (by simp) (by simp; omega) (by omega)) rfl fun u h3 hs3 hw3 => ?_
        replace hc1 := hc1.go hs3
        repeat (first|refine q1 ?_|refine q2 ?_|refine q3 ?_|refine q4 ?_|refine q5 ?_|refine q6 ?_|refine w_seq ?_|refine w_region ?_|refine w_ops_nil ?_|refine w_skip ?_|refine w_block ?_|refine w_blk ?_|refine q7 ?_|refine q8 ?_|refine q9 ?_)
        refine w_fldA (by decide) rfl rfl ?_
        refine w_load1 (v := str r.data) hc1 rfl rfl rfl rfl ?_
        refine w_s2b (l := r.data) rfl (by omega) rfl fun h5 v5 hs5 hr5 => ?_
        refine w_callF rfl (Writer_Raw b (B ++ [(r.data.length : Int)].flatMap twoB) m r.data h5 (hw3.go hs5) hr5 (by simp only [List.length_append, List.flatMap_cons, List.flatMap_nil, twoB_len, List.length_nil]; omega)) rfl fun u h4 hs4 hw4 => ?_
        repeat (first|refine q1 ?_|refine q2 ?_|refine q3 ?_|refine q4 ?_|refine q5 ?_|refine q6 ?_|refine w_seq ?_|refine w_region ?_|refine w_ops_nil ?_|refine w_skip ?_|refine w_block ?_|refine w_blk ?_|refine q7 ?_|refine q8 ?_|refine q9 ?_)
        refine w_meet () ⟨h4, rfl, (((hst.go hs2).go hs3).go hs5).go hs4, ?_⟩ trivial
        unfold dataB; rw [if_neg ht, if_neg ht2]
        simpa using hw4
  rintro _ _ ⟨h, rfl, hst, hw⟩
  repeat (first|refine q1 ?_|refine q2 ?_|refine q3 ?_|refine q4 ?_|refine q5 ?_|refine q6 ?_|refine w_seq ?_|refine w_region ?_|refine w_ops_nil ?_|refine w_skip ?_|refine w_block ?_|refine w_blk ?_|refine q7 ?_|refine q8 ?_|refine q9 ?_)
  refine w_endG (res0 rfl) hst fun h' hv' => hw.view hv'

/-- A copy that may be written. -/
theorem Clone_u8O (x : List UInt8) (g : G) {c : Nat} {v : Value} (hr : Rd g c El.u8 v x) (hx : x.length ≤ 100000000) (hcc : c ≠ 25 := by simp) :
    Fn Try.prog 44 [v] g [25] fun u h => Own h 25 El.u8 5 u x := by
  refine enterG [25] [] Try.func44 rfl Try.ntmps44 rfl (by simp) fun g1 hv ho => ?_
  obtain ⟨c', hc', hr1⟩ := hr.seen hv ho (by simpa using hcc)
  obtain ⟨A, cap, rfl, h1, h2⟩ := hr1.len
  repeat (first|refine q1 ?_|refine q2 ?_|refine q3 ?_|refine q4 ?_|refine q5 ?_|refine q6 ?_|refine w_seq ?_|refine w_region ?_|refine w_ops_nil ?_|refine w_skip ?_|refine w_block ?_|refine w_blk ?_|refine q7 ?_|refine q8 ?_|refine q9 ?_)
  refine w_slEqNil rfl rfl rfl ?_
  repeat (first|refine q1 ?_|refine q2 ?_|refine q3 ?_|refine q4 ?_|refine q5 ?_|refine q6 ?_|refine w_seq ?_|refine w_region ?_|refine w_ops_nil ?_|refine w_skip ?_|refine w_block ?_|refine w_blk ?_|refine q7 ?_|refine q8 ?_|refine q9 ?_)
  refine w_cond rfl (fun hA => ?_) (fun hA => ?_)
  · repeat (first|refine q1 ?_|refine q2 ?_|refine q3 ?_|refine q4 ?_|refine q5 ?_|refine q6 ?_|refine w_seq ?_|refine w_region ?_|refine w_ops_nil ?_|refine w_skip ?_|refine w_block ?_|refine w_blk ?_|refine q7 ?_|refine q8 ?_|refine q9 ?_)
    refine w_retG (res1 rfl rfl) (Step.refl _ _ _) fun h' _ => ?_
    cases A with
    | some a => cases hA
    | none =>
      obtain ⟨A', cap', he, h3, h4, h5⟩ := hr1
      rcases h5 with h5 | ⟨a, ha, _⟩
      · subst h5; exact Own.nil _ _ _ _
      · subst ha; injection he with he1; cases he1
  · repeat (first|refine q1 ?_|refine q2 ?_|refine q3 ?_|refine q4 ?_|refine q5 ?_|refine q6 ?_|refine w_seq ?_|refine w_region ?_|refine w_ops_nil ?_|refine w_skip ?_|refine w_block ?_|refine w_blk ?_|refine q7 ?_|refine q8 ?_|refine q9 ?_)
    refine w_buildSl 25 El.u8 [] rfl rfl rfl rfl fun h1 v1 hs1 ho1 => ?_
    replace hr1 := hr1.go hs1
    repeat (first|refine q1 ?_|refine q2 ?_|refine q3 ?_|refine q4 ?_|refine q5 ?_|refine q6 ?_|refine w_seq ?_|refine w_region ?_|refine w_ops_nil ?_|refine w_skip ?_|refine w_block ?_|refine w_blk ?_|refine q7 ?_|refine q8 ?_|refine q9 ?_)
    refine w_append ho1 hr1 rfl rfl rfl (by decide) (by simp; omega) rfl fun h2 v2 hs2 ho2 => ?_
    repeat (first|refine q1 ?_|refine q2 ?_|refine q3 ?_|refine q4 ?_|refine q5 ?_|refine q6 ?_|refine w_seq ?_|refine w_region ?_|refine w_ops_nil ?_|refine w_skip ?_|refine w_block ?_|refine w_blk ?_|refine q7 ?_|refine q8 ?_|refine q9 ?_)
    refine w_retG (res1 rfl rfl) ((hs1.mono (by simp) (by simp)).go hs2) fun h' hv' => ?_
    exact ho2.view hv' (.inr (by simp))
theorem Writer_BytesO (b : Nat) (B : List UInt8) (m : WM) (g : G) (hw : Wr g b B m) (hB : B.length ≤ 100000000) :
    Fn Try.prog 16 [.pointer (some ⟨b, 0, none⟩)] g [25] fun u h => Own h 25 El.u8 5 u B := by
  obtain ⟨r, ⟨vB, hc, ho', hm⟩, _⟩ := hw
  refine enterG [25] [] Try.func16 rfl Try.ntmps16 rfl (by simp) fun g1 hv ho => ?_
  obtain ⟨c, hcl, hc⟩ := hc.seen hv ho (by simp)
  obtain ⟨c2, hcl2, hr⟩ := ho'.rd.seen hv ho (by simp)
  repeat (first|refine q1 ?_|refine q2 ?_|refine q3 ?_|refine q4 ?_|refine q5 ?_|refine q6 ?_|refine w_seq ?_|refine w_region ?_|refine w_ops_nil ?_|refine w_skip ?_|refine w_block ?_|refine w_blk ?_|refine q7 ?_|refine q8 ?_|refine q9 ?_)
  refine w_fldA (by decide) rfl rfl ?_
  refine w_load1 hc rfl rfl rfl rfl ?_
  refine w_callF rfl (Clone_u8O B g1 hr hB (by omega)) rfl fun u h hs hu => ?_
  repeat (first|refine q1 ?_|refine q2 ?_|refine q3 ?_|refine q4 ?_|refine q5 ?_|refine q6 ?_|refine w_seq ?_|refine w_region ?_|refine w_ops_nil ?_|refine w_skip ?_|refine w_block ?_|refine w_blk ?_|refine q7 ?_|refine q8 ?_|refine q9 ?_)
  exact w_retG (res1 rfl rfl) hs fun h' hv' => hu.view hv' (.inr (by simp))
end Go.Proofs.Ytnfokdhgajanpaa
