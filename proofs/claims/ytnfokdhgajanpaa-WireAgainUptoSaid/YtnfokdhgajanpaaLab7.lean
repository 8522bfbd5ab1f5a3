/- Names of hosts: the program's Read, Bytes; the reference's Good. No statement of the seat is proved here. -/
import Derived.Test.YtnfokdhgajanpaaLab6
import Derived.Test.YtnfokdhgajanpaaJoin
set_option linter.unusedVariables false
namespace Go.Proofs.Ytnfokdhgajanpaa
open Go
attribute [local irreducible] Wp

/-- What Read does from a place on. -/
def readGo (b : List UInt8) (i began : Nat) (l : List (List UInt8)) (size next : Nat) : List UInt8 × Nat × Int :=
  if h : i < b.length then
    let n := b[i].toNat
    if n = 0 then (joinB [46] l, if next = 0 then i + 1 else next, 0)
    else if 192 ≤ n then
      if h2 : i + 1 < b.length then
        if h3 : began ≤ (n - 192) * 256 + b[i + 1].toNat then ([], 0, 2)
        else readGo b ((n - 192) * 256 + b[i + 1].toNat) ((n - 192) * 256 + b[i + 1].toNat) l size (if next = 0 then i + 2 else next)
      else ([], 0, 2)
    else if 63 < n ∨ b.length < i + 1 + n then ([], 0, 2)
    else if (46 : UInt8) ∈ (b.take (i + 1 + n)).drop (i + 1) then ([], 0, 2)
    else if 255 < size + n + 1 then ([], 0, 3)
    else readGo b (i + 1 + n) began (l ++ [(b.take (i + 1 + n)).drop (i + 1)]) (size + n + 1) next
  else ([], 0, 2)
termination_by (began, b.length - i)
decreasing_by
  · simp_wf; left; omega
  · simp_wf; right; omega
def resR (x : List UInt8 × Nat × Int) : Value := .tuple #[str x.1, .int .i64 (x.2.1 : Int), .int .i64 x.2.2]

theorem or_place (k c : Nat) (hk : k < 64) (hc : c < 256) : bitsOf .or .i64 ((k * 256 : Nat) : Int) (c : Int) = ((k * 256 + c : Nat) : Int) := by
  have e := Nat.shiftLeft_add_eq_or_of_lt (i := 8) (show c < 2 ^ 8 from hc) k
  rw [Nat.shiftLeft_eq] at e
  show IntKind.i64.wrap (((BitVec.ofInt 64 ((k * 256 : Nat) : Int) ||| BitVec.ofInt 64 (c : Int)).toNat : Nat) : Int) = _
  rw [BitVec.toNat_or, BitVec.toNat_ofInt, BitVec.toNat_ofInt]
  have e1 : (((k * 256 : Nat) : Int) % ((2 ^ 64 : Nat) : Int)).toNat = k * 2 ^ 8 := by simp only [Nat.reducePow]; omega
  have e2 : (((c : Nat) : Int) % ((2 ^ 64 : Nat) : Int)).toNat = c := by simp only [Nat.reducePow]; omega
  rw [e1, e2, ← e, IntWalk.i64_in _ (by simp only [Nat.reducePow]; omega)]

theorem shl_place (a : Int) (h0 : 0 ≤ a) (h1 : a ≤ 1000000000000) : Value.int .i64 (IntKind.i64.wrap (a * 2 ^ min (8 : Int).toNat IntKind.i64.bits)) = .int .i64 (a * 256) := by
  rw [show (2 : Int) ^ min (8 : Int).toNat IntKind.i64.bits = 256 from rfl, IntWalk.i64_in _ (by omega)]

theorem label_Read (b : List UInt8) (p : Nat) (g : G) {c : Nat} {v : Value} (hr : Rd g c El.u8 v b) (hb : b.length ≤ 100000000) (hp : p ≤ 100000000) :
    Fn Try.prog 18 [v, .int .i64 (p : Int)] g [] fun u _ => u = resR (readGo b p p [] 1 0) := by
  refine enterG [] [2] Try.func18 rfl Try.ntmps18 rfl (by simp) fun g1 hv ho => ?_
  obtain ⟨c', hc', hr1⟩ := hr.seen hv ho (by simp)
  repeat (first|refine q1 ?_|refine q2 ?_|refine q3 ?_|refine q4 ?_|refine q5 ?_|refine q6 ?_|refine w_seq ?_|refine w_region ?_|refine w_ops_nil ?_|refine w_skip ?_|refine w_block ?_|refine w_blk ?_|refine q7 ?_|refine q8 ?_|refine q9 ?_)
  refine w_scope ?_
  repeat (first|refine q1 ?_|refine q2 ?_|refine q3 ?_|refine q4 ?_|refine q5 ?_|refine q6 ?_|refine w_seq ?_|refine w_region ?_|refine w_ops_nil ?_|refine w_skip ?_|refine w_block ?_|refine w_blk ?_|refine q7 ?_|refine q8 ?_|refine q9 ?_)
  refine w_label ?_
  repeat (first|refine q1 ?_|refine q2 ?_|refine q3 ?_|refine q4 ?_|refine q5 ?_|refine q6 ?_|refine w_seq ?_|refine w_region ?_|refine w_ops_nil ?_|refine w_skip ?_|refine w_block ?_|refine w_blk ?_|refine q7 ?_|refine q8 ?_|refine q9 ?_)
  refine w_loop (ι := Value × Nat × Nat × List (List UInt8) × Nat × Nat) (fun x => [(0, v), (7, x.1), (8, .int .i64 (x.2.2.2.2.1 : Int)), (9, .int .i64 (x.2.2.2.2.2 : Int)), (10, .int .i64 (x.2.1 : Int)), (11, .int .i64 (x.2.2.1 : Int))])
    (fun x w => ∃ h : G, h.w = w ∧ Step [] [2] g1 h ∧ Own h 2 El.str 9 x.1 x.2.2.2.1 ∧ x.2.1 ≤ 100000000 ∧ x.2.2.1 ≤ 100000000 ∧ x.2.2.2.2.2 ≤ 200000000 ∧ sizeB x.2.2.2.1 = x.2.2.2.2.1 ∧ x.2.2.2.2.1 ≤ 255 ∧
      readGo b x.2.1 x.2.2.1 x.2.2.2.1 x.2.2.2.2.1 x.2.2.2.2.2 = readGo b p p [] 1 0)
    (fun x => x.2.2.1 * 100000003 + (100000001 - x.2.1)) (.slice none 0 0, p, p, [], 1, 0)
    ⟨g1, rfl, Step.refl _ _ _, Own.nil _ _ _ _, hp, hp, by dsimp only; omega, rfl, by dsimp only; omega, rfl⟩ ⟨rfl, rfl, rfl, rfl, rfl, rfl, trivial⟩ ?_
  rintro ⟨vL, i, began, l, size, next⟩ _ ⟨h, rfl, hst, hown, hi, hbg, hnx, hsz, hsz2, hgo⟩
  dsimp only at hst hown hi hbg hnx hsz hsz2 hgo ⊢
  have hr2 := hr1.go hst
  repeat (first|refine q1 ?_|refine q2 ?_|refine q3 ?_|refine q4 ?_|refine q5 ?_|refine q6 ?_|refine w_seq ?_|refine w_region ?_|refine w_ops_nil ?_|refine w_skip ?_|refine w_block ?_|refine w_blk ?_|refine q7 ?_|refine q8 ?_|refine q9 ?_)
  refine w_lenSl hr2.isSl rfl rfl ?_
  repeat (first|refine q1 ?_|refine q2 ?_|refine q3 ?_|refine q4 ?_|refine q5 ?_|refine q6 ?_|refine w_seq ?_|refine w_region ?_|refine w_ops_nil ?_|refine w_skip ?_|refine w_block ?_|refine w_blk ?_|refine q7 ?_|refine q8 ?_|refine q9 ?_)
  refine w_condP rfl (fun hc => ?_) (fun hc => ?_)
  · repeat (first|refine q1 ?_|refine q2 ?_|refine q3 ?_|refine q4 ?_|refine q5 ?_|refine q6 ?_|refine w_seq ?_|refine w_region ?_|refine w_ops_nil ?_|refine w_skip ?_|refine w_block ?_|refine w_blk ?_|refine q7 ?_|refine q8 ?_|refine q9 ?_)
    refine w_retG (res3 rfl rfl rfl rfl) hst fun h' _ => ?_
    rw [← hgo, readGo, dif_neg (by omega)]; rfl
  have hlt : i < b.length := by omega
  rw [readGo, dif_pos hlt] at hgo
  repeat (first|refine q1 ?_|refine q2 ?_|refine q3 ?_|refine q4 ?_|refine q5 ?_|refine q6 ?_|refine w_seq ?_|refine w_region ?_|refine w_ops_nil ?_|refine w_skip ?_|refine w_block ?_|refine w_blk ?_|refine q7 ?_|refine q8 ?_|refine q9 ?_)
  refine w_idx hr2 rfl rfl (by omega) (by simp; omega) rfl ?_
  refine w_loadE (i := i) (y := b[i]) hr2 rfl (by simp [hlt]) rfl rfl ?_
  have hn256 := b[i].toNat_lt
  refine w_conv64 (a := (b[i].toNat : Int)) rfl (by omega) rfl ?_
  generalize hn : b[i].toNat = n at hgo hn256 ⊢
  repeat (first|refine q1 ?_|refine q2 ?_|refine q3 ?_|refine q4 ?_|refine q5 ?_|refine q6 ?_|refine w_seq ?_|refine w_region ?_|refine w_ops_nil ?_|refine w_skip ?_|refine w_block ?_|refine w_blk ?_|refine q7 ?_|refine q8 ?_|refine q9 ?_)
  refine w_condP rfl (fun h0 => ?_) (fun h0 => ?_)
  · have h0 : n = 0 := by omega
    rw [if_pos h0] at hgo
    repeat (first|refine q1 ?_|refine q2 ?_|refine q3 ?_|refine q4 ?_|refine q5 ?_|refine q6 ?_|refine w_seq ?_|refine w_region ?_|refine w_ops_nil ?_|refine w_skip ?_|refine w_block ?_|refine w_blk ?_|refine q7 ?_|refine q8 ?_|refine q9 ?_)
    refine w_cut (ι := Unit) (fun _ => [(7, vL), (9, .int .i64 ((if next = 0 then i + 1 else next : Nat) : Int))]) (fun _ w => w = h.w) ?_ ?_
    · refine w_condP rfl (fun h1 => ?_) (fun h1 => ?_)
      · repeat (first|refine q1 ?_|refine q2 ?_|refine q3 ?_|refine q4 ?_|refine q5 ?_|refine q6 ?_|refine w_seq ?_|refine w_region ?_|refine w_ops_nil ?_|refine w_skip ?_|refine w_block ?_|refine w_blk ?_|refine q7 ?_|refine q8 ?_|refine q9 ?_)
        refine w_meet () rfl ⟨rfl, ?_, trivial⟩
        rw [if_pos (by omega)]; rfl
      · repeat (first|refine q1 ?_|refine q2 ?_|refine q3 ?_|refine q4 ?_|refine q5 ?_|refine q6 ?_|refine w_seq ?_|refine w_region ?_|refine w_ops_nil ?_|refine w_skip ?_|refine w_block ?_|refine w_blk ?_|refine q7 ?_|refine q8 ?_|refine q9 ?_)
        refine w_meet () rfl ⟨rfl, ?_, trivial⟩
        rw [if_neg (by omega)]; rfl
    · rintro _ _ rfl
      repeat (first|refine q1 ?_|refine q2 ?_|refine q3 ?_|refine q4 ?_|refine q5 ?_|refine q6 ?_|refine w_seq ?_|refine w_region ?_|refine w_ops_nil ?_|refine w_skip ?_|refine w_block ?_|refine w_blk ?_|refine q7 ?_|refine q8 ?_|refine q9 ?_)
      unfold sizeB at hsz
      refine w_callF rfl (strings_Join1 l 46 h hown.rd (by omega)) rfl fun u h2 hs2 hu => ?_
      subst hu
      repeat (first|refine q1 ?_|refine q2 ?_|refine q3 ?_|refine q4 ?_|refine q5 ?_|refine q6 ?_|refine w_seq ?_|refine w_region ?_|refine w_ops_nil ?_|refine w_skip ?_|refine w_block ?_|refine w_blk ?_|refine q7 ?_|refine q8 ?_|refine q9 ?_)
      refine w_retG (res3 rfl rfl rfl rfl) (hst.go hs2) fun h' _ => ?_
      rw [← hgo]; rfl
  rw [if_neg (by omega)] at hgo
  repeat (first|refine q1 ?_|refine q2 ?_|refine q3 ?_|refine q4 ?_|refine q5 ?_|refine q6 ?_|refine w_seq ?_|refine w_region ?_|refine w_ops_nil ?_|refine w_skip ?_|refine w_block ?_|refine w_blk ?_|refine q7 ?_|refine q8 ?_|refine q9 ?_)
  refine w_condP rfl (fun h1 => ?_) (fun h1 => ?_)
  · rw [if_pos (by omega)] at hgo
    repeat (first|refine q1 ?_|refine q2 ?_|refine q3 ?_|refine q4 ?_|refine q5 ?_|refine q6 ?_|refine w_seq ?_|refine w_region ?_|refine w_ops_nil ?_|refine w_skip ?_|refine w_block ?_|refine w_blk ?_|refine q7 ?_|refine q8 ?_|refine q9 ?_)
    refine w_lenSl hr2.isSl rfl rfl ?_
    repeat (first|refine q1 ?_|refine q2 ?_|refine q3 ?_|refine q4 ?_|refine q5 ?_|refine q6 ?_|refine w_seq ?_|refine w_region ?_|refine w_ops_nil ?_|refine w_skip ?_|refine w_block ?_|refine w_blk ?_|refine q7 ?_|refine q8 ?_|refine q9 ?_)
    refine w_condP rfl (fun h2 => ?_) (fun h2 => ?_)
    · repeat (first|refine q1 ?_|refine q2 ?_|refine q3 ?_|refine q4 ?_|refine q5 ?_|refine q6 ?_|refine w_seq ?_|refine w_region ?_|refine w_ops_nil ?_|refine w_skip ?_|refine w_block ?_|refine w_blk ?_|refine q7 ?_|refine q8 ?_|refine q9 ?_)
      refine w_retG (res3 rfl rfl rfl rfl) hst fun h' _ => ?_
      rw [← hgo, dif_neg (by omega)]; rfl
    · have hlt2 : i + 1 < b.length := by omega
      rw [dif_pos hlt2] at hgo
      have hc256 := b[i + 1].toNat_lt
      repeat (first|refine q1 ?_|refine q2 ?_|refine q3 ?_|refine q4 ?_|refine q5 ?_|refine q6 ?_|refine w_seq ?_|refine w_region ?_|refine w_ops_nil ?_|refine w_skip ?_|refine w_block ?_|refine w_blk ?_|refine q7 ?_|refine q8 ?_|refine q9 ?_)
      refine w_shl rfl rfl (by omega) rfl ?_
      refine w_known 40 (.int .i64 (((n - 192) * 256 : Nat) : Int)) rfl ((shl_place _ (by omega) (by omega)).trans (congrArg (Value.int .i64) (by omega))) ?_
      repeat (first|refine q1 ?_|refine q2 ?_|refine q3 ?_|refine q4 ?_|refine q5 ?_|refine q6 ?_|refine w_seq ?_|refine w_region ?_|refine w_ops_nil ?_|refine w_skip ?_|refine w_block ?_|refine w_blk ?_|refine q7 ?_|refine q8 ?_|refine q9 ?_)
      refine w_idx hr2 rfl rfl (by omega) (by simp; omega) rfl ?_
      refine w_loadE (i := i + 1) (y := b[i + 1]) hr2 rfl (by simp [hlt2]) rfl rfl ?_
      refine w_conv64 (a := (b[i + 1].toNat : Int)) rfl (by omega) rfl ?_
      generalize hd : b[i + 1].toNat = d at hgo hc256 ⊢
      refine w_bits (.inr (.inl rfl)) rfl rfl rfl ?_
      refine w_known 46 (.int .i64 (((n - 192) * 256 + d : Nat) : Int)) rfl (congrArg (Value.int .i64) (or_place _ _ (by omega) (by omega))) ?_
      generalize ht : (n - 192) * 256 + d = to at hgo ⊢
      repeat (first|refine q1 ?_|refine q2 ?_|refine q3 ?_|refine q4 ?_|refine q5 ?_|refine q6 ?_|refine w_seq ?_|refine w_region ?_|refine w_ops_nil ?_|refine w_skip ?_|refine w_block ?_|refine w_blk ?_|refine q7 ?_|refine q8 ?_|refine q9 ?_)
      refine w_cut (ι := Unit) (fun _ => [(0, v), (7, vL), (8, .int .i64 (size : Int)), (9, .int .i64 ((if next = 0 then i + 2 else next : Nat) : Int)), (11, .int .i64 (began : Int)), (13, .int .i64 (to : Int))]) (fun _ w => w = h.w) ?_ ?_
      · refine w_condP rfl (fun h3 => ?_) (fun h3 => ?_)
        · repeat (first|refine q1 ?_|refine q2 ?_|refine q3 ?_|refine q4 ?_|refine q5 ?_|refine q6 ?_|refine w_seq ?_|refine w_region ?_|refine w_ops_nil ?_|refine w_skip ?_|refine w_block ?_|refine w_blk ?_|refine q7 ?_|refine q8 ?_|refine q9 ?_)
          refine w_meet () rfl ⟨rfl, rfl, rfl, ?_, rfl, rfl, trivial⟩
          rw [if_pos (by omega)]; exact congrArg some (congrArg (Value.int .i64) (by omega))
        · repeat (first|refine q1 ?_|refine q2 ?_|refine q3 ?_|refine q4 ?_|refine q5 ?_|refine q6 ?_|refine w_seq ?_|refine w_region ?_|refine w_ops_nil ?_|refine w_skip ?_|refine w_block ?_|refine w_blk ?_|refine q7 ?_|refine q8 ?_|refine q9 ?_)
          refine w_meet () rfl ⟨rfl, rfl, rfl, ?_, rfl, rfl, trivial⟩
          rw [if_neg (by omega)]; rfl
      · rintro _ _ rfl
        repeat (first|refine q1 ?_|refine q2 ?_|refine q3 ?_|refine q4 ?_|refine q5 ?_|refine q6 ?_|refine w_seq ?_|refine w_region ?_|refine w_ops_nil ?_|refine w_skip ?_|refine w_block ?_|refine w_blk ?_|refine q7 ?_|refine q8 ?_|refine q9 ?_)
        refine w_condP rfl (fun h3 => ?_) (fun h3 => ?_)
        · repeat (first|refine q1 ?_|refine q2 ?_|refine q3 ?_|refine q4 ?_|refine q5 ?_|refine q6 ?_|refine w_seq ?_|refine w_region ?_|refine w_ops_nil ?_|refine w_skip ?_|refine w_block ?_|refine w_blk ?_|refine q7 ?_|refine q8 ?_|refine q9 ?_)
          refine w_retG (res3 rfl rfl rfl rfl) hst fun h' _ => ?_
          rw [← hgo, dif_pos (by omega)]; rfl
        · rw [dif_neg (by omega)] at hgo
          repeat (first|refine q1 ?_|refine q2 ?_|refine q3 ?_|refine q4 ?_|refine q5 ?_|refine q6 ?_|refine w_seq ?_|refine w_region ?_|refine w_ops_nil ?_|refine w_skip ?_|refine w_block ?_|refine w_blk ?_|refine q7 ?_|refine q8 ?_|refine q9 ?_)
          refine w_again (vL, to, to, l, size, if next = 0 then i + 2 else next) (by dsimp only; omega) ⟨h, rfl, hst, hown, by dsimp only; omega, by dsimp only; omega, by dsimp only; split <;> omega, hsz, hsz2, hgo⟩ ⟨rfl, rfl, rfl, rfl, rfl, rfl, trivial⟩
  · rw [if_neg (by omega)] at hgo
    repeat (first|refine q1 ?_|refine q2 ?_|refine q3 ?_|refine q4 ?_|refine q5 ?_|refine q6 ?_|refine w_seq ?_|refine w_region ?_|refine w_ops_nil ?_|refine w_skip ?_|refine w_block ?_|refine w_blk ?_|refine q7 ?_|refine q8 ?_|refine q9 ?_)
    refine w_splitP 59 rfl (fun h2 => ?_) (fun h2 => ?_)
    · rw [if_pos (.inl (by omega))] at hgo
      repeat (first|refine q1 ?_|refine q2 ?_|refine q3 ?_|refine q4 ?_|refine q5 ?_|refine q6 ?_|refine w_seq ?_|refine w_region ?_|refine w_ops_nil ?_|refine w_skip ?_|refine w_block ?_|refine w_blk ?_|refine q7 ?_|refine q8 ?_|refine q9 ?_)
      refine w_retG (res3 rfl rfl rfl rfl) hst fun h' _ => ?_
      rw [← hgo]; rfl
    repeat (first|refine q1 ?_|refine q2 ?_|refine q3 ?_|refine q4 ?_|refine q5 ?_|refine q6 ?_|refine w_seq ?_|refine w_region ?_|refine w_ops_nil ?_|refine w_skip ?_|refine w_block ?_|refine w_blk ?_|refine q7 ?_|refine q8 ?_|refine q9 ?_)
    refine w_lenSl hr2.isSl rfl rfl ?_
    repeat (first|refine q1 ?_|refine q2 ?_|refine q3 ?_|refine q4 ?_|refine q5 ?_|refine q6 ?_|refine w_seq ?_|refine w_region ?_|refine w_ops_nil ?_|refine w_skip ?_|refine w_block ?_|refine w_blk ?_|refine q7 ?_|refine q8 ?_|refine q9 ?_)
    refine w_condP rfl (fun h3 => ?_) (fun h3 => ?_)
    · rw [if_pos (.inr (by omega))] at hgo
      repeat (first|refine q1 ?_|refine q2 ?_|refine q3 ?_|refine q4 ?_|refine q5 ?_|refine q6 ?_|refine w_seq ?_|refine w_region ?_|refine w_ops_nil ?_|refine w_skip ?_|refine w_block ?_|refine w_blk ?_|refine q7 ?_|refine q8 ?_|refine q9 ?_)
      refine w_retG (res3 rfl rfl rfl rfl) hst fun h' _ => ?_
      rw [← hgo]; rfl
    rw [if_neg (by omega)] at hgo
    have h63 : n ≤ 63 := by omega
    have hfit : i + 1 + n ≤ b.length := by omega
    repeat (first|refine q1 ?_|refine q2 ?_|refine q3 ?_|refine q4 ?_|refine q5 ?_|refine q6 ?_|refine w_seq ?_|refine w_region ?_|refine w_ops_nil ?_|refine w_skip ?_|refine w_block ?_|refine w_blk ?_|refine q7 ?_|refine q8 ?_|refine q9 ?_)
    refine w_cut_ (a := i + 1) (b := i + 1 + n) hr2 rfl ⟨_, rfl, by omega⟩ ⟨_, rfl, by omega⟩ (by omega) (by omega) rfl fun hr3 => ?_
    refine w_b2s hr3 rfl rfl ?_
    generalize hown' : (b.take (i + 1 + n)).drop (i + 1) = own at hgo ⊢
    have hol : own.length = n := by rw [← hown', List.length_drop, List.length_take]; omega
    repeat (first|refine q1 ?_|refine q2 ?_|refine q3 ?_|refine q4 ?_|refine q5 ?_|refine q6 ?_|refine w_seq ?_|refine w_region ?_|refine w_ops_nil ?_|refine w_skip ?_|refine w_block ?_|refine w_blk ?_|refine q7 ?_|refine q8 ?_|refine q9 ?_)
    refine w_callF rfl (strings_Contains1 own 46 h) rfl fun u h2 hs2 hu => ?_
    subst hu
    replace hown := hown.go hs2; replace hst := hst.go hs2
    repeat (first|refine q1 ?_|refine q2 ?_|refine q3 ?_|refine q4 ?_|refine q5 ?_|refine q6 ?_|refine w_seq ?_|refine w_region ?_|refine w_ops_nil ?_|refine w_skip ?_|refine w_block ?_|refine w_blk ?_|refine q7 ?_|refine q8 ?_|refine q9 ?_)
    refine w_condP rfl (fun h3 => ?_) (fun h3 => ?_)
    · rw [if_pos h3] at hgo
      repeat (first|refine q1 ?_|refine q2 ?_|refine q3 ?_|refine q4 ?_|refine q5 ?_|refine q6 ?_|refine w_seq ?_|refine w_region ?_|refine w_ops_nil ?_|refine w_skip ?_|refine w_block ?_|refine w_blk ?_|refine q7 ?_|refine q8 ?_|refine q9 ?_)
      refine w_retG (res3 rfl rfl rfl rfl) hst fun h' _ => ?_
      rw [← hgo]; rfl
    rw [if_neg h3] at hgo
    repeat (first|refine q1 ?_|refine q2 ?_|refine q3 ?_|refine q4 ?_|refine q5 ?_|refine q6 ?_|refine w_seq ?_|refine w_region ?_|refine w_ops_nil ?_|refine w_skip ?_|refine w_block ?_|refine w_blk ?_|refine q7 ?_|refine q8 ?_|refine q9 ?_)
    refine w_condP rfl (fun h4 => ?_) (fun h4 => ?_)
    · rw [if_pos (by omega)] at hgo
      repeat (first|refine q1 ?_|refine q2 ?_|refine q3 ?_|refine q4 ?_|refine q5 ?_|refine q6 ?_|refine w_seq ?_|refine w_region ?_|refine w_ops_nil ?_|refine w_skip ?_|refine w_block ?_|refine w_blk ?_|refine q7 ?_|refine q8 ?_|refine q9 ?_)
      refine w_retG (res3 rfl rfl rfl rfl) hst fun h' _ => ?_
      rw [← hgo]; rfl
    rw [if_neg (by omega)] at hgo
    repeat (first|refine q1 ?_|refine q2 ?_|refine q3 ?_|refine q4 ?_|refine q5 ?_|refine q6 ?_|refine w_seq ?_|refine w_region ?_|refine w_ops_nil ?_|refine w_skip ?_|refine w_block ?_|refine w_blk ?_|refine q7 ?_|refine q8 ?_|refine q9 ?_)
    refine w_buildSlR El.str [own] rfl rfl rfl rfl fun h5 v5 hs5 hr5 => ?_
    have hll : l.length ≤ 255 := by unfold sizeB at hsz; omega
    refine w_append (hown.go hs5) hr5 rfl rfl rfl (by decide) (by simp; omega) rfl fun h6 v6 hs6 ho6 => ?_
    repeat (first|refine q1 ?_|refine q2 ?_|refine q3 ?_|refine q4 ?_|refine q5 ?_|refine q6 ?_|refine w_seq ?_|refine w_region ?_|refine w_ops_nil ?_|refine w_skip ?_|refine w_block ?_|refine w_blk ?_|refine q7 ?_|refine q8 ?_|refine q9 ?_)
    refine w_again (v6, i + 1 + n, began, l ++ [own], size + n + 1, next) (by dsimp only; omega) ⟨h6, rfl, (hst.go hs5).go hs6, ho6, by dsimp only; omega, hbg, hnx, ?_, by dsimp only; omega, hgo⟩ ⟨rfl, rfl, ?_, rfl, ?_, rfl, trivial⟩
    · dsimp only; unfold sizeB at hsz ⊢; simp only [List.flatten_append, List.length_append, List.flatten_cons, List.flatten_nil, List.append_nil, List.length_cons, List.length_nil]; omega
    · exact congrArg some (congrArg (Value.int .i64) (by dsimp only; omega))
    · exact congrArg some (congrArg (Value.int .i64) (by dsimp only; omega))

def encB (l : List UInt8) : List UInt8 := UInt8.ofNat l.length :: l
def bytesB (s : List UInt8) : List UInt8 := (labelsB s).flatMap encB ++ [0]
theorem flatMap_enc_len (l : List (List UInt8)) : (l.flatMap encB).length = l.flatten.length + l.length := by
  induction l with
  | nil => rfl
  | cons x l ih => simp only [List.flatMap_cons, List.length_append, encB, List.length_cons, List.flatten_cons, ih]; omega

theorem label_Bytes (s : List UInt8) (g : G) (hs : s.length ≤ 1000000000) :
    Fn Try.prog 33 [str s] g [] fun u h => ∃ v, u = .tuple #[v, .int .i64 (if mayB s = true then 0 else 1)] ∧ Rd h 0 El.u8 v (if mayB s = true then bytesB s else []) := by
  refine enterG [] [2] Try.func33 rfl Try.ntmps33 rfl (by simp) fun g1 hv ho => ?_
  repeat (first|refine q1 ?_|refine q2 ?_|refine q3 ?_|refine q4 ?_|refine q5 ?_|refine q6 ?_|refine w_seq ?_|refine w_region ?_|refine w_ops_nil ?_|refine w_skip ?_|refine w_block ?_|refine w_blk ?_|refine q7 ?_|refine q8 ?_|refine q9 ?_)
  refine w_callF rfl (label_May s g1 hs) rfl fun u h1 hs1 hu => ?_
  subst hu
  repeat (first|refine q1 ?_|refine q2 ?_|refine q3 ?_|refine q4 ?_|refine q5 ?_|refine q6 ?_|refine w_seq ?_|refine w_region ?_|refine w_ops_nil ?_|refine w_skip ?_|refine w_block ?_|refine w_blk ?_|refine q7 ?_|refine q8 ?_|refine q9 ?_)
  refine w_cond rfl (fun hc => ?_) (fun hc => ?_)
  · have hmay : mayB s = false := by simpa using hc
    repeat (first|refine q1 ?_|refine q2 ?_|refine q3 ?_|refine q4 ?_|refine q5 ?_|refine q6 ?_|refine w_seq ?_|refine w_region ?_|refine w_ops_nil ?_|refine w_skip ?_|refine w_block ?_|refine w_blk ?_|refine q7 ?_|refine q8 ?_|refine q9 ?_)
    refine w_retG (res2 rfl rfl rfl) hs1.nil fun h' _ => ⟨_, by rw [hmay]; rfl, by rw [hmay]; exact Rd.nil _ _ _ none 0 (by decide)⟩
  have hmay : mayB s = true := by simpa using hc
  repeat (first|refine q1 ?_|refine q2 ?_|refine q3 ?_|refine q4 ?_|refine q5 ?_|refine q6 ?_|refine w_seq ?_|refine w_region ?_|refine w_ops_nil ?_|refine w_skip ?_|refine w_block ?_|refine w_blk ?_|refine q7 ?_|refine q8 ?_|refine q9 ?_)
  refine w_callF rfl (label_Labels s h1 hs) rfl fun vL h2 hs2 hrL => ?_
  have hll := labelsB_length s
  have hlf := labelsB_flat s
  refine w_lenSl hrL.isSl rfl rfl ?_
  repeat (first|refine q1 ?_|refine q2 ?_|refine q3 ?_|refine q4 ?_|refine q5 ?_|refine q6 ?_|refine w_seq ?_|refine w_region ?_|refine w_ops_nil ?_|refine w_skip ?_|refine w_block ?_|refine w_blk ?_|refine q7 ?_|refine q8 ?_|refine q9 ?_)
  refine w_loop (ι := Value × Nat) (fun x => [(4, x.1), (11, vL), (12, .int .i64 ((labelsB s).length : Int)), (13, .int .i64 (x.2 : Int))])
    (fun x w => ∃ h : G, h.w = w ∧ Step [] [2] g1 h ∧ Rd h 0 El.str vL (labelsB s) ∧ Own h 2 El.u8 5 x.1 (((labelsB s).take x.2).flatMap encB) ∧ x.2 ≤ (labelsB s).length) (fun x => (labelsB s).length - x.2)
    (.slice none 0 0, 0) ⟨h2, rfl, (hs1.go hs2).nil, hrL, Own.nil _ _ _ _, by dsimp only; omega⟩ ⟨rfl, rfl, rfl, rfl, trivial⟩ ?_
  rintro ⟨vB, i⟩ _ ⟨h, rfl, hst, hrL, hown, hi⟩
  dsimp only at hst hrL hown hi ⊢
  have hfl := flatMap_enc_len ((labelsB s).take i)
  have hft := flatten_take (labelsB s) i
  simp only [List.length_take] at hfl
  repeat (first|refine q1 ?_|refine q2 ?_|refine q3 ?_|refine q4 ?_|refine q5 ?_|refine q6 ?_|refine w_seq ?_|refine w_region ?_|refine w_ops_nil ?_|refine w_skip ?_|refine w_block ?_|refine w_blk ?_|refine q7 ?_|refine q8 ?_|refine q9 ?_)
  refine w_condP rfl (fun hc => ?_) (fun hc => ?_)
  · have hlt : i < (labelsB s).length := by omega
    have hle := len_le_flatten (labelsB s) i (labelsB s)[i] (by simp [hlt])
    repeat (first|refine q1 ?_|refine q2 ?_|refine q3 ?_|refine q4 ?_|refine q5 ?_|refine q6 ?_|refine w_seq ?_|refine w_region ?_|refine w_ops_nil ?_|refine w_skip ?_|refine w_block ?_|refine w_blk ?_|refine q7 ?_|refine q8 ?_|refine q9 ?_)
    refine w_idx hrL rfl rfl (by omega) (by simp; omega) rfl ?_
    refine w_loadE (i := i) (y := (labelsB s)[i]) hrL rfl (by simp [hlt]) rfl rfl ?_
    repeat (first|refine q1 ?_|refine q2 ?_|refine q3 ?_|refine q4 ?_|refine q5 ?_|refine q6 ?_|refine w_seq ?_|refine w_region ?_|refine w_ops_nil ?_|refine w_skip ?_|refine w_block ?_|refine w_blk ?_|refine q7 ?_|refine q8 ?_|refine q9 ?_)
    refine w_convB rfl (by omega) rfl ?_
    refine w_buildSlR El.u8 [UInt8.ofNat (labelsB s)[i].length] rfl rfl rfl rfl fun h3 v3 hs3 hr3 => ?_
    refine w_append (hown.go hs3) hr3 rfl rfl rfl (by decide) (by (try simp only [List.length_append, List.length_cons, List.length_nil]); omega) rfl fun h4 v4 hs4 ho4 => ?_
    repeat (first|refine q1 ?_|refine q2 ?_|refine q3 ?_|refine q4 ?_|refine q5 ?_|refine q6 ?_|refine w_seq ?_|refine w_region ?_|refine w_ops_nil ?_|refine w_skip ?_|refine w_block ?_|refine w_blk ?_|refine q7 ?_|refine q8 ?_|refine q9 ?_)
    refine w_appendStr ho4 rfl rfl (by (try simp only [List.length_append, List.length_cons, List.length_nil]); omega) rfl fun h5 v5 hs5 ho5 => ?_
    repeat (first|refine q1 ?_|refine q2 ?_|refine q3 ?_|refine q4 ?_|refine q5 ?_|refine q6 ?_|refine w_seq ?_|refine w_region ?_|refine w_ops_nil ?_|refine w_skip ?_|refine w_block ?_|refine w_blk ?_|refine q7 ?_|refine q8 ?_|refine q9 ?_)
    refine w_again (v5, i + 1) (by dsimp only; omega) ⟨h5, rfl, ((hst.go hs3).go hs4).go hs5, ((hrL.go hs3).go hs4).go hs5, ?_, by dsimp only; omega⟩ ⟨rfl, rfl, rfl, rfl, trivial⟩
    dsimp only
    rw [List.take_succ_eq_append_getElem hlt, List.flatMap_append]
    simpa [encB] using ho5
  · have : i = (labelsB s).length := by omega
    subst this
    rw [List.take_length] at hown hfl
    repeat (first|refine q1 ?_|refine q2 ?_|refine q3 ?_|refine q4 ?_|refine q5 ?_|refine q6 ?_|refine w_seq ?_|refine w_region ?_|refine w_ops_nil ?_|refine w_skip ?_|refine w_block ?_|refine w_blk ?_|refine q7 ?_|refine q8 ?_|refine q9 ?_)
    refine w_buildSlR El.u8 [0] rfl rfl rfl rfl fun h3 v3 hs3 hr3 => ?_
    refine w_append (hown.go hs3) hr3 rfl rfl rfl (by decide) (by (try simp only [List.length_append, List.length_cons, List.length_nil]); omega) rfl fun h4 v4 hs4 ho4 => ?_
    repeat (first|refine q1 ?_|refine q2 ?_|refine q3 ?_|refine q4 ?_|refine q5 ?_|refine q6 ?_|refine w_seq ?_|refine w_region ?_|refine w_ops_nil ?_|refine w_skip ?_|refine w_block ?_|refine w_blk ?_|refine q7 ?_|refine q8 ?_|refine q9 ?_)
    obtain ⟨h5, hw5, hs5, hr5⟩ := ho4.freeze (by decide)
    rw [← hw5]
    refine w_retG (res2 rfl rfl rfl) (((hst.go hs3).go hs4).go hs5) fun h' hv' => ⟨v4, by rw [hmay]; rfl, ?_⟩
    rw [hmay]
    exact hr5.view hv' (.inl rfl)

def goodL (l : List (List UInt8)) : List (List UInt8) := ((l.map fun x => x.take 12).filter fun x => decide (x ≠ [])).take 6
def goodB (s : List UInt8) : List UInt8 := joinB [46] (goodL (labelsB s))
theorem ref08_Good (s : List UInt8) (g : G) (hs : s.length ≤ 1000000000) : Fn Try.prog 27 [str s] g [] fun u _ => u = str (goodB s) := by
  refine enterG [] [2] Try.func27 rfl Try.ntmps27 rfl (by simp) fun g1 hv ho => ?_
  repeat (first|refine q1 ?_|refine q2 ?_|refine q3 ?_|refine q4 ?_|refine q5 ?_|refine q6 ?_|refine w_seq ?_|refine w_region ?_|refine w_ops_nil ?_|refine w_skip ?_|refine w_block ?_|refine w_blk ?_|refine q7 ?_|refine q8 ?_|refine q9 ?_)
  refine w_callF rfl (ref08_Labels s g1 (by omega)) rfl fun vL h1 hs1 hrL => ?_
  have hll := labelsB_length s
  have hlf := labelsB_flat s
  let F := fun (l : List (List UInt8)) => (l.map fun x => x.take 12).filter fun x => decide (x ≠ [])
  repeat (first|refine q1 ?_|refine q2 ?_|refine q3 ?_|refine q4 ?_|refine q5 ?_|refine q6 ?_|refine w_seq ?_|refine w_region ?_|refine w_ops_nil ?_|refine w_skip ?_|refine w_block ?_|refine w_blk ?_|refine q7 ?_|refine q8 ?_|refine q9 ?_)
  refine w_loop (ι := Value × Nat) (fun x => [(3, vL), (4, x.1), (5, .int .i64 (x.2 : Int))])
    (fun x w => ∃ h : G, h.w = w ∧ Step [] [2] g1 h ∧ Rd h 0 El.str vL (labelsB s) ∧ Own h 2 El.str 9 x.1 (F ((labelsB s).take x.2)) ∧ x.2 ≤ (labelsB s).length ∧ (F ((labelsB s).take x.2)).length ≤ 6) (fun x => (labelsB s).length - x.2)
    (.slice none 0 0, 0) ⟨h1, rfl, hs1.nil, hrL, Own.nil _ _ _ _, by dsimp only; omega, by simp [F]⟩ ⟨rfl, rfl, rfl, trivial⟩ ?_
  rintro ⟨vO, i⟩ _ ⟨h, rfl, hst, hrL, hown, hi, h6⟩
  dsimp only at hst hrL hown hi h6 ⊢
  have hend : (i = (labelsB s).length ∨ (F ((labelsB s).take i)).length = 6) → goodL (labelsB s) = F ((labelsB s).take i) := by
    intro h
    show (F (labelsB s)).take 6 = _
    have e : F (labelsB s) = F ((labelsB s).take i) ++ F ((labelsB s).drop i) := by
      simp only [F]; rw [← List.filter_append, ← List.map_append, List.take_append_drop]
    rcases h with h | h
    · subst h; rw [List.take_length] at h6 ⊢; exact List.take_of_length_le h6
    · rw [e, List.take_append_of_le_length (by omega), List.take_of_length_le (by omega)]
  have hx12 : ∀ x ∈ F ((labelsB s).take i), x.length ≤ 12 := by
    intro x hx
    simp only [F, List.mem_filter, List.mem_map] at hx
    obtain ⟨⟨y, _, rfl⟩, _⟩ := hx
    rw [List.length_take]; omega
  repeat (first|refine q1 ?_|refine q2 ?_|refine q3 ?_|refine q4 ?_|refine q5 ?_|refine q6 ?_|refine w_seq ?_|refine w_region ?_|refine w_ops_nil ?_|refine w_skip ?_|refine w_block ?_|refine w_blk ?_|refine q7 ?_|refine q8 ?_|refine q9 ?_)
  refine w_lenSl hrL.isSl rfl rfl ?_
  repeat (first|refine q1 ?_|refine q2 ?_|refine q3 ?_|refine q4 ?_|refine q5 ?_|refine q6 ?_|refine w_seq ?_|refine w_region ?_|refine w_ops_nil ?_|refine w_skip ?_|refine w_block ?_|refine w_blk ?_|refine q7 ?_|refine q8 ?_|refine q9 ?_)
  have fin : (goodL (labelsB s) = F ((labelsB s).take i)) → (goodL (labelsB s)).flatten.length + (goodL (labelsB s)).length * [(46 : UInt8)].length ≤ 1152921504606846976 := by
    intro e
    have h1 : (goodL (labelsB s)).flatten.length ≤ 12 * 6 := by
      rw [e]
      have : ∀ l : List (List UInt8), (∀ x ∈ l, x.length ≤ 12) → l.flatten.length ≤ 12 * l.length := by
        intro l hl
        induction l with
        | nil => simp
        | cons a l ih => have := hl a (by simp); have := ih (fun x hx => hl x (by simp [hx])); simp only [List.flatten_cons, List.length_append, List.length_cons]; omega
      have := this _ hx12
      omega
    rw [e] at h1 ⊢
    simp only [List.length_cons, List.length_nil]; omega
  refine w_splitP 13 rfl (fun hc => ?_) (fun hc => ?_)
  · repeat (first|refine q1 ?_|refine q2 ?_|refine q3 ?_|refine q4 ?_|refine q5 ?_|refine q6 ?_|refine w_seq ?_|refine w_region ?_|refine w_ops_nil ?_|refine w_skip ?_|refine w_block ?_|refine w_blk ?_|refine q7 ?_|refine q8 ?_|refine q9 ?_)
    refine w_lenSl hown.isSl rfl rfl ?_
    repeat (first|refine q1 ?_|refine q2 ?_|refine q3 ?_|refine q4 ?_|refine q5 ?_|refine q6 ?_|refine w_seq ?_|refine w_region ?_|refine w_ops_nil ?_|refine w_skip ?_|refine w_block ?_|refine w_blk ?_|refine q7 ?_|refine q8 ?_|refine q9 ?_)
    refine w_condP rfl (fun h5 => ?_) (fun h5 => ?_)
    · have hlt : i < (labelsB s).length := by omega
      repeat (first|refine q1 ?_|refine q2 ?_|refine q3 ?_|refine q4 ?_|refine q5 ?_|refine q6 ?_|refine w_seq ?_|refine w_region ?_|refine w_ops_nil ?_|refine w_skip ?_|refine w_block ?_|refine w_blk ?_|refine q7 ?_|refine q8 ?_|refine q9 ?_)
      refine w_idx hrL rfl rfl (by omega) (by simp; omega) rfl ?_
      refine w_loadE (i := i) (y := (labelsB s)[i]) hrL rfl (by simp [hlt]) rfl rfl ?_
      refine w_callF rfl (ref01_Few _ 12 h (by omega)) rfl fun u h2 hs2 hu => ?_
      subst hu
      replace hrL := hrL.go hs2; replace hown := hown.go hs2; replace hst := hst.go hs2
      have eF : F ((labelsB s).take (i + 1)) = F ((labelsB s).take i) ++ (if (labelsB s)[i].take 12 = [] then [] else [(labelsB s)[i].take 12]) := by
        rw [List.take_succ_eq_append_getElem hlt]
        simp only [F, List.map_append, List.filter_append, List.map_cons, List.map_nil]
        congr 1
        by_cases he : (labelsB s)[i].take 12 = [] <;> simp [he]
      repeat (first|refine q1 ?_|refine q2 ?_|refine q3 ?_|refine q4 ?_|refine q5 ?_|refine q6 ?_|refine w_seq ?_|refine w_region ?_|refine w_ops_nil ?_|refine w_skip ?_|refine w_block ?_|refine w_blk ?_|refine q7 ?_|refine q8 ?_|refine q9 ?_)
      refine w_condP rfl (fun h7 => ?_) (fun h7 => ?_)
      · have h7 : ¬ (labelsB s)[i].take 12 = [] := h7
        rw [if_neg h7] at eF
        repeat (first|refine q1 ?_|refine q2 ?_|refine q3 ?_|refine q4 ?_|refine q5 ?_|refine q6 ?_|refine w_seq ?_|refine w_region ?_|refine w_ops_nil ?_|refine w_skip ?_|refine w_block ?_|refine w_blk ?_|refine q7 ?_|refine q8 ?_|refine q9 ?_)
        refine w_buildSlR El.str [(labelsB s)[i].take 12] rfl rfl rfl rfl fun h3 v3 hs3 hr3 => ?_
        refine w_append (hown.go hs3) hr3 rfl rfl rfl (by decide) (by (try simp only [List.length_append, List.length_cons, List.length_nil]); omega) rfl fun h4 v4 hs4 ho4 => ?_
        repeat (first|refine q1 ?_|refine q2 ?_|refine q3 ?_|refine q4 ?_|refine q5 ?_|refine q6 ?_|refine w_seq ?_|refine w_region ?_|refine w_ops_nil ?_|refine w_skip ?_|refine w_block ?_|refine w_blk ?_|refine q7 ?_|refine q8 ?_|refine q9 ?_)
        refine w_again (v4, i + 1) (by dsimp only; omega) ⟨h4, rfl, (hst.go hs3).go hs4, (hrL.go hs3).go hs4, by dsimp only; rw [eF]; exact ho4, by dsimp only; omega, by dsimp only; rw [eF]; simp; omega⟩ ⟨rfl, rfl, rfl, trivial⟩
      · have h7 : (labelsB s)[i].take 12 = [] := Decidable.not_not.1 h7
        rw [if_pos h7, List.append_nil] at eF
        repeat (first|refine q1 ?_|refine q2 ?_|refine q3 ?_|refine q4 ?_|refine q5 ?_|refine q6 ?_|refine w_seq ?_|refine w_region ?_|refine w_ops_nil ?_|refine w_skip ?_|refine w_block ?_|refine w_blk ?_|refine q7 ?_|refine q8 ?_|refine q9 ?_)
        refine w_again (vO, i + 1) (by dsimp only; omega) ⟨h2, rfl, hst, hrL, by dsimp only; rw [eF]; exact hown, by dsimp only; omega, by dsimp only; rw [eF]; exact h6⟩ ⟨rfl, rfl, rfl, trivial⟩
    · have e := hend (.inr (by omega))
      have hf := fin e
      repeat (first|refine q1 ?_|refine q2 ?_|refine q3 ?_|refine q4 ?_|refine q5 ?_|refine q6 ?_|refine w_seq ?_|refine w_region ?_|refine w_ops_nil ?_|refine w_skip ?_|refine w_block ?_|refine w_blk ?_|refine q7 ?_|refine q8 ?_|refine q9 ?_)
      rw [← e] at hown
      refine w_callF rfl (ref01_Join _ [46] h hown.rd hf) rfl fun u h2 hs2 hu => ?_
      subst hu
      repeat (first|refine q1 ?_|refine q2 ?_|refine q3 ?_|refine q4 ?_|refine q5 ?_|refine q6 ?_|refine w_seq ?_|refine w_region ?_|refine w_ops_nil ?_|refine w_skip ?_|refine w_block ?_|refine w_blk ?_|refine q7 ?_|refine q8 ?_|refine q9 ?_)
      exact w_retG (res1 rfl rfl) (hst.go hs2) fun h' _ => rfl
  · have e := hend (.inl (by omega))
    have hf := fin e
    repeat (first|refine q1 ?_|refine q2 ?_|refine q3 ?_|refine q4 ?_|refine q5 ?_|refine q6 ?_|refine w_seq ?_|refine w_region ?_|refine w_ops_nil ?_|refine w_skip ?_|refine w_block ?_|refine w_blk ?_|refine q7 ?_|refine q8 ?_|refine q9 ?_)
    rw [← e] at hown
    refine w_callF rfl (ref01_Join _ [46] h hown.rd hf) rfl fun u h2 hs2 hu => ?_
    subst hu
    repeat (first|refine q1 ?_|refine q2 ?_|refine q3 ?_|refine q4 ?_|refine q5 ?_|refine q6 ?_|refine w_seq ?_|refine w_region ?_|refine w_ops_nil ?_|refine w_skip ?_|refine w_block ?_|refine w_blk ?_|refine q7 ?_|refine q8 ?_|refine q9 ?_)
    exact w_retG (res1 rfl rfl) (hst.go hs2) fun h' _ => rfl
end Go.Proofs.Ytnfokdhgajanpaa
