/- Messages are read: the reader's raw bytes, numbers, names. No statement of the seat is proved here. -/
import Derived.Test.YtnfokdhgajanpaaLabP
import Derived.Test.YtnfokdhgajanpaaWir1
import Derived.Laws.MakeOwn
set_option linter.unusedVariables false
set_option linter.unusedSimpArgs false
namespace Go.Proofs.Ytnfokdhgajanpaa
open Go
attribute [local irreducible] Wp
section
variable {P : Program} {Z : Exit → Act → World → Prop} {N : Nat} {k : List It} {s : Env} {g : G}
variable {all : Array Oper} {rest : List Oper} {op : Op} {ty : TypeId} {pos : String} {af : Array Edge} {d : Nat}
theorem rep_flat (n : Nat) : (List.replicate n (0 : UInt8)).flatMap El.u8.enc = List.replicate n (Value.int .u8 0) := by
  induction n with
  | zero => rfl
  | succ n ih => rw [List.replicate_succ, List.flatMap_cons, ih, List.replicate_succ]; rfl
theorem made_one (v : Value) (n : Nat) : madeCells #[v] n = (List.replicate n v).toArray := by
  apply Array.ext
  · simp [madeCells]
  · intro i h1 h2
    simp [madeCells, Nat.mod_one]
/-- make([]byte, n). -/
theorem w_makeB (c : Nat) {x y : Operand} {T e : TypeId} [hT : Und P T (.slice e)] [hi : Inf P e 1 1 (.int .u8 0)] {n : Nat} (hx : evalS s x = some (.int .i64 (n : Int))) (hy : evalS s y = some (.int .i64 (n : Int))) (hn : n ≤ 1000000) (hdN : Nat.ble (d + 1) N = true)
    (hk : ∀ h v, Step [] [] g h → Own h c El.u8 e v (List.replicate n 0) → Wp P Z N (.ops all rest :: k) ((d, v) :: s) h.w) :
    Wp P Z N (.ops all (⟨some d, .makeSlice T x y, ty, pos, af, none⟩ :: rest) :: k) s g.w := by
  obtain ⟨i0, hi0, hz, hs, hby⟩ := hi.get
  have hcells : madeCells (Value.int .u8 0).cells (n * i0.size) = ((List.replicate n (0 : UInt8)).flatMap El.u8.enc).toArray := by
    rw [hs, Nat.mul_one, rep_flat]
    exact made_one _ _
  have hrun := run_make (P := P) g.w T e i0 (.int .u8 0) hT.eq hi0 hz .i64 .i64 (n : Int) (n : Int) (by omega) (by omega) (by rw [hby]; omega) (by omega)
  simp only [Int.toNat_natCast] at hrun
  rw [hcells] at hrun
  have hlen : ((List.replicate n (0 : UInt8)).flatMap El.u8.enc).length = n := by rw [flat_length]; simp [El.u8]
  have hown : (g.w.alloc (.cells ((List.replicate n (0 : UInt8)).flatMap El.u8.enc).toArray e)).ownsRow 0 e El.u8.sz (.slice (some ⟨g.w.heap.size, 0, none⟩) n n) n ((List.replicate n (0 : UInt8)).flatMap El.u8.enc) := by
    have := World.ownsRow_lit (base := 0) (e := e) (size := El.u8.sz) g.w ((List.replicate n (0 : UInt8)).flatMap El.u8.enc).toArray n (Nat.zero_le _) (by simp only [maxLen]; omega) (by rw [List.size_toArray, hlen]; show n = n * 1; omega)
    simpa using this
  refine w_val (v := .slice (some ⟨g.w.heap.size, 0, none⟩) n n) (w' := g.w.alloc (.cells ((List.replicate n (0 : UInt8)).flatMap El.u8.enc).toArray e)) (fun ac ha => ?_) hdN
    (hk (g.new (.cells ((List.replicate n (0 : UInt8)).flatMap El.u8.enc).toArray e) c) _ (Step.new _ _ _) ⟨by rw [List.length_replicate]; exact hown, fun b hb => ?_⟩)
  · simp only [execOp, ha.eval hx, ha.eval hy]
    rw [Sem.run_bind, hrun]; rfl
  · simp [Value.ownBlock] at hb; subst hb; exact if_pos rfl
end

/-- A reader's place, and what went wrong. -/
structure Rs where
  at_ : Nat
  e : Int
  deriving DecidableEq
/-- The reader in memory. -/
def Rr (g : G) (p : Nat) (vB : Value) (s : Rs) : Prop := Cell g 61 p 109 [vB, .int .i64 (s.at_ : Int), .int .i64 s.e]
theorem Rr.go {g h : G} {p : Nat} {vB : Value} {s : Rs} {M : List Nat} (hr : Rr g p vB s) (hs : Step [] M g h) (h1 : 61 ∉ M := by simp) : Rr h p vB s := Cell.step hr hs h1 (by simp)
theorem Rr.view {g h : G} {p : Nat} {vB : Value} {s : Rs} {M : List Nat} (hr : Rr g p vB s) (hv : View M g h) (h1 : 61 ∈ M := by simp) : Rr h p vB s := Cell.view hr hv (.inr h1)
def failP (s : Rs) (c : Int) : Rs := ⟨s.at_, if s.e = 0 then c else s.e⟩
def rawP (B : List UInt8) (n : Nat) (s : Rs) : List UInt8 × Rs :=
  if s.e ≠ 0 ∨ B.length < s.at_ + n then (List.replicate n 0, failP s 2) else ((B.take (s.at_ + n)).drop s.at_, ⟨s.at_ + n, s.e⟩)
def beN (l : List UInt8) : Nat := l.foldl (fun v c => v * 256 + c.toNat) 0
def numP (B : List UInt8) (n : Nat) (s : Rs) : Nat × Rs := (beN (rawP B n s).1, (rawP B n s).2)
def nameP (B : List UInt8) (s : Rs) : List UInt8 × Rs :=
  if s.e ≠ 0 then ([], s) else if (readGo B s.at_ s.at_ [] 1 0).2.2 ≠ 0 then ([], ⟨s.at_, (readGo B s.at_ s.at_ [] 1 0).2.2⟩) else ((readGo B s.at_ s.at_ [] 1 0).1, ⟨(readGo B s.at_ s.at_ [] 1 0).2.1, 0⟩)
theorem rawP_len (B : List UInt8) (n : Nat) (s : Rs) : (rawP B n s).1.length = n := by
  unfold rawP
  split
  · simp
  · rename_i h
    simp only [List.length_drop, List.length_take]; omega
theorem rawP_at {B : List UInt8} {n : Nat} {s : Rs} (h : s.at_ ≤ B.length) : (rawP B n s).2.at_ ≤ B.length := by
  unfold rawP
  split
  · exact h
  · rename_i h2; dsimp only; omega
/-- What is read without a fault: labels that may be, and a place within. -/
theorem readGo_ok (b : List UInt8) (i began : Nat) (l : List (List UInt8)) (size next : Nat) (hl : OkLabels l) (hs : size = l.flatten.length + l.length + 1) (hs2 : size ≤ 255) :
    (readGo b i began l size next).2.2 = 0 → (∃ l', (readGo b i began l size next).1 = joinB [46] l' ∧ OkLabels l' ∧ l'.flatten.length + l'.length + 1 ≤ 255) ∧ (next ≤ b.length → (readGo b i began l size next).2.1 ≤ b.length) := by
  rw [readGo]
  split
  · rename_i h
    dsimp only
    split
    · intro _
      refine ⟨⟨l, rfl, hl, by omega⟩, fun hn => ?_⟩
      dsimp only
      split <;> omega
    · split
      · split
        · split
          · intro h; cases h
          · intro h0
            obtain ⟨h1, h2⟩ := readGo_ok b _ _ l size _ hl hs hs2 h0
            exact ⟨h1, fun hn => h2 (by split <;> omega)⟩
        · intro h; cases h
      · split
        · intro h; cases h
        · split
          · intro h; cases h
          · split
            · intro h; cases h
            · rename_i h0 h192 h63 h46 h255
              intro hc
              have hlen : ((b.take (i + 1 + b[i].toNat)).drop (i + 1)).length = b[i].toNat := by rw [List.length_drop, List.length_take]; omega
              refine readGo_ok b _ began (l ++ [(b.take (i + 1 + b[i].toNat)).drop (i + 1)]) _ next (fun x hx => ?_) ?_ (by omega) hc
              · rcases List.mem_append.1 hx with hx | hx
                · exact hl x hx
                · rw [List.mem_singleton.1 hx, hlen]
                  exact ⟨by omega, by omega, h46⟩
              · simp only [List.flatten_append, List.length_append, List.flatten_cons, List.flatten_nil, List.length_cons, List.length_nil, hlen]
                omega
  · intro h; cases h
termination_by (began, b.length - i)
decreasing_by
  all_goals
    simp_wf
    first
    | (left; omega)
    | (right; omega)
theorem readGo_next (b : List UInt8) (n : Nat) (h : (readGo b n n [] 1 0).2.2 = 0) : (readGo b n n [] 1 0).2.1 ≤ b.length :=
  (readGo_ok b n n [] 1 0 (fun x hx => by cases hx) rfl (by omega) h).2 (Nat.zero_le _)
theorem readGo_may (b : List UInt8) (n : Nat) (h : (readGo b n n [] 1 0).2.2 = 0) : mayB (readGo b n n [] 1 0).1 = true := by
  obtain ⟨⟨l, e, hl, hs⟩, _⟩ := readGo_ok b n n [] 1 0 (fun x hx => by cases hx) rfl (by omega) h
  rw [e]
  unfold mayB
  rw [hl.labels, Bool.and_eq_true, List.all_eq_true]
  refine ⟨fun x hx => ?_, decide_eq_true (by unfold sizeB; omega)⟩
  obtain ⟨h2, h3, _⟩ := hl x hx
  unfold okLab; rw [decide_eq_true h2, decide_eq_true h3]; rfl
theorem nameP_at {B : List UInt8} {s : Rs} (h : s.at_ ≤ B.length) : (nameP B s).2.at_ ≤ B.length := by
  unfold nameP
  split
  · exact h
  · split
    · exact h
    · rename_i h2; exact readGo_next _ _ (Decidable.not_not.1 h2)
theorem beN_le (l : List UInt8) : beN l < 256 ^ l.length := by
  have : ∀ (l : List UInt8) (v : Nat), l.foldl (fun v c => v * 256 + c.toNat) v + 1 ≤ (v + 1) * 256 ^ l.length := by
    intro l
    induction l with
    | nil => intro v; simp
    | cons c l ih =>
      intro v
      have h1 := ih (v * 256 + c.toNat)
      have hc := c.toNat_lt
      rw [List.foldl_cons, List.length_cons, Nat.pow_succ]
      refine Nat.le_trans h1 ?_
      rw [Nat.mul_comm (256 ^ l.length) 256, ← Nat.mul_assoc]
      exact Nat.mul_le_mul_right _ (by omega)
  have := this l 0
  unfold beN
  omega
theorem or_place2 (k c : Nat) (hk : k < 1000000000000) (hc : c < 256) : bitsOf .or .i64 ((k * 256 : Nat) : Int) (c : Int) = ((k * 256 + c : Nat) : Int) := by
  have e := Nat.shiftLeft_add_eq_or_of_lt (i := 8) (show c < 2 ^ 8 from hc) k
  rw [Nat.shiftLeft_eq] at e
  show IntKind.i64.wrap (((BitVec.ofInt 64 ((k * 256 : Nat) : Int) ||| BitVec.ofInt 64 (c : Int)).toNat : Nat) : Int) = _
  rw [BitVec.toNat_or, BitVec.toNat_ofInt, BitVec.toNat_ofInt]
  have e1 : (((k * 256 : Nat) : Int) % ((2 ^ 64 : Nat) : Int)).toNat = k * 2 ^ 8 := by simp only [Nat.reducePow]; omega
  have e2 : (((c : Nat) : Int) % ((2 ^ 64 : Nat) : Int)).toNat = c := by simp only [Nat.reducePow]; omega
  rw [e1, e2, ← e, IntWalk.i64_in _ (by simp only [Nat.reducePow]; omega)]

theorem rd_fail (p : Nat) (vB : Value) (s : Rs) (c : Int) (g : G) (hr : Rr g p vB s) : Fn Try.prog 73 [.pointer (some ⟨p, 0, none⟩), .int .i64 c] g [61] fun _ h => Rr h p vB (failP s c) := by
  refine enterG [61] [] Try.func73 rfl Try.ntmps73 rfl (by simp) fun g1 hv ho => ?_
  replace hr := hr.view hv
  repeat (first|refine q1 ?_|refine q2 ?_|refine q3 ?_|refine q4 ?_|refine q5 ?_|refine q6 ?_|refine w_seq ?_|refine w_region ?_|refine w_ops_nil ?_|refine w_skip ?_|refine w_block ?_|refine w_blk ?_|refine q7 ?_|refine q8 ?_|refine q9 ?_)
  refine w_fldA (by decide) rfl rfl ?_
  refine w_load1 (v := .int .i64 s.e) hr rfl rfl rfl rfl ?_
  repeat (first|refine q1 ?_|refine q2 ?_|refine q3 ?_|refine q4 ?_|refine q5 ?_|refine q6 ?_|refine w_seq ?_|refine w_region ?_|refine w_ops_nil ?_|refine w_skip ?_|refine w_block ?_|refine w_blk ?_|refine q7 ?_|refine q8 ?_|refine q9 ?_)
  refine w_condP rfl (fun hx => ?_) (fun hx => ?_)
  · repeat (first|refine q1 ?_|refine q2 ?_|refine q3 ?_|refine q4 ?_|refine q5 ?_|refine q6 ?_|refine w_seq ?_|refine w_region ?_|refine w_ops_nil ?_|refine w_skip ?_|refine w_block ?_|refine w_blk ?_|refine q7 ?_|refine q8 ?_|refine q9 ?_)
    refine w_fldA (by decide) rfl rfl ?_
    refine w_store1 hr rfl rfl rfl (show 2 < 3 by decide) fun h1 hb1 hs1 hr => ?_
    repeat (first|refine q1 ?_|refine q2 ?_|refine q3 ?_|refine q4 ?_|refine q5 ?_|refine q6 ?_|refine w_seq ?_|refine w_region ?_|refine w_ops_nil ?_|refine w_skip ?_|refine w_block ?_|refine w_blk ?_|refine q7 ?_|refine q8 ?_|refine q9 ?_)
    refine w_endG (res0 rfl) hs1 fun h' hv' => ?_
    unfold failP; rw [if_pos hx]
    exact Cell.view hr hv' (.inr (by simp))
  · repeat (first|refine q1 ?_|refine q2 ?_|refine q3 ?_|refine q4 ?_|refine q5 ?_|refine q6 ?_|refine w_seq ?_|refine w_region ?_|refine w_ops_nil ?_|refine w_skip ?_|refine w_block ?_|refine w_blk ?_|refine q7 ?_|refine q8 ?_|refine q9 ?_)
    refine w_endG (res0 rfl) (Step.refl _ _ _) fun h' hv' => ?_
    unfold failP; rw [if_neg hx]
    exact hr.view hv'
end Go.Proofs.Ytnfokdhgajanpaa
