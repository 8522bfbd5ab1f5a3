/- Messages: whole messages read back; what is read may be. No program is in sight here. No statement of the seat is proved here. -/
import Derived.Test.YtnfokdhgajanpaaRdP
set_option linter.unusedVariables false
set_option linter.unusedSimpArgs false
namespace Go.Proofs.Ytnfokdhgajanpaa
open Go
theorem foldW_ge {α : Type} (f : Nat → WM → α → List UInt8 × WM) (hf : ∀ n m x, 1 ≤ (f n m x).1.length) : ∀ (l : List α) (n : Nat) (m : WM), l.length ≤ (foldW f n m l).1.length
  | [], n, m => by simp [foldW]
  | x :: l, n, m => by
    have ih := foldW_ge f hf l (n + (f n m x).1.length) (f n m x).2
    have := hf n m x
    simp only [foldW, List.length_append, List.length_cons]
    omega
theorem qnW_ge (n : Nat) (m : WM) (q : Qn) : 1 ≤ (qnW n m q).1.length := by
  have := nameW_len1 (labelsB q.name) n m
  simp only [qnW, List.length_append]; omega
theorem recW_ge (n : Nat) (m : WM) (r : Rc) : 1 ≤ (recW n m r).1.length := by
  have := nameW_len1 (labelsB r.name) n m
  unfold recW
  dsimp only
  split
  · simp only [List.length_append]; omega
  · simp only [List.length_append]; omega
theorem msW_len (m : Ms) : (msW m).length = 12 + (askW m).1.length + (ansW m (allR m)).1.length := by
  simp only [msW, List.length_append, headB_len]
theorem nB_head {B A R : List UInt8} {z : Int} {k n : Nat} {v : Nat} (hk : nB B k = (v, ⟨n, 0⟩)) (hn : n = A.length) (h : 0 ≤ z ∧ z ≤ 65535) (hB : B = A ++ twoB z ++ R) : nB B (k + 1) = (z.toNat, ⟨n + 2, 0⟩) := by
  rw [nB, hk]; dsimp only
  rw [hn]
  exact numP_two h hB
theorem readP_msW {m : Ms} (hm : msMay m) (hl : (msW m).length ≤ 1232) : readP (msW m) = (m, 0) := by
  obtain ⟨y1, y2, y3, y4, y5, y6⟩ := hm
  have hq := foldW_ge qnW qnW_ge m.asked 12 []
  have hr := foldW_ge recW recW_ge (allR m) (12 + (askW m).1.length) (askW m).2
  have hlen := msW_len m
  change m.asked.length ≤ (askW m).1.length at hq
  change (allR m).length ≤ (ansW m (allR m)).1.length at hr
  have hal : (allR m).length = m.ans.length + m.auth.length + m.more.length := by simp only [allR, List.length_append]
  obtain ⟨Y, hY⟩ : ∃ Y, (askW m).1 ++ (ansW m (allR m)).1 = Y := ⟨_, rfl⟩
  have hB : msW m = headB m ++ Y := by rw [← hY]; simp only [msW, List.append_assoc]
  obtain ⟨B, hBB⟩ : ∃ B, msW m = B := ⟨_, rfl⟩
  have n1 : nB B 1 = (m.id.toNat, ⟨2, 0⟩) := nB_head (k := 0) (A := []) rfl rfl y2 (R := twoB m.flags ++ twoB m.asked.length ++ twoB m.ans.length ++ twoB m.auth.length ++ twoB m.more.length ++ Y) (by rw [← hBB, hB, headB]; simp only [List.append_assoc, List.nil_append])
  have n2 : nB B 2 = (m.flags.toNat, ⟨4, 0⟩) := nB_head (A := twoB m.id) n1 rfl y3 (R := twoB m.asked.length ++ twoB m.ans.length ++ twoB m.auth.length ++ twoB m.more.length ++ Y) (by rw [← hBB, hB, headB]; simp only [List.append_assoc])
  have n3 : nB B 3 = (((m.asked.length : Int)).toNat, ⟨6, 0⟩) := nB_head (A := twoB m.id ++ twoB m.flags) n2 rfl (by omega) (R := twoB m.ans.length ++ twoB m.auth.length ++ twoB m.more.length ++ Y) (by rw [← hBB, hB, headB]; simp only [List.append_assoc])
  have n4 : nB B 4 = (((m.ans.length : Int)).toNat, ⟨8, 0⟩) := nB_head (A := twoB m.id ++ twoB m.flags ++ twoB m.asked.length) n3 rfl (by omega) (R := twoB m.auth.length ++ twoB m.more.length ++ Y) (by rw [← hBB, hB, headB]; simp only [List.append_assoc])
  have n5 : nB B 5 = (((m.auth.length : Int)).toNat, ⟨10, 0⟩) := nB_head (A := twoB m.id ++ twoB m.flags ++ twoB m.asked.length ++ twoB m.ans.length) n4 rfl (by omega) (R := twoB m.more.length ++ Y) (by rw [← hBB, hB, headB]; simp only [List.append_assoc])
  have n6 : nB B 6 = (((m.more.length : Int)).toNat, ⟨12, 0⟩) := nB_head (A := twoB m.id ++ twoB m.flags ++ twoB m.asked.length ++ twoB m.ans.length ++ twoB m.auth.length) n5 rfl (by omega) (R := Y) (by rw [← hBB, hB, headB])
  have i2 : (nB B 2).1 = m.flags.toNat := by rw [n2]
  obtain ⟨a1, a2⟩ := asksP_ok m.asked (headB m) [] (WOk.nil _) y1
  rw [headB_len] at a1 a2
  have e1 : asksP B m.asked.length ⟨12, 0⟩ = (m.asked, ⟨(headB m ++ (askW m).1).length, 0⟩) := a2 (ansW m (allR m)).1 B hBB.symm
  change WOk (headB m ++ (askW m).1) (askW m).2 at a1
  obtain ⟨A1, hA1⟩ : ∃ A1, headB m ++ (askW m).1 = A1 := ⟨_, rfl⟩
  have hA1l : A1.length = 12 + (askW m).1.length := by rw [← hA1, List.length_append, headB_len]
  rw [hA1] at a1 e1
  have hans : (ansW m (allR m)).1 = (foldW recW A1.length (askW m).2 (m.ans ++ m.auth ++ m.more)).1 := by rw [hA1l]; rfl
  rw [List.append_assoc, foldW_append, foldW_append] at hans
  dsimp only at hans
  obtain ⟨b1, b2⟩ := recsP_ok m.ans A1 (askW m).2 a1 y4
  obtain ⟨W1, hW1⟩ : ∃ W1, foldW recW A1.length (askW m).2 m.ans = W1 := ⟨_, rfl⟩
  rw [hW1] at b1 b2 hans
  obtain ⟨c1, c2⟩ := recsP_ok m.auth (A1 ++ W1.1) W1.2 b1 y5
  rw [show (A1 ++ W1.1).length = A1.length + W1.1.length from List.length_append] at c1 c2
  obtain ⟨W2, hW2⟩ : ∃ W2, foldW recW (A1.length + W1.1.length) W1.2 m.auth = W2 := ⟨_, rfl⟩
  rw [hW2] at c1 c2 hans
  obtain ⟨d1, d2⟩ := recsP_ok m.more (A1 ++ W1.1 ++ W2.1) W2.2 c1 y6
  rw [show (A1 ++ W1.1 ++ W2.1).length = A1.length + W1.1.length + W2.1.length from by rw [List.length_append, List.length_append]] at d1 d2
  obtain ⟨W3, hW3⟩ : ∃ W3, foldW recW (A1.length + W1.1.length + W2.1.length) W2.2 m.more = W3 := ⟨_, rfl⟩
  rw [hW3] at d2 hans
  have hB3 : B = A1 ++ W1.1 ++ W2.1 ++ W3.1 := by
    rw [← hBB, msW, hA1, hans]; simp only [List.append_assoc]
  have e2 := b2 (W2.1 ++ W3.1) B (by rw [hB3]; simp only [List.append_assoc])
  have e3 := c2 W3.1 B hB3
  have e4 := d2 [] B (by rw [hB3, List.append_nil])
  rw [show (A1 ++ W1.1).length = A1.length + W1.1.length from List.length_append] at e2
  rw [show (A1 ++ W1.1 ++ W2.1).length = A1.length + W1.1.length + W2.1.length from by rw [List.length_append, List.length_append]] at e3
  rw [← hB3] at e4
  have hlast : lastP B = ⟨B.length, 0⟩ := by
    unfold lastP
    rw [n3, n4, n5, n6]; dsimp only
    rw [Int.toNat_natCast, Int.toNat_natCast, Int.toNat_natCast, Int.toNat_natCast, e1]; dsimp only
    rw [e2]; dsimp only
    rw [e3]; dsimp only
    rw [e4]
  have hend : endP B = ⟨B.length, 0⟩ := by
    unfold endP
    rw [hlast, if_neg (by simp)]
  rw [hBB]
  unfold readP
  rw [if_neg (by rw [← hBB]; omega), hend, if_neg (by simp)]
  rw [n1, i2, n3, n4, n5, n6]; dsimp only
  rw [Int.toNat_natCast, Int.toNat_natCast, Int.toNat_natCast, Int.toNat_natCast, e1]; dsimp only
  rw [e2]; dsimp only
  rw [e3]; dsimp only
  rw [e4]; dsimp only
  rw [Int.toNat_of_nonneg y2.1, Int.toNat_of_nonneg y3.1]

/-! ### what is read may be -/
theorem failP_e (s : Rs) (c : Int) (hc : c ≠ 0) : (failP s c).e ≠ 0 := by
  unfold failP; dsimp only
  split
  · exact hc
  · assumption
theorem rawP_e {B : List UInt8} {n : Nat} {s : Rs} (h : (rawP B n s).2.e = 0) : s.e = 0 ∧ s.at_ + n ≤ B.length ∧ (rawP B n s).2.at_ = s.at_ + n := by
  unfold rawP at h ⊢
  split at h
  · exact absurd h (failP_e s 2 (by decide))
  · rename_i hn
    rw [if_neg hn]
    exact ⟨h, by omega, rfl⟩
theorem numP_e {B : List UInt8} {n : Nat} {s : Rs} (h : (numP B n s).2.e = 0) : s.e = 0 ∧ s.at_ + n ≤ B.length ∧ (numP B n s).2.at_ = s.at_ + n := rawP_e h
theorem numP_le2 (B : List UInt8) (s : Rs) : (numP B 2 s).1 ≤ 65535 := by
  have := beN_le (rawP B 2 s).1
  rw [rawP_len] at this
  unfold numP; dsimp only; omega
/-- The place behind a name is behind its place. -/
theorem readGo_after (b : List UInt8) (i began : Nat) (l : List (List UInt8)) (size next : Nat) :
    (readGo b i began l size next).2.2 = 0 → if next = 0 then i < (readGo b i began l size next).2.1 else (readGo b i began l size next).2.1 = next := by
  rw [readGo]
  split
  · rename_i h
    dsimp only
    split
    · intro _
      dsimp only
      split <;> (try split) <;> omega
    · split
      · split
        · split
          · intro h; cases h
          · intro h0
            obtain ⟨nx, hnx⟩ : ∃ nx, (if next = 0 then i + 2 else next) = nx := ⟨_, rfl⟩
            rw [hnx] at h0 ⊢
            have := readGo_after b _ _ l size nx h0
            have hnz : nx ≠ 0 := by rw [← hnx]; split <;> omega
            rw [if_neg hnz] at this
            rw [this]
            by_cases hn : next = 0
            · rw [if_pos hn] at hnx ⊢; omega
            · rw [if_neg hn] at hnx ⊢; omega
        · intro h; cases h
      · split
        · intro h; cases h
        · split
          · intro h; cases h
          · split
            · intro h; cases h
            · intro hc
              have := readGo_after b _ began _ _ next hc
              by_cases hn : next = 0
              · rw [if_pos hn] at this ⊢; omega
              · rw [if_neg hn] at this ⊢; exact this
  · intro h; cases h
termination_by (began, b.length - i)
decreasing_by
  all_goals
    simp_wf
    first
    | (left; omega)
    | (right; omega)
theorem nameP_e {B : List UInt8} {s : Rs} (h : (nameP B s).2.e = 0) : s.e = 0 ∧ mayB (nameP B s).1 = true ∧ s.at_ < (nameP B s).2.at_ := by
  unfold nameP at h ⊢
  split at h
  · rename_i h1; exact absurd h h1
  · rename_i h1
    rw [if_neg h1]
    split at h
    · rename_i h2; exact absurd h h2
    · rename_i h2
      rw [if_neg h2]
      have h3 := Decidable.not_not.1 h2
      have h4 := readGo_after B s.at_ s.at_ [] 1 0 h3
      rw [if_pos rfl] at h4
      exact ⟨Decidable.not_not.1 h1, readGo_may B s.at_ h3, h4⟩
theorem askP_e {B : List UInt8} {s : Rs} (h : (askP B s).2.e = 0) : s.e = 0 ∧ qnMay (askP B s).1 ∧ s.at_ + 5 ≤ (askP B s).2.at_ := by
  unfold askP at h ⊢
  dsimp only at h ⊢
  obtain ⟨a1, a2, a3⟩ := numP_e h
  obtain ⟨b1, b2, b3⟩ := numP_e a1
  obtain ⟨c1, c2, c3⟩ := nameP_e b1
  have d1 := numP_le2 B (nameP B s).2
  have d2 := numP_le2 B (numP B 2 (nameP B s).2).2
  exact ⟨c1, ⟨c2, ⟨by dsimp only; omega, by dsimp only; omega⟩, ⟨by dsimp only; omega, by dsimp only; omega⟩⟩, by omega⟩
theorem asksP_e {B : List UInt8} : ∀ (k : Nat) (s : Rs), (asksP B k s).2.e = 0 → s.e = 0 ∧ (∀ q ∈ (asksP B k s).1, qnMay q) ∧ s.at_ + 5 * (asksP B k s).1.length ≤ (asksP B k s).2.at_
  | 0, s, h => ⟨h, by simp [asksP], by simp [asksP]⟩
  | k + 1, s, h => by
    rw [asksP] at h ⊢
    split at h
    · rename_i he
      rw [if_pos he]
      dsimp only at h ⊢
      obtain ⟨a1, a2, a3⟩ := asksP_e k _ h
      obtain ⟨b1, b2, b3⟩ := askP_e a1
      refine ⟨he, fun q hq => ?_, by simp only [List.length_cons]; omega⟩
      rcases List.mem_cons.1 hq with rfl | hq
      · exact b2
      · exact a2 q hq
    · rename_i he; exact absurd h he
/-- What a record's data may be. -/
def tailMay (r : Rc) : Prop :=
  if r.typ = 1 then mayA r.addr = true ∧ r.addr.fam = 4 ∧ r.target = [] ∧ r.data = []
   else if r.typ = 28 then mayA r.addr = true ∧ r.addr.fam = 6 ∧ r.target = [] ∧ r.data = []
   else if r.typ = 5 then mayB r.target = true ∧ r.addr = Ad.zero ∧ r.data = []
   else r.addr = Ad.zero ∧ r.target = []
theorem dataStep_e {B : List UInt8} {n : Nat} {r : Rc} {s : Rs} (h : (dataStep B n r s).2.e = 0) (h1 : r.addr = Ad.zero) (h2 : r.target = []) (h3 : r.data = []) (hn : n ≤ 65535) :
    s.e = 0 ∧ (dataStep B n r s).1.name = r.name ∧ (dataStep B n r s).1.typ = r.typ ∧ (dataStep B n r s).1.cls = r.cls ∧ (dataStep B n r s).1.ttl = r.ttl ∧ tailMay (dataStep B n r s).1 ∧ (dataStep B n r s).1.data.length ≤ B.length ∧ (dataStep B n r s).1.data.length ≤ 65535 := by
  unfold dataStep at h ⊢
  by_cases t1 : r.typ = 1
  · rw [if_pos t1] at h ⊢
    unfold addrP at h ⊢
    split at h
    · exact absurd h (failP_e s 2 (by decide))
    · rename_i hsz
      rw [if_neg hsz]
      dsimp only at h ⊢
      obtain ⟨a1, a2, a3⟩ := rawP_e h
      have hlen := rawP_len B 4 s
      refine ⟨a1, rfl, rfl, rfl, rfl, ?_, by rw [h3]; simp, by rw [h3]; simp⟩
      unfold tailMay
      dsimp only
      rw [if_pos t1]
      refine ⟨decide_eq_true (.inr (.inl ⟨rfl, fun i hi => ?_⟩)), rfl, h2, h3⟩
      dsimp only
      unfold setB
      rw [List.getElem?_eq_none (by omega), h1]; rfl
  · rw [if_neg t1] at h ⊢
    by_cases t28 : r.typ = 28
    · rw [if_pos t28] at h ⊢
      unfold addrP at h ⊢
      split at h
      · exact absurd h (failP_e s 2 (by decide))
      · rename_i hsz
        rw [if_neg hsz]
        dsimp only at h ⊢
        obtain ⟨a1, a2, a3⟩ := rawP_e h
        refine ⟨a1, rfl, rfl, rfl, rfl, ?_, by rw [h3]; simp, by rw [h3]; simp⟩
        unfold tailMay
        dsimp only
        rw [if_neg t1, if_pos t28]
        exact ⟨decide_eq_true (.inr (.inr rfl)), rfl, h2, h3⟩
    · rw [if_neg t28] at h ⊢
      by_cases t5 : r.typ = 5
      · rw [if_pos t5] at h ⊢
        dsimp only at h ⊢
        obtain ⟨a1, a2, a3⟩ := nameP_e h
        refine ⟨a1, rfl, rfl, rfl, rfl, ?_, by rw [h3]; simp, by rw [h3]; simp⟩
        unfold tailMay
        dsimp only
        rw [if_neg t1, if_neg t28, if_pos t5]
        exact ⟨a2, h1, h3⟩
      · rw [if_neg t5] at h ⊢
        dsimp only at h ⊢
        obtain ⟨a1, a2, a3⟩ := rawP_e h
        have hlen := rawP_len B n s
        refine ⟨a1, rfl, rfl, rfl, rfl, ?_, by omega, by omega⟩
        unfold tailMay
        dsimp only
        rw [if_neg t1, if_neg t28, if_neg t5]
        exact ⟨h1, h2⟩
theorem ttlP_range (t : Nat) : 0 ≤ ttlP t ∧ ttlP t ≤ 2147483647 := by
  unfold ttlP; split <;> omega
theorem rdRec_e {B : List UInt8} {s : Rs} (h : (rdRec B s).2.e = 0) : s.e = 0 ∧ recMay (rdRec B s).1 ∧ (rdRec B s).1.data.length ≤ B.length ∧ s.at_ + 11 ≤ (rdRec B s).2.at_ := by
  unfold rdRec at h ⊢
  split at h
  · exact absurd h (failP_e _ 2 (by decide))
  · rename_i h1
    rw [if_neg h1]
    split at h
    · exact absurd h (failP_e _ 2 (by decide))
    · rename_i h2
      rw [if_neg h2]
      have hn : (headP B s).2.1 ≤ 65535 := numP_le2 _ _
      obtain ⟨a1, a2, a3, a4, a5, a6, a7, a8⟩ := dataStep_e h rfl rfl rfl hn
      have hat := Decidable.not_not.1 h2
      have e0 : (headP B s).1.name = (nameP B s).1 := rfl
      have e1 : (headP B s).1.typ = ((numP B 2 (nameP B s).2).1 : Int) := rfl
      have e2 : (headP B s).1.cls = ((numP B 2 (numP B 2 (nameP B s).2).2).1 : Int) := rfl
      have e3 : (headP B s).1.ttl = ttlP (numP B 4 (numP B 2 (numP B 2 (nameP B s).2).2).2).1 := rfl
      have e4 : (headP B s).2.2 = (numP B 2 (numP B 4 (numP B 2 (numP B 2 (nameP B s).2).2).2).2).2 := rfl
      rw [e4] at a1
      have e5 := congrArg Rs.at_ e4
      obtain ⟨b1, b2, b3⟩ := numP_e a1
      obtain ⟨c1, c2, c3⟩ := numP_e b1
      obtain ⟨d1, d2, d3⟩ := numP_e c1
      obtain ⟨f1, f2, f3⟩ := numP_e d1
      obtain ⟨g1, g2, g3⟩ := nameP_e f1
      have u1 := numP_le2 B (nameP B s).2
      have u2 := numP_le2 B (numP B 2 (nameP B s).2).2
      have u3 := ttlP_range (numP B 4 (numP B 2 (numP B 2 (nameP B s).2).2).2).1
      refine ⟨g1, ⟨by rw [a2, e0]; exact g2, ⟨by rw [a3, e1]; omega, by rw [a3, e1]; omega⟩, ⟨by rw [a4, e2]; omega, by rw [a4, e2]; omega⟩, by rw [a5, e3]; exact u3, a8, a6⟩, a7, by omega⟩
theorem recsP_e {B : List UInt8} : ∀ (k : Nat) (s : Rs), (recsP B k s).2.e = 0 → s.e = 0 ∧ (∀ r ∈ (recsP B k s).1, recMay r ∧ r.data.length ≤ B.length) ∧ s.at_ + 11 * (recsP B k s).1.length ≤ (recsP B k s).2.at_
  | 0, s, h => ⟨h, by simp [recsP], by simp [recsP]⟩
  | k + 1, s, h => by
    rw [recsP] at h ⊢
    split at h
    · rename_i he
      rw [if_pos he]
      dsimp only at h ⊢
      obtain ⟨a1, a2, a3⟩ := recsP_e k _ h
      obtain ⟨b1, b2, b3, b4⟩ := rdRec_e a1
      refine ⟨he, fun q hq => ?_, by simp only [List.length_cons]; omega⟩
      rcases List.mem_cons.1 hq with rfl | hq
      · exact ⟨b2, b3⟩
      · exact a2 q hq
    · rename_i he; exact absurd h he
theorem recW_len3 {r : Rc} (h : recMay r) (n : Nat) (m : WM) : (recW n m r).1.length ≤ 600 + r.data.length := by
  have h1 := nameW_len257 h.1 n m
  have h2 := dataB_len r
  unfold recW
  dsimp only
  split
  · rename_i ht
    have hmt : mayB r.target = true := by
      have h6 := h.2.2.2.2.2
      rw [if_neg (by omega), if_neg (by omega), if_pos ht] at h6; exact h6.1
    have h4 := nameW_len257 hmt (n + (nameW n m (labelsB r.name)).1.length + 10) (nameW n m (labelsB r.name)).2
    simp only [List.length_append, twoB_len, fixB_len]; omega
  · simp only [List.length_append, fixB_len]; omega
theorem readP_may {B : List UInt8} (h : (readP B).2 = 0) : msMay (readP B).1 ∧ Small (readP B).1 := by
  unfold readP at h ⊢
  split at h
  · cases h
  · rename_i h1
    rw [if_neg h1]
    split at h
    · rename_i h2; exact absurd h h2
    · rename_i h2
      rw [if_neg h2]
      have he := Decidable.not_not.1 h2
      have hl : (lastP B).e = 0 ∧ (lastP B).at_ = B.length := by
        unfold endP at he
        split at he
        · exact absurd he (failP_e _ 2 (by decide))
        · rename_i h3; exact ⟨he, Decidable.not_not.1 h3⟩
      obtain ⟨he, hat⟩ := hl
      unfold lastP at he hat
      obtain ⟨a1, a2, a3⟩ := recsP_e _ _ he
      obtain ⟨b1, b2, b3⟩ := recsP_e _ _ a1
      obtain ⟨c1, c2, c3⟩ := recsP_e _ _ b1
      obtain ⟨d1, d2, d3⟩ := asksP_e _ _ c1
      have hm : msMay (⟨((nB B 1).1 : Int), ((nB B 2).1 : Int), (asksP B (nB B 3).1 (nB B 6).2).1, (recsP B (nB B 4).1 (asksP B (nB B 3).1 (nB B 6).2).2).1, (recsP B (nB B 5).1 (recsP B (nB B 4).1 (asksP B (nB B 3).1 (nB B 6).2).2).2).1,
          (recsP B (nB B 6).1 (recsP B (nB B 5).1 (recsP B (nB B 4).1 (asksP B (nB B 3).1 (nB B 6).2).2).2).2).1⟩ : Ms) := by
        have u1 := nB_le B 1
        have u2 := nB_le B 2
        exact ⟨d2, ⟨by dsimp only; omega, by dsimp only; omega⟩, ⟨by dsimp only; omega, by dsimp only; omega⟩, fun r hr => (c2 r hr).1, fun r hr => (b2 r hr).1, fun r hr => (a2 r hr).1⟩
      refine ⟨hm, ?_⟩
      generalize hmm : (⟨((nB B 1).1 : Int), ((nB B 2).1 : Int), (asksP B (nB B 3).1 (nB B 6).2).1, (recsP B (nB B 4).1 (asksP B (nB B 3).1 (nB B 6).2).2).1, (recsP B (nB B 5).1 (recsP B (nB B 4).1 (asksP B (nB B 3).1 (nB B 6).2).2).2).1,
          (recsP B (nB B 6).1 (recsP B (nB B 5).1 (recsP B (nB B 4).1 (asksP B (nB B 3).1 (nB B 6).2).2).2).2).1⟩ : Ms) = m at hm
      have f1 : m.asked = (asksP B (nB B 3).1 (nB B 6).2).1 := by rw [← hmm]
      have f2 : m.ans = (recsP B (nB B 4).1 (asksP B (nB B 3).1 (nB B 6).2).2).1 := by rw [← hmm]
      have f3 : m.auth = (recsP B (nB B 5).1 (recsP B (nB B 4).1 (asksP B (nB B 3).1 (nB B 6).2).2).2).1 := by rw [← hmm]
      have f4 : m.more = (recsP B (nB B 6).1 (recsP B (nB B 5).1 (recsP B (nB B 4).1 (asksP B (nB B 3).1 (nB B 6).2).2).2).2).1 := by rw [← hmm]
      rw [← f1] at d3 d2
      rw [← f2] at c3 c2
      rw [← f3] at b3 b2
      rw [← f4] at a3 a2
      clear hmm f1 f2 f3 f4
      have hall : ∀ r ∈ allR m, recMay r ∧ r.data.length ≤ B.length := by
        intro r hr
        simp only [allR, List.mem_append] at hr
        rcases hr with (h | h) | h
        · exact c2 r h
        · exact b2 r h
        · exact a2 r h
      have hcl : (allR m).length = m.ans.length + m.auth.length + m.more.length := by simp only [allR, List.length_append]
      have e1 := foldW_len qnW 261 m.asked 12 [] (fun q hq n m => qnW_len (d2 q hq) n m)
      have e2 := foldW_len recW 1832 (allR m) (12 + (askW m).1.length) (askW m).2 (fun r hr n m => by have h1 := recW_len3 (hall r hr).1 n m; have h2 := (hall r hr).2; omega)
      change (askW m).1.length ≤ 261 * m.asked.length at e1
      change (ansW m (allR m)).1.length ≤ 1832 * (allR m).length at e2
      have e3 := msW_len m
      exact ⟨show (msW m).length ≤ 900000 by omega, show m.asked.length + 2 * (allR m).length ≤ 3500 by omega⟩
end Go.Proofs.Ytnfokdhgajanpaa
