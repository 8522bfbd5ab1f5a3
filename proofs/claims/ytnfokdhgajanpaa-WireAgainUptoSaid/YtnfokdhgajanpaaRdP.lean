/- Messages: what was written is read as it was; what is read may be. No program is in sight here. No statement of the seat is proved here. -/
import Derived.Test.YtnfokdhgajanpaaRd5
set_option linter.unusedVariables false
set_option linter.unusedSimpArgs false
namespace Go.Proofs.Ytnfokdhgajanpaa
open Go
theorem rawP_ok {B A x R : List UInt8} {n : Nat} (hB : B = A ++ x ++ R) (hn : x.length = n) : rawP B n ⟨A.length, 0⟩ = (x, ⟨A.length + n, 0⟩) := by
  subst hB hn
  unfold rawP
  rw [if_neg (by simp only [ne_eq, not_true_eq_false, false_or, List.length_append]; omega)]
  have e : A.length + x.length = (A ++ x).length := by rw [List.length_append]
  dsimp only
  rw [e, List.take_left, List.drop_left]
theorem u8_nat (n : Nat) (h : n < 256) : (UInt8.ofNat n).toNat = n := ofNat_toNat n h
theorem beN_two {z : Int} (h : 0 ≤ z ∧ z ≤ 65535) : beN (twoB z) = z.toNat := by
  unfold beN twoB
  simp only [List.foldl_cons, List.foldl_nil]
  rw [u8_nat _ (by omega), u8_nat _ (by omega)]
  omega
theorem numP_two {B A R : List UInt8} {z : Int} (h : 0 ≤ z ∧ z ≤ 65535) (hB : B = A ++ twoB z ++ R) : numP B 2 ⟨A.length, 0⟩ = (z.toNat, ⟨A.length + 2, 0⟩) := by
  unfold numP
  rw [rawP_ok hB (twoB_len z), beN_two h]
theorem numP_four {B A R : List UInt8} {z : Int} (h : 0 ≤ z ∧ z ≤ 2147483647) (hB : B = A ++ (twoB (z / 65536) ++ twoB (z % 65536)) ++ R) : numP B 4 ⟨A.length, 0⟩ = (z.toNat, ⟨A.length + 4, 0⟩) := by
  unfold numP
  rw [rawP_ok (n := 4) hB rfl]
  have : beN (twoB (z / 65536) ++ twoB (z % 65536)) = z.toNat := by
    unfold beN twoB
    simp only [List.cons_append, List.nil_append, List.foldl_cons, List.foldl_nil]
    rw [u8_nat _ (by omega), u8_nat _ (by omega), u8_nat _ (by omega), u8_nat _ (by omega)]
    omega
  rw [this]
theorem nameP_ok {B0 X B t : List UInt8} {n e : Nat} (hm : mayB t = true) (h : Reads B0 n n (labelsB t) e) (hB : B = B0 ++ X) : nameP B ⟨n, 0⟩ = (t, ⟨e, 0⟩) := by
  subst hB
  unfold nameP
  rw [if_neg (by simp)]
  dsimp only
  rw [h.read hm X, if_neg (by simp)]
/-- A name that was written. -/
theorem WOk.nameW {A : List UInt8} {m : WM} (h : WOk A m) {t : List UInt8} (ht : mayB t = true) :
    WOk (A ++ (nameW A.length m (labelsB t)).1) (nameW A.length m (labelsB t)).2 ∧ ∀ X B, B = A ++ (nameW A.length m (labelsB t)).1 ++ X → nameP B ⟨A.length, 0⟩ = (t, ⟨(A ++ (nameW A.length m (labelsB t)).1).length, 0⟩) := by
  obtain ⟨e, h1, h2, _⟩ := h.name ht
  rw [e] at h1 h2
  exact ⟨h1, fun X B hB => nameP_ok ht h2 hB⟩
theorem askP_ok {A : List UInt8} {m : WM} {q : Qn} (h : WOk A m) (hq : qnMay q) :
    WOk (A ++ (qnW A.length m q).1) (qnW A.length m q).2 ∧ ∀ X B, B = A ++ (qnW A.length m q).1 ++ X → askP B ⟨A.length, 0⟩ = (q, ⟨(A ++ (qnW A.length m q).1).length, 0⟩) := by
  obtain ⟨h1, h2⟩ := h.nameW hq.1
  unfold qnW
  obtain ⟨W, hW⟩ : ∃ W, nameW A.length m (labelsB q.name) = W := ⟨_, rfl⟩
  rw [hW] at h1 h2 ⊢
  dsimp only
  constructor
  · have := (h1.append (twoB q.typ)).append (twoB q.cls)
    simpa [List.append_assoc] using this
  · intro X B hB
    have e1 : nameP B ⟨A.length, 0⟩ = (q.name, ⟨(A ++ W.1).length, 0⟩) := h2 (twoB q.typ ++ twoB q.cls ++ X) B (by rw [hB]; simp [List.append_assoc])
    have e2 : numP B 2 ⟨(A ++ W.1).length, 0⟩ = (q.typ.toNat, ⟨(A ++ W.1).length + 2, 0⟩) := numP_two hq.2.1 (R := twoB q.cls ++ X) (by rw [hB]; simp [List.append_assoc])
    have e3 : numP B 2 ⟨(A ++ W.1).length + 2, 0⟩ = (q.cls.toNat, ⟨(A ++ W.1).length + 2 + 2, 0⟩) := by
      have := numP_two (B := B) (A := A ++ W.1 ++ twoB q.typ) hq.2.2 (R := X) (by rw [hB]; simp [List.append_assoc])
      rw [show (A ++ W.1 ++ twoB q.typ).length = (A ++ W.1).length + 2 from List.length_append] at this
      exact this
    unfold askP
    rw [e1]; dsimp only
    rw [e2]; dsimp only
    rw [e3]; dsimp only
    rw [Int.toNat_of_nonneg hq.2.1.1, Int.toNat_of_nonneg hq.2.2.1]
    simp only [List.length_append, twoB_len, Nat.add_assoc]
theorem asksP_ok : ∀ (l : List Qn) (A : List UInt8) (m : WM), WOk A m → (∀ q ∈ l, qnMay q) →
    WOk (A ++ (foldW qnW A.length m l).1) (foldW qnW A.length m l).2 ∧ ∀ X B, B = A ++ (foldW qnW A.length m l).1 ++ X → asksP B l.length ⟨A.length, 0⟩ = (l, ⟨(A ++ (foldW qnW A.length m l).1).length, 0⟩)
  | [], A, m, h, _ => by
    simp only [foldW, List.append_nil]
    exact ⟨h, fun X B hB => rfl⟩
  | q :: l, A, m, h, hl => by
    obtain ⟨h1, h2⟩ := askP_ok h (hl q (by simp))
    have ih := asksP_ok l (A ++ (qnW A.length m q).1) (qnW A.length m q).2 h1 (fun x hx => hl x (by simp [hx]))
    rw [List.length_append] at ih
    simp only [foldW]
    obtain ⟨W, hW⟩ : ∃ W, qnW A.length m q = W := ⟨_, rfl⟩
    rw [hW] at h1 h2 ih ⊢
    obtain ⟨i1, i2⟩ := ih
    rw [List.append_assoc] at i1
    refine ⟨i1, fun X B hB => ?_⟩
    rw [List.length_cons, asksP, if_pos rfl]
    have e1 := h2 ((foldW qnW (A.length + W.1.length) W.2 l).1 ++ X) B (by rw [hB]; simp [List.append_assoc])
    have e2 := i2 X B (by rw [hB]; simp [List.append_assoc])
    rw [e1]; dsimp only
    rw [show (A ++ W.1).length = A.length + W.1.length from List.length_append]
    rw [e2, List.append_assoc]
theorem setB_first4 {a : Ad} (h : mayA a = true) (hf : a.fam = 4) : (⟨4, setB Ad.zero.b (first4 a)⟩ : Ad) = a := by
  have hm := of_decide_eq_true h
  have h4 : ∀ i : Fin 16, 4 ≤ i.val → a.b i = 0 := by
    rcases hm with h | h | h
    · omega
    · exact h.2
    · omega
  refine Ad.ext' hf.symm fun i => ?_
  match i with
  | ⟨0, _⟩ => rfl
  | ⟨1, _⟩ => rfl
  | ⟨2, _⟩ => rfl
  | ⟨3, _⟩ => rfl
  | ⟨k + 4, hk⟩ =>
    rw [h4 ⟨k + 4, hk⟩ (by simp)]
    simp [setB, first4, Ad.zero]
theorem setB_16 {a : Ad} (hf : a.fam = 6) : (⟨6, setB Ad.zero.b (bytes16 a.b)⟩ : Ad) = a := by
  refine Ad.ext' hf.symm fun i => ?_
  match i with
  | ⟨0, _⟩ => rfl | ⟨1, _⟩ => rfl | ⟨2, _⟩ => rfl | ⟨3, _⟩ => rfl | ⟨4, _⟩ => rfl | ⟨5, _⟩ => rfl | ⟨6, _⟩ => rfl | ⟨7, _⟩ => rfl
  | ⟨8, _⟩ => rfl | ⟨9, _⟩ => rfl | ⟨10, _⟩ => rfl | ⟨11, _⟩ => rfl | ⟨12, _⟩ => rfl | ⟨13, _⟩ => rfl | ⟨14, _⟩ => rfl | ⟨15, _⟩ => rfl
  | ⟨k + 16, hk⟩ => omega
theorem ttlP_ok {t : Int} (h : 0 ≤ t ∧ t ≤ 2147483647) : ttlP t.toNat = t := by
  unfold ttlP
  rw [if_neg (by omega), Int.toNat_of_nonneg h.1]
/-- A record's head that was written. -/
theorem headP_ok {A Z Y B : List UInt8} {r : Rc} {k : Int} (hr : recMay r) (hn : ∀ X B, B = A ++ Z ++ X → nameP B ⟨A.length, 0⟩ = (r.name, ⟨(A ++ Z).length, 0⟩)) (hk : 0 ≤ k ∧ k ≤ 65535) (hB : B = A ++ Z ++ fixB r ++ twoB k ++ Y) :
    headP B ⟨A.length, 0⟩ = (⟨r.name, r.typ, r.cls, r.ttl, Ad.zero, [], []⟩, k.toNat, ⟨(A ++ Z ++ fixB r ++ twoB k).length, 0⟩) := by
  obtain ⟨h1, h2, h3, h4, h5, h6⟩ := hr
  obtain ⟨C, hC⟩ : ∃ C, A ++ Z = C := ⟨_, rfl⟩
  have e1 := hn (fixB r ++ twoB k ++ Y) B (by rw [hB]; simp [List.append_assoc])
  rw [hC] at e1 hB ⊢
  have e2 : numP B 2 ⟨C.length, 0⟩ = (r.typ.toNat, ⟨C.length + 2, 0⟩) := numP_two h2 (R := twoB r.cls ++ twoB (r.ttl / 65536) ++ twoB (r.ttl % 65536) ++ twoB k ++ Y) (by rw [hB, fixB]; simp [List.append_assoc])
  have e3 : numP B 2 ⟨C.length + 2, 0⟩ = (r.cls.toNat, ⟨C.length + 2 + 2, 0⟩) := by
    have := numP_two (B := B) (A := C ++ twoB r.typ) h3 (R := twoB (r.ttl / 65536) ++ twoB (r.ttl % 65536) ++ twoB k ++ Y) (by rw [hB, fixB]; simp [List.append_assoc])
    rw [List.length_append, twoB_len] at this
    exact this
  have e4 : numP B 4 ⟨C.length + 2 + 2, 0⟩ = (r.ttl.toNat, ⟨C.length + 2 + 2 + 4, 0⟩) := by
    have := numP_four (B := B) (A := C ++ twoB r.typ ++ twoB r.cls) h4 (R := twoB k ++ Y) (by rw [hB, fixB]; simp [List.append_assoc])
    rw [List.length_append, List.length_append, twoB_len, twoB_len] at this
    exact this
  have e5 : numP B 2 ⟨C.length + 2 + 2 + 4, 0⟩ = (k.toNat, ⟨C.length + 2 + 2 + 4 + 2, 0⟩) := by
    have := numP_two (B := B) (A := C ++ fixB r) hk (R := Y) (by rw [hB])
    rw [List.length_append, fixB_len] at this
    exact this
  unfold headP
  rw [e1]; dsimp only
  rw [e2]; dsimp only
  rw [e3]; dsimp only
  rw [e4]; dsimp only
  rw [e5]; dsimp only
  rw [Int.toNat_of_nonneg h2.1, Int.toNat_of_nonneg h3.1, ttlP_ok h4]
  have : (C ++ fixB r ++ twoB k).length = C.length + 2 + 2 + 4 + 2 := by simp only [List.length_append, fixB_len, twoB_len]
  rw [this]
theorem rdRec_of {B : List UInt8} {s : Rs} {r0 r1 : Rc} {n : Nat} {s5 s6 : Rs} (hh : headP B s = (r0, n, s5)) (hfit : ¬ B.length < s5.at_ + n) (hd : dataStep B n r0 s5 = (r1, s6)) (ha : s6.at_ = s5.at_ + n) : rdRec B s = (r1, s6) := by
  unfold rdRec
  rw [hh]; dsimp only
  rw [if_neg hfit, hd]; dsimp only
  rw [if_neg (by omega)]
theorem rdRec_ok {A : List UInt8} {m : WM} {r : Rc} (h : WOk A m) (hr : recMay r) :
    WOk (A ++ (recW A.length m r).1) (recW A.length m r).2 ∧ ∀ X B, B = A ++ (recW A.length m r).1 ++ X → rdRec B ⟨A.length, 0⟩ = (r, ⟨(A ++ (recW A.length m r).1).length, 0⟩) := by
  have hr0 := hr
  obtain ⟨h1, h2, h3, h4, h5, h6⟩ := hr
  obtain ⟨w1, w2⟩ := h.nameW h1
  unfold recW
  obtain ⟨Z, hZ⟩ : ∃ Z, nameW A.length m (labelsB r.name) = Z := ⟨_, rfl⟩
  rw [hZ] at w1 w2 ⊢
  dsimp only
  by_cases t5 : r.typ = 5
  · rw [if_pos t5]
    rw [if_neg (by omega), if_neg (by omega), if_pos t5] at h6
    obtain ⟨g1, g2, g3⟩ := h6
    obtain ⟨Y, hY⟩ : ∃ Y, nameW (A.length + Z.1.length + 10) Z.2 (labelsB r.target) = Y := ⟨_, rfl⟩
    rw [hY]
    have hyl : Y.1.length ≤ 257 := by
      rw [← hY]; exact nameW_len257 g1 _ _
    have w3 : WOk (A ++ Z.1 ++ fixB r ++ twoB Y.1.length) Z.2 := (w1.append (fixB r)).append (twoB Y.1.length)
    have hlen : (A ++ Z.1 ++ fixB r ++ twoB Y.1.length).length = A.length + Z.1.length + 10 := by simp only [List.length_append, fixB_len, twoB_len]
    obtain ⟨v1, v2⟩ := w3.nameW g1
    rw [hlen, hY] at v1 v2
    have ea : A ++ (Z.1 ++ fixB r ++ twoB Y.1.length ++ Y.1) = A ++ Z.1 ++ fixB r ++ twoB Y.1.length ++ Y.1 := by simp [List.append_assoc]
    dsimp only
    rw [ea]
    refine ⟨v1, fun X B hB => ?_⟩
    have hh := headP_ok (A := A) (Z := Z.1) (Y := Y.1 ++ X) (B := B) (k := (Y.1.length : Int)) hr0 w2 (by omega) (by rw [hB]; simp [List.append_assoc])
    have hd := v2 X B hB
    rw [hlen] at hh
    rw [Int.toNat_natCast] at hh
    have hBl : B.length = A.length + Z.1.length + 10 + Y.1.length + X.length := by
      rw [hB, List.length_append, List.length_append, hlen]
    have el : (A ++ Z.1 ++ fixB r ++ twoB Y.1.length ++ Y.1).length = A.length + Z.1.length + 10 + Y.1.length := by rw [List.length_append, hlen]
    rw [el] at hd ⊢
    refine rdRec_of hh (by dsimp only; omega) ?_ rfl
    unfold dataStep
    dsimp only
    rw [if_neg (by omega), if_neg (by omega), if_pos t5, hd]
    dsimp only
    obtain ⟨rn, rt, rcl, rtt, ra, rtg, rd⟩ := r
    dsimp only at g2 g3
    subst g2 g3
    rfl
  · rw [if_neg t5]
    dsimp only
    have key : ∀ (k : Int) (body : List UInt8), dataB r = twoB k ++ body → 0 ≤ k ∧ k ≤ 65535 → k.toNat = body.length →
        (∀ B X, B = A ++ Z.1 ++ fixB r ++ twoB k ++ body ++ X → dataStep B body.length ⟨r.name, r.typ, r.cls, r.ttl, Ad.zero, [], []⟩ ⟨(A ++ Z.1 ++ fixB r ++ twoB k).length, 0⟩ = (r, ⟨(A ++ Z.1 ++ fixB r ++ twoB k).length + body.length, 0⟩)) →
        WOk (A ++ (Z.1 ++ fixB r ++ dataB r)) Z.2 ∧ ∀ X B, B = A ++ (Z.1 ++ fixB r ++ dataB r) ++ X → rdRec B ⟨A.length, 0⟩ = (r, ⟨(A ++ (Z.1 ++ fixB r ++ dataB r)).length, 0⟩) := by
      intro k body hdb hk hkl hds
      rw [hdb]
      have ea : A ++ (Z.1 ++ fixB r ++ (twoB k ++ body)) = A ++ Z.1 ++ fixB r ++ twoB k ++ body := by simp [List.append_assoc]
      rw [ea]
      refine ⟨((w1.append _).append _).append _, fun X B hB => ?_⟩
      have hh := headP_ok (A := A) (Z := Z.1) (Y := body ++ X) (B := B) hr0 w2 hk (by rw [hB]; simp [List.append_assoc])
      rw [hkl] at hh
      have el : (A ++ Z.1 ++ fixB r ++ twoB k ++ body).length = (A ++ Z.1 ++ fixB r ++ twoB k).length + body.length := List.length_append
      have hBl : B.length = (A ++ Z.1 ++ fixB r ++ twoB k).length + body.length + X.length := by
        rw [hB, List.length_append, el]
      rw [el]
      exact rdRec_of hh (by dsimp only; omega) (hds B X hB) rfl
    by_cases t1 : r.typ = 1
    · rw [if_pos t1] at h6
      obtain ⟨g1, g2, g3, g4⟩ := h6
      refine key 4 (first4 r.addr) (by unfold dataB; rw [if_pos t1]) (by omega) rfl (fun B X hB => ?_)
      unfold dataStep
      dsimp only
      rw [if_pos t1]
      unfold addrP
      rw [if_neg (show ¬ (first4 r.addr).length ≠ 4 from fun h => h rfl), rawP_ok (n := 4) hB rfl]
      dsimp only
      rw [setB_first4 g1 g2]
      obtain ⟨rn, rt, rcl, rtt, ra, rtg, rd⟩ := r
      dsimp only at g3 g4
      subst g3 g4
      rfl
    · rw [if_neg t1] at h6
      by_cases t28 : r.typ = 28
      · rw [if_pos t28] at h6
        obtain ⟨g1, g2, g3, g4⟩ := h6
        refine key 16 (bytes16 r.addr.b) (by unfold dataB; rw [if_neg t1, if_pos t28]) (by omega) rfl (fun B X hB => ?_)
        unfold dataStep
        dsimp only
        rw [if_neg t1, if_pos t28]
        unfold addrP
        rw [if_neg (show ¬ (bytes16 r.addr.b).length ≠ 16 from fun h => h rfl), rawP_ok (n := 16) hB rfl]
        dsimp only
        rw [setB_16 g2]
        obtain ⟨rn, rt, rcl, rtt, ra, rtg, rd⟩ := r
        dsimp only at g3 g4
        subst g3 g4
        rfl
      · rw [if_neg t28, if_neg t5] at h6
        obtain ⟨g1, g2⟩ := h6
        refine key (r.data.length : Int) r.data (by unfold dataB; rw [if_neg t1, if_neg t28]) (by omega) (Int.toNat_natCast _) (fun B X hB => ?_)
        unfold dataStep
        dsimp only
        rw [if_neg t1, if_neg t28, if_neg t5, rawP_ok hB rfl]
        dsimp only
        obtain ⟨rn, rt, rcl, rtt, ra, rtg, rd⟩ := r
        dsimp only at g1 g2
        subst g1 g2
        rfl
theorem recsP_ok : ∀ (l : List Rc) (A : List UInt8) (m : WM), WOk A m → (∀ r ∈ l, recMay r) →
    WOk (A ++ (foldW recW A.length m l).1) (foldW recW A.length m l).2 ∧ ∀ X B, B = A ++ (foldW recW A.length m l).1 ++ X → recsP B l.length ⟨A.length, 0⟩ = (l, ⟨(A ++ (foldW recW A.length m l).1).length, 0⟩)
  | [], A, m, h, _ => by
    simp only [foldW, List.append_nil]
    exact ⟨h, fun X B hB => rfl⟩
  | q :: l, A, m, h, hl => by
    obtain ⟨h1, h2⟩ := rdRec_ok h (hl q (by simp))
    have ih := recsP_ok l (A ++ (recW A.length m q).1) (recW A.length m q).2 h1 (fun x hx => hl x (by simp [hx]))
    rw [List.length_append] at ih
    simp only [foldW]
    obtain ⟨W, hW⟩ : ∃ W, recW A.length m q = W := ⟨_, rfl⟩
    rw [hW] at h1 h2 ih ⊢
    obtain ⟨i1, i2⟩ := ih
    rw [List.append_assoc] at i1
    refine ⟨i1, fun X B hB => ?_⟩
    rw [List.length_cons, recsP, if_pos rfl]
    have e1 := h2 ((foldW recW (A.length + W.1.length) W.2 l).1 ++ X) B (by rw [hB]; simp [List.append_assoc])
    have e2 := i2 X B (by rw [hB]; simp [List.append_assoc])
    rw [e1]; dsimp only
    rw [show (A ++ W.1).length = A.length + W.1.length from List.length_append]
    rw [e2, List.append_assoc]
end Go.Proofs.Ytnfokdhgajanpaa
