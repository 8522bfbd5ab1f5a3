/- Messages that may be: plain laws; how arguments are read. No statement of the seat is proved here. -/
import Derived.Test.YtnfokdhgajanpaaWirA
import Derived.Test.YtnfokdhgajanpaaRow
set_option linter.unusedVariables false
set_option linter.unusedSimpArgs false
namespace Go.Proofs.Ytnfokdhgajanpaa
open Go

theorem foldW_len {α : Type} (f : Nat → WM → α → List UInt8 × WM) (b : Nat) : ∀ (l : List α) (n : Nat) (m : WM), (∀ x ∈ l, ∀ n m, (f n m x).1.length ≤ b) → (foldW f n m l).1.length ≤ b * l.length
  | [], n, m, _ => by simp [foldW]
  | x :: l, n, m, h => by
    have ih := foldW_len f b l (n + (f n m x).1.length) (f n m x).2 (fun y hy => h y (by simp [hy]))
    have := h x (by simp) n m
    simp only [foldW, List.length_append, List.length_cons, Nat.mul_add]
    omega
theorem nameW_len257 {s : List UInt8} (h : mayB s = true) (n : Nat) (m : WM) : (nameW n m (labelsB s)).1.length ≤ 257 := by
  have h4 := nameW_len (labelsB s) n m
  have h5 := may_size h
  unfold sizeB at h5
  omega
theorem qnW_len {q : Qn} (h : qnMay q) (n : Nat) (m : WM) : (qnW n m q).1.length ≤ 261 := by
  have := nameW_len257 h.1 n m
  simp only [qnW, List.length_append, twoB_len]; omega
theorem dataB_len (r : Rc) : (dataB r).length ≤ 18 + r.data.length := by
  unfold dataB
  split
  · simp only [List.length_append, twoB_len, first4, List.length_cons, List.length_nil]; omega
  · split
    · simp only [List.length_append, twoB_len, bytes16, List.length_cons, List.length_nil]; omega
    · simp only [List.length_append, twoB_len]; omega
theorem recW_len1 {r : Rc} (h : recMay r) (n : Nat) (m : WM) : (recW n m r).1.length ≤ 66100 := by
  have h1 := nameW_len257 h.1 n m
  have h2 := dataB_len r
  have h3 := h.2.2.2.2.1
  unfold recW
  dsimp only
  split
  · rename_i ht
    have hmt : mayB r.target = true := by
      have h6 := h.2.2.2.2.2
      rw [if_neg (by omega), if_neg (by omega), if_pos ht] at h6; exact h6.1
    have h4 := nameW_len257 hmt (n + (nameW n m (labelsB r.name)).1.length + 10) (nameW n m (labelsB r.name)).2
    simp only [List.length_append, twoB_len, fixB_len]; omega
  · simp only [List.length_append, fixB_len]; omega
theorem small_of {m : Ms} (h : msMay m) (h1 : m.asked.length ≤ 3) (h2 : (allR m).length ≤ 12) : Small m := by
  obtain ⟨y1, y2, y3, y4, y5, y6⟩ := h
  have hall : ∀ r ∈ allR m, recMay r := by
    intro r hr
    simp only [allR, List.mem_append] at hr
    rcases hr with (h | h) | h
    · exact y4 r h
    · exact y5 r h
    · exact y6 r h
  have e1 := foldW_len qnW 261 m.asked 12 [] (fun q hq n m => qnW_len (y1 q hq) n m)
  have e2 := foldW_len recW 66100 (allR m) (12 + (askW m).1.length) (askW m).2 (fun r hr n m => recW_len1 (hall r hr) n m)
  refine ⟨?_, by omega⟩
  simp only [msW, ansW, List.length_append, headB_len]
  unfold askW at e2 ⊢
  omega
theorem four_may (n : Nat) : mayA (of4 n) = true := by
  unfold mayA
  refine decide_eq_true (.inr (.inl ⟨rfl, fun i hi => ?_⟩))
  match i, hi with
  | ⟨k + 4, _⟩, _ => rfl
theorem goodA_fam (a : Ad) : (goodA a).fam = 4 ∨ (goodA a).fam = 6 := by
  unfold goodA; split
  · exact .inl rfl
  · exact .inr rfl
theorem map_may (a : Ad) : mayA (mapA (goodA a)) = true ∧ (mapA (goodA a)).fam = 6 := by
  have h6 : (mapA (goodA a)).fam = 6 := by
    unfold mapA; split
    · rfl
    · rename_i h; rcases goodA_fam a with e | e
      · exact absurd e h
      · exact e
  exact ⟨decide_eq_true (.inr (.inr h6)), h6⟩
theorem good_rec (r : Rc) : recMay (goodRc r) := by
  have hw : ∀ x : Int, 0 ≤ x % 65536 ∧ x % 65536 ≤ 65535 := fun x => by omega
  have ht : ∀ x : Int, 0 ≤ x % 2147483648 ∧ x % 2147483648 ≤ 2147483647 := fun x => by omega
  unfold goodRc
  split
  · exact ⟨good_may _, by show (0 : Int) ≤ 1 ∧ (1 : Int) ≤ 65535; omega, hw _, ht _, by simp, by rw [if_pos rfl]; exact ⟨four_may _, rfl, rfl, rfl⟩⟩
  · split
    · exact ⟨good_may _, by show (0 : Int) ≤ 28 ∧ (28 : Int) ≤ 65535; omega, hw _, ht _, by simp, by rw [if_neg (show ¬ (28 : Int) = 1 by decide), if_pos rfl]; exact ⟨(map_may _).1, (map_may _).2, rfl, rfl⟩⟩
    · split
      · exact ⟨good_may _, by show (0 : Int) ≤ 5 ∧ (5 : Int) ≤ 65535; omega, hw _, ht _, by simp, by rw [if_neg (show ¬ (5 : Int) = 1 by decide), if_neg (show ¬ (5 : Int) = 28 by decide), if_pos rfl]; exact ⟨good_may _, rfl, rfl⟩⟩
      · exact ⟨good_may _, by show (0 : Int) ≤ 41 ∧ (41 : Int) ≤ 65535; omega, hw _, ht _, by simp only [List.length_take]; omega, by rw [if_neg (show ¬ (41 : Int) = 1 by decide), if_neg (show ¬ (41 : Int) = 28 by decide), if_neg (show ¬ (41 : Int) = 5 by decide)]; exact ⟨rfl, rfl⟩⟩
theorem good_ms (m : Ms) : msMay (goodMs m) := by
  have hr : ∀ l : List Rc, ∀ r ∈ (l.take 3).map goodRc, recMay r := by
    intro l r hr
    obtain ⟨x, _, rfl⟩ := List.mem_map.1 hr
    exact good_rec x
  refine ⟨?_, by show 0 ≤ m.id % 65536 ∧ m.id % 65536 ≤ 65535; omega, by show 0 ≤ m.flags % 65536 ∧ m.flags % 65536 ≤ 65535; omega, hr _, hr _, hr _⟩
  intro q hq
  obtain ⟨x, _, rfl⟩ := List.mem_map.1 hq
  exact ⟨good_may _, by show 0 ≤ x.typ % 65536 ∧ x.typ % 65536 ≤ 65535; omega, by show 0 ≤ x.cls % 65536 ∧ x.cls % 65536 ≤ 65535; omega⟩
theorem good_small (m : Ms) : Small (goodMs m) := by
  refine small_of (good_ms m) (by simp only [goodMs, List.length_map, List.length_take]; omega) ?_
  simp only [allR, goodMs, List.length_append, List.length_map, List.length_take]; omega
theorem msMay_ok {m : Ms} (h : msMay m) : MsOk m := by
  obtain ⟨y1, y2, y3, y4, y5, y6⟩ := h
  have hr : ∀ r : Rc, recMay r → RcOk r := fun r h => by have := rec_len h; exact ⟨by omega, by omega⟩
  exact ⟨fun q hq => by have := may_len (y1 q hq).1; omega, fun r h => hr r (y4 r h), fun r h => hr r (y5 r h), fun r h => hr r (y6 r h)⟩

/-- A message whose lists are read only for ever. -/
def Ms0 (g : G) (vs : List Value) (m : Ms) : Prop :=
  ∃ vq va vu vm, vs = [.int .i64 m.id, .int .i64 m.flags, vq, va, vu, vm] ∧ Rd g 0 El.qn vq m.asked ∧ Rd g 0 El.rc va m.ans ∧ Rd g 0 El.rc vu m.auth ∧ Rd g 0 El.rc vm m.more
theorem Ms0.r {g : G} {vs : List Value} {m : Ms} (hm : Ms0 g vs m) : MsR g vs m := by
  obtain ⟨vq, va, vu, vm, e, h1, h2, h3, h4⟩ := hm
  exact ⟨vq, va, vu, vm, e, h1.x, h2.x, h3.x, h4.x⟩
theorem Ms0.go {g h : G} {vs : List Value} {m : Ms} {M : List Nat} (hm : Ms0 g vs m) (hs : Step [] M g h) (hM : 0 ∉ M := by simp) : Ms0 h vs m := by
  obtain ⟨vq, va, vu, vm, e, h1, h2, h3, h4⟩ := hm
  exact ⟨vq, va, vu, vm, e, h1.go hs hM, h2.go hs hM, h3.go hs hM, h4.go hs hM⟩
theorem Ms0.view {g h : G} {vs : List Value} {m : Ms} {M : List Nat} (hm : Ms0 g vs m) (hv : View M g h) : Ms0 h vs m := by
  obtain ⟨vq, va, vu, vm, e, h1, h2, h3, h4⟩ := hm
  exact ⟨vq, va, vu, vm, e, h1.view hv (.inl rfl), h2.view hv (.inl rfl), h3.view hv (.inl rfl), h4.view hv (.inl rfl)⟩

/-! ### arguments -/
section
def adOf (x : Int × {l : List UInt8 // l.length = 16}) : Ad := ⟨x.1, fun i => x.2.1[i.val]'(by rw [x.2.2]; exact i.isLt)⟩
theorem opens_ad : Opens Try.prog 50 El.ad (fun _ _ _ => True) := by
  apply Opens.as (E := El.pair El.int (El.arr El.u8 16 (by decide))) (f := adOf)
  case hsz => rfl
  case h =>
    apply opens_struct (P := Try.prog) (t := 50)
    case hc => kernel_rfl
    apply opensF_cons
    case ho => rfl
    case h => exact opens_i64 (by kernel_rfl)
    case ho' => rfl
    apply opensF_one
    case ho => rfl
    case h => exact opens_array (e := 5) (opens_u8 (by kernel_rfl)) (by decide) (by kernel_rfl)
  case he =>
    intro w y n _
    obtain ⟨f, l, hl⟩ := y
    match l, hl with
    | [b0, b1, b2, b3, b4, b5, b6, b7, b8, b9, b10, b11, b12, b13, b14, b15], _ => rfl
  case hR =>
    exact fun _ _ _ _ => trivial
theorem opens_qn : Opens Try.prog 68 El.qn (fun _ q n => q.name.length ≤ n) := by
  apply Opens.as (E := El.pair El.str (El.pair El.int El.int)) (f := (fun x => ⟨x.1, x.2.1, x.2.2⟩))
  case hsz => rfl
  case h =>
    apply opens_struct (P := Try.prog) (t := 68)
    case hc => kernel_rfl
    apply opensF_cons
    case ho => rfl
    case h => exact opens_str (by kernel_rfl)
    case ho' => rfl
    apply opensF_cons
    case ho => rfl
    case h => exact opens_i64 (by kernel_rfl)
    case ho' => rfl
    apply opensF_one
    case ho => rfl
    case h => exact opens_i64 (by kernel_rfl)
  case he =>
    exact fun w y n _ => rfl
  case hR =>
    intro w y n h
    obtain ⟨m, h1, ⟨k, h2, h3, _⟩, _⟩ := h
    dsimp only
    omega
theorem opens_rc : Opens Try.prog 52 El.rc (fun _ r n => r.name.length ≤ n ∧ r.target.length ≤ n ∧ r.data.length ≤ n) := by
  apply Opens.as (E := El.pair El.str (El.pair El.int (El.pair El.int (El.pair El.int (El.pair El.ad (El.pair El.str El.str)))))) (f := (fun x => ⟨x.1, x.2.1, x.2.2.1, x.2.2.2.1, x.2.2.2.2.1, x.2.2.2.2.2.1, x.2.2.2.2.2.2⟩))
  case hsz => rfl
  case h =>
    apply opens_struct (P := Try.prog) (t := 52)
    case hc => kernel_rfl
    apply opensF_cons
    case ho => rfl
    case h => exact opens_str (by kernel_rfl)
    case ho' => rfl
    apply opensF_cons
    case ho => rfl
    case h => exact opens_i64 (by kernel_rfl)
    case ho' => rfl
    apply opensF_cons
    case ho => rfl
    case h => exact opens_i64 (by kernel_rfl)
    case ho' => rfl
    apply opensF_cons
    case ho => rfl
    case h => exact opens_i64 (by kernel_rfl)
    case ho' => rfl
    apply opensF_cons
    case ho => rfl
    case h => exact opens_ad
    case ho' => rfl
    apply opensF_cons
    case ho => rfl
    case h => exact opens_str (by kernel_rfl)
    case ho' => rfl
    apply opensF_one
    case ho => rfl
    case h => exact opens_str (by kernel_rfl)
  case he =>
    exact fun w y n _ => rfl
  case hR =>
    intro w y n h
    obtain ⟨m, h1, ⟨k1, a1, a2, _⟩, p1, b1, _, p2, b2, _, p3, b3, _, p4, b4, _, p5, b5, ⟨k2, c1, c2, _⟩, k3, d1, d2, _⟩ := h
    dsimp only
    omega
abbrev V1 : Type := {v : Value // v.oneCell' = true}
def El.msV : El (Int × Int × V1 × V1 × V1 × V1) := ⟨6, true, fun x => [.int .i64 x.1, .int .i64 x.2.1, x.2.2.1.1, x.2.2.2.1.1, x.2.2.2.2.1.1, x.2.2.2.2.2.1], fun _ => rfl, fun h => (by cases h), by decide, by
  intro x u hu
  simp only [List.mem_cons, List.not_mem_nil, or_false] at hu
  rcases hu with rfl | rfl | rfl | rfl | rfl | rfl
  · rfl
  · rfl
  · exact x.2.2.1.2
  · exact x.2.2.2.1.2
  · exact x.2.2.2.2.1.2
  · exact x.2.2.2.2.2.2⟩
/-- A message that was handed in. -/
def MsIn (w : World) (x : Int × Int × V1 × V1 × V1 × V1) (n : Nat) : Prop :=
  ∃ m, Ms0 ⟨w, fun _ => 0⟩ (El.msV.enc x) m ∧ (∀ q ∈ m.asked, q.name.length ≤ n) ∧ (∀ r ∈ allR m, r.name.length ≤ n ∧ r.target.length ≤ n ∧ r.data.length ≤ n) ∧ m.asked.length ≤ n ∧ m.ans.length ≤ n ∧ m.auth.length ≤ n ∧ m.more.length ≤ n
theorem opens_ms : Opens Try.prog 46 El.msV MsIn := by
  apply Opens.as (E := El.pair El.int (El.pair El.int (El.pair El.any (El.pair El.any (El.pair El.any El.any))))) (f := (fun x => x))
  case hsz => rfl
  case h =>
    apply opens_struct (P := Try.prog) (t := 46)
    case hc => kernel_rfl
    apply opensF_cons
    case ho => rfl
    case h => exact opens_i64 (by kernel_rfl)
    case ho' => rfl
    apply opensF_cons
    case ho => rfl
    case h => exact opens_i64 (by kernel_rfl)
    case ho' => rfl
    apply opensF_cons
    case ho => rfl
    case h => exact opens_slice (e := 68) opens_qn (by kernel_rfl)
    case ho' => rfl
    apply opensF_cons
    case ho => rfl
    case h => exact opens_slice (e := 52) opens_rc (by kernel_rfl)
    case ho' => rfl
    apply opensF_cons
    case ho => rfl
    case h => exact opens_slice (e := 52) opens_rc (by kernel_rfl)
    case ho' => rfl
    apply opensF_one
    case ho => rfl
    case h => exact opens_slice (e := 52) opens_rc (by kernel_rfl)
  case he =>
    exact fun w y n _ => rfl
  case hR =>
    intro w y n h
    obtain ⟨m, h1, _, p1, b1, _, p2, b2, ⟨k1, a1, lq, rq, nq, eq⟩, p3, b3, ⟨k2, a2, la, ra, na, ea⟩, p4, b4, ⟨k3, a3, lu, ru, nu, eu⟩, p5, b5, k6, a6, lm, rm, nm, em⟩ := h
    refine ⟨⟨y.1, y.2.1, lq, la, lu, lm⟩, ⟨_, _, _, _, rfl, rq, ra, ru, rm⟩, ?_, ?_, by dsimp only; omega, by dsimp only; omega, by dsimp only; omega, by dsimp only; omega⟩
    · intro q hq
      obtain ⟨k, hk, h⟩ := eq q hq
      omega
    · intro r hr
      simp only [allR, List.mem_append] at hr
      rcases hr with (h | h) | h
      · obtain ⟨k, hk, h⟩ := ea r h; omega
      · obtain ⟨k, hk, h⟩ := eu r h; omega
      · obtain ⟨k, hk, h⟩ := em r h; omega
end
theorem in_ok {w : World} {x : Int × Int × V1 × V1 × V1 × V1} {n : Nat} (h : MsIn w x n) (hn : n ≤ 1048576) : ∃ m, Ms0 ⟨w, fun _ => 0⟩ (El.msV.enc x) m ∧ MsOk m := by
  obtain ⟨m, h1, h2, h3, _⟩ := h
  refine ⟨m, h1, fun q hq => by have := h2 q hq; omega, fun r hr => ?_, fun r hr => ?_, fun r hr => ?_⟩ <;>
  · have := h3 r (by simp [allR, hr]); exact ⟨by omega, by omega⟩
end Go.Proofs.Ytnfokdhgajanpaa
