/- Messages: bytes whose holes are filled later: plain laws. No statement of the seat is proved here. -/
import Derived.Test.YtnfokdhgajanpaaWir6
set_option linter.unusedVariables false
set_option linter.unusedSimpArgs false
namespace Go.Proofs.Ytnfokdhgajanpaa
open Go

structure Holes (B B' : List UInt8) (hm : List (Int × Int)) : Prop where
  len : B'.length = B.length
  fits : ∀ p ∈ hm, 0 ≤ p.1 ∧ p.1.toNat + 1 < B.length ∧ 0 ≤ p.2 ∧ B[p.1.toNat]? = some (UInt8.ofNat (p.2 / 256).toNat) ∧ B[p.1.toNat + 1]? = some (UInt8.ofNat p.2.toNat)
  ne : ∀ i : Nat, B'[i]? = B[i]? ∨ ∃ p ∈ hm, i = p.1.toNat ∨ i = p.1.toNat + 1
theorem Holes.none (B : List UInt8) : Holes B B [] := ⟨rfl, by simp, fun i => .inl rfl⟩
theorem Holes.app {B B' : List UInt8} {hm : List (Int × Int)} (h : Holes B B' hm) (x : List UInt8) : Holes (B ++ x) (B' ++ x) hm := by
  refine ⟨by simp [h.len], fun p hp => ?_, fun i => ?_⟩
  · obtain ⟨h0, h1, h2, h3, h4⟩ := h.fits p hp
    exact ⟨h0, by rw [List.length_append]; omega, h2, by rw [List.getElem?_append_left (by omega)]; exact h3, by rw [List.getElem?_append_left (by omega)]; exact h4⟩
  · by_cases hi : i < B.length
    · rw [List.getElem?_append_left hi, List.getElem?_append_left (by rw [h.len]; exact hi)]
      exact h.ne i
    · have hl := h.len
      rw [List.getElem?_append_right (by omega), List.getElem?_append_right (by omega), hl]
      exact .inl rfl
theorem mput_mem {κ ν : Type} [DecidableEq κ] {k : κ} {u : ν} {p : κ × ν} : ∀ {m : List (κ × ν)}, p ∈ mput k u m → p = (k, u) ∨ p ∈ m
  | [], h => by simpa [mput] using h
  | q :: m, h => by
    rw [mput] at h
    split at h
    · rcases List.mem_cons.1 h with h | h
      · exact .inl h
      · exact .inr (List.mem_cons_of_mem _ h)
    · rcases List.mem_cons.1 h with h | h
      · exact .inr (by rw [h]; exact List.mem_cons_self)
      · rcases mput_mem h with h | h
        · exact .inl h
        · exact .inr (List.mem_cons_of_mem _ h)
theorem mput_self {κ ν : Type} [DecidableEq κ] (k : κ) (u : ν) : ∀ (m : List (κ × ν)), (k, u) ∈ mput k u m
  | [] => by simp [mput]
  | q :: m => by
    rw [mput]
    split
    · exact List.mem_cons_self
    · exact List.mem_cons_of_mem _ (mput_self k u m)
theorem mput_keep {κ ν : Type} [DecidableEq κ] {k : κ} {u : ν} {p : κ × ν} : ∀ {m : List (κ × ν)}, p ∈ m → k ≠ p.1 → p ∈ mput k u m
  | q :: m, h, hk => by
    rw [mput]
    split
    · rename_i e
      rcases List.mem_cons.1 h with h | h
      · subst h; exact absurd e hk
      · exact List.mem_cons_of_mem _ h
    · rcases List.mem_cons.1 h with h | h
      · rw [h]; exact List.mem_cons_self
      · exact List.mem_cons_of_mem _ (mput_keep h hk)
theorem Holes.hole {B B' : List UInt8} {hm : List (Int × Int)} (h : Holes B B' hm) (n : Int) (h0 : 0 ≤ n) (y : List UInt8) : Holes (B ++ twoB n ++ y) (B' ++ twoB 0 ++ y) (mput (B.length : Int) n hm) := by
  refine ⟨by simp [h.len, twoB_len], fun p hp => ?_, fun i => ?_⟩
  · rcases mput_mem hp with rfl | hp
    · refine ⟨by dsimp only; omega, by dsimp only; simp only [List.length_append, twoB_len]; omega, h0, ?_, ?_⟩
      · simp [twoB]
      · simp only [Int.toNat_natCast, List.append_assoc]
        rw [List.getElem?_append_right (by omega), show B.length + 1 - B.length = 1 by omega]
        simp only [twoB, List.cons_append, List.getElem?_cons_succ, List.getElem?_cons_zero, List.nil_append]
        rw [byte_mod n.toNat (n % 256).toNat (by omega)]
    · exact ((h.app (twoB n)).app y).fits p hp |>.imp id fun z => z
  · by_cases hi : i < B.length
    · rw [List.append_assoc, List.append_assoc, List.getElem?_append_left hi, List.getElem?_append_left (by rw [h.len]; exact hi)]
      rcases h.ne i with e | ⟨p, hp, e⟩
      · exact .inl e
      · by_cases hk : (B.length : Int) = p.1
        · exact absurd (h.fits p hp).2.1 (by omega)
        · exact .inr ⟨p, mput_keep hp hk, e⟩
    · by_cases h2 : i < B.length + 2
      · exact .inr ⟨_, mput_self _ _ _, by dsimp only; omega⟩
      · refine .inl ?_
        have hl := h.len
        rw [List.getElem?_append_right (by simp only [List.length_append, twoB_len]; omega), List.getElem?_append_right (by simp only [List.length_append, twoB_len]; omega)]
        simp only [List.length_append, twoB_len, hl]
theorem Holes.hole' {B B' : List UInt8} {hm : List (Int × Int)} (h : Holes B B' hm) (k n : Int) (hk : k = (B.length : Int)) (h0 : 0 ≤ n) (y : List UInt8) : Holes (B ++ twoB n ++ y) (B' ++ twoB 0 ++ y) (mput k n hm) := by
  subst hk; exact h.hole n h0 y

theorem entries {κ ν : Type} {f : κ → Value} {q : ν → Value} : ∀ {es : List MapEntry} {m : List (κ × ν)}, es.map (·.key) = m.map (fun p => f p.1) → es.map (·.val) = m.map (fun p => q p.2) →
    (∀ e ∈ es, ∃ p ∈ m, e.key = f p.1 ∧ e.val = q p.2) ∧ ∀ p ∈ m, ∃ e ∈ es, e.key = f p.1 ∧ e.val = q p.2
  | [], [], _, _ => by simp
  | [], p :: m, h, _ => by simp at h
  | e :: es, [], h, _ => by simp at h
  | e :: es, p :: m, h, h2 => by
    simp only [List.map_cons, List.cons.injEq] at h h2
    obtain ⟨i1, i2⟩ := entries h.2 h2.2
    refine ⟨fun x hx => ?_, fun x hx => ?_⟩
    · rcases List.mem_cons.1 hx with rfl | hx
      · exact ⟨p, List.mem_cons_self, h.1, h2.1⟩
      · obtain ⟨p', hp, e'⟩ := i1 x hx; exact ⟨p', List.mem_cons_of_mem _ hp, e'⟩
    · rcases List.mem_cons.1 hx with rfl | hx
      · exact ⟨e, List.mem_cons_self, h.1, h2.1⟩
      · obtain ⟨p', hp, e'⟩ := i2 x hx; exact ⟨p', List.mem_cons_of_mem _ hp, e'⟩
theorem born_inj : ∀ {es : List MapEntry}, (es.map (·.born)).Nodup → ∀ e ∈ es, ∀ e' ∈ es, e.born = e'.born → e = e'
  | [], _, e, he, _, _, _ => by simp at he
  | x :: es, h, e, he, e', he', hb => by
    simp only [List.map_cons, List.nodup_cons] at h
    rcases List.mem_cons.1 he with hx | he
    · rcases List.mem_cons.1 he' with hy | he'
      · rw [hx, hy]
      · exact absurd (List.mem_map.2 ⟨e', he', by rw [← hb, hx]⟩) h.1
    · rcases List.mem_cons.1 he' with hy | he'
      · exact absurd (List.mem_map.2 ⟨e, he, by rw [hb, hy]⟩) h.1
      · exact born_inj h.2 e he e' he' hb
theorem seen_push (seen : Array Nat) (a b : Nat) : (seen.push a).contains b = (seen.contains b || b == a) := by
  rw [Bool.eq_iff_iff]
  simp [Array.contains_eq_mem, Array.mem_push]
def left (es : List MapEntry) (seen : Array Nat) : Nat := es.countP (fun x => !(seen.contains x.born))
theorem left_le (seen : Array Nat) (a : Nat) (es : List MapEntry) : left es (seen.push a) ≤ left es seen := by
  refine List.countP_mono_left fun x _ h => ?_
  rw [seen_push] at h
  cases h1 : seen.contains x.born <;> simp_all
theorem left_lt (seen : Array Nat) : ∀ (es : List MapEntry) (e : MapEntry), e ∈ es → seen.contains e.born = false → left es (seen.push e.born) < left es seen
  | [], e, he, _ => by simp at he
  | x :: es, e, he, hs => by
    have hle := left_le seen e.born es
    unfold left at hle ⊢
    rw [List.countP_cons, List.countP_cons]
    rcases List.mem_cons.1 he with hx | he
    · have a1 : (!(seen.push e.born).contains x.born) = false := by rw [seen_push, hx]; simp
      have a2 : (!seen.contains x.born) = true := by rw [← hx, hs]; rfl
      rw [a1, a2, if_neg (by simp), if_pos rfl]
      omega
    · have ih := left_lt seen es e he hs
      unfold left at ih
      by_cases a2 : (!seen.contains x.born) = true
      · rw [if_pos a2]; split <;> omega
      · have a1 : ¬ (!(seen.push e.born).contains x.born) = true := by
          rw [seen_push]; intro h; simp_all
        rw [if_neg a1, if_neg a2]; omega
/-- While the holes are filled: those that are left. -/
def Fill (B C : List UInt8) (hm : List (Int × Int)) (es : List MapEntry) (seen : Array Nat) : Prop :=
  C.length = B.length ∧ ∀ i : Nat, C[i]? = B[i]? ∨ ∃ e ∈ es, seen.contains e.born = false ∧ ∃ p ∈ hm, e.key = El.int.val p.1 ∧ (i = p.1.toNat ∨ i = p.1.toNat + 1)
theorem Fill.begin {B B' : List UInt8} {hm : List (Int × Int)} {es : List MapEntry} (h : Holes B B' hm) (hk : es.map (·.key) = hm.map (fun p => El.int.val p.1)) (hv : es.map (·.val) = hm.map (fun p => El.int.val p.2)) : Fill B B' hm es #[] := by
  refine ⟨h.len, fun i => ?_⟩
  rcases h.ne i with e | ⟨p, hp, e⟩
  · exact .inl e
  · obtain ⟨x, hx, h1, _⟩ := (entries hk hv).2 p hp
    exact .inr ⟨x, hx, by simp, p, hp, h1, e⟩
theorem int_inj {a b : Int} (h : El.int.val a = El.int.val b) : a = b := by injection h
theorem Fill.set {B B' C : List UInt8} {hm : List (Int × Int)} {es : List MapEntry} {seen : Array Nat} (h : Holes B B' hm) (hf : Fill B C hm es seen) (hn : (es.map (·.born)).Nodup) {e : MapEntry} (he : e ∈ es) {p : Int × Int} (hp : p ∈ hm) (hk : e.key = El.int.val p.1) :
    Fill B ((C.set p.1.toNat (UInt8.ofNat (p.2 / 256).toNat)).set (p.1.toNat + 1) (UInt8.ofNat p.2.toNat)) hm es (seen.push e.born) := by
  obtain ⟨hl, hne⟩ := hf
  obtain ⟨h0, h1, h2, h3, h4⟩ := h.fits p hp
  refine ⟨by simp [hl], fun i => ?_⟩
  by_cases i1 : i = p.1.toNat + 1
  · subst i1
    left
    rw [h4, List.getElem?_set_self (by simp; omega)]
  · by_cases i0 : i = p.1.toNat
    · subst i0
      left
      rw [h3, List.getElem?_set_ne (by omega), List.getElem?_set_self (by omega)]
    · rw [List.getElem?_set_ne (by omega), List.getElem?_set_ne (by omega)]
      rcases hne i with x | ⟨e', he', hs', p', hp', hk', x⟩
      · exact .inl x
      · by_cases hb : e'.born = e.born
        · have := born_inj hn e' he' e he hb
          subst this
          have := int_inj (hk'.symm.trans hk)
          omega
        · exact .inr ⟨e', he', by rw [seen_push, hs']; simp [hb], p', hp', hk', x⟩
theorem Fill.over {B C : List UInt8} {hm : List (Int × Int)} {es : List MapEntry} {seen : Array Nat} (hf : Fill B C hm es seen) (h : ∀ e ∈ es, seen.contains e.born = true) : C = B := by
  refine List.ext_getElem? fun i => ?_
  rcases hf.2 i with x | ⟨e, he, hs, _⟩
  · exact x
  · rw [h e he] at hs; cases hs

def recP (n : Nat) (m : WM) (r : Rc) : List UInt8 :=
  let z := nameW n m (labelsB r.name)
  z.1 ++ fixB r
theorem fix_short (r : Rc) (h : 0 ≤ r.ttl) : [r.typ, r.cls, r.ttl / 65536, r.ttl].flatMap twoB = fixB r := by
  unfold fixB
  rw [twoB_mod r.ttl h]
  simp [List.append_assoc]
theorem foldr_wlen {l : List Rc} {n : Nat} {M : WM} : True := trivial
end Go.Proofs.Ytnfokdhgajanpaa
