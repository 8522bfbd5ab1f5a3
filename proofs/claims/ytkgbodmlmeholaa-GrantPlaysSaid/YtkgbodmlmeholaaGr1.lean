/- Grants: keys as values; which comes first. No statement of the seat is proved here. -/
import Derived.Test.YtkgbodmlmeholaaCmp
import Derived.Test.YtkgbodmlmeholaaTypes
set_option linter.unusedVariables false
set_option linter.unusedSimpArgs false
namespace Go.Proofs.Ytkgbodmlmeholaa
open Go

structure Ad where
  fam : Int
  b : Fin 16 → UInt8
theorem Ad.ext' {x y : Ad} (h : x.fam = y.fam) (h2 : ∀ i, x.b i = y.b i) : x = y := by
  cases x; cases y; simp only at h h2; subst h; congr; funext i; exact h2 i
instance : DecidableEq Ad := fun x y => if h : x.fam = y.fam ∧ ∀ i, x.b i = y.b i then isTrue (Ad.ext' h.1 h.2) else isFalse (fun e => h (by subst e; exact ⟨rfl, fun _ => rfl⟩))
def cells16 (b : Fin 16 → UInt8) : List Value := [bv (b 0), bv (b 1), bv (b 2), bv (b 3), bv (b 4), bv (b 5), bv (b 6), bv (b 7), bv (b 8), bv (b 9), bv (b 10), bv (b 11), bv (b 12), bv (b 13), bv (b 14), bv (b 15)]
def El.ad : El Ad := ⟨17, true, fun a => .int .i64 a.fam :: cells16 a.b, fun _ => rfl, fun h => (by cases h), by decide, by
  intro x u hu
  simp only [cells16, List.mem_cons, List.not_mem_nil, or_false] at hu
  rcases hu with h | h | h | h | h | h | h | h | h | h | h | h | h | h | h | h | h <;> subst h <;> rfl⟩
theorem cells16_get (b : Fin 16 → UInt8) : ∀ (i : Nat) (h : i < 16), (cells16 b)[i]? = some (bv (b ⟨i, h⟩)) := by
  intro i h
  match i, h with
  | 0, _ => rfl | 1, _ => rfl | 2, _ => rfl | 3, _ => rfl | 4, _ => rfl | 5, _ => rfl | 6, _ => rfl | 7, _ => rfl
  | 8, _ => rfl | 9, _ => rfl | 10, _ => rfl | 11, _ => rfl | 12, _ => rfl | 13, _ => rfl | 14, _ => rfl | 15, _ => rfl
  | n + 16, h => omega
def bytes16 (b : Fin 16 → UInt8) : List UInt8 := [b 0, b 1, b 2, b 3, b 4, b 5, b 6, b 7, b 8, b 9, b 10, b 11, b 12, b 13, b 14, b 15]
theorem cells16_eq (b : Fin 16 → UInt8) : cells16 b = (bytes16 b).map bv := rfl

theorem ad_part (a : Ad) (w : World) : (part 24 (El.ad.enc a).toArray 1).run Try.prog w = .ok (.agg (cells16 a.b).toArray) w := by
  have h := part_agg (P := Try.prog) (w := w) (T := 24) (cs := (El.ad.enc a).toArray) (off := 1) rfl
  have e : (El.ad.enc a).toArray.extract 1 (1 + 16) = (cells16 a.b).toArray := by simp [El.ad, cells16]
  rw [e] at h
  exact h
theorem ad_eqIn (n : Nat) (w : World) (a b : Ad) (hn : 3 ≤ n) : (Op.equalIn n 26 (El.ad.val a) (El.ad.val b)).run Try.prog w = .ok (decide (a = b)) w := by
  obtain ⟨m, rfl⟩ : ∃ m, n = m + 2 := ⟨n - 2, by omega⟩
  have hB : (Op.equalIn (m + 1) 24 (.agg (cells16 a.b).toArray) (.agg (cells16 b.b).toArray)).run Try.prog w = .ok ((List.range 16).all fun i => if h : i < 16 then decide (a.b ⟨i, h⟩ = b.b ⟨i, h⟩) else true) w := by
    refine eq_array (e := 5) Try.underlying24 fun i hi => ⟨bv (a.b ⟨i, hi⟩), bv (b.b ⟨i, hi⟩), ?_, ?_, ?_⟩
    · exact part_cell rfl (by rw [Nat.mul_one]; simpa using cells16_get a.b i hi)
    · exact part_cell rfl (by rw [Nat.mul_one]; simpa using cells16_get b.b i hi)
    · rw [dif_pos hi]; exact eqIn_u8 (by omega) _ _
  have h := eq_struct (P := Try.prog) (n := m + 1) (w := w) (T := 26) (xs := (El.ad.enc a).toArray) (ys := (El.ad.enc b).toArray) (bs := [decide (a.fam = b.fam), (List.range 16).all fun i => if h : i < 16 then decide (a.b ⟨i, h⟩ = b.b ⟨i, h⟩) else true])
    Try.underlying26 (by kernel_rfl) (by decide) rfl (fun i f c hf hc => by
      match i with
      | 0 =>
        simp only [List.getElem?_cons_zero, Option.some.injEq] at hf hc
        subst hf; subst hc
        exact ⟨.int .i64 a.fam, .int .i64 b.fam, part_cell rfl rfl, part_cell rfl rfl, eqIn_int (by omega) _ _⟩
      | 1 =>
        simp only [List.getElem?_cons_succ, List.getElem?_cons_zero, Option.some.injEq] at hf hc
        subst hf; subst hc
        exact ⟨.agg (cells16 a.b).toArray, .agg (cells16 b.b).toArray, ad_part a w, ad_part b w, hB⟩
      | k + 2 => simp at hf)
  have e : El.ad.val a = .agg (El.ad.enc a).toArray := rfl
  have e2 : El.ad.val b = .agg (El.ad.enc b).toArray := rfl
  rw [e, e2, h]
  refine congrArg (fun x => Result.ok x w) ?_
  rw [Bool.eq_iff_iff]
  simp only [List.all_cons, List.all_nil, id, Bool.and_true, Bool.and_eq_true, decide_eq_true_eq, List.all_eq_true, List.mem_range]
  constructor
  · rintro ⟨h1, h2⟩
    refine Ad.ext' h1 fun i => ?_
    have := h2 i.val i.isLt
    rw [dif_pos i.isLt] at this
    simpa using this
  · intro h; subst h
    exact ⟨rfl, fun i hi => by rw [dif_pos hi]; simp⟩

structure Og where
  scheme : List UInt8
  host : List UInt8
  port : Int
  deriving DecidableEq
structure Ky where
  page : Og
  to : Og
  meth : List UInt8
  addr : Ad
  deriving DecidableEq
def El.og : El Og := ⟨3, true, fun o => [Go.Proofs.Ytkgbodmlmeholaa.str o.scheme, Go.Proofs.Ytkgbodmlmeholaa.str o.host, .int .i64 o.port], fun _ => rfl, fun h => (by cases h), by decide, by
  intro x u hu
  simp only [List.mem_cons, List.not_mem_nil, or_false] at hu
  rcases hu with h | h | h <;> subst h <;> rfl⟩
def El.ky : El Ky := ⟨24, true, fun k => [Go.Proofs.Ytkgbodmlmeholaa.str k.page.scheme, Go.Proofs.Ytkgbodmlmeholaa.str k.page.host, .int .i64 k.page.port, Go.Proofs.Ytkgbodmlmeholaa.str k.to.scheme, Go.Proofs.Ytkgbodmlmeholaa.str k.to.host, .int .i64 k.to.port, Go.Proofs.Ytkgbodmlmeholaa.str k.meth, .int .i64 k.addr.fam, bv (k.addr.b 0), bv (k.addr.b 1), bv (k.addr.b 2), bv (k.addr.b 3), bv (k.addr.b 4), bv (k.addr.b 5), bv (k.addr.b 6), bv (k.addr.b 7), bv (k.addr.b 8), bv (k.addr.b 9), bv (k.addr.b 10), bv (k.addr.b 11), bv (k.addr.b 12), bv (k.addr.b 13), bv (k.addr.b 14), bv (k.addr.b 15)], fun _ => rfl, fun h => (by cases h), by decide, by
  intro x u hu
  simp only [List.mem_cons, List.not_mem_nil, or_false] at hu
  rcases hu with h | h | h | h | h | h | h | h | h | h | h | h | h | h | h | h | h | h | h | h | h | h | h | h <;> subst h <;> rfl⟩
def Ad.zero : Ad := ⟨0, fun _ => 0⟩
def Og.zero : Og := ⟨[], [], 0⟩
def Ky.zero : Ky := ⟨Og.zero, Og.zero, [], Ad.zero⟩
theorem og_eqIn (n : Nat) (w : World) (a b : Og) (hn : 3 ≤ n) : (Op.equalIn n 23 (El.og.val a) (El.og.val b)).run Try.prog w = .ok (decide (a = b)) w := by
  obtain ⟨m, rfl⟩ : ∃ m, n = m + 1 := ⟨n - 1, by omega⟩
  have h := eq_struct (P := Try.prog) (n := m) (w := w) (T := 23) (xs := (El.og.enc a).toArray) (ys := (El.og.enc b).toArray) (bs := [decide (a.scheme = b.scheme), decide (a.host = b.host), decide (a.port = b.port)])
    Try.underlying23 (by kernel_rfl) (by decide) rfl (fun i f c hf hc => by
      match i with
      | 0 =>
        simp only [List.getElem?_cons_succ, List.getElem?_cons_zero, Option.some.injEq] at hf hc
        subst hf; subst hc
        exact ⟨str a.scheme, str b.scheme, part_cell rfl rfl, part_cell rfl rfl, eqIn_str (by omega) _ _⟩
      | 1 =>
        simp only [List.getElem?_cons_succ, List.getElem?_cons_zero, Option.some.injEq] at hf hc
        subst hf; subst hc
        exact ⟨str a.host, str b.host, part_cell rfl rfl, part_cell rfl rfl, eqIn_str (by omega) _ _⟩
      | 2 =>
        simp only [List.getElem?_cons_succ, List.getElem?_cons_zero, Option.some.injEq] at hf hc
        subst hf; subst hc
        exact ⟨.int .i64 a.port, .int .i64 b.port, part_cell rfl rfl, part_cell rfl rfl, eqIn_int (by omega) _ _⟩
      | k + 3 => simp at hf)
  rw [show El.og.val a = .agg (El.og.enc a).toArray from rfl, show El.og.val b = .agg (El.og.enc b).toArray from rfl, h]
  refine congrArg (fun x => Result.ok x w) ?_
  rw [Bool.eq_iff_iff]
  obtain ⟨a0, a1, a2⟩ := a
  obtain ⟨b0, b1, b2⟩ := b
  simp
instance eqvOg : EqV Try.prog 23 El.og := ⟨fun n w a b hn => og_eqIn n w a b (by omega)⟩
theorem ky_part (k : Ky) (w : World) (off sz : Nat) (o : Og) (e : (El.ky.enc k).toArray.extract off (off + 3) = (El.og.enc o).toArray) : (part 23 (El.ky.enc k).toArray off).run Try.prog w = .ok (El.og.val o) w := by
  have h := part_agg (P := Try.prog) (w := w) (T := 23) (cs := (El.ky.enc k).toArray) (off := off) rfl
  rw [e] at h
  exact h
theorem ky_partA (k : Ky) (w : World) : (part 26 (El.ky.enc k).toArray 7).run Try.prog w = .ok (El.ad.val k.addr) w := by
  have h := part_agg (P := Try.prog) (w := w) (T := 26) (cs := (El.ky.enc k).toArray) (off := 7) rfl
  have e : (El.ky.enc k).toArray.extract 7 (7 + 17) = (El.ad.enc k.addr).toArray := by simp [El.ky, El.ad, cells16]
  rw [e] at h
  exact h
theorem ky_eqInK (n : Nat) (w : World) (a b : Ky) (hn : 4 ≤ n) : (Op.equalIn n 28 (El.ky.val a) (El.ky.val b)).run Try.prog w = .ok (decide (a = b)) w := by
  obtain ⟨m, rfl⟩ : ∃ m, n = m + 1 := ⟨n - 1, by omega⟩
  have h := eq_struct (P := Try.prog) (n := m) (w := w) (T := 28) (xs := (El.ky.enc a).toArray) (ys := (El.ky.enc b).toArray) (bs := [decide (a.page = b.page), decide (a.to = b.to), decide (a.meth = b.meth), decide (a.addr = b.addr)])
    Try.underlying28 (by kernel_rfl) (by decide) rfl (fun i f c hf hc => by
      match i with
      | 0 =>
        simp only [List.getElem?_cons_succ, List.getElem?_cons_zero, Option.some.injEq] at hf hc
        subst hf; subst hc
        exact ⟨El.og.val a.page, El.og.val b.page, ky_part a w 0 3 _ (by simp [El.ky, El.og]), ky_part b w 0 3 _ (by simp [El.ky, El.og]), og_eqIn _ _ _ _ (by omega)⟩
      | 1 =>
        simp only [List.getElem?_cons_succ, List.getElem?_cons_zero, Option.some.injEq] at hf hc
        subst hf; subst hc
        exact ⟨El.og.val a.to, El.og.val b.to, ky_part a w 3 3 _ (by simp [El.ky, El.og]), ky_part b w 3 3 _ (by simp [El.ky, El.og]), og_eqIn _ _ _ _ (by omega)⟩
      | 2 =>
        simp only [List.getElem?_cons_succ, List.getElem?_cons_zero, Option.some.injEq] at hf hc
        subst hf; subst hc
        exact ⟨str a.meth, str b.meth, part_cell rfl rfl, part_cell rfl rfl, eqIn_str (by omega) _ _⟩
      | 3 =>
        simp only [List.getElem?_cons_succ, List.getElem?_cons_zero, Option.some.injEq] at hf hc
        subst hf; subst hc
        exact ⟨El.ad.val a.addr, El.ad.val b.addr, ky_partA a w, ky_partA b w, ad_eqIn _ _ _ _ (by omega)⟩
      | k + 4 => simp at hf)
  rw [show El.ky.val a = .agg (El.ky.enc a).toArray from rfl, show El.ky.val b = .agg (El.ky.enc b).toArray from rfl, h]
  refine congrArg (fun x => Result.ok x w) ?_
  rw [Bool.eq_iff_iff]
  obtain ⟨a0, a1, a2, a3⟩ := a
  obtain ⟨b0, b1, b2, b3⟩ := b
  simp
instance eqvK : EqV Try.prog 28 El.ky := ⟨fun n w a b hn => ky_eqInK n w a b (by omega)⟩
theorem ky_eqInKey (n : Nat) (w : World) (a b : Ky) (hn : 4 ≤ n) : (Op.equalIn n 30 (El.ky.val a) (El.ky.val b)).run Try.prog w = .ok (decide (a = b)) w := by
  obtain ⟨m, rfl⟩ : ∃ m, n = m + 1 := ⟨n - 1, by omega⟩
  have h := eq_struct (P := Try.prog) (n := m) (w := w) (T := 30) (xs := (El.ky.enc a).toArray) (ys := (El.ky.enc b).toArray) (bs := [decide (a.page = b.page), decide (a.to = b.to), decide (a.meth = b.meth), decide (a.addr = b.addr)])
    Try.underlying30 (by kernel_rfl) (by decide) rfl (fun i f c hf hc => by
      match i with
      | 0 =>
        simp only [List.getElem?_cons_succ, List.getElem?_cons_zero, Option.some.injEq] at hf hc
        subst hf; subst hc
        exact ⟨El.og.val a.page, El.og.val b.page, ky_part a w 0 3 _ (by simp [El.ky, El.og]), ky_part b w 0 3 _ (by simp [El.ky, El.og]), og_eqIn _ _ _ _ (by omega)⟩
      | 1 =>
        simp only [List.getElem?_cons_succ, List.getElem?_cons_zero, Option.some.injEq] at hf hc
        subst hf; subst hc
        exact ⟨El.og.val a.to, El.og.val b.to, ky_part a w 3 3 _ (by simp [El.ky, El.og]), ky_part b w 3 3 _ (by simp [El.ky, El.og]), og_eqIn _ _ _ _ (by omega)⟩
      | 2 =>
        simp only [List.getElem?_cons_succ, List.getElem?_cons_zero, Option.some.injEq] at hf hc
        subst hf; subst hc
        exact ⟨str a.meth, str b.meth, part_cell rfl rfl, part_cell rfl rfl, eqIn_str (by omega) _ _⟩
      | 3 =>
        simp only [List.getElem?_cons_succ, List.getElem?_cons_zero, Option.some.injEq] at hf hc
        subst hf; subst hc
        exact ⟨El.ad.val a.addr, El.ad.val b.addr, ky_partA a w, ky_partA b w, ad_eqIn _ _ _ _ (by omega)⟩
      | k + 4 => simp at hf)
  rw [show El.ky.val a = .agg (El.ky.enc a).toArray from rfl, show El.ky.val b = .agg (El.ky.enc b).toArray from rfl, h]
  refine congrArg (fun x => Result.ok x w) ?_
  rw [Bool.eq_iff_iff]
  obtain ⟨a0, a1, a2, a3⟩ := a
  obtain ⟨b0, b1, b2, b3⟩ := b
  simp
instance eqvKey : EqV Try.prog 30 El.ky := ⟨fun n w a b hn => ky_eqInKey n w a b (by omega)⟩

theorem chkOg (n : Nat) (w : World) (e : Bool) (o : Og) (hn : 2 ≤ n) : (Instr.checkKey e n 23 (El.og.val o)).run Try.prog w = .ok () w := by
  obtain ⟨m, rfl⟩ : ∃ m, n = m + 1 := ⟨n - 1, by omega⟩
  refine chk_struct (P := Try.prog) Try.underlying23 (fun i f hf => ?_)
  match i with
  | 0 => simp only [List.getElem?_cons_zero, Option.some.injEq] at hf; subst hf; exact ⟨str o.scheme, part_cell rfl rfl, chk_str (by omega) _ _⟩
  | 1 => simp only [List.getElem?_cons_succ, List.getElem?_cons_zero, Option.some.injEq] at hf; subst hf; exact ⟨str o.host, part_cell rfl rfl, chk_str (by omega) _ _⟩
  | 2 => simp only [List.getElem?_cons_succ, List.getElem?_cons_zero, Option.some.injEq] at hf; subst hf; exact ⟨.int .i64 o.port, part_cell rfl rfl, chk_int (by omega) _ _⟩
  | k + 3 => simp at hf
theorem chkAd (n : Nat) (w : World) (e : Bool) (a : Ad) (hn : 3 ≤ n) : (Instr.checkKey e n 26 (El.ad.val a)).run Try.prog w = .ok () w := by
  obtain ⟨m, rfl⟩ : ∃ m, n = m + 2 := ⟨n - 2, by omega⟩
  refine chk_struct (P := Try.prog) Try.underlying26 (fun i f hf => ?_)
  match i with
  | 0 => simp only [List.getElem?_cons_zero, Option.some.injEq] at hf; subst hf; exact ⟨.int .i64 a.fam, part_cell rfl rfl, chk_int (by omega) _ _⟩
  | 1 =>
    simp only [List.getElem?_cons_succ, List.getElem?_cons_zero, Option.some.injEq] at hf; subst hf
    refine ⟨.agg (cells16 a.b).toArray, ad_part a w, ?_⟩
    refine chk_array (P := Try.prog) (el := 5) Try.underlying24 fun i hi => ⟨bv (a.b ⟨i, hi⟩), part_cell rfl (by rw [Nat.mul_one]; simpa using cells16_get a.b i hi), chk_int (by omega) _ _⟩
  | k + 2 => simp at hf
instance chkKey : Chk Try.prog 30 El.ky := ⟨fun n w e a hn => by
  obtain ⟨m, rfl⟩ : ∃ m, n = m + 1 := ⟨n - 1, by omega⟩
  refine chk_struct (P := Try.prog) Try.underlying30 (fun i f hf => ?_)
  match i with
  | 0 => simp only [List.getElem?_cons_zero, Option.some.injEq] at hf; subst hf; exact ⟨El.og.val a.page, ky_part a w 0 3 _ (by simp [El.ky, El.og]), chkOg _ _ _ _ (by omega)⟩
  | 1 => simp only [List.getElem?_cons_succ, List.getElem?_cons_zero, Option.some.injEq] at hf; subst hf; exact ⟨El.og.val a.to, ky_part a w 3 3 _ (by simp [El.ky, El.og]), chkOg _ _ _ _ (by omega)⟩
  | 2 => simp only [List.getElem?_cons_succ, List.getElem?_cons_zero, Option.some.injEq] at hf; subst hf; exact ⟨str a.meth, part_cell rfl rfl, chk_str (by omega) _ _⟩
  | 3 => simp only [List.getElem?_cons_succ, List.getElem?_cons_zero, Option.some.injEq] at hf; subst hf; exact ⟨El.ad.val a.addr, ky_partA a w, chkAd _ _ _ _ (by omega)⟩
  | k + 4 => simp at hf⟩
instance keyKey : KeyEq Try.prog 30 El.ky := key_struct Try.underlying30 rfl (fun x u hu => by
  simp only [El.ky, List.mem_cons, List.not_mem_nil, or_false] at hu
  rcases hu with h | h | h | h | h | h | h | h | h | h | h | h | h | h | h | h | h | h | h | h | h | h | h | h <;> subst h <;> first | exact bits_str _ _ | exact bits_int _ _ _)
end Go.Proofs.Ytkgbodmlmeholaa
