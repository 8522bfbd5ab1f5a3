/- Messages that are the same: the reference's and the program's answers. No statement of the seat is proved here. -/
import Derived.Test.YtnfokdhgajanpaaWirB
set_option linter.unusedVariables false
set_option linter.unusedSimpArgs false
namespace Go.Proofs.Ytnfokdhgajanpaa
open Go
attribute [local irreducible] Wp

theorem ad_eqIn (n : Nat) (w : World) (a b : Ad) (hn : 3 ≤ n) : (Op.equalIn n 50 (El.ad.val a) (El.ad.val b)).run Try.prog w = .ok (decide (a = b)) w := by
  obtain ⟨m, rfl⟩ : ∃ m, n = m + 2 := ⟨n - 2, by omega⟩
  have hB : (Op.equalIn (m + 1) 48 (.agg (cells16 a.b).toArray) (.agg (cells16 b.b).toArray)).run Try.prog w = .ok ((List.range 16).all fun i => if h : i < 16 then decide (a.b ⟨i, h⟩ = b.b ⟨i, h⟩) else true) w := by
    refine eq_array (e := 5) Try.underlying48 fun i hi => ⟨bv (a.b ⟨i, hi⟩), bv (b.b ⟨i, hi⟩), ?_, ?_, ?_⟩
    · exact part_cell rfl (by rw [Nat.mul_one]; simpa using cells16_get a.b i hi)
    · exact part_cell rfl (by rw [Nat.mul_one]; simpa using cells16_get b.b i hi)
    · rw [dif_pos hi]; exact eqIn_u8 (by omega) _ _
  have h := eq_struct (P := Try.prog) (n := m + 1) (w := w) (T := 50) (xs := (El.ad.enc a).toArray) (ys := (El.ad.enc b).toArray) (bs := [decide (a.fam = b.fam), (List.range 16).all fun i => if h : i < 16 then decide (a.b ⟨i, h⟩ = b.b ⟨i, h⟩) else true])
    Try.underlying50 (by kernel_rfl) (by decide) rfl (fun i f c hf hc => by
      match i with
      | 0 =>
        simp only [List.getElem?_cons_zero, Option.some.injEq] at hf hc
        subst hf; subst hc
        exact ⟨.int .i64 a.fam, .int .i64 b.fam, part_cell rfl rfl, part_cell rfl rfl, eqIn_int (by omega) _ _⟩
      | 1 =>
        simp only [List.getElem?_cons_succ, List.getElem?_cons_zero, Option.some.injEq] at hf hc
        subst hf; subst hc
        exact ⟨.agg (cells16 a.b).toArray, .agg (cells16 b.b).toArray, ad_part a w, ad_part b w, hB⟩
      | k + 2 => simp at hf)
  have e : El.ad.val a = .agg (El.ad.enc a).toArray := rfl
  have e2 : El.ad.val b = .agg (El.ad.enc b).toArray := rfl
  rw [e, e2, h]
  refine congrArg (fun x => Result.ok x w) ?_
  rw [Bool.eq_iff_iff]
  simp only [List.all_cons, List.all_nil, id, Bool.and_true, Bool.and_eq_true, decide_eq_true_eq, List.all_eq_true, List.mem_range]
  constructor
  · rintro ⟨h1, h2⟩
    refine Ad.ext' h1 fun i => ?_
    have := h2 i.val i.isLt
    rw [dif_pos i.isLt] at this
    simpa using this
  · intro h; subst h
    exact ⟨rfl, fun i hi => by rw [dif_pos hi]; simp⟩
theorem rc_part (r : Rc) (w : World) : (part 50 (El.rc.enc r).toArray 4).run Try.prog w = .ok (El.ad.val r.addr) w := by
  have h := part_agg (P := Try.prog) (w := w) (T := 50) (cs := (El.rc.enc r).toArray) (off := 4) rfl
  have e : (El.rc.enc r).toArray.extract 4 (4 + 17) = (El.ad.enc r.addr).toArray := by simp [El.rc, El.ad, cells16]
  rw [e] at h
  exact h
instance eqvQn : EqV Try.prog 68 El.qn := ⟨fun n w a b hn => by
  obtain ⟨m, rfl⟩ : ∃ m, n = m + 1 := ⟨n - 1, by omega⟩
  have h := eq_struct (P := Try.prog) (n := m) (w := w) (T := 68) (xs := (El.qn.enc a).toArray) (ys := (El.qn.enc b).toArray) (bs := [decide (a.name = b.name), decide (a.typ = b.typ), decide (a.cls = b.cls)])
    Try.underlying68 (by kernel_rfl) (by decide) rfl (fun i f c hf hc => by
      match i with
      | 0 =>
        simp only [List.getElem?_cons_zero, Option.some.injEq] at hf hc
        subst hf; subst hc
        exact ⟨str a.name, str b.name, part_cell rfl rfl, part_cell rfl rfl, eqIn_str (by omega) _ _⟩
      | 1 =>
        simp only [List.getElem?_cons_succ, List.getElem?_cons_zero, Option.some.injEq] at hf hc
        subst hf; subst hc
        exact ⟨.int .i64 a.typ, .int .i64 b.typ, part_cell rfl rfl, part_cell rfl rfl, eqIn_int (by omega) _ _⟩
      | 2 =>
        simp only [List.getElem?_cons_succ, List.getElem?_cons_zero, Option.some.injEq] at hf hc
        subst hf; subst hc
        exact ⟨.int .i64 a.cls, .int .i64 b.cls, part_cell rfl rfl, part_cell rfl rfl, eqIn_int (by omega) _ _⟩
      | k + 3 => simp at hf)
  rw [show El.qn.val a = .agg (El.qn.enc a).toArray from rfl, show El.qn.val b = .agg (El.qn.enc b).toArray from rfl, h]
  refine congrArg (fun x => Result.ok x w) ?_
  rw [Bool.eq_iff_iff]
  obtain ⟨a1, a2, a3⟩ := a
  obtain ⟨b1, b2, b3⟩ := b
  simp⟩
instance eqvRc : EqV Try.prog 52 El.rc := ⟨fun n w a b hn => by
  obtain ⟨m, rfl⟩ : ∃ m, n = m + 1 := ⟨n - 1, by omega⟩
  have h := eq_struct (P := Try.prog) (n := m) (w := w) (T := 52) (xs := (El.rc.enc a).toArray) (ys := (El.rc.enc b).toArray) (bs := [decide (a.name = b.name), decide (a.typ = b.typ), decide (a.cls = b.cls), decide (a.ttl = b.ttl), decide (a.addr = b.addr), decide (a.target = b.target), decide (a.data = b.data)])
    Try.underlying52 (by kernel_rfl) (by decide) rfl (fun i f c hf hc => by
      match i with
      | 0 =>
        simp only [List.getElem?_cons_succ, List.getElem?_cons_zero, Option.some.injEq] at hf hc
        subst hf; subst hc
        exact ⟨str a.name, str b.name, part_cell rfl rfl, part_cell rfl rfl, eqIn_str (by omega) _ _⟩
      | 1 =>
        simp only [List.getElem?_cons_succ, List.getElem?_cons_zero, Option.some.injEq] at hf hc
        subst hf; subst hc
        exact ⟨.int .i64 a.typ, .int .i64 b.typ, part_cell rfl rfl, part_cell rfl rfl, eqIn_int (by omega) _ _⟩
      | 2 =>
        simp only [List.getElem?_cons_succ, List.getElem?_cons_zero, Option.some.injEq] at hf hc
        subst hf; subst hc
        exact ⟨.int .i64 a.cls, .int .i64 b.cls, part_cell rfl rfl, part_cell rfl rfl, eqIn_int (by omega) _ _⟩
      | 3 =>
        simp only [List.getElem?_cons_succ, List.getElem?_cons_zero, Option.some.injEq] at hf hc
        subst hf; subst hc
        exact ⟨.int .i64 a.ttl, .int .i64 b.ttl, part_cell rfl rfl, part_cell rfl rfl, eqIn_int (by omega) _ _⟩
      | 4 =>
        simp only [List.getElem?_cons_succ, List.getElem?_cons_zero, Option.some.injEq] at hf hc
        subst hf; subst hc
        exact ⟨El.ad.val a.addr, El.ad.val b.addr, rc_part a w, rc_part b w, ad_eqIn _ _ _ _ (by omega)⟩
      | 5 =>
        simp only [List.getElem?_cons_succ, List.getElem?_cons_zero, Option.some.injEq] at hf hc
        subst hf; subst hc
        exact ⟨str a.target, str b.target, part_cell rfl rfl, part_cell rfl rfl, eqIn_str (by omega) _ _⟩
      | 6 =>
        simp only [List.getElem?_cons_succ, List.getElem?_cons_zero, Option.some.injEq] at hf hc
        subst hf; subst hc
        exact ⟨str a.data, str b.data, part_cell rfl rfl, part_cell rfl rfl, eqIn_str (by omega) _ _⟩
      | k + 7 => simp at hf)
  rw [show El.rc.val a = .agg (El.rc.enc a).toArray from rfl, show El.rc.val b = .agg (El.rc.enc b).toArray from rfl, h]
  refine congrArg (fun x => Result.ok x w) ?_
  rw [Bool.eq_iff_iff]
  obtain ⟨a1, a2, a3, a4, a5, a6, a7⟩ := a
  obtain ⟨b1, b2, b3, b4, b5, b6, b7⟩ := b
  simp⟩

theorem Equal_qn (a b : List Qn) (g : G) {va vb : Value} (ha : Rdx g El.qn va a) (hb : Rdx g El.qn vb b) : Fn Try.prog 66 [va, vb] g [] fun u _ => u = .bool (decide (a = b)) := by
  refine enterG [] [] Try.func66 rfl Try.ntmps66 rfl (by simp) fun g1 hv ho => ?_
  replace ha := ha.seen hv ho
  replace hb := hb.seen hv ho
  have hlm := ha.isSl.le
  repeat (first|refine q1 ?_|refine q2 ?_|refine q3 ?_|refine q4 ?_|refine q5 ?_|refine q6 ?_|refine w_seq ?_|refine w_region ?_|refine w_ops_nil ?_|refine w_skip ?_|refine w_block ?_|refine w_blk ?_|refine q7 ?_|refine q8 ?_|refine q9 ?_)
  refine w_lenSl ha.isSl rfl rfl ?_
  repeat (first|refine q1 ?_|refine q2 ?_|refine q3 ?_|refine q4 ?_|refine q5 ?_|refine q6 ?_|refine w_seq ?_|refine w_region ?_|refine w_ops_nil ?_|refine w_skip ?_|refine w_block ?_|refine w_blk ?_|refine q7 ?_|refine q8 ?_|refine q9 ?_)
  refine w_lenSl hb.isSl rfl rfl ?_
  repeat (first|refine q1 ?_|refine q2 ?_|refine q3 ?_|refine q4 ?_|refine q5 ?_|refine q6 ?_|refine w_seq ?_|refine w_region ?_|refine w_ops_nil ?_|refine w_skip ?_|refine w_block ?_|refine w_blk ?_|refine q7 ?_|refine q8 ?_|refine q9 ?_)
  refine w_condP rfl (fun hne => ?_) (fun hne => ?_)
  · repeat (first|refine q1 ?_|refine q2 ?_|refine q3 ?_|refine q4 ?_|refine q5 ?_|refine q6 ?_|refine w_seq ?_|refine w_region ?_|refine w_ops_nil ?_|refine w_skip ?_|refine w_block ?_|refine w_blk ?_|refine q7 ?_|refine q8 ?_|refine q9 ?_)
    exact w_retG (res1 rfl rfl) (Step.refl _ _ _) fun h' _ => congrArg Value.bool (decide_eq_false (fun e => hne (by rw [e]))).symm
  have hle : a.length = b.length := by omega
  repeat (first|refine q1 ?_|refine q2 ?_|refine q3 ?_|refine q4 ?_|refine q5 ?_|refine q6 ?_|refine w_seq ?_|refine w_region ?_|refine w_ops_nil ?_|refine w_skip ?_|refine w_block ?_|refine w_blk ?_|refine q7 ?_|refine q8 ?_|refine q9 ?_)
  refine w_lenSl ha.isSl rfl rfl ?_
  repeat (first|refine q1 ?_|refine q2 ?_|refine q3 ?_|refine q4 ?_|refine q5 ?_|refine q6 ?_|refine w_seq ?_|refine w_region ?_|refine w_ops_nil ?_|refine w_skip ?_|refine w_block ?_|refine w_blk ?_|refine q7 ?_|refine q8 ?_|refine q9 ?_)
  refine w_loop (ι := Nat) (fun i => [(0, va), (1, vb), (12, .int .i64 (a.length : Int)), (13, .int .i64 (i : Int))])
    (fun i w => ∃ h : G, h.w = w ∧ Step [] [] g1 h ∧ i ≤ a.length ∧ a.take i = b.take i) (fun i => a.length - i) 0 ⟨g1, rfl, Step.refl _ _ _, by omega, rfl⟩ ⟨rfl, rfl, rfl, rfl, trivial⟩ ?_
  rintro i _ ⟨h, rfl, hst, hi, htk⟩
  obtain ⟨c1, hc1, ra⟩ := ha.go hst
  obtain ⟨c2, hc2, rb⟩ := hb.go hst
  repeat (first|refine q1 ?_|refine q2 ?_|refine q3 ?_|refine q4 ?_|refine q5 ?_|refine q6 ?_|refine w_seq ?_|refine w_region ?_|refine w_ops_nil ?_|refine w_skip ?_|refine w_block ?_|refine w_blk ?_|refine q7 ?_|refine q8 ?_|refine q9 ?_)
  refine w_condP rfl (fun hlt => ?_) (fun hlt => ?_)
  · have hlt : i < a.length := by omega
    have hlb : i < b.length := by omega
    repeat (first|refine q1 ?_|refine q2 ?_|refine q3 ?_|refine q4 ?_|refine q5 ?_|refine q6 ?_|refine w_seq ?_|refine w_region ?_|refine w_ops_nil ?_|refine w_skip ?_|refine w_block ?_|refine w_blk ?_|refine q7 ?_|refine q8 ?_|refine q9 ?_)
    refine d_begin none [] (by kernel_rfl) fun g2 hsd => ?_
    replace ra := ra.go hsd
    replace rb := rb.go hsd
    refine d_pure 0 calm_ret rfl (by kernel_rfl) rfl rfl ?_; refine d_pure 1 calm_ret rfl (by kernel_rfl) rfl rfl ?_
    refine d_read 2 calm_ret rfl (by kernel_rfl) rfl  (fun h hs => r_idx (ra.go hs) rfl rfl (by omega) (by omega)) ?_
    refine d_read 3 calm_ret rfl (by kernel_rfl) rfl  (fun h hs => r_loadE (i := i) (y := a[i]) (ra.go hs) rfl (by simp [hlt]) rfl) ?_
    refine d_pure 4 calm_ret rfl (by kernel_rfl) rfl rfl ?_; refine d_pure 5 calm_ret rfl (by kernel_rfl) rfl rfl ?_
    refine d_read 6 calm_ret rfl (by kernel_rfl) rfl  (fun h hs => r_idx (rb.go hs) rfl rfl (by omega) (by omega)) ?_
    refine d_read 7 calm_ret rfl (by kernel_rfl) rfl  (fun h hs => r_loadE (i := i) (y := b[i]) (rb.go hs) rfl (by simp [hlb]) rfl) ?_
    refine d_read 8 calm_ret rfl (by kernel_rfl) rfl  (fun h hs => r_neS (E := El.qn) (a := a[i]) (b := b[i]) rfl rfl rfl) ?_
    refine d_done (by kernel_rfl) ?_
    repeat (first|refine q1 ?_|refine q2 ?_|refine q3 ?_|refine q4 ?_|refine q5 ?_|refine q6 ?_|refine w_seq ?_|refine w_region ?_|refine w_ops_nil ?_|refine w_skip ?_|refine w_block ?_|refine w_blk ?_|refine q7 ?_|refine q8 ?_|refine q9 ?_)
    refine w_condP rfl (fun hx => ?_) (fun hx => ?_)
    · repeat (first|refine q1 ?_|refine q2 ?_|refine q3 ?_|refine q4 ?_|refine q5 ?_|refine q6 ?_|refine w_seq ?_|refine w_region ?_|refine w_ops_nil ?_|refine w_skip ?_|refine w_block ?_|refine w_blk ?_|refine q7 ?_|refine q8 ?_|refine q9 ?_)
      exact w_retG (res1 rfl rfl) (hst.go hsd) fun h' _ => congrArg Value.bool (decide_eq_false (fun e => hx (by subst e; rfl))).symm
    · repeat (first|refine q1 ?_|refine q2 ?_|refine q3 ?_|refine q4 ?_|refine q5 ?_|refine q6 ?_|refine w_seq ?_|refine w_region ?_|refine w_ops_nil ?_|refine w_skip ?_|refine w_block ?_|refine w_blk ?_|refine q7 ?_|refine q8 ?_|refine q9 ?_)
      refine w_again (i + 1) (by omega) ⟨g2, rfl, hst.go hsd, by omega, ?_⟩ ⟨rfl, rfl, rfl, rfl, trivial⟩
      rw [List.take_succ_eq_append_getElem hlt, List.take_succ_eq_append_getElem hlb, htk, Decidable.not_not.1 hx]
  · have e : i = a.length := by omega
    subst e
    rw [List.take_length, List.take_of_length_le (by omega)] at htk
    repeat (first|refine q1 ?_|refine q2 ?_|refine q3 ?_|refine q4 ?_|refine q5 ?_|refine q6 ?_|refine w_seq ?_|refine w_region ?_|refine w_ops_nil ?_|refine w_skip ?_|refine w_block ?_|refine w_blk ?_|refine q7 ?_|refine q8 ?_|refine q9 ?_)
    exact w_retG (res1 rfl rfl) hst fun h' _ => congrArg Value.bool (decide_eq_true htk).symm

theorem Equal_rc (a b : List Rc) (g : G) {va vb : Value} (ha : Rdx g El.rc va a) (hb : Rdx g El.rc vb b) : Fn Try.prog 69 [va, vb] g [] fun u _ => u = .bool (decide (a = b)) := by
  refine enterG [] [] Try.func69 rfl Try.ntmps69 rfl (by simp) fun g1 hv ho => ?_
  replace ha := ha.seen hv ho
  replace hb := hb.seen hv ho
  have hlm := ha.isSl.le
  repeat (first|refine q1 ?_|refine q2 ?_|refine q3 ?_|refine q4 ?_|refine q5 ?_|refine q6 ?_|refine w_seq ?_|refine w_region ?_|refine w_ops_nil ?_|refine w_skip ?_|refine w_block ?_|refine w_blk ?_|refine q7 ?_|refine q8 ?_|refine q9 ?_)
  refine w_lenSl ha.isSl rfl rfl ?_
  repeat (first|refine q1 ?_|refine q2 ?_|refine q3 ?_|refine q4 ?_|refine q5 ?_|refine q6 ?_|refine w_seq ?_|refine w_region ?_|refine w_ops_nil ?_|refine w_skip ?_|refine w_block ?_|refine w_blk ?_|refine q7 ?_|refine q8 ?_|refine q9 ?_)
  refine w_lenSl hb.isSl rfl rfl ?_
  repeat (first|refine q1 ?_|refine q2 ?_|refine q3 ?_|refine q4 ?_|refine q5 ?_|refine q6 ?_|refine w_seq ?_|refine w_region ?_|refine w_ops_nil ?_|refine w_skip ?_|refine w_block ?_|refine w_blk ?_|refine q7 ?_|refine q8 ?_|refine q9 ?_)
  refine w_condP rfl (fun hne => ?_) (fun hne => ?_)
  · repeat (first|refine q1 ?_|refine q2 ?_|refine q3 ?_|refine q4 ?_|refine q5 ?_|refine q6 ?_|refine w_seq ?_|refine w_region ?_|refine w_ops_nil ?_|refine w_skip ?_|refine w_block ?_|refine w_blk ?_|refine q7 ?_|refine q8 ?_|refine q9 ?_)
    exact w_retG (res1 rfl rfl) (Step.refl _ _ _) fun h' _ => congrArg Value.bool (decide_eq_false (fun e => hne (by rw [e]))).symm
  have hle : a.length = b.length := by omega
  repeat (first|refine q1 ?_|refine q2 ?_|refine q3 ?_|refine q4 ?_|refine q5 ?_|refine q6 ?_|refine w_seq ?_|refine w_region ?_|refine w_ops_nil ?_|refine w_skip ?_|refine w_block ?_|refine w_blk ?_|refine q7 ?_|refine q8 ?_|refine q9 ?_)
  refine w_lenSl ha.isSl rfl rfl ?_
  repeat (first|refine q1 ?_|refine q2 ?_|refine q3 ?_|refine q4 ?_|refine q5 ?_|refine q6 ?_|refine w_seq ?_|refine w_region ?_|refine w_ops_nil ?_|refine w_skip ?_|refine w_block ?_|refine w_blk ?_|refine q7 ?_|refine q8 ?_|refine q9 ?_)
  refine w_loop (ι := Nat) (fun i => [(0, va), (1, vb), (12, .int .i64 (a.length : Int)), (13, .int .i64 (i : Int))])
    (fun i w => ∃ h : G, h.w = w ∧ Step [] [] g1 h ∧ i ≤ a.length ∧ a.take i = b.take i) (fun i => a.length - i) 0 ⟨g1, rfl, Step.refl _ _ _, by omega, rfl⟩ ⟨rfl, rfl, rfl, rfl, trivial⟩ ?_
  rintro i _ ⟨h, rfl, hst, hi, htk⟩
  obtain ⟨c1, hc1, ra⟩ := ha.go hst
  obtain ⟨c2, hc2, rb⟩ := hb.go hst
  repeat (first|refine q1 ?_|refine q2 ?_|refine q3 ?_|refine q4 ?_|refine q5 ?_|refine q6 ?_|refine w_seq ?_|refine w_region ?_|refine w_ops_nil ?_|refine w_skip ?_|refine w_block ?_|refine w_blk ?_|refine q7 ?_|refine q8 ?_|refine q9 ?_)
  refine w_condP rfl (fun hlt => ?_) (fun hlt => ?_)
  · have hlt : i < a.length := by omega
    have hlb : i < b.length := by omega
    repeat (first|refine q1 ?_|refine q2 ?_|refine q3 ?_|refine q4 ?_|refine q5 ?_|refine q6 ?_|refine w_seq ?_|refine w_region ?_|refine w_ops_nil ?_|refine w_skip ?_|refine w_block ?_|refine w_blk ?_|refine q7 ?_|refine q8 ?_|refine q9 ?_)
    refine d_begin none [] (by kernel_rfl) fun g2 hsd => ?_
    replace ra := ra.go hsd
    replace rb := rb.go hsd
    refine d_pure 0 calm_ret rfl (by kernel_rfl) rfl rfl ?_; refine d_pure 1 calm_ret rfl (by kernel_rfl) rfl rfl ?_
    refine d_read 2 calm_ret rfl (by kernel_rfl) rfl  (fun h hs => r_idx (ra.go hs) rfl rfl (by omega) (by omega)) ?_
    refine d_read 3 calm_ret rfl (by kernel_rfl) rfl  (fun h hs => r_loadE (i := i) (y := a[i]) (ra.go hs) rfl (by simp [hlt]) rfl) ?_
    refine d_pure 4 calm_ret rfl (by kernel_rfl) rfl rfl ?_; refine d_pure 5 calm_ret rfl (by kernel_rfl) rfl rfl ?_
    refine d_read 6 calm_ret rfl (by kernel_rfl) rfl  (fun h hs => r_idx (rb.go hs) rfl rfl (by omega) (by omega)) ?_
    refine d_read 7 calm_ret rfl (by kernel_rfl) rfl  (fun h hs => r_loadE (i := i) (y := b[i]) (rb.go hs) rfl (by simp [hlb]) rfl) ?_
    refine d_read 8 calm_ret rfl (by kernel_rfl) rfl  (fun h hs => r_neS (E := El.rc) (a := a[i]) (b := b[i]) rfl rfl rfl) ?_
    refine d_done (by kernel_rfl) ?_
    repeat (first|refine q1 ?_|refine q2 ?_|refine q3 ?_|refine q4 ?_|refine q5 ?_|refine q6 ?_|refine w_seq ?_|refine w_region ?_|refine w_ops_nil ?_|refine w_skip ?_|refine w_block ?_|refine w_blk ?_|refine q7 ?_|refine q8 ?_|refine q9 ?_)
    refine w_condP rfl (fun hx => ?_) (fun hx => ?_)
    · repeat (first|refine q1 ?_|refine q2 ?_|refine q3 ?_|refine q4 ?_|refine q5 ?_|refine q6 ?_|refine w_seq ?_|refine w_region ?_|refine w_ops_nil ?_|refine w_skip ?_|refine w_block ?_|refine w_blk ?_|refine q7 ?_|refine q8 ?_|refine q9 ?_)
      exact w_retG (res1 rfl rfl) (hst.go hsd) fun h' _ => congrArg Value.bool (decide_eq_false (fun e => hx (by subst e; rfl))).symm
    · repeat (first|refine q1 ?_|refine q2 ?_|refine q3 ?_|refine q4 ?_|refine q5 ?_|refine q6 ?_|refine w_seq ?_|refine w_region ?_|refine w_ops_nil ?_|refine w_skip ?_|refine w_block ?_|refine w_blk ?_|refine q7 ?_|refine q8 ?_|refine q9 ?_)
      refine w_again (i + 1) (by omega) ⟨g2, rfl, hst.go hsd, by omega, ?_⟩ ⟨rfl, rfl, rfl, rfl, trivial⟩
      rw [List.take_succ_eq_append_getElem hlt, List.take_succ_eq_append_getElem hlb, htk, Decidable.not_not.1 hx]
  · have e : i = a.length := by omega
    subst e
    rw [List.take_length, List.take_of_length_le (by omega)] at htk
    repeat (first|refine q1 ?_|refine q2 ?_|refine q3 ?_|refine q4 ?_|refine q5 ?_|refine q6 ?_|refine w_seq ?_|refine w_region ?_|refine w_ops_nil ?_|refine w_skip ?_|refine w_block ?_|refine w_blk ?_|refine q7 ?_|refine q8 ?_|refine q9 ?_)
    exact w_retG (res1 rfl rfl) hst fun h' _ => congrArg Value.bool (decide_eq_true htk).symm


theorem ref09_sameRecords (a b : List Rc) (g : G) {va vb : Value} (ha : Rdx g El.rc va a) (hb : Rdx g El.rc vb b) : Fn Try.prog 65 [va, vb] g [] fun u _ => u = .bool (decide (a = b)) := by
  refine enterG [] [] Try.func65 rfl Try.ntmps65 rfl (by simp) fun g1 hv ho => ?_
  replace ha := ha.seen hv ho
  replace hb := hb.seen hv ho
  have hlm := ha.isSl.le
  repeat (first|refine q1 ?_|refine q2 ?_|refine q3 ?_|refine q4 ?_|refine q5 ?_|refine q6 ?_|refine w_seq ?_|refine w_region ?_|refine w_ops_nil ?_|refine w_skip ?_|refine w_block ?_|refine w_blk ?_|refine q7 ?_|refine q8 ?_|refine q9 ?_)
  refine w_lenSl ha.isSl rfl rfl ?_
  repeat (first|refine q1 ?_|refine q2 ?_|refine q3 ?_|refine q4 ?_|refine q5 ?_|refine q6 ?_|refine w_seq ?_|refine w_region ?_|refine w_ops_nil ?_|refine w_skip ?_|refine w_block ?_|refine w_blk ?_|refine q7 ?_|refine q8 ?_|refine q9 ?_)
  refine w_lenSl hb.isSl rfl rfl ?_
  repeat (first|refine q1 ?_|refine q2 ?_|refine q3 ?_|refine q4 ?_|refine q5 ?_|refine q6 ?_|refine w_seq ?_|refine w_region ?_|refine w_ops_nil ?_|refine w_skip ?_|refine w_block ?_|refine w_blk ?_|refine q7 ?_|refine q8 ?_|refine q9 ?_)
  refine w_condP rfl (fun hne => ?_) (fun hne => ?_)
  · repeat (first|refine q1 ?_|refine q2 ?_|refine q3 ?_|refine q4 ?_|refine q5 ?_|refine q6 ?_|refine w_seq ?_|refine w_region ?_|refine w_ops_nil ?_|refine w_skip ?_|refine w_block ?_|refine w_blk ?_|refine q7 ?_|refine q8 ?_|refine q9 ?_)
    exact w_retG (res1 rfl rfl) (Step.refl _ _ _) fun h' _ => congrArg Value.bool (decide_eq_false (fun e => hne (by rw [e]))).symm
  have hle : a.length = b.length := by omega
  repeat (first|refine q1 ?_|refine q2 ?_|refine q3 ?_|refine q4 ?_|refine q5 ?_|refine q6 ?_|refine w_seq ?_|refine w_region ?_|refine w_ops_nil ?_|refine w_skip ?_|refine w_block ?_|refine w_blk ?_|refine q7 ?_|refine q8 ?_|refine q9 ?_)
  refine w_loop (ι := Nat) (fun i => [(0, va), (1, vb), (5, .int .i64 (i : Int))])
    (fun i w => ∃ h : G, h.w = w ∧ Step [] [] g1 h ∧ i ≤ a.length ∧ a.take i = b.take i) (fun i => a.length - i) 0 ⟨g1, rfl, Step.refl _ _ _, by omega, rfl⟩ ⟨rfl, rfl, rfl, trivial⟩ ?_
  rintro i _ ⟨h, rfl, hst, hi, htk⟩
  obtain ⟨c1, hc1, ra⟩ := ha.go hst
  obtain ⟨c2, hc2, rb⟩ := hb.go hst
  repeat (first|refine q1 ?_|refine q2 ?_|refine q3 ?_|refine q4 ?_|refine q5 ?_|refine q6 ?_|refine w_seq ?_|refine w_region ?_|refine w_ops_nil ?_|refine w_skip ?_|refine w_block ?_|refine w_blk ?_|refine q7 ?_|refine q8 ?_|refine q9 ?_)
  refine w_lenSl ra.isSl rfl rfl ?_
  repeat (first|refine q1 ?_|refine q2 ?_|refine q3 ?_|refine q4 ?_|refine q5 ?_|refine q6 ?_|refine w_seq ?_|refine w_region ?_|refine w_ops_nil ?_|refine w_skip ?_|refine w_block ?_|refine w_blk ?_|refine q7 ?_|refine q8 ?_|refine q9 ?_)
  refine w_condP rfl (fun hlt => ?_) (fun hlt => ?_)
  · have hlt : i < a.length := by omega
    have hlb : i < b.length := by omega
    repeat (first|refine q1 ?_|refine q2 ?_|refine q3 ?_|refine q4 ?_|refine q5 ?_|refine q6 ?_|refine w_seq ?_|refine w_region ?_|refine w_ops_nil ?_|refine w_skip ?_|refine w_block ?_|refine w_blk ?_|refine q7 ?_|refine q8 ?_|refine q9 ?_)
    refine d_begin none [] (by kernel_rfl) fun g2 hsd => ?_
    replace ra := ra.go hsd
    replace rb := rb.go hsd
    refine d_pure 0 calm_ret rfl (by kernel_rfl) rfl rfl ?_; refine d_pure 1 calm_ret rfl (by kernel_rfl) rfl rfl ?_
    refine d_read 2 calm_ret rfl (by kernel_rfl) rfl  (fun h hs => r_idx (ra.go hs) rfl rfl (by omega) (by omega)) ?_
    refine d_read 3 calm_ret rfl (by kernel_rfl) rfl  (fun h hs => r_loadE (i := i) (y := a[i]) (ra.go hs) rfl (by simp [hlt]) rfl) ?_
    refine d_pure 4 calm_ret rfl (by kernel_rfl) rfl rfl ?_; refine d_pure 5 calm_ret rfl (by kernel_rfl) rfl rfl ?_
    refine d_read 6 calm_ret rfl (by kernel_rfl) rfl  (fun h hs => r_idx (rb.go hs) rfl rfl (by omega) (by omega)) ?_
    refine d_read 7 calm_ret rfl (by kernel_rfl) rfl  (fun h hs => r_loadE (i := i) (y := b[i]) (rb.go hs) rfl (by simp [hlb]) rfl) ?_
    refine d_read 8 calm_ret rfl (by kernel_rfl) rfl  (fun h hs => r_neS (E := El.rc) (a := a[i]) (b := b[i]) rfl rfl rfl) ?_
    refine d_done (by kernel_rfl) ?_
    repeat (first|refine q1 ?_|refine q2 ?_|refine q3 ?_|refine q4 ?_|refine q5 ?_|refine q6 ?_|refine w_seq ?_|refine w_region ?_|refine w_ops_nil ?_|refine w_skip ?_|refine w_block ?_|refine w_blk ?_|refine q7 ?_|refine q8 ?_|refine q9 ?_)
    refine w_condP rfl (fun hx => ?_) (fun hx => ?_)
    · repeat (first|refine q1 ?_|refine q2 ?_|refine q3 ?_|refine q4 ?_|refine q5 ?_|refine q6 ?_|refine w_seq ?_|refine w_region ?_|refine w_ops_nil ?_|refine w_skip ?_|refine w_block ?_|refine w_blk ?_|refine q7 ?_|refine q8 ?_|refine q9 ?_)
      exact w_retG (res1 rfl rfl) (hst.go hsd) fun h' _ => congrArg Value.bool (decide_eq_false (fun e => hx (by subst e; rfl))).symm
    · repeat (first|refine q1 ?_|refine q2 ?_|refine q3 ?_|refine q4 ?_|refine q5 ?_|refine q6 ?_|refine w_seq ?_|refine w_region ?_|refine w_ops_nil ?_|refine w_skip ?_|refine w_block ?_|refine w_blk ?_|refine q7 ?_|refine q8 ?_|refine q9 ?_)
      refine w_again (i + 1) (by omega) ⟨g2, rfl, hst.go hsd, by omega, ?_⟩ ⟨rfl, rfl, rfl, trivial⟩
      rw [List.take_succ_eq_append_getElem hlt, List.take_succ_eq_append_getElem hlb, htk, Decidable.not_not.1 hx]
  · have e : i = a.length := by omega
    subst e
    rw [List.take_length, List.take_of_length_le (by omega)] at htk
    repeat (first|refine q1 ?_|refine q2 ?_|refine q3 ?_|refine q4 ?_|refine q5 ?_|refine q6 ?_|refine w_seq ?_|refine w_region ?_|refine w_ops_nil ?_|refine w_skip ?_|refine w_block ?_|refine w_blk ?_|refine q7 ?_|refine q8 ?_|refine q9 ?_)
    exact w_retG (res1 rfl rfl) hst fun h' _ => congrArg Value.bool (decide_eq_true htk).symm

theorem Ms.ext_iff' {a b : Ms} : a = b ↔ a.id = b.id ∧ a.flags = b.flags ∧ a.asked = b.asked ∧ a.ans = b.ans ∧ a.auth = b.auth ∧ a.more = b.more := by
  obtain ⟨a1, a2, a3, a4, a5, a6⟩ := a
  obtain ⟨b1, b2, b3, b4, b5, b6⟩ := b
  simp

theorem ref09_Same (a b : Ms) (us vs : List Value) (g : G) (ha : MsR g us a) (hb : MsR g vs b) : Fn Try.prog 34 [.agg us.toArray, .agg vs.toArray] g [] fun u _ => u = .bool (decide (a = b)) := by
  refine enterG [] [41, 42] Try.func34 rfl Try.ntmps34 rfl (by simp) fun g1 hv ho => ?_
  replace ha := ha.seen hv ho
  replace hb := hb.seen hv ho
  obtain ⟨aq, aa, au, am, rfl, ha1, ha2, ha3, ha4⟩ := ha
  obtain ⟨bq, ba, bu, bm, rfl, hb1, hb2, hb3, hb4⟩ := hb
  let cs : List Value := [.int .i64 a.id, .int .i64 a.flags, aq, aa, au, am]
  let ds : List Value := [.int .i64 b.id, .int .i64 b.flags, bq, ba, bu, bm]
  have no : ∀ {p : Prop}, (¬ p) → (a = b → p) → Value.bool false = .bool (decide (a = b)) := fun hp h => congrArg Value.bool (decide_eq_false (fun hr => hp (h hr))).symm
  repeat (first|refine q1 ?_|refine q2 ?_|refine q3 ?_|refine q4 ?_|refine q5 ?_|refine q6 ?_|refine w_seq ?_|refine w_region ?_|refine w_ops_nil ?_|refine w_skip ?_|refine w_block ?_|refine w_blk ?_|refine q7 ?_|refine q8 ?_|refine q9 ?_)
  refine w_box 41 (vs := cs) rfl rfl rfl fun h1 b1 hs1 hc1 => ?_
  have hst : Step [] [41, 42] g1 h1 := hs1.nil
  repeat (first|refine q1 ?_|refine q2 ?_|refine q3 ?_|refine q4 ?_|refine q5 ?_|refine q6 ?_|refine w_seq ?_|refine w_region ?_|refine w_ops_nil ?_|refine w_skip ?_|refine w_block ?_|refine w_blk ?_|refine q7 ?_|refine q8 ?_|refine q9 ?_)
  refine w_box 42 (vs := ds) rfl rfl rfl fun h2 b2 hs2 hc2 => ?_
  replace hst := hst.go hs2; replace hc1 := hc1.go hs2
  have hlm := (ha1.go hst).isSl.le
  repeat (first|refine q1 ?_|refine q2 ?_|refine q3 ?_|refine q4 ?_|refine q5 ?_|refine q6 ?_|refine w_seq ?_|refine w_region ?_|refine w_ops_nil ?_|refine w_skip ?_|refine w_block ?_|refine w_blk ?_|refine q7 ?_|refine q8 ?_|refine q9 ?_)
  refine w_fldA (by decide) rfl rfl ?_
  refine w_load1 (v := .int .i64 a.id) hc1 rfl rfl rfl rfl ?_
  refine w_fldA (by decide) rfl rfl ?_
  refine w_load1 (v := .int .i64 b.id) hc2 rfl rfl rfl rfl ?_
  repeat (first|refine q1 ?_|refine q2 ?_|refine q3 ?_|refine q4 ?_|refine q5 ?_|refine q6 ?_|refine w_seq ?_|refine w_region ?_|refine w_ops_nil ?_|refine w_skip ?_|refine w_block ?_|refine w_blk ?_|refine q7 ?_|refine q8 ?_|refine q9 ?_)
  refine w_splitP 11 rfl (fun k1 => ?_) (fun k1 => ?_)
  · repeat (first|refine q1 ?_|refine q2 ?_|refine q3 ?_|refine q4 ?_|refine q5 ?_|refine q6 ?_|refine w_seq ?_|refine w_region ?_|refine w_ops_nil ?_|refine w_skip ?_|refine w_block ?_|refine w_blk ?_|refine q7 ?_|refine q8 ?_|refine q9 ?_)
    exact w_retG (res1 rfl rfl) hst fun h' _ => no k1 (fun e => by rw [e])
  repeat (first|refine q1 ?_|refine q2 ?_|refine q3 ?_|refine q4 ?_|refine q5 ?_|refine q6 ?_|refine w_seq ?_|refine w_region ?_|refine w_ops_nil ?_|refine w_skip ?_|refine w_block ?_|refine w_blk ?_|refine q7 ?_|refine q8 ?_|refine q9 ?_)
  refine w_fldA (by decide) rfl rfl ?_
  repeat (first|refine q1 ?_|refine q2 ?_|refine q3 ?_|refine q4 ?_|refine q5 ?_|refine q6 ?_|refine w_seq ?_|refine w_region ?_|refine w_ops_nil ?_|refine w_skip ?_|refine w_block ?_|refine w_blk ?_|refine q7 ?_|refine q8 ?_|refine q9 ?_)
  refine w_load1 (v := .int .i64 a.flags) hc1 rfl rfl rfl rfl ?_
  repeat (first|refine q1 ?_|refine q2 ?_|refine q3 ?_|refine q4 ?_|refine q5 ?_|refine q6 ?_|refine w_seq ?_|refine w_region ?_|refine w_ops_nil ?_|refine w_skip ?_|refine w_block ?_|refine w_blk ?_|refine q7 ?_|refine q8 ?_|refine q9 ?_)
  refine w_fldA (by decide) rfl rfl ?_
  repeat (first|refine q1 ?_|refine q2 ?_|refine q3 ?_|refine q4 ?_|refine q5 ?_|refine q6 ?_|refine w_seq ?_|refine w_region ?_|refine w_ops_nil ?_|refine w_skip ?_|refine w_block ?_|refine w_blk ?_|refine q7 ?_|refine q8 ?_|refine q9 ?_)
  refine w_load1 (v := .int .i64 b.flags) hc2 rfl rfl rfl rfl ?_
  repeat (first|refine q1 ?_|refine q2 ?_|refine q3 ?_|refine q4 ?_|refine q5 ?_|refine q6 ?_|refine w_seq ?_|refine w_region ?_|refine w_ops_nil ?_|refine w_skip ?_|refine w_block ?_|refine w_blk ?_|refine q7 ?_|refine q8 ?_|refine q9 ?_)
  refine w_splitP 18 rfl (fun k2 => ?_) (fun k2 => ?_)
  · repeat (first|refine q1 ?_|refine q2 ?_|refine q3 ?_|refine q4 ?_|refine q5 ?_|refine q6 ?_|refine w_seq ?_|refine w_region ?_|refine w_ops_nil ?_|refine w_skip ?_|refine w_block ?_|refine w_blk ?_|refine q7 ?_|refine q8 ?_|refine q9 ?_)
    exact w_retG (res1 rfl rfl) hst fun h' _ => no k2 (fun e => by rw [e])
  repeat (first|refine q1 ?_|refine q2 ?_|refine q3 ?_|refine q4 ?_|refine q5 ?_|refine q6 ?_|refine w_seq ?_|refine w_region ?_|refine w_ops_nil ?_|refine w_skip ?_|refine w_block ?_|refine w_blk ?_|refine q7 ?_|refine q8 ?_|refine q9 ?_)
  refine w_fldA (by decide) rfl rfl ?_
  repeat (first|refine q1 ?_|refine q2 ?_|refine q3 ?_|refine q4 ?_|refine q5 ?_|refine q6 ?_|refine w_seq ?_|refine w_region ?_|refine w_ops_nil ?_|refine w_skip ?_|refine w_block ?_|refine w_blk ?_|refine q7 ?_|refine q8 ?_|refine q9 ?_)
  refine w_load1 (v := aq) hc1 rfl rfl rfl rfl ?_
  repeat (first|refine q1 ?_|refine q2 ?_|refine q3 ?_|refine q4 ?_|refine q5 ?_|refine q6 ?_|refine w_seq ?_|refine w_region ?_|refine w_ops_nil ?_|refine w_skip ?_|refine w_block ?_|refine w_blk ?_|refine q7 ?_|refine q8 ?_|refine q9 ?_)
  refine w_lenSl ha1.isSl rfl rfl ?_
  repeat (first|refine q1 ?_|refine q2 ?_|refine q3 ?_|refine q4 ?_|refine q5 ?_|refine q6 ?_|refine w_seq ?_|refine w_region ?_|refine w_ops_nil ?_|refine w_skip ?_|refine w_block ?_|refine w_blk ?_|refine q7 ?_|refine q8 ?_|refine q9 ?_)
  refine w_fldA (by decide) rfl rfl ?_
  repeat (first|refine q1 ?_|refine q2 ?_|refine q3 ?_|refine q4 ?_|refine q5 ?_|refine q6 ?_|refine w_seq ?_|refine w_region ?_|refine w_ops_nil ?_|refine w_skip ?_|refine w_block ?_|refine w_blk ?_|refine q7 ?_|refine q8 ?_|refine q9 ?_)
  refine w_load1 (v := bq) hc2 rfl rfl rfl rfl ?_
  repeat (first|refine q1 ?_|refine q2 ?_|refine q3 ?_|refine q4 ?_|refine q5 ?_|refine q6 ?_|refine w_seq ?_|refine w_region ?_|refine w_ops_nil ?_|refine w_skip ?_|refine w_block ?_|refine w_blk ?_|refine q7 ?_|refine q8 ?_|refine q9 ?_)
  refine w_lenSl hb1.isSl rfl rfl ?_
  repeat (first|refine q1 ?_|refine q2 ?_|refine q3 ?_|refine q4 ?_|refine q5 ?_|refine q6 ?_|refine w_seq ?_|refine w_region ?_|refine w_ops_nil ?_|refine w_skip ?_|refine w_block ?_|refine w_blk ?_|refine q7 ?_|refine q8 ?_|refine q9 ?_)
  refine w_condP rfl (fun k3 => ?_) (fun k3 => ?_)
  · repeat (first|refine q1 ?_|refine q2 ?_|refine q3 ?_|refine q4 ?_|refine q5 ?_|refine q6 ?_|refine w_seq ?_|refine w_region ?_|refine w_ops_nil ?_|refine w_skip ?_|refine w_block ?_|refine w_blk ?_|refine q7 ?_|refine q8 ?_|refine q9 ?_)
    exact w_retG (res1 rfl rfl) hst fun h' _ => no k3 (fun e => by rw [e])
  have hle : a.asked.length = b.asked.length := by omega
  repeat (first|refine q1 ?_|refine q2 ?_|refine q3 ?_|refine q4 ?_|refine q5 ?_|refine q6 ?_|refine w_seq ?_|refine w_region ?_|refine w_ops_nil ?_|refine w_skip ?_|refine w_block ?_|refine w_blk ?_|refine q7 ?_|refine q8 ?_|refine q9 ?_)
  refine w_loop (ι := Nat) (fun i => [(2, .pointer (some ⟨b1, 0, none⟩)), (3, .pointer (some ⟨b2, 0, none⟩)), (5, .int .i64 (i : Int))])
    (fun i w => ∃ h : G, h.w = w ∧ Step [] [] h2 h ∧ i ≤ a.asked.length ∧ a.asked.take i = b.asked.take i) (fun i => a.asked.length - i) 0 ⟨h2, rfl, Step.refl _ _ _, by omega, rfl⟩ ⟨rfl, rfl, rfl, trivial⟩ ?_
  rintro i _ ⟨h, rfl, hst2, hi, htk⟩
  replace hst := hst.go hst2; replace hc1 := hc1.go hst2; replace hc2 := hc2.go hst2
  obtain ⟨c1, hx1, ra⟩ := ha1.go hst
  obtain ⟨c2, hx2, rb⟩ := hb1.go hst
  repeat (first|refine q1 ?_|refine q2 ?_|refine q3 ?_|refine q4 ?_|refine q5 ?_|refine q6 ?_|refine w_seq ?_|refine w_region ?_|refine w_ops_nil ?_|refine w_skip ?_|refine w_block ?_|refine w_blk ?_|refine q7 ?_|refine q8 ?_|refine q9 ?_)
  refine w_fldA (by decide) rfl rfl ?_
  refine w_load1 (v := aq) hc1 rfl rfl rfl rfl ?_
  refine w_lenSl ra.isSl rfl rfl ?_
  repeat (first|refine q1 ?_|refine q2 ?_|refine q3 ?_|refine q4 ?_|refine q5 ?_|refine q6 ?_|refine w_seq ?_|refine w_region ?_|refine w_ops_nil ?_|refine w_skip ?_|refine w_block ?_|refine w_blk ?_|refine q7 ?_|refine q8 ?_|refine q9 ?_)
  refine w_condP rfl (fun hlt => ?_) (fun hlt => ?_)
  · have hlt : i < a.asked.length := by omega
    have hlb : i < b.asked.length := by omega
    repeat (first|refine q1 ?_|refine q2 ?_|refine q3 ?_|refine q4 ?_|refine q5 ?_|refine q6 ?_|refine w_seq ?_|refine w_region ?_|refine w_ops_nil ?_|refine w_skip ?_|refine w_block ?_|refine w_blk ?_|refine q7 ?_|refine q8 ?_|refine q9 ?_)
    refine d_begin none [] (by kernel_rfl) fun g2 hsd => ?_
    replace ra := ra.go hsd; replace rb := rb.go hsd; replace hst := hst.go hsd; replace hst2 := hst2.go hsd; replace hc1 := hc1.go hsd; replace hc2 := hc2.go hsd
    refine d_read 0 calm_ret rfl (by kernel_rfl) rfl  (fun h hs => r_fldA (by decide) rfl) ?_
    refine d_read 1 calm_ret rfl (by kernel_rfl) rfl  (fun h hs => r_load1 (v := aq) (hc1.go hs) rfl rfl rfl) ?_
    refine d_pure 2 calm_ret rfl (by kernel_rfl) rfl rfl ?_
    refine d_read 3 calm_ret rfl (by kernel_rfl) rfl  (fun h hs => r_idx (ra.go hs) rfl rfl (by omega) (by omega)) ?_
    refine d_read 4 calm_ret rfl (by kernel_rfl) rfl  (fun h hs => r_loadE (i := i) (y := a.asked[i]) (ra.go hs) rfl (by simp [hlt]) rfl) ?_
    refine d_read 5 calm_ret rfl (by kernel_rfl) rfl  (fun h hs => r_fldA (by decide) rfl) ?_
    refine d_read 6 calm_ret rfl (by kernel_rfl) rfl  (fun h hs => r_load1 (v := bq) (hc2.go hs) rfl rfl rfl) ?_
    refine d_pure 7 calm_ret rfl (by kernel_rfl) rfl rfl ?_
    refine d_read 8 calm_ret rfl (by kernel_rfl) rfl  (fun h hs => r_idx (rb.go hs) rfl rfl (by omega) (by omega)) ?_
    refine d_read 9 calm_ret rfl (by kernel_rfl) rfl  (fun h hs => r_loadE (i := i) (y := b.asked[i]) (rb.go hs) rfl (by simp [hlb]) rfl) ?_
    refine d_read 10 calm_ret rfl (by kernel_rfl) rfl  (fun h hs => r_neS (E := El.qn) (a := a.asked[i]) (b := b.asked[i]) rfl rfl rfl) ?_
    refine d_done (by kernel_rfl) ?_
    repeat (first|refine q1 ?_|refine q2 ?_|refine q3 ?_|refine q4 ?_|refine q5 ?_|refine q6 ?_|refine w_seq ?_|refine w_region ?_|refine w_ops_nil ?_|refine w_skip ?_|refine w_block ?_|refine w_blk ?_|refine q7 ?_|refine q8 ?_|refine q9 ?_)
    refine w_condP rfl (fun hx => ?_) (fun hx => ?_)
    · repeat (first|refine q1 ?_|refine q2 ?_|refine q3 ?_|refine q4 ?_|refine q5 ?_|refine q6 ?_|refine w_seq ?_|refine w_region ?_|refine w_ops_nil ?_|refine w_skip ?_|refine w_block ?_|refine w_blk ?_|refine q7 ?_|refine q8 ?_|refine q9 ?_)
      exact w_retG (res1 rfl rfl) hst fun h' _ => no hx (fun e => by subst e; rfl)
    · repeat (first|refine q1 ?_|refine q2 ?_|refine q3 ?_|refine q4 ?_|refine q5 ?_|refine q6 ?_|refine w_seq ?_|refine w_region ?_|refine w_ops_nil ?_|refine w_skip ?_|refine w_block ?_|refine w_blk ?_|refine q7 ?_|refine q8 ?_|refine q9 ?_)
      refine w_again (i + 1) (by omega) ⟨g2, rfl, hst2, by omega, ?_⟩ ⟨rfl, rfl, rfl, trivial⟩
      rw [List.take_succ_eq_append_getElem hlt, List.take_succ_eq_append_getElem hlb, htk, Decidable.not_not.1 hx]
  have e : i = a.asked.length := by omega
  subst e
  rw [List.take_length, List.take_of_length_le (by omega)] at htk
  clear hst2 ra rb
  repeat (first|refine q1 ?_|refine q2 ?_|refine q3 ?_|refine q4 ?_|refine q5 ?_|refine q6 ?_|refine w_seq ?_|refine w_region ?_|refine w_ops_nil ?_|refine w_skip ?_|refine w_block ?_|refine w_blk ?_|refine q7 ?_|refine q8 ?_|refine q9 ?_)
  refine w_fldA (by decide) rfl rfl ?_
  refine w_load1 (v := aa) hc1 rfl rfl rfl rfl ?_
  refine w_fldA (by decide) rfl rfl ?_
  refine w_load1 (v := ba) hc2 rfl rfl rfl rfl ?_
  refine w_callF rfl (ref09_sameRecords a.ans b.ans h (ha2.go hst) (hb2.go hst)) rfl fun u k4 hs4 hu => ?_
  subst hu
  replace hst := hst.go hs4; replace hc1 := hc1.go hs4; replace hc2 := hc2.go hs4
  repeat (first|refine q1 ?_|refine q2 ?_|refine q3 ?_|refine q4 ?_|refine q5 ?_|refine q6 ?_|refine w_seq ?_|refine w_region ?_|refine w_ops_nil ?_|refine w_skip ?_|refine w_block ?_|refine w_blk ?_|refine q7 ?_|refine q8 ?_|refine q9 ?_)
  refine w_splitP 50 rfl (fun j1 => ?_) (fun j1 => ?_)
  case refine_2 =>
    repeat (first|refine q1 ?_|refine q2 ?_|refine q3 ?_|refine q4 ?_|refine q5 ?_|refine q6 ?_|refine w_seq ?_|refine w_region ?_|refine w_ops_nil ?_|refine w_skip ?_|refine w_block ?_|refine w_blk ?_|refine q7 ?_|refine q8 ?_|refine q9 ?_)
    exact w_retG (res1 rfl rfl) hst fun h' _ => no j1 (fun e => by rw [e])
  repeat (first|refine q1 ?_|refine q2 ?_|refine q3 ?_|refine q4 ?_|refine q5 ?_|refine q6 ?_|refine w_seq ?_|refine w_region ?_|refine w_ops_nil ?_|refine w_skip ?_|refine w_block ?_|refine w_blk ?_|refine q7 ?_|refine q8 ?_|refine q9 ?_)
  refine w_fldA (by decide) rfl rfl ?_
  repeat (first|refine q1 ?_|refine q2 ?_|refine q3 ?_|refine q4 ?_|refine q5 ?_|refine q6 ?_|refine w_seq ?_|refine w_region ?_|refine w_ops_nil ?_|refine w_skip ?_|refine w_block ?_|refine w_blk ?_|refine q7 ?_|refine q8 ?_|refine q9 ?_)
  refine w_load1 (v := au) hc1 rfl rfl rfl rfl ?_
  repeat (first|refine q1 ?_|refine q2 ?_|refine q3 ?_|refine q4 ?_|refine q5 ?_|refine q6 ?_|refine w_seq ?_|refine w_region ?_|refine w_ops_nil ?_|refine w_skip ?_|refine w_block ?_|refine w_blk ?_|refine q7 ?_|refine q8 ?_|refine q9 ?_)
  refine w_fldA (by decide) rfl rfl ?_
  repeat (first|refine q1 ?_|refine q2 ?_|refine q3 ?_|refine q4 ?_|refine q5 ?_|refine q6 ?_|refine w_seq ?_|refine w_region ?_|refine w_ops_nil ?_|refine w_skip ?_|refine w_block ?_|refine w_blk ?_|refine q7 ?_|refine q8 ?_|refine q9 ?_)
  refine w_load1 (v := bu) hc2 rfl rfl rfl rfl ?_
  repeat (first|refine q1 ?_|refine q2 ?_|refine q3 ?_|refine q4 ?_|refine q5 ?_|refine q6 ?_|refine w_seq ?_|refine w_region ?_|refine w_ops_nil ?_|refine w_skip ?_|refine w_block ?_|refine w_blk ?_|refine q7 ?_|refine q8 ?_|refine q9 ?_)
  refine w_callF rfl (ref09_sameRecords a.auth b.auth k4 (ha3.go hst) (hb3.go hst)) rfl fun u k5 hs5 hu => ?_
  subst hu
  replace hst := hst.go hs5; replace hc1 := hc1.go hs5; replace hc2 := hc2.go hs5
  repeat (first|refine q1 ?_|refine q2 ?_|refine q3 ?_|refine q4 ?_|refine q5 ?_|refine q6 ?_|refine w_seq ?_|refine w_region ?_|refine w_ops_nil ?_|refine w_skip ?_|refine w_block ?_|refine w_blk ?_|refine q7 ?_|refine q8 ?_|refine q9 ?_)
  refine w_splitP 57 rfl (fun j2 => ?_) (fun j2 => ?_)
  case refine_2 =>
    repeat (first|refine q1 ?_|refine q2 ?_|refine q3 ?_|refine q4 ?_|refine q5 ?_|refine q6 ?_|refine w_seq ?_|refine w_region ?_|refine w_ops_nil ?_|refine w_skip ?_|refine w_block ?_|refine w_blk ?_|refine q7 ?_|refine q8 ?_|refine q9 ?_)
    exact w_retG (res1 rfl rfl) hst fun h' _ => no j2 (fun e => by rw [e])
  repeat (first|refine q1 ?_|refine q2 ?_|refine q3 ?_|refine q4 ?_|refine q5 ?_|refine q6 ?_|refine w_seq ?_|refine w_region ?_|refine w_ops_nil ?_|refine w_skip ?_|refine w_block ?_|refine w_blk ?_|refine q7 ?_|refine q8 ?_|refine q9 ?_)
  refine w_fldA (by decide) rfl rfl ?_
  repeat (first|refine q1 ?_|refine q2 ?_|refine q3 ?_|refine q4 ?_|refine q5 ?_|refine q6 ?_|refine w_seq ?_|refine w_region ?_|refine w_ops_nil ?_|refine w_skip ?_|refine w_block ?_|refine w_blk ?_|refine q7 ?_|refine q8 ?_|refine q9 ?_)
  refine w_load1 (v := am) hc1 rfl rfl rfl rfl ?_
  repeat (first|refine q1 ?_|refine q2 ?_|refine q3 ?_|refine q4 ?_|refine q5 ?_|refine q6 ?_|refine w_seq ?_|refine w_region ?_|refine w_ops_nil ?_|refine w_skip ?_|refine w_block ?_|refine w_blk ?_|refine q7 ?_|refine q8 ?_|refine q9 ?_)
  refine w_fldA (by decide) rfl rfl ?_
  repeat (first|refine q1 ?_|refine q2 ?_|refine q3 ?_|refine q4 ?_|refine q5 ?_|refine q6 ?_|refine w_seq ?_|refine w_region ?_|refine w_ops_nil ?_|refine w_skip ?_|refine w_block ?_|refine w_blk ?_|refine q7 ?_|refine q8 ?_|refine q9 ?_)
  refine w_load1 (v := bm) hc2 rfl rfl rfl rfl ?_
  repeat (first|refine q1 ?_|refine q2 ?_|refine q3 ?_|refine q4 ?_|refine q5 ?_|refine q6 ?_|refine w_seq ?_|refine w_region ?_|refine w_ops_nil ?_|refine w_skip ?_|refine w_block ?_|refine w_blk ?_|refine q7 ?_|refine q8 ?_|refine q9 ?_)
  refine w_callF rfl (ref09_sameRecords a.more b.more k5 (ha4.go hst) (hb4.go hst)) rfl fun u k6 hs6 hu => ?_
  subst hu
  repeat (first|refine q1 ?_|refine q2 ?_|refine q3 ?_|refine q4 ?_|refine q5 ?_|refine q6 ?_|refine w_seq ?_|refine w_region ?_|refine w_ops_nil ?_|refine w_skip ?_|refine w_block ?_|refine w_blk ?_|refine q7 ?_|refine q8 ?_|refine q9 ?_)
  refine w_retG (res1 rfl rfl) (hst.go hs6) fun h' _ => congrArg Value.bool ?_
  rw [decide_eq_decide, Ms.ext_iff']
  exact ⟨fun e => ⟨Decidable.not_not.1 k1, Decidable.not_not.1 k2, htk, j1, j2, e⟩, fun h => h.2.2.2.2.2⟩

theorem Stable.and {I J : G → Prop} (hI : Stable I) (hJ : Stable J) : Stable (fun g => I g ∧ J g) :=
  ⟨fun g h ⟨a, b⟩ hs => ⟨hI.step g h a hs, hJ.step g h b hs⟩, fun g h ⟨a, b⟩ hv ho => ⟨hI.seen g h a hv ho, hJ.seen g h b hv ho⟩⟩
theorem Stable.rdx {α : Type} (E : El α) (v : Value) (l : List α) : Stable (fun g => Rdx g E v l) :=
  ⟨fun g h a hs => a.go hs, fun g h a hv ho => a.seen hv ho⟩

theorem wire_Same1 (x y : Addr) (l k : List Rc) (vx vy : Value) (bx ox bY oy : Nat) (hx0 : x = ⟨bx, ox, none⟩) (hy0 : y = ⟨bY, oy, none⟩) (g : G) {cx cy : Nat} {Tx Ty : TypeId} {csx csy : List Value} (hcx : Cell g cx bx Tx csx) (hcy : Cell g cy bY Ty csy) (hox : csx[ox]? = some vx) (hoy : csy[oy]? = some vy)
    (hl : Rdx g El.rc vx l) (hk : Rdx g El.rc vy k) : Fn Try.prog 68 [.pointer (some x), .pointer (some y)] g [] fun u _ => u = .bool (decide (l = k)) := by
  subst hx0 hy0
  refine enterG [] [] Try.func68 rfl Try.ntmps68 rfl (by simp) fun g1 hv ho => ?_
  obtain ⟨c1, _, hcx⟩ := hcx.seen hv ho (by simp)
  obtain ⟨c2, _, hcy⟩ := hcy.seen hv ho (by simp)
  replace hl := hl.seen hv ho
  replace hk := hk.seen hv ho
  repeat (first|refine q1 ?_|refine q2 ?_|refine q3 ?_|refine q4 ?_|refine q5 ?_|refine q6 ?_|refine w_seq ?_|refine w_region ?_|refine w_ops_nil ?_|refine w_skip ?_|refine w_block ?_|refine w_blk ?_|refine q7 ?_|refine q8 ?_|refine q9 ?_)
  refine d_begin none [] (by kernel_rfl) fun g2 hsd => ?_
  replace hcx := hcx.go hsd; replace hcy := hcy.go hsd; replace hl := hl.go hsd; replace hk := hk.go hsd
  refine d_pure 0 calm_ret rfl (by kernel_rfl) rfl rfl ?_; refine d_pure 1 calm_ret rfl (by kernel_rfl) rfl rfl ?_
  refine d_read 2 calm_ret rfl (by kernel_rfl) rfl  (fun h hs => r_load1 (v := vx) (hcx.go hs) rfl hox rfl) ?_
  refine d_pure 3 calm_ret rfl (by kernel_rfl) rfl rfl ?_; refine d_pure 4 calm_ret rfl (by kernel_rfl) rfl rfl ?_
  refine d_read 5 calm_ret rfl (by kernel_rfl) rfl  (fun h hs => r_load1 (v := vy) (hcy.go hs) rfl hoy rfl) ?_
  refine d_exec1 6 (by kernel_rfl) rfl ?_
  refine w_callF rfl (Equal_rc l k g2 hl hk) rfl fun u h3 hs3 hu => ?_
  subst hu
  repeat (first|refine q1 ?_|refine q2 ?_|refine q3 ?_|refine q4 ?_|refine q5 ?_|refine q6 ?_|refine w_seq ?_|refine w_region ?_|refine w_ops_nil ?_|refine w_skip ?_|refine w_block ?_|refine w_blk ?_|refine q7 ?_|refine q8 ?_|refine q9 ?_)
  refine d_next (fun _ => ⟨h3, rfl, hs3⟩) ?_
  refine d_pure 7 calm_ret rfl (by kernel_rfl) rfl rfl ?_
  refine d_done (by kernel_rfl) ?_
  repeat (first|refine q1 ?_|refine q2 ?_|refine q3 ?_|refine q4 ?_|refine q5 ?_|refine q6 ?_|refine w_seq ?_|refine w_region ?_|refine w_ops_nil ?_|refine w_skip ?_|refine w_block ?_|refine w_blk ?_|refine q7 ?_|refine q8 ?_|refine q9 ?_)
  exact w_retG (res1 rfl rfl) (hsd.go hs3) fun h' _ => rfl

theorem EqualFunc_adr (f : FuncId) [Enter Try.prog f] (p : Nat → Bool) (I : G → Prop) (hI : Stable I) (l k : List Addr) (g : G) (hg : I g) {vl vk : Value} (hl : Rdx g El.adr vl l) (hk : Rdx g El.adr vk k) (hle : l.length = k.length)
    (hp : ∀ (i : Nat) (x y : Addr) (g : G), l[i]? = some x → k[i]? = some y → I g → Fn Try.prog f [.pointer (some x), .pointer (some y)] g [] fun u _ => u = .bool (p i)) :
    Fn Try.prog 67 [vl, vk, .func (.func f) #[] #[]] g [] fun u _ => u = .bool (decide (∀ i, i < l.length → p i = true)) := by
  refine enterG [] [] Try.func67 rfl Try.ntmps67 rfl (by simp) fun g1 hv ho => ?_
  replace hl := hl.seen hv ho
  replace hk := hk.seen hv ho
  have hg1 := hI.seen _ _ hg hv ho
  have hlm := hl.isSl.le
  repeat (first|refine q1 ?_|refine q2 ?_|refine q3 ?_|refine q4 ?_|refine q5 ?_|refine q6 ?_|refine w_seq ?_|refine w_region ?_|refine w_ops_nil ?_|refine w_skip ?_|refine w_block ?_|refine w_blk ?_|refine q7 ?_|refine q8 ?_|refine q9 ?_)
  refine w_lenSl hl.isSl rfl rfl ?_
  repeat (first|refine q1 ?_|refine q2 ?_|refine q3 ?_|refine q4 ?_|refine q5 ?_|refine q6 ?_|refine w_seq ?_|refine w_region ?_|refine w_ops_nil ?_|refine w_skip ?_|refine w_block ?_|refine w_blk ?_|refine q7 ?_|refine q8 ?_|refine q9 ?_)
  refine w_lenSl hk.isSl rfl rfl ?_
  repeat (first|refine q1 ?_|refine q2 ?_|refine q3 ?_|refine q4 ?_|refine q5 ?_|refine q6 ?_|refine w_seq ?_|refine w_region ?_|refine w_ops_nil ?_|refine w_skip ?_|refine w_block ?_|refine w_blk ?_|refine q7 ?_|refine q8 ?_|refine q9 ?_)
  refine w_condP rfl (fun hne => ?_) (fun hne => ?_)
  · exact absurd (by omega) hne
  repeat (first|refine q1 ?_|refine q2 ?_|refine q3 ?_|refine q4 ?_|refine q5 ?_|refine q6 ?_|refine w_seq ?_|refine w_region ?_|refine w_ops_nil ?_|refine w_skip ?_|refine w_block ?_|refine w_blk ?_|refine q7 ?_|refine q8 ?_|refine q9 ?_)
  refine w_lenSl hl.isSl rfl rfl ?_
  repeat (first|refine q1 ?_|refine q2 ?_|refine q3 ?_|refine q4 ?_|refine q5 ?_|refine q6 ?_|refine w_seq ?_|refine w_region ?_|refine w_ops_nil ?_|refine w_skip ?_|refine w_block ?_|refine w_blk ?_|refine q7 ?_|refine q8 ?_|refine q9 ?_)
  refine w_loop (ι := Nat) (fun i => [(1, vk), (2, .func (.func f) #[] #[]), (15, vl), (16, .int .i64 (l.length : Int)), (17, .int .i64 (i : Int))])
    (fun i w => ∃ h : G, h.w = w ∧ Step [] [] g1 h ∧ I h ∧ i ≤ l.length ∧ ∀ j, j < i → p j = true) (fun i => l.length - i) 0 ⟨g1, rfl, Step.refl _ _ _, hg1, by omega, fun j hj => by omega⟩ ⟨rfl, rfl, rfl, rfl, rfl, trivial⟩ ?_
  rintro i _ ⟨h, rfl, hst, hIh, hi, hall⟩
  obtain ⟨c1, hx1, rl⟩ := hl.go hst
  obtain ⟨c2, hx2, rk⟩ := hk.go hst
  repeat (first|refine q1 ?_|refine q2 ?_|refine q3 ?_|refine q4 ?_|refine q5 ?_|refine q6 ?_|refine w_seq ?_|refine w_region ?_|refine w_ops_nil ?_|refine w_skip ?_|refine w_block ?_|refine w_blk ?_|refine q7 ?_|refine q8 ?_|refine q9 ?_)
  refine w_condP rfl (fun hlt => ?_) (fun hlt => ?_)
  · have hlt : i < l.length := by omega
    have hlk : i < k.length := by omega
    repeat (first|refine q1 ?_|refine q2 ?_|refine q3 ?_|refine q4 ?_|refine q5 ?_|refine q6 ?_|refine w_seq ?_|refine w_region ?_|refine w_ops_nil ?_|refine w_skip ?_|refine w_block ?_|refine w_blk ?_|refine q7 ?_|refine q8 ?_|refine q9 ?_)
    refine w_idx rl rfl rfl (by omega) (by omega) rfl ?_
    refine w_loadE (i := i) (y := l[i]) rl rfl (by simp [hlt]) rfl rfl ?_
    repeat (first|refine q1 ?_|refine q2 ?_|refine q3 ?_|refine q4 ?_|refine q5 ?_|refine q6 ?_|refine w_seq ?_|refine w_region ?_|refine w_ops_nil ?_|refine w_skip ?_|refine w_block ?_|refine w_blk ?_|refine q7 ?_|refine q8 ?_|refine q9 ?_)
    refine w_idx rk rfl rfl (by omega) (by omega) rfl ?_
    refine w_loadE (i := i) (y := k[i]) rk rfl (by simp [hlk]) rfl rfl ?_
    repeat (first|refine q1 ?_|refine q2 ?_|refine q3 ?_|refine q4 ?_|refine q5 ?_|refine q6 ?_|refine w_seq ?_|refine w_region ?_|refine w_ops_nil ?_|refine w_skip ?_|refine w_block ?_|refine w_blk ?_|refine q7 ?_|refine q8 ?_|refine q9 ?_)
    refine w_callV (f := f) (first := #[]) (captured := #[]) (by intro q; exact Operand.noConfusion) rfl rfl (hp i l[i] k[i] h (by simp [hlt]) (by simp [hlk]) hIh) rfl fun u h2 hs2 hu => ?_
    subst hu
    repeat (first|refine q1 ?_|refine q2 ?_|refine q3 ?_|refine q4 ?_|refine q5 ?_|refine q6 ?_|refine w_seq ?_|refine w_region ?_|refine w_ops_nil ?_|refine w_skip ?_|refine w_block ?_|refine w_blk ?_|refine q7 ?_|refine q8 ?_|refine q9 ?_)
    refine w_cond rfl (fun hb => ?_) (fun hb => ?_)
    · repeat (first|refine q1 ?_|refine q2 ?_|refine q3 ?_|refine q4 ?_|refine q5 ?_|refine q6 ?_|refine w_seq ?_|refine w_region ?_|refine w_ops_nil ?_|refine w_skip ?_|refine w_block ?_|refine w_blk ?_|refine q7 ?_|refine q8 ?_|refine q9 ?_)
      refine w_retG (res1 rfl rfl) (hst.go hs2) fun h' _ => congrArg Value.bool (decide_eq_false (fun e => ?_)).symm
      rw [e i hlt] at hb; cases hb
    · repeat (first|refine q1 ?_|refine q2 ?_|refine q3 ?_|refine q4 ?_|refine q5 ?_|refine q6 ?_|refine w_seq ?_|refine w_region ?_|refine w_ops_nil ?_|refine w_skip ?_|refine w_block ?_|refine w_blk ?_|refine q7 ?_|refine q8 ?_|refine q9 ?_)
      refine w_again (i + 1) (by omega) ⟨h2, rfl, hst.go hs2, hI.step _ _ hIh hs2, by omega, fun j hj => ?_⟩ ⟨rfl, rfl, rfl, rfl, rfl, trivial⟩
      by_cases e : j = i
      · subst e; simpa using hb
      · exact hall j (by omega)
  · have e : i = l.length := by omega
    subst e
    repeat (first|refine q1 ?_|refine q2 ?_|refine q3 ?_|refine q4 ?_|refine q5 ?_|refine q6 ?_|refine w_seq ?_|refine w_region ?_|refine w_ops_nil ?_|refine w_skip ?_|refine w_block ?_|refine w_blk ?_|refine q7 ?_|refine q8 ?_|refine q9 ?_)
    exact w_retG (res1 rfl rfl) hst fun h' _ => congrArg Value.bool (decide_eq_true hall).symm

theorem wire_Same (a b : Ms) (us vs : List Value) (g : G) (ha : MsR g us a) (hb : MsR g vs b) : Fn Try.prog 35 [.agg us.toArray, .agg vs.toArray] g [] fun u _ => u = .bool (decide (a = b)) := by
  refine enterG [] [41, 42] Try.func35 rfl Try.ntmps35 rfl (by simp) fun g1 hv ho => ?_
  replace ha := ha.seen hv ho
  replace hb := hb.seen hv ho
  obtain ⟨aq, aa, au, am, rfl, ha1, ha2, ha3, ha4⟩ := ha
  obtain ⟨bq, ba, bu, bm, rfl, hb1, hb2, hb3, hb4⟩ := hb
  let cs : List Value := [.int .i64 a.id, .int .i64 a.flags, aq, aa, au, am]
  let ds : List Value := [.int .i64 b.id, .int .i64 b.flags, bq, ba, bu, bm]
  have no : ∀ {p : Prop}, (¬ p) → (a = b → p) → Value.bool false = .bool (decide (a = b)) := fun hp h => congrArg Value.bool (decide_eq_false (fun hr => hp (h hr))).symm
  repeat (first|refine q1 ?_|refine q2 ?_|refine q3 ?_|refine q4 ?_|refine q5 ?_|refine q6 ?_|refine w_seq ?_|refine w_region ?_|refine w_ops_nil ?_|refine w_skip ?_|refine w_block ?_|refine w_blk ?_|refine q7 ?_|refine q8 ?_|refine q9 ?_)
  refine w_box 41 (vs := cs) rfl rfl rfl fun h1 b1 hs1 hc1 => ?_
  have hst : Step [] [41, 42] g1 h1 := hs1.nil
  repeat (first|refine q1 ?_|refine q2 ?_|refine q3 ?_|refine q4 ?_|refine q5 ?_|refine q6 ?_|refine w_seq ?_|refine w_region ?_|refine w_ops_nil ?_|refine w_skip ?_|refine w_block ?_|refine w_blk ?_|refine q7 ?_|refine q8 ?_|refine q9 ?_)
  refine w_box 42 (vs := ds) rfl rfl rfl fun h2 b2 hs2 hc2 => ?_
  replace hst := hst.go hs2; replace hc1 := hc1.go hs2
  repeat (first|refine q1 ?_|refine q2 ?_|refine q3 ?_|refine q4 ?_|refine q5 ?_|refine q6 ?_|refine w_seq ?_|refine w_region ?_|refine w_ops_nil ?_|refine w_skip ?_|refine w_block ?_|refine w_blk ?_|refine q7 ?_|refine q8 ?_|refine q9 ?_)
  refine w_fldA (by decide) rfl rfl ?_
  refine w_load1 (v := .int .i64 a.id) hc1 rfl rfl rfl rfl ?_
  refine w_fldA (by decide) rfl rfl ?_
  refine w_load1 (v := .int .i64 b.id) hc2 rfl rfl rfl rfl ?_
  repeat (first|refine q1 ?_|refine q2 ?_|refine q3 ?_|refine q4 ?_|refine q5 ?_|refine q6 ?_|refine w_seq ?_|refine w_region ?_|refine w_ops_nil ?_|refine w_skip ?_|refine w_block ?_|refine w_blk ?_|refine q7 ?_|refine q8 ?_|refine q9 ?_)
  refine w_splitP 10 rfl (fun k1 => ?_) (fun k1 => ?_)
  case refine_2 =>
    repeat (first|refine q1 ?_|refine q2 ?_|refine q3 ?_|refine q4 ?_|refine q5 ?_|refine q6 ?_|refine w_seq ?_|refine w_region ?_|refine w_ops_nil ?_|refine w_skip ?_|refine w_block ?_|refine w_blk ?_|refine q7 ?_|refine q8 ?_|refine q9 ?_)
    exact w_retG (res1 rfl rfl) hst fun h' _ => no k1 (fun e => by rw [e])
  repeat (first|refine q1 ?_|refine q2 ?_|refine q3 ?_|refine q4 ?_|refine q5 ?_|refine q6 ?_|refine w_seq ?_|refine w_region ?_|refine w_ops_nil ?_|refine w_skip ?_|refine w_block ?_|refine w_blk ?_|refine q7 ?_|refine q8 ?_|refine q9 ?_)
  refine w_fldA (by decide) rfl rfl ?_
  repeat (first|refine q1 ?_|refine q2 ?_|refine q3 ?_|refine q4 ?_|refine q5 ?_|refine q6 ?_|refine w_seq ?_|refine w_region ?_|refine w_ops_nil ?_|refine w_skip ?_|refine w_block ?_|refine w_blk ?_|refine q7 ?_|refine q8 ?_|refine q9 ?_)
  refine w_load1 (v := .int .i64 a.flags) hc1 rfl rfl rfl rfl ?_
  repeat (first|refine q1 ?_|refine q2 ?_|refine q3 ?_|refine q4 ?_|refine q5 ?_|refine q6 ?_|refine w_seq ?_|refine w_region ?_|refine w_ops_nil ?_|refine w_skip ?_|refine w_block ?_|refine w_blk ?_|refine q7 ?_|refine q8 ?_|refine q9 ?_)
  refine w_fldA (by decide) rfl rfl ?_
  repeat (first|refine q1 ?_|refine q2 ?_|refine q3 ?_|refine q4 ?_|refine q5 ?_|refine q6 ?_|refine w_seq ?_|refine w_region ?_|refine w_ops_nil ?_|refine w_skip ?_|refine w_block ?_|refine w_blk ?_|refine q7 ?_|refine q8 ?_|refine q9 ?_)
  refine w_load1 (v := .int .i64 b.flags) hc2 rfl rfl rfl rfl ?_
  repeat (first|refine q1 ?_|refine q2 ?_|refine q3 ?_|refine q4 ?_|refine q5 ?_|refine q6 ?_|refine w_seq ?_|refine w_region ?_|refine w_ops_nil ?_|refine w_skip ?_|refine w_block ?_|refine w_blk ?_|refine q7 ?_|refine q8 ?_|refine q9 ?_)
  refine w_splitP 17 rfl (fun k2 => ?_) (fun k2 => ?_)
  case refine_2 =>
    repeat (first|refine q1 ?_|refine q2 ?_|refine q3 ?_|refine q4 ?_|refine q5 ?_|refine q6 ?_|refine w_seq ?_|refine w_region ?_|refine w_ops_nil ?_|refine w_skip ?_|refine w_block ?_|refine w_blk ?_|refine q7 ?_|refine q8 ?_|refine q9 ?_)
    exact w_retG (res1 rfl rfl) hst fun h' _ => no k2 (fun e => by rw [e])
  repeat (first|refine q1 ?_|refine q2 ?_|refine q3 ?_|refine q4 ?_|refine q5 ?_|refine q6 ?_|refine w_seq ?_|refine w_region ?_|refine w_ops_nil ?_|refine w_skip ?_|refine w_block ?_|refine w_blk ?_|refine q7 ?_|refine q8 ?_|refine q9 ?_)
  refine w_fldA (by decide) rfl rfl ?_
  repeat (first|refine q1 ?_|refine q2 ?_|refine q3 ?_|refine q4 ?_|refine q5 ?_|refine q6 ?_|refine w_seq ?_|refine w_region ?_|refine w_ops_nil ?_|refine w_skip ?_|refine w_block ?_|refine w_blk ?_|refine q7 ?_|refine q8 ?_|refine q9 ?_)
  refine w_load1 (v := aq) hc1 rfl rfl rfl rfl ?_
  repeat (first|refine q1 ?_|refine q2 ?_|refine q3 ?_|refine q4 ?_|refine q5 ?_|refine q6 ?_|refine w_seq ?_|refine w_region ?_|refine w_ops_nil ?_|refine w_skip ?_|refine w_block ?_|refine w_blk ?_|refine q7 ?_|refine q8 ?_|refine q9 ?_)
  refine w_fldA (by decide) rfl rfl ?_
  repeat (first|refine q1 ?_|refine q2 ?_|refine q3 ?_|refine q4 ?_|refine q5 ?_|refine q6 ?_|refine w_seq ?_|refine w_region ?_|refine w_ops_nil ?_|refine w_skip ?_|refine w_block ?_|refine w_blk ?_|refine q7 ?_|refine q8 ?_|refine q9 ?_)
  refine w_load1 (v := bq) hc2 rfl rfl rfl rfl ?_
  repeat (first|refine q1 ?_|refine q2 ?_|refine q3 ?_|refine q4 ?_|refine q5 ?_|refine q6 ?_|refine w_seq ?_|refine w_region ?_|refine w_ops_nil ?_|refine w_skip ?_|refine w_block ?_|refine w_blk ?_|refine q7 ?_|refine q8 ?_|refine q9 ?_)
  refine w_callF rfl (Equal_qn a.asked b.asked h2 (ha1.go hst) (hb1.go hst)) rfl fun u h3 hs3 hu => ?_
  subst hu
  replace hst := hst.go hs3; replace hc1 := hc1.go hs3; replace hc2 := hc2.go hs3
  repeat (first|refine q1 ?_|refine q2 ?_|refine q3 ?_|refine q4 ?_|refine q5 ?_|refine q6 ?_|refine w_seq ?_|refine w_region ?_|refine w_ops_nil ?_|refine w_skip ?_|refine w_block ?_|refine w_blk ?_|refine q7 ?_|refine q8 ?_|refine q9 ?_)
  refine w_splitP 24 rfl (fun k3 => ?_) (fun k3 => ?_)
  case refine_2 =>
    repeat (first|refine q1 ?_|refine q2 ?_|refine q3 ?_|refine q4 ?_|refine q5 ?_|refine q6 ?_|refine w_seq ?_|refine w_region ?_|refine w_ops_nil ?_|refine w_skip ?_|refine w_block ?_|refine w_blk ?_|refine q7 ?_|refine q8 ?_|refine q9 ?_)
    exact w_retG (res1 rfl rfl) hst fun h' _ => no k3 (fun e => by rw [e])
  repeat (first|refine q1 ?_|refine q2 ?_|refine q3 ?_|refine q4 ?_|refine q5 ?_|refine q6 ?_|refine w_seq ?_|refine w_region ?_|refine w_ops_nil ?_|refine w_skip ?_|refine w_block ?_|refine w_blk ?_|refine q7 ?_|refine q8 ?_|refine q9 ?_)
  refine w_callF rfl (wire_lists b1 h3) rfl fun vl h4 hs4 hl4 => ?_
  replace hst := hst.go hs4; replace hc1 := hc1.go hs4; replace hc2 := hc2.go hs4
  repeat (first|refine q1 ?_|refine q2 ?_|refine q3 ?_|refine q4 ?_|refine q5 ?_|refine q6 ?_|refine w_seq ?_|refine w_region ?_|refine w_ops_nil ?_|refine w_skip ?_|refine w_block ?_|refine w_blk ?_|refine q7 ?_|refine q8 ?_|refine q9 ?_)
  refine w_callF rfl (wire_lists b2 h4) rfl fun vk h5 hs5 hl5 => ?_
  replace hst := hst.go hs5; replace hc1 := hc1.go hs5; replace hc2 := hc2.go hs5; replace hl4 := hl4.go hs5
  repeat (first|refine q1 ?_|refine q2 ?_|refine q3 ?_|refine q4 ?_|refine q5 ?_|refine q6 ?_|refine w_seq ?_|refine w_region ?_|refine w_ops_nil ?_|refine w_skip ?_|refine w_block ?_|refine w_blk ?_|refine q7 ?_|refine q8 ?_|refine q9 ?_)
  let p : Nat → Bool := fun i => match i with | 0 => decide (a.ans = b.ans) | 1 => decide (a.auth = b.auth) | _ => decide (a.more = b.more)
  refine w_callF rfl (EqualFunc_adr 68 p (fun g => ((∃ c, Cell g c b1 46 cs) ∧ ∃ c, Cell g c b2 46 ds) ∧ (Rdx g El.rc aa a.ans ∧ Rdx g El.rc ba b.ans) ∧ (Rdx g El.rc au a.auth ∧ Rdx g El.rc bu b.auth) ∧ Rdx g El.rc am a.more ∧ Rdx g El.rc bm b.more)
    (((Stable.cell _ _ _).and (Stable.cell _ _ _)).and (((Stable.rdx _ _ _).and (Stable.rdx _ _ _)).and (((Stable.rdx _ _ _).and (Stable.rdx _ _ _)).and ((Stable.rdx _ _ _).and (Stable.rdx _ _ _)))))
    [⟨b1, 3, none⟩, ⟨b1, 4, none⟩, ⟨b1, 5, none⟩] [⟨b2, 3, none⟩, ⟨b2, 4, none⟩, ⟨b2, 5, none⟩] h5 ⟨⟨⟨_, hc1⟩, _, hc2⟩, ⟨ha2.go hst, hb2.go hst⟩, ⟨ha3.go hst, hb3.go hst⟩, ha4.go hst, hb4.go hst⟩ hl4.x hl5.x rfl
    (fun i x y g hx hy ⟨⟨⟨c1, i1⟩, c2, i2⟩, ⟨r1, r2⟩, ⟨r3, r4⟩, r5, r6⟩ => by
      match i, hx, hy with
      | 0, hx, hy => injection hx with hx; injection hy with hy; exact wire_Same1 x y a.ans b.ans aa ba b1 3 b2 3 hx.symm hy.symm g i1 i2 rfl rfl r1 r2
      | 1, hx, hy => injection hx with hx; injection hy with hy; exact wire_Same1 x y a.auth b.auth au bu b1 4 b2 4 hx.symm hy.symm g i1 i2 rfl rfl r3 r4
      | 2, hx, hy => injection hx with hx; injection hy with hy; exact wire_Same1 x y a.more b.more am bm b1 5 b2 5 hx.symm hy.symm g i1 i2 rfl rfl r5 r6)) rfl fun u h6 hs6 hu => ?_
  subst hu
  repeat (first|refine q1 ?_|refine q2 ?_|refine q3 ?_|refine q4 ?_|refine q5 ?_|refine q6 ?_|refine w_seq ?_|refine w_region ?_|refine w_ops_nil ?_|refine w_skip ?_|refine w_block ?_|refine w_blk ?_|refine q7 ?_|refine q8 ?_|refine q9 ?_)
  refine w_retG (res1 rfl rfl) (hst.go hs6) fun h' _ => congrArg Value.bool ?_
  rw [decide_eq_decide, Ms.ext_iff']
  constructor
  · intro h
    have h0 := h 0 (by simp)
    have h1 := h 1 (by simp)
    have h2 := h 2 (by simp)
    exact ⟨k1, k2, k3, by simpa [p] using h0, by simpa [p] using h1, by simpa [p] using h2⟩
  · rintro ⟨_, _, _, e1, e2, e3⟩ i hi
    match i with
    | 0 => simpa [p] using e1
    | 1 => simpa [p] using e2
    | k + 2 => simpa [p] using e3
end Go.Proofs.Ytnfokdhgajanpaa
