/- Grants: which key comes first: the program's and the reference's answers. No statement of the seat is proved here. -/
import Derived.Test.YtkgbodmlmeholaaGr1
set_option linter.unusedVariables false
set_option linter.unusedSimpArgs false
namespace Go.Proofs.Ytkgbodmlmeholaa
open Go
attribute [local irreducible] Wp

def cmpO (a b : Og) : Int := orI (cmpS a.scheme b.scheme) (orI (cmpS a.host b.host) (cmpI a.port b.port))
def cmpA (a b : Ad) : Int := orI (cmpI a.fam b.fam) (cmpS (bytes16 a.b) (bytes16 b.b))
def cmpK (a b : Ky) : Int := orI (cmpO a.page b.page) (orI (cmpO a.to b.to) (orI (cmpS a.meth b.meth) (cmpA a.addr b.addr)))
theorem bytes16_inj {x y : Fin 16 → UInt8} (h : bytes16 x = bytes16 y) : x = y := by
  funext i
  have e : ∀ z : Fin 16 → UInt8, (bytes16 z)[i.val]? = some (z i) := by
    intro z
    match i with
    | ⟨0, _⟩ => rfl | ⟨1, _⟩ => rfl | ⟨2, _⟩ => rfl | ⟨3, _⟩ => rfl | ⟨4, _⟩ => rfl | ⟨5, _⟩ => rfl | ⟨6, _⟩ => rfl | ⟨7, _⟩ => rfl
    | ⟨8, _⟩ => rfl | ⟨9, _⟩ => rfl | ⟨10, _⟩ => rfl | ⟨11, _⟩ => rfl | ⟨12, _⟩ => rfl | ⟨13, _⟩ => rfl | ⟨14, _⟩ => rfl | ⟨15, _⟩ => rfl
    | ⟨n + 16, h⟩ => omega
  have h1 := e x
  rw [h, e y] at h1
  injection h1 with h1
  exact h1.symm
theorem isCmpO : IsCmp cmpO := (isCmpS.lex (isCmpS.lex isCmpI)).on (fun o : Og => (o.scheme, o.host, o.port)) (fun x y h => by
  obtain ⟨x1, x2, x3⟩ := x
  obtain ⟨y1, y2, y3⟩ := y
  simp only [Prod.mk.injEq] at h
  obtain ⟨rfl, rfl, rfl⟩ := h
  rfl)
theorem isCmpA : IsCmp cmpA := (isCmpI.lex isCmpS).on (fun a : Ad => (a.fam, bytes16 a.b)) (fun x y h => by
  obtain ⟨x1, x2⟩ := x
  obtain ⟨y1, y2⟩ := y
  simp only [Prod.mk.injEq] at h
  rw [h.1, bytes16_inj h.2])
theorem isCmpK : IsCmp cmpK := (isCmpO.lex (isCmpO.lex (isCmpS.lex isCmpA))).on (fun k : Ky => (k.page, k.to, k.meth, k.addr)) (fun x y h => by
  obtain ⟨x1, x2, x3, x4⟩ := x
  obtain ⟨y1, y2, y3, y4⟩ := y
  simp only [Prod.mk.injEq] at h
  obtain ⟨rfl, rfl, rfl, rfl⟩ := h
  rfl)

theorem isNaN_str (x : List UInt8) (g : G) : Fn Try.prog 40 [str x] g [] fun u _ => u = .bool false := by
  refine enterG [] [] Try.func40 rfl Try.ntmps40 rfl (by simp) fun g1 hv ho => ?_
  repeat (first|refine q1 ?_|refine q2 ?_|refine q3 ?_|refine q4 ?_|refine q5 ?_|refine q6 ?_|refine w_seq ?_|refine w_region ?_|refine w_ops_nil ?_|refine w_skip ?_|refine w_block ?_|refine w_blk ?_|refine q7 ?_|refine q8 ?_|refine q9 ?_)
  exact w_retG (res1 rfl rfl) (Step.refl _ _ _) fun h' _ => congrArg Value.bool (decide_eq_false (fun h => h rfl))
theorem isNaN_int (x : Int) (g : G) : Fn Try.prog 41 [.int .i64 x] g [] fun u _ => u = .bool false := by
  refine enterG [] [] Try.func41 rfl Try.ntmps41 rfl (by simp) fun g1 hv ho => ?_
  repeat (first|refine q1 ?_|refine q2 ?_|refine q3 ?_|refine q4 ?_|refine q5 ?_|refine q6 ?_|refine w_seq ?_|refine w_region ?_|refine w_ops_nil ?_|refine w_skip ?_|refine w_block ?_|refine w_blk ?_|refine q7 ?_|refine q8 ?_|refine q9 ?_)
  exact w_retG (res1 rfl rfl) (Step.refl _ _ _) fun h' _ => congrArg Value.bool (decide_eq_false (fun h => h rfl))
theorem cmp_str (x y : List UInt8) (g : G) : Fn Try.prog 25 [str x, str y] g [] fun u _ => u = .int .i64 (cmpS x y) := by
  refine enterG [] [] Try.func25 rfl Try.ntmps25 rfl (by simp) fun g1 hv ho => ?_
  repeat (first|refine q1 ?_|refine q2 ?_|refine q3 ?_|refine q4 ?_|refine q5 ?_|refine q6 ?_|refine w_seq ?_|refine w_region ?_|refine w_ops_nil ?_|refine w_skip ?_|refine w_block ?_|refine w_blk ?_|refine q7 ?_|refine q8 ?_|refine q9 ?_)
  refine w_callF rfl (isNaN_str x g1) rfl fun u h1 hs1 hu => ?_
  subst hu
  repeat (first|refine q1 ?_|refine q2 ?_|refine q3 ?_|refine q4 ?_|refine q5 ?_|refine q6 ?_|refine w_seq ?_|refine w_region ?_|refine w_ops_nil ?_|refine w_skip ?_|refine w_block ?_|refine w_blk ?_|refine q7 ?_|refine q8 ?_|refine q9 ?_)
  refine w_callF rfl (isNaN_str y h1) rfl fun u h2 hs2 hu => ?_
  subst hu
  have hst := hs1.go hs2
  repeat (first|refine q1 ?_|refine q2 ?_|refine q3 ?_|refine q4 ?_|refine q5 ?_|refine q6 ?_|refine w_seq ?_|refine w_region ?_|refine w_ops_nil ?_|refine w_skip ?_|refine w_block ?_|refine w_blk ?_|refine q7 ?_|refine q8 ?_|refine q9 ?_)
  refine w_cond rfl (fun h => ?_) (fun h => ?_)
  · have h : Op.bytesLess x y = true := h
    repeat (first|refine q1 ?_|refine q2 ?_|refine q3 ?_|refine q4 ?_|refine q5 ?_|refine q6 ?_|refine w_seq ?_|refine w_region ?_|refine w_ops_nil ?_|refine w_skip ?_|refine w_block ?_|refine w_blk ?_|refine q7 ?_|refine q8 ?_|refine q9 ?_)
    refine w_retG (res1 rfl rfl) hst fun h' _ => congrArg (Value.int .i64) ?_
    rw [less_cmp, decide_eq_true_eq] at h
    exact h.symm
  · have h : ¬ Op.bytesLess x y = true := by intro e; rw [show Op.bytesLess x y = false from h] at e; cases e
    have he := cmpS_not h
    repeat (first|refine q1 ?_|refine q2 ?_|refine q3 ?_|refine q4 ?_|refine q5 ?_|refine q6 ?_|refine w_seq ?_|refine w_region ?_|refine w_ops_nil ?_|refine w_skip ?_|refine w_block ?_|refine w_blk ?_|refine q7 ?_|refine q8 ?_|refine q9 ?_)
    refine w_cond rfl (fun h2 => ?_) (fun h2 => ?_)
    · have h2 : (!(Op.bytesLess x y || decide (x = y))) = true := h2
      repeat (first|refine q1 ?_|refine q2 ?_|refine q3 ?_|refine q4 ?_|refine q5 ?_|refine q6 ?_|refine w_seq ?_|refine w_region ?_|refine w_ops_nil ?_|refine w_skip ?_|refine w_block ?_|refine w_blk ?_|refine q7 ?_|refine q8 ?_|refine q9 ?_)
      refine w_retG (res1 rfl rfl) hst fun h' _ => congrArg (Value.int .i64) ?_
      have : ¬ x = y := by intro e; simp [e] at h2
      rw [he, if_neg this]
    · have h2 : (!(Op.bytesLess x y || decide (x = y))) = false := h2
      repeat (first|refine q1 ?_|refine q2 ?_|refine q3 ?_|refine q4 ?_|refine q5 ?_|refine q6 ?_|refine w_seq ?_|refine w_region ?_|refine w_ops_nil ?_|refine w_skip ?_|refine w_block ?_|refine w_blk ?_|refine q7 ?_|refine q8 ?_|refine q9 ?_)
      refine w_retG (res1 rfl rfl) hst fun h' _ => congrArg (Value.int .i64) ?_
      have : x = y := by
        simp only [Bool.not_eq_false', Bool.or_eq_true, decide_eq_true_eq] at h2
        exact h2.resolve_left h
      rw [he, if_pos this]
theorem cmp_int (x y : Int) (g : G) : Fn Try.prog 26 [.int .i64 x, .int .i64 y] g [] fun u _ => u = .int .i64 (cmpI x y) := by
  refine enterG [] [] Try.func26 rfl Try.ntmps26 rfl (by simp) fun g1 hv ho => ?_
  repeat (first|refine q1 ?_|refine q2 ?_|refine q3 ?_|refine q4 ?_|refine q5 ?_|refine q6 ?_|refine w_seq ?_|refine w_region ?_|refine w_ops_nil ?_|refine w_skip ?_|refine w_block ?_|refine w_blk ?_|refine q7 ?_|refine q8 ?_|refine q9 ?_)
  refine w_callF rfl (isNaN_int x g1) rfl fun u h1 hs1 hu => ?_
  subst hu
  repeat (first|refine q1 ?_|refine q2 ?_|refine q3 ?_|refine q4 ?_|refine q5 ?_|refine q6 ?_|refine w_seq ?_|refine w_region ?_|refine w_ops_nil ?_|refine w_skip ?_|refine w_block ?_|refine w_blk ?_|refine q7 ?_|refine q8 ?_|refine q9 ?_)
  refine w_callF rfl (isNaN_int y h1) rfl fun u h2 hs2 hu => ?_
  subst hu
  have hst := hs1.go hs2
  repeat (first|refine q1 ?_|refine q2 ?_|refine q3 ?_|refine q4 ?_|refine q5 ?_|refine q6 ?_|refine w_seq ?_|refine w_region ?_|refine w_ops_nil ?_|refine w_skip ?_|refine w_block ?_|refine w_blk ?_|refine q7 ?_|refine q8 ?_|refine q9 ?_)
  refine w_condP rfl (fun h => ?_) (fun h => ?_)
  · repeat (first|refine q1 ?_|refine q2 ?_|refine q3 ?_|refine q4 ?_|refine q5 ?_|refine q6 ?_|refine w_seq ?_|refine w_region ?_|refine w_ops_nil ?_|refine w_skip ?_|refine w_block ?_|refine w_blk ?_|refine q7 ?_|refine q8 ?_|refine q9 ?_)
    exact w_retG (res1 rfl rfl) hst fun h' _ => by rw [cmpI, if_pos h]
  · repeat (first|refine q1 ?_|refine q2 ?_|refine q3 ?_|refine q4 ?_|refine q5 ?_|refine q6 ?_|refine w_seq ?_|refine w_region ?_|refine w_ops_nil ?_|refine w_skip ?_|refine w_block ?_|refine w_blk ?_|refine q7 ?_|refine q8 ?_|refine q9 ?_)
    refine w_condP rfl (fun h2 => ?_) (fun h2 => ?_)
    · repeat (first|refine q1 ?_|refine q2 ?_|refine q3 ?_|refine q4 ?_|refine q5 ?_|refine q6 ?_|refine w_seq ?_|refine w_region ?_|refine w_ops_nil ?_|refine w_skip ?_|refine w_block ?_|refine w_blk ?_|refine q7 ?_|refine q8 ?_|refine q9 ?_)
      exact w_retG (res1 rfl rfl) hst fun h' _ => by rw [cmpI, if_neg h, if_pos h2]
    · repeat (first|refine q1 ?_|refine q2 ?_|refine q3 ?_|refine q4 ?_|refine q5 ?_|refine q6 ?_|refine w_seq ?_|refine w_region ?_|refine w_ops_nil ?_|refine w_skip ?_|refine w_block ?_|refine w_blk ?_|refine q7 ?_|refine q8 ?_|refine q9 ?_)
      exact w_retG (res1 rfl rfl) hst fun h' _ => by rw [cmpI, if_neg h, if_neg h2]
def orL : List Int → Int
  | [] => 0
  | a :: l => orI a (orL l)
theorem orL_skip : ∀ (l : List Int) (i : Nat), (∀ j x, j < i → l[j]? = some x → x = 0) → i ≤ l.length → orL l = orL (l.drop i)
  | l, 0, _, _ => rfl
  | [], i + 1, _, h => by simp at h
  | a :: l, i + 1, h, hi => by
    rw [List.drop_succ_cons, ← orL_skip l i (fun j x hj hx => h (j + 1) x (by omega) (by simpa using hx)) (by simpa using hi), orL, h 0 a (by omega) rfl, orI, if_neg (by simp)]
theorem cmp_Or (l : List Int) (g : G) {v : Value} (hr : Rd g 0 El.int v l) : Fn Try.prog 23 [v] g [] fun u _ => u = .int .i64 (orL l) := by
  refine enterG [] [] Try.func23 rfl Try.ntmps23 rfl (by simp) fun g1 hv ho => ?_
  replace hr := hr.view hv (.inl rfl)
  have hlm := hr.isSl.le
  repeat (first|refine q1 ?_|refine q2 ?_|refine q3 ?_|refine q4 ?_|refine q5 ?_|refine q6 ?_|refine w_seq ?_|refine w_region ?_|refine w_ops_nil ?_|refine w_skip ?_|refine w_block ?_|refine w_blk ?_|refine q7 ?_|refine q8 ?_|refine q9 ?_)
  refine w_lenSl hr.isSl rfl rfl ?_
  repeat (first|refine q1 ?_|refine q2 ?_|refine q3 ?_|refine q4 ?_|refine q5 ?_|refine q6 ?_|refine w_seq ?_|refine w_region ?_|refine w_ops_nil ?_|refine w_skip ?_|refine w_block ?_|refine w_blk ?_|refine q7 ?_|refine q8 ?_|refine q9 ?_)
  refine w_loop (ι := Nat) (fun i => [(3, .int .i64 0), (6, v), (7, .int .i64 (l.length : Int)), (8, .int .i64 (i : Int))])
    (fun i w => ∃ h : G, h.w = w ∧ Step [] [] g1 h ∧ i ≤ l.length ∧ ∀ j x, j < i → l[j]? = some x → x = 0) (fun i => l.length - i) 0 ⟨g1, rfl, Step.refl _ _ _, by omega, fun j x hj => by omega⟩ ⟨rfl, rfl, rfl, rfl, trivial⟩ ?_
  rintro i _ ⟨h, rfl, hst, hi, hall⟩
  replace hr := hr.go hst
  repeat (first|refine q1 ?_|refine q2 ?_|refine q3 ?_|refine q4 ?_|refine q5 ?_|refine q6 ?_|refine w_seq ?_|refine w_region ?_|refine w_ops_nil ?_|refine w_skip ?_|refine w_block ?_|refine w_blk ?_|refine q7 ?_|refine q8 ?_|refine q9 ?_)
  refine w_condP rfl (fun hc => ?_) (fun hc => ?_)
  · have hlt : i < l.length := by omega
    repeat (first|refine q1 ?_|refine q2 ?_|refine q3 ?_|refine q4 ?_|refine q5 ?_|refine q6 ?_|refine w_seq ?_|refine w_region ?_|refine w_ops_nil ?_|refine w_skip ?_|refine w_block ?_|refine w_blk ?_|refine q7 ?_|refine q8 ?_|refine q9 ?_)
    refine w_idx hr rfl rfl (by omega) (by omega) rfl ?_
    refine w_loadE (i := i) (y := l[i]) hr rfl (by simp [hlt]) rfl rfl ?_
    repeat (first|refine q1 ?_|refine q2 ?_|refine q3 ?_|refine q4 ?_|refine q5 ?_|refine q6 ?_|refine w_seq ?_|refine w_region ?_|refine w_ops_nil ?_|refine w_skip ?_|refine w_block ?_|refine w_blk ?_|refine q7 ?_|refine q8 ?_|refine q9 ?_)
    refine w_condP rfl (fun hx => ?_) (fun hx => ?_)
    · repeat (first|refine q1 ?_|refine q2 ?_|refine q3 ?_|refine q4 ?_|refine q5 ?_|refine q6 ?_|refine w_seq ?_|refine w_region ?_|refine w_ops_nil ?_|refine w_skip ?_|refine w_block ?_|refine w_blk ?_|refine q7 ?_|refine q8 ?_|refine q9 ?_)
      refine w_retG (res1 rfl rfl) hst fun h' _ => congrArg (Value.int .i64) ?_
      rw [orL_skip l i hall hi, List.drop_eq_getElem_cons hlt, orL, orI, if_pos hx]
    · repeat (first|refine q1 ?_|refine q2 ?_|refine q3 ?_|refine q4 ?_|refine q5 ?_|refine q6 ?_|refine w_seq ?_|refine w_region ?_|refine w_ops_nil ?_|refine w_skip ?_|refine w_block ?_|refine w_blk ?_|refine q7 ?_|refine q8 ?_|refine q9 ?_)
      refine w_again (i + 1) (by omega) ⟨h, rfl, hst, by omega, fun j x hj hy => ?_⟩ ⟨rfl, rfl, rfl, rfl, trivial⟩
      by_cases e : j = i
      · subst e; rw [List.getElem?_eq_getElem hlt] at hy; injection hy with hy; subst hy; exact Decidable.not_not.1 hx
      · exact hall j x (by omega) hy
  · have e : i = l.length := by omega
    subst e
    repeat (first|refine q1 ?_|refine q2 ?_|refine q3 ?_|refine q4 ?_|refine q5 ?_|refine q6 ?_|refine w_seq ?_|refine w_region ?_|refine w_ops_nil ?_|refine w_skip ?_|refine w_block ?_|refine w_blk ?_|refine q7 ?_|refine q8 ?_|refine q9 ?_)
    refine w_retG (res1 rfl rfl) hst fun h' _ => congrArg (Value.int .i64) ?_
    rw [orL_skip l l.length hall hi, List.drop_length]; rfl
theorem orI_zero (a : Int) : orI a 0 = a := by unfold orI; split <;> omega

theorem grant_origin (a b : Og) (g : G) : Fn Try.prog 24 [El.og.val a, El.og.val b] g [] fun u _ => u = .int .i64 (cmpO a b) := by
  refine enterG [] [41, 42] Try.func24 rfl Try.ntmps24 rfl (by simp) fun g1 hv ho => ?_
  repeat (first|refine q1 ?_|refine q2 ?_|refine q3 ?_|refine q4 ?_|refine q5 ?_|refine q6 ?_|refine w_seq ?_|refine w_region ?_|refine w_ops_nil ?_|refine w_skip ?_|refine w_block ?_|refine w_blk ?_|refine q7 ?_|refine q8 ?_|refine q9 ?_)
  refine w_box 41 (vs := El.og.enc a) rfl rfl rfl fun h1 b1 hs1 hc1 => ?_
  have hst : Step [] [41, 42] g1 h1 := hs1.nil
  repeat (first|refine q1 ?_|refine q2 ?_|refine q3 ?_|refine q4 ?_|refine q5 ?_|refine q6 ?_|refine w_seq ?_|refine w_region ?_|refine w_ops_nil ?_|refine w_skip ?_|refine w_block ?_|refine w_blk ?_|refine q7 ?_|refine q8 ?_|refine q9 ?_)
  refine w_box 42 (vs := El.og.enc b) rfl rfl rfl fun h2 b2 hs2 hc2 => ?_
  replace hst := hst.go hs2; replace hc1 := hc1.go hs2
  repeat (first|refine q1 ?_|refine q2 ?_|refine q3 ?_|refine q4 ?_|refine q5 ?_|refine q6 ?_|refine w_seq ?_|refine w_region ?_|refine w_ops_nil ?_|refine w_skip ?_|refine w_block ?_|refine w_blk ?_|refine q7 ?_|refine q8 ?_|refine q9 ?_)
  refine d_begin none [] (by kernel_rfl) fun g2 hsd => ?_
  replace hst := hst.go hsd; replace hc1 := hc1.go hsd; replace hc2 := hc2.go hsd
  refine d_read 0 calm_ret rfl (by kernel_rfl) rfl  (fun h hs => r_fldA (by decide) rfl) ?_
  refine d_read 1 calm_ret rfl (by kernel_rfl) rfl  (fun h hs => r_load1 (v := str a.scheme) (hc1.go hs) rfl rfl rfl) ?_
  refine d_read 2 calm_ret rfl (by kernel_rfl) rfl  (fun h hs => r_fldA (by decide) rfl) ?_
  refine d_read 3 calm_ret rfl (by kernel_rfl) rfl  (fun h hs => r_load1 (v := str b.scheme) (hc2.go hs) rfl rfl rfl) ?_
  refine d_read 5 calm_ret rfl (by kernel_rfl) rfl  (fun h hs => r_fldA (by decide) rfl) ?_
  refine d_read 6 calm_ret rfl (by kernel_rfl) rfl  (fun h hs => r_load1 (v := str a.host) (hc1.go hs) rfl rfl rfl) ?_
  refine d_read 7 calm_ret rfl (by kernel_rfl) rfl  (fun h hs => r_fldA (by decide) rfl) ?_
  refine d_read 8 calm_ret rfl (by kernel_rfl) rfl  (fun h hs => r_load1 (v := str b.host) (hc2.go hs) rfl rfl rfl) ?_
  refine d_read 10 calm_ret rfl (by kernel_rfl) rfl  (fun h hs => r_fldA (by decide) rfl) ?_
  refine d_read 11 calm_ret rfl (by kernel_rfl) rfl  (fun h hs => r_load1 (v := .int .i64 a.port) (hc1.go hs) rfl rfl rfl) ?_
  refine d_read 12 calm_ret rfl (by kernel_rfl) rfl  (fun h hs => r_fldA (by decide) rfl) ?_
  refine d_read 13 calm_ret rfl (by kernel_rfl) rfl  (fun h hs => r_load1 (v := .int .i64 b.port) (hc2.go hs) rfl rfl rfl) ?_
  refine d_exec1 4 (by kernel_rfl) rfl ?_
  refine w_callF rfl (cmp_str a.scheme b.scheme g2) rfl fun u k1 ks1 hu => ?_
  subst hu
  repeat (first|refine q1 ?_|refine q2 ?_|refine q3 ?_|refine q4 ?_|refine q5 ?_|refine q6 ?_|refine w_seq ?_|refine w_region ?_|refine w_ops_nil ?_|refine w_skip ?_|refine w_block ?_|refine w_blk ?_|refine q7 ?_|refine q8 ?_|refine q9 ?_)
  refine d_next (fun _ => ⟨k1, rfl, ks1⟩) ?_
  refine d_exec1 9 (by kernel_rfl) rfl ?_
  refine w_callF rfl (cmp_str a.host b.host k1) rfl fun u k2 ks2 hu => ?_
  subst hu
  replace ks2 := ks1.go ks2
  repeat (first|refine q1 ?_|refine q2 ?_|refine q3 ?_|refine q4 ?_|refine q5 ?_|refine q6 ?_|refine w_seq ?_|refine w_region ?_|refine w_ops_nil ?_|refine w_skip ?_|refine w_block ?_|refine w_blk ?_|refine q7 ?_|refine q8 ?_|refine q9 ?_)
  refine d_next (fun _ => ⟨k2, rfl, ks2⟩) ?_
  refine d_exec1 14 (by kernel_rfl) rfl ?_
  refine w_callF rfl (cmp_int a.port b.port k2) rfl fun u k3 ks3 hu => ?_
  subst hu
  replace ks3 := ks2.go ks3
  repeat (first|refine q1 ?_|refine q2 ?_|refine q3 ?_|refine q4 ?_|refine q5 ?_|refine q6 ?_|refine w_seq ?_|refine w_region ?_|refine w_ops_nil ?_|refine w_skip ?_|refine w_block ?_|refine w_blk ?_|refine q7 ?_|refine q8 ?_|refine q9 ?_)
  refine d_next (fun _ => ⟨k3, rfl, ks3⟩) ?_
  refine d_exec1 15 (by kernel_rfl) rfl ?_
  refine w_buildSlR El.int [cmpS a.scheme b.scheme, cmpS a.host b.host, cmpI a.port b.port] rfl rfl rfl rfl fun k4 v4 ks4 hr4 => ?_
  replace ks4 := ks3.go ks4
  repeat (first|refine q1 ?_|refine q2 ?_|refine q3 ?_|refine q4 ?_|refine q5 ?_|refine q6 ?_|refine w_seq ?_|refine w_region ?_|refine w_ops_nil ?_|refine w_skip ?_|refine w_block ?_|refine w_blk ?_|refine q7 ?_|refine q8 ?_|refine q9 ?_)
  refine d_next (fun _ => ⟨k4, rfl, ks4⟩) ?_
  refine d_exec1 16 (by kernel_rfl) rfl ?_
  refine w_callF rfl (cmp_Or _ k4 hr4) rfl fun u k5 ks5 hu => ?_
  subst hu
  replace ks5 := ks4.go ks5
  repeat (first|refine q1 ?_|refine q2 ?_|refine q3 ?_|refine q4 ?_|refine q5 ?_|refine q6 ?_|refine w_seq ?_|refine w_region ?_|refine w_ops_nil ?_|refine w_skip ?_|refine w_block ?_|refine w_blk ?_|refine q7 ?_|refine q8 ?_|refine q9 ?_)
  refine d_next (fun _ => ⟨k5, rfl, ks5⟩) ?_
  refine d_pure 17 calm_ret rfl (by kernel_rfl) rfl rfl ?_
  refine d_done (by kernel_rfl) ?_
  repeat (first|refine q1 ?_|refine q2 ?_|refine q3 ?_|refine q4 ?_|refine q5 ?_|refine q6 ?_|refine w_seq ?_|refine w_region ?_|refine w_ops_nil ?_|refine w_skip ?_|refine w_block ?_|refine w_blk ?_|refine q7 ?_|refine q8 ?_|refine q9 ?_)
  exact w_retG (res1 rfl rfl) (hst.go ks5) fun h' _ => by simp only [orL, orI_zero, cmpO]

instance : Ext Try.prog 42 Extern.BytealgCompare.compare := ⟨run_callFunc_extern Try.func42 (by kernel_rfl) (by kernel_rfl) (by kernel_rfl) (by kernel_rfl)⟩
theorem bytes_Compare (l k : List UInt8) (g : G) {u v : Value} {c d : Nat} (hu : Rd g c El.u8 u l) (hk : Rd g d El.u8 v k) : Fn Try.prog 27 [u, v] g [] fun u _ => u = .int .i64 (cmpS l k) := by
  refine enterG [] [] Try.func27 rfl Try.ntmps27 rfl (by simp) fun g1 hv ho => ?_
  obtain ⟨c1, _, hu⟩ := hu.seen hv ho (by simp)
  obtain ⟨c2, _, hk⟩ := hk.seen hv ho (by simp)
  repeat (first|refine q1 ?_|refine q2 ?_|refine q3 ?_|refine q4 ?_|refine q5 ?_|refine q6 ?_|refine w_seq ?_|refine w_region ?_|refine w_ops_nil ?_|refine w_skip ?_|refine w_block ?_|refine w_blk ?_|refine q7 ?_|refine q8 ?_|refine q9 ?_)
  refine w_ext (h := g1) rfl (run_cmpBytes hu hk) rfl ?_
  repeat (first|refine q1 ?_|refine q2 ?_|refine q3 ?_|refine q4 ?_|refine q5 ?_|refine q6 ?_|refine w_seq ?_|refine w_region ?_|refine w_ops_nil ?_|refine w_skip ?_|refine w_block ?_|refine w_blk ?_|refine q7 ?_|refine q8 ?_|refine q9 ?_)
  exact w_retG (res1 rfl rfl) (Step.refl _ _ _) fun h' _ => rfl

theorem grant_Compare (a b : Ky) (g : G) : Fn Try.prog 8 [El.ky.val a, El.ky.val b] g [] fun u _ => u = .int .i64 (cmpK a b) := by
  refine enterG [] [41, 42] Try.func8 rfl Try.ntmps8 rfl (by simp) fun g1 hv ho => ?_
  repeat (first|refine q1 ?_|refine q2 ?_|refine q3 ?_|refine q4 ?_|refine q5 ?_|refine q6 ?_|refine w_seq ?_|refine w_region ?_|refine w_ops_nil ?_|refine w_skip ?_|refine w_block ?_|refine w_blk ?_|refine q7 ?_|refine q8 ?_|refine q9 ?_)
  refine w_box 41 (vs := El.ky.enc a) rfl rfl rfl fun h1 b1 hs1 hc1 => ?_
  have hst : Step [] [41, 42] g1 h1 := hs1.nil
  repeat (first|refine q1 ?_|refine q2 ?_|refine q3 ?_|refine q4 ?_|refine q5 ?_|refine q6 ?_|refine w_seq ?_|refine w_region ?_|refine w_ops_nil ?_|refine w_skip ?_|refine w_block ?_|refine w_blk ?_|refine q7 ?_|refine q8 ?_|refine q9 ?_)
  refine w_box 42 (vs := El.ky.enc b) rfl rfl rfl fun h2 b2 hs2 hc2 => ?_
  replace hst := hst.go hs2; replace hc1 := hc1.go hs2
  repeat (first|refine q1 ?_|refine q2 ?_|refine q3 ?_|refine q4 ?_|refine q5 ?_|refine q6 ?_|refine w_seq ?_|refine w_region ?_|refine w_ops_nil ?_|refine w_skip ?_|refine w_block ?_|refine w_blk ?_|refine q7 ?_|refine q8 ?_|refine q9 ?_)
  refine d_begin none [] (by kernel_rfl) fun g2 hsd => ?_
  replace hst := hst.go hsd; replace hc1 := hc1.go hsd; replace hc2 := hc2.go hsd
  refine d_read 0 calm_ret rfl (by kernel_rfl) rfl  (fun h hs => r_fldA (by decide) rfl) ?_
  refine d_read 1 calm_ret rfl (by kernel_rfl) rfl  (fun h hs => r_load (us := El.og.enc a.page) (hc1.go hs) rfl rfl rfl (fun e => by cases e)) ?_
  refine d_read 2 calm_ret rfl (by kernel_rfl) rfl  (fun h hs => r_fldA (by decide) rfl) ?_
  refine d_read 3 calm_ret rfl (by kernel_rfl) rfl  (fun h hs => r_load (us := El.og.enc b.page) (hc2.go hs) rfl rfl rfl (fun e => by cases e)) ?_
  refine d_read 5 calm_ret rfl (by kernel_rfl) rfl  (fun h hs => r_fldA (by decide) rfl) ?_
  refine d_read 6 calm_ret rfl (by kernel_rfl) rfl  (fun h hs => r_load (us := El.og.enc a.to) (hc1.go hs) rfl rfl rfl (fun e => by cases e)) ?_
  refine d_read 7 calm_ret rfl (by kernel_rfl) rfl  (fun h hs => r_fldA (by decide) rfl) ?_
  refine d_read 8 calm_ret rfl (by kernel_rfl) rfl  (fun h hs => r_load (us := El.og.enc b.to) (hc2.go hs) rfl rfl rfl (fun e => by cases e)) ?_
  refine d_read 10 calm_ret rfl (by kernel_rfl) rfl  (fun h hs => r_fldA (by decide) rfl) ?_
  refine d_read 11 calm_ret rfl (by kernel_rfl) rfl  (fun h hs => r_load1 (v := str a.meth) (hc1.go hs) rfl rfl rfl) ?_
  refine d_read 12 calm_ret rfl (by kernel_rfl) rfl  (fun h hs => r_fldA (by decide) rfl) ?_
  refine d_read 13 calm_ret rfl (by kernel_rfl) rfl  (fun h hs => r_load1 (v := str b.meth) (hc2.go hs) rfl rfl rfl) ?_
  refine d_read 15 calm_ret rfl (by kernel_rfl) rfl  (fun h hs => r_fldA (by decide) rfl) ?_
  refine d_read 16 calm_ret rfl (by kernel_rfl) rfl  (fun h hs => r_fldA (by decide) rfl) ?_
  refine d_read 17 calm_ret rfl (by kernel_rfl) rfl  (fun h hs => r_load1 (v := .int .i64 a.addr.fam) (hc1.go hs) rfl rfl rfl) ?_
  refine d_read 18 calm_ret rfl (by kernel_rfl) rfl  (fun h hs => r_fldA (by decide) rfl) ?_
  refine d_read 19 calm_ret rfl (by kernel_rfl) rfl  (fun h hs => r_fldA (by decide) rfl) ?_
  refine d_read 20 calm_ret rfl (by kernel_rfl) rfl  (fun h hs => r_load1 (v := .int .i64 b.addr.fam) (hc2.go hs) rfl rfl rfl) ?_
  refine d_read 22 calm_ret rfl (by kernel_rfl) rfl  (fun h hs => r_fldA (by decide) rfl) ?_
  refine d_read 23 calm_ret rfl (by kernel_rfl) rfl  (fun h hs => r_fldA (by decide) rfl) ?_
  refine d_read 24 calm_ret rfl (by kernel_rfl) rfl  (fun h hs => r_slA (h := 16) rfl rfl (by decide)) ?_
  refine d_read 25 calm_ret rfl (by kernel_rfl) rfl  (fun h hs => r_fldA (by decide) rfl) ?_
  refine d_read 26 calm_ret rfl (by kernel_rfl) rfl  (fun h hs => r_fldA (by decide) rfl) ?_
  refine d_read 27 calm_ret rfl (by kernel_rfl) rfl  (fun h hs => r_slA (h := 16) rfl rfl (by decide)) ?_
  refine d_exec1 4 (by kernel_rfl) rfl ?_
  refine w_callF rfl (grant_origin a.page b.page g2) rfl fun u k1 ks1 hu => ?_
  subst hu
  repeat (first|refine q1 ?_|refine q2 ?_|refine q3 ?_|refine q4 ?_|refine q5 ?_|refine q6 ?_|refine w_seq ?_|refine w_region ?_|refine w_ops_nil ?_|refine w_skip ?_|refine w_block ?_|refine w_blk ?_|refine q7 ?_|refine q8 ?_|refine q9 ?_)
  refine d_next (fun _ => ⟨k1, rfl, ks1⟩) ?_
  refine d_exec1 9 (by kernel_rfl) rfl ?_
  refine w_callF rfl (grant_origin a.to b.to k1) rfl fun u k2 ks2 hu => ?_
  subst hu
  replace ks2 := ks1.go ks2
  repeat (first|refine q1 ?_|refine q2 ?_|refine q3 ?_|refine q4 ?_|refine q5 ?_|refine q6 ?_|refine w_seq ?_|refine w_region ?_|refine w_ops_nil ?_|refine w_skip ?_|refine w_block ?_|refine w_blk ?_|refine q7 ?_|refine q8 ?_|refine q9 ?_)
  refine d_next (fun _ => ⟨k2, rfl, ks2⟩) ?_
  refine d_exec1 14 (by kernel_rfl) rfl ?_
  refine w_callF rfl (cmp_str a.meth b.meth k2) rfl fun u k3 ks3 hu => ?_
  subst hu
  replace ks3 := ks2.go ks3
  repeat (first|refine q1 ?_|refine q2 ?_|refine q3 ?_|refine q4 ?_|refine q5 ?_|refine q6 ?_|refine w_seq ?_|refine w_region ?_|refine w_ops_nil ?_|refine w_skip ?_|refine w_block ?_|refine w_blk ?_|refine q7 ?_|refine q8 ?_|refine q9 ?_)
  refine d_next (fun _ => ⟨k3, rfl, ks3⟩) ?_
  refine d_exec1 21 (by kernel_rfl) rfl ?_
  refine w_callF rfl (cmp_int a.addr.fam b.addr.fam k3) rfl fun u k4 ks4 hu => ?_
  subst hu
  replace ks4 := ks3.go ks4
  repeat (first|refine q1 ?_|refine q2 ?_|refine q3 ?_|refine q4 ?_|refine q5 ?_|refine q6 ?_|refine w_seq ?_|refine w_region ?_|refine w_ops_nil ?_|refine w_skip ?_|refine w_block ?_|refine w_blk ?_|refine q7 ?_|refine q8 ?_|refine q9 ?_)
  refine d_next (fun _ => ⟨k4, rfl, ks4⟩) ?_
  refine d_exec1 28 (by kernel_rfl) rfl ?_
  refine w_callF rfl (bytes_Compare (bytes16 a.addr.b) (bytes16 b.addr.b) k4 ((hc1.go ks4).rdB (o := 8) (h := 16) (cap := 16) rfl rfl (by decide) (by decide)) ((hc2.go ks4).rdB (o := 8) (h := 16) (cap := 16) rfl rfl (by decide) (by decide))) rfl fun u k5 ks5 hu => ?_
  subst hu
  replace ks5 := ks4.go ks5
  repeat (first|refine q1 ?_|refine q2 ?_|refine q3 ?_|refine q4 ?_|refine q5 ?_|refine q6 ?_|refine w_seq ?_|refine w_region ?_|refine w_ops_nil ?_|refine w_skip ?_|refine w_block ?_|refine w_blk ?_|refine q7 ?_|refine q8 ?_|refine q9 ?_)
  refine d_next (fun _ => ⟨k5, rfl, ks5⟩) ?_
  refine d_exec1 29 (by kernel_rfl) rfl ?_
  refine w_buildSlR El.int [cmpO a.page b.page, cmpO a.to b.to, cmpS a.meth b.meth, cmpI a.addr.fam b.addr.fam, cmpS (bytes16 a.addr.b) (bytes16 b.addr.b)] rfl rfl rfl rfl fun k6 v6 ks6 hr6 => ?_
  replace ks6 := ks5.go ks6
  repeat (first|refine q1 ?_|refine q2 ?_|refine q3 ?_|refine q4 ?_|refine q5 ?_|refine q6 ?_|refine w_seq ?_|refine w_region ?_|refine w_ops_nil ?_|refine w_skip ?_|refine w_block ?_|refine w_blk ?_|refine q7 ?_|refine q8 ?_|refine q9 ?_)
  refine d_next (fun _ => ⟨k6, rfl, ks6⟩) ?_
  refine d_exec1 30 (by kernel_rfl) rfl ?_
  refine w_callF rfl (cmp_Or _ k6 hr6) rfl fun u k7 ks7 hu => ?_
  subst hu
  replace ks7 := ks6.go ks7
  repeat (first|refine q1 ?_|refine q2 ?_|refine q3 ?_|refine q4 ?_|refine q5 ?_|refine q6 ?_|refine w_seq ?_|refine w_region ?_|refine w_ops_nil ?_|refine w_skip ?_|refine w_block ?_|refine w_blk ?_|refine q7 ?_|refine q8 ?_|refine q9 ?_)
  refine d_next (fun _ => ⟨k7, rfl, ks7⟩) ?_
  refine d_pure 31 calm_ret rfl (by kernel_rfl) rfl rfl ?_
  refine d_done (by kernel_rfl) ?_
  repeat (first|refine q1 ?_|refine q2 ?_|refine q3 ?_|refine q4 ?_|refine q5 ?_|refine q6 ?_|refine w_seq ?_|refine w_region ?_|refine w_ops_nil ?_|refine w_skip ?_|refine w_block ?_|refine w_blk ?_|refine q7 ?_|refine q8 ?_|refine q9 ?_)
  exact w_retG (res1 rfl rfl) (hst.go ks7) fun h' _ => by simp only [orL, orI_zero, cmpK, cmpA]
end Go.Proofs.Ytkgbodmlmeholaa
