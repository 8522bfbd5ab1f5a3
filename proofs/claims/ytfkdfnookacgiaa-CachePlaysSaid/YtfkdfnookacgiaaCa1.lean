/- Caches: keys and entries as values; which key comes first. No statement of the seat is proved here. -/
import Derived.Test.YtfkdfnookacgiaaAd
import Derived.Test.YtfkdfnookacgiaaCmp2
import Derived.Test.YtfkdfnookacgiaaLow2
import Derived.Test.YtfkdfnookacgiaaRdx
import Derived.Test.YtfkdfnookacgiaaMap2
set_option linter.unusedVariables false
set_option linter.unusedSimpArgs false
namespace Go.Proofs.Ytfkdfnookacgiaa
open Go
attribute [local irreducible] Wp
structure Ck where
  name : List UInt8
  type_ : Int
  deriving DecidableEq
def Ck.zero : Ck := ⟨[], 0⟩
instance : Inhabited Ck := ⟨Ck.zero⟩
def El.ck : El Ck := ⟨2, true, fun k => [Go.Proofs.Ytfkdfnookacgiaa.str k.name, .int .i64 k.type_], fun _ => rfl, fun h => (by cases h), by decide, by
  intro x u hu
  simp only [List.mem_cons, List.not_mem_nil, or_false] at hu
  rcases hu with h | h <;> subst h <;> rfl⟩
/-- An entry: where its addresses lie, until when it holds; and what the addresses are. -/
structure Cv where
  sl : {v : Value // v.oneCell' = true}
  till : Int
  addrs : List Ad
def Cv.zero : Cv := ⟨⟨.slice none 0 0, rfl⟩, 0, []⟩
def El.cv : El Cv := ⟨2, true, fun x => [x.sl.1, .int .i64 x.till], fun _ => rfl, fun h => (by cases h), by decide, by
  intro x u hu
  simp only [List.mem_cons, List.not_mem_nil, or_false] at hu
  rcases hu with h | h
  · subst h; exact x.sl.2
  · subst h; rfl⟩
theorem ck_eqIn (n : Nat) (w : World) (a b : Ck) (hn : 2 ≤ n) : (Op.equalIn n 37 (El.ck.val a) (El.ck.val b)).run Try.prog w = .ok (decide (a = b)) w := by
  obtain ⟨m, rfl⟩ : ∃ m, n = m + 1 := ⟨n - 1, by omega⟩
  have h := eq_struct (P := Try.prog) (n := m) (w := w) (T := 37) (xs := (El.ck.enc a).toArray) (ys := (El.ck.enc b).toArray) (bs := [decide (a.name = b.name), decide (a.type_ = b.type_)])
    Try.underlying37 (by kernel_rfl) (by decide) rfl (fun i f c hf hc => by
      match i with
      | 0 =>
        simp only [List.getElem?_cons_succ, List.getElem?_cons_zero, Option.some.injEq] at hf hc
        subst hf; subst hc
        exact ⟨str a.name, str b.name, part_cell rfl rfl, part_cell rfl rfl, eqIn_str (by omega) _ _⟩
      | 1 =>
        simp only [List.getElem?_cons_succ, List.getElem?_cons_zero, Option.some.injEq] at hf hc
        subst hf; subst hc
        exact ⟨.int .i64 a.type_, .int .i64 b.type_, part_cell rfl rfl, part_cell rfl rfl, eqIn_int (by omega) _ _⟩
      | k + 2 => simp at hf)
  rw [show El.ck.val a = .agg (El.ck.enc a).toArray from rfl, show El.ck.val b = .agg (El.ck.enc b).toArray from rfl, h]
  refine congrArg (fun x => Result.ok x w) ?_
  rw [Bool.eq_iff_iff]
  obtain ⟨a0, a1⟩ := a
  obtain ⟨b0, b1⟩ := b
  simp
instance eqvCk : EqV Try.prog 37 El.ck := ⟨fun n w a b hn => ck_eqIn n w a b (by omega)⟩
instance chkCk : Chk Try.prog 37 El.ck := ⟨fun n w e a hn => by
  obtain ⟨m, rfl⟩ : ∃ m, n = m + 1 := ⟨n - 1, by omega⟩
  refine chk_struct (P := Try.prog) Try.underlying37 (fun i f hf => ?_)
  match i with
  | 0 => simp only [List.getElem?_cons_zero, Option.some.injEq] at hf; subst hf; exact ⟨str a.name, part_cell rfl rfl, chk_str (by omega) _ _⟩
  | 1 => simp only [List.getElem?_cons_succ, List.getElem?_cons_zero, Option.some.injEq] at hf; subst hf; exact ⟨.int .i64 a.type_, part_cell rfl rfl, chk_int (by omega) _ _⟩
  | k + 2 => simp at hf⟩
instance keyCk : KeyEq Try.prog 37 El.ck := key_struct Try.underlying37 rfl (fun x u hu => by
  simp only [El.ck, List.mem_cons, List.not_mem_nil, or_false] at hu
  rcases hu with h | h <;> subst h <;> first | exact bits_str _ _ | exact bits_int _ _ _)

def cmpC (a b : Ck) : Int := orI (cmpS a.name b.name) (cmpI a.type_ b.type_)
theorem isCmpC : IsCmp cmpC := (isCmpS.lex isCmpI).on (fun k : Ck => (k.name, k.type_)) (fun x y h => by
  obtain ⟨x1, x2⟩ := x
  obtain ⟨y1, y2⟩ := y
  simp only [Prod.mk.injEq] at h
  obtain ⟨rfl, rfl⟩ := h
  rfl)
theorem cache_compare (a b : Ck) (g : G) : Fn Try.prog 36 [El.ck.val a, El.ck.val b] g [] fun u _ => u = .int .i64 (cmpC a b) := by
  refine enterG [] [41, 42] Try.func36 rfl Try.ntmps36 rfl (by simp) fun g1 hv ho => ?_
  repeat (first|refine q1 ?_|refine q2 ?_|refine q3 ?_|refine q4 ?_|refine q5 ?_|refine q6 ?_|refine w_seq ?_|refine w_region ?_|refine w_ops_nil ?_|refine w_skip ?_|refine w_block ?_|refine w_blk ?_|refine q7 ?_|refine q8 ?_|refine q9 ?_)
  refine w_box 41 (vs := El.ck.enc a) rfl rfl rfl fun h1 b1 hs1 hc1 => ?_
  have hst : Step [] [41, 42] g1 h1 := hs1.nil
  repeat (first|refine q1 ?_|refine q2 ?_|refine q3 ?_|refine q4 ?_|refine q5 ?_|refine q6 ?_|refine w_seq ?_|refine w_region ?_|refine w_ops_nil ?_|refine w_skip ?_|refine w_block ?_|refine w_blk ?_|refine q7 ?_|refine q8 ?_|refine q9 ?_)
  refine w_box 42 (vs := El.ck.enc b) rfl rfl rfl fun h2 b2 hs2 hc2 => ?_
  replace hst := hst.go hs2; replace hc1 := hc1.go hs2
  repeat (first|refine q1 ?_|refine q2 ?_|refine q3 ?_|refine q4 ?_|refine q5 ?_|refine q6 ?_|refine w_seq ?_|refine w_region ?_|refine w_ops_nil ?_|refine w_skip ?_|refine w_block ?_|refine w_blk ?_|refine q7 ?_|refine q8 ?_|refine q9 ?_)
  refine d_begin none [] (by kernel_rfl) fun g2 hsd => ?_
  replace hst := hst.go hsd; replace hc1 := hc1.go hsd; replace hc2 := hc2.go hsd
  refine d_read 0 calm_ret rfl (by kernel_rfl) rfl  (fun h hs => r_fldA (by decide) rfl) ?_
  refine d_read 1 calm_ret rfl (by kernel_rfl) rfl  (fun h hs => r_load1 (v := str a.name) (hc1.go hs) rfl rfl rfl) ?_
  refine d_read 2 calm_ret rfl (by kernel_rfl) rfl  (fun h hs => r_fldA (by decide) rfl) ?_
  refine d_read 3 calm_ret rfl (by kernel_rfl) rfl  (fun h hs => r_load1 (v := str b.name) (hc2.go hs) rfl rfl rfl) ?_
  refine d_read 5 calm_ret rfl (by kernel_rfl) rfl  (fun h hs => r_fldA (by decide) rfl) ?_
  refine d_read 6 calm_ret rfl (by kernel_rfl) rfl  (fun h hs => r_load1 (v := .int .i64 a.type_) (hc1.go hs) rfl rfl rfl) ?_
  refine d_read 7 calm_ret rfl (by kernel_rfl) rfl  (fun h hs => r_fldA (by decide) rfl) ?_
  refine d_read 8 calm_ret rfl (by kernel_rfl) rfl  (fun h hs => r_load1 (v := .int .i64 b.type_) (hc2.go hs) rfl rfl rfl) ?_
  refine d_exec1 4 (by kernel_rfl) rfl ?_
  refine w_callF rfl (cmp_str a.name b.name g2) rfl fun u k1 ks1 hu => ?_
  subst hu
  repeat (first|refine q1 ?_|refine q2 ?_|refine q3 ?_|refine q4 ?_|refine q5 ?_|refine q6 ?_|refine w_seq ?_|refine w_region ?_|refine w_ops_nil ?_|refine w_skip ?_|refine w_block ?_|refine w_blk ?_|refine q7 ?_|refine q8 ?_|refine q9 ?_)
  refine d_next (fun _ => ⟨k1, rfl, ks1⟩) ?_
  refine d_exec1 9 (by kernel_rfl) rfl ?_
  refine w_callF rfl (cmp_int a.type_ b.type_ k1) rfl fun u k2 ks2 hu => ?_
  subst hu
  replace ks2 := ks1.go ks2
  repeat (first|refine q1 ?_|refine q2 ?_|refine q3 ?_|refine q4 ?_|refine q5 ?_|refine q6 ?_|refine w_seq ?_|refine w_region ?_|refine w_ops_nil ?_|refine w_skip ?_|refine w_block ?_|refine w_blk ?_|refine q7 ?_|refine q8 ?_|refine q9 ?_)
  refine d_next (fun _ => ⟨k2, rfl, ks2⟩) ?_
  refine d_exec1 10 (by kernel_rfl) rfl ?_
  refine w_buildSlR El.int [cmpS a.name b.name, cmpI a.type_ b.type_] rfl rfl rfl rfl fun k4 v4 ks4 hr4 => ?_
  replace ks4 := ks2.go ks4
  repeat (first|refine q1 ?_|refine q2 ?_|refine q3 ?_|refine q4 ?_|refine q5 ?_|refine q6 ?_|refine w_seq ?_|refine w_region ?_|refine w_ops_nil ?_|refine w_skip ?_|refine w_block ?_|refine w_blk ?_|refine q7 ?_|refine q8 ?_|refine q9 ?_)
  refine d_next (fun _ => ⟨k4, rfl, ks4⟩) ?_
  refine d_exec1 11 (by kernel_rfl) rfl ?_
  refine w_callF rfl (cmp_Or _ k4 hr4) rfl fun u k5 ks5 hu => ?_
  subst hu
  replace ks5 := ks4.go ks5
  repeat (first|refine q1 ?_|refine q2 ?_|refine q3 ?_|refine q4 ?_|refine q5 ?_|refine q6 ?_|refine w_seq ?_|refine w_region ?_|refine w_ops_nil ?_|refine w_skip ?_|refine w_block ?_|refine w_blk ?_|refine q7 ?_|refine q8 ?_|refine q9 ?_)
  refine d_next (fun _ => ⟨k5, rfl, ks5⟩) ?_
  refine d_pure 12 calm_ret rfl (by kernel_rfl) rfl rfl ?_
  refine d_done (by kernel_rfl) ?_
  repeat (first|refine q1 ?_|refine q2 ?_|refine q3 ?_|refine q4 ?_|refine q5 ?_|refine q6 ?_|refine w_seq ?_|refine w_region ?_|refine w_ops_nil ?_|refine w_skip ?_|refine w_block ?_|refine w_blk ?_|refine q7 ?_|refine q8 ?_|refine q9 ?_)
  exact w_retG (res1 rfl rfl) (hst.go ks5) fun h' _ => by simp only [orL, orI_zero, cmpC]

theorem cache_key (name : List UInt8) (t : Int) (g : G) (hn : name.length ≤ 1000000) : Fn Try.prog 28 [str name, .int .i64 t] g [] fun u _ => u = El.ck.val ⟨lowB name, t⟩ := by
  refine enterG [] [41] Try.func28 rfl Try.ntmps28 rfl (by simp) fun g1 hv ho => ?_
  repeat (first|refine q1 ?_|refine q2 ?_|refine q3 ?_|refine q4 ?_|refine q5 ?_|refine q6 ?_|refine w_seq ?_|refine w_region ?_|refine w_ops_nil ?_|refine w_skip ?_|refine w_block ?_|refine w_blk ?_|refine q7 ?_|refine q8 ?_|refine q9 ?_)
  refine w_alloc 41 (vs := El.ck.enc Ck.zero) rfl rfl fun h1 b1 hs1 hc1 => ?_
  have hst : Step [] [41] g1 h1 := hs1.nil
  repeat (first|refine q1 ?_|refine q2 ?_|refine q3 ?_|refine q4 ?_|refine q5 ?_|refine q6 ?_|refine w_seq ?_|refine w_region ?_|refine w_ops_nil ?_|refine w_skip ?_|refine w_block ?_|refine w_blk ?_|refine q7 ?_|refine q8 ?_|refine q9 ?_)
  refine w_callF (vs := [str name]) rfl (text_Lower name h1 hn) rfl fun u h2 hs2 hu => ?_
  subst hu
  replace hst := hst.go hs2; replace hc1 := hc1.go hs2
  repeat (first|refine q1 ?_|refine q2 ?_|refine q3 ?_|refine q4 ?_|refine q5 ?_|refine q6 ?_|refine w_seq ?_|refine w_region ?_|refine w_ops_nil ?_|refine w_skip ?_|refine w_block ?_|refine w_blk ?_|refine q7 ?_|refine q8 ?_|refine q9 ?_)
  refine w_build (vs := [(0, str (lowB name)), (1, .int .i64 t)]) (r := El.ck.enc ⟨lowB name, t⟩) rfl rfl rfl ?_
  refine w_store (us := El.ck.enc ⟨lowB name, t⟩) (vs' := El.ck.enc ⟨lowB name, t⟩) hc1 rfl rfl rfl rfl (El.ck.flat _) (show 0 + 2 ≤ 2 by decide) rfl fun h3 hb3 hs3 hc3 => ?_
  replace hst := hst.go hs3
  repeat (first|refine q1 ?_|refine q2 ?_|refine q3 ?_|refine q4 ?_|refine q5 ?_|refine q6 ?_|refine w_seq ?_|refine w_region ?_|refine w_ops_nil ?_|refine w_skip ?_|refine w_block ?_|refine w_blk ?_|refine q7 ?_|refine q8 ?_|refine q9 ?_)
  exact w_retG (resCs hc3 rfl rfl rfl rfl) hst fun h' _ => rfl
theorem CloneO_ad (x : List Ad) (g : G) {v : Value} (hr : Rdx g El.ad v x) (hx : x.length ≤ 1000000) :
    Fn Try.prog 30 [v] g [53] fun u h => Own h 53 El.ad 51 u x := by
  refine enterG [53] [2] Try.func30 rfl Try.ntmps30 rfl (by simp) fun g1 hv ho => ?_
  replace hr := hr.seen hv ho
  obtain ⟨c', hc', hr1⟩ := hr
  obtain ⟨A, cap, rfl, h1, h2⟩ := hr1.len
  repeat (first|refine q1 ?_|refine q2 ?_|refine q3 ?_|refine q4 ?_|refine q5 ?_|refine q6 ?_|refine w_seq ?_|refine w_region ?_|refine w_ops_nil ?_|refine w_skip ?_|refine w_block ?_|refine w_blk ?_|refine q7 ?_|refine q8 ?_|refine q9 ?_)
  refine w_slEqNil rfl rfl rfl ?_
  repeat (first|refine q1 ?_|refine q2 ?_|refine q3 ?_|refine q4 ?_|refine q5 ?_|refine q6 ?_|refine w_seq ?_|refine w_region ?_|refine w_ops_nil ?_|refine w_skip ?_|refine w_block ?_|refine w_blk ?_|refine q7 ?_|refine q8 ?_|refine q9 ?_)
  refine w_cond rfl (fun hA => ?_) (fun hA => ?_)
  · repeat (first|refine q1 ?_|refine q2 ?_|refine q3 ?_|refine q4 ?_|refine q5 ?_|refine q6 ?_|refine w_seq ?_|refine w_region ?_|refine w_ops_nil ?_|refine w_skip ?_|refine w_block ?_|refine w_blk ?_|refine q7 ?_|refine q8 ?_|refine q9 ?_)
    refine w_retG (res1 rfl rfl) (Step.refl _ _ _) fun h' _ => ?_
    cases A with
    | some a => cases hA
    | none =>
      obtain ⟨A', cap', he, h3, h4, h5⟩ := hr1
      rcases h5 with h5 | ⟨a, ha, _⟩
      · subst h5; exact Own.nil _ _ _ _
      · subst ha; injection he with he1; cases he1
  · repeat (first|refine q1 ?_|refine q2 ?_|refine q3 ?_|refine q4 ?_|refine q5 ?_|refine q6 ?_|refine w_seq ?_|refine w_region ?_|refine w_ops_nil ?_|refine w_skip ?_|refine w_block ?_|refine w_blk ?_|refine q7 ?_|refine q8 ?_|refine q9 ?_)
    refine w_buildSl 53 El.ad [] rfl rfl rfl rfl fun h1 v1 hs1 ho1 => ?_
    replace hr1 := hr1.go hs1
    repeat (first|refine q1 ?_|refine q2 ?_|refine q3 ?_|refine q4 ?_|refine q5 ?_|refine q6 ?_|refine w_seq ?_|refine w_region ?_|refine w_ops_nil ?_|refine w_skip ?_|refine w_block ?_|refine w_blk ?_|refine q7 ?_|refine q8 ?_|refine q9 ?_)
    refine w_append ho1 hr1 rfl rfl rfl (by decide) (by simp; omega) rfl fun h2 v2 hs2 ho2 => ?_
    repeat (first|refine q1 ?_|refine q2 ?_|refine q3 ?_|refine q4 ?_|refine q5 ?_|refine q6 ?_|refine w_seq ?_|refine w_region ?_|refine w_ops_nil ?_|refine w_skip ?_|refine w_block ?_|refine w_blk ?_|refine q7 ?_|refine q8 ?_|refine q9 ?_)
    exact w_retG (res1 rfl rfl) ((hs1.mono (by simp) (by simp)).trans (hs2.mono (by simp) (by simp))) fun h' hv' => ho2.view hv' (.inr (by simp))


abbrev CaM := List (Ck × Cv)
/-- The program's cache in memory. -/
def Cm (g : G) (p : Nat) (room : Int) (m : CaM) : Prop := ∃ q, Cell g 51 p 68 [.int .i64 room, .map (some q)] ∧ MapIs g 52 q El.ck El.cv m ∧ ∀ x ∈ m, Rd g 0 El.ad x.2.sl.1 x.2.addrs
theorem Cm.go {g h : G} {p : Nat} {room : Int} {m : CaM} {M : List Nat} (hb : Cm g p room m) (hs : Step [] M g h) (h1 : 51 ∉ M := by simp) (h2 : 52 ∉ M := by simp) (h0 : 0 ∉ M := by simp) : Cm h p room m := by
  obtain ⟨q, hc, hm, hr⟩ := hb
  exact ⟨q, hc.step hs h1 (by simp), hm.step hs h2 (by simp), fun x hx => (hr x hx).step hs h0⟩
theorem Cm.view {g h : G} {p : Nat} {room : Int} {m : CaM} {M : List Nat} (hb : Cm g p room m) (hs : View M g h) (h1 : 51 ∈ M := by simp) (h2 : 52 ∈ M := by simp) : Cm h p room m := by
  obtain ⟨q, hc, hm, hr⟩ := hb
  exact ⟨q, hc.view hs (.inr h1), hm.view hs (.inr h2), fun x hx => (hr x hx).view hs (.inl rfl)⟩
def roomZ (r : Int) : Int := min (max r 1) 64
theorem cache_New (room : Int) (g : G) : Fn Try.prog 8 [.int .i64 room] g [51, 52] fun u h => ∃ p, u = .pointer (some ⟨p, 0, none⟩) ∧ Cm h p (roomZ room) [] := by
  refine enterG [51, 52] [] Try.func8 rfl Try.ntmps8 rfl (by simp) fun g1 hv ho => ?_
  repeat (first|refine q1 ?_|refine q2 ?_|refine q3 ?_|refine q4 ?_|refine q5 ?_|refine q6 ?_|refine w_seq ?_|refine w_region ?_|refine w_ops_nil ?_|refine w_skip ?_|refine w_block ?_|refine w_blk ?_|refine q7 ?_|refine q8 ?_|refine q9 ?_)
  refine w_max rfl rfl rfl ?_
  refine w_min rfl rfl rfl ?_
  refine w_makeMap 52 rfl fun h1 mb hs1 hma => ?_
  have hmp : MapIs h1 52 mb El.ck El.cv [] := hma.empty
  refine w_build (vs := [(0, .int .i64 (min (max room 1) 64)), (1, .map (some mb))]) (r := [.int .i64 (min (max room 1) 64), .map (some mb)]) rfl rfl rfl ?_
  refine w_box 51 (vs := [.int .i64 (min (max room 1) 64), .map (some mb)]) rfl rfl rfl fun h2 p hs2 hc2 => ?_
  replace hmp := hmp.step hs2 (by simp) (by simp)
  repeat (first|refine q1 ?_|refine q2 ?_|refine q3 ?_|refine q4 ?_|refine q5 ?_|refine q6 ?_|refine w_seq ?_|refine w_region ?_|refine w_ops_nil ?_|refine w_skip ?_|refine w_block ?_|refine w_blk ?_|refine q7 ?_|refine q8 ?_|refine q9 ?_)
  have hb : Cm h2 p (roomZ room) [] := ⟨mb, hc2, hmp, by simp⟩
  exact w_retG (res1 rfl rfl) ((hs1.mono (by simp) (by simp)).go hs2) fun h' hv' => ⟨p, rfl, hb.view hv'⟩
theorem Cache_Len (p : Nat) (room : Int) (m : CaM) (g : G) (hb : Cm g p room m) : Fn Try.prog 14 [.pointer (some ⟨p, 0, none⟩)] g [] fun u _ => u = .int .i64 (m.length : Int) := by
  obtain ⟨q, hcb, hmq, _⟩ := hb
  refine enterG [] [] Try.func14 rfl Try.ntmps14 rfl (by simp) fun g1 hv ho => ?_
  obtain ⟨c, _, hcb⟩ := hcb.seen hv ho (by simp)
  obtain ⟨c2, _, hmq⟩ := hmq.seen hv ho (by simp)
  repeat (first|refine q1 ?_|refine q2 ?_|refine q3 ?_|refine q4 ?_|refine q5 ?_|refine q6 ?_|refine w_seq ?_|refine w_region ?_|refine w_ops_nil ?_|refine w_skip ?_|refine w_block ?_|refine w_blk ?_|refine q7 ?_|refine q8 ?_|refine q9 ?_)
  refine w_fldA (by decide) rfl rfl ?_
  refine w_load1 (v := .map (some q)) hcb rfl rfl rfl rfl ?_
  refine w_lenMap hmq rfl rfl ?_
  repeat (first|refine q1 ?_|refine q2 ?_|refine q3 ?_|refine q4 ?_|refine q5 ?_|refine q6 ?_|refine w_seq ?_|refine w_region ?_|refine w_ops_nil ?_|refine w_skip ?_|refine w_block ?_|refine w_blk ?_|refine q7 ?_|refine q8 ?_|refine q9 ?_)
  exact w_retG (res1 rfl rfl) (Step.refl _ _ _) fun h' _ => rfl
theorem Cache_Room (p : Nat) (room : Int) (m : CaM) (g : G) (hb : Cm g p room m) : Fn Try.prog 15 [.pointer (some ⟨p, 0, none⟩)] g [] fun u _ => u = .int .i64 room := by
  obtain ⟨q, hcb, hmq, _⟩ := hb
  refine enterG [] [] Try.func15 rfl Try.ntmps15 rfl (by simp) fun g1 hv ho => ?_
  obtain ⟨c, _, hcb⟩ := hcb.seen hv ho (by simp)
  repeat (first|refine q1 ?_|refine q2 ?_|refine q3 ?_|refine q4 ?_|refine q5 ?_|refine q6 ?_|refine w_seq ?_|refine w_region ?_|refine w_ops_nil ?_|refine w_skip ?_|refine w_block ?_|refine w_blk ?_|refine q7 ?_|refine q8 ?_|refine q9 ?_)
  refine w_fldA (by decide) rfl rfl ?_
  refine w_load1 (v := .int .i64 room) hcb rfl rfl rfl rfl ?_
  repeat (first|refine q1 ?_|refine q2 ?_|refine q3 ?_|refine q4 ?_|refine q5 ?_|refine q6 ?_|refine w_seq ?_|refine w_region ?_|refine w_ops_nil ?_|refine w_skip ?_|refine w_block ?_|refine w_blk ?_|refine q7 ?_|refine q8 ?_|refine q9 ?_)
  exact w_retG (res1 rfl rfl) (Step.refl _ _ _) fun h' _ => rfl
end Go.Proofs.Ytfkdfnookacgiaa
