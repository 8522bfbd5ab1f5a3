/- Grants: the program's book where room is left; the laws of the row and of one grant. No statement of the seat is proved here. -/
import Derived.Test.YtkgbodmlmeholaaGr3
set_option linter.unusedVariables false
set_option linter.unusedSimpArgs false
namespace Go.Proofs.Ytkgbodmlmeholaa
open Go
attribute [local irreducible] Wp

abbrev BkM := List (Ky × Int)
/-- The program's book in memory. -/
def Bk (g : G) (p : Nat) (room : Int) (m : BkM) : Prop := ∃ q, Cell g 51 p 74 [.int .i64 room, .map (some q)] ∧ MapIs g 52 q El.ky El.int m
theorem Bk.go {g h : G} {p : Nat} {room : Int} {m : BkM} {M : List Nat} (hb : Bk g p room m) (hs : Step [] M g h) (h1 : 51 ∉ M := by simp) (h2 : 52 ∉ M := by simp) : Bk h p room m := by
  obtain ⟨q, hc, hm⟩ := hb
  exact ⟨q, hc.step hs h1 (by simp), hm.step hs h2 (by simp)⟩
theorem Bk.view {g h : G} {p : Nat} {room : Int} {m : BkM} {M : List Nat} (hb : Bk g p room m) (hs : View M g h) (h1 : 51 ∈ M := by simp) (h2 : 52 ∈ M := by simp) : Bk h p room m := by
  obtain ⟨q, hc, hm⟩ := hb
  exact ⟨q, hc.view hs (.inr h1), hm.view hs (.inr h2)⟩
def roomZ (r : Int) : Int := min (max r 1) 64

theorem grant_New (room : Int) (g : G) : Fn Try.prog 12 [.int .i64 room] g [51, 52] fun u h => ∃ p, u = .pointer (some ⟨p, 0, none⟩) ∧ Bk h p (roomZ room) [] := by
  refine enterG [51, 52] [] Try.func12 rfl Try.ntmps12 rfl (by simp) fun g1 hv ho => ?_
  repeat (first|refine q1 ?_|refine q2 ?_|refine q3 ?_|refine q4 ?_|refine q5 ?_|refine q6 ?_|refine w_seq ?_|refine w_region ?_|refine w_ops_nil ?_|refine w_skip ?_|refine w_block ?_|refine w_blk ?_|refine q7 ?_|refine q8 ?_|refine q9 ?_)
  refine w_max rfl rfl rfl ?_
  refine w_min rfl rfl rfl ?_
  refine w_makeMap 52 rfl fun h1 mb hs1 hma => ?_
  have hmp : MapIs h1 52 mb El.ky El.int [] := hma.empty
  refine w_build (vs := [(0, .int .i64 (min (max room 1) 64)), (1, .map (some mb))]) (r := [.int .i64 (min (max room 1) 64), .map (some mb)]) rfl rfl rfl ?_
  refine w_box 51 (vs := [.int .i64 (min (max room 1) 64), .map (some mb)]) rfl rfl rfl fun h2 p hs2 hc2 => ?_
  replace hmp := hmp.step hs2 (by simp) (by simp)
  repeat (first|refine q1 ?_|refine q2 ?_|refine q3 ?_|refine q4 ?_|refine q5 ?_|refine q6 ?_|refine w_seq ?_|refine w_region ?_|refine w_ops_nil ?_|refine w_skip ?_|refine w_block ?_|refine w_blk ?_|refine q7 ?_|refine q8 ?_|refine q9 ?_)
  have hb : Bk h2 p (roomZ room) [] := ⟨mb, hc2, hmp⟩
  exact w_retG (res1 rfl rfl) ((hs1.mono (by simp) (by simp)).go hs2) fun h' hv' => ⟨p, rfl, hb.view hv'⟩

theorem Book_Put (p : Nat) (room : Int) (m : BkM) (k : Ky) (until_ now : Int) (g : G) (hb : Bk g p room m) (hfit : (mget k m).isSome = true ∨ ¬ (m.length : Int) = room) :
    Fn Try.prog 13 [.pointer (some ⟨p, 0, none⟩), El.ky.val k, .int .i64 until_, .int .i64 now] g [51, 52] fun u h => u = .tuple #[El.ky.val Ky.zero, .bool false] ∧ Bk h p room (if until_ ≤ now then m else mput k until_ m) := by
  refine enterG [51, 52] [41, 42, 43] Try.func13 rfl Try.ntmps13 rfl (by simp) fun g1 hv ho => ?_
  replace hb := hb.view hv
  repeat (first|refine q1 ?_|refine q2 ?_|refine q3 ?_|refine q4 ?_|refine q5 ?_|refine q6 ?_|refine w_seq ?_|refine w_region ?_|refine w_ops_nil ?_|refine w_skip ?_|refine w_block ?_|refine w_blk ?_|refine q7 ?_|refine q8 ?_|refine q9 ?_)
  refine w_box 41 (vs := El.ky.enc k) rfl rfl rfl fun h1 b1 hs1 hc1 => ?_
  have hst : Step [] [51, 52, 41, 42, 43] g1 h1 := hs1.nil
  replace hb := hb.go hs1
  repeat (first|refine q1 ?_|refine q2 ?_|refine q3 ?_|refine q4 ?_|refine q5 ?_|refine q6 ?_|refine w_seq ?_|refine w_region ?_|refine w_ops_nil ?_|refine w_skip ?_|refine w_block ?_|refine w_blk ?_|refine q7 ?_|refine q8 ?_|refine q9 ?_)
  refine w_alloc 42 (vs := El.ky.enc Ky.zero) rfl rfl fun h2 b2 hs2 hc2 => ?_
  replace hst := hst.go hs2; replace hc1 := hc1.go hs2; replace hb := hb.go hs2
  repeat (first|refine q1 ?_|refine q2 ?_|refine q3 ?_|refine q4 ?_|refine q5 ?_|refine q6 ?_|refine w_seq ?_|refine w_region ?_|refine w_ops_nil ?_|refine w_skip ?_|refine w_block ?_|refine w_blk ?_|refine q7 ?_|refine q8 ?_|refine q9 ?_)
  refine w_condP rfl (fun hle => ?_) (fun hle => ?_)
  · repeat (first|refine q1 ?_|refine q2 ?_|refine q3 ?_|refine q4 ?_|refine q5 ?_|refine q6 ?_|refine w_seq ?_|refine w_region ?_|refine w_ops_nil ?_|refine w_skip ?_|refine w_block ?_|refine w_blk ?_|refine q7 ?_|refine q8 ?_|refine q9 ?_)
    refine w_build (vs := []) (r := El.ky.enc Ky.zero) rfl rfl rfl ?_
    refine w_store (us := El.ky.enc Ky.zero) (vs' := El.ky.enc Ky.zero) hc2 rfl rfl rfl rfl (El.ky.flat _) (show 0 + 24 ≤ 24 by decide) rfl fun h3 hb3 hs3 hc3 => ?_
    replace hst := hst.go hs3; replace hb := hb.go hs3
    repeat (first|refine q1 ?_|refine q2 ?_|refine q3 ?_|refine q4 ?_|refine q5 ?_|refine q6 ?_|refine w_seq ?_|refine w_region ?_|refine w_ops_nil ?_|refine w_skip ?_|refine w_block ?_|refine w_blk ?_|refine q7 ?_|refine q8 ?_|refine q9 ?_)
    refine w_retG (resCs1 hc3 rfl rfl rfl rfl rfl) hst fun h' hv' => ⟨rfl, ?_⟩
    rw [if_pos hle]
    exact hb.view hv'
  repeat (first|refine q1 ?_|refine q2 ?_|refine q3 ?_|refine q4 ?_|refine q5 ?_|refine q6 ?_|refine w_seq ?_|refine w_region ?_|refine w_ops_nil ?_|refine w_skip ?_|refine w_block ?_|refine w_blk ?_|refine q7 ?_|refine q8 ?_|refine q9 ?_)
  refine w_alloc 43 (vs := El.ky.enc Ky.zero) rfl rfl fun h3 b3 hs3 hc3 => ?_
  replace hst := hst.go hs3; replace hc1 := hc1.go hs3; replace hc2 := hc2.go hs3; replace hb := hb.go hs3
  obtain ⟨q, hcb, hmq⟩ := hb
  repeat (first|refine q1 ?_|refine q2 ?_|refine q3 ?_|refine q4 ?_|refine q5 ?_|refine q6 ?_|refine w_seq ?_|refine w_region ?_|refine w_ops_nil ?_|refine w_skip ?_|refine w_blk ?_|refine q7 ?_|refine q8 ?_|refine q9 ?_)
  refine d_begin none [] (by kernel_rfl) fun g2 hsd => ?_
  replace hmq := hmq.step hsd (by simp) (by simp)
  replace hst := hst.go hsd; replace hc1 := hc1.go hsd; replace hc2 := hc2.go hsd; replace hc3 := hc3.go hsd; replace hcb := hcb.go hsd
  refine d_pure 0 calm_ret rfl (by kernel_rfl) rfl rfl ?_; refine d_pure 1 calm_ret rfl (by kernel_rfl) rfl rfl ?_
  refine d_read 2 calm_ret rfl (by kernel_rfl) rfl  (fun h hs => r_fldA (by decide) rfl) ?_
  refine d_read 3 calm_ret rfl (by kernel_rfl) rfl  (fun h hs => r_load1 (v := .map (some q)) (hcb.go hs) rfl rfl rfl) ?_
  refine d_read 4 calm_ret rfl (by kernel_rfl) rfl  (fun h hs => r_load (us := El.ky.enc k) (hc1.go hs) rfl rfl rfl (fun e => by cases e)) ?_
  refine d_exec1 5 (by kernel_rfl) rfl ?_
  refine w_lookupOk (key := k) hmq rfl rfl rfl ?_
  repeat (first|refine q1 ?_|refine q2 ?_|refine q3 ?_|refine q4 ?_|refine q5 ?_|refine q6 ?_|refine w_seq ?_|refine w_region ?_|refine w_ops_nil ?_|refine w_skip ?_|refine w_block ?_|refine w_blk ?_|refine q7 ?_|refine q8 ?_|refine q9 ?_)
  refine d_next (fun _ => ⟨g2, rfl, Step.refl _ _ _⟩) ?_
  refine d_pure 6 calm_ret rfl (by kernel_rfl) rfl rfl ?_; refine d_pure 7 calm_ret rfl (by kernel_rfl) rfl rfl ?_; refine d_pure 8 calm_ret rfl (by kernel_rfl) rfl rfl ?_; refine d_pure 9 calm_ret rfl (by kernel_rfl) rfl rfl ?_; refine d_pure 10 calm_ret rfl (by kernel_rfl) rfl rfl ?_
  refine d_done (by kernel_rfl) ?_
  generalize (match mget k m with | some u => El.int.val u | none => Value.int .i64 0) = gv
  repeat (first|refine q1 ?_|refine q2 ?_|refine q3 ?_|refine q4 ?_|refine q5 ?_|refine q6 ?_|refine w_seq ?_|refine w_region ?_|refine w_ops_nil ?_|refine w_skip ?_|refine w_blk ?_|refine q7 ?_|refine q8 ?_|refine q9 ?_)
  refine w_cut (ι := Unit) (fun _ => [(0, .pointer (some ⟨p, 0, none⟩)), (2, .int .i64 until_), (5, .pointer (some ⟨b1, 0, none⟩)), (8, .pointer (some ⟨b2, 0, none⟩)), (10, .pointer (some ⟨b3, 0, none⟩)), (11, .bool false), (40, .bool false)])
    (fun _ w => ∃ h : G, h.w = w ∧ Step [] [] g2 h) ?_ ?_
  · refine d_begin none [] (by kernel_rfl) fun g3 hsd3 => ?_
    have hmq3 := hmq.step hsd3 (by simp) (by simp)
    have hcb3 := hcb.go hsd3
    cases hg : (mget k m).isSome with
    | true =>
      refine d_pure 0 calm_ret rfl (by kernel_rfl) rfl rfl ?_; refine d_pure 1 calm_ret rfl (by kernel_rfl) rfl rfl ?_; refine d_pure 2 calm_ret rfl (by kernel_rfl) rfl rfl ?_
      refine d_guard_no 3 calm_ret rfl rfl rfl (by kernel_rfl) rfl ?_; refine d_guard_no 4 calm_ret rfl rfl rfl (by kernel_rfl) rfl ?_; refine d_guard_no 5 calm_ret rfl rfl rfl (by kernel_rfl) rfl ?_; refine d_guard_no 6 calm_ret rfl rfl rfl (by kernel_rfl) rfl ?_; refine d_guard_no 7 calm_ret rfl rfl rfl (by kernel_rfl) rfl ?_; refine d_guard_no 8 calm_ret rfl rfl rfl (by kernel_rfl) rfl ?_; refine d_guard_no 9 calm_ret rfl rfl rfl (by kernel_rfl) rfl ?_; refine d_guard_no 10 calm_ret rfl rfl rfl (by kernel_rfl) rfl ?_; refine d_guard_no 11 calm_ret rfl rfl rfl (by kernel_rfl) rfl ?_; refine d_guard_no 12 calm_ret rfl rfl rfl (by kernel_rfl) rfl ?_
      refine d_pure 13 calm_ret rfl (by kernel_rfl) rfl rfl ?_
      refine d_done (by kernel_rfl) ?_
      exact w_meet () ⟨g3, rfl, hsd3⟩ ⟨rfl, rfl, rfl, rfl, rfl, rfl, rfl, trivial⟩
    | false =>
      have hne : ¬ (m.length : Int) = room := hfit.resolve_left (by rw [hg]; simp)
      refine d_pure 0 calm_ret rfl (by kernel_rfl) rfl rfl ?_; refine d_pure 1 calm_ret rfl (by kernel_rfl) rfl rfl ?_; refine d_pure 2 calm_ret rfl (by kernel_rfl) rfl rfl ?_
      refine d_guard_pure 3 calm_ret rfl rfl rfl (by kernel_rfl) rfl rfl ?_; refine d_guard_pure 4 calm_ret rfl rfl rfl (by kernel_rfl) rfl rfl ?_
      refine d_readG 5 calm_ret rfl rfl rfl (by kernel_rfl) rfl  (fun h hs => r_fldA (by decide) rfl) ?_
      refine d_readG 6 calm_ret rfl rfl rfl (by kernel_rfl) rfl  (fun h hs => r_load1 (v := .map (some q)) (hcb3.go hs) rfl rfl rfl) ?_
      refine d_readG 7 calm_ret rfl rfl rfl (by kernel_rfl) rfl  (fun h hs => r_lenMap (hmq3.step hs (by simp) (by simp)) rfl) ?_
      refine d_guard_pure 8 calm_ret rfl rfl rfl (by kernel_rfl) rfl rfl ?_; refine d_guard_pure 9 calm_ret rfl rfl rfl (by kernel_rfl) rfl rfl ?_
      refine d_readG 10 calm_ret rfl rfl rfl (by kernel_rfl) rfl  (fun h hs => r_fldA (by decide) rfl) ?_
      refine d_readG 11 calm_ret rfl rfl rfl (by kernel_rfl) rfl  (fun h hs => r_load1 (v := .int .i64 room) (hcb3.go hs) rfl rfl rfl) ?_
      refine d_guard_pure 12 calm_ret rfl rfl rfl (by kernel_rfl) rfl rfl ?_
      refine d_known 39 (.bool false) rfl (congrArg Value.bool (decide_eq_false hne)) ?_
      refine d_pure 13 calm_ret rfl (by kernel_rfl) rfl rfl ?_
      refine d_done (by kernel_rfl) ?_
      exact w_meet () ⟨g3, rfl, hsd3⟩ ⟨rfl, rfl, rfl, rfl, rfl, rfl, rfl, trivial⟩
  rintro _ _ ⟨h, rfl, hs0⟩
  replace hmq := hmq.step hs0 (by simp) (by simp)
  replace hst := hst.go hs0; replace hc1 := hc1.go hs0; replace hc2 := hc2.go hs0; replace hc3 := hc3.go hs0; replace hcb := hcb.go hs0
  repeat (first|refine q1 ?_|refine q2 ?_|refine q3 ?_|refine q4 ?_|refine q5 ?_|refine q6 ?_|refine w_seq ?_|refine w_region ?_|refine w_ops_nil ?_|refine w_skip ?_|refine w_block ?_|refine w_blk ?_|refine q7 ?_|refine q8 ?_|refine q9 ?_)
  refine d_begin none [52] (by kernel_rfl) fun g3 hsd3 => ?_
  replace hmq := hmq.step hsd3 (by simp) (by simp)
  replace hst := hst.go hsd3; replace hc1 := hc1.go hsd3; replace hc2 := hc2.go hsd3; replace hc3 := hc3.go hsd3; replace hcb := hcb.go hsd3
  refine d_pure 0 calm_ret rfl (by kernel_rfl) rfl rfl ?_; refine d_pure 1 calm_ret rfl (by kernel_rfl) rfl rfl ?_
  refine d_read 2 calm_ret rfl (by kernel_rfl) rfl  (fun h hs => r_fldA (by decide) rfl) ?_
  refine d_read 3 calm_ret rfl (by kernel_rfl) rfl  (fun h hs => r_load1 (v := .map (some q)) (hcb.go hs) rfl rfl rfl) ?_
  refine d_read 4 calm_ret rfl (by kernel_rfl) rfl  (fun h hs => r_load (us := El.ky.enc k) (hc1.go hs) rfl rfl rfl (fun e => by cases e)) ?_
  refine d_pure 5 calm_ret rfl (by kernel_rfl) rfl rfl ?_
  refine d_exec1 6 (by kernel_rfl) rfl ?_
  refine w_mapSet (key := k) (u := until_) hmq rfl rfl rfl fun h4 hb4 hs4 hm4 => ?_
  replace hst := hst.go hs4; replace hc2 := hc2.go hs4; replace hc3 := hc3.go hs4; replace hcb := hcb.go hs4
  repeat (first|refine q1 ?_|refine q2 ?_|refine q3 ?_|refine q4 ?_|refine q5 ?_|refine q6 ?_|refine w_seq ?_|refine w_region ?_|refine w_ops_nil ?_|refine w_skip ?_|refine w_block ?_|refine w_blk ?_|refine q7 ?_|refine q8 ?_|refine q9 ?_)
  refine d_next (fun _ => ⟨h4, rfl, hs4⟩) ?_
  refine d_done (by kernel_rfl) ?_
  repeat (first|refine q1 ?_|refine q2 ?_|refine q3 ?_|refine q4 ?_|refine q5 ?_|refine q6 ?_|refine w_seq ?_|refine w_region ?_|refine w_ops_nil ?_|refine w_skip ?_|refine w_block ?_|refine w_blk ?_|refine q7 ?_|refine q8 ?_|refine q9 ?_)
  refine w_loadS (us := El.ky.enc Ky.zero) hc3 rfl rfl rfl rfl rfl ?_
  repeat (first|refine q1 ?_|refine q2 ?_|refine q3 ?_|refine q4 ?_|refine q5 ?_|refine q6 ?_|refine w_seq ?_|refine w_region ?_|refine w_ops_nil ?_|refine w_skip ?_|refine w_block ?_|refine w_blk ?_|refine q7 ?_|refine q8 ?_|refine q9 ?_)
  refine w_store (us := El.ky.enc Ky.zero) (vs' := El.ky.enc Ky.zero) hc2 rfl rfl rfl rfl (El.ky.flat _) (show 0 + 24 ≤ 24 by decide) rfl fun h5 hb5 hs5 hc5 => ?_
  have hB : Bk h5 p room (mput k until_ m) := ⟨q, hcb.go hs5, hm4.step hs5 (by simp) (by simp)⟩
  repeat (first|refine q1 ?_|refine q2 ?_|refine q3 ?_|refine q4 ?_|refine q5 ?_|refine q6 ?_|refine w_seq ?_|refine w_region ?_|refine w_ops_nil ?_|refine w_skip ?_|refine w_block ?_|refine w_blk ?_|refine q7 ?_|refine q8 ?_|refine q9 ?_)
  refine w_retG (resCs1 hc5 rfl rfl rfl rfl rfl) (hst.go hs5) fun h' hv' => ⟨rfl, ?_⟩
  rw [if_neg hle]
  exact hB.view hv'

def holdB (m : BkM) (k : Ky) (now : Int) : Bool := match mget k m with | some t => decide (now < t) | none => false
theorem Book_Holds (p : Nat) (room : Int) (m : BkM) (k : Ky) (now : Int) (g : G) (hb : Bk g p room m) :
    Fn Try.prog 14 [.pointer (some ⟨p, 0, none⟩), El.ky.val k, .int .i64 now] g [] fun u _ => u = .bool (holdB m k now) := by
  obtain ⟨q, hcb, hmq⟩ := hb
  refine enterG [] [41] Try.func14 rfl Try.ntmps14 rfl (by simp) fun g1 hv ho => ?_
  obtain ⟨c, _, hcb⟩ := hcb.seen hv ho (by simp)
  obtain ⟨c2, hcl, hmq⟩ := hmq.seen hv ho (by simp)
  repeat (first|refine q1 ?_|refine q2 ?_|refine q3 ?_|refine q4 ?_|refine q5 ?_|refine q6 ?_|refine w_seq ?_|refine w_region ?_|refine w_ops_nil ?_|refine w_skip ?_|refine w_block ?_|refine w_blk ?_|refine q7 ?_|refine q8 ?_|refine q9 ?_)
  refine w_box 41 (vs := El.ky.enc k) rfl rfl rfl fun h1 b1 hs1 hc1 => ?_
  have hst : Step [] [41] g1 h1 := hs1.nil
  replace hcb := hcb.go hs1
  replace hmq := hmq.step hs1 (by simp) (by simp)
  repeat (first|refine q1 ?_|refine q2 ?_|refine q3 ?_|refine q4 ?_|refine q5 ?_|refine q6 ?_|refine w_seq ?_|refine w_region ?_|refine w_ops_nil ?_|refine w_skip ?_|refine w_blk ?_|refine q7 ?_|refine q8 ?_|refine q9 ?_)
  refine d_begin none [] (by kernel_rfl) fun g2 hsd => ?_
  replace hmq := hmq.step hsd (by simp) (by simp)
  replace hst := hst.go hsd; replace hc1 := hc1.go hsd; replace hcb := hcb.go hsd
  refine d_pure 0 calm_ret rfl (by kernel_rfl) rfl rfl ?_; refine d_pure 1 calm_ret rfl (by kernel_rfl) rfl rfl ?_
  refine d_read 2 calm_ret rfl (by kernel_rfl) rfl  (fun h hs => r_fldA (by decide) rfl) ?_
  refine d_read 3 calm_ret rfl (by kernel_rfl) rfl  (fun h hs => r_load1 (v := .map (some q)) (hcb.go hs) rfl rfl rfl) ?_
  refine d_read 4 calm_ret rfl (by kernel_rfl) rfl  (fun h hs => r_load (us := El.ky.enc k) (hc1.go hs) rfl rfl rfl (fun e => by cases e)) ?_
  refine d_exec1 5 (by kernel_rfl) rfl ?_
  refine w_lookupOk (key := k) hmq rfl rfl rfl ?_
  cases hg : mget k m with
  | none =>
    repeat (first|refine q1 ?_|refine q2 ?_|refine q3 ?_|refine q4 ?_|refine q5 ?_|refine q6 ?_|refine w_seq ?_|refine w_region ?_|refine w_ops_nil ?_|refine w_skip ?_|refine w_block ?_|refine w_blk ?_|refine q7 ?_|refine q8 ?_|refine q9 ?_)
    refine d_next (fun _ => ⟨g2, rfl, Step.refl _ _ _⟩) ?_
    refine d_pure 6 calm_ret rfl (by kernel_rfl) rfl rfl ?_; refine d_pure 7 calm_ret rfl (by kernel_rfl) rfl rfl ?_; refine d_pure 8 calm_ret rfl (by kernel_rfl) rfl rfl ?_; refine d_pure 9 calm_ret rfl (by kernel_rfl) rfl rfl ?_; refine d_pure 10 calm_ret rfl (by kernel_rfl) rfl rfl ?_
    refine d_done (by kernel_rfl) ?_
    repeat (first|refine q1 ?_|refine q2 ?_|refine q3 ?_|refine q4 ?_|refine q5 ?_|refine q6 ?_|refine w_seq ?_|refine w_region ?_|refine w_ops_nil ?_|refine w_skip ?_|refine w_block ?_|refine w_blk ?_|refine q7 ?_|refine q8 ?_|refine q9 ?_)
    exact w_retG (res1 rfl rfl) hst fun h' _ => by rw [holdB, hg]
  | some t =>
    repeat (first|refine q1 ?_|refine q2 ?_|refine q3 ?_|refine q4 ?_|refine q5 ?_|refine q6 ?_|refine w_seq ?_|refine w_region ?_|refine w_ops_nil ?_|refine w_skip ?_|refine w_block ?_|refine w_blk ?_|refine q7 ?_|refine q8 ?_|refine q9 ?_)
    refine d_next (fun _ => ⟨g2, rfl, Step.refl _ _ _⟩) ?_
    refine d_pure 6 calm_ret rfl (by kernel_rfl) rfl rfl ?_; refine d_pure 7 calm_ret rfl (by kernel_rfl) rfl rfl ?_; refine d_pure 8 calm_ret rfl (by kernel_rfl) rfl rfl ?_; refine d_pure 9 calm_ret rfl (by kernel_rfl) rfl rfl ?_; refine d_pure 10 calm_ret rfl (by kernel_rfl) rfl rfl ?_
    refine d_done (by kernel_rfl) ?_
    repeat (first|refine q1 ?_|refine q2 ?_|refine q3 ?_|refine q4 ?_|refine q5 ?_|refine q6 ?_|refine w_seq ?_|refine w_region ?_|refine w_ops_nil ?_|refine w_skip ?_|refine w_block ?_|refine w_blk ?_|refine q7 ?_|refine q8 ?_|refine q9 ?_)
    refine w_known 19 (.bool true) rfl rfl ?_
    repeat (first|refine q1 ?_|refine q2 ?_|refine q3 ?_|refine q4 ?_|refine q5 ?_|refine q6 ?_|refine w_seq ?_|refine w_region ?_|refine w_ops_nil ?_|refine w_skip ?_|refine w_block ?_|refine w_blk ?_|refine q7 ?_|refine q8 ?_|refine q9 ?_)
    exact w_retG (res1 rfl rfl) hst fun h' _ => by rw [holdB, hg]
end Go.Proofs.Ytkgbodmlmeholaa
