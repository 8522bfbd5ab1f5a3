/- Grants: the program's Drop and Len; plain laws of both books. No statement of the seat is proved here. -/
import Derived.Test.YtkgbodmlmeholaaGrA
set_option linter.unusedVariables false
set_option linter.unusedSimpArgs false
namespace Go.Proofs.Ytkgbodmlmeholaa
open Go
attribute [local irreducible] Wp

theorem Book_Drop1 (k : Ky) (v : Int) (o : Og) (b : Nat) (g : G) {c : Nat} (hc : Cell g c b 23 (El.og.enc o)) : Fn Try.prog 35 [El.ky.val k, .int .i64 v, .pointer (some ⟨b, 0, none⟩)] g [] fun u _ => u = .bool (decide (k.page = o)) := by
  refine enterG [] [41] Try.func35 rfl Try.ntmps35 rfl (by simp) fun g1 hv ho => ?_
  obtain ⟨c', _, hc⟩ := hc.seen hv ho (by simp)
  repeat (first|refine q1 ?_|refine q2 ?_|refine q3 ?_|refine q4 ?_|refine q5 ?_|refine q6 ?_|refine w_seq ?_|refine w_region ?_|refine w_ops_nil ?_|refine w_skip ?_|refine w_block ?_|refine w_blk ?_|refine q7 ?_|refine q8 ?_|refine q9 ?_)
  refine w_box 41 (vs := El.ky.enc k) rfl rfl rfl fun h1 b1 hs1 hc1 => ?_
  replace hc := hc.go hs1
  repeat (first|refine q1 ?_|refine q2 ?_|refine q3 ?_|refine q4 ?_|refine q5 ?_|refine q6 ?_|refine w_seq ?_|refine w_region ?_|refine w_ops_nil ?_|refine w_skip ?_|refine w_block ?_|refine w_blk ?_|refine q7 ?_|refine q8 ?_|refine q9 ?_)
  refine w_fldA (by decide) rfl rfl ?_
  refine w_loadS (us := El.og.enc k.page) hc1 rfl rfl rfl rfl rfl ?_
  refine w_loadS (us := El.og.enc o) hc rfl rfl rfl rfl rfl ?_
  refine w_eqS (E := El.og) (a := k.page) (b := o) rfl rfl rfl rfl ?_
  repeat (first|refine q1 ?_|refine q2 ?_|refine q3 ?_|refine q4 ?_|refine q5 ?_|refine q6 ?_|refine w_seq ?_|refine w_region ?_|refine w_ops_nil ?_|refine w_skip ?_|refine w_block ?_|refine w_blk ?_|refine q7 ?_|refine q8 ?_|refine q9 ?_)
  exact w_retG (res1 rfl rfl) hs1.nil fun h' _ => rfl
theorem Book_Drop (p : Nat) (room : Int) (m : BkM) (o : Og) (g : G) (hb : Bk g p room m) (hnd : (m.map (·.1)).Nodup) (hl : m.length ≤ 1000) :
    Fn Try.prog 20 [.pointer (some ⟨p, 0, none⟩), El.og.val o] g [51, 52] fun u h => u = .int .i64 ((m.length : Int) - (m.filter fun x => !(decide (x.1.page = o))).length) ∧ Bk h p room (m.filter fun x => !(decide (x.1.page = o))) := by
  refine enterG [51, 52] [41] Try.func20 rfl Try.ntmps20 rfl (by simp) fun g1 hv ho => ?_
  replace hb := hb.view hv
  obtain ⟨q, hcb, hmq⟩ := hb
  repeat (first|refine q1 ?_|refine q2 ?_|refine q3 ?_|refine q4 ?_|refine q5 ?_|refine q6 ?_|refine w_seq ?_|refine w_region ?_|refine w_ops_nil ?_|refine w_skip ?_|refine w_block ?_|refine w_blk ?_|refine q7 ?_|refine q8 ?_|refine q9 ?_)
  refine w_box 41 (vs := El.og.enc o) rfl rfl rfl fun h1 b1 hs1 hc1 => ?_
  have hst : Step [] [51, 52, 41] g1 h1 := hs1.nil
  replace hcb := hcb.go hs1
  replace hmq := hmq.step hs1 (by simp) (by simp)
  repeat (first|refine q1 ?_|refine q2 ?_|refine q3 ?_|refine q4 ?_|refine q5 ?_|refine q6 ?_|refine w_seq ?_|refine w_region ?_|refine w_ops_nil ?_|refine w_skip ?_|refine w_block ?_|refine w_blk ?_|refine q7 ?_|refine q8 ?_|refine q9 ?_)
  refine w_fldA (by decide) rfl rfl ?_
  refine w_load1 (v := .map (some q)) hcb rfl rfl rfl rfl ?_
  refine w_lenMap hmq rfl rfl ?_
  repeat (first|refine q1 ?_|refine q2 ?_|refine q3 ?_|refine q4 ?_|refine q5 ?_|refine q6 ?_|refine w_seq ?_|refine w_region ?_|refine w_ops_nil ?_|refine w_skip ?_|refine w_block ?_|refine w_blk ?_|refine q7 ?_|refine q8 ?_|refine q9 ?_)
  refine w_fldA (by decide) rfl rfl ?_
  refine w_load1 (v := .map (some q)) hcb rfl rfl rfl rfl ?_
  repeat (first|refine q1 ?_|refine q2 ?_|refine q3 ?_|refine q4 ?_|refine q5 ?_|refine q6 ?_|refine w_seq ?_|refine w_region ?_|refine w_ops_nil ?_|refine w_skip ?_|refine w_block ?_|refine w_blk ?_|refine q7 ?_|refine q8 ?_|refine q9 ?_)
  refine w_callF rfl (maps_DeleteFunc 35 #[.pointer (some ⟨b1, 0, none⟩)] (fun k _ => decide (k.page = o)) (fun h => ∃ c, c < 2 ∧ Cell h c b1 23 (El.og.enc o))
    (fun g h M ⟨c, hc2, hc⟩ hs hM => ⟨c, hc2, hc.step hs (fun hx => by have := hM c hx; omega) (by simp)⟩) m q h1 (fun h hv ho => by obtain ⟨c', hc', hc⟩ := hc1.seen hv ho (by simp); exact ⟨c', hc', hc⟩) hmq hnd
    (fun k v g ⟨c, _, hc⟩ => Book_Drop1 k v o b1 g hc)) rfl fun u h2 hs2 hm2 => ?_
  replace hst := hst.go hs2; replace hcb := hcb.go hs2
  repeat (first|refine q1 ?_|refine q2 ?_|refine q3 ?_|refine q4 ?_|refine q5 ?_|refine q6 ?_|refine w_seq ?_|refine w_region ?_|refine w_ops_nil ?_|refine w_skip ?_|refine w_block ?_|refine w_blk ?_|refine q7 ?_|refine q8 ?_|refine q9 ?_)
  refine w_fldA (by decide) rfl rfl ?_
  refine w_load1 (v := .map (some q)) hcb rfl rfl rfl rfl ?_
  refine w_lenMap hm2 rfl rfl ?_
  have hfl := List.length_filter_le (fun x : Ky × Int => !(decide (x.1.page = o))) m
  repeat (first|refine q1 ?_|refine q2 ?_|refine q3 ?_|refine q4 ?_|refine q5 ?_|refine q6 ?_|refine w_seq ?_|refine w_region ?_|refine w_ops_nil ?_|refine w_skip ?_|refine w_block ?_|refine w_blk ?_|refine q7 ?_|refine q8 ?_|refine q9 ?_)
  have hB : Bk h2 p room (m.filter fun x => !(decide (x.1.page = o))) := ⟨q, hcb, hm2⟩
  exact w_retG (res1 rfl rfl) hst fun h' hv' => ⟨rfl, hB.view hv'⟩
theorem Book_Len (p : Nat) (room : Int) (m : BkM) (g : G) (hb : Bk g p room m) : Fn Try.prog 18 [.pointer (some ⟨p, 0, none⟩)] g [] fun u _ => u = .int .i64 (m.length : Int) := by
  obtain ⟨q, hcb, hmq⟩ := hb
  refine enterG [] [] Try.func18 rfl Try.ntmps18 rfl (by simp) fun g1 hv ho => ?_
  obtain ⟨c, _, hcb⟩ := hcb.seen hv ho (by simp)
  obtain ⟨c2, _, hmq⟩ := hmq.seen hv ho (by simp)
  repeat (first|refine q1 ?_|refine q2 ?_|refine q3 ?_|refine q4 ?_|refine q5 ?_|refine q6 ?_|refine w_seq ?_|refine w_region ?_|refine w_ops_nil ?_|refine w_skip ?_|refine w_block ?_|refine w_blk ?_|refine q7 ?_|refine q8 ?_|refine q9 ?_)
  refine w_fldA (by decide) rfl rfl ?_
  refine w_load1 (v := .map (some q)) hcb rfl rfl rfl rfl ?_
  refine w_lenMap hmq rfl rfl ?_
  repeat (first|refine q1 ?_|refine q2 ?_|refine q3 ?_|refine q4 ?_|refine q5 ?_|refine q6 ?_|refine w_seq ?_|refine w_region ?_|refine w_ops_nil ?_|refine w_skip ?_|refine w_block ?_|refine w_blk ?_|refine q7 ?_|refine q8 ?_|refine q9 ?_)
  exact w_retG (res1 rfl rfl) (Step.refl _ _ _) fun h' _ => rfl

/-! ### plain -/
def Nd (m : BkM) : Prop := (m.map (·.1)).Nodup
theorem mput_perm (k : Ky) (t : Int) : ∀ (m : BkM), Nd m → (mput k t m).Perm ((k, t) :: m.filter fun x => decide (¬ k = x.1))
  | [], _ => List.Perm.refl _
  | x :: m, h => by
    have h' : Nd m := by unfold Nd at h ⊢; simp only [List.map_cons, List.nodup_cons] at h; exact h.2
    rw [mput, List.filter_cons]
    by_cases hk : k = x.1
    · have : m.filter (fun y => decide (¬ k = y.1)) = m := by
        rw [List.filter_eq_self]
        intro y hy
        refine decide_eq_true fun e => ?_
        unfold Nd at h
        simp only [List.map_cons, List.nodup_cons] at h
        exact h.1 (by rw [← hk, e]; exact List.mem_map_of_mem hy)
      rw [if_pos hk, if_neg (by simp [hk]), this]
    · rw [if_neg hk, if_pos (by simp [hk])]
      exact ((mput_perm k t m h').cons x).trans (List.Perm.swap _ _ _)
theorem without_perm (k : Ky) : ∀ (m : BkM), Nd m → without k m = m.filter fun x => decide (¬ k = x.1)
  | [], _ => rfl
  | x :: m, h => by
    have h' : Nd m := by unfold Nd at h ⊢; simp only [List.map_cons, List.nodup_cons] at h; exact h.2
    have ih := without_perm k m h'
    have hg := findK_ge k m
    rw [List.filter_cons]
    unfold without at ih ⊢
    rw [findK]
    by_cases hk : x.1 = k
    · have : m.filter (fun y => decide (¬ k = y.1)) = m := by
        rw [List.filter_eq_self]
        intro y hy
        refine decide_eq_true fun e => ?_
        unfold Nd at h
        simp only [List.map_cons, List.nodup_cons] at h
        exact h.1 (by rw [hk, e]; exact List.mem_map_of_mem hy)
      rw [if_pos hk, if_neg (by omega), if_neg (by simp [hk]), this]
      rfl
    · have hkd : decide (¬ k = x.1) = true := decide_eq_true (fun e => hk e.symm)
      rw [if_neg hk, hkd, if_pos (rfl : true = true)]
      by_cases hf : findK k m = -1
      · rw [if_pos hf, if_pos (by omega)]
        rw [if_pos (by omega)] at ih
        rw [← ih]
      · rw [if_neg hf, if_neg (by omega)]
        rw [if_neg (by omega)] at ih
        rw [← ih, show (findK k m + 1).toNat = (findK k m).toNat + 1 by omega]
        rfl
theorem putR_perm {k : Ky} {t : Int} {L L' : BkM} (h : PutR k t L L') (hn : Nd L) : L'.Perm ((k, t) :: L.filter fun x => decide (¬ k = x.1)) := by
  obtain ⟨n, _, rfl⟩ := h
  rw [← without_perm k L hn]
  refine List.perm_middle.trans ?_
  rw [List.take_append_drop]
theorem Nd.perm {m L : BkM} (h : m.Perm L) (hn : Nd m) : Nd L := by
  unfold Nd at hn ⊢
  exact (h.map (fun x => x.1)).nodup_iff.1 hn
theorem Nd.put {m : BkM} (hn : Nd m) (k : Ky) (t : Int) : Nd (mput k t m) := by
  refine Nd.perm (mput_perm k t m hn).symm ?_
  unfold Nd
  simp only [List.map_cons, List.nodup_cons, List.mem_map, List.mem_filter, decide_eq_true_eq]
  refine ⟨fun ⟨x, ⟨_, h2⟩, e⟩ => h2 e.symm, (List.filter_sublist.map _).nodup hn⟩
theorem Nd.get {m : BkM} (hn : Nd m) {x : Ky × Int} (hx : x ∈ m) : mget x.1 m = some x.2 := by
  induction m with
  | nil => simp at hx
  | cons a m ih =>
    unfold Nd at hn
    simp only [List.map_cons, List.nodup_cons] at hn
    rw [mget]
    rcases List.mem_cons.1 hx with h | h
    · rw [h, if_pos rfl]
    · rw [if_neg (fun e => hn.1 (by rw [← e]; exact List.mem_map_of_mem h))]
      exact ih hn.2 h
/-- The program's map and the reference's list have the same grants. -/
def Twin (m L : BkM) : Prop := m.Perm L ∧ Nd m
theorem Twin.put {m L L' : BkM} (h : Twin m L) (k : Ky) (t : Int) (hp : PutR k t L L') : Twin (mput k t m) L' :=
  ⟨((mput_perm k t m h.2).trans ((h.1.filter _).cons _)).trans (putR_perm hp (Nd.perm h.1 h.2)).symm, h.2.put k t⟩
end Go.Proofs.Ytkgbodmlmeholaa
