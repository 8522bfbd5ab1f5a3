/- Messages are read: the map of functions that a record's data are read by (printed by wip/tools/genRd4.py). No statement of the seat is proved here. -/
import Derived.Test.YtnfokdhgajanpaaRd3
set_option linter.unusedVariables false
set_option linter.unusedSimpArgs false
namespace Go.Proofs.Ytnfokdhgajanpaa
open Go
attribute [local irreducible] Wp
section
variable {P : Program} {Z : Exit → Act → World → Prop} {N : Nat} {k : List It} {s : Env} {w : World} {ops : Array Oper} {st : Option Nat} {S : World → Prop} {fuel : Nat} {listed : Array Bool}
/-- Three that may come up. -/
theorem d_exec3 (i j q : Nat) {o o2 o3 : Oper} (hr : Region.ready .any ops listed = [i, j, q]) (hi : ops[i]? = some o) (hj : ops[j]? = some o2) (hq : ops[q]? = some o3)
    (h : Wp P Z N (.ops ops [o] :: .goal (Dnext P Z k ops st S fuel (listed.setIfInBounds i true)) :: k) s w)
    (h2 : Wp P Z N (.ops ops [o2] :: .goal (Dnext P Z k ops st S fuel (listed.setIfInBounds j true)) :: k) s w)
    (h3 : Wp P Z N (.ops ops [o3] :: .goal (Dnext P Z k ops st S fuel (listed.setIfInBounds q true)) :: k) s w) :
    WpD P Z N k ops st S (fuel + 1) listed s w := fun hS a ha =>
  ⟨fun h0 => (by rw [hr] at h0; cases h0), fun x hx => by
    rw [hr] at hx
    simp at hx
    rcases hx with rfl | rfl | rfl
    · exact d_one x hi h ha
    · exact d_one x hj h2 ha
    · exact d_one x hq h3 ha⟩
end
section
variable {P : Program} {Z : Exit → Act → World → Prop} {N : Nat} {k : List It} {s : Env} {w : World} {g : G}
variable {all : Array Oper} {rest : List Oper} {ty : TypeId} {pos : String} {af : Array Edge} {d : Nat}
def isNilF : Value → Bool
  | .nilFunc => true
  | _ => false
theorem w_fnNil {x y : Operand} {T yt : TypeId} {a b : Array TypeId} {vr : Bool} [hT : Und P T (.func a b vr)] {v : Value} (hv : v = .nilFunc ∨ ∃ f a1 a2, v = .func f a1 a2) (hx : evalS s x = some v) (hy : evalS s y = some .nilFunc) (hdN : Nat.ble (d + 1) N = true)
    (hk : Wp P Z N (.ops all rest :: k) ((d, .bool (isNilF v)) :: s) w) : Wp P Z N (.ops all (⟨some d, .binOp .eql T x y yt, ty, pos, af, none⟩ :: rest) :: k) s w := by
  rcases hv with rfl | ⟨f, a1, a2, rfl⟩
  · exact w_nilEqNil hx hy hdN hk
  · exact w_fnEqNil hx hy hdN hk
/-- A value that may be called. -/
def CallsV (P : Program) (v : Value) (vs : List Value) (g : G) (M : List Nat) (R : Value → G → Prop) : Prop := ∃ f first captured, Enter P f ∧ v = .func (.func f) first captured ∧ Fn P f (first.toList ++ vs ++ captured.toList) g M R
theorem w_callAny {fx : Operand} {args : Array Operand} {ts : Array TypeId} {v : Value} {vs : List Value} {M : List Nat} {R : Value → G → Prop} (hnf : ∀ q, fx ≠ .func q) (hc : CallsV P v vs g M R) (hfx : evalS s fx = some v) (hx : evalL s args.toList = some vs) (hdN : Nat.ble (d + 1) N = true)
    (hk : ∀ v h, Step [] M g h → R v h → Wp P Z N (.ops all rest :: k) ((d, v) :: s) h.w) :
    Wp P Z N (.ops all (⟨some d, .call { callee := .value fx, args, argTypes := ts }, ty, pos, af, none⟩ :: rest) :: k) s g.w := by
  obtain ⟨f, first, captured, he, rfl, hf⟩ := hc
  exact w_callV hnf hfx hx hf hdN hk
end
theorem mget_mputG {κ ν : Type} [DecidableEq κ] (k k' : κ) (t : ν) : ∀ m : List (κ × ν), mget k (mput k' t m) = if k = k' then some t else mget k m
  | [] => by simp [mput, mget]
  | p :: m => by
    rw [mput]
    by_cases h : k' = p.1
    · rw [if_pos h, mget, mget]
      by_cases e : k = k'
      · simp [e]
      · simp [e, ← h]
    · rw [if_neg h, mget, mget, mget_mputG k k' t m]
      by_cases e : k = p.1
      · have : ¬ k = k' := fun e2 => h (by rw [← e2, e])
        rw [if_pos e, if_neg this, if_pos e]
      · rw [if_neg e, if_neg e]
abbrev FV : Type := {v : Value // v.oneCell' = true}
def f1 (b4 b1 b3 p5 p6 : Nat) : FV := ⟨.func (.func 93) #[] #[.pointer (some ⟨b4, 0, none⟩), .pointer (some ⟨p6, 0, none⟩), .pointer (some ⟨b1, 0, none⟩), .pointer (some ⟨p5, 0, none⟩), .pointer (some ⟨b3, 0, none⟩)], rfl⟩
def f3 (b1 b3 : Nat) : FV := ⟨.func (.func 94) #[] #[.pointer (some ⟨b1, 0, none⟩), .pointer (some ⟨b3, 0, none⟩)], rfl⟩
/-- What the map of functions answers. -/
def selV (ty : Int) (v1 v2 v3 : Value) : Value := if ty = 1 then v1 else if ty = 28 then v2 else if ty = 5 then v3 else .nilFunc
/-- Three entries, in whatever order. -/
theorem sel_eq (ty : Int) {a b c : Int} {u v w : FV} {x : Option FV} (hx : x = if ty = a then some u else if ty = b then some v else if ty = c then some w else none) (hd : (a, b, c) ∈ [(1, 28, 5), (1, 5, 28), (28, 1, 5), (28, 5, 1), (5, 1, 28), (5, 28, 1)]) :
    optV El.fv .nilFunc x = selV ty (if a = 1 then u else if b = 1 then v else w).1 (if a = 28 then u else if b = 28 then v else w).1 (if a = 5 then u else if b = 5 then v else w).1 := by
  subst hx
  unfold selV
  by_cases h1 : ty = 1
  · subst h1
    simp only [List.mem_cons, Prod.mk.injEq, List.not_mem_nil, or_false] at hd
    rcases hd with ⟨rfl, rfl, rfl⟩ | ⟨rfl, rfl, rfl⟩ | ⟨rfl, rfl, rfl⟩ | ⟨rfl, rfl, rfl⟩ | ⟨rfl, rfl, rfl⟩ | ⟨rfl, rfl, rfl⟩ <;> rfl
  · by_cases h2 : ty = 28
    · subst h2
      simp only [List.mem_cons, Prod.mk.injEq, List.not_mem_nil, or_false] at hd
      rcases hd with ⟨rfl, rfl, rfl⟩ | ⟨rfl, rfl, rfl⟩ | ⟨rfl, rfl, rfl⟩ | ⟨rfl, rfl, rfl⟩ | ⟨rfl, rfl, rfl⟩ | ⟨rfl, rfl, rfl⟩ <;> rfl
    · by_cases h3 : ty = 5
      · subst h3
        simp only [List.mem_cons, Prod.mk.injEq, List.not_mem_nil, or_false] at hd
        rcases hd with ⟨rfl, rfl, rfl⟩ | ⟨rfl, rfl, rfl⟩ | ⟨rfl, rfl, rfl⟩ | ⟨rfl, rfl, rfl⟩ | ⟨rfl, rfl, rfl⟩ | ⟨rfl, rfl, rfl⟩ <;> rfl
      · simp only [List.mem_cons, Prod.mk.injEq, List.not_mem_nil, or_false] at hd
        rcases hd with ⟨rfl, rfl, rfl⟩ | ⟨rfl, rfl, rfl⟩ | ⟨rfl, rfl, rfl⟩ | ⟨rfl, rfl, rfl⟩ | ⟨rfl, rfl, rfl⟩ | ⟨rfl, rfl, rfl⟩ <;> (simp only [h1, h2, h3, if_false]; rfl)

def dataStep (B : List UInt8) (n : Nat) (r : Rc) (s : Rs) : Rc × Rs :=
  if r.typ = 1 then addrP B 4 4 n r s else if r.typ = 28 then addrP B 6 16 n r s else if r.typ = 5 then ({ r with target := (nameP B s).1 }, (nameP B s).2) else ({ r with data := (rawP B n s).1 }, (rawP B n s).2)
def ttlP (t : Nat) : Int := if t > 2147483647 then 0 else t
/-- A record's head: name, type, class, time; and how long its data are. -/
def headP (B : List UInt8) (s : Rs) : Rc × Nat × Rs :=
  (⟨(nameP B s).1, ((numP B 2 (nameP B s).2).1 : Int), ((numP B 2 (numP B 2 (nameP B s).2).2).1 : Int), ttlP (numP B 4 (numP B 2 (numP B 2 (nameP B s).2).2).2).1, Ad.zero, [], []⟩,
    (numP B 2 (numP B 4 (numP B 2 (numP B 2 (nameP B s).2).2).2).2).1, (numP B 2 (numP B 4 (numP B 2 (numP B 2 (nameP B s).2).2).2).2).2)
def rdRec (B : List UInt8) (s : Rs) : Rc × Rs :=
  if B.length < (headP B s).2.2.at_ + (headP B s).2.1 then ((headP B s).1, failP (headP B s).2.2 2)
  else if (dataStep B (headP B s).2.1 (headP B s).1 (headP B s).2.2).2.at_ ≠ (headP B s).2.2.at_ + (headP B s).2.1 then ((dataStep B (headP B s).2.1 (headP B s).1 (headP B s).2.2).1, failP (dataStep B (headP B s).2.1 (headP B s).1 (headP B s).2.2).2 2)
  else dataStep B (headP B s).2.1 (headP B s).1 (headP B s).2.2

set_option maxHeartbeats 1000000 in
set_option maxRecDepth 4000 in
theorem rd_record (p : Nat) (vB : Value) (B : List UInt8) (s : Rs) (g : G) (hr : Rr g p vB s) (hB : Rd g 0 El.u8 vB B) (hl : B.length ≤ 2000) (hs : s.at_ ≤ B.length) :
    Fn Try.prog 72 [.pointer (some ⟨p, 0, none⟩)] g [61] fun u h => u = El.rc.val (rdRec B s).1 ∧ Rr h p vB (rdRec B s).2 := by
  refine enterG [61] [63, 64, 65, 66, 68] Try.func72 rfl Try.ntmps72 rfl (by simp) fun g1 hv ho => ?_
  replace hr := hr.view hv
  replace hB := hB.view hv (.inl rfl)
  repeat (first|refine q1 ?_|refine q2 ?_|refine q3 ?_|refine q4 ?_|refine q5 ?_|refine q6 ?_|refine w_seq ?_|refine w_region ?_|refine w_ops_nil ?_|refine w_skip ?_|refine w_block ?_|refine w_blk ?_|refine q7 ?_|refine q8 ?_|refine q9 ?_)
  refine w_box 64 (vs := [.pointer (some ⟨p, 0, none⟩)]) rfl rfl rfl fun h1 b1 hs1 hc1 => ?_
  have hst : Step [] [61, 63, 64, 65, 66, 68] g1 h1 := hs1.nil
  replace hr := hr.go hs1; replace hB := hB.go hs1
  repeat (first|refine q1 ?_|refine q2 ?_|refine q3 ?_|refine q4 ?_|refine q5 ?_|refine q6 ?_|refine w_seq ?_|refine w_region ?_|refine w_ops_nil ?_|refine w_skip ?_|refine w_block ?_|refine w_blk ?_|refine q7 ?_|refine q8 ?_|refine q9 ?_)
  refine w_alloc 65 (vs := El.rc.enc Rc.zero) rfl rfl fun h2 b2 hs2 hc2 => ?_
  replace hst := hst.go hs2; replace hr := hr.go hs2; replace hB := hB.go hs2; replace hc1 := hc1.go hs2
  repeat (first|refine q1 ?_|refine q2 ?_|refine q3 ?_|refine q4 ?_|refine q5 ?_|refine q6 ?_|refine w_seq ?_|refine w_region ?_|refine w_ops_nil ?_|refine w_skip ?_|refine w_block ?_|refine w_blk ?_|refine q7 ?_|refine q8 ?_|refine q9 ?_)
  refine w_load1 (v := .pointer (some ⟨p, 0, none⟩)) hc1 rfl rfl rfl rfl ?_
  refine w_callF (vs := [.pointer (some ⟨p, 0, none⟩)]) rfl (rd_name p vB B s h2 hr hB (by omega) (by omega)) rfl fun u h3 hs3 hR => ?_
  obtain ⟨rfl, hr⟩ := hR
  replace hst := hst.trans (hs3.mono (by simp) (by simp))
  replace hB := hB.go hs3; replace hc1 := hc1.go hs3; replace hc2 := hc2.go hs3
  have ha1 := nameP_at hs
  unfold rdRec
  obtain ⟨hd, hhd⟩ : ∃ hd, headP B s = hd := ⟨_, rfl⟩
  unfold headP at hhd
  rw [show headP B s = hd from hhd]
  generalize (nameP B s).1 = nm at hhd ⊢
  generalize (nameP B s).2 = s1 at hhd hr ha1
  repeat (first|refine q1 ?_|refine q2 ?_|refine q3 ?_|refine q4 ?_|refine q5 ?_|refine q6 ?_|refine w_seq ?_|refine w_region ?_|refine w_ops_nil ?_|refine w_skip ?_|refine w_block ?_|refine w_blk ?_|refine q7 ?_|refine q8 ?_|refine q9 ?_)
  refine w_build (vs := [(0, str nm)]) (r := El.rc.enc ⟨nm, 0, 0, 0, Ad.zero, [], []⟩) rfl rfl rfl ?_
  refine w_alloc 63 (vs := El.rc.enc Rc.zero) rfl rfl fun h4 b3 hs4 hc3 => ?_
  replace hst := hst.go hs4; replace hr := hr.go hs4; replace hB := hB.go hs4; replace hc1 := hc1.go hs4; replace hc2 := hc2.go hs4
  refine w_store (us := El.rc.enc ⟨nm, 0, 0, 0, Ad.zero, [], []⟩) (vs' := El.rc.enc ⟨nm, 0, 0, 0, Ad.zero, [], []⟩) hc3 rfl rfl rfl rfl (El.rc.flat _) (show 0 + 23 ≤ 23 by decide) rfl fun h5 hb5 hs5 hc3 => ?_
  replace hst := hst.go hs5; replace hr := hr.go hs5; replace hB := hB.go hs5; replace hc1 := hc1.go hs5; replace hc2 := hc2.go hs5
  clear hs1 hs2 hs3 hs4 hs5 hb5
  have hm2 : ∀ s0 : Rs, s0.at_ ≤ B.length → (numP B 2 s0).2.at_ ≤ B.length := fun s0 h => rawP_at h
  have hm4 : ∀ s0 : Rs, s0.at_ ≤ B.length → (numP B 4 s0).2.at_ ≤ B.length := fun s0 h => rawP_at h
  have hn2 : ∀ s0 : Rs, (numP B 2 s0).1 ≤ 65535 := fun s0 => by
    have := beN_le (rawP B 2 s0).1
    rw [rawP_len] at this
    unfold numP; dsimp only; omega
  repeat (first|refine q1 ?_|refine q2 ?_|refine q3 ?_|refine q4 ?_|refine q5 ?_|refine q6 ?_|refine w_seq ?_|refine w_region ?_|refine w_ops_nil ?_|refine w_skip ?_|refine w_block ?_|refine w_blk ?_|refine q7 ?_|refine q8 ?_|refine q9 ?_)
  refine d_begin none [61, 63] (by kernel_rfl) fun g2 hsd => ?_
  replace hst := hst.go hsd; replace hr := hr.go hsd; replace hB := hB.go hsd; replace hc1 := hc1.go hsd; replace hc2 := hc2.go hsd; replace hc3 := hc3.go hsd
  refine d_read 0 calm_ret rfl (by kernel_rfl) rfl  (fun h hs => r_load1 (v := .pointer (some ⟨p, 0, none⟩)) (hc1.go hs) rfl rfl rfl) ?_
  refine d_read 2 calm_ret rfl (by kernel_rfl) rfl  (fun h hs => r_load1 (v := .pointer (some ⟨p, 0, none⟩)) (hc1.go hs) rfl rfl rfl) ?_
  refine d_read 4 calm_ret rfl (by kernel_rfl) rfl  (fun h hs => r_load1 (v := .pointer (some ⟨p, 0, none⟩)) (hc1.go hs) rfl rfl rfl) ?_
  refine d_exec1 1 (by kernel_rfl) rfl ?_
  refine w_callF (vs := [.pointer (some ⟨p, 0, none⟩), .int .i64 2]) rfl (rd_number p vB B 2 s1 g2 hr hB (by omega) (by omega) (by omega)) rfl fun u k1 hk1 hR => ?_
  obtain ⟨rfl, hr⟩ := hR
  have ha2 := hm2 s1 ha1
  have hss : Step [] [61, 63] g2 k1 := hk1.mono (by simp) (by simp)
  replace hB := hB.go hk1; replace hc1 := hc1.go hk1; replace hc2 := hc2.go hk1; replace hc3 := hc3.go hk1
  repeat (first|refine q1 ?_|refine q2 ?_|refine q3 ?_|refine q4 ?_|refine q5 ?_|refine q6 ?_|refine w_seq ?_|refine w_region ?_|refine w_ops_nil ?_|refine w_skip ?_|refine w_block ?_|refine w_blk ?_|refine q7 ?_|refine q8 ?_|refine q9 ?_)
  refine d_next (fun _ => ⟨k1, rfl, hss⟩) ?_
  refine d_exec1 3 (by kernel_rfl) rfl ?_
  refine w_callF (vs := [.pointer (some ⟨p, 0, none⟩), .int .i64 2]) rfl (rd_number p vB B 2 (numP B 2 s1).2 k1 hr hB (by omega) (by omega) (by omega)) rfl fun u k2 hk2 hR => ?_
  obtain ⟨rfl, hr⟩ := hR
  have ha3 := hm2 _ ha2
  replace hss := hss.trans (hk2.mono (by simp) (by simp))
  replace hB := hB.go hk2; replace hc1 := hc1.go hk2; replace hc2 := hc2.go hk2; replace hc3 := hc3.go hk2
  repeat (first|refine q1 ?_|refine q2 ?_|refine q3 ?_|refine q4 ?_|refine q5 ?_|refine q6 ?_|refine w_seq ?_|refine w_region ?_|refine w_ops_nil ?_|refine w_skip ?_|refine w_block ?_|refine w_blk ?_|refine q7 ?_|refine q8 ?_|refine q9 ?_)
  refine d_next (fun _ => ⟨k2, rfl, hss⟩) ?_
  refine d_exec1 5 (by kernel_rfl) rfl ?_
  refine w_callF (vs := [.pointer (some ⟨p, 0, none⟩), .int .i64 4]) rfl (rd_number p vB B 4 (numP B 2 (numP B 2 s1).2).2 k2 hr hB (by omega) (by omega) (by omega)) rfl fun u k3 hk3 hR => ?_
  obtain ⟨rfl, hr⟩ := hR
  have ha4 := hm4 _ ha3
  replace hss := hss.trans (hk3.mono (by simp) (by simp))
  replace hB := hB.go hk3; replace hc1 := hc1.go hk3; replace hc2 := hc2.go hk3; replace hc3 := hc3.go hk3
  generalize (numP B 2 s1).1 = ty at hhd ⊢
  generalize (numP B 2 (numP B 2 s1).2).1 = cl at hhd ⊢
  generalize (numP B 4 (numP B 2 (numP B 2 s1).2).2).1 = tt at hhd ⊢
  generalize (numP B 4 (numP B 2 (numP B 2 s1).2).2).2 = s4 at hhd hr ha4 ⊢
  clear ha1 ha2 ha3 hk1 hk2 hk3
  repeat (first|refine q1 ?_|refine q2 ?_|refine q3 ?_|refine q4 ?_|refine q5 ?_|refine q6 ?_|refine w_seq ?_|refine w_region ?_|refine w_ops_nil ?_|refine w_skip ?_|refine w_block ?_|refine w_blk ?_|refine q7 ?_|refine q8 ?_|refine q9 ?_)
  refine d_next (fun _ => ⟨k3, rfl, hss⟩) ?_
  refine d_read 6 calm_ret rfl (by kernel_rfl) rfl  (fun h hs => r_fldA (by decide) rfl) ?_
  refine d_exec1 7 (by kernel_rfl) rfl ?_
  refine w_store1 hc3 rfl rfl rfl (show 1 < 23 by decide) fun k4 hkb4 hk4 hc3 => ?_
  replace hss := hss.trans (hk4.mono (by simp) (by simp))
  replace hr := hr.go hk4; replace hB := hB.go hk4; replace hc1 := hc1.go hk4; replace hc2 := hc2.go hk4
  repeat (first|refine q1 ?_|refine q2 ?_|refine q3 ?_|refine q4 ?_|refine q5 ?_|refine q6 ?_|refine w_seq ?_|refine w_region ?_|refine w_ops_nil ?_|refine w_skip ?_|refine w_block ?_|refine w_blk ?_|refine q7 ?_|refine q8 ?_|refine q9 ?_)
  refine d_next (fun _ => ⟨k4, rfl, hss⟩) ?_
  refine d_read 8 calm_ret rfl (by kernel_rfl) rfl  (fun h hs => r_fldA (by decide) rfl) ?_
  refine d_exec1 9 (by kernel_rfl) rfl ?_
  refine w_store1 hc3 rfl rfl rfl (show 2 < 23 by decide) fun k5 hkb5 hk5 hc3 => ?_
  replace hss := hss.trans (hk5.mono (by simp) (by simp))
  replace hr := hr.go hk5; replace hB := hB.go hk5; replace hc1 := hc1.go hk5; replace hc2 := hc2.go hk5
  repeat (first|refine q1 ?_|refine q2 ?_|refine q3 ?_|refine q4 ?_|refine q5 ?_|refine q6 ?_|refine w_seq ?_|refine w_region ?_|refine w_ops_nil ?_|refine w_skip ?_|refine w_block ?_|refine w_blk ?_|refine q7 ?_|refine q8 ?_|refine q9 ?_)
  refine d_next (fun _ => ⟨k5, rfl, hss⟩) ?_
  refine d_read 10 calm_ret rfl (by kernel_rfl) rfl  (fun h hs => r_fldA (by decide) rfl) ?_
  refine d_exec1 11 (by kernel_rfl) rfl ?_
  refine w_store1 hc3 rfl rfl rfl (show 3 < 23 by decide) fun k6 hkb6 hk6 hc3 => ?_
  replace hss := hss.trans (hk6.mono (by simp) (by simp))
  replace hst := hst.trans (hss.mono (by simp) (by simp))
  have hc3 : Cell k6 63 b3 52 (El.rc.enc ⟨nm, (ty : Int), (cl : Int), (tt : Int), Ad.zero, [], []⟩) := hc3
  replace hr := hr.go hk6; replace hB := hB.go hk6; replace hc1 := hc1.go hk6; replace hc2 := hc2.go hk6
  repeat (first|refine q1 ?_|refine q2 ?_|refine q3 ?_|refine q4 ?_|refine q5 ?_|refine q6 ?_|refine w_seq ?_|refine w_region ?_|refine w_ops_nil ?_|refine w_skip ?_|refine w_block ?_|refine w_blk ?_|refine q7 ?_|refine q8 ?_|refine q9 ?_)
  refine d_next (fun _ => ⟨k6, rfl, hss⟩) ?_
  refine d_done (by kernel_rfl) ?_
  clear hss hk4 hk5 hk6 hkb4 hkb5 hkb6 hsd
  repeat (first|refine q1 ?_|refine q2 ?_|refine q3 ?_|refine q4 ?_|refine q5 ?_|refine q6 ?_|refine w_seq ?_|refine w_region ?_|refine w_ops_nil ?_|refine w_skip ?_|refine w_block ?_|refine w_blk ?_|refine q7 ?_|refine q8 ?_|refine q9 ?_)
  refine w_fldA (by decide) rfl rfl ?_
  refine w_load1 (v := .int .i64 (tt : Int)) hc3 rfl rfl rfl rfl ?_
  repeat (first|refine q1 ?_|refine q2 ?_|refine q3 ?_|refine q4 ?_|refine q5 ?_|refine q6 ?_|refine w_seq ?_|refine w_region ?_|refine w_ops_nil ?_|refine w_skip ?_|refine w_blk ?_|refine q7 ?_|refine q8 ?_|refine q9 ?_)
  refine w_cut (ι := Unit) (fun _ => [(1, .pointer (some ⟨b1, 0, none⟩)), (2, .pointer (some ⟨b2, 0, none⟩)), (3, .pointer (some ⟨b3, 0, none⟩))])
    (fun _ w => ∃ h : G, h.w = w ∧ Step [] [63] k6 h ∧ Cell h 63 b3 52 (El.rc.enc ⟨nm, (ty : Int), (cl : Int), ttlP tt, Ad.zero, [], []⟩)) ?_ ?_
  · refine w_condP rfl (fun hx => ?_) (fun hx => ?_)
    · have e : ttlP tt = 0 := by unfold ttlP; rw [if_pos (by omega)]
      repeat (first|refine q1 ?_|refine q2 ?_|refine q3 ?_|refine q4 ?_|refine q5 ?_|refine q6 ?_|refine w_seq ?_|refine w_region ?_|refine w_ops_nil ?_|refine w_skip ?_|refine w_block ?_|refine w_blk ?_|refine q7 ?_|refine q8 ?_|refine q9 ?_)
      refine w_fldA (by decide) rfl rfl ?_
      refine w_store1 hc3 rfl rfl rfl (show 3 < 23 by decide) fun k7 hkb7 hk7 hc3 => ?_
      repeat (first|refine q1 ?_|refine q2 ?_|refine q3 ?_|refine q4 ?_|refine q5 ?_|refine q6 ?_|refine w_seq ?_|refine w_region ?_|refine w_ops_nil ?_|refine w_skip ?_|refine w_block ?_|refine w_blk ?_|refine q7 ?_|refine q8 ?_|refine q9 ?_)
      exact w_meet () ⟨k7, rfl, hk7, by rw [e]; exact hc3⟩ ⟨rfl, rfl, rfl, trivial⟩
    · have e : ttlP tt = (tt : Int) := by unfold ttlP; rw [if_neg (by omega)]
      repeat (first|refine q1 ?_|refine q2 ?_|refine q3 ?_|refine q4 ?_|refine q5 ?_|refine q6 ?_|refine w_seq ?_|refine w_region ?_|refine w_ops_nil ?_|refine w_skip ?_|refine w_block ?_|refine w_blk ?_|refine q7 ?_|refine q8 ?_|refine q9 ?_)
      exact w_meet () ⟨k6, rfl, Step.refl _ _ _, by rw [e]; exact hc3⟩ ⟨rfl, rfl, rfl, trivial⟩
  clear hc3
  rintro _ _ ⟨k7, rfl, hk7, hc3⟩
  replace hst := hst.trans (hk7.mono (by simp) (by simp))
  replace hr := hr.go hk7; replace hB := hB.go hk7; replace hc1 := hc1.go hk7; replace hc2 := hc2.go hk7
  repeat (first|refine q1 ?_|refine q2 ?_|refine q3 ?_|refine q4 ?_|refine q5 ?_|refine q6 ?_|refine w_seq ?_|refine w_region ?_|refine w_ops_nil ?_|refine w_skip ?_|refine w_block ?_|refine w_blk ?_|refine q7 ?_|refine q8 ?_|refine q9 ?_)
  refine w_load1 (v := .pointer (some ⟨p, 0, none⟩)) hc1 rfl rfl rfl rfl ?_
  refine w_callF (vs := [.pointer (some ⟨p, 0, none⟩), .int .i64 2]) rfl (rd_number p vB B 2 s4 k7 hr hB (by omega) (by omega) (by omega)) rfl fun u k8 hk8 hR => ?_
  obtain ⟨rfl, hr⟩ := hR
  have ha5 := hm2 _ ha4
  have hn5 := hn2 s4
  replace hst := hst.trans (hk8.mono (by simp) (by simp))
  replace hB := hB.go hk8; replace hc1 := hc1.go hk8; replace hc2 := hc2.go hk8; replace hc3 := hc3.go hk8
  generalize (numP B 2 s4).1 = n at hhd hn5 ⊢
  generalize (numP B 2 s4).2 = s5 at hhd hr ha5
  subst hhd
  dsimp only
  generalize hr0 : (⟨nm, (ty : Int), (cl : Int), ttlP tt, Ad.zero, [], []⟩ : Rc) = r0 at hc3 ⊢
  have hty : r0.typ = (ty : Int) := by rw [← hr0]
  repeat (first|refine q1 ?_|refine q2 ?_|refine q3 ?_|refine q4 ?_|refine q5 ?_|refine q6 ?_|refine w_seq ?_|refine w_region ?_|refine w_ops_nil ?_|refine w_skip ?_|refine w_block ?_|refine w_blk ?_|refine q7 ?_|refine q8 ?_|refine q9 ?_)
  refine w_alloc 66 (vs := [.int .i64 0]) rfl rfl fun k9 b4 hk9 hc4 => ?_
  replace hst := hst.go hk9; replace hr := hr.go hk9; replace hB := hB.go hk9; replace hc1 := hc1.go hk9; replace hc2 := hc2.go hk9; replace hc3 := hc3.go hk9
  refine w_store1 hc4 rfl rfl rfl (show 0 < 1 by decide) fun k10 hkb10 hk10 hc4 => ?_
  have hc4 : Cell k10 66 b4 3 [.int .i64 (n : Int)] := hc4
  replace hst := hst.go hk10; replace hr := hr.go hk10; replace hB := hB.go hk10; replace hc1 := hc1.go hk10; replace hc2 := hc2.go hk10; replace hc3 := hc3.go hk10
  clear hk7 hk8 hk9 hk10 hkb10 hm2 hm4 hn2 ha4 hs
  have hr : Cell k10 61 p 109 [vB, .int .i64 (s5.at_ : Int), .int .i64 s5.e] := hr
  repeat (first|refine q1 ?_|refine q2 ?_|refine q3 ?_|refine q4 ?_|refine q5 ?_|refine q6 ?_|refine w_seq ?_|refine w_region ?_|refine w_ops_nil ?_|refine w_skip ?_|refine w_block ?_|refine w_blk ?_|refine q7 ?_|refine q8 ?_|refine q9 ?_)
  refine d_begin none [] (by kernel_rfl) fun g3 hsd3 => ?_
  replace hst := hst.go hsd3; replace hr := hr.go hsd3; replace hB := hB.go hsd3; replace hc1 := hc1.go hsd3; replace hc2 := hc2.go hsd3; replace hc3 := hc3.go hsd3; replace hc4 := hc4.go hsd3
  refine d_read 0 calm_ret rfl (by kernel_rfl) rfl  (fun h hs => r_load1 (v := .pointer (some ⟨p, 0, none⟩)) (hc1.go hs) rfl rfl rfl) ?_
  refine d_pure 1 calm_ret rfl (by kernel_rfl) rfl rfl ?_
  refine d_read 2 calm_ret rfl (by kernel_rfl) rfl  (fun h hs => r_fldA (by decide) rfl) ?_
  refine d_read 3 calm_ret rfl (by kernel_rfl) rfl  (fun h hs => r_load1 (v := .int .i64 (s5.at_ : Int)) (hr.go hs) rfl rfl rfl) ?_
  refine d_read 4 calm_ret rfl (by kernel_rfl) rfl  (fun h hs => r_load1 (v := .int .i64 (n : Int)) (hc4.go hs) rfl rfl rfl) ?_
  refine d_read 5 calm_ret rfl (by kernel_rfl) rfl  (fun h hs => r_add rfl rfl (by omega)) ?_
  refine d_pure 6 calm_ret rfl (by kernel_rfl) rfl rfl ?_
  refine d_done (by kernel_rfl) ?_
  repeat (first|refine q1 ?_|refine q2 ?_|refine q3 ?_|refine q4 ?_|refine q5 ?_|refine q6 ?_|refine w_seq ?_|refine w_region ?_|refine w_ops_nil ?_|refine w_skip ?_|refine w_block ?_|refine w_blk ?_|refine q7 ?_|refine q8 ?_|refine q9 ?_)
  refine d_begin none [] (by kernel_rfl) fun g4 hsd4 => ?_
  replace hst := hst.go hsd4; replace hr := hr.go hsd4; replace hB := hB.go hsd4; replace hc1 := hc1.go hsd4; replace hc2 := hc2.go hsd4; replace hc3 := hc3.go hsd4; replace hc4 := hc4.go hsd4
  refine d_read 0 calm_ret rfl (by kernel_rfl) rfl  (fun h hs => r_load1 (v := .int .i64 (n : Int)) (hc4.go hs) rfl rfl rfl) ?_
  refine d_read 1 calm_ret rfl (by kernel_rfl) rfl  (fun h hs => r_load1 (v := .pointer (some ⟨p, 0, none⟩)) (hc1.go hs) rfl rfl rfl) ?_
  refine d_pure 2 calm_ret rfl (by kernel_rfl) rfl rfl ?_
  refine d_read 3 calm_ret rfl (by kernel_rfl) rfl  (fun h hs => r_fldA (by decide) rfl) ?_
  refine d_read 4 calm_ret rfl (by kernel_rfl) rfl  (fun h hs => r_load1 (v := vB) (hr.go hs) rfl rfl rfl) ?_
  refine d_read 5 calm_ret rfl (by kernel_rfl) rfl  (fun h hs => r_lenSl hB.isSl rfl) ?_
  refine d_read 6 calm_ret rfl (by kernel_rfl) rfl  (fun h hs => r_load1 (v := .pointer (some ⟨p, 0, none⟩)) (hc1.go hs) rfl rfl rfl) ?_
  refine d_pure 7 calm_ret rfl (by kernel_rfl) rfl rfl ?_
  refine d_read 8 calm_ret rfl (by kernel_rfl) rfl  (fun h hs => r_fldA (by decide) rfl) ?_
  refine d_read 9 calm_ret rfl (by kernel_rfl) rfl  (fun h hs => r_load1 (v := .int .i64 (s5.at_ : Int)) (hr.go hs) rfl rfl rfl) ?_
  refine d_read 10 calm_ret rfl (by kernel_rfl) rfl  (fun h hs => r_sub rfl rfl (by omega)) ?_
  refine d_pure 11 calm_ret rfl (by kernel_rfl) rfl rfl ?_
  refine d_done (by kernel_rfl) ?_
  have hr : Rr g4 p vB s5 := hr
  repeat (first|refine q1 ?_|refine q2 ?_|refine q3 ?_|refine q4 ?_|refine q5 ?_|refine q6 ?_|refine w_seq ?_|refine w_region ?_|refine w_ops_nil ?_|refine w_skip ?_|refine w_block ?_|refine w_blk ?_|refine q7 ?_|refine q8 ?_|refine q9 ?_)
  refine w_condP rfl (fun hx => ?_) (fun hx => ?_)
  · repeat (first|refine q1 ?_|refine q2 ?_|refine q3 ?_|refine q4 ?_|refine q5 ?_|refine q6 ?_|refine w_seq ?_|refine w_region ?_|refine w_ops_nil ?_|refine w_skip ?_|refine w_block ?_|refine w_blk ?_|refine q7 ?_|refine q8 ?_|refine q9 ?_)
    refine w_load1 (v := .pointer (some ⟨p, 0, none⟩)) hc1 rfl rfl rfl rfl ?_
    refine w_callF (vs := [.pointer (some ⟨p, 0, none⟩), .int .i64 2]) rfl (rd_fail p vB s5 2 g4 hr) rfl fun u k1 hk1 hr2 => ?_
    replace hst := hst.trans (hk1.mono (by simp) (by simp))
    replace hc2 := hc2.go hk1; replace hc3 := hc3.go hk1
    repeat (first|refine q1 ?_|refine q2 ?_|refine q3 ?_|refine q4 ?_|refine q5 ?_|refine q6 ?_|refine w_seq ?_|refine w_region ?_|refine w_ops_nil ?_|refine w_skip ?_|refine w_block ?_|refine w_blk ?_|refine q7 ?_|refine q8 ?_|refine q9 ?_)
    refine w_loadS (us := El.rc.enc r0) hc3 rfl rfl rfl rfl rfl ?_
    refine w_store (us := El.rc.enc r0) (vs' := El.rc.enc r0) hc2 rfl rfl rfl rfl (El.rc.flat _) (show 0 + 23 ≤ 23 by decide) rfl fun k2 hkb2 hk2 hc2 => ?_
    replace hst := hst.go hk2; replace hr2 := hr2.go hk2
    repeat (first|refine q1 ?_|refine q2 ?_|refine q3 ?_|refine q4 ?_|refine q5 ?_|refine q6 ?_|refine w_seq ?_|refine w_region ?_|refine w_ops_nil ?_|refine w_skip ?_|refine w_block ?_|refine w_blk ?_|refine q7 ?_|refine q8 ?_|refine q9 ?_)
    refine w_retG (resCs hc2 rfl rfl rfl rfl) hst fun h' hv' => ?_
    rw [if_pos (by omega)]
    exact ⟨rfl, hr2.view hv'⟩
  rw [if_neg (by omega)]
  repeat (first|refine q1 ?_|refine q2 ?_|refine q3 ?_|refine q4 ?_|refine q5 ?_|refine q6 ?_|refine w_seq ?_|refine w_region ?_|refine w_ops_nil ?_|refine w_skip ?_|refine w_block ?_|refine w_blk ?_|refine q7 ?_|refine q8 ?_|refine q9 ?_)
  refine w_cut (ι := Nat × Nat × Nat × Nat) (fun x => [(1, .pointer (some ⟨b1, 0, none⟩)), (2, .pointer (some ⟨b2, 0, none⟩)), (3, .pointer (some ⟨b3, 0, none⟩)), (4, .pointer (some ⟨b4, 0, none⟩)), (5, .int .i64 ((s5.at_ : Int) + (n : Int))), (7, selV (ty : Int) (f1 b4 b1 b3 x.1 x.2.1).1 (f1 b4 b1 b3 x.2.2.1 x.2.2.2).1 (f3 b1 b3).1)])
    (fun x w => ∃ h : G, h.w = w ∧ Step [] [68] g4 h ∧ Cell h 0 x.1 3 [.int .i64 4] ∧ Cell h 0 x.2.1 3 [.int .i64 4] ∧ Cell h 0 x.2.2.1 3 [.int .i64 6] ∧ Cell h 0 x.2.2.2 3 [.int .i64 16]) ?_ ?_
  · clear hr hB hc1 hc2 hst
    refine d_begin none [68] (by kernel_rfl) fun g2 hsd => ?_
    replace hc3 := hc3.go hsd
    have hsd0 : Step [] [68] g4 g2 := hsd.nil
    have hss : Step [] [68] g2 g2 := Step.refl _ _ _
    clear hsd
    refine d_pure 1 calm_ret rfl (by kernel_rfl) rfl rfl ?_; refine d_pure 4 calm_ret rfl (by kernel_rfl) rfl rfl ?_; refine d_pure 7 calm_ret rfl (by kernel_rfl) rfl rfl ?_
    refine d_read 10 calm_ret rfl (by kernel_rfl) rfl  (fun h hs => r_fldA (by decide) rfl) ?_
    refine d_read 11 calm_ret rfl (by kernel_rfl) rfl  (fun h hs => r_load1 (v := .int .i64 r0.typ) (hc3.go hs) rfl rfl rfl) ?_
    rw [hty]
    clear hc3
    generalize (ty : Int) = ty
    refine d_exec2 0 2 (by kernel_rfl) rfl rfl ?_ ?_
    · skip
      refine w_makeMap 68 rfl fun w1 mb sw1 hma => ?_
      have hmi : MapIs w1 68 mb El.int El.fv [] := hma.empty
      clear hma
      replace hss := hss.trans (sw1.mono (by simp) (by simp))
      clear sw1
      refine w_ops_nil (d_next (fun _ => ⟨w1, rfl, hss⟩) ?_)
      refine d_exec2 2 8 (by kernel_rfl) rfl rfl ?_ ?_
      · skip
        refine w_callV (f := 92) (first := #[]) (captured := #[.pointer (some ⟨b4, 0, none⟩), .pointer (some ⟨b1, 0, none⟩), .pointer (some ⟨b3, 0, none⟩)]) (vs := [.int .i64 4, .int .i64 4]) (by intro q; exact Operand.noConfusion) rfl rfl (rd_r1 4 4 b4 b1 b3 w1) rfl fun u w2 sw2 hR => ?_
        obtain ⟨p5, p6, rfl, cp5, cp6⟩ := hR
        replace hmi := hmi.step sw2 (by simp) (by simp)
        replace hss := hss.trans (sw2.mono (by simp) (by simp))
        clear sw2
        refine w_ops_nil (d_next (fun _ => ⟨w2, rfl, hss⟩) ?_)
        refine d_exec3 3 5 8 (by kernel_rfl) rfl rfl rfl ?_ ?_ ?_
        · skip
          refine w_insert (K := El.int) (V := El.fv) (key := 1) (u := (f1 b4 b1 b3 p5 p6)) hmi rfl rfl rfl fun w3 hbw3 sw3 hmi => ?_
          replace cp5 := cp5.step sw3 (by simp) (by simp)
          replace cp6 := cp6.step sw3 (by simp) (by simp)
          replace hss := hss.trans (sw3.mono (by simp) (by simp))
          clear sw3
          refine w_ops_nil (d_next (fun _ => ⟨w3, rfl, hss⟩) ?_)
          refine d_exec2 5 8 (by kernel_rfl) rfl rfl ?_ ?_
          · skip
            refine w_callV (f := 92) (first := #[]) (captured := #[.pointer (some ⟨b4, 0, none⟩), .pointer (some ⟨b1, 0, none⟩), .pointer (some ⟨b3, 0, none⟩)]) (vs := [.int .i64 6, .int .i64 16]) (by intro q; exact Operand.noConfusion) rfl rfl (rd_r1 6 16 b4 b1 b3 w3) rfl fun u w4 sw4 hR => ?_
            obtain ⟨q5, q6, rfl, cq5, cq6⟩ := hR
            replace hmi := hmi.step sw4 (by simp) (by simp)
            replace cp5 := cp5.step sw4 (by simp) (by simp)
            replace cp6 := cp6.step sw4 (by simp) (by simp)
            replace hss := hss.trans (sw4.mono (by simp) (by simp))
            clear sw4
            refine w_ops_nil (d_next (fun _ => ⟨w4, rfl, hss⟩) ?_)
            refine d_exec2 6 8 (by kernel_rfl) rfl rfl ?_ ?_
            · skip
              refine w_insert (K := El.int) (V := El.fv) (key := 28) (u := (f1 b4 b1 b3 q5 q6)) hmi rfl rfl rfl fun w5 hbw5 sw5 hmi => ?_
              replace cp5 := cp5.step sw5 (by simp) (by simp)
              replace cp6 := cp6.step sw5 (by simp) (by simp)
              replace cq5 := cq5.step sw5 (by simp) (by simp)
              replace cq6 := cq6.step sw5 (by simp) (by simp)
              replace hss := hss.trans (sw5.mono (by simp) (by simp))
              clear sw5
              refine w_ops_nil (d_next (fun _ => ⟨w5, rfl, hss⟩) ?_)
              refine d_exec1 8 (by kernel_rfl) rfl ?_
              refine w_insert (K := El.int) (V := El.fv) (key := 5) (u := (f3 b1 b3)) hmi rfl rfl rfl fun w6 hbw6 sw6 hmi => ?_
              replace cp5 := cp5.step sw6 (by simp) (by simp)
              replace cp6 := cp6.step sw6 (by simp) (by simp)
              replace cq5 := cq5.step sw6 (by simp) (by simp)
              replace cq6 := cq6.step sw6 (by simp) (by simp)
              replace hss := hss.trans (sw6.mono (by simp) (by simp))
              clear sw6
              refine w_ops_nil (d_next (fun _ => ⟨w6, rfl, hss⟩) ?_)
              refine d_pure 9 calm_ret rfl (by kernel_rfl) rfl rfl ?_
              refine d_exec1 12 (by kernel_rfl) rfl ?_
              refine w_lookup (V := El.fv) (key := ty) hmi rfl rfl rfl ?_
              rw [sel_eq ty (by rw [mget_mputG, mget_mputG, mget_mputG]; rfl) (by decide)]
              refine w_ops_nil (d_next (fun _ => ⟨w6, rfl, hss⟩) ?_)
              refine d_pure 13 calm_ret rfl (by kernel_rfl) rfl rfl ?_
              refine d_done (by kernel_rfl) ?_
              exact w_meet (p5, p6, q5, q6) ⟨w6, rfl, hsd0.trans hss, cp5, cp6, cq5, cq6⟩ ⟨rfl, rfl, rfl, rfl, rfl, rfl, trivial⟩
            · skip
              refine w_insert (K := El.int) (V := El.fv) (key := 5) (u := (f3 b1 b3)) hmi rfl rfl rfl fun w7 hbw7 sw7 hmi => ?_
              replace cp5 := cp5.step sw7 (by simp) (by simp)
              replace cp6 := cp6.step sw7 (by simp) (by simp)
              replace cq5 := cq5.step sw7 (by simp) (by simp)
              replace cq6 := cq6.step sw7 (by simp) (by simp)
              replace hss := hss.trans (sw7.mono (by simp) (by simp))
              clear sw7
              refine w_ops_nil (d_next (fun _ => ⟨w7, rfl, hss⟩) ?_)
              refine d_exec1 6 (by kernel_rfl) rfl ?_
              refine w_insert (K := El.int) (V := El.fv) (key := 28) (u := (f1 b4 b1 b3 q5 q6)) hmi rfl rfl rfl fun w8 hbw8 sw8 hmi => ?_
              replace cp5 := cp5.step sw8 (by simp) (by simp)
              replace cp6 := cp6.step sw8 (by simp) (by simp)
              replace cq5 := cq5.step sw8 (by simp) (by simp)
              replace cq6 := cq6.step sw8 (by simp) (by simp)
              replace hss := hss.trans (sw8.mono (by simp) (by simp))
              clear sw8
              refine w_ops_nil (d_next (fun _ => ⟨w8, rfl, hss⟩) ?_)
              refine d_pure 9 calm_ret rfl (by kernel_rfl) rfl rfl ?_
              refine d_exec1 12 (by kernel_rfl) rfl ?_
              refine w_lookup (V := El.fv) (key := ty) hmi rfl rfl rfl ?_
              rw [sel_eq ty (by rw [mget_mputG, mget_mputG, mget_mputG]; rfl) (by decide)]
              refine w_ops_nil (d_next (fun _ => ⟨w8, rfl, hss⟩) ?_)
              refine d_pure 13 calm_ret rfl (by kernel_rfl) rfl rfl ?_
              refine d_done (by kernel_rfl) ?_
              exact w_meet (p5, p6, q5, q6) ⟨w8, rfl, hsd0.trans hss, cp5, cp6, cq5, cq6⟩ ⟨rfl, rfl, rfl, rfl, rfl, rfl, trivial⟩
          · skip
            refine w_insert (K := El.int) (V := El.fv) (key := 5) (u := (f3 b1 b3)) hmi rfl rfl rfl fun w9 hbw9 sw9 hmi => ?_
            replace cp5 := cp5.step sw9 (by simp) (by simp)
            replace cp6 := cp6.step sw9 (by simp) (by simp)
            replace hss := hss.trans (sw9.mono (by simp) (by simp))
            clear sw9
            refine w_ops_nil (d_next (fun _ => ⟨w9, rfl, hss⟩) ?_)
            refine d_exec1 5 (by kernel_rfl) rfl ?_
            refine w_callV (f := 92) (first := #[]) (captured := #[.pointer (some ⟨b4, 0, none⟩), .pointer (some ⟨b1, 0, none⟩), .pointer (some ⟨b3, 0, none⟩)]) (vs := [.int .i64 6, .int .i64 16]) (by intro q; exact Operand.noConfusion) rfl rfl (rd_r1 6 16 b4 b1 b3 w9) rfl fun u w10 sw10 hR => ?_
            obtain ⟨q5, q6, rfl, cq5, cq6⟩ := hR
            replace hmi := hmi.step sw10 (by simp) (by simp)
            replace cp5 := cp5.step sw10 (by simp) (by simp)
            replace cp6 := cp6.step sw10 (by simp) (by simp)
            replace hss := hss.trans (sw10.mono (by simp) (by simp))
            clear sw10
            refine w_ops_nil (d_next (fun _ => ⟨w10, rfl, hss⟩) ?_)
            refine d_exec1 6 (by kernel_rfl) rfl ?_
            refine w_insert (K := El.int) (V := El.fv) (key := 28) (u := (f1 b4 b1 b3 q5 q6)) hmi rfl rfl rfl fun w11 hbw11 sw11 hmi => ?_
            replace cp5 := cp5.step sw11 (by simp) (by simp)
            replace cp6 := cp6.step sw11 (by simp) (by simp)
            replace cq5 := cq5.step sw11 (by simp) (by simp)
            replace cq6 := cq6.step sw11 (by simp) (by simp)
            replace hss := hss.trans (sw11.mono (by simp) (by simp))
            clear sw11
            refine w_ops_nil (d_next (fun _ => ⟨w11, rfl, hss⟩) ?_)
            refine d_pure 9 calm_ret rfl (by kernel_rfl) rfl rfl ?_
            refine d_exec1 12 (by kernel_rfl) rfl ?_
            refine w_lookup (V := El.fv) (key := ty) hmi rfl rfl rfl ?_
            rw [sel_eq ty (by rw [mget_mputG, mget_mputG, mget_mputG]; rfl) (by decide)]
            refine w_ops_nil (d_next (fun _ => ⟨w11, rfl, hss⟩) ?_)
            refine d_pure 13 calm_ret rfl (by kernel_rfl) rfl rfl ?_
            refine d_done (by kernel_rfl) ?_
            exact w_meet (p5, p6, q5, q6) ⟨w11, rfl, hsd0.trans hss, cp5, cp6, cq5, cq6⟩ ⟨rfl, rfl, rfl, rfl, rfl, rfl, trivial⟩
        · skip
          refine w_callV (f := 92) (first := #[]) (captured := #[.pointer (some ⟨b4, 0, none⟩), .pointer (some ⟨b1, 0, none⟩), .pointer (some ⟨b3, 0, none⟩)]) (vs := [.int .i64 6, .int .i64 16]) (by intro q; exact Operand.noConfusion) rfl rfl (rd_r1 6 16 b4 b1 b3 w2) rfl fun u w12 sw12 hR => ?_
          obtain ⟨q5, q6, rfl, cq5, cq6⟩ := hR
          replace hmi := hmi.step sw12 (by simp) (by simp)
          replace cp5 := cp5.step sw12 (by simp) (by simp)
          replace cp6 := cp6.step sw12 (by simp) (by simp)
          replace hss := hss.trans (sw12.mono (by simp) (by simp))
          clear sw12
          refine w_ops_nil (d_next (fun _ => ⟨w12, rfl, hss⟩) ?_)
          refine d_exec3 3 6 8 (by kernel_rfl) rfl rfl rfl ?_ ?_ ?_
          · skip
            refine w_insert (K := El.int) (V := El.fv) (key := 1) (u := (f1 b4 b1 b3 p5 p6)) hmi rfl rfl rfl fun w13 hbw13 sw13 hmi => ?_
            replace cp5 := cp5.step sw13 (by simp) (by simp)
            replace cp6 := cp6.step sw13 (by simp) (by simp)
            replace cq5 := cq5.step sw13 (by simp) (by simp)
            replace cq6 := cq6.step sw13 (by simp) (by simp)
            replace hss := hss.trans (sw13.mono (by simp) (by simp))
            clear sw13
            refine w_ops_nil (d_next (fun _ => ⟨w13, rfl, hss⟩) ?_)
            refine d_exec2 6 8 (by kernel_rfl) rfl rfl ?_ ?_
            · skip
              refine w_insert (K := El.int) (V := El.fv) (key := 28) (u := (f1 b4 b1 b3 q5 q6)) hmi rfl rfl rfl fun w14 hbw14 sw14 hmi => ?_
              replace cp5 := cp5.step sw14 (by simp) (by simp)
              replace cp6 := cp6.step sw14 (by simp) (by simp)
              replace cq5 := cq5.step sw14 (by simp) (by simp)
              replace cq6 := cq6.step sw14 (by simp) (by simp)
              replace hss := hss.trans (sw14.mono (by simp) (by simp))
              clear sw14
              refine w_ops_nil (d_next (fun _ => ⟨w14, rfl, hss⟩) ?_)
              refine d_exec1 8 (by kernel_rfl) rfl ?_
              refine w_insert (K := El.int) (V := El.fv) (key := 5) (u := (f3 b1 b3)) hmi rfl rfl rfl fun w15 hbw15 sw15 hmi => ?_
              replace cp5 := cp5.step sw15 (by simp) (by simp)
              replace cp6 := cp6.step sw15 (by simp) (by simp)
              replace cq5 := cq5.step sw15 (by simp) (by simp)
              replace cq6 := cq6.step sw15 (by simp) (by simp)
              replace hss := hss.trans (sw15.mono (by simp) (by simp))
              clear sw15
              refine w_ops_nil (d_next (fun _ => ⟨w15, rfl, hss⟩) ?_)
              refine d_pure 9 calm_ret rfl (by kernel_rfl) rfl rfl ?_
              refine d_exec1 12 (by kernel_rfl) rfl ?_
              refine w_lookup (V := El.fv) (key := ty) hmi rfl rfl rfl ?_
              rw [sel_eq ty (by rw [mget_mputG, mget_mputG, mget_mputG]; rfl) (by decide)]
              refine w_ops_nil (d_next (fun _ => ⟨w15, rfl, hss⟩) ?_)
              refine d_pure 13 calm_ret rfl (by kernel_rfl) rfl rfl ?_
              refine d_done (by kernel_rfl) ?_
              exact w_meet (p5, p6, q5, q6) ⟨w15, rfl, hsd0.trans hss, cp5, cp6, cq5, cq6⟩ ⟨rfl, rfl, rfl, rfl, rfl, rfl, trivial⟩
            · skip
              refine w_insert (K := El.int) (V := El.fv) (key := 5) (u := (f3 b1 b3)) hmi rfl rfl rfl fun w16 hbw16 sw16 hmi => ?_
              replace cp5 := cp5.step sw16 (by simp) (by simp)
              replace cp6 := cp6.step sw16 (by simp) (by simp)
              replace cq5 := cq5.step sw16 (by simp) (by simp)
              replace cq6 := cq6.step sw16 (by simp) (by simp)
              replace hss := hss.trans (sw16.mono (by simp) (by simp))
              clear sw16
              refine w_ops_nil (d_next (fun _ => ⟨w16, rfl, hss⟩) ?_)
              refine d_exec1 6 (by kernel_rfl) rfl ?_
              refine w_insert (K := El.int) (V := El.fv) (key := 28) (u := (f1 b4 b1 b3 q5 q6)) hmi rfl rfl rfl fun w17 hbw17 sw17 hmi => ?_
              replace cp5 := cp5.step sw17 (by simp) (by simp)
              replace cp6 := cp6.step sw17 (by simp) (by simp)
              replace cq5 := cq5.step sw17 (by simp) (by simp)
              replace cq6 := cq6.step sw17 (by simp) (by simp)
              replace hss := hss.trans (sw17.mono (by simp) (by simp))
              clear sw17
              refine w_ops_nil (d_next (fun _ => ⟨w17, rfl, hss⟩) ?_)
              refine d_pure 9 calm_ret rfl (by kernel_rfl) rfl rfl ?_
              refine d_exec1 12 (by kernel_rfl) rfl ?_
              refine w_lookup (V := El.fv) (key := ty) hmi rfl rfl rfl ?_
              rw [sel_eq ty (by rw [mget_mputG, mget_mputG, mget_mputG]; rfl) (by decide)]
              refine w_ops_nil (d_next (fun _ => ⟨w17, rfl, hss⟩) ?_)
              refine d_pure 13 calm_ret rfl (by kernel_rfl) rfl rfl ?_
              refine d_done (by kernel_rfl) ?_
              exact w_meet (p5, p6, q5, q6) ⟨w17, rfl, hsd0.trans hss, cp5, cp6, cq5, cq6⟩ ⟨rfl, rfl, rfl, rfl, rfl, rfl, trivial⟩
          · skip
            refine w_insert (K := El.int) (V := El.fv) (key := 28) (u := (f1 b4 b1 b3 q5 q6)) hmi rfl rfl rfl fun w18 hbw18 sw18 hmi => ?_
            replace cp5 := cp5.step sw18 (by simp) (by simp)
            replace cp6 := cp6.step sw18 (by simp) (by simp)
            replace cq5 := cq5.step sw18 (by simp) (by simp)
            replace cq6 := cq6.step sw18 (by simp) (by simp)
            replace hss := hss.trans (sw18.mono (by simp) (by simp))
            clear sw18
            refine w_ops_nil (d_next (fun _ => ⟨w18, rfl, hss⟩) ?_)
            refine d_exec2 3 8 (by kernel_rfl) rfl rfl ?_ ?_
            · skip
              refine w_insert (K := El.int) (V := El.fv) (key := 1) (u := (f1 b4 b1 b3 p5 p6)) hmi rfl rfl rfl fun w19 hbw19 sw19 hmi => ?_
              replace cp5 := cp5.step sw19 (by simp) (by simp)
              replace cp6 := cp6.step sw19 (by simp) (by simp)
              replace cq5 := cq5.step sw19 (by simp) (by simp)
              replace cq6 := cq6.step sw19 (by simp) (by simp)
              replace hss := hss.trans (sw19.mono (by simp) (by simp))
              clear sw19
              refine w_ops_nil (d_next (fun _ => ⟨w19, rfl, hss⟩) ?_)
              refine d_exec1 8 (by kernel_rfl) rfl ?_
              refine w_insert (K := El.int) (V := El.fv) (key := 5) (u := (f3 b1 b3)) hmi rfl rfl rfl fun w20 hbw20 sw20 hmi => ?_
              replace cp5 := cp5.step sw20 (by simp) (by simp)
              replace cp6 := cp6.step sw20 (by simp) (by simp)
              replace cq5 := cq5.step sw20 (by simp) (by simp)
              replace cq6 := cq6.step sw20 (by simp) (by simp)
              replace hss := hss.trans (sw20.mono (by simp) (by simp))
              clear sw20
              refine w_ops_nil (d_next (fun _ => ⟨w20, rfl, hss⟩) ?_)
              refine d_pure 9 calm_ret rfl (by kernel_rfl) rfl rfl ?_
              refine d_exec1 12 (by kernel_rfl) rfl ?_
              refine w_lookup (V := El.fv) (key := ty) hmi rfl rfl rfl ?_
              rw [sel_eq ty (by rw [mget_mputG, mget_mputG, mget_mputG]; rfl) (by decide)]
              refine w_ops_nil (d_next (fun _ => ⟨w20, rfl, hss⟩) ?_)
              refine d_pure 13 calm_ret rfl (by kernel_rfl) rfl rfl ?_
              refine d_done (by kernel_rfl) ?_
              exact w_meet (p5, p6, q5, q6) ⟨w20, rfl, hsd0.trans hss, cp5, cp6, cq5, cq6⟩ ⟨rfl, rfl, rfl, rfl, rfl, rfl, trivial⟩
            · skip
              refine w_insert (K := El.int) (V := El.fv) (key := 5) (u := (f3 b1 b3)) hmi rfl rfl rfl fun w21 hbw21 sw21 hmi => ?_
              replace cp5 := cp5.step sw21 (by simp) (by simp)
              replace cp6 := cp6.step sw21 (by simp) (by simp)
              replace cq5 := cq5.step sw21 (by simp) (by simp)
              replace cq6 := cq6.step sw21 (by simp) (by simp)
              replace hss := hss.trans (sw21.mono (by simp) (by simp))
              clear sw21
              refine w_ops_nil (d_next (fun _ => ⟨w21, rfl, hss⟩) ?_)
              refine d_exec1 3 (by kernel_rfl) rfl ?_
              refine w_insert (K := El.int) (V := El.fv) (key := 1) (u := (f1 b4 b1 b3 p5 p6)) hmi rfl rfl rfl fun w22 hbw22 sw22 hmi => ?_
              replace cp5 := cp5.step sw22 (by simp) (by simp)
              replace cp6 := cp6.step sw22 (by simp) (by simp)
              replace cq5 := cq5.step sw22 (by simp) (by simp)
              replace cq6 := cq6.step sw22 (by simp) (by simp)
              replace hss := hss.trans (sw22.mono (by simp) (by simp))
              clear sw22
              refine w_ops_nil (d_next (fun _ => ⟨w22, rfl, hss⟩) ?_)
              refine d_pure 9 calm_ret rfl (by kernel_rfl) rfl rfl ?_
              refine d_exec1 12 (by kernel_rfl) rfl ?_
              refine w_lookup (V := El.fv) (key := ty) hmi rfl rfl rfl ?_
              rw [sel_eq ty (by rw [mget_mputG, mget_mputG, mget_mputG]; rfl) (by decide)]
              refine w_ops_nil (d_next (fun _ => ⟨w22, rfl, hss⟩) ?_)
              refine d_pure 13 calm_ret rfl (by kernel_rfl) rfl rfl ?_
              refine d_done (by kernel_rfl) ?_
              exact w_meet (p5, p6, q5, q6) ⟨w22, rfl, hsd0.trans hss, cp5, cp6, cq5, cq6⟩ ⟨rfl, rfl, rfl, rfl, rfl, rfl, trivial⟩
          · skip
            refine w_insert (K := El.int) (V := El.fv) (key := 5) (u := (f3 b1 b3)) hmi rfl rfl rfl fun w23 hbw23 sw23 hmi => ?_
            replace cp5 := cp5.step sw23 (by simp) (by simp)
            replace cp6 := cp6.step sw23 (by simp) (by simp)
            replace cq5 := cq5.step sw23 (by simp) (by simp)
            replace cq6 := cq6.step sw23 (by simp) (by simp)
            replace hss := hss.trans (sw23.mono (by simp) (by simp))
            clear sw23
            refine w_ops_nil (d_next (fun _ => ⟨w23, rfl, hss⟩) ?_)
            refine d_exec2 3 6 (by kernel_rfl) rfl rfl ?_ ?_
            · skip
              refine w_insert (K := El.int) (V := El.fv) (key := 1) (u := (f1 b4 b1 b3 p5 p6)) hmi rfl rfl rfl fun w24 hbw24 sw24 hmi => ?_
              replace cp5 := cp5.step sw24 (by simp) (by simp)
              replace cp6 := cp6.step sw24 (by simp) (by simp)
              replace cq5 := cq5.step sw24 (by simp) (by simp)
              replace cq6 := cq6.step sw24 (by simp) (by simp)
              replace hss := hss.trans (sw24.mono (by simp) (by simp))
              clear sw24
              refine w_ops_nil (d_next (fun _ => ⟨w24, rfl, hss⟩) ?_)
              refine d_exec1 6 (by kernel_rfl) rfl ?_
              refine w_insert (K := El.int) (V := El.fv) (key := 28) (u := (f1 b4 b1 b3 q5 q6)) hmi rfl rfl rfl fun w25 hbw25 sw25 hmi => ?_
              replace cp5 := cp5.step sw25 (by simp) (by simp)
              replace cp6 := cp6.step sw25 (by simp) (by simp)
              replace cq5 := cq5.step sw25 (by simp) (by simp)
              replace cq6 := cq6.step sw25 (by simp) (by simp)
              replace hss := hss.trans (sw25.mono (by simp) (by simp))
              clear sw25
              refine w_ops_nil (d_next (fun _ => ⟨w25, rfl, hss⟩) ?_)
              refine d_pure 9 calm_ret rfl (by kernel_rfl) rfl rfl ?_
              refine d_exec1 12 (by kernel_rfl) rfl ?_
              refine w_lookup (V := El.fv) (key := ty) hmi rfl rfl rfl ?_
              rw [sel_eq ty (by rw [mget_mputG, mget_mputG, mget_mputG]; rfl) (by decide)]
              refine w_ops_nil (d_next (fun _ => ⟨w25, rfl, hss⟩) ?_)
              refine d_pure 13 calm_ret rfl (by kernel_rfl) rfl rfl ?_
              refine d_done (by kernel_rfl) ?_
              exact w_meet (p5, p6, q5, q6) ⟨w25, rfl, hsd0.trans hss, cp5, cp6, cq5, cq6⟩ ⟨rfl, rfl, rfl, rfl, rfl, rfl, trivial⟩
            · skip
              refine w_insert (K := El.int) (V := El.fv) (key := 28) (u := (f1 b4 b1 b3 q5 q6)) hmi rfl rfl rfl fun w26 hbw26 sw26 hmi => ?_
              replace cp5 := cp5.step sw26 (by simp) (by simp)
              replace cp6 := cp6.step sw26 (by simp) (by simp)
              replace cq5 := cq5.step sw26 (by simp) (by simp)
              replace cq6 := cq6.step sw26 (by simp) (by simp)
              replace hss := hss.trans (sw26.mono (by simp) (by simp))
              clear sw26
              refine w_ops_nil (d_next (fun _ => ⟨w26, rfl, hss⟩) ?_)
              refine d_exec1 3 (by kernel_rfl) rfl ?_
              refine w_insert (K := El.int) (V := El.fv) (key := 1) (u := (f1 b4 b1 b3 p5 p6)) hmi rfl rfl rfl fun w27 hbw27 sw27 hmi => ?_
              replace cp5 := cp5.step sw27 (by simp) (by simp)
              replace cp6 := cp6.step sw27 (by simp) (by simp)
              replace cq5 := cq5.step sw27 (by simp) (by simp)
              replace cq6 := cq6.step sw27 (by simp) (by simp)
              replace hss := hss.trans (sw27.mono (by simp) (by simp))
              clear sw27
              refine w_ops_nil (d_next (fun _ => ⟨w27, rfl, hss⟩) ?_)
              refine d_pure 9 calm_ret rfl (by kernel_rfl) rfl rfl ?_
              refine d_exec1 12 (by kernel_rfl) rfl ?_
              refine w_lookup (V := El.fv) (key := ty) hmi rfl rfl rfl ?_
              rw [sel_eq ty (by rw [mget_mputG, mget_mputG, mget_mputG]; rfl) (by decide)]
              refine w_ops_nil (d_next (fun _ => ⟨w27, rfl, hss⟩) ?_)
              refine d_pure 13 calm_ret rfl (by kernel_rfl) rfl rfl ?_
              refine d_done (by kernel_rfl) ?_
              exact w_meet (p5, p6, q5, q6) ⟨w27, rfl, hsd0.trans hss, cp5, cp6, cq5, cq6⟩ ⟨rfl, rfl, rfl, rfl, rfl, rfl, trivial⟩
        · skip
          refine w_insert (K := El.int) (V := El.fv) (key := 5) (u := (f3 b1 b3)) hmi rfl rfl rfl fun w28 hbw28 sw28 hmi => ?_
          replace cp5 := cp5.step sw28 (by simp) (by simp)
          replace cp6 := cp6.step sw28 (by simp) (by simp)
          replace hss := hss.trans (sw28.mono (by simp) (by simp))
          clear sw28
          refine w_ops_nil (d_next (fun _ => ⟨w28, rfl, hss⟩) ?_)
          refine d_exec2 3 5 (by kernel_rfl) rfl rfl ?_ ?_
          · skip
            refine w_insert (K := El.int) (V := El.fv) (key := 1) (u := (f1 b4 b1 b3 p5 p6)) hmi rfl rfl rfl fun w29 hbw29 sw29 hmi => ?_
            replace cp5 := cp5.step sw29 (by simp) (by simp)
            replace cp6 := cp6.step sw29 (by simp) (by simp)
            replace hss := hss.trans (sw29.mono (by simp) (by simp))
            clear sw29
            refine w_ops_nil (d_next (fun _ => ⟨w29, rfl, hss⟩) ?_)
            refine d_exec1 5 (by kernel_rfl) rfl ?_
            refine w_callV (f := 92) (first := #[]) (captured := #[.pointer (some ⟨b4, 0, none⟩), .pointer (some ⟨b1, 0, none⟩), .pointer (some ⟨b3, 0, none⟩)]) (vs := [.int .i64 6, .int .i64 16]) (by intro q; exact Operand.noConfusion) rfl rfl (rd_r1 6 16 b4 b1 b3 w29) rfl fun u w30 sw30 hR => ?_
            obtain ⟨q5, q6, rfl, cq5, cq6⟩ := hR
            replace hmi := hmi.step sw30 (by simp) (by simp)
            replace cp5 := cp5.step sw30 (by simp) (by simp)
            replace cp6 := cp6.step sw30 (by simp) (by simp)
            replace hss := hss.trans (sw30.mono (by simp) (by simp))
            clear sw30
            refine w_ops_nil (d_next (fun _ => ⟨w30, rfl, hss⟩) ?_)
            refine d_exec1 6 (by kernel_rfl) rfl ?_
            refine w_insert (K := El.int) (V := El.fv) (key := 28) (u := (f1 b4 b1 b3 q5 q6)) hmi rfl rfl rfl fun w31 hbw31 sw31 hmi => ?_
            replace cp5 := cp5.step sw31 (by simp) (by simp)
            replace cp6 := cp6.step sw31 (by simp) (by simp)
            replace cq5 := cq5.step sw31 (by simp) (by simp)
            replace cq6 := cq6.step sw31 (by simp) (by simp)
            replace hss := hss.trans (sw31.mono (by simp) (by simp))
            clear sw31
            refine w_ops_nil (d_next (fun _ => ⟨w31, rfl, hss⟩) ?_)
            refine d_pure 9 calm_ret rfl (by kernel_rfl) rfl rfl ?_
            refine d_exec1 12 (by kernel_rfl) rfl ?_
            refine w_lookup (V := El.fv) (key := ty) hmi rfl rfl rfl ?_
            rw [sel_eq ty (by rw [mget_mputG, mget_mputG, mget_mputG]; rfl) (by decide)]
            refine w_ops_nil (d_next (fun _ => ⟨w31, rfl, hss⟩) ?_)
            refine d_pure 13 calm_ret rfl (by kernel_rfl) rfl rfl ?_
            refine d_done (by kernel_rfl) ?_
            exact w_meet (p5, p6, q5, q6) ⟨w31, rfl, hsd0.trans hss, cp5, cp6, cq5, cq6⟩ ⟨rfl, rfl, rfl, rfl, rfl, rfl, trivial⟩
          · skip
            refine w_callV (f := 92) (first := #[]) (captured := #[.pointer (some ⟨b4, 0, none⟩), .pointer (some ⟨b1, 0, none⟩), .pointer (some ⟨b3, 0, none⟩)]) (vs := [.int .i64 6, .int .i64 16]) (by intro q; exact Operand.noConfusion) rfl rfl (rd_r1 6 16 b4 b1 b3 w28) rfl fun u w32 sw32 hR => ?_
            obtain ⟨q5, q6, rfl, cq5, cq6⟩ := hR
            replace hmi := hmi.step sw32 (by simp) (by simp)
            replace cp5 := cp5.step sw32 (by simp) (by simp)
            replace cp6 := cp6.step sw32 (by simp) (by simp)
            replace hss := hss.trans (sw32.mono (by simp) (by simp))
            clear sw32
            refine w_ops_nil (d_next (fun _ => ⟨w32, rfl, hss⟩) ?_)
            refine d_exec2 3 6 (by kernel_rfl) rfl rfl ?_ ?_
            · skip
              refine w_insert (K := El.int) (V := El.fv) (key := 1) (u := (f1 b4 b1 b3 p5 p6)) hmi rfl rfl rfl fun w33 hbw33 sw33 hmi => ?_
              replace cp5 := cp5.step sw33 (by simp) (by simp)
              replace cp6 := cp6.step sw33 (by simp) (by simp)
              replace cq5 := cq5.step sw33 (by simp) (by simp)
              replace cq6 := cq6.step sw33 (by simp) (by simp)
              replace hss := hss.trans (sw33.mono (by simp) (by simp))
              clear sw33
              refine w_ops_nil (d_next (fun _ => ⟨w33, rfl, hss⟩) ?_)
              refine d_exec1 6 (by kernel_rfl) rfl ?_
              refine w_insert (K := El.int) (V := El.fv) (key := 28) (u := (f1 b4 b1 b3 q5 q6)) hmi rfl rfl rfl fun w34 hbw34 sw34 hmi => ?_
              replace cp5 := cp5.step sw34 (by simp) (by simp)
              replace cp6 := cp6.step sw34 (by simp) (by simp)
              replace cq5 := cq5.step sw34 (by simp) (by simp)
              replace cq6 := cq6.step sw34 (by simp) (by simp)
              replace hss := hss.trans (sw34.mono (by simp) (by simp))
              clear sw34
              refine w_ops_nil (d_next (fun _ => ⟨w34, rfl, hss⟩) ?_)
              refine d_pure 9 calm_ret rfl (by kernel_rfl) rfl rfl ?_
              refine d_exec1 12 (by kernel_rfl) rfl ?_
              refine w_lookup (V := El.fv) (key := ty) hmi rfl rfl rfl ?_
              rw [sel_eq ty (by rw [mget_mputG, mget_mputG, mget_mputG]; rfl) (by decide)]
              refine w_ops_nil (d_next (fun _ => ⟨w34, rfl, hss⟩) ?_)
              refine d_pure 13 calm_ret rfl (by kernel_rfl) rfl rfl ?_
              refine d_done (by kernel_rfl) ?_
              exact w_meet (p5, p6, q5, q6) ⟨w34, rfl, hsd0.trans hss, cp5, cp6, cq5, cq6⟩ ⟨rfl, rfl, rfl, rfl, rfl, rfl, trivial⟩
            · skip
              refine w_insert (K := El.int) (V := El.fv) (key := 28) (u := (f1 b4 b1 b3 q5 q6)) hmi rfl rfl rfl fun w35 hbw35 sw35 hmi => ?_
              replace cp5 := cp5.step sw35 (by simp) (by simp)
              replace cp6 := cp6.step sw35 (by simp) (by simp)
              replace cq5 := cq5.step sw35 (by simp) (by simp)
              replace cq6 := cq6.step sw35 (by simp) (by simp)
              replace hss := hss.trans (sw35.mono (by simp) (by simp))
              clear sw35
              refine w_ops_nil (d_next (fun _ => ⟨w35, rfl, hss⟩) ?_)
              refine d_exec1 3 (by kernel_rfl) rfl ?_
              refine w_insert (K := El.int) (V := El.fv) (key := 1) (u := (f1 b4 b1 b3 p5 p6)) hmi rfl rfl rfl fun w36 hbw36 sw36 hmi => ?_
              replace cp5 := cp5.step sw36 (by simp) (by simp)
              replace cp6 := cp6.step sw36 (by simp) (by simp)
              replace cq5 := cq5.step sw36 (by simp) (by simp)
              replace cq6 := cq6.step sw36 (by simp) (by simp)
              replace hss := hss.trans (sw36.mono (by simp) (by simp))
              clear sw36
              refine w_ops_nil (d_next (fun _ => ⟨w36, rfl, hss⟩) ?_)
              refine d_pure 9 calm_ret rfl (by kernel_rfl) rfl rfl ?_
              refine d_exec1 12 (by kernel_rfl) rfl ?_
              refine w_lookup (V := El.fv) (key := ty) hmi rfl rfl rfl ?_
              rw [sel_eq ty (by rw [mget_mputG, mget_mputG, mget_mputG]; rfl) (by decide)]
              refine w_ops_nil (d_next (fun _ => ⟨w36, rfl, hss⟩) ?_)
              refine d_pure 13 calm_ret rfl (by kernel_rfl) rfl rfl ?_
              refine d_done (by kernel_rfl) ?_
              exact w_meet (p5, p6, q5, q6) ⟨w36, rfl, hsd0.trans hss, cp5, cp6, cq5, cq6⟩ ⟨rfl, rfl, rfl, rfl, rfl, rfl, trivial⟩
      · skip
        refine w_insert (K := El.int) (V := El.fv) (key := 5) (u := (f3 b1 b3)) hmi rfl rfl rfl fun w37 hbw37 sw37 hmi => ?_
        replace hss := hss.trans (sw37.mono (by simp) (by simp))
        clear sw37
        refine w_ops_nil (d_next (fun _ => ⟨w37, rfl, hss⟩) ?_)
        refine d_exec1 2 (by kernel_rfl) rfl ?_
        refine w_callV (f := 92) (first := #[]) (captured := #[.pointer (some ⟨b4, 0, none⟩), .pointer (some ⟨b1, 0, none⟩), .pointer (some ⟨b3, 0, none⟩)]) (vs := [.int .i64 4, .int .i64 4]) (by intro q; exact Operand.noConfusion) rfl rfl (rd_r1 4 4 b4 b1 b3 w37) rfl fun u w38 sw38 hR => ?_
        obtain ⟨p5, p6, rfl, cp5, cp6⟩ := hR
        replace hmi := hmi.step sw38 (by simp) (by simp)
        replace hss := hss.trans (sw38.mono (by simp) (by simp))
        clear sw38
        refine w_ops_nil (d_next (fun _ => ⟨w38, rfl, hss⟩) ?_)
        refine d_exec2 3 5 (by kernel_rfl) rfl rfl ?_ ?_
        · skip
          refine w_insert (K := El.int) (V := El.fv) (key := 1) (u := (f1 b4 b1 b3 p5 p6)) hmi rfl rfl rfl fun w39 hbw39 sw39 hmi => ?_
          replace cp5 := cp5.step sw39 (by simp) (by simp)
          replace cp6 := cp6.step sw39 (by simp) (by simp)
          replace hss := hss.trans (sw39.mono (by simp) (by simp))
          clear sw39
          refine w_ops_nil (d_next (fun _ => ⟨w39, rfl, hss⟩) ?_)
          refine d_exec1 5 (by kernel_rfl) rfl ?_
          refine w_callV (f := 92) (first := #[]) (captured := #[.pointer (some ⟨b4, 0, none⟩), .pointer (some ⟨b1, 0, none⟩), .pointer (some ⟨b3, 0, none⟩)]) (vs := [.int .i64 6, .int .i64 16]) (by intro q; exact Operand.noConfusion) rfl rfl (rd_r1 6 16 b4 b1 b3 w39) rfl fun u w40 sw40 hR => ?_
          obtain ⟨q5, q6, rfl, cq5, cq6⟩ := hR
          replace hmi := hmi.step sw40 (by simp) (by simp)
          replace cp5 := cp5.step sw40 (by simp) (by simp)
          replace cp6 := cp6.step sw40 (by simp) (by simp)
          replace hss := hss.trans (sw40.mono (by simp) (by simp))
          clear sw40
          refine w_ops_nil (d_next (fun _ => ⟨w40, rfl, hss⟩) ?_)
          refine d_exec1 6 (by kernel_rfl) rfl ?_
          refine w_insert (K := El.int) (V := El.fv) (key := 28) (u := (f1 b4 b1 b3 q5 q6)) hmi rfl rfl rfl fun w41 hbw41 sw41 hmi => ?_
          replace cp5 := cp5.step sw41 (by simp) (by simp)
          replace cp6 := cp6.step sw41 (by simp) (by simp)
          replace cq5 := cq5.step sw41 (by simp) (by simp)
          replace cq6 := cq6.step sw41 (by simp) (by simp)
          replace hss := hss.trans (sw41.mono (by simp) (by simp))
          clear sw41
          refine w_ops_nil (d_next (fun _ => ⟨w41, rfl, hss⟩) ?_)
          refine d_pure 9 calm_ret rfl (by kernel_rfl) rfl rfl ?_
          refine d_exec1 12 (by kernel_rfl) rfl ?_
          refine w_lookup (V := El.fv) (key := ty) hmi rfl rfl rfl ?_
          rw [sel_eq ty (by rw [mget_mputG, mget_mputG, mget_mputG]; rfl) (by decide)]
          refine w_ops_nil (d_next (fun _ => ⟨w41, rfl, hss⟩) ?_)
          refine d_pure 13 calm_ret rfl (by kernel_rfl) rfl rfl ?_
          refine d_done (by kernel_rfl) ?_
          exact w_meet (p5, p6, q5, q6) ⟨w41, rfl, hsd0.trans hss, cp5, cp6, cq5, cq6⟩ ⟨rfl, rfl, rfl, rfl, rfl, rfl, trivial⟩
        · skip
          refine w_callV (f := 92) (first := #[]) (captured := #[.pointer (some ⟨b4, 0, none⟩), .pointer (some ⟨b1, 0, none⟩), .pointer (some ⟨b3, 0, none⟩)]) (vs := [.int .i64 6, .int .i64 16]) (by intro q; exact Operand.noConfusion) rfl rfl (rd_r1 6 16 b4 b1 b3 w38) rfl fun u w42 sw42 hR => ?_
          obtain ⟨q5, q6, rfl, cq5, cq6⟩ := hR
          replace hmi := hmi.step sw42 (by simp) (by simp)
          replace cp5 := cp5.step sw42 (by simp) (by simp)
          replace cp6 := cp6.step sw42 (by simp) (by simp)
          replace hss := hss.trans (sw42.mono (by simp) (by simp))
          clear sw42
          refine w_ops_nil (d_next (fun _ => ⟨w42, rfl, hss⟩) ?_)
          refine d_exec2 3 6 (by kernel_rfl) rfl rfl ?_ ?_
          · skip
            refine w_insert (K := El.int) (V := El.fv) (key := 1) (u := (f1 b4 b1 b3 p5 p6)) hmi rfl rfl rfl fun w43 hbw43 sw43 hmi => ?_
            replace cp5 := cp5.step sw43 (by simp) (by simp)
            replace cp6 := cp6.step sw43 (by simp) (by simp)
            replace cq5 := cq5.step sw43 (by simp) (by simp)
            replace cq6 := cq6.step sw43 (by simp) (by simp)
            replace hss := hss.trans (sw43.mono (by simp) (by simp))
            clear sw43
            refine w_ops_nil (d_next (fun _ => ⟨w43, rfl, hss⟩) ?_)
            refine d_exec1 6 (by kernel_rfl) rfl ?_
            refine w_insert (K := El.int) (V := El.fv) (key := 28) (u := (f1 b4 b1 b3 q5 q6)) hmi rfl rfl rfl fun w44 hbw44 sw44 hmi => ?_
            replace cp5 := cp5.step sw44 (by simp) (by simp)
            replace cp6 := cp6.step sw44 (by simp) (by simp)
            replace cq5 := cq5.step sw44 (by simp) (by simp)
            replace cq6 := cq6.step sw44 (by simp) (by simp)
            replace hss := hss.trans (sw44.mono (by simp) (by simp))
            clear sw44
            refine w_ops_nil (d_next (fun _ => ⟨w44, rfl, hss⟩) ?_)
            refine d_pure 9 calm_ret rfl (by kernel_rfl) rfl rfl ?_
            refine d_exec1 12 (by kernel_rfl) rfl ?_
            refine w_lookup (V := El.fv) (key := ty) hmi rfl rfl rfl ?_
            rw [sel_eq ty (by rw [mget_mputG, mget_mputG, mget_mputG]; rfl) (by decide)]
            refine w_ops_nil (d_next (fun _ => ⟨w44, rfl, hss⟩) ?_)
            refine d_pure 13 calm_ret rfl (by kernel_rfl) rfl rfl ?_
            refine d_done (by kernel_rfl) ?_
            exact w_meet (p5, p6, q5, q6) ⟨w44, rfl, hsd0.trans hss, cp5, cp6, cq5, cq6⟩ ⟨rfl, rfl, rfl, rfl, rfl, rfl, trivial⟩
          · skip
            refine w_insert (K := El.int) (V := El.fv) (key := 28) (u := (f1 b4 b1 b3 q5 q6)) hmi rfl rfl rfl fun w45 hbw45 sw45 hmi => ?_
            replace cp5 := cp5.step sw45 (by simp) (by simp)
            replace cp6 := cp6.step sw45 (by simp) (by simp)
            replace cq5 := cq5.step sw45 (by simp) (by simp)
            replace cq6 := cq6.step sw45 (by simp) (by simp)
            replace hss := hss.trans (sw45.mono (by simp) (by simp))
            clear sw45
            refine w_ops_nil (d_next (fun _ => ⟨w45, rfl, hss⟩) ?_)
            refine d_exec1 3 (by kernel_rfl) rfl ?_
            refine w_insert (K := El.int) (V := El.fv) (key := 1) (u := (f1 b4 b1 b3 p5 p6)) hmi rfl rfl rfl fun w46 hbw46 sw46 hmi => ?_
            replace cp5 := cp5.step sw46 (by simp) (by simp)
            replace cp6 := cp6.step sw46 (by simp) (by simp)
            replace cq5 := cq5.step sw46 (by simp) (by simp)
            replace cq6 := cq6.step sw46 (by simp) (by simp)
            replace hss := hss.trans (sw46.mono (by simp) (by simp))
            clear sw46
            refine w_ops_nil (d_next (fun _ => ⟨w46, rfl, hss⟩) ?_)
            refine d_pure 9 calm_ret rfl (by kernel_rfl) rfl rfl ?_
            refine d_exec1 12 (by kernel_rfl) rfl ?_
            refine w_lookup (V := El.fv) (key := ty) hmi rfl rfl rfl ?_
            rw [sel_eq ty (by rw [mget_mputG, mget_mputG, mget_mputG]; rfl) (by decide)]
            refine w_ops_nil (d_next (fun _ => ⟨w46, rfl, hss⟩) ?_)
            refine d_pure 13 calm_ret rfl (by kernel_rfl) rfl rfl ?_
            refine d_done (by kernel_rfl) ?_
            exact w_meet (p5, p6, q5, q6) ⟨w46, rfl, hsd0.trans hss, cp5, cp6, cq5, cq6⟩ ⟨rfl, rfl, rfl, rfl, rfl, rfl, trivial⟩
    · skip
      refine w_callV (f := 92) (first := #[]) (captured := #[.pointer (some ⟨b4, 0, none⟩), .pointer (some ⟨b1, 0, none⟩), .pointer (some ⟨b3, 0, none⟩)]) (vs := [.int .i64 4, .int .i64 4]) (by intro q; exact Operand.noConfusion) rfl rfl (rd_r1 4 4 b4 b1 b3 g2) rfl fun u w47 sw47 hR => ?_
      obtain ⟨p5, p6, rfl, cp5, cp6⟩ := hR
      replace hss := hss.trans (sw47.mono (by simp) (by simp))
      clear sw47
      refine w_ops_nil (d_next (fun _ => ⟨w47, rfl, hss⟩) ?_)
      refine d_exec2 0 5 (by kernel_rfl) rfl rfl ?_ ?_
      · skip
        refine w_makeMap 68 rfl fun w48 mb sw48 hma => ?_
        have hmi : MapIs w48 68 mb El.int El.fv [] := hma.empty
        clear hma
        replace cp5 := cp5.step sw48 (by simp) (by simp)
        replace cp6 := cp6.step sw48 (by simp) (by simp)
        replace hss := hss.trans (sw48.mono (by simp) (by simp))
        clear sw48
        refine w_ops_nil (d_next (fun _ => ⟨w48, rfl, hss⟩) ?_)
        refine d_exec3 3 5 8 (by kernel_rfl) rfl rfl rfl ?_ ?_ ?_
        · skip
          refine w_insert (K := El.int) (V := El.fv) (key := 1) (u := (f1 b4 b1 b3 p5 p6)) hmi rfl rfl rfl fun w49 hbw49 sw49 hmi => ?_
          replace cp5 := cp5.step sw49 (by simp) (by simp)
          replace cp6 := cp6.step sw49 (by simp) (by simp)
          replace hss := hss.trans (sw49.mono (by simp) (by simp))
          clear sw49
          refine w_ops_nil (d_next (fun _ => ⟨w49, rfl, hss⟩) ?_)
          refine d_exec2 5 8 (by kernel_rfl) rfl rfl ?_ ?_
          · skip
            refine w_callV (f := 92) (first := #[]) (captured := #[.pointer (some ⟨b4, 0, none⟩), .pointer (some ⟨b1, 0, none⟩), .pointer (some ⟨b3, 0, none⟩)]) (vs := [.int .i64 6, .int .i64 16]) (by intro q; exact Operand.noConfusion) rfl rfl (rd_r1 6 16 b4 b1 b3 w49) rfl fun u w50 sw50 hR => ?_
            obtain ⟨q5, q6, rfl, cq5, cq6⟩ := hR
            replace hmi := hmi.step sw50 (by simp) (by simp)
            replace cp5 := cp5.step sw50 (by simp) (by simp)
            replace cp6 := cp6.step sw50 (by simp) (by simp)
            replace hss := hss.trans (sw50.mono (by simp) (by simp))
            clear sw50
            refine w_ops_nil (d_next (fun _ => ⟨w50, rfl, hss⟩) ?_)
            refine d_exec2 6 8 (by kernel_rfl) rfl rfl ?_ ?_
            · skip
              refine w_insert (K := El.int) (V := El.fv) (key := 28) (u := (f1 b4 b1 b3 q5 q6)) hmi rfl rfl rfl fun w51 hbw51 sw51 hmi => ?_
              replace cp5 := cp5.step sw51 (by simp) (by simp)
              replace cp6 := cp6.step sw51 (by simp) (by simp)
              replace cq5 := cq5.step sw51 (by simp) (by simp)
              replace cq6 := cq6.step sw51 (by simp) (by simp)
              replace hss := hss.trans (sw51.mono (by simp) (by simp))
              clear sw51
              refine w_ops_nil (d_next (fun _ => ⟨w51, rfl, hss⟩) ?_)
              refine d_exec1 8 (by kernel_rfl) rfl ?_
              refine w_insert (K := El.int) (V := El.fv) (key := 5) (u := (f3 b1 b3)) hmi rfl rfl rfl fun w52 hbw52 sw52 hmi => ?_
              replace cp5 := cp5.step sw52 (by simp) (by simp)
              replace cp6 := cp6.step sw52 (by simp) (by simp)
              replace cq5 := cq5.step sw52 (by simp) (by simp)
              replace cq6 := cq6.step sw52 (by simp) (by simp)
              replace hss := hss.trans (sw52.mono (by simp) (by simp))
              clear sw52
              refine w_ops_nil (d_next (fun _ => ⟨w52, rfl, hss⟩) ?_)
              refine d_pure 9 calm_ret rfl (by kernel_rfl) rfl rfl ?_
              refine d_exec1 12 (by kernel_rfl) rfl ?_
              refine w_lookup (V := El.fv) (key := ty) hmi rfl rfl rfl ?_
              rw [sel_eq ty (by rw [mget_mputG, mget_mputG, mget_mputG]; rfl) (by decide)]
              refine w_ops_nil (d_next (fun _ => ⟨w52, rfl, hss⟩) ?_)
              refine d_pure 13 calm_ret rfl (by kernel_rfl) rfl rfl ?_
              refine d_done (by kernel_rfl) ?_
              exact w_meet (p5, p6, q5, q6) ⟨w52, rfl, hsd0.trans hss, cp5, cp6, cq5, cq6⟩ ⟨rfl, rfl, rfl, rfl, rfl, rfl, trivial⟩
            · skip
              refine w_insert (K := El.int) (V := El.fv) (key := 5) (u := (f3 b1 b3)) hmi rfl rfl rfl fun w53 hbw53 sw53 hmi => ?_
              replace cp5 := cp5.step sw53 (by simp) (by simp)
              replace cp6 := cp6.step sw53 (by simp) (by simp)
              replace cq5 := cq5.step sw53 (by simp) (by simp)
              replace cq6 := cq6.step sw53 (by simp) (by simp)
              replace hss := hss.trans (sw53.mono (by simp) (by simp))
              clear sw53
              refine w_ops_nil (d_next (fun _ => ⟨w53, rfl, hss⟩) ?_)
              refine d_exec1 6 (by kernel_rfl) rfl ?_
              refine w_insert (K := El.int) (V := El.fv) (key := 28) (u := (f1 b4 b1 b3 q5 q6)) hmi rfl rfl rfl fun w54 hbw54 sw54 hmi => ?_
              replace cp5 := cp5.step sw54 (by simp) (by simp)
              replace cp6 := cp6.step sw54 (by simp) (by simp)
              replace cq5 := cq5.step sw54 (by simp) (by simp)
              replace cq6 := cq6.step sw54 (by simp) (by simp)
              replace hss := hss.trans (sw54.mono (by simp) (by simp))
              clear sw54
              refine w_ops_nil (d_next (fun _ => ⟨w54, rfl, hss⟩) ?_)
              refine d_pure 9 calm_ret rfl (by kernel_rfl) rfl rfl ?_
              refine d_exec1 12 (by kernel_rfl) rfl ?_
              refine w_lookup (V := El.fv) (key := ty) hmi rfl rfl rfl ?_
              rw [sel_eq ty (by rw [mget_mputG, mget_mputG, mget_mputG]; rfl) (by decide)]
              refine w_ops_nil (d_next (fun _ => ⟨w54, rfl, hss⟩) ?_)
              refine d_pure 13 calm_ret rfl (by kernel_rfl) rfl rfl ?_
              refine d_done (by kernel_rfl) ?_
              exact w_meet (p5, p6, q5, q6) ⟨w54, rfl, hsd0.trans hss, cp5, cp6, cq5, cq6⟩ ⟨rfl, rfl, rfl, rfl, rfl, rfl, trivial⟩
          · skip
            refine w_insert (K := El.int) (V := El.fv) (key := 5) (u := (f3 b1 b3)) hmi rfl rfl rfl fun w55 hbw55 sw55 hmi => ?_
            replace cp5 := cp5.step sw55 (by simp) (by simp)
            replace cp6 := cp6.step sw55 (by simp) (by simp)
            replace hss := hss.trans (sw55.mono (by simp) (by simp))
            clear sw55
            refine w_ops_nil (d_next (fun _ => ⟨w55, rfl, hss⟩) ?_)
            refine d_exec1 5 (by kernel_rfl) rfl ?_
            refine w_callV (f := 92) (first := #[]) (captured := #[.pointer (some ⟨b4, 0, none⟩), .pointer (some ⟨b1, 0, none⟩), .pointer (some ⟨b3, 0, none⟩)]) (vs := [.int .i64 6, .int .i64 16]) (by intro q; exact Operand.noConfusion) rfl rfl (rd_r1 6 16 b4 b1 b3 w55) rfl fun u w56 sw56 hR => ?_
            obtain ⟨q5, q6, rfl, cq5, cq6⟩ := hR
            replace hmi := hmi.step sw56 (by simp) (by simp)
            replace cp5 := cp5.step sw56 (by simp) (by simp)
            replace cp6 := cp6.step sw56 (by simp) (by simp)
            replace hss := hss.trans (sw56.mono (by simp) (by simp))
            clear sw56
            refine w_ops_nil (d_next (fun _ => ⟨w56, rfl, hss⟩) ?_)
            refine d_exec1 6 (by kernel_rfl) rfl ?_
            refine w_insert (K := El.int) (V := El.fv) (key := 28) (u := (f1 b4 b1 b3 q5 q6)) hmi rfl rfl rfl fun w57 hbw57 sw57 hmi => ?_
            replace cp5 := cp5.step sw57 (by simp) (by simp)
            replace cp6 := cp6.step sw57 (by simp) (by simp)
            replace cq5 := cq5.step sw57 (by simp) (by simp)
            replace cq6 := cq6.step sw57 (by simp) (by simp)
            replace hss := hss.trans (sw57.mono (by simp) (by simp))
            clear sw57
            refine w_ops_nil (d_next (fun _ => ⟨w57, rfl, hss⟩) ?_)
            refine d_pure 9 calm_ret rfl (by kernel_rfl) rfl rfl ?_
            refine d_exec1 12 (by kernel_rfl) rfl ?_
            refine w_lookup (V := El.fv) (key := ty) hmi rfl rfl rfl ?_
            rw [sel_eq ty (by rw [mget_mputG, mget_mputG, mget_mputG]; rfl) (by decide)]
            refine w_ops_nil (d_next (fun _ => ⟨w57, rfl, hss⟩) ?_)
            refine d_pure 13 calm_ret rfl (by kernel_rfl) rfl rfl ?_
            refine d_done (by kernel_rfl) ?_
            exact w_meet (p5, p6, q5, q6) ⟨w57, rfl, hsd0.trans hss, cp5, cp6, cq5, cq6⟩ ⟨rfl, rfl, rfl, rfl, rfl, rfl, trivial⟩
        · skip
          refine w_callV (f := 92) (first := #[]) (captured := #[.pointer (some ⟨b4, 0, none⟩), .pointer (some ⟨b1, 0, none⟩), .pointer (some ⟨b3, 0, none⟩)]) (vs := [.int .i64 6, .int .i64 16]) (by intro q; exact Operand.noConfusion) rfl rfl (rd_r1 6 16 b4 b1 b3 w48) rfl fun u w58 sw58 hR => ?_
          obtain ⟨q5, q6, rfl, cq5, cq6⟩ := hR
          replace hmi := hmi.step sw58 (by simp) (by simp)
          replace cp5 := cp5.step sw58 (by simp) (by simp)
          replace cp6 := cp6.step sw58 (by simp) (by simp)
          replace hss := hss.trans (sw58.mono (by simp) (by simp))
          clear sw58
          refine w_ops_nil (d_next (fun _ => ⟨w58, rfl, hss⟩) ?_)
          refine d_exec3 3 6 8 (by kernel_rfl) rfl rfl rfl ?_ ?_ ?_
          · skip
            refine w_insert (K := El.int) (V := El.fv) (key := 1) (u := (f1 b4 b1 b3 p5 p6)) hmi rfl rfl rfl fun w59 hbw59 sw59 hmi => ?_
            replace cp5 := cp5.step sw59 (by simp) (by simp)
            replace cp6 := cp6.step sw59 (by simp) (by simp)
            replace cq5 := cq5.step sw59 (by simp) (by simp)
            replace cq6 := cq6.step sw59 (by simp) (by simp)
            replace hss := hss.trans (sw59.mono (by simp) (by simp))
            clear sw59
            refine w_ops_nil (d_next (fun _ => ⟨w59, rfl, hss⟩) ?_)
            refine d_exec2 6 8 (by kernel_rfl) rfl rfl ?_ ?_
            · skip
              refine w_insert (K := El.int) (V := El.fv) (key := 28) (u := (f1 b4 b1 b3 q5 q6)) hmi rfl rfl rfl fun w60 hbw60 sw60 hmi => ?_
              replace cp5 := cp5.step sw60 (by simp) (by simp)
              replace cp6 := cp6.step sw60 (by simp) (by simp)
              replace cq5 := cq5.step sw60 (by simp) (by simp)
              replace cq6 := cq6.step sw60 (by simp) (by simp)
              replace hss := hss.trans (sw60.mono (by simp) (by simp))
              clear sw60
              refine w_ops_nil (d_next (fun _ => ⟨w60, rfl, hss⟩) ?_)
              refine d_exec1 8 (by kernel_rfl) rfl ?_
              refine w_insert (K := El.int) (V := El.fv) (key := 5) (u := (f3 b1 b3)) hmi rfl rfl rfl fun w61 hbw61 sw61 hmi => ?_
              replace cp5 := cp5.step sw61 (by simp) (by simp)
              replace cp6 := cp6.step sw61 (by simp) (by simp)
              replace cq5 := cq5.step sw61 (by simp) (by simp)
              replace cq6 := cq6.step sw61 (by simp) (by simp)
              replace hss := hss.trans (sw61.mono (by simp) (by simp))
              clear sw61
              refine w_ops_nil (d_next (fun _ => ⟨w61, rfl, hss⟩) ?_)
              refine d_pure 9 calm_ret rfl (by kernel_rfl) rfl rfl ?_
              refine d_exec1 12 (by kernel_rfl) rfl ?_
              refine w_lookup (V := El.fv) (key := ty) hmi rfl rfl rfl ?_
              rw [sel_eq ty (by rw [mget_mputG, mget_mputG, mget_mputG]; rfl) (by decide)]
              refine w_ops_nil (d_next (fun _ => ⟨w61, rfl, hss⟩) ?_)
              refine d_pure 13 calm_ret rfl (by kernel_rfl) rfl rfl ?_
              refine d_done (by kernel_rfl) ?_
              exact w_meet (p5, p6, q5, q6) ⟨w61, rfl, hsd0.trans hss, cp5, cp6, cq5, cq6⟩ ⟨rfl, rfl, rfl, rfl, rfl, rfl, trivial⟩
            · skip
              refine w_insert (K := El.int) (V := El.fv) (key := 5) (u := (f3 b1 b3)) hmi rfl rfl rfl fun w62 hbw62 sw62 hmi => ?_
              replace cp5 := cp5.step sw62 (by simp) (by simp)
              replace cp6 := cp6.step sw62 (by simp) (by simp)
              replace cq5 := cq5.step sw62 (by simp) (by simp)
              replace cq6 := cq6.step sw62 (by simp) (by simp)
              replace hss := hss.trans (sw62.mono (by simp) (by simp))
              clear sw62
              refine w_ops_nil (d_next (fun _ => ⟨w62, rfl, hss⟩) ?_)
              refine d_exec1 6 (by kernel_rfl) rfl ?_
              refine w_insert (K := El.int) (V := El.fv) (key := 28) (u := (f1 b4 b1 b3 q5 q6)) hmi rfl rfl rfl fun w63 hbw63 sw63 hmi => ?_
              replace cp5 := cp5.step sw63 (by simp) (by simp)
              replace cp6 := cp6.step sw63 (by simp) (by simp)
              replace cq5 := cq5.step sw63 (by simp) (by simp)
              replace cq6 := cq6.step sw63 (by simp) (by simp)
              replace hss := hss.trans (sw63.mono (by simp) (by simp))
              clear sw63
              refine w_ops_nil (d_next (fun _ => ⟨w63, rfl, hss⟩) ?_)
              refine d_pure 9 calm_ret rfl (by kernel_rfl) rfl rfl ?_
              refine d_exec1 12 (by kernel_rfl) rfl ?_
              refine w_lookup (V := El.fv) (key := ty) hmi rfl rfl rfl ?_
              rw [sel_eq ty (by rw [mget_mputG, mget_mputG, mget_mputG]; rfl) (by decide)]
              refine w_ops_nil (d_next (fun _ => ⟨w63, rfl, hss⟩) ?_)
              refine d_pure 13 calm_ret rfl (by kernel_rfl) rfl rfl ?_
              refine d_done (by kernel_rfl) ?_
              exact w_meet (p5, p6, q5, q6) ⟨w63, rfl, hsd0.trans hss, cp5, cp6, cq5, cq6⟩ ⟨rfl, rfl, rfl, rfl, rfl, rfl, trivial⟩
          · skip
            refine w_insert (K := El.int) (V := El.fv) (key := 28) (u := (f1 b4 b1 b3 q5 q6)) hmi rfl rfl rfl fun w64 hbw64 sw64 hmi => ?_
            replace cp5 := cp5.step sw64 (by simp) (by simp)
            replace cp6 := cp6.step sw64 (by simp) (by simp)
            replace cq5 := cq5.step sw64 (by simp) (by simp)
            replace cq6 := cq6.step sw64 (by simp) (by simp)
            replace hss := hss.trans (sw64.mono (by simp) (by simp))
            clear sw64
            refine w_ops_nil (d_next (fun _ => ⟨w64, rfl, hss⟩) ?_)
            refine d_exec2 3 8 (by kernel_rfl) rfl rfl ?_ ?_
            · skip
              refine w_insert (K := El.int) (V := El.fv) (key := 1) (u := (f1 b4 b1 b3 p5 p6)) hmi rfl rfl rfl fun w65 hbw65 sw65 hmi => ?_
              replace cp5 := cp5.step sw65 (by simp) (by simp)
              replace cp6 := cp6.step sw65 (by simp) (by simp)
              replace cq5 := cq5.step sw65 (by simp) (by simp)
              replace cq6 := cq6.step sw65 (by simp) (by simp)
              replace hss := hss.trans (sw65.mono (by simp) (by simp))
              clear sw65
              refine w_ops_nil (d_next (fun _ => ⟨w65, rfl, hss⟩) ?_)
              refine d_exec1 8 (by kernel_rfl) rfl ?_
              refine w_insert (K := El.int) (V := El.fv) (key := 5) (u := (f3 b1 b3)) hmi rfl rfl rfl fun w66 hbw66 sw66 hmi => ?_
              replace cp5 := cp5.step sw66 (by simp) (by simp)
              replace cp6 := cp6.step sw66 (by simp) (by simp)
              replace cq5 := cq5.step sw66 (by simp) (by simp)
              replace cq6 := cq6.step sw66 (by simp) (by simp)
              replace hss := hss.trans (sw66.mono (by simp) (by simp))
              clear sw66
              refine w_ops_nil (d_next (fun _ => ⟨w66, rfl, hss⟩) ?_)
              refine d_pure 9 calm_ret rfl (by kernel_rfl) rfl rfl ?_
              refine d_exec1 12 (by kernel_rfl) rfl ?_
              refine w_lookup (V := El.fv) (key := ty) hmi rfl rfl rfl ?_
              rw [sel_eq ty (by rw [mget_mputG, mget_mputG, mget_mputG]; rfl) (by decide)]
              refine w_ops_nil (d_next (fun _ => ⟨w66, rfl, hss⟩) ?_)
              refine d_pure 13 calm_ret rfl (by kernel_rfl) rfl rfl ?_
              refine d_done (by kernel_rfl) ?_
              exact w_meet (p5, p6, q5, q6) ⟨w66, rfl, hsd0.trans hss, cp5, cp6, cq5, cq6⟩ ⟨rfl, rfl, rfl, rfl, rfl, rfl, trivial⟩
            · skip
              refine w_insert (K := El.int) (V := El.fv) (key := 5) (u := (f3 b1 b3)) hmi rfl rfl rfl fun w67 hbw67 sw67 hmi => ?_
              replace cp5 := cp5.step sw67 (by simp) (by simp)
              replace cp6 := cp6.step sw67 (by simp) (by simp)
              replace cq5 := cq5.step sw67 (by simp) (by simp)
              replace cq6 := cq6.step sw67 (by simp) (by simp)
              replace hss := hss.trans (sw67.mono (by simp) (by simp))
              clear sw67
              refine w_ops_nil (d_next (fun _ => ⟨w67, rfl, hss⟩) ?_)
              refine d_exec1 3 (by kernel_rfl) rfl ?_
              refine w_insert (K := El.int) (V := El.fv) (key := 1) (u := (f1 b4 b1 b3 p5 p6)) hmi rfl rfl rfl fun w68 hbw68 sw68 hmi => ?_
              replace cp5 := cp5.step sw68 (by simp) (by simp)
              replace cp6 := cp6.step sw68 (by simp) (by simp)
              replace cq5 := cq5.step sw68 (by simp) (by simp)
              replace cq6 := cq6.step sw68 (by simp) (by simp)
              replace hss := hss.trans (sw68.mono (by simp) (by simp))
              clear sw68
              refine w_ops_nil (d_next (fun _ => ⟨w68, rfl, hss⟩) ?_)
              refine d_pure 9 calm_ret rfl (by kernel_rfl) rfl rfl ?_
              refine d_exec1 12 (by kernel_rfl) rfl ?_
              refine w_lookup (V := El.fv) (key := ty) hmi rfl rfl rfl ?_
              rw [sel_eq ty (by rw [mget_mputG, mget_mputG, mget_mputG]; rfl) (by decide)]
              refine w_ops_nil (d_next (fun _ => ⟨w68, rfl, hss⟩) ?_)
              refine d_pure 13 calm_ret rfl (by kernel_rfl) rfl rfl ?_
              refine d_done (by kernel_rfl) ?_
              exact w_meet (p5, p6, q5, q6) ⟨w68, rfl, hsd0.trans hss, cp5, cp6, cq5, cq6⟩ ⟨rfl, rfl, rfl, rfl, rfl, rfl, trivial⟩
          · skip
            refine w_insert (K := El.int) (V := El.fv) (key := 5) (u := (f3 b1 b3)) hmi rfl rfl rfl fun w69 hbw69 sw69 hmi => ?_
            replace cp5 := cp5.step sw69 (by simp) (by simp)
            replace cp6 := cp6.step sw69 (by simp) (by simp)
            replace cq5 := cq5.step sw69 (by simp) (by simp)
            replace cq6 := cq6.step sw69 (by simp) (by simp)
            replace hss := hss.trans (sw69.mono (by simp) (by simp))
            clear sw69
            refine w_ops_nil (d_next (fun _ => ⟨w69, rfl, hss⟩) ?_)
            refine d_exec2 3 6 (by kernel_rfl) rfl rfl ?_ ?_
            · skip
              refine w_insert (K := El.int) (V := El.fv) (key := 1) (u := (f1 b4 b1 b3 p5 p6)) hmi rfl rfl rfl fun w70 hbw70 sw70 hmi => ?_
              replace cp5 := cp5.step sw70 (by simp) (by simp)
              replace cp6 := cp6.step sw70 (by simp) (by simp)
              replace cq5 := cq5.step sw70 (by simp) (by simp)
              replace cq6 := cq6.step sw70 (by simp) (by simp)
              replace hss := hss.trans (sw70.mono (by simp) (by simp))
              clear sw70
              refine w_ops_nil (d_next (fun _ => ⟨w70, rfl, hss⟩) ?_)
              refine d_exec1 6 (by kernel_rfl) rfl ?_
              refine w_insert (K := El.int) (V := El.fv) (key := 28) (u := (f1 b4 b1 b3 q5 q6)) hmi rfl rfl rfl fun w71 hbw71 sw71 hmi => ?_
              replace cp5 := cp5.step sw71 (by simp) (by simp)
              replace cp6 := cp6.step sw71 (by simp) (by simp)
              replace cq5 := cq5.step sw71 (by simp) (by simp)
              replace cq6 := cq6.step sw71 (by simp) (by simp)
              replace hss := hss.trans (sw71.mono (by simp) (by simp))
              clear sw71
              refine w_ops_nil (d_next (fun _ => ⟨w71, rfl, hss⟩) ?_)
              refine d_pure 9 calm_ret rfl (by kernel_rfl) rfl rfl ?_
              refine d_exec1 12 (by kernel_rfl) rfl ?_
              refine w_lookup (V := El.fv) (key := ty) hmi rfl rfl rfl ?_
              rw [sel_eq ty (by rw [mget_mputG, mget_mputG, mget_mputG]; rfl) (by decide)]
              refine w_ops_nil (d_next (fun _ => ⟨w71, rfl, hss⟩) ?_)
              refine d_pure 13 calm_ret rfl (by kernel_rfl) rfl rfl ?_
              refine d_done (by kernel_rfl) ?_
              exact w_meet (p5, p6, q5, q6) ⟨w71, rfl, hsd0.trans hss, cp5, cp6, cq5, cq6⟩ ⟨rfl, rfl, rfl, rfl, rfl, rfl, trivial⟩
            · skip
              refine w_insert (K := El.int) (V := El.fv) (key := 28) (u := (f1 b4 b1 b3 q5 q6)) hmi rfl rfl rfl fun w72 hbw72 sw72 hmi => ?_
              replace cp5 := cp5.step sw72 (by simp) (by simp)
              replace cp6 := cp6.step sw72 (by simp) (by simp)
              replace cq5 := cq5.step sw72 (by simp) (by simp)
              replace cq6 := cq6.step sw72 (by simp) (by simp)
              replace hss := hss.trans (sw72.mono (by simp) (by simp))
              clear sw72
              refine w_ops_nil (d_next (fun _ => ⟨w72, rfl, hss⟩) ?_)
              refine d_exec1 3 (by kernel_rfl) rfl ?_
              refine w_insert (K := El.int) (V := El.fv) (key := 1) (u := (f1 b4 b1 b3 p5 p6)) hmi rfl rfl rfl fun w73 hbw73 sw73 hmi => ?_
              replace cp5 := cp5.step sw73 (by simp) (by simp)
              replace cp6 := cp6.step sw73 (by simp) (by simp)
              replace cq5 := cq5.step sw73 (by simp) (by simp)
              replace cq6 := cq6.step sw73 (by simp) (by simp)
              replace hss := hss.trans (sw73.mono (by simp) (by simp))
              clear sw73
              refine w_ops_nil (d_next (fun _ => ⟨w73, rfl, hss⟩) ?_)
              refine d_pure 9 calm_ret rfl (by kernel_rfl) rfl rfl ?_
              refine d_exec1 12 (by kernel_rfl) rfl ?_
              refine w_lookup (V := El.fv) (key := ty) hmi rfl rfl rfl ?_
              rw [sel_eq ty (by rw [mget_mputG, mget_mputG, mget_mputG]; rfl) (by decide)]
              refine w_ops_nil (d_next (fun _ => ⟨w73, rfl, hss⟩) ?_)
              refine d_pure 13 calm_ret rfl (by kernel_rfl) rfl rfl ?_
              refine d_done (by kernel_rfl) ?_
              exact w_meet (p5, p6, q5, q6) ⟨w73, rfl, hsd0.trans hss, cp5, cp6, cq5, cq6⟩ ⟨rfl, rfl, rfl, rfl, rfl, rfl, trivial⟩
        · skip
          refine w_insert (K := El.int) (V := El.fv) (key := 5) (u := (f3 b1 b3)) hmi rfl rfl rfl fun w74 hbw74 sw74 hmi => ?_
          replace cp5 := cp5.step sw74 (by simp) (by simp)
          replace cp6 := cp6.step sw74 (by simp) (by simp)
          replace hss := hss.trans (sw74.mono (by simp) (by simp))
          clear sw74
          refine w_ops_nil (d_next (fun _ => ⟨w74, rfl, hss⟩) ?_)
          refine d_exec2 3 5 (by kernel_rfl) rfl rfl ?_ ?_
          · skip
            refine w_insert (K := El.int) (V := El.fv) (key := 1) (u := (f1 b4 b1 b3 p5 p6)) hmi rfl rfl rfl fun w75 hbw75 sw75 hmi => ?_
            replace cp5 := cp5.step sw75 (by simp) (by simp)
            replace cp6 := cp6.step sw75 (by simp) (by simp)
            replace hss := hss.trans (sw75.mono (by simp) (by simp))
            clear sw75
            refine w_ops_nil (d_next (fun _ => ⟨w75, rfl, hss⟩) ?_)
            refine d_exec1 5 (by kernel_rfl) rfl ?_
            refine w_callV (f := 92) (first := #[]) (captured := #[.pointer (some ⟨b4, 0, none⟩), .pointer (some ⟨b1, 0, none⟩), .pointer (some ⟨b3, 0, none⟩)]) (vs := [.int .i64 6, .int .i64 16]) (by intro q; exact Operand.noConfusion) rfl rfl (rd_r1 6 16 b4 b1 b3 w75) rfl fun u w76 sw76 hR => ?_
            obtain ⟨q5, q6, rfl, cq5, cq6⟩ := hR
            replace hmi := hmi.step sw76 (by simp) (by simp)
            replace cp5 := cp5.step sw76 (by simp) (by simp)
            replace cp6 := cp6.step sw76 (by simp) (by simp)
            replace hss := hss.trans (sw76.mono (by simp) (by simp))
            clear sw76
            refine w_ops_nil (d_next (fun _ => ⟨w76, rfl, hss⟩) ?_)
            refine d_exec1 6 (by kernel_rfl) rfl ?_
            refine w_insert (K := El.int) (V := El.fv) (key := 28) (u := (f1 b4 b1 b3 q5 q6)) hmi rfl rfl rfl fun w77 hbw77 sw77 hmi => ?_
            replace cp5 := cp5.step sw77 (by simp) (by simp)
            replace cp6 := cp6.step sw77 (by simp) (by simp)
            replace cq5 := cq5.step sw77 (by simp) (by simp)
            replace cq6 := cq6.step sw77 (by simp) (by simp)
            replace hss := hss.trans (sw77.mono (by simp) (by simp))
            clear sw77
            refine w_ops_nil (d_next (fun _ => ⟨w77, rfl, hss⟩) ?_)
            refine d_pure 9 calm_ret rfl (by kernel_rfl) rfl rfl ?_
            refine d_exec1 12 (by kernel_rfl) rfl ?_
            refine w_lookup (V := El.fv) (key := ty) hmi rfl rfl rfl ?_
            rw [sel_eq ty (by rw [mget_mputG, mget_mputG, mget_mputG]; rfl) (by decide)]
            refine w_ops_nil (d_next (fun _ => ⟨w77, rfl, hss⟩) ?_)
            refine d_pure 13 calm_ret rfl (by kernel_rfl) rfl rfl ?_
            refine d_done (by kernel_rfl) ?_
            exact w_meet (p5, p6, q5, q6) ⟨w77, rfl, hsd0.trans hss, cp5, cp6, cq5, cq6⟩ ⟨rfl, rfl, rfl, rfl, rfl, rfl, trivial⟩
          · skip
            refine w_callV (f := 92) (first := #[]) (captured := #[.pointer (some ⟨b4, 0, none⟩), .pointer (some ⟨b1, 0, none⟩), .pointer (some ⟨b3, 0, none⟩)]) (vs := [.int .i64 6, .int .i64 16]) (by intro q; exact Operand.noConfusion) rfl rfl (rd_r1 6 16 b4 b1 b3 w74) rfl fun u w78 sw78 hR => ?_
            obtain ⟨q5, q6, rfl, cq5, cq6⟩ := hR
            replace hmi := hmi.step sw78 (by simp) (by simp)
            replace cp5 := cp5.step sw78 (by simp) (by simp)
            replace cp6 := cp6.step sw78 (by simp) (by simp)
            replace hss := hss.trans (sw78.mono (by simp) (by simp))
            clear sw78
            refine w_ops_nil (d_next (fun _ => ⟨w78, rfl, hss⟩) ?_)
            refine d_exec2 3 6 (by kernel_rfl) rfl rfl ?_ ?_
            · skip
              refine w_insert (K := El.int) (V := El.fv) (key := 1) (u := (f1 b4 b1 b3 p5 p6)) hmi rfl rfl rfl fun w79 hbw79 sw79 hmi => ?_
              replace cp5 := cp5.step sw79 (by simp) (by simp)
              replace cp6 := cp6.step sw79 (by simp) (by simp)
              replace cq5 := cq5.step sw79 (by simp) (by simp)
              replace cq6 := cq6.step sw79 (by simp) (by simp)
              replace hss := hss.trans (sw79.mono (by simp) (by simp))
              clear sw79
              refine w_ops_nil (d_next (fun _ => ⟨w79, rfl, hss⟩) ?_)
              refine d_exec1 6 (by kernel_rfl) rfl ?_
              refine w_insert (K := El.int) (V := El.fv) (key := 28) (u := (f1 b4 b1 b3 q5 q6)) hmi rfl rfl rfl fun w80 hbw80 sw80 hmi => ?_
              replace cp5 := cp5.step sw80 (by simp) (by simp)
              replace cp6 := cp6.step sw80 (by simp) (by simp)
              replace cq5 := cq5.step sw80 (by simp) (by simp)
              replace cq6 := cq6.step sw80 (by simp) (by simp)
              replace hss := hss.trans (sw80.mono (by simp) (by simp))
              clear sw80
              refine w_ops_nil (d_next (fun _ => ⟨w80, rfl, hss⟩) ?_)
              refine d_pure 9 calm_ret rfl (by kernel_rfl) rfl rfl ?_
              refine d_exec1 12 (by kernel_rfl) rfl ?_
              refine w_lookup (V := El.fv) (key := ty) hmi rfl rfl rfl ?_
              rw [sel_eq ty (by rw [mget_mputG, mget_mputG, mget_mputG]; rfl) (by decide)]
              refine w_ops_nil (d_next (fun _ => ⟨w80, rfl, hss⟩) ?_)
              refine d_pure 13 calm_ret rfl (by kernel_rfl) rfl rfl ?_
              refine d_done (by kernel_rfl) ?_
              exact w_meet (p5, p6, q5, q6) ⟨w80, rfl, hsd0.trans hss, cp5, cp6, cq5, cq6⟩ ⟨rfl, rfl, rfl, rfl, rfl, rfl, trivial⟩
            · skip
              refine w_insert (K := El.int) (V := El.fv) (key := 28) (u := (f1 b4 b1 b3 q5 q6)) hmi rfl rfl rfl fun w81 hbw81 sw81 hmi => ?_
              replace cp5 := cp5.step sw81 (by simp) (by simp)
              replace cp6 := cp6.step sw81 (by simp) (by simp)
              replace cq5 := cq5.step sw81 (by simp) (by simp)
              replace cq6 := cq6.step sw81 (by simp) (by simp)
              replace hss := hss.trans (sw81.mono (by simp) (by simp))
              clear sw81
              refine w_ops_nil (d_next (fun _ => ⟨w81, rfl, hss⟩) ?_)
              refine d_exec1 3 (by kernel_rfl) rfl ?_
              refine w_insert (K := El.int) (V := El.fv) (key := 1) (u := (f1 b4 b1 b3 p5 p6)) hmi rfl rfl rfl fun w82 hbw82 sw82 hmi => ?_
              replace cp5 := cp5.step sw82 (by simp) (by simp)
              replace cp6 := cp6.step sw82 (by simp) (by simp)
              replace cq5 := cq5.step sw82 (by simp) (by simp)
              replace cq6 := cq6.step sw82 (by simp) (by simp)
              replace hss := hss.trans (sw82.mono (by simp) (by simp))
              clear sw82
              refine w_ops_nil (d_next (fun _ => ⟨w82, rfl, hss⟩) ?_)
              refine d_pure 9 calm_ret rfl (by kernel_rfl) rfl rfl ?_
              refine d_exec1 12 (by kernel_rfl) rfl ?_
              refine w_lookup (V := El.fv) (key := ty) hmi rfl rfl rfl ?_
              rw [sel_eq ty (by rw [mget_mputG, mget_mputG, mget_mputG]; rfl) (by decide)]
              refine w_ops_nil (d_next (fun _ => ⟨w82, rfl, hss⟩) ?_)
              refine d_pure 13 calm_ret rfl (by kernel_rfl) rfl rfl ?_
              refine d_done (by kernel_rfl) ?_
              exact w_meet (p5, p6, q5, q6) ⟨w82, rfl, hsd0.trans hss, cp5, cp6, cq5, cq6⟩ ⟨rfl, rfl, rfl, rfl, rfl, rfl, trivial⟩
      · skip
        refine w_callV (f := 92) (first := #[]) (captured := #[.pointer (some ⟨b4, 0, none⟩), .pointer (some ⟨b1, 0, none⟩), .pointer (some ⟨b3, 0, none⟩)]) (vs := [.int .i64 6, .int .i64 16]) (by intro q; exact Operand.noConfusion) rfl rfl (rd_r1 6 16 b4 b1 b3 w47) rfl fun u w83 sw83 hR => ?_
        obtain ⟨q5, q6, rfl, cq5, cq6⟩ := hR
        replace cp5 := cp5.step sw83 (by simp) (by simp)
        replace cp6 := cp6.step sw83 (by simp) (by simp)
        replace hss := hss.trans (sw83.mono (by simp) (by simp))
        clear sw83
        refine w_ops_nil (d_next (fun _ => ⟨w83, rfl, hss⟩) ?_)
        refine d_exec1 0 (by kernel_rfl) rfl ?_
        refine w_makeMap 68 rfl fun w84 mb sw84 hma => ?_
        have hmi : MapIs w84 68 mb El.int El.fv [] := hma.empty
        clear hma
        replace cp5 := cp5.step sw84 (by simp) (by simp)
        replace cp6 := cp6.step sw84 (by simp) (by simp)
        replace cq5 := cq5.step sw84 (by simp) (by simp)
        replace cq6 := cq6.step sw84 (by simp) (by simp)
        replace hss := hss.trans (sw84.mono (by simp) (by simp))
        clear sw84
        refine w_ops_nil (d_next (fun _ => ⟨w84, rfl, hss⟩) ?_)
        refine d_exec3 3 6 8 (by kernel_rfl) rfl rfl rfl ?_ ?_ ?_
        · skip
          refine w_insert (K := El.int) (V := El.fv) (key := 1) (u := (f1 b4 b1 b3 p5 p6)) hmi rfl rfl rfl fun w85 hbw85 sw85 hmi => ?_
          replace cp5 := cp5.step sw85 (by simp) (by simp)
          replace cp6 := cp6.step sw85 (by simp) (by simp)
          replace cq5 := cq5.step sw85 (by simp) (by simp)
          replace cq6 := cq6.step sw85 (by simp) (by simp)
          replace hss := hss.trans (sw85.mono (by simp) (by simp))
          clear sw85
          refine w_ops_nil (d_next (fun _ => ⟨w85, rfl, hss⟩) ?_)
          refine d_exec2 6 8 (by kernel_rfl) rfl rfl ?_ ?_
          · skip
            refine w_insert (K := El.int) (V := El.fv) (key := 28) (u := (f1 b4 b1 b3 q5 q6)) hmi rfl rfl rfl fun w86 hbw86 sw86 hmi => ?_
            replace cp5 := cp5.step sw86 (by simp) (by simp)
            replace cp6 := cp6.step sw86 (by simp) (by simp)
            replace cq5 := cq5.step sw86 (by simp) (by simp)
            replace cq6 := cq6.step sw86 (by simp) (by simp)
            replace hss := hss.trans (sw86.mono (by simp) (by simp))
            clear sw86
            refine w_ops_nil (d_next (fun _ => ⟨w86, rfl, hss⟩) ?_)
            refine d_exec1 8 (by kernel_rfl) rfl ?_
            refine w_insert (K := El.int) (V := El.fv) (key := 5) (u := (f3 b1 b3)) hmi rfl rfl rfl fun w87 hbw87 sw87 hmi => ?_
            replace cp5 := cp5.step sw87 (by simp) (by simp)
            replace cp6 := cp6.step sw87 (by simp) (by simp)
            replace cq5 := cq5.step sw87 (by simp) (by simp)
            replace cq6 := cq6.step sw87 (by simp) (by simp)
            replace hss := hss.trans (sw87.mono (by simp) (by simp))
            clear sw87
            refine w_ops_nil (d_next (fun _ => ⟨w87, rfl, hss⟩) ?_)
            refine d_pure 9 calm_ret rfl (by kernel_rfl) rfl rfl ?_
            refine d_exec1 12 (by kernel_rfl) rfl ?_
            refine w_lookup (V := El.fv) (key := ty) hmi rfl rfl rfl ?_
            rw [sel_eq ty (by rw [mget_mputG, mget_mputG, mget_mputG]; rfl) (by decide)]
            refine w_ops_nil (d_next (fun _ => ⟨w87, rfl, hss⟩) ?_)
            refine d_pure 13 calm_ret rfl (by kernel_rfl) rfl rfl ?_
            refine d_done (by kernel_rfl) ?_
            exact w_meet (p5, p6, q5, q6) ⟨w87, rfl, hsd0.trans hss, cp5, cp6, cq5, cq6⟩ ⟨rfl, rfl, rfl, rfl, rfl, rfl, trivial⟩
          · skip
            refine w_insert (K := El.int) (V := El.fv) (key := 5) (u := (f3 b1 b3)) hmi rfl rfl rfl fun w88 hbw88 sw88 hmi => ?_
            replace cp5 := cp5.step sw88 (by simp) (by simp)
            replace cp6 := cp6.step sw88 (by simp) (by simp)
            replace cq5 := cq5.step sw88 (by simp) (by simp)
            replace cq6 := cq6.step sw88 (by simp) (by simp)
            replace hss := hss.trans (sw88.mono (by simp) (by simp))
            clear sw88
            refine w_ops_nil (d_next (fun _ => ⟨w88, rfl, hss⟩) ?_)
            refine d_exec1 6 (by kernel_rfl) rfl ?_
            refine w_insert (K := El.int) (V := El.fv) (key := 28) (u := (f1 b4 b1 b3 q5 q6)) hmi rfl rfl rfl fun w89 hbw89 sw89 hmi => ?_
            replace cp5 := cp5.step sw89 (by simp) (by simp)
            replace cp6 := cp6.step sw89 (by simp) (by simp)
            replace cq5 := cq5.step sw89 (by simp) (by simp)
            replace cq6 := cq6.step sw89 (by simp) (by simp)
            replace hss := hss.trans (sw89.mono (by simp) (by simp))
            clear sw89
            refine w_ops_nil (d_next (fun _ => ⟨w89, rfl, hss⟩) ?_)
            refine d_pure 9 calm_ret rfl (by kernel_rfl) rfl rfl ?_
            refine d_exec1 12 (by kernel_rfl) rfl ?_
            refine w_lookup (V := El.fv) (key := ty) hmi rfl rfl rfl ?_
            rw [sel_eq ty (by rw [mget_mputG, mget_mputG, mget_mputG]; rfl) (by decide)]
            refine w_ops_nil (d_next (fun _ => ⟨w89, rfl, hss⟩) ?_)
            refine d_pure 13 calm_ret rfl (by kernel_rfl) rfl rfl ?_
            refine d_done (by kernel_rfl) ?_
            exact w_meet (p5, p6, q5, q6) ⟨w89, rfl, hsd0.trans hss, cp5, cp6, cq5, cq6⟩ ⟨rfl, rfl, rfl, rfl, rfl, rfl, trivial⟩
        · skip
          refine w_insert (K := El.int) (V := El.fv) (key := 28) (u := (f1 b4 b1 b3 q5 q6)) hmi rfl rfl rfl fun w90 hbw90 sw90 hmi => ?_
          replace cp5 := cp5.step sw90 (by simp) (by simp)
          replace cp6 := cp6.step sw90 (by simp) (by simp)
          replace cq5 := cq5.step sw90 (by simp) (by simp)
          replace cq6 := cq6.step sw90 (by simp) (by simp)
          replace hss := hss.trans (sw90.mono (by simp) (by simp))
          clear sw90
          refine w_ops_nil (d_next (fun _ => ⟨w90, rfl, hss⟩) ?_)
          refine d_exec2 3 8 (by kernel_rfl) rfl rfl ?_ ?_
          · skip
            refine w_insert (K := El.int) (V := El.fv) (key := 1) (u := (f1 b4 b1 b3 p5 p6)) hmi rfl rfl rfl fun w91 hbw91 sw91 hmi => ?_
            replace cp5 := cp5.step sw91 (by simp) (by simp)
            replace cp6 := cp6.step sw91 (by simp) (by simp)
            replace cq5 := cq5.step sw91 (by simp) (by simp)
            replace cq6 := cq6.step sw91 (by simp) (by simp)
            replace hss := hss.trans (sw91.mono (by simp) (by simp))
            clear sw91
            refine w_ops_nil (d_next (fun _ => ⟨w91, rfl, hss⟩) ?_)
            refine d_exec1 8 (by kernel_rfl) rfl ?_
            refine w_insert (K := El.int) (V := El.fv) (key := 5) (u := (f3 b1 b3)) hmi rfl rfl rfl fun w92 hbw92 sw92 hmi => ?_
            replace cp5 := cp5.step sw92 (by simp) (by simp)
            replace cp6 := cp6.step sw92 (by simp) (by simp)
            replace cq5 := cq5.step sw92 (by simp) (by simp)
            replace cq6 := cq6.step sw92 (by simp) (by simp)
            replace hss := hss.trans (sw92.mono (by simp) (by simp))
            clear sw92
            refine w_ops_nil (d_next (fun _ => ⟨w92, rfl, hss⟩) ?_)
            refine d_pure 9 calm_ret rfl (by kernel_rfl) rfl rfl ?_
            refine d_exec1 12 (by kernel_rfl) rfl ?_
            refine w_lookup (V := El.fv) (key := ty) hmi rfl rfl rfl ?_
            rw [sel_eq ty (by rw [mget_mputG, mget_mputG, mget_mputG]; rfl) (by decide)]
            refine w_ops_nil (d_next (fun _ => ⟨w92, rfl, hss⟩) ?_)
            refine d_pure 13 calm_ret rfl (by kernel_rfl) rfl rfl ?_
            refine d_done (by kernel_rfl) ?_
            exact w_meet (p5, p6, q5, q6) ⟨w92, rfl, hsd0.trans hss, cp5, cp6, cq5, cq6⟩ ⟨rfl, rfl, rfl, rfl, rfl, rfl, trivial⟩
          · skip
            refine w_insert (K := El.int) (V := El.fv) (key := 5) (u := (f3 b1 b3)) hmi rfl rfl rfl fun w93 hbw93 sw93 hmi => ?_
            replace cp5 := cp5.step sw93 (by simp) (by simp)
            replace cp6 := cp6.step sw93 (by simp) (by simp)
            replace cq5 := cq5.step sw93 (by simp) (by simp)
            replace cq6 := cq6.step sw93 (by simp) (by simp)
            replace hss := hss.trans (sw93.mono (by simp) (by simp))
            clear sw93
            refine w_ops_nil (d_next (fun _ => ⟨w93, rfl, hss⟩) ?_)
            refine d_exec1 3 (by kernel_rfl) rfl ?_
            refine w_insert (K := El.int) (V := El.fv) (key := 1) (u := (f1 b4 b1 b3 p5 p6)) hmi rfl rfl rfl fun w94 hbw94 sw94 hmi => ?_
            replace cp5 := cp5.step sw94 (by simp) (by simp)
            replace cp6 := cp6.step sw94 (by simp) (by simp)
            replace cq5 := cq5.step sw94 (by simp) (by simp)
            replace cq6 := cq6.step sw94 (by simp) (by simp)
            replace hss := hss.trans (sw94.mono (by simp) (by simp))
            clear sw94
            refine w_ops_nil (d_next (fun _ => ⟨w94, rfl, hss⟩) ?_)
            refine d_pure 9 calm_ret rfl (by kernel_rfl) rfl rfl ?_
            refine d_exec1 12 (by kernel_rfl) rfl ?_
            refine w_lookup (V := El.fv) (key := ty) hmi rfl rfl rfl ?_
            rw [sel_eq ty (by rw [mget_mputG, mget_mputG, mget_mputG]; rfl) (by decide)]
            refine w_ops_nil (d_next (fun _ => ⟨w94, rfl, hss⟩) ?_)
            refine d_pure 13 calm_ret rfl (by kernel_rfl) rfl rfl ?_
            refine d_done (by kernel_rfl) ?_
            exact w_meet (p5, p6, q5, q6) ⟨w94, rfl, hsd0.trans hss, cp5, cp6, cq5, cq6⟩ ⟨rfl, rfl, rfl, rfl, rfl, rfl, trivial⟩
        · skip
          refine w_insert (K := El.int) (V := El.fv) (key := 5) (u := (f3 b1 b3)) hmi rfl rfl rfl fun w95 hbw95 sw95 hmi => ?_
          replace cp5 := cp5.step sw95 (by simp) (by simp)
          replace cp6 := cp6.step sw95 (by simp) (by simp)
          replace cq5 := cq5.step sw95 (by simp) (by simp)
          replace cq6 := cq6.step sw95 (by simp) (by simp)
          replace hss := hss.trans (sw95.mono (by simp) (by simp))
          clear sw95
          refine w_ops_nil (d_next (fun _ => ⟨w95, rfl, hss⟩) ?_)
          refine d_exec2 3 6 (by kernel_rfl) rfl rfl ?_ ?_
          · skip
            refine w_insert (K := El.int) (V := El.fv) (key := 1) (u := (f1 b4 b1 b3 p5 p6)) hmi rfl rfl rfl fun w96 hbw96 sw96 hmi => ?_
            replace cp5 := cp5.step sw96 (by simp) (by simp)
            replace cp6 := cp6.step sw96 (by simp) (by simp)
            replace cq5 := cq5.step sw96 (by simp) (by simp)
            replace cq6 := cq6.step sw96 (by simp) (by simp)
            replace hss := hss.trans (sw96.mono (by simp) (by simp))
            clear sw96
            refine w_ops_nil (d_next (fun _ => ⟨w96, rfl, hss⟩) ?_)
            refine d_exec1 6 (by kernel_rfl) rfl ?_
            refine w_insert (K := El.int) (V := El.fv) (key := 28) (u := (f1 b4 b1 b3 q5 q6)) hmi rfl rfl rfl fun w97 hbw97 sw97 hmi => ?_
            replace cp5 := cp5.step sw97 (by simp) (by simp)
            replace cp6 := cp6.step sw97 (by simp) (by simp)
            replace cq5 := cq5.step sw97 (by simp) (by simp)
            replace cq6 := cq6.step sw97 (by simp) (by simp)
            replace hss := hss.trans (sw97.mono (by simp) (by simp))
            clear sw97
            refine w_ops_nil (d_next (fun _ => ⟨w97, rfl, hss⟩) ?_)
            refine d_pure 9 calm_ret rfl (by kernel_rfl) rfl rfl ?_
            refine d_exec1 12 (by kernel_rfl) rfl ?_
            refine w_lookup (V := El.fv) (key := ty) hmi rfl rfl rfl ?_
            rw [sel_eq ty (by rw [mget_mputG, mget_mputG, mget_mputG]; rfl) (by decide)]
            refine w_ops_nil (d_next (fun _ => ⟨w97, rfl, hss⟩) ?_)
            refine d_pure 13 calm_ret rfl (by kernel_rfl) rfl rfl ?_
            refine d_done (by kernel_rfl) ?_
            exact w_meet (p5, p6, q5, q6) ⟨w97, rfl, hsd0.trans hss, cp5, cp6, cq5, cq6⟩ ⟨rfl, rfl, rfl, rfl, rfl, rfl, trivial⟩
          · skip
            refine w_insert (K := El.int) (V := El.fv) (key := 28) (u := (f1 b4 b1 b3 q5 q6)) hmi rfl rfl rfl fun w98 hbw98 sw98 hmi => ?_
            replace cp5 := cp5.step sw98 (by simp) (by simp)
            replace cp6 := cp6.step sw98 (by simp) (by simp)
            replace cq5 := cq5.step sw98 (by simp) (by simp)
            replace cq6 := cq6.step sw98 (by simp) (by simp)
            replace hss := hss.trans (sw98.mono (by simp) (by simp))
            clear sw98
            refine w_ops_nil (d_next (fun _ => ⟨w98, rfl, hss⟩) ?_)
            refine d_exec1 3 (by kernel_rfl) rfl ?_
            refine w_insert (K := El.int) (V := El.fv) (key := 1) (u := (f1 b4 b1 b3 p5 p6)) hmi rfl rfl rfl fun w99 hbw99 sw99 hmi => ?_
            replace cp5 := cp5.step sw99 (by simp) (by simp)
            replace cp6 := cp6.step sw99 (by simp) (by simp)
            replace cq5 := cq5.step sw99 (by simp) (by simp)
            replace cq6 := cq6.step sw99 (by simp) (by simp)
            replace hss := hss.trans (sw99.mono (by simp) (by simp))
            clear sw99
            refine w_ops_nil (d_next (fun _ => ⟨w99, rfl, hss⟩) ?_)
            refine d_pure 9 calm_ret rfl (by kernel_rfl) rfl rfl ?_
            refine d_exec1 12 (by kernel_rfl) rfl ?_
            refine w_lookup (V := El.fv) (key := ty) hmi rfl rfl rfl ?_
            rw [sel_eq ty (by rw [mget_mputG, mget_mputG, mget_mputG]; rfl) (by decide)]
            refine w_ops_nil (d_next (fun _ => ⟨w99, rfl, hss⟩) ?_)
            refine d_pure 13 calm_ret rfl (by kernel_rfl) rfl rfl ?_
            refine d_done (by kernel_rfl) ?_
            exact w_meet (p5, p6, q5, q6) ⟨w99, rfl, hsd0.trans hss, cp5, cp6, cq5, cq6⟩ ⟨rfl, rfl, rfl, rfl, rfl, rfl, trivial⟩
  rintro ⟨p5, p6, q5, q6⟩ _ ⟨h6, rfl, hs6, cp5, cp6, cq5, cq6⟩
  dsimp only at cp5 cp6 cq5 cq6 ⊢
  replace hst := hst.trans (hs6.mono (by simp) (by simp))
  replace hr := hr.go hs6; replace hB := hB.go hs6; replace hc1 := hc1.go hs6; replace hc2 := hc2.go hs6; replace hc3 := hc3.go hs6; replace hc4 := hc4.go hs6
  clear hs6
  have hnil : selV (ty : Int) (f1 b4 b1 b3 p5 p6).1 (f1 b4 b1 b3 q5 q6).1 (f3 b1 b3).1 = .nilFunc ∨ ∃ f a1 a2, selV (ty : Int) (f1 b4 b1 b3 p5 p6).1 (f1 b4 b1 b3 q5 q6).1 (f3 b1 b3).1 = .func f a1 a2 := by
    unfold selV
    split
    · exact .inr ⟨_, _, _, rfl⟩
    · split
      · exact .inr ⟨_, _, _, rfl⟩
      · split
        · exact .inr ⟨_, _, _, rfl⟩
        · exact .inl rfl
  obtain ⟨ds, hds⟩ : ∃ ds, dataStep B n r0 s5 = ds := ⟨_, rfl⟩
  rw [hds]
  unfold dataStep at hds
  repeat (first|refine q1 ?_|refine q2 ?_|refine q3 ?_|refine q4 ?_|refine q5 ?_|refine q6 ?_|refine w_seq ?_|refine w_region ?_|refine w_ops_nil ?_|refine w_skip ?_|refine w_block ?_|refine w_blk ?_|refine q7 ?_|refine q8 ?_|refine q9 ?_)
  refine w_fnNil hnil rfl rfl rfl ?_
  repeat (first|refine q1 ?_|refine q2 ?_|refine q3 ?_|refine q4 ?_|refine q5 ?_|refine q6 ?_|refine w_seq ?_|refine w_region ?_|refine w_ops_nil ?_|refine w_skip ?_|refine w_blk ?_|refine q7 ?_|refine q8 ?_|refine q9 ?_)
  refine w_cut (ι := Value) (fun v => [(1, .pointer (some ⟨b1, 0, none⟩)), (2, .pointer (some ⟨b2, 0, none⟩)), (3, .pointer (some ⟨b3, 0, none⟩)), (5, .int .i64 ((s5.at_ : Int) + (n : Int))), (7, v)])
    (fun v w => h6.w = w ∧ CallsV Try.prog v [] h6 [61, 63] (fun _ h' => Rr h' p vB ds.2 ∧ Cell h' 63 b3 52 (El.rc.enc ds.1))) ?_ ?_
  · refine w_cond rfl (fun hx => ?_) (fun hx => ?_)
    · have h1 : ¬ (ty : Int) = 1 := fun e => by unfold selV at hx; rw [if_pos e] at hx; cases hx
      have h2 : ¬ (ty : Int) = 28 := fun e => by unfold selV at hx; rw [if_neg h1, if_pos e] at hx; cases hx
      have h3 : ¬ (ty : Int) = 5 := fun e => by unfold selV at hx; rw [if_neg h1, if_neg h2, if_pos e] at hx; cases hx
      rw [if_neg (fun e => h1 (hty.symm.trans e)), if_neg (fun e => h2 (hty.symm.trans e)), if_neg (fun e => h3 (hty.symm.trans e))] at hds
      subst hds
      repeat (first|refine q1 ?_|refine q2 ?_|refine q3 ?_|refine q4 ?_|refine q5 ?_|refine q6 ?_|refine w_seq ?_|refine w_region ?_|refine w_ops_nil ?_|refine w_skip ?_|refine w_block ?_|refine w_blk ?_|refine q7 ?_|refine q8 ?_|refine q9 ?_)
      exact w_meet _ ⟨rfl, 95, #[], #[.pointer (some ⟨b1, 0, none⟩), .pointer (some ⟨b4, 0, none⟩), .pointer (some ⟨b3, 0, none⟩)], inferInstance, rfl, rd_r3 p b1 b4 b3 n vB B s5 r0 h6 hr hB (by omega) (by omega) (by omega) hc1 hc4 hc3⟩ ⟨rfl, rfl, rfl, rfl, rfl, trivial⟩
    · by_cases h1 : (ty : Int) = 1
      · rw [if_pos (hty.trans h1)] at hds
        subst hds
        have e : selV (ty : Int) (f1 b4 b1 b3 p5 p6).1 (f1 b4 b1 b3 q5 q6).1 (f3 b1 b3).1 = (f1 b4 b1 b3 p5 p6).1 := by unfold selV; rw [if_pos h1]
        rw [e]
        repeat (first|refine q1 ?_|refine q2 ?_|refine q3 ?_|refine q4 ?_|refine q5 ?_|refine q6 ?_|refine w_seq ?_|refine w_region ?_|refine w_ops_nil ?_|refine w_skip ?_|refine w_block ?_|refine w_blk ?_|refine q7 ?_|refine q8 ?_|refine q9 ?_)
        have hF := rd_r11 p b4 p6 b1 p5 b3 n 4 4 vB B s5 r0 h6 hr hB (by omega) (by omega) hc4 cp6 cp5 hc1 hc3 (.inl rfl)
        exact w_meet (f1 b4 b1 b3 p5 p6).1 ⟨rfl, 93, #[], #[.pointer (some ⟨b4, 0, none⟩), .pointer (some ⟨p6, 0, none⟩), .pointer (some ⟨b1, 0, none⟩), .pointer (some ⟨p5, 0, none⟩), .pointer (some ⟨b3, 0, none⟩)], inferInstance, rfl, hF⟩ ⟨rfl, rfl, rfl, rfl, rfl, trivial⟩
      · by_cases h2 : (ty : Int) = 28
        · rw [if_neg (fun e => h1 (hty.symm.trans e)), if_pos (hty.trans h2)] at hds
          subst hds
          have e : selV (ty : Int) (f1 b4 b1 b3 p5 p6).1 (f1 b4 b1 b3 q5 q6).1 (f3 b1 b3).1 = (f1 b4 b1 b3 q5 q6).1 := by unfold selV; rw [if_neg h1, if_pos h2]
          rw [e]
          repeat (first|refine q1 ?_|refine q2 ?_|refine q3 ?_|refine q4 ?_|refine q5 ?_|refine q6 ?_|refine w_seq ?_|refine w_region ?_|refine w_ops_nil ?_|refine w_skip ?_|refine w_block ?_|refine w_blk ?_|refine q7 ?_|refine q8 ?_|refine q9 ?_)
          have hF := rd_r11 p b4 q6 b1 q5 b3 n 16 6 vB B s5 r0 h6 hr hB (by omega) (by omega) hc4 cq6 cq5 hc1 hc3 (.inr rfl)
          exact w_meet (f1 b4 b1 b3 q5 q6).1 ⟨rfl, 93, #[], #[.pointer (some ⟨b4, 0, none⟩), .pointer (some ⟨q6, 0, none⟩), .pointer (some ⟨b1, 0, none⟩), .pointer (some ⟨q5, 0, none⟩), .pointer (some ⟨b3, 0, none⟩)], inferInstance, rfl, hF⟩ ⟨rfl, rfl, rfl, rfl, rfl, trivial⟩
        · by_cases h3 : (ty : Int) = 5
          · rw [if_neg (fun e => h1 (hty.symm.trans e)), if_neg (fun e => h2 (hty.symm.trans e)), if_pos (hty.trans h3)] at hds
            subst hds
            have e : selV (ty : Int) (f1 b4 b1 b3 p5 p6).1 (f1 b4 b1 b3 q5 q6).1 (f3 b1 b3).1 = (f3 b1 b3).1 := by unfold selV; rw [if_neg h1, if_neg h2, if_pos h3]
            rw [e]
            repeat (first|refine q1 ?_|refine q2 ?_|refine q3 ?_|refine q4 ?_|refine q5 ?_|refine q6 ?_|refine w_seq ?_|refine w_region ?_|refine w_ops_nil ?_|refine w_skip ?_|refine w_block ?_|refine w_blk ?_|refine q7 ?_|refine q8 ?_|refine q9 ?_)
            have hF := rd_r2 p b1 b3 vB B s5 r0 h6 hr hB (by omega) (by omega) hc1 hc3
            exact w_meet (f3 b1 b3).1 ⟨rfl, 94, #[], #[.pointer (some ⟨b1, 0, none⟩), .pointer (some ⟨b3, 0, none⟩)], inferInstance, rfl, hF⟩ ⟨rfl, rfl, rfl, rfl, rfl, trivial⟩
          · unfold selV at hx
            rw [if_neg h1, if_neg h2, if_neg h3] at hx
            cases hx
  clear hr hc3 hnil
  rintro v _ ⟨rfl, hcv⟩
  repeat (first|refine q1 ?_|refine q2 ?_|refine q3 ?_|refine q4 ?_|refine q5 ?_|refine q6 ?_|refine w_seq ?_|refine w_region ?_|refine w_ops_nil ?_|refine w_skip ?_|refine w_block ?_|refine w_blk ?_|refine q7 ?_|refine q8 ?_|refine q9 ?_)
  refine w_callAny (by intro q; exact Operand.noConfusion) hcv rfl rfl rfl fun u k1 hk1 hR => ?_
  obtain ⟨hr, hc3⟩ := hR
  replace hst := hst.trans (hk1.mono (by simp) (by simp))
  replace hB := hB.go hk1; replace hc1 := hc1.go hk1; replace hc2 := hc2.go hk1
  have hr0 : Cell k1 61 p 109 [vB, .int .i64 (ds.2.at_ : Int), .int .i64 ds.2.e] := hr
  repeat (first|refine q1 ?_|refine q2 ?_|refine q3 ?_|refine q4 ?_|refine q5 ?_|refine q6 ?_|refine w_seq ?_|refine w_region ?_|refine w_ops_nil ?_|refine w_skip ?_|refine w_block ?_|refine w_blk ?_|refine q7 ?_|refine q8 ?_|refine q9 ?_)
  refine w_load1 (v := .pointer (some ⟨p, 0, none⟩)) hc1 rfl rfl rfl rfl ?_
  repeat (first|refine q1 ?_|refine q2 ?_|refine q3 ?_|refine q4 ?_|refine q5 ?_|refine q6 ?_|refine w_seq ?_|refine w_region ?_|refine w_ops_nil ?_|refine w_skip ?_|refine w_block ?_|refine w_blk ?_|refine q7 ?_|refine q8 ?_|refine q9 ?_)
  refine w_fldA (by decide) rfl rfl ?_
  refine w_load1 (v := .int .i64 (ds.2.at_ : Int)) hr0 rfl rfl rfl rfl ?_
  repeat (first|refine q1 ?_|refine q2 ?_|refine q3 ?_|refine q4 ?_|refine q5 ?_|refine q6 ?_|refine w_seq ?_|refine w_region ?_|refine w_ops_nil ?_|refine w_skip ?_|refine w_block ?_|refine w_blk ?_|refine q7 ?_|refine q8 ?_|refine q9 ?_)
  refine w_condP rfl (fun hx => ?_) (fun hx => ?_)
  · repeat (first|refine q1 ?_|refine q2 ?_|refine q3 ?_|refine q4 ?_|refine q5 ?_|refine q6 ?_|refine w_seq ?_|refine w_region ?_|refine w_ops_nil ?_|refine w_skip ?_|refine w_block ?_|refine w_blk ?_|refine q7 ?_|refine q8 ?_|refine q9 ?_)
    refine w_load1 (v := .pointer (some ⟨p, 0, none⟩)) hc1 rfl rfl rfl rfl ?_
    refine w_callF (vs := [.pointer (some ⟨p, 0, none⟩), .int .i64 2]) rfl (rd_fail p vB ds.2 2 k1 hr) rfl fun u k2 hk2 hr2 => ?_
    replace hst := hst.trans (hk2.mono (by simp) (by simp))
    replace hc2 := hc2.go hk2; replace hc3 := hc3.go hk2
    repeat (first|refine q1 ?_|refine q2 ?_|refine q3 ?_|refine q4 ?_|refine q5 ?_|refine q6 ?_|refine w_seq ?_|refine w_region ?_|refine w_ops_nil ?_|refine w_skip ?_|refine w_block ?_|refine w_blk ?_|refine q7 ?_|refine q8 ?_|refine q9 ?_)
    refine w_loadS (us := El.rc.enc ds.1) hc3 rfl rfl rfl rfl rfl ?_
    refine w_store (us := El.rc.enc ds.1) (vs' := El.rc.enc ds.1) hc2 rfl rfl rfl rfl (El.rc.flat _) (show 0 + 23 ≤ 23 by decide) rfl fun k3 hkb3 hk3 hc2 => ?_
    replace hst := hst.go hk3; replace hr2 := hr2.go hk3
    repeat (first|refine q1 ?_|refine q2 ?_|refine q3 ?_|refine q4 ?_|refine q5 ?_|refine q6 ?_|refine w_seq ?_|refine w_region ?_|refine w_ops_nil ?_|refine w_skip ?_|refine w_block ?_|refine w_blk ?_|refine q7 ?_|refine q8 ?_|refine q9 ?_)
    refine w_retG (resCs hc2 rfl rfl rfl rfl) hst fun h' hv' => ?_
    rw [if_pos (by omega)]
    exact ⟨rfl, hr2.view hv'⟩
  · repeat (first|refine q1 ?_|refine q2 ?_|refine q3 ?_|refine q4 ?_|refine q5 ?_|refine q6 ?_|refine w_seq ?_|refine w_region ?_|refine w_ops_nil ?_|refine w_skip ?_|refine w_block ?_|refine w_blk ?_|refine q7 ?_|refine q8 ?_|refine q9 ?_)
    refine w_loadS (us := El.rc.enc ds.1) hc3 rfl rfl rfl rfl rfl ?_
    refine w_store (us := El.rc.enc ds.1) (vs' := El.rc.enc ds.1) hc2 rfl rfl rfl rfl (El.rc.flat _) (show 0 + 23 ≤ 23 by decide) rfl fun k3 hkb3 hk3 hc2 => ?_
    replace hst := hst.go hk3; replace hr := hr.go hk3
    repeat (first|refine q1 ?_|refine q2 ?_|refine q3 ?_|refine q4 ?_|refine q5 ?_|refine q6 ?_|refine w_seq ?_|refine w_region ?_|refine w_ops_nil ?_|refine w_skip ?_|refine w_block ?_|refine w_blk ?_|refine q7 ?_|refine q8 ?_|refine q9 ?_)
    refine w_retG (resCs hc2 rfl rfl rfl rfl) hst fun h' hv' => ?_
    rw [if_neg (by omega)]
    exact ⟨rfl, hr.view hv'⟩
end Go.Proofs.Ytnfokdhgajanpaa
