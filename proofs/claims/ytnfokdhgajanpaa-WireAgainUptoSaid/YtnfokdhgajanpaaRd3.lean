/- Messages are read: the functions that read a record's data. No statement of the seat is proved here. -/
import Derived.Test.YtnfokdhgajanpaaRd2
set_option linter.unusedVariables false
set_option linter.unusedSimpArgs false
namespace Go.Proofs.Ytnfokdhgajanpaa
open Go
attribute [local irreducible] Wp
/-- Any value of one cell. -/
def El.fv : El {v : Value // v.oneCell' = true} := ⟨1, false, fun v => [v.1], fun _ => rfl, fun _ => rfl, by decide, by intro x u hu; simp at hu; subst hu; exact x.2⟩
section
variable {P : Program} {Z : Exit → Act → World → Prop} {N : Nat} {k : List It} {s : Env} {w : World} {g : G}
variable {all : Array Oper} {rest : List Oper} {ty : TypeId} {pos : String} {af : Array Edge} {d : Nat}
/-- A function held against nil. -/
theorem w_fnEqNil {x y : Operand} {T yt : TypeId} {a b : Array TypeId} {vr : Bool} [hT : Und P T (.func a b vr)] {f : Go.Fn} {a1 a2 : Array Value} (hx : evalS s x = some (.func f a1 a2)) (hy : evalS s y = some .nilFunc) (hdN : Nat.ble (d + 1) N = true)
    (hk : Wp P Z N (.ops all rest :: k) ((d, .bool false) :: s) w) : Wp P Z N (.ops all (⟨some d, .binOp .eql T x y yt, ty, pos, af, none⟩ :: rest) :: k) s w :=
  w_val (fun ac ha => by
    simp only [execOp, ha.eval hx, ha.eval hy]
    have he : (eqGuard .eql T x y (.func f a1 a2) .nilFunc).run P w = .ok () w := rfl
    have h1 : ∀ q, (Op.equalIn (q + 1) T (.func f a1 a2) .nilFunc).run P w = .ok false w := fun q => by
      simp [Op.equalIn, run_underlying hT.eq]
    rw [Sem.run_bind, Sem.run_bind, he, Result.andThen_ok]
    simp only [binOp, Op.equal, Op.maxDepth, Sem.run_bind, h1 9999]
    rfl) hdN hk
theorem w_nilEqNil {x y : Operand} {T yt : TypeId} {a b : Array TypeId} {vr : Bool} [hT : Und P T (.func a b vr)] (hx : evalS s x = some .nilFunc) (hy : evalS s y = some .nilFunc) (hdN : Nat.ble (d + 1) N = true)
    (hk : Wp P Z N (.ops all rest :: k) ((d, .bool true) :: s) w) : Wp P Z N (.ops all (⟨some d, .binOp .eql T x y yt, ty, pos, af, none⟩ :: rest) :: k) s w :=
  w_val (fun ac ha => by
    simp only [execOp, ha.eval hx, ha.eval hy]
    have he : (eqGuard .eql T x y .nilFunc .nilFunc).run P w = .ok () w := rfl
    have h1 : ∀ q, (Op.equalIn (q + 1) T .nilFunc .nilFunc).run P w = .ok true w := fun q => by
      simp [Op.equalIn, run_underlying hT.eq]
    rw [Sem.run_bind, Sem.run_bind, he, Result.andThen_ok]
    simp only [binOp, Op.equal, Op.maxDepth, Sem.run_bind, h1 9999]
    rfl) hdN hk
theorem r_lookup {κ ν : Type} [DecidableEq κ] {K : El κ} {V : El ν} {c b : Nat} {m : List (κ × ν)}
    {x y : Operand} {T kt vt : TypeId} [hT : Und P T (.map kt vt)] [hK : KeyEq P kt K] {sz bts : Nat} {z : Value} [hi : Inf P vt sz bts z] {key : κ} (hm : MapIs g c b K V m) (hx : evalS s x = some (.map (some b))) (hy : evalS s y = some (K.val key)) :
    ∀ ac, Fits N s ac → (execOp ac.eval ⟨some d, .lookup T x y false, ty, pos, af, none⟩).run P g.w = .ok (.value (optV V z (mget key m))) g.w := fun ac ha => by
  obtain ⟨es, cl, h1, h2, h3, hst, hf⟩ := run_find (P := P) (T := kt) hm key
  simp only [execOp, ha.eval hx, ha.eval hy, Instr.lookup]
  simp only [Sem.run_bind, run_underlying hT.eq, Result.andThen_ok, run_getMap h1, Sem.run_pure, hK.chk, hf]
  cases hg : mget key m with
  | none => rw [(idx_none key m).2 hg]; simp [zero_inf hi, optV]
  | some u =>
    have hne : ¬ ((m.map (·.1)).findIdx? (fun y => decide (key = y))) = none := fun e => by rw [(idx_none key m).1 e] at hg; cases hg
    obtain ⟨i, hi'⟩ := Option.ne_none_iff_exists'.1 hne
    rw [hi']; simp [optV]
end
/-- A cell is given up: from now on it is only read. -/
theorem Cell.freeze {g : G} {c b : Nat} {T : TypeId} {vs : List Value} (hc : Cell g c b T vs) : ∃ h : G, h.w = g.w ∧ Step [] [c] g h ∧ Cell h 0 b T vs :=
  ⟨g.paint b 0, rfl, (Step.paint g b 0).cols (by intro x hx _; simp at hx; subst hx; rw [hc.2]; simp) (by simp), hc.1, by simp [G.paint]⟩
def setB (b : Fin 16 → UInt8) (l : List UInt8) : Fin 16 → UInt8 := fun i => l[i.val]?.getD (b i)
theorem enc_addr (r : Rc) (fam : Int) (l : List UInt8) (hl : l.length = 4 ∨ l.length = 16) :
    (El.rc.enc { r with addr := ⟨fam, r.addr.b⟩ }).take 5 ++ (l.take (min l.length 16)).map bv ++ (El.rc.enc { r with addr := ⟨fam, r.addr.b⟩ }).drop (5 + min l.length 16) = El.rc.enc { r with addr := ⟨fam, setB r.addr.b l⟩ } := by
  rcases hl with h | h
  · match l, h with
    | [a, b, c, d], _ => rfl
  · match l, h with
    | [a0, a1, a2, a3, a4, a5, a6, a7, a8, a9, a10, a11, a12, a13, a14, a15], _ => rfl

theorem rd_r1 (fam size : Int) (bn br bx : Nat) (g : G) : Fn Try.prog 92 [.int .i64 fam, .int .i64 size, .pointer (some ⟨bn, 0, none⟩), .pointer (some ⟨br, 0, none⟩), .pointer (some ⟨bx, 0, none⟩)] g [] fun u h =>
    ∃ b5 b6, u = .func (.func 93) #[] #[.pointer (some ⟨bn, 0, none⟩), .pointer (some ⟨b6, 0, none⟩), .pointer (some ⟨br, 0, none⟩), .pointer (some ⟨b5, 0, none⟩), .pointer (some ⟨bx, 0, none⟩)] ∧ Cell h 0 b5 3 [.int .i64 fam] ∧ Cell h 0 b6 3 [.int .i64 size] := by
  refine enterG [] [41, 42] Try.func92 rfl Try.ntmps92 rfl (by simp) fun g1 hv ho => ?_
  repeat (first|refine q1 ?_|refine q2 ?_|refine q3 ?_|refine q4 ?_|refine q5 ?_|refine q6 ?_|refine w_seq ?_|refine w_region ?_|refine w_ops_nil ?_|refine w_skip ?_|refine w_block ?_|refine w_blk ?_|refine q7 ?_|refine q8 ?_|refine q9 ?_)
  refine w_box 41 (vs := [.int .i64 fam]) rfl rfl rfl fun h1 b5 hs1 hc5 => ?_
  have hst : Step [] [41, 42] g1 h1 := hs1.nil
  repeat (first|refine q1 ?_|refine q2 ?_|refine q3 ?_|refine q4 ?_|refine q5 ?_|refine q6 ?_|refine w_seq ?_|refine w_region ?_|refine w_ops_nil ?_|refine w_skip ?_|refine w_block ?_|refine w_blk ?_|refine q7 ?_|refine q8 ?_|refine q9 ?_)
  refine w_box 42 (vs := [.int .i64 size]) rfl rfl rfl fun h2 b6 hs2 hc6 => ?_
  replace hst := hst.go hs2; replace hc5 := hc5.go hs2
  repeat (first|refine q1 ?_|refine q2 ?_|refine q3 ?_|refine q4 ?_|refine q5 ?_|refine q6 ?_|refine w_seq ?_|refine w_region ?_|refine w_ops_nil ?_|refine w_skip ?_|refine w_block ?_|refine w_blk ?_|refine q7 ?_|refine q8 ?_|refine q9 ?_)
  obtain ⟨h3, hw3, hs3, hf5⟩ := hc5.freeze
  replace hst := hst.trans (hs3.mono (by simp) (by simp))
  replace hc6 := hc6.go hs3
  obtain ⟨h4, hw4, hs4, hf6⟩ := hc6.freeze
  replace hst := hst.trans (hs4.mono (by simp) (by simp))
  replace hf5 := hf5.step hs4 (by simp) (by simp)
  rw [← hw3, ← hw4]
  exact w_retG (res1 rfl rfl) hst fun h' hv' => ⟨b5, b6, rfl, hf5.view hv' (.inl rfl), hf6.view hv' (.inl rfl)⟩

def addrP (B : List UInt8) (fam : Int) (size n : Nat) (r : Rc) (s : Rs) : Rc × Rs :=
  if n ≠ size then (r, failP s 2) else ({ r with addr := ⟨fam, setB r.addr.b (rawP B size s).1⟩ }, (rawP B size s).2)
theorem rd_r11 (p bn b6 br b5 bx : Nat) (n size : Nat) (fam : Int) (vB : Value) (B : List UInt8) (s : Rs) (r : Rc) (g : G) (hr : Rr g p vB s) (hB : Rd g 0 El.u8 vB B) (hl : B.length ≤ 100000) (hs : s.at_ ≤ 100000)
    (hn : Cell g 66 bn 3 [.int .i64 (n : Int)]) (h6 : Cell g 0 b6 3 [.int .i64 (size : Int)]) (h5 : Cell g 0 b5 3 [.int .i64 fam]) (hbr : Cell g 64 br 107 [.pointer (some ⟨p, 0, none⟩)])
    (hx : Cell g 63 bx 52 (El.rc.enc r)) (hsz : size = 4 ∨ size = 16) :
    Fn Try.prog 93 [.pointer (some ⟨bn, 0, none⟩), .pointer (some ⟨b6, 0, none⟩), .pointer (some ⟨br, 0, none⟩), .pointer (some ⟨b5, 0, none⟩), .pointer (some ⟨bx, 0, none⟩)] g [61, 63] fun _ h =>
      Rr h p vB (addrP B fam size n r s).2 ∧ Cell h 63 bx 52 (El.rc.enc (addrP B fam size n r s).1) := by
  refine enterG [61, 63] [] Try.func93 rfl Try.ntmps93 rfl (by simp) fun g1 hv ho => ?_
  replace hr := hr.view hv
  replace hB := hB.view hv (.inl rfl)
  replace hx := hx.view hv (.inr (by simp))
  replace h5 := h5.view hv (.inl rfl)
  replace h6 := h6.view hv (.inl rfl)
  obtain ⟨c1, hc1, hn⟩ := hn.seen hv ho (by simp)
  obtain ⟨c2, hc2, hbr⟩ := hbr.seen hv ho (by simp)
  repeat (first|refine q1 ?_|refine q2 ?_|refine q3 ?_|refine q4 ?_|refine q5 ?_|refine q6 ?_|refine w_seq ?_|refine w_region ?_|refine w_ops_nil ?_|refine w_skip ?_|refine w_block ?_|refine w_blk ?_|refine q7 ?_|refine q8 ?_|refine q9 ?_)
  refine w_load1 (v := .int .i64 (n : Int)) hn rfl rfl rfl rfl ?_
  refine w_load1 (v := .int .i64 (size : Int)) h6 rfl rfl rfl rfl ?_
  repeat (first|refine q1 ?_|refine q2 ?_|refine q3 ?_|refine q4 ?_|refine q5 ?_|refine q6 ?_|refine w_seq ?_|refine w_region ?_|refine w_ops_nil ?_|refine w_skip ?_|refine w_block ?_|refine w_blk ?_|refine q7 ?_|refine q8 ?_|refine q9 ?_)
  refine w_condP rfl (fun hne => ?_) (fun hne => ?_)
  · repeat (first|refine q1 ?_|refine q2 ?_|refine q3 ?_|refine q4 ?_|refine q5 ?_|refine q6 ?_|refine w_seq ?_|refine w_region ?_|refine w_ops_nil ?_|refine w_skip ?_|refine w_block ?_|refine w_blk ?_|refine q7 ?_|refine q8 ?_|refine q9 ?_)
    refine w_load1 (v := .pointer (some ⟨p, 0, none⟩)) hbr rfl rfl rfl rfl ?_
    refine w_callF (vs := [.pointer (some ⟨p, 0, none⟩), .int .i64 2]) rfl (rd_fail p vB s 2 g1 hr) rfl fun u h2 hs2 hr2 => ?_
    replace hx := hx.go hs2
    repeat (first|refine q1 ?_|refine q2 ?_|refine q3 ?_|refine q4 ?_|refine q5 ?_|refine q6 ?_|refine w_seq ?_|refine w_region ?_|refine w_ops_nil ?_|refine w_skip ?_|refine w_block ?_|refine w_blk ?_|refine q7 ?_|refine q8 ?_|refine q9 ?_)
    refine w_retG (res0 rfl) (hs2.mono (by simp) (by simp)) fun h' hv' => ?_
    unfold addrP; rw [if_pos (by omega)]
    exact ⟨hr2.view hv', hx.view hv' (.inr (by simp))⟩
  · have hne : n = size := by omega
    repeat (first|refine q1 ?_|refine q2 ?_|refine q3 ?_|refine q4 ?_|refine q5 ?_|refine q6 ?_|refine w_seq ?_|refine w_region ?_|refine w_ops_nil ?_|refine w_skip ?_|refine w_block ?_|refine w_blk ?_|refine q7 ?_|refine q8 ?_|refine q9 ?_)
    refine w_load1 (v := .int .i64 fam) h5 rfl rfl rfl rfl ?_
    repeat (first|refine q1 ?_|refine q2 ?_|refine q3 ?_|refine q4 ?_|refine q5 ?_|refine q6 ?_|refine w_seq ?_|refine w_region ?_|refine w_ops_nil ?_|refine w_skip ?_|refine w_block ?_|refine w_blk ?_|refine q7 ?_|refine q8 ?_|refine q9 ?_)
    refine w_fldA (by decide) rfl rfl ?_
    refine w_fldA (by decide) rfl rfl ?_
    refine w_store1 hx rfl rfl rfl (show 4 < 23 by decide) fun h2 hb2 hs2 hx => ?_
    have hst : Step [] [61, 63] g1 h2 := hs2.mono (by simp) (by simp)
    have hx : Cell h2 63 bx 52 (El.rc.enc { r with addr := ⟨fam, r.addr.b⟩ }) := hx
    replace hn := hn.step hs2 (by simp; omega) (by simp)
    replace hbr := hbr.step hs2 (by simp; omega) (by simp)
    replace h6 := h6.step hs2 (by simp) (by simp)
    replace hr := hr.go hs2; replace hB := hB.go hs2
    repeat (first|refine q1 ?_|refine q2 ?_|refine q3 ?_|refine q4 ?_|refine q5 ?_|refine q6 ?_|refine w_seq ?_|refine w_region ?_|refine w_ops_nil ?_|refine w_skip ?_|refine w_block ?_|refine w_blk ?_|refine q7 ?_|refine q8 ?_|refine q9 ?_)
    refine d_begin none [61, 63] (by kernel_rfl) fun g2 hsd => ?_
    replace hn := hn.step hsd (by simp) (by simp)
    replace hbr := hbr.step hsd (by simp) (by simp)
    replace h6 := h6.step hsd (by simp) (by simp)
    replace hst := hst.go hsd; replace hr := hr.go hsd; replace hB := hB.go hsd; replace hx := hx.go hsd
    refine d_read 0 calm_ret rfl (by kernel_rfl) rfl  (fun h hs => r_fldA (by decide) rfl) ?_
    refine d_read 1 calm_ret rfl (by kernel_rfl) rfl  (fun h hs => r_fldA (by decide) rfl) ?_
    refine d_read 2 calm_ret rfl (by kernel_rfl) rfl  (fun h hs => r_slA rfl rfl (by decide)) ?_
    refine d_read 3 calm_ret rfl (by kernel_rfl) rfl  (fun h hs => r_load1 (v := .pointer (some ⟨p, 0, none⟩)) (hbr.step hs (by simp; omega) (by simp)) rfl rfl rfl) ?_
    refine d_read 4 calm_ret rfl (by kernel_rfl) rfl  (fun h hs => r_load1 (v := .int .i64 (size : Int)) (h6.step hs (by simp) (by simp)) rfl rfl rfl) ?_
    refine d_exec1 5 (by kernel_rfl) rfl ?_
    refine w_callF (vs := [.pointer (some ⟨p, 0, none⟩), .int .i64 (size : Int)]) rfl (rd_raw p vB B size s g2 hr hB hl (by omega) hs) rfl fun v1 k1 hk1 hR => ?_
    obtain ⟨hraw, hr⟩ := hR
    have hsb : Step [] [61, 63] g2 k1 := hk1.mono (by simp) (by simp)
    replace hst := hst.trans hsb
    replace hx := hx.go hk1
    repeat (first|refine q1 ?_|refine q2 ?_|refine q3 ?_|refine q4 ?_|refine q5 ?_|refine q6 ?_|refine w_seq ?_|refine w_region ?_|refine w_ops_nil ?_|refine w_skip ?_|refine w_block ?_|refine w_blk ?_|refine q7 ?_|refine q8 ?_|refine q9 ?_)
    refine d_next (fun _ => ⟨k1, rfl, hsb⟩) ?_
    refine d_exec1 6 (by kernel_rfl) rfl ?_
    have hlen := rawP_len B size s
    refine w_copyB (vs' := El.rc.enc { r with addr := ⟨fam, setB r.addr.b (rawP B size s).1⟩ }) hx hraw rfl rfl (by rw [El.rc.len]; show 5 + min _ 16 ≤ 23; omega) (enc_addr r fam _ (by rw [hlen]; exact hsz)) rfl fun k2 hkb2 hk2 hx => ?_
    have hsb2 := hsb.trans (hk2.mono (by simp) (by simp))
    replace hst := hst.trans (hk2.mono (by simp) (by simp))
    replace hr := hr.go hk2
    repeat (first|refine q1 ?_|refine q2 ?_|refine q3 ?_|refine q4 ?_|refine q5 ?_|refine q6 ?_|refine w_seq ?_|refine w_region ?_|refine w_ops_nil ?_|refine w_skip ?_|refine w_block ?_|refine w_blk ?_|refine q7 ?_|refine q8 ?_|refine q9 ?_)
    refine d_next (fun _ => ⟨k2, rfl, hsb2⟩) ?_
    refine d_done (by kernel_rfl) ?_
    repeat (first|refine q1 ?_|refine q2 ?_|refine q3 ?_|refine q4 ?_|refine q5 ?_|refine q6 ?_|refine w_seq ?_|refine w_region ?_|refine w_ops_nil ?_|refine w_skip ?_|refine w_block ?_|refine w_blk ?_|refine q7 ?_|refine q8 ?_|refine q9 ?_)
    refine w_endG (res0 rfl) hst fun h' hv' => ?_
    unfold addrP; rw [if_neg (by omega)]
    exact ⟨hr.view hv', hx.view hv' (.inr (by simp))⟩
theorem rd_r2 (p br bx : Nat) (vB : Value) (B : List UInt8) (s : Rs) (r : Rc) (g : G) (hr : Rr g p vB s) (hB : Rd g 0 El.u8 vB B) (hl : B.length ≤ 100000) (hs : s.at_ ≤ 100000)
    (hbr : Cell g 64 br 107 [.pointer (some ⟨p, 0, none⟩)]) (hx : Cell g 63 bx 52 (El.rc.enc r)) :
    Fn Try.prog 94 [.pointer (some ⟨br, 0, none⟩), .pointer (some ⟨bx, 0, none⟩)] g [61, 63] fun _ h =>
      Rr h p vB (nameP B s).2 ∧ Cell h 63 bx 52 (El.rc.enc { r with target := (nameP B s).1 }) := by
  refine enterG [61, 63] [] Try.func94 rfl Try.ntmps94 rfl (by simp) fun g1 hv ho => ?_
  replace hr := hr.view hv
  replace hB := hB.view hv (.inl rfl)
  replace hx := hx.view hv (.inr (by simp))
  obtain ⟨c2, hc2, hbr⟩ := hbr.seen hv ho (by simp)
  repeat (first|refine q1 ?_|refine q2 ?_|refine q3 ?_|refine q4 ?_|refine q5 ?_|refine q6 ?_|refine w_seq ?_|refine w_region ?_|refine w_ops_nil ?_|refine w_skip ?_|refine w_block ?_|refine w_blk ?_|refine q7 ?_|refine q8 ?_|refine q9 ?_)
  refine w_load1 (v := .pointer (some ⟨p, 0, none⟩)) hbr rfl rfl rfl rfl ?_
  refine w_callF (vs := [.pointer (some ⟨p, 0, none⟩)]) rfl (rd_name p vB B s g1 hr hB hl hs) rfl fun u h2 hs2 hR => ?_
  obtain ⟨rfl, hr⟩ := hR
  have hst : Step [] [61, 63] g1 h2 := hs2.mono (by simp) (by simp)
  replace hx := hx.go hs2
  repeat (first|refine q1 ?_|refine q2 ?_|refine q3 ?_|refine q4 ?_|refine q5 ?_|refine q6 ?_|refine w_seq ?_|refine w_region ?_|refine w_ops_nil ?_|refine w_skip ?_|refine w_block ?_|refine w_blk ?_|refine q7 ?_|refine q8 ?_|refine q9 ?_)
  refine w_fldA (by decide) rfl rfl ?_
  refine w_store1 hx rfl rfl rfl (show 21 < 23 by decide) fun h3 hb3 hs3 hx => ?_
  replace hst := hst.trans (hs3.mono (by simp) (by simp))
  have hx : Cell h3 63 bx 52 (El.rc.enc { r with target := (nameP B s).1 }) := hx
  replace hr := hr.go hs3
  repeat (first|refine q1 ?_|refine q2 ?_|refine q3 ?_|refine q4 ?_|refine q5 ?_|refine q6 ?_|refine w_seq ?_|refine w_region ?_|refine w_ops_nil ?_|refine w_skip ?_|refine w_block ?_|refine w_blk ?_|refine q7 ?_|refine q8 ?_|refine q9 ?_)
  exact w_endG (res0 rfl) hst fun h' hv' => ⟨hr.view hv', hx.view hv' (.inr (by simp))⟩
theorem rd_r3 (p br bn bx : Nat) (n : Nat) (vB : Value) (B : List UInt8) (s : Rs) (r : Rc) (g : G) (hr : Rr g p vB s) (hB : Rd g 0 El.u8 vB B) (hl : B.length ≤ 100000) (hs : s.at_ ≤ 100000) (hn0 : n ≤ 100000)
    (hbr : Cell g 64 br 107 [.pointer (some ⟨p, 0, none⟩)]) (hn : Cell g 66 bn 3 [.int .i64 (n : Int)]) (hx : Cell g 63 bx 52 (El.rc.enc r)) :
    Fn Try.prog 95 [.pointer (some ⟨br, 0, none⟩), .pointer (some ⟨bn, 0, none⟩), .pointer (some ⟨bx, 0, none⟩)] g [61, 63] fun _ h =>
      Rr h p vB (rawP B n s).2 ∧ Cell h 63 bx 52 (El.rc.enc { r with data := (rawP B n s).1 }) := by
  refine enterG [61, 63] [] Try.func95 rfl Try.ntmps95 rfl (by simp) fun g1 hv ho => ?_
  replace hr := hr.view hv
  replace hB := hB.view hv (.inl rfl)
  replace hx := hx.view hv (.inr (by simp))
  obtain ⟨c1, hc1, hn⟩ := hn.seen hv ho (by simp)
  obtain ⟨c2, hc2, hbr⟩ := hbr.seen hv ho (by simp)
  repeat (first|refine q1 ?_|refine q2 ?_|refine q3 ?_|refine q4 ?_|refine q5 ?_|refine q6 ?_|refine w_seq ?_|refine w_region ?_|refine w_ops_nil ?_|refine w_skip ?_|refine w_block ?_|refine w_blk ?_|refine q7 ?_|refine q8 ?_|refine q9 ?_)
  refine w_load1 (v := .pointer (some ⟨p, 0, none⟩)) hbr rfl rfl rfl rfl ?_
  refine w_load1 (v := .int .i64 (n : Int)) hn rfl rfl rfl rfl ?_
  refine w_callF (vs := [.pointer (some ⟨p, 0, none⟩), .int .i64 (n : Int)]) rfl (rd_raw p vB B n s g1 hr hB hl hn0 hs) rfl fun v1 h2 hs2 hR => ?_
  obtain ⟨hraw, hr⟩ := hR
  have hst : Step [] [61, 63] g1 h2 := hs2.mono (by simp) (by simp)
  replace hx := hx.go hs2
  repeat (first|refine q1 ?_|refine q2 ?_|refine q3 ?_|refine q4 ?_|refine q5 ?_|refine q6 ?_|refine w_seq ?_|refine w_region ?_|refine w_ops_nil ?_|refine w_skip ?_|refine w_block ?_|refine w_blk ?_|refine q7 ?_|refine q8 ?_|refine q9 ?_)
  refine w_b2s hraw rfl rfl ?_
  repeat (first|refine q1 ?_|refine q2 ?_|refine q3 ?_|refine q4 ?_|refine q5 ?_|refine q6 ?_|refine w_seq ?_|refine w_region ?_|refine w_ops_nil ?_|refine w_skip ?_|refine w_block ?_|refine w_blk ?_|refine q7 ?_|refine q8 ?_|refine q9 ?_)
  refine w_fldA (by decide) rfl rfl ?_
  refine w_store1 hx rfl rfl rfl (show 22 < 23 by decide) fun h3 hb3 hs3 hx => ?_
  replace hst := hst.trans (hs3.mono (by simp) (by simp))
  have hx : Cell h3 63 bx 52 (El.rc.enc { r with data := (rawP B n s).1 }) := hx
  replace hr := hr.go hs3
  repeat (first|refine q1 ?_|refine q2 ?_|refine q3 ?_|refine q4 ?_|refine q5 ?_|refine q6 ?_|refine w_seq ?_|refine w_region ?_|refine w_ops_nil ?_|refine w_skip ?_|refine w_block ?_|refine w_blk ?_|refine q7 ?_|refine q8 ?_|refine q9 ?_)
  exact w_endG (res0 rfl) hst fun h' hv' => ⟨hr.view hv', hx.view hv' (.inr (by simp))⟩
end Go.Proofs.Ytnfokdhgajanpaa
