/- The engine, part 5: regions that draw their order. No statement of the seat is proved here. -/
import Derived.Test.YtnfokdhgajanpaaEng4
set_option linter.unusedVariables false
set_option linter.unusedSimpArgs false
namespace Go.Proofs.Ytnfokdhgajanpaa
open Go

/-- The worlds that may stand in a region that began at g: what M does not name is as it was. -/
def SB (M : List Nat) (g : G) (w : World) : Prop := ∃ h : G, h.w = w ∧ Step [] M g h

/-! Every order a region may draw, in phases: until the operation `st` comes up (none: for ever), S holds. -/
def live (st : Option Nat) (listed : Array Bool) : Bool := match st with
  | none => true
  | some j => !(listed.getD j false)
def below (ops : Array Oper) (i : Nat) : Nat → Nat → Bool
  | 0, _ => false
  | f + 1, j => ((ops[j]?).map fun o => o.after.any fun e => Region.binds .any e && (Nat.beq e.on i || below ops i f e.on)).getD false
def Closed (ops : Array Oper) (listed : Array Bool) : Prop := ∀ j, listed.getD j false = true → ∀ o, ops[j]? = some o → ∀ e ∈ o.after, Region.binds .any e = true → listed.getD e.on false = true
def closedB (ops : Array Oper) (listed : Array Bool) : Bool := (List.range ops.size).all fun j => !(listed.getD j false) || ((ops[j]?).map fun o => o.after.all fun e => !(Region.binds .any e) || listed.getD e.on false).getD true
theorem closedB_spec {ops : Array Oper} {listed : Array Bool} (h : closedB ops listed = true) : Closed ops listed := by
  intro j hj o ho e he hb
  have hlt : j < ops.size := (Array.getElem?_eq_some_iff.1 ho).1
  have := List.all_eq_true.1 h j (by simpa using hlt)
  simp only [hj, ho, Bool.not_true, Bool.false_or, Option.map_some, Option.getD_some] at this
  have := Array.all_eq_true_iff_forall_mem.1 this e he
  simpa [hb] using this
theorem getD_set_true' {listed : Array Bool} {i j : Nat} (h : listed.getD j false = true) : (listed.setIfInBounds i true).getD j false = true := by
  by_cases hij : i = j
  · subst hij
    have hlt : i < listed.size := by
      rcases Nat.lt_or_ge i listed.size with h' | h'
      · exact h'
      · simp [Array.getElem?_eq_none h'] at h
    simp [hlt]
  · rw [getD_set_ne false hij]; exact h
theorem Closed.set {ops : Array Oper} {listed : Array Bool} (hc : Closed ops listed) {j : Nat} (hj : j ∈ Region.ready .any ops listed) : Closed ops (listed.setIfInBounds j true) := by
  intro k hk o ho e he hb
  by_cases hjk : j = k
  · subst hjk
    obtain ⟨_, o', ho', hall⟩ := mem_ready.1 hj
    rw [ho] at ho'; injection ho' with ho'; subst ho'
    exact getD_set_true' (hall e he hb)
  · rw [getD_set_ne false hjk] at hk
    exact getD_set_true' (hc k hk o ho e he hb)
theorem below_listed {ops : Array Oper} {listed : Array Bool} {i : Nat} (hc : Closed ops listed) : ∀ (f j : Nat), below ops i f j = true → (∀ o, ops[j]? = some o → ∀ e ∈ o.after, Region.binds .any e = true → listed.getD e.on false = true) → listed.getD i false = true
  | 0, j, h, _ => by cases h
  | f + 1, j, h, hd => by
    simp only [below] at h
    cases ho : ops[j]? with
    | none => rw [ho] at h; cases h
    | some o =>
      rw [ho] at h
      simp only [Option.map_some, Option.getD_some] at h
      obtain ⟨e, he, hx⟩ := Array.any_eq_true'.1 h
      simp only [Bool.and_eq_true, Bool.or_eq_true, Nat.beq_eq] at hx
      have hl := hd o ho e he hx.1
      rcases hx.2 with hx | hx
      · rw [← hx]; exact hl
      · exact below_listed hc f e.on hx (fun o' ho' e' he' hb' => hc e.on hl o' ho' e' he' hb')

def wpG (P : Program) (ops : Array Oper) (Q : Exit → Act → World → Prop) (st : Option Nat) (S : World → Prop) : Nat → Array Bool → Act → World → Prop
  | 0, listed, a, w => Region.ready .any ops listed = [] ∧ Q .normal a w
  | fuel + 1, listed, a, w =>
    (Region.ready .any ops listed = [] → Q .normal a w) ∧
    ∀ i ∈ Region.ready .any ops listed, wpOp P ops Q i (fun a' w' => (live st (listed.setIfInBounds i true) = true → S w') ∧ wpG P ops Q st S fuel (listed.setIfInBounds i true) a' w') a w
section
variable {P : Program} {ops : Array Oper} {Q : Exit → Act → World → Prop} {st : Option Nat} {S : World → Prop}
theorem wpAny_of_G : ∀ (fuel : Nat) (listed : Array Bool) (a : Act) (w : World), wpG P ops Q st S fuel listed a w → wpAny P .any ops Q fuel listed a w
  | 0, _, _, _, h => h
  | fuel + 1, _, _, _, h => ⟨h.1, fun i hi => wpOp_mono (fun a' w' h' => wpAny_of_G fuel _ a' w' h'.2) (h.2 i hi)⟩
theorem live_set {listed : Array Bool} {i : Nat} (h : live st listed = false) : live st (listed.setIfInBounds i true) = false := by
  cases st with
  | none => cases h
  | some j => simp only [live, Bool.not_eq_false'] at h ⊢; exact getD_set_true' h
theorem wpG_of_any : ∀ (fuel : Nat) (listed : Array Bool) (a : Act) (w : World), live st listed = false → wpAny P .any ops Q fuel listed a w → wpG P ops Q st S fuel listed a w
  | 0, _, _, _, _, h => h
  | fuel + 1, listed, _, _, hl, h => ⟨h.1, fun i hi => wpOp_mono (fun a' w' h' => ⟨fun hx => (by rw [live_set hl] at hx; cases hx), wpG_of_any fuel _ a' w' (live_set hl) h'⟩) (h.2 i hi)⟩
theorem wpG_first {i : Nat} {oi : Oper} {v : Value} (hi : ops[i]? = some oi) (hsel : ∀ (j : Nat) (o : Oper) cs b, ops[j]? = some o → o.op ≠ .select cs b)
    (hQ : ∀ c a w, Q (.panic c) (a.put oi.dst v) w → Q (.panic c) a w) (hst : ∀ j, st = some j → ∃ f, below ops i f j = true) :
    ∀ (fuel : Nat) (listed : Array Bool) (a : Act) (w : World),
      (∀ j oj, ops[j]? = some oj → j ≠ i → listed.getD j true = false → (∀ e ∈ oj.after, Region.binds .any e = true → e.on ≠ i) → oi.apart ops oj = true) →
      Closed ops listed → live st listed = true → i ∈ Region.ready .any ops listed → YieldsIf P ops S oi v a → S w →
      wpG P ops Q st S fuel (listed.setIfInBounds i true) (a.put oi.dst v) w → wpG P ops Q st S (fuel + 1) listed a w := by
  intro fuel
  induction fuel with
  | zero =>
    intro listed a w _ _ _ hr hy hS H
    refine ⟨fun h => (by rw [h] at hr; cases hr), fun j hj => ?_⟩
    by_cases hji : j = i
    · subst hji; exact hy.wpOp hi hS ⟨fun _ => hS, H⟩
    · have := ready_mono hj hji
      rw [H.1] at this
      cases this
  | succ fuel ih =>
    intro listed a w hfree hclo hlive hr hy hS H
    refine ⟨fun h => (by rw [h] at hr; cases hr), fun j hj => ?_⟩
    by_cases hji : j = i
    · subst hji; exact hy.wpOp hi hS ⟨fun _ => hS, H⟩
    · have h1 := H.2 j (ready_mono hj hji)
      obtain ⟨hjun, oj, hoj, hall⟩ := mem_ready.1 hj
      have h0i : listed.getD i false = false := by
        have h0 := (mem_ready.1 hr).1
        rcases Nat.lt_or_ge i listed.size with h' | h'
        · simp [h'] at h0 ⊢; exact h0
        · simp [Array.getElem?_eq_none h'] at h0
      have hnot : ∀ e ∈ oj.after, Region.binds .any e = true → e.on ≠ i := fun e he hb heq => by
        have h1 := hall e he hb
        rw [heq, h0i] at h1
        cases h1
      have hlive' : live st (listed.setIfInBounds j true) = true := by
        cases hs : st with
        | none => rfl
        | some q =>
          rw [hs] at hlive
          have hjq : j ≠ q := fun e => by
            subst e
            obtain ⟨f, hf⟩ := hst j hs
            have := below_listed hclo f j hf (fun o ho e he hb => by rw [hoj] at ho; injection ho with ho; subst ho; exact hall e he hb)
            rw [h0i] at this; cases this
          simp only [live] at hlive ⊢
          rw [getD_set_ne false hjq]; exact hlive
      have h2 := wpOp_putIf hoj (hfree j oj hoj hji hjun hnot) (fun cs b => hsel i oi cs b hi) (fun cs b => hsel j oj cs b hoj) hQ hy h1
      have hfree' : ∀ k ok, ops[k]? = some ok → k ≠ i → (listed.setIfInBounds j true).getD k true = false →
          (∀ e ∈ ok.after, Region.binds .any e = true → e.on ≠ i) → oi.apart ops ok = true := fun k ok hk hki hun hno => by
        refine hfree k ok hk hki ?_ hno
        by_cases hjk : j = k
        · subst hjk; exact hjun
        · rw [getD_set_ne true hjk] at hun; exact hun
      have hliveij : live st ((listed.setIfInBounds i true).setIfInBounds j true) = true := by
        rw [Array.setIfInBounds_comm _ _ (Ne.symm hji)]
        cases hs : st with
        | none => rfl
        | some q =>
          rw [hs] at hlive'
          have hiq : i ≠ q := fun e => by
            subst e
            obtain ⟨f, hf⟩ := hst i hs
            obtain ⟨hiun, oi', hoi', halli⟩ := mem_ready.1 hr
            have := below_listed hclo f i hf (fun o ho e he hb => by rw [hoi'] at ho; injection ho with ho; subst ho; exact halli e he hb)
            rw [h0i] at this; cases this
          simp only [live] at hlive' ⊢
          rw [getD_set_ne false hiq]; exact hlive'
      refine wpOp_mono (fun a' w' h3 => ⟨fun _ => h3.2.1 hliveij, ih (listed.setIfInBounds j true) a' w' hfree' (hclo.set hj) hlive' (ready_mono hr (Ne.symm hji)) h3.1 (h3.2.1 hliveij) ?_⟩) h2
      rw [Array.setIfInBounds_comm _ _ hji]
      exact h3.2.2
end

def WpD (P : Program) (Z : Exit → Act → World → Prop) (N : Nat) (k : List It) (ops : Array Oper) (st : Option Nat) (S : World → Prop) (fuel : Nat) (listed : Array Bool) (s : Env) (w : World) : Prop :=
  (live st listed = true → S w) → ∀ a, Fits N s a → wpG P ops (sem P Z k) st S fuel listed a w

/-- No panic is let out. -/
def Calm (Z : Exit → Act → World → Prop) : Prop := ∀ c a w, ¬ Z (.panic c) a w
theorem calm_ret {P : Program} {fn : Func} {R : Value → World → Prop} : Calm (bodyPost P fn (Ret R)) := by
  intro c a w h
  obtain ⟨_, v, hv, _⟩ := h
  cases hv
theorem sem_panic {P : Program} {Z : Exit → Act → World → Prop} (hZ : Calm Z) {c : List PanicEntry} {a : Act} {w : World} : ∀ k : List It, ¬ sem P Z k (.panic c) a w
  | [], h => hZ _ _ _ h
  | .blk j :: k, h => by simp only [sem] at h; exact sem_panic hZ k h
  | .code c :: k, h => by simp only [sem] at h; exact sem_panic hZ k h
  | .ops all l :: k, h => by simp only [sem] at h; exact sem_panic hZ k h
  | .scp :: k, h => by simp only [sem] at h; exact sem_panic hZ k h
  | .goal G :: k, h => by simp only [sem] at h; exact sem_panic hZ k h

def stOk (ops : Array Oper) (i : Nat) : Option Nat → Bool
  | none => true
  | some j => below ops i ops.size j
def dchk (ops : Array Oper) (st : Option Nat) (listed : Array Bool) (i : Nat) : Bool :=
  Region.noSelect ops && Region.free .any ops listed i && (Region.ready .any ops listed).contains i && closedB ops listed && live st listed && stOk ops i st
theorem dchk_live {ops : Array Oper} {st : Option Nat} {listed : Array Bool} {i : Nat} (hc : dchk ops st listed i = true) : live st listed = true := by
  simp only [dchk, Bool.and_eq_true] at hc; exact hc.1.2
theorem wpG_take {P : Program} {ops : Array Oper} {Q : Exit → Act → World → Prop} {st : Option Nat} {S : World → Prop} {i : Nat} {oi : Oper} {v : Value} {fuel : Nat} {listed : Array Bool} {a : Act} {w : World} (hi : ops[i]? = some oi)
    (hc : dchk ops st listed i = true) (hQ : ∀ c a w, Q (.panic c) (a.put oi.dst v) w → Q (.panic c) a w) (hy : YieldsIf P ops S oi v a) (hS : live st listed = true → S w)
    (h : (live st listed = true → S w) → wpG P ops Q st S fuel (listed.setIfInBounds i true) (a.put oi.dst v) w) : wpG P ops Q st S (fuel + 1) listed a w := by
  simp only [dchk, Bool.and_eq_true] at hc
  obtain ⟨⟨⟨⟨⟨h1, h2⟩, h3⟩, h4⟩, h5⟩, h6⟩ := hc
  refine wpG_first hi (Region.noSelect_spec h1) hQ (fun j hj => ?_) fuel listed a w (Region.free_spec hi h2) (closedB_spec h4) h5 (by simpa using h3) hy (hS h5) (h hS)
  subst hj
  exact ⟨_, h6⟩

section
variable {P : Program} {Z : Exit → Act → World → Prop} {N : Nat} {k : List It} {s : Env} {w : World} {g : G} {ops : Array Oper} {st : Option Nat} {S : World → Prop} {fuel : Nat} {listed : Array Bool}
variable {op : Op} {ty : TypeId} {pos : String} {af : Array Edge} {d : Nat} {v : Value} {gd : Option (Nat × Bool)}

theorem d_begin {id : Nat} (st : Option Nat) (M : List Nat) (hm : P.follows .mixedOrders = true)
    (h : ∀ g2, Step [] [] g g2 → WpD P Z N k ops st (SB M g2) ops.size (Array.replicate ops.size false) s g2.w) : Wp P Z N (.code (.region id ops true) :: k) s g.w := fun a ha => by
  let g2 : G := ⟨g.w.drew, g.col⟩
  have hs : Step [] [] g g2 := ⟨rfl, rfl, rfl, Nat.le_succ _, Nat.le_refl _, fun _ _ _ _ => ⟨rfl, rfl⟩⟩
  simp only [sem]
  exact wp_region_any hm (wpAny_of_G _ _ _ _ (h g2 hs (fun _ => ⟨g2, rfl, Step.refl _ _ _⟩) a ha))
/-- A new phase. -/
theorem d_phase (st' : Option Nat) (M : List Nat) {st : Option Nat} {S : World → Prop} (hl : live st listed = false) (h : WpD P Z N k ops st' (SB M g) fuel listed s g.w) : WpD P Z N k ops st S fuel listed s g.w := fun _ a ha =>
  wpG_of_any _ _ _ _ hl (wpAny_of_G _ _ _ _ (h (fun _ => ⟨g, rfl, Step.refl _ _ _⟩) a ha))

/-- An operation that yields one value in every world that may stand. -/
theorem d_val (i : Nat) (hZ : Calm Z) (hi : ops[i]? = some ⟨some d, op, ty, pos, af, none⟩) (hc : dchk ops st listed i = true) (hdN : Nat.ble (d + 1) N = true)
    (h : ∀ a w', Fits N s a → S w' → (execOp a.eval ⟨some d, op, ty, pos, af, none⟩).run P w' = .ok (.value v) w')
    (hk : WpD P Z N k ops st S fuel (listed.setIfInBounds i true) ((d, v) :: s) w) : WpD P Z N k ops st S (fuel + 1) listed s w := fun hS a ha => by
  exact wpG_take hi hc (fun c a w hp => absurd hp (sem_panic hZ k)) (.inl ⟨by simp [Region.wanted], fun w' hw' => h a w' ha hw'⟩) hS
    (fun hS' => hk (fun _ => hS' (dchk_live hc)) _ (ha.put (Nat.le_of_ble_eq_true hdN)))
theorem d_pure (i : Nat) (hZ : Calm Z) (hi : ops[i]? = some ⟨some d, op, ty, pos, af, none⟩) (hc : dchk ops st listed i = true) (hp : pureOp s op = some v) (hdN : Nat.ble (d + 1) N = true)
    (hk : WpD P Z N k ops st S fuel (listed.setIfInBounds i true) ((d, v) :: s) w) : WpD P Z N k ops st S (fuel + 1) listed s w :=
  d_val i hZ hi hc hdN (fun a w' ha _ => run_pureOp hp ha) hk
/-- .. of those that one law of the walk tells of at any world: the law is given at an abstract rest. -/
theorem d_law (i : Nat) (hZ : Calm Z) (hi : ops[i]? = some ⟨some d, op, ty, pos, af, none⟩) (hc : dchk ops st listed i = true) (hdN : Nat.ble (d + 1) N = true)
    (h : ∀ a w', Fits N s a → S w' → (execOp a.eval ⟨some d, op, ty, pos, af, none⟩).run P w' = .ok (.value v) w')
    (hk : WpD P Z N k ops st S fuel (listed.setIfInBounds i true) ((d, v) :: s) w) : WpD P Z N k ops st S (fuel + 1) listed s w := d_val i hZ hi hc hdN h hk
/-- Guarded operations. -/
theorem d_guard_yes (i : Nat) {j t : Nat} {b : Bool} (hZ : Calm Z) (hi : ops[i]? = some ⟨some d, op, ty, pos, af, some (j, b)⟩) (hd : (ops[j]?).bind (·.dst) = some t) (hl : look s t = some (.bool b)) (hc : dchk ops st listed i = true) (hdN : Nat.ble (d + 1) N = true)
    (h : ∀ a w', Fits N s a → S w' → (execOp a.eval ⟨some d, op, ty, pos, af, none⟩).run P w' = .ok (.value v) w')
    (hk : WpD P Z N k ops st S fuel (listed.setIfInBounds i true) ((d, v) :: s) w) : WpD P Z N k ops st S (fuel + 1) listed s w := fun hS a ha => by
  exact wpG_take hi hc (fun c a w hp => absurd hp (sem_panic hZ k)) (.inl ⟨by simp [Region.wanted, yielded, hd, ha.get _ _ hl], fun w' hw' => h a w' ha hw'⟩) hS
    (fun hS' => hk (fun _ => hS' (dchk_live hc)) _ (ha.put (Nat.le_of_ble_eq_true hdN)))
theorem d_guard_pure (i : Nat) {j t : Nat} {b : Bool} (hZ : Calm Z) (hi : ops[i]? = some ⟨some d, op, ty, pos, af, some (j, b)⟩) (hd : (ops[j]?).bind (·.dst) = some t) (hl : look s t = some (.bool b)) (hc : dchk ops st listed i = true) (hp : pureOp s op = some v) (hdN : Nat.ble (d + 1) N = true)
    (hk : WpD P Z N k ops st S fuel (listed.setIfInBounds i true) ((d, v) :: s) w) : WpD P Z N k ops st S (fuel + 1) listed s w :=
  d_guard_yes i hZ hi hd hl hc hdN (fun a w' ha _ => run_pureOp hp ha) hk
theorem d_guard_no (i : Nat) {j t : Nat} {b : Bool} (hZ : Calm Z) (hi : ops[i]? = some ⟨some d, op, ty, pos, af, some (j, b)⟩) (hd : (ops[j]?).bind (·.dst) = some t) (hl : look s t = some (.bool (!b))) (hc : dchk ops st listed i = true) (hdN : Nat.ble (d + 1) N = true)
    (hk : WpD P Z N k ops st S fuel (listed.setIfInBounds i true) ((d, undef) :: s) w) : WpD P Z N k ops st S (fuel + 1) listed s w := fun hS a ha => by
  exact wpG_take hi hc (fun c a w hp => absurd hp (sem_panic hZ k)) (.inr ⟨by simp [Region.wanted, yielded, hd, ha.get _ _ hl], rfl⟩) hS
    (fun hS' => hk (fun _ => hS' (dchk_live hc)) _ (ha.put (Nat.le_of_ble_eq_true hdN)))

/-- What follows an operation that is carried out. -/
def Dnext (P : Program) (Z : Exit → Act → World → Prop) (k : List It) (ops : Array Oper) (st : Option Nat) (S : World → Prop) (fuel : Nat) (listed : Array Bool) (a : Act) (w : World) : Prop :=
  (live st listed = true → S w) ∧ wpG P ops (sem P Z k) st S fuel listed a w

theorem wp_swapQ {o : Oper} {a : Act} {K : Act → World → Prop} {Q Q' : Exit → Act → World → Prop} (hp : ∀ c a w, Q (.panic c) a w → Q' (.panic c) a w) (ho : ∀ a w, Q .outgrown a w → Q' .outgrown a w) (h : o.wp P a w K Q) : o.wp P a w K Q' := by
  unfold Oper.wp at *
  generalize (execOp a.eval o).run P w = r at *
  cases r with
  | ok n w' =>
    cases n <;> simp only [Oper.upon] at h ⊢ <;> first | exact h | skip
    case enter f args =>
      refine Calls.mono h fun e w'' he => ?_
      cases e with
      | returned u => exact he
      | panicked c => exact hp _ _ _ he
      | outgrown => obtain ⟨a', w', h'⟩ := he; exact ⟨a', w', ho _ _ h'⟩
  | halt x w' =>
    cases x <;> simp only [Oper.upon] at h ⊢ <;> first | exact h | exact hp _ _ _ h

theorem d_one (i : Nat) {o : Oper} (hi : ops[i]? = some o) (h : Wp P Z N (.ops ops [o] :: .goal (Dnext P Z k ops st S fuel (listed.setIfInBounds i true)) :: k) s w) {a : Act} (ha : Fits N s a) :
    wpOp P ops (sem P Z k) i (fun a' w' => (live st (listed.setIfInBounds i true) = true → S w') ∧ wpG P ops (sem P Z k) st S fuel (listed.setIfInBounds i true) a' w') a w := by
  have hh := h a ha
  simp only [sem] at hh
  unfold wpList at hh
  unfold wpOp
  simp only [hi]
  have hnext : ∀ a' w', wpList P ops (sem P Z (.goal (Dnext P Z k ops st S fuel (listed.setIfInBounds i true)) :: k)) [] a' w' → (live st (listed.setIfInBounds i true) = true → S w') ∧ wpG P ops (sem P Z k) st S fuel (listed.setIfInBounds i true) a' w' := by
    intro a' w' h'
    unfold wpList at h'
    simp only [sem] at h'
    exact h'
  by_cases hw : Region.wanted o (yielded ops a.tmps) = true
  · rw [if_pos hw] at hh ⊢
    rcases hh with hh | ⟨h1, a', w', h2⟩
    · exact .inl (wp_swapQ (Q := sem P Z (.goal (Dnext P Z k ops st S fuel (listed.setIfInBounds i true)) :: k)) (fun c a w h => by simpa only [sem] using h) (fun a w h => by simpa only [sem] using h) (Oper.wp_mono hnext hh))
    · exact .inr ⟨h1, a', w', by simpa only [sem] using h2⟩
  · rw [if_neg hw] at hh ⊢
    exact hnext _ _ hh
/-- The one operation that may come up. -/
theorem d_exec1 (i : Nat) {o : Oper} (hr : Region.ready .any ops listed = [i]) (hi : ops[i]? = some o) (h : Wp P Z N (.ops ops [o] :: .goal (Dnext P Z k ops st S fuel (listed.setIfInBounds i true)) :: k) s w) :
    WpD P Z N k ops st S (fuel + 1) listed s w := fun hS a ha =>
  ⟨fun h0 => (by rw [hr] at h0; cases h0), fun j hj => by
    rw [hr] at hj
    simp at hj
    subst hj
    exact d_one j hi h ha⟩
/-- Two that may come up. -/
theorem d_exec2 (i j : Nat) {o o2 : Oper} (hr : Region.ready .any ops listed = [i, j]) (hi : ops[i]? = some o) (hj : ops[j]? = some o2)
    (h : Wp P Z N (.ops ops [o] :: .goal (Dnext P Z k ops st S fuel (listed.setIfInBounds i true)) :: k) s w)
    (h2 : Wp P Z N (.ops ops [o2] :: .goal (Dnext P Z k ops st S fuel (listed.setIfInBounds j true)) :: k) s w) :
    WpD P Z N k ops st S (fuel + 1) listed s w := fun hS a ha =>
  ⟨fun h0 => (by rw [hr] at h0; cases h0), fun q hq => by
    rw [hr] at hq
    simp at hq
    rcases hq with rfl | rfl
    · exact d_one q hi h ha
    · exact d_one q hj h2 ha⟩
theorem d_next (hS : live st listed = true → S w) (h : WpD P Z N k ops st S fuel listed s w) : Wp P Z N (.goal (Dnext P Z k ops st S fuel listed) :: k) s w := w_goal fun a ha => ⟨hS, h hS a ha⟩
/-- The phase is over. -/
theorem d_over (hl : live st listed = false) (h : WpD P Z N k ops st S fuel listed s w) : Wp P Z N (.goal (Dnext P Z k ops st S fuel listed) :: k) s w := d_next (fun hx => by rw [hl] at hx; cases hx) h
theorem d_done (hr : Region.ready .any ops listed = []) (h : Wp P Z N k s w) : WpD P Z N k ops st S fuel listed s w := fun hS a ha => by
  cases fuel with
  | zero => exact ⟨hr, h a ha⟩
  | succ n => exact ⟨fun _ => h a ha, by rw [hr]; simp⟩
end
end Go.Proofs.Ytnfokdhgajanpaa
