/- The engine of this claim's walks: what is known of a frame as a list of slots; a region that draws its order is walked in one order alone. No conditions. -/
import Derived.CallsIn
import Derived.OrdersIn
import Derived.TacticsIn
import Derived.WalkKit
namespace Go.Eng
open Go

abbrev Env := List (Nat × Value)

def look : Env → Nat → Option Value
  | [], _ => none
  | (k, v) :: r, t => bif Nat.beq k t then some v else look r t

def opv (l : Env) : Operand → Option Value
  | .tmp t => look l t
  | .const v => some v
  | .global g => some (.pointer (some ⟨g, 0, none⟩))
  | .func f => some (.func (.func f) #[] #[])

/-- The fence of a frame that is no round (none), or the round of loop l. -/
def fence (r : Option Nat) : Fence := { Fence.wide with round := r }

structure Cx where
  P : Program
  r : Option Nat
  n : Nat
  D : List Deferred

structure Fits (c : Cx) (l : Env) (a : Act) : Prop where
  size : a.tmps.size = c.n
  defers : a.defers = c.D
  vals : ∀ t v, look l t = some v → a.tmps.getD t undef = v

theorem Fits.ev {c : Cx} {l : Env} {a : Act} (h : Fits c l a) {x : Operand} {v : Value} (hx : opv l x = some v) : a.eval x = v := by
  cases x with
  | tmp t => exact h.vals t v hx
  | const u => exact Option.some.inj hx
  | global g => exact Option.some.inj hx
  | func f => exact Option.some.inj hx

theorem look_cons {l : Env} {d t : Nat} {v u : Value} (h : look ((d, v) :: l) t = some u) : (t = d ∧ u = v) ∨ (t ≠ d ∧ look l t = some u) := by
  unfold look at h
  by_cases e : d = t
  · subst e
    rw [Nat.beq_refl, cond_true] at h
    exact .inl ⟨rfl, (Option.some.inj h).symm⟩
  · have hb : Nat.beq d t = false := by
      cases hb : Nat.beq d t with
      | false => rfl
      | true => exact absurd (Nat.eq_of_beq_eq_true hb) e
    rw [hb, cond_false] at h
    exact .inr ⟨fun h' => e h'.symm, h⟩

theorem Fits.put {c : Cx} {l : Env} {a : Act} (h : Fits c l a) {d : Nat} (hd : Nat.blt d c.n = true) (v : Value) : Fits c ((d, v) :: l) (a.put (some d) v) := by
  have hlt : d < a.tmps.size := by rw [h.size]; simpa [Nat.blt_eq] using hd
  refine ⟨by simp [Act.put, h.size], by simp [Act.put, h.defers], fun t u hu => ?_⟩
  rcases look_cons hu with ⟨rfl, rfl⟩ | ⟨hne, hl⟩
  · simp [Act.put, hlt]
  · have := h.vals t u hl
    simp only [Act.put]
    rw [← this]
    simp only [Array.getD_eq_getD_getElem?, Array.getElem?_setIfInBounds]
    rw [if_neg (fun e => hne e.symm)]

theorem Fits.none {c : Cx} {l : Env} {a : Act} (h : Fits c l a) (v : Value) : Fits c l (a.put .none v) := h

/-- What is known may be forgotten. -/
def Sub (l' l : Env) : Prop := ∀ t v, look l' t = some v → look l t = some v
theorem Sub.refl (l : Env) : Sub l l := fun _ _ h => h
theorem Sub.nil (l : Env) : Sub [] l := fun _ _ h => by cases h
theorem Sub.cons {l' l : Env} {t : Nat} {v : Value} (h : look l t = some v) (hs : Sub l' l) : Sub ((t, v) :: l') l := fun s u hu => by
  rcases look_cons hu with ⟨rfl, rfl⟩ | ⟨_, hl⟩
  · exact h
  · exact hs s u hl
theorem Fits.sub {c : Cx} {l l' : Env} {a : Act} (h : Fits c l a) (hs : Sub l' l) : Fits c l' a := ⟨h.size, h.defers, fun t v hv => h.vals t v (hs t v hv)⟩

abbrev Post := Exit → Env → World → Prop

/-- The kit's post of one of ours. -/
def lift (c : Cx) (K : Post) : Exit → Act → World → Prop := fun e a w => (∀ ch, e ≠ .panic ch) ∧ e ≠ .outgrown ∧ ∃ l, Fits c l a ∧ K e l w

/-- The code, from whatever frame of which l is known, ends as K says. -/
def CW (c : Cx) (x : Code) (K : Post) (l : Env) (w : World) : Prop :=
  ∀ a, Fits c l a → x.wpIn (fence c.r) 0 c.P (lift c K) a w

def thn (K' : Env → World → Prop) (K : Post) : Post
  | .normal => K'
  | e => K e

def blk (id : Nat) (K : Post) : Post
  | .exit j => fun l w => bif Nat.beq j id then K .normal l w else K (.exit j) l w
  | e => K e

section
variable {c : Cx} {K : Post} {l : Env} {w : World}

theorem CW.mono {x : Code} {K' : Post} (h : CW c x K l w) (hk : ∀ e l w, K e l w → K' e l w) : CW c x K' l w := fun a ha =>
  wpIn_mono (h a ha) fun _ _ _ ⟨h1, h2, l, hf, hK⟩ => ⟨h1, h2, l, hf, hk _ _ _ hK⟩

theorem CW.sub {x : Code} {l' : Env} (h : CW c x K l' w) (hs : Sub l' l) : CW c x K l w := fun a ha => h a (ha.sub hs)

theorem cw_skip (h : K .normal l w) : CW c .skip K l w := fun a ha => wpIn_skip ⟨by simp, by simp, l, ha, h⟩
theorem cw_ret (h : K .ret l w) : CW c .ret K l w := fun a ha => wpIn_ret ⟨by simp, by simp, l, ha, h⟩
theorem cw_exit {id : Nat} (h : K (.exit id) l w) : CW c (.exit id) K l w := fun a ha => wpIn_exit ⟨by simp, by simp, l, ha, h⟩
theorem cw_goto {id : Nat} (h : K (.goto id) l w) : CW c (.goto id) K l w := fun a ha => wpIn_goto ⟨by simp, by simp, l, ha, h⟩
theorem cw_label {id : Nat} (h : K .normal l w) : CW c (.label id) K l w := fun a ha => wpIn_label ⟨by simp, by simp, l, ha, h⟩

theorem cw_seq {x y : Code} (h : ∀ K' : Env → World → Prop, (∀ l w, CW c y K l w → K' l w) → CW c x (thn K' K) l w) : CW c (.seq x y) K l w := fun a ha =>
  wpIn_seq (wpIn_mono (h (CW c y K) (fun _ _ h => h) a ha) fun e a' w' ⟨h1, h2, l', hf, hK⟩ => by
    cases e with
    | normal => exact hK a' hf
    | exit id => exact ⟨h1, h2, l', hf, hK⟩
    | goto id => exact ⟨h1, h2, l', hf, hK⟩
    | ret => exact ⟨h1, h2, l', hf, hK⟩
    | panic ch => exact absurd rfl (h1 ch)
    | outgrown => exact absurd rfl h2)

/-- The two ways meet again at J. -/
theorem cw_cut {x y : Code} (J : Env → World → Prop) (h : CW c x (thn J K) l w) (h2 : ∀ l w, J l w → CW c y K l w) : CW c (.seq x y) K l w :=
  cw_seq fun K' hK' => h.mono fun e l w hk => by
    cases e <;> first | exact hK' _ _ (h2 _ _ hk) | exact hk

theorem cw_cond {x : Operand} {t e : Code} {b : Bool} (hc : opv l x = some (.bool b)) (ht : b = true → CW c t K l w) (hf : b = false → CW c e K l w) : CW c (.cond x t e) K l w := fun a ha =>
  wpIn_cond_split (ha.ev hc) (fun h => ht h a ha) (fun h => hf h a ha)

theorem cw_true {x : Operand} {t e : Code} (hc : opv l x = some (.bool true)) (ht : CW c t K l w) : CW c (.cond x t e) K l w := fun a ha => wpIn_cond_true (ha.ev hc) (ht a ha)
theorem cw_false {x : Operand} {t e : Code} (hc : opv l x = some (.bool false)) (hf : CW c e K l w) : CW c (.cond x t e) K l w := fun a ha => wpIn_cond_false (ha.ev hc) (hf a ha)

theorem cw_dT {x : Operand} {t e : Code} {p : Prop} [Decidable p] (hc : opv l x = some (.bool (decide p))) (hp : p) (ht : CW c t K l w) : CW c (.cond x t e) K l w := cw_true (by rw [hc, decide_eq_true hp]) ht
theorem cw_dF {x : Operand} {t e : Code} {p : Prop} [Decidable p] (hc : opv l x = some (.bool (decide p))) (hp : ¬ p) (hf : CW c e K l w) : CW c (.cond x t e) K l w := cw_false (by rw [hc, decide_eq_false hp]) hf
theorem cw_bT {x : Operand} {t e : Code} {b : Bool} (hc : opv l x = some (.bool b)) (hb : b = true) (ht : CW c t K l w) : CW c (.cond x t e) K l w := cw_true (by rw [hc, hb]) ht
theorem cw_bF {x : Operand} {t e : Code} {b : Bool} (hc : opv l x = some (.bool b)) (hb : b = false) (hf : CW c e K l w) : CW c (.cond x t e) K l w := cw_false (by rw [hc, hb]) hf

theorem cw_block {id : Nat} {x : Code} (h : CW c x (blk id K) l w) : CW c (.block id x) K l w := fun a ha =>
  wpIn_block (wpIn_mono (h a ha) fun e a' w' ⟨h1, h2, l', hf, hK⟩ => by
    cases e with
    | normal => exact ⟨h1, h2, l', hf, hK⟩
    | exit j =>
      simp only [Exit.inBlock]
      simp only [blk] at hK
      split
      · rename_i hj
        subst hj
        rw [Nat.beq_refl, cond_true] at hK
        exact ⟨by simp, by simp, l', hf, hK⟩
      · rename_i hj
        have hb : Nat.beq j id = false := by
          cases hb : Nat.beq j id with
          | false => rfl
          | true => exact absurd (Nat.eq_of_beq_eq_true hb) hj
        rw [hb, cond_false] at hK
        exact ⟨by simp, by simp, l', hf, hK⟩
    | goto id => exact ⟨h1, h2, l', hf, hK⟩
    | ret => exact ⟨h1, h2, l', hf, hK⟩
    | panic ch => exact absurd rfl (h1 ch)
    | outgrown => exact absurd rfl h2)

theorem wpIn_loop_ghost {F : Fence} {n : Nat} {P : Program} {Q : Exit → Act → World → Prop} {a : Act} {w : World} {x : Code} (I : Nat → Act → World → Prop) (m : Nat) (h₀ : I m a w)
    (round : ∀ m a w, I m a w → x.wpIn F n P (Exit.then (fun a' w' => ∃ m', m' < m ∧ I m' a' w') Q) a w) : (Code.loop x).wpIn F n P Q a w := by
  intro b k cs hro hb hr
  have key : ∀ j a w, I j a w →
      ∃ e a' w', Q e a' w' ∧ ArrivesIn (Machine.fenced P F) P (lone (b.atR a (.code x :: .inLoop x :: k)) cs w) b k cs e a' w' := by
    intro j
    induction j using Nat.strongRecOn with
    | _ j ih =>
      intro a w hI
      obtain ⟨e, a₁, w₁, hq, harr⟩ := round j a w hI b (.inLoop x :: k) cs hro hb hr
      cases e with
      | normal =>
        obtain ⟨m', hlt, hI₁⟩ := hq
        obtain ⟨e₂, a₂, w₂, hq₂, harr₂⟩ := ih m' hlt a₁ w₁ hI₁
        exact ⟨e₂, a₂, w₂, hq₂, .of_steps (StepsIn.trans harr (.one (fenced_calm hb hr rfl) stepR_inLoop)) harr₂⟩
      | exit id => exact ⟨_, a₁, w₁, hq, .pass (x := .inLoop x) rfl (fun _ _ => .inl (by simp)) harr⟩
      | goto l => exact ⟨_, a₁, w₁, hq, .pass (x := .inLoop x) rfl (fun _ _ => .inl (by simp)) harr⟩
      | ret => exact ⟨_, a₁, w₁, hq, .pass (x := .inLoop x) rfl (fun _ _ => .inl (by simp)) harr⟩
      | panic ch => exact ⟨_, a₁, w₁, hq, .pass (x := .inLoop x) rfl (fun _ _ => .inl (by simp)) harr⟩
      | outgrown => exact ⟨_, a₁, w₁, hq, .pass (x := .inLoop x) rfl (fun _ _ => .inl (by simp)) harr⟩
  obtain ⟨e, a', w', hq, harr⟩ := key m a w h₀
  exact ⟨e, a', w', hq, .of_steps (.one (fenced_calm hb hr rfl) stepR_loop) harr⟩

/-- I: of a number that falls, what is known of the frame, and the world. -/
theorem cw_loop {x : Code} (I : Nat → Env → World → Prop) (m : Nat) (l₀ : Env) (hs : Sub l₀ l) (h0 : I m l₀ w)
    (round : ∀ m l w, I m l w → CW c x (thn (fun l' w' => ∃ m' l'', m' < m ∧ Sub l'' l' ∧ I m' l'' w') K) l w) : CW c (.loop x) K l w := fun a ha =>
  wpIn_loop_ghost (fun m a w => ∃ l, Fits c l a ∧ I m l w) m ⟨l₀, ha.sub hs, h0⟩ fun m a w ⟨l, hf, hI⟩ =>
    wpIn_mono (round m l w hI a hf) fun e a' w' ⟨h1, h2, l', hf', hK⟩ => by
      cases e with
      | normal => obtain ⟨m', l'', hlt, hsub, hI'⟩ := hK; exact ⟨m', hlt, l'', hf'.sub hsub, hI'⟩
      | exit id => exact ⟨h1, h2, l', hf', hK⟩
      | goto id => exact ⟨h1, h2, l', hf', hK⟩
      | ret => exact ⟨h1, h2, l', hf', hK⟩
      | panic ch => exact absurd rfl (h1 ch)
      | outgrown => exact absurd rfl h2
end

/-! ## One operation -/

/-- It yields v, and the world stays. -/
def Quiet (P : Program) (l : Env) (op : Op) (ty : TypeId) (w : World) (v : Value) : Prop :=
  ∀ (ρ : Operand → Value), (∀ x u, opv l x = some u → ρ x = u) → ∀ dst pos after guard, (execOp ρ ⟨dst, op, ty, pos, after, guard⟩).run P w = .ok (.value v) w

/-- It is carried out, yields a value and leaves a world of which K holds. -/
def HW (c : Cx) (l : Env) (op : Op) (ty : TypeId) (w : World) (K : Value → World → Prop) : Prop :=
  ∀ (a : Act), Fits c l a → ∀ dst pos after guard (next : Act → World → Prop) (Q : Exit → Act → World → Prop), (∀ v w', K v w' → next (a.put dst v) w') →
    (⟨dst, op, ty, pos, after, guard⟩ : Oper).wpIn (fence c.r) 0 c.P a w next Q

def isDefer : Op → Bool
  | .defer _ => true
  | _ => false

theorem semAt_of {o : Oper} (h : isDefer o.op = false) (r : Option Nat) (ρ : Operand → Value) : o.semAt r ρ = execOp ρ o :=
  Oper.semAt_eq r ρ o fun c hc => by rw [hc] at h; cases h

/-- What a Go function hands back. -/
def retP (K : Value → World → Prop) : Ending → World → Prop
  | .returned v, w => K v w
  | _, _ => False

/-- The call of a Go function: it returns a value and a world of which K holds. -/
def Does (P : Program) (f : FuncId) (args : Array Value) (w : World) (K : Value → World → Prop) : Prop := CallsIn (fence none) 0 P f args w (retP K)

theorem Does.mono {P : Program} {f : FuncId} {args : Array Value} {w : World} {K K' : Value → World → Prop} (h : Does P f args w K) (hk : ∀ v w', K v w' → K' v w') : Does P f args w K' :=
  CallsIn.mono h fun e w' he => by cases e <;> first | exact hk _ _ he | exact he

theorem Does.calls {P : Program} {f : FuncId} {args : Array Value} {w : World} {K : Value → World → Prop} (h : Does P f args w K) : Calls P f args w (retP K) := callsIn_wide.1 h

section
variable {c : Cx} {l : Env} {op : Op} {ty : TypeId} {w : World} {K : Value → World → Prop}

theorem Quiet.hw {v : Value} (h : Quiet c.P l op ty w v) (hd : isDefer op = false) (hk : K v w) : HW c l op ty w K := fun a ha dst pos after guard next Q hn => by
  refine ⟨fun _ _ => trivial, ?_⟩
  rw [semAt_of (o := ⟨dst, op, ty, pos, after, guard⟩) hd, h a.eval (fun x u hu => ha.ev hu)]
  exact hn _ _ hk

/-- An operation that yields a value and another world. -/
theorem HW.value {v : Value} {w' : World} (hd : isDefer op = false)
    (h : ∀ (ρ : Operand → Value), (∀ x u, opv l x = some u → ρ x = u) → ∀ dst pos after guard, (execOp ρ ⟨dst, op, ty, pos, after, guard⟩).run c.P w = .ok (.value v) w')
    (hk : K v w') : HW c l op ty w K := fun a ha dst pos after guard next Q hn => by
  refine ⟨fun _ _ => trivial, ?_⟩
  rw [semAt_of (o := ⟨dst, op, ty, pos, after, guard⟩) hd, h a.eval (fun x u hu => ha.ev hu)]
  exact hn _ _ hk

theorem HW.skip {w' : World} (hd : isDefer op = false)
    (h : ∀ (ρ : Operand → Value), (∀ x u, opv l x = some u → ρ x = u) → ∀ dst pos after guard, (execOp ρ ⟨dst, op, ty, pos, after, guard⟩).run c.P w = .ok .skip w')
    (hk : K undef w') : HW c l op ty w K := fun a ha dst pos after guard next Q hn => by
  refine ⟨fun _ _ => trivial, ?_⟩
  rw [semAt_of (o := ⟨dst, op, ty, pos, after, guard⟩) hd, h a.eval (fun x u hu => ha.ev hu)]
  exact hn _ _ hk

theorem HW.enter {f : FuncId} {args : Array Value} {w' : World} (hd : isDefer op = false)
    (h : ∀ (ρ : Operand → Value), (∀ x u, opv l x = some u → ρ x = u) → ∀ dst pos after guard, (execOp ρ ⟨dst, op, ty, pos, after, guard⟩).run c.P w = .ok (.enter f args) w')
    (hk : Does c.P f args w' K) : HW c l op ty w K := fun a ha dst pos after guard next Q hn => by
  refine ⟨fun _ _ => trivial, ?_⟩
  rw [semAt_of (o := ⟨dst, op, ty, pos, after, guard⟩) hd, h a.eval (fun x u hu => ha.ev hu)]
  refine ⟨fun h => by simp [fence, Fence.wide] at h, ?_⟩
  have hk' : CallsIn (fence c.r) (0 - 1) c.P f args w' (retP K) := hk
  exact CallsIn.mono hk' fun e w'' he => by cases e <;> first | exact hn _ _ he | exact he.elim

theorem HW.mono {K' : Value → World → Prop} (h : HW c l op ty w K) (hk : ∀ v w', K v w' → K' v w') : HW c l op ty w K' := fun a ha dst pos after guard next Q hn =>
  h a ha dst pos after guard next Q fun v w' hv => hn v w' (hk v w' hv)
end

/-! ## A region in the order of the text -/

def nrm (K : Env → World → Prop) : Post
  | .normal => K
  | _ => fun _ _ => False

def AS (c : Cx) (ops : Array Oper) (K : Env → World → Prop) (js : List Oper) (l : Env) (w : World) : Prop :=
  ∀ a, Fits c l a → wpListIn (fence c.r) 0 c.P ops (lift c (nrm K)) js a w

section
variable {c : Cx} {l : Env} {w : World} {ops : Array Oper} {K : Env → World → Prop} {js : List Oper} {op : Op} {ty : TypeId} {pos : String} {after : Array Edge} {d : Nat}

theorem cw_region {id : Nat} {lops : List Oper} {K : Post} (h : ∀ K' : Env → World → Prop, (∀ l w, K .normal l w → K' l w) → AS c lops.toArray K' lops l w) : CW c (.region id lops.toArray false) K l w := fun a ha =>
  wpIn_mono (wpIn_region_lit (h (K .normal) (fun _ _ h => h) a ha)) fun e a' w' ⟨h1, h2, l', hf, hK⟩ => by
    cases e <;> first | exact ⟨h1, h2, l', hf, hK⟩ | exact (hK : False).elim

/-- A region, and what comes behind it. -/
theorem cw_rs {id : Nat} {lops : List Oper} {y : Code} {K : Post} (h : ∀ K' : Env → World → Prop, (∀ l w, CW c y K l w → K' l w) → AS c lops.toArray K' lops l w) : CW c (.seq (.region id lops.toArray false) y) K l w :=
  cw_seq fun _ h1 => cw_region fun K2 h2 => h K2 fun l w hc => h2 l w (h1 l w hc)

theorem as_nil (h : K l w) : AS c ops K [] l w := fun _ ha => ⟨by simp, by simp, l, ha, h⟩

theorem as_h (hlt : Nat.blt d c.n = true) (hq : HW c l op ty w fun v w' => AS c ops K js ((d, v) :: l) w') : AS c ops K (⟨some d, op, ty, pos, after, none⟩ :: js) l w := fun a ha => by
  show if _ then _ else _
  rw [if_pos (show Region.wanted _ _ = true from rfl)]
  exact hq a ha _ _ _ _ _ _ fun v w' h => h _ (ha.put hlt v)

theorem as_h0 (hq : HW c l op ty w fun _ w' => AS c ops K js l w') : AS c ops K (⟨none, op, ty, pos, after, none⟩ :: js) l w := fun a ha => by
  show if _ then _ else _
  rw [if_pos (show Region.wanted _ _ = true from rfl)]
  exact hq a ha _ _ _ _ _ _ fun v w' h => h _ ha

theorem as_q {v : Value} (hlt : Nat.blt d c.n = true) (hd : isDefer op = false) (hq : Quiet c.P l op ty w v) (h : AS c ops K js ((d, v) :: l) w) : AS c ops K (⟨some d, op, ty, pos, after, none⟩ :: js) l w :=
  as_h hlt (hq.hw hd h)

theorem yielded_of {a : Act} (ha : Fits c l a) {j gd : Nat} {b : Bool} (hj : ((ops[j]?).bind (·.dst)) = some gd) (hn : Nat.blt gd c.n = true) (hb : look l gd = some (.bool b)) : yielded ops a.tmps j = some b := by
  have h1 := ha.vals gd _ hb
  have hlt : gd < a.tmps.size := by rw [ha.size]; simpa [Nat.blt_eq] using hn
  have h2 : a.tmps[gd]? = some (.bool b) := by
    rw [Array.getElem?_eq_getElem hlt]
    rw [Array.getD_eq_getD_getElem?, Array.getElem?_eq_getElem hlt] at h1
    exact congrArg some h1
  simp [yielded, hj, h2]

theorem as_gh {j gd : Nat} {b : Bool} (hlt : Nat.blt d c.n = true) (hj : ((ops[j]?).bind (·.dst)) = some gd) (hn : Nat.blt gd c.n = true) (hb : look l gd = some (.bool b))
    (hq : HW c l op ty w fun v w' => AS c ops K js ((d, v) :: l) w') : AS c ops K (⟨some d, op, ty, pos, after, some (j, b)⟩ :: js) l w := fun a ha => by
  show if _ then _ else _
  rw [if_pos (by simp [Region.wanted, yielded_of ha hj hn hb])]
  exact hq a ha _ _ _ _ _ _ fun v w' h => h _ (ha.put hlt v)

theorem as_gskip {j gd : Nat} {b want : Bool} (hlt : Nat.blt d c.n = true) (hj : ((ops[j]?).bind (·.dst)) = some gd) (hn : Nat.blt gd c.n = true) (hb : look l gd = some (.bool b)) (hne : (b == want) = false)
    (hq : AS c ops K js ((d, undef) :: l) w) : AS c ops K (⟨some d, op, ty, pos, after, some (j, want)⟩ :: js) l w := fun a ha => by
  show if _ then _ else _
  rw [if_neg (by simp [Region.wanted, yielded_of ha hj hn hb]; simpa using hne)]
  exact ⟨fun _ _ => trivial, hq _ (ha.put hlt undef)⟩

/-- The guard itself was passed over. -/
theorem yielded_undef {a : Act} (ha : Fits c l a) {j gd : Nat} (hj : ((ops[j]?).bind (·.dst)) = some gd) (hn : Nat.blt gd c.n = true) (hb : look l gd = some undef) : yielded ops a.tmps j = none := by
  have h1 := ha.vals gd _ hb
  have hlt : gd < a.tmps.size := by rw [ha.size]; simpa [Nat.blt_eq] using hn
  have h2 : a.tmps[gd]? = some undef := by
    rw [Array.getElem?_eq_getElem hlt]
    rw [Array.getD_eq_getD_getElem?, Array.getElem?_eq_getElem hlt] at h1
    exact congrArg some h1
  simp [yielded, hj, h2, undef]

theorem as_gskipU {j gd : Nat} {want : Bool} (hlt : Nat.blt d c.n = true) (hj : ((ops[j]?).bind (·.dst)) = some gd) (hn : Nat.blt gd c.n = true) (hb : look l gd = some undef)
    (hq : AS c ops K js ((d, undef) :: l) w) : AS c ops K (⟨some d, op, ty, pos, after, some (j, want)⟩ :: js) l w := fun a ha => by
  show if _ then _ else _
  rw [if_neg (by simp [Region.wanted, yielded_undef ha hj hn hb])]
  exact ⟨fun _ _ => trivial, hq _ (ha.put hlt undef)⟩
end

/-! ## A region that draws its order -/

section
variable {F : Fence} {n : Nat} {P : Program} {ops : Array Oper} {Q : Exit → Act → World → Prop}

/-- Operation j waits for i. -/
def direct (ops : Array Oper) (i j : Nat) : Bool := ((ops[j]?).map fun o => o.after.any fun e => Region.binds .any e && e.on == i).getD false

abbrev Pend := List (Nat × (World → Prop))
def All : Pend → World → Prop
  | [], _ => True
  | x :: r, w => x.2 w ∧ All r w
def keep (ops : Array Oper) (j : Nat) : Pend → Pend
  | [] => []
  | x :: r => bif direct ops x.1 j then keep ops j r else x :: keep ops j r

/-- What is kept, by what the operation waits for. -/
def sift : List Bool → Pend → Pend
  | b :: r, x :: p => bif b then sift r p else x :: sift r p
  | _, p => p
theorem keep_sift {j : Nat} : ∀ {p : Pend} {bs : List Bool}, p.map (fun x => direct ops x.1 j) = bs → keep ops j p = sift bs p
  | [], bs, h => by subst h; rfl
  | x :: r, bs, h => by
    subst h
    simp only [keep, List.map_cons, sift]
    rw [keep_sift (p := r) rfl]

theorem all_keep {j : Nat} {w : World} : ∀ {p : Pend}, All p w → All (keep ops j p) w
  | [], h => h
  | x :: r, h => by
    unfold keep
    cases direct ops x.1 j
    · exact ⟨h.1, all_keep h.2⟩
    · exact all_keep h.2

/-- As the kit's wpAnyIn, and what has been read ahead stays good. -/
def wpAnyT (F : Fence) (n : Nat) (P : Program) (ops : Array Oper) (Q : Exit → Act → World → Prop) : Pend → Nat → Array Bool → Act → World → Prop
  | _, 0, listed, a, w => Region.ready .any ops listed = [] ∧ Q .normal a w
  | p, fuel + 1, listed, a, w =>
    (Region.ready .any ops listed = [] → Q .normal a w) ∧
    ∀ i ∈ Region.ready .any ops listed, wpOpIn F n P ops Q i (fun a' w' => All (keep ops i p) w' ∧ wpAnyT F n P ops Q (keep ops i p) fuel (listed.setIfInBounds i true) a' w') a w

theorem wpAnyT.any : ∀ {fuel : Nat} {p : Pend} {listed : Array Bool} {a : Act} {w : World}, wpAnyT F n P ops Q p fuel listed a w → wpAnyIn F n P .any ops Q fuel listed a w
  | 0, _, _, _, _, h => h
  | _ + 1, _, _, _, _, h => ⟨h.1, fun i hi => wpOpIn_mono (fun _ _ h => h.2.any) (h.2 i hi)⟩

theorem Oper.wpIn_postT {o : Oper} {a : Act} {w : World} {K : Act → World → Prop} {Q' : Exit → Act → World → Prop} (hp : ∀ e a w, (e ≠ .normal) → Q e a w → Q' e a w) (hh : o.wpIn F n P a w K Q) : o.wpIn F n P a w K Q' := by
  unfold Oper.wpIn at *
  refine ⟨hh.1, ?_⟩
  have hh := hh.2
  generalize (o.semAt F.round a.eval).run P w = r at *
  cases r with
  | ok x w' =>
    cases x <;> simp only [Oper.uponIn] at hh ⊢ <;>
      first
        | exact hh
        | exact ⟨hh.1, CallsIn.mono hh.2 (fun e w'' he => by
            cases e with
            | returned v => exact he
            | panicked c => exact hp _ _ _ (by simp) he
            | outgrown => obtain ⟨a₀, w₀, h⟩ := he; exact ⟨a₀, w₀, hp _ _ _ (by simp) h⟩)⟩
        | exact ⟨hh.1, RoundIn.mono hh.2 (fun e w'' he => by
            cases e with
            | returned v => exact he
            | panicked c => exact hp _ _ _ (by simp) he
            | outgrown => obtain ⟨a₀, w₀, h⟩ := he; exact ⟨a₀, w₀, hp _ _ _ (by simp) h⟩)⟩
  | halt x w' => cases x <;> simp only [Oper.uponIn] at hh ⊢ <;> first | exact hp _ _ _ (by simp) hh | exact hh

theorem wpOpIn_postT {i : Nat} {a : Act} {w : World} {K : Act → World → Prop} {Q' : Exit → Act → World → Prop} (hp : ∀ e a w, (e ≠ .normal) → Q e a w → Q' e a w) (hh : wpOpIn F n P ops Q i K a w) : wpOpIn F n P ops Q' i K a w := by
  unfold wpOpIn at *
  split
  · exact by simpa [*] using hh
  · rename_i o ho
    simp only [ho] at hh
    split
    · rename_i hw; simp only [hw, if_true] at hh; exact Oper.wpIn_postT hp hh
    · rename_i hw; simp only [hw] at hh; exact hh

theorem wpAnyT.postAll {Q' : Exit → Act → World → Prop} (hq : ∀ a w, Q .normal a w → Q' .normal a w) (hp : ∀ e a w, (e ≠ .normal) → Q e a w → Q' e a w) : ∀ {fuel : Nat} {p : Pend} {listed : Array Bool} {a : Act} {w : World}, wpAnyT F n P ops Q p fuel listed a w → wpAnyT F n P ops Q' p fuel listed a w
  | 0, _, _, _, _, h => ⟨h.1, hq _ _ h.2⟩
  | _ + 1, _, _, _, _, h => ⟨fun h0 => hq _ _ (h.1 h0), fun i hi => wpOpIn_mono (fun _ _ h => ⟨h.1, h.2.postAll hq hp⟩) (wpOpIn_postT hp (h.2 i hi))⟩

/-- p' asks for no more than p. -/
inductive Fewer : Pend → Pend → Prop
  | nil : Fewer [] []
  | drop {x : Nat × (World → Prop)} {p' p : Pend} : Fewer p' p → Fewer p' (x :: p)
  | keep {x : Nat × (World → Prop)} {p' p : Pend} : Fewer p' p → Fewer (x :: p') (x :: p)
  | triv {i : Nat} {p' p : Pend} : Fewer p' p → Fewer ((i, fun _ => True) :: p') p

theorem Fewer.refl : ∀ p : Pend, Fewer p p
  | [] => .nil
  | _ :: p => .keep (Fewer.refl p)

theorem Fewer.all {p' p : Pend} {w : World} (h : Fewer p' p) : All p w → All p' w := by
  induction h with
  | nil => exact id
  | drop _ ih => exact fun h => ih h.2
  | keep _ ih => exact fun h => ⟨h.1, ih h.2⟩
  | triv _ ih => exact fun h => ⟨trivial, ih h⟩

theorem Fewer.kept {p' p : Pend} (h : Fewer p' p) (j : Nat) : Fewer (Eng.keep ops j p') (Eng.keep ops j p) := by
  induction h with
  | nil => exact .nil
  | @drop x _ _ _ ih =>
    rw [Eng.keep.eq_2 ops j x]
    cases direct ops x.1 j
    · exact .drop ih
    · exact ih
  | @keep x _ _ _ ih =>
    rw [Eng.keep.eq_2 ops j x, Eng.keep.eq_2 ops j x]
    cases direct ops x.1 j
    · exact .keep ih
    · exact ih
  | @triv i _ _ _ ih =>
    rw [Eng.keep.eq_2]
    cases direct ops i j
    · exact .triv ih
    · exact ih

theorem wpAnyT.fewer : ∀ {fuel : Nat} {p p' : Pend} {listed : Array Bool} {a : Act} {w : World}, Fewer p' p → wpAnyT F n P ops Q p fuel listed a w → wpAnyT F n P ops Q p' fuel listed a w
  | 0, _, _, _, _, _, _, h => h
  | _ + 1, _, _, _, _, _, hf, h => ⟨h.1, fun i hi => wpOpIn_mono (fun _ _ h => ⟨(hf.kept i).all h.1, h.2.fewer (hf.kept i)⟩) (h.2 i hi)⟩

/-- It yields v in each world of which p holds, or its guard says no. -/
def YT (P : Program) (ops : Array Oper) (o : Oper) (v : Value) (a : Act) (p : World → Prop) : Prop :=
  (Region.wanted o (yielded ops a.tmps) = true ∧ ∀ w, p w → (execOp a.eval o).run P w = .ok (.value v) w) ∨
  (Region.wanted o (yielded ops a.tmps) = false ∧ v = undef)

/-- The fence lets every function in, and no operation of the region is a defer statement. -/
structure Free (F : Fence) (ops : Array Oper) : Prop where
  fn : ∀ f, F.fn f
  sem : ∀ (j : Nat) (o : Oper), ops[j]? = some o → ∀ ρ, o.semAt F.round ρ = execOp ρ o
  sel : ∀ (j : Nat) (o : Oper) cs b, ops[j]? = some o → o.op ≠ .select cs b

theorem YT.wpOpIn (hF : Free F ops) {i : Nat} {o : Oper} {v : Value} {a : Act} {p : World → Prop} (hi : ops[i]? = some o) (hy : YT P ops o v a p)
    {K : Act → World → Prop} {w : World} (hp : p w) (h : K (a.put o.dst v) w) : wpOpIn F n P ops Q i K a w := by
  unfold Go.wpOpIn
  simp only [hi]
  rcases hy with ⟨hw, hv⟩ | ⟨hw, rfl⟩
  · simp only [hw, if_true, Oper.wpIn, hF.sem i o hi, hv w hp, Oper.uponIn]; exact ⟨fun f _ => hF.fn f, h⟩
  · simp only [hw, Bool.false_eq_true, if_false]; exact ⟨fun f _ => hF.fn f, h⟩

theorem YT.of_same {o : Oper} {v : Value} {a a' : Act} {p : World → Prop} (hy : YT P ops o v a p) (he : execOp a'.eval o = execOp a.eval o)
    (hw : Region.wanted o (yielded ops a'.tmps) = Region.wanted o (yielded ops a.tmps)) : YT P ops o v a' p := by
  unfold YT at *
  rw [he, hw]
  exact hy

theorem wpOpIn_putT (hF : Free F ops) {i j : Nat} {oi oj : Oper} {v : Value} {p : World → Prop} (hi : ops[i]? = some oi) (hj : ops[j]? = some oj) (hap : oi.apart ops oj = true)
    (hQ : ∀ c a w, Q (.panic c) (a.put oi.dst v) w → Q (.panic c) a w) {K : Act → World → Prop} {a : Act} {w : World}
    (hy : YT P ops oi v a p) (h : wpOpIn F n P ops Q j K (a.put oi.dst v) w) :
    wpOpIn F n P ops Q j (fun a' w' => YT P ops oi v a' p ∧ K (a'.put oi.dst v) w') a w := by
  obtain ⟨h1, h2, h3⟩ := Oper.apart_spec hap
  have hsi : ∀ cs b, oi.op ≠ .select cs b := fun cs b => hF.sel i oi cs b hi
  have hsj : ∀ cs b, oj.op ≠ .select cs b := fun cs b => hF.sel j oj cs b hj
  have keep : ∀ (a : Act), YT P ops oi v a p → ∀ u, YT P ops oi v (a.put oj.dst u) p := fun a hy u =>
    hy.of_same (execOp_put oi hsi a oj.dst u h3) (wanted_put oi a oj.dst u h3)
  have keepD : ∀ d, YT P ops oi v { a with defers := d :: a.defers } p := fun d => hy.of_same rfl rfl
  unfold wpOpIn at *
  simp only [hj] at h ⊢
  rw [wanted_put oj a oi.dst v h1] at h
  split
  · rename_i hw
    simp only [hw, if_true] at h
    unfold Oper.wpIn at *
    refine ⟨fun f _ => hF.fn f, ?_⟩
    have h := h.2
    rw [hF.sem j oj hj, execOp_put oj hsj a oi.dst v h1] at h
    rw [hF.sem j oj hj]
    generalize (execOp a.eval oj).run P w = r at *
    cases r with
    | ok x w' =>
      cases x <;> simp only [Oper.uponIn] at h ⊢
      case value u => exact ⟨keep a hy u, by rw [← Act.put_comm a v u h2]; exact h⟩
      case skip => exact ⟨keep a hy _, by rw [← Act.put_comm a v undef h2]; exact h⟩
      case defer d =>
        refine ⟨keep _ (keepD d) _, ?_⟩
        rw [← Act.put_comm _ v undef h2, ← Act.put_defers]
        exact h
      case enter f args =>
        refine ⟨h.1, CallsIn.mono h.2 fun e w'' he => ?_⟩
        cases e with
        | returned u => exact ⟨keep a hy u, by rw [← Act.put_comm a v u h2]; exact he⟩
        | panicked c => exact hQ _ _ _ he
        | outgrown => exact he
      case row row args => exact ⟨h.1, RowsIn.mono h.2 fun u w'' he => ⟨keep a hy u, by rw [← Act.put_comm a v u h2]; exact he⟩⟩
      case round l f tmps assign body =>
        refine ⟨h.1, RoundIn.mono h.2 fun e w'' he => ?_⟩
        cases e with
        | returned u => exact ⟨keep a hy u, by rw [← Act.put_comm a v u h2]; exact he⟩
        | panicked c => exact hQ _ _ _ he
        | outgrown => exact he
    | halt x w' =>
      cases x <;> simp only [Oper.uponIn] at h ⊢
      case panic u => exact hQ _ _ _ h
  · rename_i hw
    simp only [hw, Bool.false_eq_true, if_false] at h
    exact ⟨fun f _ => hF.fn f, keep a hy _, by rw [← Act.put_comm a v undef h2]; exact h.2⟩

theorem wpAnyT_first (hF : Free F ops) {i : Nat} {oi : Oper} {v : Value} {p : World → Prop} (hi : ops[i]? = some oi)
    (hQ : ∀ c a w, Q (.panic c) (a.put oi.dst v) w → Q (.panic c) a w) :
    ∀ (fuel : Nat) (pd : Pend) (listed : Array Bool) (a : Act) (w : World),
      (∀ j oj, ops[j]? = some oj → j ≠ i → listed.getD j true = false → (∀ e ∈ oj.after, Region.binds .any e = true → e.on ≠ i) → oi.apart ops oj = true) →
      i ∈ Region.ready .any ops listed → YT P ops oi v a p → p w → All pd w →
      wpAnyT F n P ops Q ((i, p) :: pd) fuel (listed.setIfInBounds i true) (a.put oi.dst v) w → wpAnyT F n P ops Q pd (fuel + 1) listed a w := by
  intro fuel
  induction fuel with
  | zero =>
    intro pd listed a w _ hr hy hp hpd H
    refine ⟨fun h => (by rw [h] at hr; cases hr), fun j hj => ?_⟩
    by_cases hji : j = i
    · subst hji; exact hy.wpOpIn hF hi hp ⟨all_keep hpd, H⟩
    · have := ready_mono hj hji
      rw [H.1] at this
      cases this
  | succ fuel ih =>
    intro pd listed a w hfree hr hy hp hpd H
    refine ⟨fun h => (by rw [h] at hr; cases hr), fun j hj => ?_⟩
    by_cases hji : j = i
    · subst hji
      refine hy.wpOpIn hF hi hp ⟨all_keep hpd, H.fewer (.drop ?_)⟩
      clear H hpd
      induction pd with
      | nil => exact .nil
      | cons x r ih =>
        unfold keep
        cases direct ops x.1 j
        · exact .keep ih
        · exact .drop ih
    · have h1 := H.2 j (ready_mono hj hji)
      obtain ⟨hjun, oj, hoj, hall⟩ := mem_ready.1 hj
      have hnot : ∀ e ∈ oj.after, Region.binds .any e = true → e.on ≠ i := fun e he hb heq => by
        have h1 := hall e he hb
        have h0 := (mem_ready.1 hr).1
        rw [heq] at h1
        rcases Nat.lt_or_ge i listed.size with h' | h'
        · simp [h'] at h0 h1; rw [h0] at h1; cases h1
        · simp [Array.getElem?_eq_none h'] at h1
      have hdir : direct ops i j = false := by
        unfold direct
        rw [hoj]
        simp only [Option.map_some, Option.getD_some]
        rw [Bool.eq_false_iff]
        intro hany
        rw [Array.any_eq_true'] at hany
        obtain ⟨e, he, hb⟩ := hany
        simp only [Bool.and_eq_true, beq_iff_eq] at hb
        exact hnot e he hb.1 hb.2
      have h2 := wpOpIn_putT hF hi hoj (hfree j oj hoj hji hjun hnot) hQ hy h1
      have hfree' : ∀ k ok, ops[k]? = some ok → k ≠ i → (listed.setIfInBounds j true).getD k true = false →
          (∀ e ∈ ok.after, Region.binds .any e = true → e.on ≠ i) → oi.apart ops ok = true := fun k ok hk hki hun hno => by
        refine hfree k ok hk hki ?_ hno
        by_cases hjk : j = k
        · subst hjk; exact hjun
        · rw [getD_set_ne true hjk] at hun; exact hun
      refine wpOpIn_mono (fun a' w' h3 => ?_) h2
      obtain ⟨h3, h4, h5⟩ := h3
      unfold keep at h4 h5
      rw [hdir] at h4 h5
      obtain ⟨hp', hpd'⟩ := h4
      refine ⟨hpd', ih (keep ops j pd) (listed.setIfInBounds j true) a' w' hfree' (ready_mono hr (Ne.symm hji)) h3 hp' hpd' ?_⟩
      rw [Array.setIfInBounds_comm _ _ hji]
      exact h5
end

def noDefer (ops : Array Oper) : Bool := ops.all fun o => !isDefer o.op

def AT (c : Cx) (ops : Array Oper) (K : Env → World → Prop) (p : Pend) (fuel : Nat) (listed : Array Bool) (l : Env) (w : World) : Prop :=
  All p w → Free (fence c.r) ops → ∀ a, Fits c l a → wpAnyT (fence c.r) 0 c.P ops (lift c (nrm K)) p fuel listed a w

section
variable {c : Cx} {l : Env} {w : World} {ops : Array Oper} {K : Env → World → Prop} {p : Pend} {fuel : Nat} {listed : Array Bool} {op : Op} {ty : TypeId} {pos : String} {after : Array Edge} {d : Nat}

theorem free_of (h1 : noDefer ops = true) (h2 : Region.noSelect ops = true) : Free (fence c.r) ops where
  fn := fun _ => trivial
  sem := fun j o ho ρ => semAt_of (by
    have := Array.all_eq_true.1 h1 j (Array.getElem?_eq_some_iff.1 ho).1
    rw [(Array.getElem?_eq_some_iff.1 ho).2] at this
    simpa using this) _ ρ
  sel := Region.noSelect_spec h2

theorem cw_drawn {id : Nat} {K : Post} (hm : c.P.follows .mixedOrders = true) (h1 : noDefer ops = true) (h2 : Region.noSelect ops = true) {n : Nat} (hn : ops.size = n) {li : Array Bool} (hli : Array.replicate n false = li)
    (h : ∀ K' : Env → World → Prop, (∀ l w, K .normal l w → K' l w) → AT c ops K' [] n li l w.drew) : CW c (.region id ops true) K l w := fun a ha => by
  subst hn
  subst hli
  exact wpIn_mono (wpIn_region_any hm (h (K .normal) (fun _ _ h => h) trivial (free_of h1 h2) a ha).any) fun e a' w' ⟨h1, h2, l', hf, hK⟩ => by
    cases e <;> first | exact ⟨h1, h2, l', hf, hK⟩ | exact (hK : False).elim

theorem cw_rd {id : Nat} {y : Code} {K : Post} (hm : c.P.follows .mixedOrders = true) (h1 : noDefer ops = true) (h2 : Region.noSelect ops = true) {n : Nat} (hn : ops.size = n) {li : Array Bool} (hli : Array.replicate n false = li)
    (h : ∀ K' : Env → World → Prop, (∀ l w, CW c y K l w → K' l w) → AT c ops K' [] n li l w.drew) : CW c (.seq (.region id ops true) y) K l w :=
  cw_seq fun _ k1 => cw_drawn hm h1 h2 hn hli fun K2 k2 => h K2 fun l w hc => k2 l w (k1 l w hc)

/-- What is asked of operation i, taken next. -/
def mayTake (ops : Array Oper) (listed : Array Bool) (i : Nat) : Bool := (Region.ready .any ops listed).contains i && Region.free .any ops listed i

theorem at_l {i : Nat} {v : Value} (q : World → Prop) (hi : ops[i]? = some ⟨some d, op, ty, pos, after, none⟩) (hck : mayTake ops listed i = true) (hlt : Nat.blt d c.n = true)
    (hq : ∀ w', q w' → Quiet c.P l op ty w' v) (hw : q w) {li : Array Bool} (hli : listed.setIfInBounds i true = li) (h : AT c ops K ((i, q) :: p) fuel li ((d, v) :: l) w) : AT c ops K p (fuel + 1) listed l w := fun hp hF a ha => by
  simp only [mayTake, Bool.and_eq_true] at hck
  subst hli
  exact wpAnyT_first hF hi (fun ch a' w' hx => absurd rfl (hx.1 ch)) fuel p listed a w (Region.free_spec hi hck.2) (by simpa using hck.1)
    (.inl ⟨rfl, fun w' hw' => hq w' hw' a.eval (fun x u hu => ha.ev hu) _ _ _ _⟩) hw hp (h ⟨hw, hp⟩ hF _ (ha.put hlt v))

theorem AT.fewer {p' : Pend} (hf : Fewer p' p) (h : AT c ops K p fuel listed l w) (hp : All p' w → All p w) : AT c ops K p' fuel listed l w := fun hp' hF a ha =>
  (h (hp hp') hF a ha).fewer hf

theorem at_q {i : Nat} {v : Value} (hi : ops[i]? = some ⟨some d, op, ty, pos, after, none⟩) (hck : mayTake ops listed i = true) (hlt : Nat.blt d c.n = true)
    (hq : ∀ w', Quiet c.P l op ty w' v) {li : Array Bool} (hli : listed.setIfInBounds i true = li) (h : AT c ops K p fuel li ((d, v) :: l) w) : AT c ops K p (fuel + 1) listed l w :=
  at_l (fun _ => True) hi hck hlt (fun w' _ => hq w') trivial hli (h.fewer (.triv (.refl p)) (fun h => h.2))

theorem at_gq {i j gd : Nat} {b : Bool} {v : Value} (q : World → Prop) (hi : ops[i]? = some ⟨some d, op, ty, pos, after, some (j, b)⟩) (hck : mayTake ops listed i = true) (hlt : Nat.blt d c.n = true)
    (hj : ((ops[j]?).bind (·.dst)) = some gd) (hn : Nat.blt gd c.n = true) (hb : look l gd = some (.bool b))
    (hq : ∀ w', q w' → Quiet c.P l op ty w' v) (hw : q w) {li : Array Bool} (hli : listed.setIfInBounds i true = li) (h : AT c ops K ((i, q) :: p) fuel li ((d, v) :: l) w) : AT c ops K p (fuel + 1) listed l w := fun hp hF a ha => by
  simp only [mayTake, Bool.and_eq_true] at hck
  subst hli
  exact wpAnyT_first hF hi (fun ch a' w' hx => absurd rfl (hx.1 ch)) fuel p listed a w (Region.free_spec hi hck.2) (by simpa using hck.1)
    (.inl ⟨by simp [Region.wanted, yielded_of ha hj hn hb], fun w' hw' => hq w' hw' a.eval (fun x u hu => ha.ev hu) _ _ _ _⟩) hw hp (h ⟨hw, hp⟩ hF _ (ha.put hlt v))

theorem at_gskip {i j gd : Nat} {b want : Bool} (hi : ops[i]? = some ⟨some d, op, ty, pos, after, some (j, want)⟩) (hck : mayTake ops listed i = true) (hlt : Nat.blt d c.n = true)
    (hj : ((ops[j]?).bind (·.dst)) = some gd) (hn : Nat.blt gd c.n = true) (hb : look l gd = some (.bool b)) (hne : (b == want) = false)
    {li : Array Bool} (hli : listed.setIfInBounds i true = li) (h : AT c ops K p fuel li ((d, undef) :: l) w) : AT c ops K p (fuel + 1) listed l w := fun hp hF a ha => by
  simp only [mayTake, Bool.and_eq_true] at hck
  subst hli
  exact wpAnyT_first (p := fun _ => True) hF hi (fun ch a' w' hx => absurd rfl (hx.1 ch)) fuel p listed a w (Region.free_spec hi hck.2) (by simpa using hck.1)
    (.inr ⟨by simp [Region.wanted, yielded_of ha hj hn hb]; simpa using hne, rfl⟩) trivial hp ((h hp hF _ (ha.put hlt undef)).fewer (.triv (.refl p)))

/-- The same of what reads nothing of memory. -/
theorem at_gp {i j gd : Nat} {b : Bool} {v : Value} (hi : ops[i]? = some ⟨some d, op, ty, pos, after, some (j, b)⟩) (hck : mayTake ops listed i = true) (hlt : Nat.blt d c.n = true)
    (hj : ((ops[j]?).bind (·.dst)) = some gd) (hn : Nat.blt gd c.n = true) (hb : look l gd = some (.bool b))
    (hq : ∀ w', Quiet c.P l op ty w' v) {li : Array Bool} (hli : listed.setIfInBounds i true = li) (h : AT c ops K p fuel li ((d, v) :: l) w) : AT c ops K p (fuel + 1) listed l w := fun hp hF a ha => by
  simp only [mayTake, Bool.and_eq_true] at hck
  subst hli
  exact wpAnyT_first (p := fun _ => True) hF hi (fun ch a' w' hx => absurd rfl (hx.1 ch)) fuel p listed a w (Region.free_spec hi hck.2) (by simpa using hck.1)
    (.inl ⟨by simp [Region.wanted, yielded_of ha hj hn hb], fun w' _ => hq w' a.eval (fun x u hu => ha.ev hu) _ _ _ _⟩) trivial hp ((h hp hF _ (ha.put hlt v)).fewer (.triv (.refl p)))

theorem at_gskipU {i j gd : Nat} {want : Bool} (hi : ops[i]? = some ⟨some d, op, ty, pos, after, some (j, want)⟩) (hck : mayTake ops listed i = true) (hlt : Nat.blt d c.n = true)
    (hj : ((ops[j]?).bind (·.dst)) = some gd) (hn : Nat.blt gd c.n = true) (hb : look l gd = some undef)
    {li : Array Bool} (hli : listed.setIfInBounds i true = li) (h : AT c ops K p fuel li ((d, undef) :: l) w) : AT c ops K p (fuel + 1) listed l w := fun hp hF a ha => by
  simp only [mayTake, Bool.and_eq_true] at hck
  subst hli
  exact wpAnyT_first (p := fun _ => True) hF hi (fun ch a' w' hx => absurd rfl (hx.1 ch)) fuel p listed a w (Region.free_spec hi hck.2) (by simpa using hck.1)
    (.inr ⟨by simp [Region.wanted, yielded_undef ha hj hn hb], rfl⟩) trivial hp ((h hp hF _ (ha.put hlt undef)).fewer (.triv (.refl p)))

theorem at_h {i : Nat} (hi : ops[i]? = some ⟨some d, op, ty, pos, after, none⟩) (hck : Region.ready .any ops listed = [i]) (hlt : Nat.blt d c.n = true)
    {p' : Pend} (hp' : keep ops i p = p') {li : Array Bool} (hli : listed.setIfInBounds i true = li)
    (hq : HW c l op ty w fun v w' => All p' w' ∧ AT c ops K p' fuel li ((d, v) :: l) w') : AT c ops K p (fuel + 1) listed l w := fun hp hF a ha => by
  subst hp'
  subst hli
  refine ⟨fun h0 => (by rw [hck] at h0; cases h0), fun k hk => ?_⟩
  rw [hck] at hk
  obtain rfl := List.mem_singleton.1 hk
  unfold wpOpIn
  simp only [hi]
  rw [if_pos (show Region.wanted _ _ = true from rfl)]
  exact hq a ha _ _ _ _ _ _ fun v w' ⟨h1, h2⟩ => ⟨h1, h2 h1 hF _ (ha.put hlt v)⟩

/-- The operation i is carried out next. -/
def AH (c : Cx) (ops : Array Oper) (K : Env → World → Prop) (p : Pend) (fuel : Nat) (listed : Array Bool) (i : Nat) (l : Env) (w : World) : Prop :=
  All p w → Free (fence c.r) ops → ∀ a, Fits c l a → wpOpIn (fence c.r) 0 c.P ops (lift c (nrm K)) i (fun a' w' => All (keep ops i p) w' ∧ wpAnyT (fence c.r) 0 c.P ops (lift c (nrm K)) (keep ops i p) fuel (listed.setIfInBounds i true) a' w') a w

/-- Two operations may come next: both ways. -/
theorem at_two {i j : Nat} (hck : Region.ready .any ops listed = [i, j]) (h1 : AH c ops K p fuel listed i l w) (h2 : AH c ops K p fuel listed j l w) : AT c ops K p (fuel + 1) listed l w := fun hp hF a ha => by
  refine ⟨fun h0 => (by rw [hck] at h0; cases h0), fun k hk => ?_⟩
  rw [hck] at hk
  rcases List.mem_cons.1 hk with rfl | hk
  · exact h1 hp hF a ha
  · obtain rfl := List.mem_singleton.1 hk
    exact h2 hp hF a ha

theorem ah_h {i : Nat} (hi : ops[i]? = some ⟨some d, op, ty, pos, after, none⟩) (hlt : Nat.blt d c.n = true)
    {p' : Pend} (hp' : keep ops i p = p') {li : Array Bool} (hli : listed.setIfInBounds i true = li)
    (hq : HW c l op ty w fun v w' => All p' w' ∧ AT c ops K p' fuel li ((d, v) :: l) w') : AH c ops K p fuel listed i l w := fun _ hF a ha => by
  subst hp'
  subst hli
  unfold wpOpIn
  simp only [hi]
  rw [if_pos (show Region.wanted _ _ = true from rfl)]
  exact hq a ha _ _ _ _ _ _ fun v w' ⟨h1, h2⟩ => ⟨h1, h2 h1 hF _ (ha.put hlt v)⟩

/-- A region that draws, and what comes behind it, by what holds between them. -/
theorem cw_rdJ {id : Nat} {y : Code} {K : Post} (J : Env → World → Prop) (hm : c.P.follows .mixedOrders = true) (h1 : noDefer ops = true) (h2 : Region.noSelect ops = true) {n : Nat} (hn : ops.size = n) {li : Array Bool} (hli : Array.replicate n false = li)
    (h : AT c ops J [] n li l w.drew) (hr : ∀ l w, J l w → CW c y K l w) : CW c (.seq (.region id ops true) y) K l w :=
  cw_cut J (cw_drawn hm h1 h2 hn hli fun K2 k2 => by
    intro hp hF a ha
    refine wpAnyT.postAll ?_ ?_ (h hp hF a ha)
    · intro a' w' ⟨h1, h2, l', hf, hK⟩
      exact ⟨h1, h2, l', hf, k2 _ _ hK⟩
    · intro e a' w' hne ⟨h1, h2, l', hf, hK⟩
      cases e <;> first | exact absurd rfl hne | exact (hK : False).elim) hr

/-- The same; of the frame only what is named is known behind it. -/
theorem cw_rdS {id : Nat} {y : Code} {K : Post} (J : Env → World → Prop) (hm : c.P.follows .mixedOrders = true) (h1 : noDefer ops = true) (h2 : Region.noSelect ops = true) {n : Nat} (hn : ops.size = n) {li : Array Bool} (hli : Array.replicate n false = li)
    (h : AT c ops (fun l' w' => ∃ l₀, Sub l₀ l' ∧ J l₀ w') [] n li l w.drew) (hr : ∀ l w, J l w → CW c y K l w) : CW c (.seq (.region id ops true) y) K l w :=
  cw_rdJ _ hm h1 h2 hn hli h fun _ w' ⟨l₀, hs, hj⟩ a ha => hr l₀ w' hj a (ha.sub hs)

theorem at_gh {i j gd : Nat} {b : Bool} (hi : ops[i]? = some ⟨some d, op, ty, pos, after, some (j, b)⟩) (hck : Region.ready .any ops listed = [i]) (hlt : Nat.blt d c.n = true)
    (hj : ((ops[j]?).bind (·.dst)) = some gd) (hn : Nat.blt gd c.n = true) (hb : look l gd = some (.bool b))
    {p' : Pend} (hp' : keep ops i p = p') {li : Array Bool} (hli : listed.setIfInBounds i true = li)
    (hq : HW c l op ty w fun v w' => All p' w' ∧ AT c ops K p' fuel li ((d, v) :: l) w') : AT c ops K p (fuel + 1) listed l w := fun hp hF a ha => by
  subst hp'
  subst hli
  refine ⟨fun h0 => (by rw [hck] at h0; cases h0), fun k hk => ?_⟩
  rw [hck] at hk
  obtain rfl := List.mem_singleton.1 hk
  unfold wpOpIn
  simp only [hi]
  rw [if_pos (by simp [Region.wanted, yielded_of ha hj hn hb])]
  exact hq a ha _ _ _ _ _ _ fun v w' ⟨h1, h2⟩ => ⟨h1, h2 h1 hF _ (ha.put hlt v)⟩

theorem at_h0 {i : Nat} (hi : ops[i]? = some ⟨none, op, ty, pos, after, none⟩) (hck : Region.ready .any ops listed = [i])
    {p' : Pend} (hp' : keep ops i p = p') {li : Array Bool} (hli : listed.setIfInBounds i true = li)
    (hq : HW c l op ty w fun _ w' => All p' w' ∧ AT c ops K p' fuel li l w') : AT c ops K p (fuel + 1) listed l w := fun hp hF a ha => by
  subst hp'
  subst hli
  refine ⟨fun h0 => (by rw [hck] at h0; cases h0), fun k hk => ?_⟩
  rw [hck] at hk
  obtain rfl := List.mem_singleton.1 hk
  unfold wpOpIn
  simp only [hi]
  rw [if_pos (show Region.wanted _ _ = true from rfl)]
  exact hq a ha _ _ _ _ _ _ fun v w' ⟨h1, h2⟩ => ⟨h1, h2 h1 hF _ ha⟩

theorem at_done (hck : Region.ready .any ops listed = []) (h : K l w) : AT c ops K p fuel listed l w := fun _ _ a ha => by
  have h0 : lift c (nrm K) .normal a w := ⟨by simp, by simp, l, ha, h⟩
  cases fuel with
  | zero => exact ⟨hck, h0⟩
  | succ f => exact ⟨fun _ => h0, fun i hi => (by rw [hck] at hi; cases hi)⟩
end

/-! ## A function -/

/-- What the results hold when the function ends. -/
def ResL (P : Program) (l : Env) (w : World) : List ResultVar → List Value → Prop
  | [], vs => vs = []
  | .tmp t :: r, vs => ∃ v us, vs = v :: us ∧ look l t = some v ∧ ResL P l w r us
  | .cell a T :: r, vs => ∃ v us b, vs = v :: us ∧ look l a = some (.pointer (some b)) ∧ (loadVar T b).run P w = .ok v w ∧ ResL P l w r us

def pack : List Value → Value
  | [v] => v
  | vs => .tuple vs.toArray

def fnK (P : Program) (rs : List ResultVar) (K : Value → World → Prop) : Post
  | .ret => fun l w => ∃ vs, ResL P l w rs vs ∧ K (pack vs) w
  | .normal => fun l w => ∃ vs, ResL P l w rs vs ∧ K (pack vs) w
  | _ => fun _ _ => False

theorem res_nil {P : Program} {l : Env} {w : World} : ResL P l w [] [] := rfl
theorem res_tmp {P : Program} {l : Env} {w : World} {t : Nat} {r : List ResultVar} {v : Value} {us : List Value} (h : look l t = some v) (hr : ResL P l w r us) : ResL P l w (.tmp t :: r) (v :: us) := ⟨v, us, rfl, h, hr⟩
theorem res_cell {P : Program} {l : Env} {w : World} {a T : Nat} {b : Addr} {r : List ResultVar} {v : Value} {us : List Value} (h : look l a = some (.pointer (some b))) (hv : (loadVar T b).run P w = .ok v w) (hr : ResL P l w r us) : ResL P l w (.cell a T :: r) (v :: us) := ⟨v, us, b, rfl, h, hv, hr⟩

theorem resL_mapM {P : Program} {c : Cx} {l : Env} {a : Act} {w : World} (ha : Fits c l a) (g : ResultVar → Sem Value) (hg : ∀ t, g (.tmp t) = pure (a.tmps.getD t undef)) (hc : ∀ b T, g (.cell b T) = do loadVar T (← asAddr (a.tmps.getD b undef))) : ∀ (rs : List ResultVar) (vs : List Value), ResL P l w rs vs →
      (rs.mapM (m := Sem) g).run P w = .ok vs w ∧ vs.length = rs.length
  | [], vs, h => by cases h; exact ⟨rfl, rfl⟩
  | .tmp t :: r, vs, h => by
    obtain ⟨v, us, rfl, hl, hr⟩ := h
    have ih := resL_mapM ha g hg hc r us hr
    rw [List.mapM_cons]
    simp only [hg, ha.vals t v hl, pure_bind]
    rw [Sem.run_bind, ih.1]
    exact ⟨rfl, by simp [ih.2]⟩
  | .cell b T :: r, vs, h => by
    obtain ⟨v, us, p, rfl, hl, hv, hr⟩ := h
    have ih := resL_mapM ha g hg hc r us hr
    rw [List.mapM_cons]
    simp only [hc, ha.vals b _ hl, asAddr, pure_bind]
    rw [Sem.run_bind, hv]
    simp only [Result.andThen_ok, Sem.run_bind, ih.1]
    exact ⟨rfl, by simp [ih.2]⟩

theorem resL_results {P : Program} {fn : Func} {rs : List ResultVar} {c : Cx} {l : Env} {a : Act} {w : World} {vs : List Value} (hr : fn.results = rs.toArray) (ha : Fits c l a) (hv : ResL P l w rs vs) :
    (results fn a.tmps).run P w = .ok (pack vs) w := by
  unfold results
  rw [hr, List.mapM_toArray, Sem.run_bind, Sem.run_map]
  have := resL_mapM (P := P) (w := w) ha (fun | .tmp t => pure (a.tmps.getD t undef) | .cell b t => do loadVar t (← asAddr (a.tmps.getD b undef))) (fun _ => rfl) (fun _ _ => rfl) rs vs hv
  erw [this.1]
  match vs with
  | [] => rfl
  | [v] => rfl
  | v :: u :: r => rfl

def argEnv : List Value → Nat → Env
  | [], _ => []
  | v :: r, k => (k, v) :: argEnv r (k + 1)

theorem argEnv_look : ∀ (vs : List Value) (k t : Nat) (v : Value), look (argEnv vs k) t = some v → k ≤ t ∧ vs[t - k]? = some v
  | [], _, _, _, h => by cases h
  | u :: r, k, t, v, h => by
    rcases look_cons h with ⟨rfl, rfl⟩ | ⟨hne, hl⟩
    · simp
    · obtain ⟨h1, h2⟩ := argEnv_look r (k + 1) t v hl
      refine ⟨by omega, ?_⟩
      rw [show t - k = (t - (k + 1)) + 1 from by omega, List.getElem?_cons_succ]
      exact h2

theorem fn_enter {P : Program} {f : FuncId} {fn : Func} {x : Code} {args : List Value} {w : World} {K : Value → World → Prop} {rs : List ResultVar} {n : Nat} {l : Env}
    (hf : P.funcs[f]? = some fn) (hb : fn.body = some x) (hr : fn.results = rs.toArray) (hn : fn.ntmps = n) (hsz : Nat.ble args.length n = true) (hl : argEnv args 0 = l)
    (h : CW ⟨P, none, n, []⟩ x (fnK P rs K) l w) : Does P f args.toArray w K := by
  subst hn
  subst hl
  refine callsIn_of_wp hf hb trivial ?_
  refine wpIn_mono (h _ ⟨?_, rfl, ?_⟩) ?_
  · have := Nat.le_of_ble_eq_true hsz
    simp
    omega
  · intro t v ht
    obtain ⟨_, h2⟩ := argEnv_look args 0 t v ht
    have hlt := (List.getElem?_eq_some_iff.1 h2).1
    simp only [Nat.sub_zero] at h2 hlt
    rw [Array.getD_eq_getD_getElem?, Array.getElem?_append, if_pos (by simpa using hlt)]
    simp [h2]
  · intro e a w' ⟨h1, h2, l', hfit, hK⟩
    cases e with
    | normal => obtain ⟨vs, hv, hk⟩ := hK; exact ⟨hfit.defers, pack vs, resL_results hr hfit hv, hk⟩
    | ret => obtain ⟨vs, hv, hk⟩ := hK; exact ⟨hfit.defers, pack vs, resL_results hr hfit hv, hk⟩
    | panic ch => exact absurd rfl (h1 ch)
    | outgrown => exact absurd rfl h2
    | exit id => exact (hK : False).elim
    | goto id => exact (hK : False).elim
end Go.Eng
