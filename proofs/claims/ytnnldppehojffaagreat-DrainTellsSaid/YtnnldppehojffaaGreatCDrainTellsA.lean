/- Steps of the proof that the law of this claim answers true, part 1. No conditions. -/
import Derived.CallsIn
import Derived.OrdersIn
import Derived.TacticsIn
import Derived.WalkKit
import Derived.WideLaws
import Derived.LaidEql
import Derived.WalkLawsBesides
import Derived.Laws.AppendOwn
import Derived.Laws.MakeOwn
import Derived.Laws.Append
import Derived.ProofKit
import Derived.OpenShut
import Derived.ShutString
import Derived.ChangeOld
import Derived.Below
import Derived.SizedLaws
import Derived.SliceStrings
import Derived.ChangeSlices
import Derived.Carry
import Derived.DataElems
import Derived.Sort.LotD3
import Derived.Laws.Bits64
import Derived.Sort.LotA
import Derived.Sort.LotB
import Derived.Sort.LotC
import Derived.Laws.StructEq
import Derived.Lib.Tables
import Derived.Sort.LotD4
import Derived.Sort.LotD5
import Derived.Sort.LotD7
import Derived.DefersIn
import Derived.Laws.LoneSync
import Derived.RangeFuncRecord
/- The engine of this claim's walks: what is known of a frame as a list of slots; a region that draws its order is walked in one order alone. No conditions. -/
namespace Go.Eng
open Go
abbrev Env := List (Nat × Value)
def look : Env → Nat → Option Value
  | [], _ => none
  | (k, v) :: r, t => bif Nat.beq k t then some v else look r t
def opv (l : Env) : Operand → Option Value
  | .tmp t => look l t
  | .const v => some v
  | .global g => some (.pointer (some ⟨g, 0, none⟩))
  | .func f => some (.func (.func f) #[] #[])
def fence (r : Option Nat) : Fence := { Fence.wide with round := r }
structure Cx where
  P : Program
  r : Option Nat
  n : Nat
  D : List Deferred
structure Fits (c : Cx) (l : Env) (a : Act) : Prop where
  size : a.tmps.size = c.n
  defers : a.defers = c.D
  vals : ∀ t v, look l t = some v → a.tmps.getD t undef = v
theorem Fits.ev {c : Cx} {l : Env} {a : Act} (h : Fits c l a) {x : Operand} {v : Value} (hx : opv l x = some v) : a.eval x = v := by
  cases x with
  | tmp t => exact h.vals t v hx
  | const u => exact Option.some.inj hx
  | global g => exact Option.some.inj hx
  | func f => exact Option.some.inj hx
theorem look_cons {l : Env} {d t : Nat} {v u : Value} (h : look ((d, v) :: l) t = some u) : (t = d ∧ u = v) ∨ (t ≠ d ∧ look l t = some u) := by
  unfold look at h
  by_cases e : d = t
  · subst e
    rw [Nat.beq_refl, cond_true] at h
    exact .inl ⟨rfl, (Option.some.inj h).symm⟩
  · have hb : Nat.beq d t = false := by
      cases hb : Nat.beq d t with
      | false => rfl
      | true => exact absurd (Nat.eq_of_beq_eq_true hb) e
    rw [hb, cond_false] at h
    exact .inr ⟨fun h' => e h'.symm, h⟩
theorem Fits.put {c : Cx} {l : Env} {a : Act} (h : Fits c l a) {d : Nat} (hd : Nat.blt d c.n = true) (v : Value) : Fits c ((d, v) :: l) (a.put (some d) v) := by
  have hlt : d < a.tmps.size := by rw [h.size]; simpa [Nat.blt_eq] using hd
  refine ⟨by simp [Act.put, h.size], by simp [Act.put, h.defers], fun t u hu => ?_⟩
  rcases look_cons hu with ⟨rfl, rfl⟩ | ⟨hne, hl⟩
  · simp [Act.put, hlt]
  · have := h.vals t u hl
    simp only [Act.put]
    rw [← this]
    simp only [Array.getD_eq_getD_getElem?, Array.getElem?_setIfInBounds]
    rw [if_neg (fun e => hne e.symm)]
theorem Fits.none {c : Cx} {l : Env} {a : Act} (h : Fits c l a) (v : Value) : Fits c l (a.put .none v) := h
def Sub (l' l : Env) : Prop := ∀ t v, look l' t = some v → look l t = some v
theorem Sub.refl (l : Env) : Sub l l := fun _ _ h => h
theorem Sub.nil (l : Env) : Sub [] l := fun _ _ h => by cases h
theorem Sub.cons {l' l : Env} {t : Nat} {v : Value} (h : look l t = some v) (hs : Sub l' l) : Sub ((t, v) :: l') l := fun s u hu => by
  rcases look_cons hu with ⟨rfl, rfl⟩ | ⟨_, hl⟩
  · exact h
  · exact hs s u hl
theorem Fits.sub {c : Cx} {l l' : Env} {a : Act} (h : Fits c l a) (hs : Sub l' l) : Fits c l' a := ⟨h.size, h.defers, fun t v hv => h.vals t v (hs t v hv)⟩
abbrev Post := Exit → Env → World → Prop
def lift (c : Cx) (K : Post) : Exit → Act → World → Prop := fun e a w => (∀ ch, e ≠ .panic ch) ∧ e ≠ .outgrown ∧ ∃ l, Fits c l a ∧ K e l w
def CW (c : Cx) (x : Code) (K : Post) (l : Env) (w : World) : Prop :=
  ∀ a, Fits c l a → x.wpIn (fence c.r) 0 c.P (lift c K) a w
def thn (K' : Env → World → Prop) (K : Post) : Post
  | .normal => K'
  | e => K e
def blk (id : Nat) (K : Post) : Post
  | .exit j => fun l w => bif Nat.beq j id then K .normal l w else K (.exit j) l w
  | e => K e
section
variable {c : Cx} {K : Post} {l : Env} {w : World}
theorem CW.mono {x : Code} {K' : Post} (h : CW c x K l w) (hk : ∀ e l w, K e l w → K' e l w) : CW c x K' l w := fun a ha =>
  wpIn_mono (h a ha) fun _ _ _ ⟨h1, h2, l, hf, hK⟩ => ⟨h1, h2, l, hf, hk _ _ _ hK⟩
theorem CW.sub {x : Code} {l' : Env} (h : CW c x K l' w) (hs : Sub l' l) : CW c x K l w := fun a ha => h a (ha.sub hs)
theorem cw_skip (h : K .normal l w) : CW c .skip K l w := fun a ha => wpIn_skip ⟨by simp, by simp, l, ha, h⟩
theorem cw_ret (h : K .ret l w) : CW c .ret K l w := fun a ha => wpIn_ret ⟨by simp, by simp, l, ha, h⟩
theorem cw_exit {id : Nat} (h : K (.exit id) l w) : CW c (.exit id) K l w := fun a ha => wpIn_exit ⟨by simp, by simp, l, ha, h⟩
theorem cw_label {id : Nat} (h : K .normal l w) : CW c (.label id) K l w := fun a ha => wpIn_label ⟨by simp, by simp, l, ha, h⟩
theorem cw_seq {x y : Code} (h : ∀ K' : Env → World → Prop, (∀ l w, CW c y K l w → K' l w) → CW c x (thn K' K) l w) : CW c (.seq x y) K l w := fun a ha =>
  wpIn_seq (wpIn_mono (h (CW c y K) (fun _ _ h => h) a ha) fun e a' w' ⟨h1, h2, l', hf, hK⟩ => by
    cases e with
    | normal => exact hK a' hf
    | exit id => exact ⟨h1, h2, l', hf, hK⟩
    | goto id => exact ⟨h1, h2, l', hf, hK⟩
    | ret => exact ⟨h1, h2, l', hf, hK⟩
    | panic ch => exact absurd rfl (h1 ch)
    | outgrown => exact absurd rfl h2)
theorem cw_cut {x y : Code} (J : Env → World → Prop) (h : CW c x (thn J K) l w) (h2 : ∀ l w, J l w → CW c y K l w) : CW c (.seq x y) K l w :=
  cw_seq fun K' hK' => h.mono fun e l w hk => by
    cases e <;> first | exact hK' _ _ (h2 _ _ hk) | exact hk
theorem cw_cond {x : Operand} {t e : Code} {b : Bool} (hc : opv l x = some (.bool b)) (ht : b = true → CW c t K l w) (hf : b = false → CW c e K l w) : CW c (.cond x t e) K l w := fun a ha =>
  wpIn_cond_split (ha.ev hc) (fun h => ht h a ha) (fun h => hf h a ha)
theorem cw_true {x : Operand} {t e : Code} (hc : opv l x = some (.bool true)) (ht : CW c t K l w) : CW c (.cond x t e) K l w := fun a ha => wpIn_cond_true (ha.ev hc) (ht a ha)
theorem cw_false {x : Operand} {t e : Code} (hc : opv l x = some (.bool false)) (hf : CW c e K l w) : CW c (.cond x t e) K l w := fun a ha => wpIn_cond_false (ha.ev hc) (hf a ha)
theorem cw_block {id : Nat} {x : Code} (h : CW c x (blk id K) l w) : CW c (.block id x) K l w := fun a ha =>
  wpIn_block (wpIn_mono (h a ha) fun e a' w' ⟨h1, h2, l', hf, hK⟩ => by
    cases e with
    | normal => exact ⟨h1, h2, l', hf, hK⟩
    | exit j =>
      simp only [Exit.inBlock]
      simp only [blk] at hK
      split
      · rename_i hj
        subst hj
        rw [Nat.beq_refl, cond_true] at hK
        exact ⟨by simp, by simp, l', hf, hK⟩
      · rename_i hj
        have hb : Nat.beq j id = false := by
          cases hb : Nat.beq j id with
          | false => rfl
          | true => exact absurd (Nat.eq_of_beq_eq_true hb) hj
        rw [hb, cond_false] at hK
        exact ⟨by simp, by simp, l', hf, hK⟩
    | goto id => exact ⟨h1, h2, l', hf, hK⟩
    | ret => exact ⟨h1, h2, l', hf, hK⟩
    | panic ch => exact absurd rfl (h1 ch)
    | outgrown => exact absurd rfl h2)
theorem wpIn_loop_ghost {F : Fence} {n : Nat} {P : Program} {Q : Exit → Act → World → Prop} {a : Act} {w : World} {x : Code} (I : Nat → Act → World → Prop) (m : Nat) (h₀ : I m a w)
    (round : ∀ m a w, I m a w → x.wpIn F n P (Exit.then (fun a' w' => ∃ m', m' < m ∧ I m' a' w') Q) a w) : (Code.loop x).wpIn F n P Q a w := by
  intro b k cs hro hb hr
  have key : ∀ j a w, I j a w →
      ∃ e a' w', Q e a' w' ∧ ArrivesIn (Machine.fenced P F) P (lone (b.atR a (.code x :: .inLoop x :: k)) cs w) b k cs e a' w' := by
    intro j
    induction j using Nat.strongRecOn with
    | _ j ih =>
      intro a w hI
      obtain ⟨e, a₁, w₁, hq, harr⟩ := round j a w hI b (.inLoop x :: k) cs hro hb hr
      cases e with
      | normal =>
        obtain ⟨m', hlt, hI₁⟩ := hq
        obtain ⟨e₂, a₂, w₂, hq₂, harr₂⟩ := ih m' hlt a₁ w₁ hI₁
        exact ⟨e₂, a₂, w₂, hq₂, .of_steps (StepsIn.trans harr (.one (fenced_calm hb hr rfl) stepR_inLoop)) harr₂⟩
      | exit id => exact ⟨_, a₁, w₁, hq, .pass (x := .inLoop x) rfl (fun _ _ => .inl (by simp)) harr⟩
      | goto l => exact ⟨_, a₁, w₁, hq, .pass (x := .inLoop x) rfl (fun _ _ => .inl (by simp)) harr⟩
      | ret => exact ⟨_, a₁, w₁, hq, .pass (x := .inLoop x) rfl (fun _ _ => .inl (by simp)) harr⟩
      | panic ch => exact ⟨_, a₁, w₁, hq, .pass (x := .inLoop x) rfl (fun _ _ => .inl (by simp)) harr⟩
      | outgrown => exact ⟨_, a₁, w₁, hq, .pass (x := .inLoop x) rfl (fun _ _ => .inl (by simp)) harr⟩
  obtain ⟨e, a', w', hq, harr⟩ := key m a w h₀
  exact ⟨e, a', w', hq, .of_steps (.one (fenced_calm hb hr rfl) stepR_loop) harr⟩
theorem cw_loop {x : Code} (I : Nat → Env → World → Prop) (m : Nat) (l₀ : Env) (hs : Sub l₀ l) (h0 : I m l₀ w)
    (round : ∀ m l w, I m l w → CW c x (thn (fun l' w' => ∃ m' l'', m' < m ∧ Sub l'' l' ∧ I m' l'' w') K) l w) : CW c (.loop x) K l w := fun a ha =>
  wpIn_loop_ghost (fun m a w => ∃ l, Fits c l a ∧ I m l w) m ⟨l₀, ha.sub hs, h0⟩ fun m a w ⟨l, hf, hI⟩ =>
    wpIn_mono (round m l w hI a hf) fun e a' w' ⟨h1, h2, l', hf', hK⟩ => by
      cases e with
      | normal => obtain ⟨m', l'', hlt, hsub, hI'⟩ := hK; exact ⟨m', hlt, l'', hf'.sub hsub, hI'⟩
      | exit id => exact ⟨h1, h2, l', hf', hK⟩
      | goto id => exact ⟨h1, h2, l', hf', hK⟩
      | ret => exact ⟨h1, h2, l', hf', hK⟩
      | panic ch => exact absurd rfl (h1 ch)
      | outgrown => exact absurd rfl h2
end

def Quiet (P : Program) (l : Env) (op : Op) (ty : TypeId) (w : World) (v : Value) : Prop :=
  ∀ (ρ : Operand → Value), (∀ x u, opv l x = some u → ρ x = u) → ∀ dst pos after guard, (execOp ρ ⟨dst, op, ty, pos, after, guard⟩).run P w = .ok (.value v) w
def HW (c : Cx) (l : Env) (op : Op) (ty : TypeId) (w : World) (K : Value → World → Prop) : Prop :=
  ∀ (a : Act), Fits c l a → ∀ dst pos after guard (next : Act → World → Prop) (Q : Exit → Act → World → Prop), (∀ v w', K v w' → next (a.put dst v) w') →
    (⟨dst, op, ty, pos, after, guard⟩ : Oper).wpIn (fence c.r) 0 c.P a w next Q
def isDefer : Op → Bool
  | .defer _ => true
  | _ => false
theorem semAt_of {o : Oper} (h : isDefer o.op = false) (r : Option Nat) (ρ : Operand → Value) : o.semAt r ρ = execOp ρ o :=
  Oper.semAt_eq r ρ o fun c hc => by rw [hc] at h; cases h
def retP (K : Value → World → Prop) : Ending → World → Prop
  | .returned v, w => K v w
  | _, _ => False
def Does (P : Program) (f : FuncId) (args : Array Value) (w : World) (K : Value → World → Prop) : Prop := CallsIn (fence none) 0 P f args w (retP K)
theorem Does.mono {P : Program} {f : FuncId} {args : Array Value} {w : World} {K K' : Value → World → Prop} (h : Does P f args w K) (hk : ∀ v w', K v w' → K' v w') : Does P f args w K' :=
  CallsIn.mono h fun e w' he => by cases e <;> first | exact hk _ _ he | exact he
theorem Does.calls {P : Program} {f : FuncId} {args : Array Value} {w : World} {K : Value → World → Prop} (h : Does P f args w K) : Calls P f args w (retP K) := callsIn_wide.1 h
section
variable {c : Cx} {l : Env} {op : Op} {ty : TypeId} {w : World} {K : Value → World → Prop}
theorem Quiet.hw {v : Value} (h : Quiet c.P l op ty w v) (hd : isDefer op = false) (hk : K v w) : HW c l op ty w K := fun a ha dst pos after guard next Q hn => by
  refine ⟨fun _ _ => trivial, ?_⟩
  rw [semAt_of (o := ⟨dst, op, ty, pos, after, guard⟩) hd, h a.eval (fun x u hu => ha.ev hu)]
  exact hn _ _ hk
theorem HW.value {v : Value} {w' : World} (hd : isDefer op = false)
    (h : ∀ (ρ : Operand → Value), (∀ x u, opv l x = some u → ρ x = u) → ∀ dst pos after guard, (execOp ρ ⟨dst, op, ty, pos, after, guard⟩).run c.P w = .ok (.value v) w')
    (hk : K v w') : HW c l op ty w K := fun a ha dst pos after guard next Q hn => by
  refine ⟨fun _ _ => trivial, ?_⟩
  rw [semAt_of (o := ⟨dst, op, ty, pos, after, guard⟩) hd, h a.eval (fun x u hu => ha.ev hu)]
  exact hn _ _ hk
theorem HW.skip {w' : World} (hd : isDefer op = false)
    (h : ∀ (ρ : Operand → Value), (∀ x u, opv l x = some u → ρ x = u) → ∀ dst pos after guard, (execOp ρ ⟨dst, op, ty, pos, after, guard⟩).run c.P w = .ok .skip w')
    (hk : K undef w') : HW c l op ty w K := fun a ha dst pos after guard next Q hn => by
  refine ⟨fun _ _ => trivial, ?_⟩
  rw [semAt_of (o := ⟨dst, op, ty, pos, after, guard⟩) hd, h a.eval (fun x u hu => ha.ev hu)]
  exact hn _ _ hk
theorem HW.enter {f : FuncId} {args : Array Value} {w' : World} (hd : isDefer op = false)
    (h : ∀ (ρ : Operand → Value), (∀ x u, opv l x = some u → ρ x = u) → ∀ dst pos after guard, (execOp ρ ⟨dst, op, ty, pos, after, guard⟩).run c.P w = .ok (.enter f args) w')
    (hk : Does c.P f args w' K) : HW c l op ty w K := fun a ha dst pos after guard next Q hn => by
  refine ⟨fun _ _ => trivial, ?_⟩
  rw [semAt_of (o := ⟨dst, op, ty, pos, after, guard⟩) hd, h a.eval (fun x u hu => ha.ev hu)]
  refine ⟨fun h => by simp [fence, Fence.wide] at h, ?_⟩
  have hk' : CallsIn (fence c.r) (0 - 1) c.P f args w' (retP K) := hk
  exact CallsIn.mono hk' fun e w'' he => by cases e <;> first | exact hn _ _ he | exact he.elim
theorem HW.mono {K' : Value → World → Prop} (h : HW c l op ty w K) (hk : ∀ v w', K v w' → K' v w') : HW c l op ty w K' := fun a ha dst pos after guard next Q hn =>
  h a ha dst pos after guard next Q fun v w' hv => hn v w' (hk v w' hv)
end

def nrm (K : Env → World → Prop) : Post
  | .normal => K
  | _ => fun _ _ => False
def AS (c : Cx) (ops : Array Oper) (K : Env → World → Prop) (js : List Oper) (l : Env) (w : World) : Prop :=
  ∀ a, Fits c l a → wpListIn (fence c.r) 0 c.P ops (lift c (nrm K)) js a w
section
variable {c : Cx} {l : Env} {w : World} {ops : Array Oper} {K : Env → World → Prop} {js : List Oper} {op : Op} {ty : TypeId} {pos : String} {after : Array Edge} {d : Nat}
theorem cw_region {id : Nat} {lops : List Oper} {K : Post} (h : ∀ K' : Env → World → Prop, (∀ l w, K .normal l w → K' l w) → AS c lops.toArray K' lops l w) : CW c (.region id lops.toArray false) K l w := fun a ha =>
  wpIn_mono (wpIn_region_lit (h (K .normal) (fun _ _ h => h) a ha)) fun e a' w' ⟨h1, h2, l', hf, hK⟩ => by
    cases e <;> first | exact ⟨h1, h2, l', hf, hK⟩ | exact (hK : False).elim
theorem cw_rs {id : Nat} {lops : List Oper} {y : Code} {K : Post} (h : ∀ K' : Env → World → Prop, (∀ l w, CW c y K l w → K' l w) → AS c lops.toArray K' lops l w) : CW c (.seq (.region id lops.toArray false) y) K l w :=
  cw_seq fun _ h1 => cw_region fun K2 h2 => h K2 fun l w hc => h2 l w (h1 l w hc)
theorem as_nil (h : K l w) : AS c ops K [] l w := fun _ ha => ⟨by simp, by simp, l, ha, h⟩
theorem as_h (hlt : Nat.blt d c.n = true) (hq : HW c l op ty w fun v w' => AS c ops K js ((d, v) :: l) w') : AS c ops K (⟨some d, op, ty, pos, after, none⟩ :: js) l w := fun a ha => by
  show if _ then _ else _
  rw [if_pos (show Region.wanted _ _ = true from rfl)]
  exact hq a ha _ _ _ _ _ _ fun v w' h => h _ (ha.put hlt v)
theorem as_h0 (hq : HW c l op ty w fun _ w' => AS c ops K js l w') : AS c ops K (⟨none, op, ty, pos, after, none⟩ :: js) l w := fun a ha => by
  show if _ then _ else _
  rw [if_pos (show Region.wanted _ _ = true from rfl)]
  exact hq a ha _ _ _ _ _ _ fun v w' h => h _ ha
theorem as_q {v : Value} (hlt : Nat.blt d c.n = true) (hd : isDefer op = false) (hq : Quiet c.P l op ty w v) (h : AS c ops K js ((d, v) :: l) w) : AS c ops K (⟨some d, op, ty, pos, after, none⟩ :: js) l w :=
  as_h hlt (hq.hw hd h)
theorem yielded_of {a : Act} (ha : Fits c l a) {j gd : Nat} {b : Bool} (hj : ((ops[j]?).bind (·.dst)) = some gd) (hn : Nat.blt gd c.n = true) (hb : look l gd = some (.bool b)) : yielded ops a.tmps j = some b := by
  have h1 := ha.vals gd _ hb
  have hlt : gd < a.tmps.size := by rw [ha.size]; simpa [Nat.blt_eq] using hn
  have h2 : a.tmps[gd]? = some (.bool b) := by
    rw [Array.getElem?_eq_getElem hlt]
    rw [Array.getD_eq_getD_getElem?, Array.getElem?_eq_getElem hlt] at h1
    exact congrArg some h1
  simp [yielded, hj, h2]
theorem as_gh {j gd : Nat} {b : Bool} (hlt : Nat.blt d c.n = true) (hj : ((ops[j]?).bind (·.dst)) = some gd) (hn : Nat.blt gd c.n = true) (hb : look l gd = some (.bool b))
    (hq : HW c l op ty w fun v w' => AS c ops K js ((d, v) :: l) w') : AS c ops K (⟨some d, op, ty, pos, after, some (j, b)⟩ :: js) l w := fun a ha => by
  show if _ then _ else _
  rw [if_pos (by simp [Region.wanted, yielded_of ha hj hn hb])]
  exact hq a ha _ _ _ _ _ _ fun v w' h => h _ (ha.put hlt v)
theorem as_gskip {j gd : Nat} {b want : Bool} (hlt : Nat.blt d c.n = true) (hj : ((ops[j]?).bind (·.dst)) = some gd) (hn : Nat.blt gd c.n = true) (hb : look l gd = some (.bool b)) (hne : (b == want) = false)
    (hq : AS c ops K js ((d, undef) :: l) w) : AS c ops K (⟨some d, op, ty, pos, after, some (j, want)⟩ :: js) l w := fun a ha => by
  show if _ then _ else _
  rw [if_neg (by simp [Region.wanted, yielded_of ha hj hn hb]; simpa using hne)]
  exact ⟨fun _ _ => trivial, hq _ (ha.put hlt undef)⟩
theorem yielded_undef {a : Act} (ha : Fits c l a) {j gd : Nat} (hj : ((ops[j]?).bind (·.dst)) = some gd) (hn : Nat.blt gd c.n = true) (hb : look l gd = some undef) : yielded ops a.tmps j = none := by
  have h1 := ha.vals gd _ hb
  have hlt : gd < a.tmps.size := by rw [ha.size]; simpa [Nat.blt_eq] using hn
  have h2 : a.tmps[gd]? = some undef := by
    rw [Array.getElem?_eq_getElem hlt]
    rw [Array.getD_eq_getD_getElem?, Array.getElem?_eq_getElem hlt] at h1
    exact congrArg some h1
  simp [yielded, hj, h2, undef]
theorem as_gskipU {j gd : Nat} {want : Bool} (hlt : Nat.blt d c.n = true) (hj : ((ops[j]?).bind (·.dst)) = some gd) (hn : Nat.blt gd c.n = true) (hb : look l gd = some undef)
    (hq : AS c ops K js ((d, undef) :: l) w) : AS c ops K (⟨some d, op, ty, pos, after, some (j, want)⟩ :: js) l w := fun a ha => by
  show if _ then _ else _
  rw [if_neg (by simp [Region.wanted, yielded_undef ha hj hn hb])]
  exact ⟨fun _ _ => trivial, hq _ (ha.put hlt undef)⟩
end

section
variable {F : Fence} {n : Nat} {P : Program} {ops : Array Oper} {Q : Exit → Act → World → Prop}
def direct (ops : Array Oper) (i j : Nat) : Bool := ((ops[j]?).map fun o => o.after.any fun e => Region.binds .any e && e.on == i).getD false
abbrev Pend := List (Nat × (World → Prop))
def All : Pend → World → Prop
  | [], _ => True
  | x :: r, w => x.2 w ∧ All r w
def keep (ops : Array Oper) (j : Nat) : Pend → Pend
  | [] => []
  | x :: r => bif direct ops x.1 j then keep ops j r else x :: keep ops j r
def sift : List Bool → Pend → Pend
  | b :: r, x :: p => bif b then sift r p else x :: sift r p
  | _, p => p
theorem keep_sift {j : Nat} : ∀ {p : Pend} {bs : List Bool}, p.map (fun x => direct ops x.1 j) = bs → keep ops j p = sift bs p
  | [], bs, h => by subst h; rfl
  | x :: r, bs, h => by
    subst h
    simp only [keep, List.map_cons, sift]
    rw [keep_sift (p := r) rfl]
theorem all_keep {j : Nat} {w : World} : ∀ {p : Pend}, All p w → All (keep ops j p) w
  | [], h => h
  | x :: r, h => by
    unfold keep
    cases direct ops x.1 j
    · exact ⟨h.1, all_keep h.2⟩
    · exact all_keep h.2
def wpAnyT (F : Fence) (n : Nat) (P : Program) (ops : Array Oper) (Q : Exit → Act → World → Prop) : Pend → Nat → Array Bool → Act → World → Prop
  | _, 0, listed, a, w => Region.ready .any ops listed = [] ∧ Q .normal a w
  | p, fuel + 1, listed, a, w =>
    (Region.ready .any ops listed = [] → Q .normal a w) ∧
    ∀ i ∈ Region.ready .any ops listed, wpOpIn F n P ops Q i (fun a' w' => All (keep ops i p) w' ∧ wpAnyT F n P ops Q (keep ops i p) fuel (listed.setIfInBounds i true) a' w') a w
theorem wpAnyT.any : ∀ {fuel : Nat} {p : Pend} {listed : Array Bool} {a : Act} {w : World}, wpAnyT F n P ops Q p fuel listed a w → wpAnyIn F n P .any ops Q fuel listed a w
  | 0, _, _, _, _, h => h
  | _ + 1, _, _, _, _, h => ⟨h.1, fun i hi => wpOpIn_mono (fun _ _ h => h.2.any) (h.2 i hi)⟩
theorem Oper.wpIn_postT {o : Oper} {a : Act} {w : World} {K : Act → World → Prop} {Q' : Exit → Act → World → Prop} (hp : ∀ e a w, (e ≠ .normal) → Q e a w → Q' e a w) (hh : o.wpIn F n P a w K Q) : o.wpIn F n P a w K Q' := by
  unfold Oper.wpIn at *
  refine ⟨hh.1, ?_⟩
  have hh := hh.2
  generalize (o.semAt F.round a.eval).run P w = r at *
  cases r with
  | ok x w' =>
    cases x <;> simp only [Oper.uponIn] at hh ⊢ <;>
      first
        | exact hh
        | exact ⟨hh.1, CallsIn.mono hh.2 (fun e w'' he => by
            cases e with
            | returned v => exact he
            | panicked c => exact hp _ _ _ (by simp) he
            | outgrown => obtain ⟨a₀, w₀, h⟩ := he; exact ⟨a₀, w₀, hp _ _ _ (by simp) h⟩)⟩
        | exact ⟨hh.1, RoundIn.mono hh.2 (fun e w'' he => by
            cases e with
            | returned v => exact he
            | panicked c => exact hp _ _ _ (by simp) he
            | outgrown => obtain ⟨a₀, w₀, h⟩ := he; exact ⟨a₀, w₀, hp _ _ _ (by simp) h⟩)⟩
  | halt x w' => cases x <;> simp only [Oper.uponIn] at hh ⊢ <;> first | exact hp _ _ _ (by simp) hh | exact hh
theorem wpOpIn_postT {i : Nat} {a : Act} {w : World} {K : Act → World → Prop} {Q' : Exit → Act → World → Prop} (hp : ∀ e a w, (e ≠ .normal) → Q e a w → Q' e a w) (hh : wpOpIn F n P ops Q i K a w) : wpOpIn F n P ops Q' i K a w := by
  unfold wpOpIn at *
  split
  · exact by simpa [*] using hh
  · rename_i o ho
    simp only [ho] at hh
    split
    · rename_i hw; simp only [hw, if_true] at hh; exact Oper.wpIn_postT hp hh
    · rename_i hw; simp only [hw] at hh; exact hh
theorem wpAnyT.postAll {Q' : Exit → Act → World → Prop} (hq : ∀ a w, Q .normal a w → Q' .normal a w) (hp : ∀ e a w, (e ≠ .normal) → Q e a w → Q' e a w) : ∀ {fuel : Nat} {p : Pend} {listed : Array Bool} {a : Act} {w : World}, wpAnyT F n P ops Q p fuel listed a w → wpAnyT F n P ops Q' p fuel listed a w
  | 0, _, _, _, _, h => ⟨h.1, hq _ _ h.2⟩
  | _ + 1, _, _, _, _, h => ⟨fun h0 => hq _ _ (h.1 h0), fun i hi => wpOpIn_mono (fun _ _ h => ⟨h.1, h.2.postAll hq hp⟩) (wpOpIn_postT hp (h.2 i hi))⟩
inductive Fewer : Pend → Pend → Prop
  | nil : Fewer [] []
  | drop {x : Nat × (World → Prop)} {p' p : Pend} : Fewer p' p → Fewer p' (x :: p)
  | keep {x : Nat × (World → Prop)} {p' p : Pend} : Fewer p' p → Fewer (x :: p') (x :: p)
  | triv {i : Nat} {p' p : Pend} : Fewer p' p → Fewer ((i, fun _ => True) :: p') p
theorem Fewer.refl : ∀ p : Pend, Fewer p p
  | [] => .nil
  | _ :: p => .keep (Fewer.refl p)
theorem Fewer.all {p' p : Pend} {w : World} (h : Fewer p' p) : All p w → All p' w := by
  induction h with
  | nil => exact id
  | drop _ ih => exact fun h => ih h.2
  | keep _ ih => exact fun h => ⟨h.1, ih h.2⟩
  | triv _ ih => exact fun h => ⟨trivial, ih h⟩
theorem Fewer.kept {p' p : Pend} (h : Fewer p' p) (j : Nat) : Fewer (Eng.keep ops j p') (Eng.keep ops j p) := by
  induction h with
  | nil => exact .nil
  | @drop x _ _ _ ih =>
    rw [Eng.keep.eq_2 ops j x]
    cases direct ops x.1 j
    · exact .drop ih
    · exact ih
  | @keep x _ _ _ ih =>
    rw [Eng.keep.eq_2 ops j x, Eng.keep.eq_2 ops j x]
    cases direct ops x.1 j
    · exact .keep ih
    · exact ih
  | @triv i _ _ _ ih =>
    rw [Eng.keep.eq_2]
    cases direct ops i j
    · exact .triv ih
    · exact ih
theorem wpAnyT.fewer : ∀ {fuel : Nat} {p p' : Pend} {listed : Array Bool} {a : Act} {w : World}, Fewer p' p → wpAnyT F n P ops Q p fuel listed a w → wpAnyT F n P ops Q p' fuel listed a w
  | 0, _, _, _, _, _, _, h => h
  | _ + 1, _, _, _, _, _, hf, h => ⟨h.1, fun i hi => wpOpIn_mono (fun _ _ h => ⟨(hf.kept i).all h.1, h.2.fewer (hf.kept i)⟩) (h.2 i hi)⟩
def YT (P : Program) (ops : Array Oper) (o : Oper) (v : Value) (a : Act) (p : World → Prop) : Prop :=
  (Region.wanted o (yielded ops a.tmps) = true ∧ ∀ w, p w → (execOp a.eval o).run P w = .ok (.value v) w) ∨
  (Region.wanted o (yielded ops a.tmps) = false ∧ v = undef)
structure Free (F : Fence) (ops : Array Oper) : Prop where
  fn : ∀ f, F.fn f
  sem : ∀ (j : Nat) (o : Oper), ops[j]? = some o → ∀ ρ, o.semAt F.round ρ = execOp ρ o
  sel : ∀ (j : Nat) (o : Oper) cs b, ops[j]? = some o → o.op ≠ .select cs b
theorem YT.wpOpIn (hF : Free F ops) {i : Nat} {o : Oper} {v : Value} {a : Act} {p : World → Prop} (hi : ops[i]? = some o) (hy : YT P ops o v a p)
    {K : Act → World → Prop} {w : World} (hp : p w) (h : K (a.put o.dst v) w) : wpOpIn F n P ops Q i K a w := by
  unfold Go.wpOpIn
  simp only [hi]
  rcases hy with ⟨hw, hv⟩ | ⟨hw, rfl⟩
  · simp only [hw, if_true, Oper.wpIn, hF.sem i o hi, hv w hp, Oper.uponIn]; exact ⟨fun f _ => hF.fn f, h⟩
  · simp only [hw, Bool.false_eq_true, if_false]; exact ⟨fun f _ => hF.fn f, h⟩
theorem YT.of_same {o : Oper} {v : Value} {a a' : Act} {p : World → Prop} (hy : YT P ops o v a p) (he : execOp a'.eval o = execOp a.eval o)
    (hw : Region.wanted o (yielded ops a'.tmps) = Region.wanted o (yielded ops a.tmps)) : YT P ops o v a' p := by
  unfold YT at *
  rw [he, hw]
  exact hy
theorem wpOpIn_putT (hF : Free F ops) {i j : Nat} {oi oj : Oper} {v : Value} {p : World → Prop} (hi : ops[i]? = some oi) (hj : ops[j]? = some oj) (hap : oi.apart ops oj = true)
    (hQ : ∀ c a w, Q (.panic c) (a.put oi.dst v) w → Q (.panic c) a w) {K : Act → World → Prop} {a : Act} {w : World}
    (hy : YT P ops oi v a p) (h : wpOpIn F n P ops Q j K (a.put oi.dst v) w) :
    wpOpIn F n P ops Q j (fun a' w' => YT P ops oi v a' p ∧ K (a'.put oi.dst v) w') a w := by
  obtain ⟨h1, h2, h3⟩ := Oper.apart_spec hap
  have hsi : ∀ cs b, oi.op ≠ .select cs b := fun cs b => hF.sel i oi cs b hi
  have hsj : ∀ cs b, oj.op ≠ .select cs b := fun cs b => hF.sel j oj cs b hj
  have keep : ∀ (a : Act), YT P ops oi v a p → ∀ u, YT P ops oi v (a.put oj.dst u) p := fun a hy u =>
    hy.of_same (execOp_put oi hsi a oj.dst u h3) (wanted_put oi a oj.dst u h3)
  have keepD : ∀ d, YT P ops oi v { a with defers := d :: a.defers } p := fun d => hy.of_same rfl rfl
  unfold wpOpIn at *
  simp only [hj] at h ⊢
  rw [wanted_put oj a oi.dst v h1] at h
  split
  · rename_i hw
    simp only [hw, if_true] at h
    unfold Oper.wpIn at *
    refine ⟨fun f _ => hF.fn f, ?_⟩
    have h := h.2
    rw [hF.sem j oj hj, execOp_put oj hsj a oi.dst v h1] at h
    rw [hF.sem j oj hj]
    generalize (execOp a.eval oj).run P w = r at *
    cases r with
    | ok x w' =>
      cases x <;> simp only [Oper.uponIn] at h ⊢
      case value u => exact ⟨keep a hy u, by rw [← Act.put_comm a v u h2]; exact h⟩
      case skip => exact ⟨keep a hy _, by rw [← Act.put_comm a v undef h2]; exact h⟩
      case defer d =>
        refine ⟨keep _ (keepD d) _, ?_⟩
        rw [← Act.put_comm _ v undef h2, ← Act.put_defers]
        exact h
      case enter f args =>
        refine ⟨h.1, CallsIn.mono h.2 fun e w'' he => ?_⟩
        cases e with
        | returned u => exact ⟨keep a hy u, by rw [← Act.put_comm a v u h2]; exact he⟩
        | panicked c => exact hQ _ _ _ he
        | outgrown => exact he
      case row row args => exact ⟨h.1, RowsIn.mono h.2 fun u w'' he => ⟨keep a hy u, by rw [← Act.put_comm a v u h2]; exact he⟩⟩
      case round l f tmps assign body =>
        refine ⟨h.1, RoundIn.mono h.2 fun e w'' he => ?_⟩
        cases e with
        | returned u => exact ⟨keep a hy u, by rw [← Act.put_comm a v u h2]; exact he⟩
        | panicked c => exact hQ _ _ _ he
        | outgrown => exact he
    | halt x w' =>
      cases x <;> simp only [Oper.uponIn] at h ⊢
      case panic u => exact hQ _ _ _ h
  · rename_i hw
    simp only [hw, Bool.false_eq_true, if_false] at h
    exact ⟨fun f _ => hF.fn f, keep a hy _, by rw [← Act.put_comm a v undef h2]; exact h.2⟩
theorem wpAnyT_first (hF : Free F ops) {i : Nat} {oi : Oper} {v : Value} {p : World → Prop} (hi : ops[i]? = some oi)
    (hQ : ∀ c a w, Q (.panic c) (a.put oi.dst v) w → Q (.panic c) a w) :
    ∀ (fuel : Nat) (pd : Pend) (listed : Array Bool) (a : Act) (w : World),
      (∀ j oj, ops[j]? = some oj → j ≠ i → listed.getD j true = false → (∀ e ∈ oj.after, Region.binds .any e = true → e.on ≠ i) → oi.apart ops oj = true) →
      i ∈ Region.ready .any ops listed → YT P ops oi v a p → p w → All pd w →
      wpAnyT F n P ops Q ((i, p) :: pd) fuel (listed.setIfInBounds i true) (a.put oi.dst v) w → wpAnyT F n P ops Q pd (fuel + 1) listed a w := by
  intro fuel
  induction fuel with
  | zero =>
    intro pd listed a w _ hr hy hp hpd H
    refine ⟨fun h => (by rw [h] at hr; cases hr), fun j hj => ?_⟩
    by_cases hji : j = i
    · subst hji; exact hy.wpOpIn hF hi hp ⟨all_keep hpd, H⟩
    · have := ready_mono hj hji
      rw [H.1] at this
      cases this
  | succ fuel ih =>
    intro pd listed a w hfree hr hy hp hpd H
    refine ⟨fun h => (by rw [h] at hr; cases hr), fun j hj => ?_⟩
    by_cases hji : j = i
    · subst hji
      refine hy.wpOpIn hF hi hp ⟨all_keep hpd, H.fewer (.drop ?_)⟩
      clear H hpd
      induction pd with
      | nil => exact .nil
      | cons x r ih =>
        unfold keep
        cases direct ops x.1 j
        · exact .keep ih
        · exact .drop ih
    · have h1 := H.2 j (ready_mono hj hji)
      obtain ⟨hjun, oj, hoj, hall⟩ := mem_ready.1 hj
      have hnot : ∀ e ∈ oj.after, Region.binds .any e = true → e.on ≠ i := fun e he hb heq => by
        have h1 := hall e he hb
        have h0 := (mem_ready.1 hr).1
        rw [heq] at h1
        rcases Nat.lt_or_ge i listed.size with h' | h'
        · simp [h'] at h0 h1; rw [h0] at h1; cases h1
        · simp [Array.getElem?_eq_none h'] at h1
      have hdir : direct ops i j = false := by
        unfold direct
        rw [hoj]
        simp only [Option.map_some, Option.getD_some]
        rw [Bool.eq_false_iff]
        intro hany
        rw [Array.any_eq_true'] at hany
        obtain ⟨e, he, hb⟩ := hany
        simp only [Bool.and_eq_true, beq_iff_eq] at hb
        exact hnot e he hb.1 hb.2
      have h2 := wpOpIn_putT hF hi hoj (hfree j oj hoj hji hjun hnot) hQ hy h1
      have hfree' : ∀ k ok, ops[k]? = some ok → k ≠ i → (listed.setIfInBounds j true).getD k true = false →
          (∀ e ∈ ok.after, Region.binds .any e = true → e.on ≠ i) → oi.apart ops ok = true := fun k ok hk hki hun hno => by
        refine hfree k ok hk hki ?_ hno
        by_cases hjk : j = k
        · subst hjk; exact hjun
        · rw [getD_set_ne true hjk] at hun; exact hun
      refine wpOpIn_mono (fun a' w' h3 => ?_) h2
      obtain ⟨h3, h4, h5⟩ := h3
      unfold keep at h4 h5
      rw [hdir] at h4 h5
      obtain ⟨hp', hpd'⟩ := h4
      refine ⟨hpd', ih (keep ops j pd) (listed.setIfInBounds j true) a' w' hfree' (ready_mono hr (Ne.symm hji)) h3 hp' hpd' ?_⟩
      rw [Array.setIfInBounds_comm _ _ hji]
      exact h5
end
def noDefer (ops : Array Oper) : Bool := ops.all fun o => !isDefer o.op
def AT (c : Cx) (ops : Array Oper) (K : Env → World → Prop) (p : Pend) (fuel : Nat) (listed : Array Bool) (l : Env) (w : World) : Prop :=
  All p w → Free (fence c.r) ops → ∀ a, Fits c l a → wpAnyT (fence c.r) 0 c.P ops (lift c (nrm K)) p fuel listed a w
section
variable {c : Cx} {l : Env} {w : World} {ops : Array Oper} {K : Env → World → Prop} {p : Pend} {fuel : Nat} {listed : Array Bool} {op : Op} {ty : TypeId} {pos : String} {after : Array Edge} {d : Nat}
theorem free_of (h1 : noDefer ops = true) (h2 : Region.noSelect ops = true) : Free (fence c.r) ops where
  fn := fun _ => trivial
  sem := fun j o ho ρ => semAt_of (by
    have := Array.all_eq_true.1 h1 j (Array.getElem?_eq_some_iff.1 ho).1
    rw [(Array.getElem?_eq_some_iff.1 ho).2] at this
    simpa using this) _ ρ
  sel := Region.noSelect_spec h2
theorem cw_drawn {id : Nat} {K : Post} (hm : c.P.follows .mixedOrders = true) (h1 : noDefer ops = true) (h2 : Region.noSelect ops = true) {n : Nat} (hn : ops.size = n) {li : Array Bool} (hli : Array.replicate n false = li)
    (h : ∀ K' : Env → World → Prop, (∀ l w, K .normal l w → K' l w) → AT c ops K' [] n li l w.drew) : CW c (.region id ops true) K l w := fun a ha => by
  subst hn
  subst hli
  exact wpIn_mono (wpIn_region_any hm (h (K .normal) (fun _ _ h => h) trivial (free_of h1 h2) a ha).any) fun e a' w' ⟨h1, h2, l', hf, hK⟩ => by
    cases e <;> first | exact ⟨h1, h2, l', hf, hK⟩ | exact (hK : False).elim
theorem cw_rd {id : Nat} {y : Code} {K : Post} (hm : c.P.follows .mixedOrders = true) (h1 : noDefer ops = true) (h2 : Region.noSelect ops = true) {n : Nat} (hn : ops.size = n) {li : Array Bool} (hli : Array.replicate n false = li)
    (h : ∀ K' : Env → World → Prop, (∀ l w, CW c y K l w → K' l w) → AT c ops K' [] n li l w.drew) : CW c (.seq (.region id ops true) y) K l w :=
  cw_seq fun _ k1 => cw_drawn hm h1 h2 hn hli fun K2 k2 => h K2 fun l w hc => k2 l w (k1 l w hc)
def mayTake (ops : Array Oper) (listed : Array Bool) (i : Nat) : Bool := (Region.ready .any ops listed).contains i && Region.free .any ops listed i
theorem at_l {i : Nat} {v : Value} (q : World → Prop) (hi : ops[i]? = some ⟨some d, op, ty, pos, after, none⟩) (hck : mayTake ops listed i = true) (hlt : Nat.blt d c.n = true)
    (hq : ∀ w', q w' → Quiet c.P l op ty w' v) (hw : q w) {li : Array Bool} (hli : listed.setIfInBounds i true = li) (h : AT c ops K ((i, q) :: p) fuel li ((d, v) :: l) w) : AT c ops K p (fuel + 1) listed l w := fun hp hF a ha => by
  simp only [mayTake, Bool.and_eq_true] at hck
  subst hli
  exact wpAnyT_first hF hi (fun ch a' w' hx => absurd rfl (hx.1 ch)) fuel p listed a w (Region.free_spec hi hck.2) (by simpa using hck.1)
    (.inl ⟨rfl, fun w' hw' => hq w' hw' a.eval (fun x u hu => ha.ev hu) _ _ _ _⟩) hw hp (h ⟨hw, hp⟩ hF _ (ha.put hlt v))
theorem AT.fewer {p' : Pend} (hf : Fewer p' p) (h : AT c ops K p fuel listed l w) (hp : All p' w → All p w) : AT c ops K p' fuel listed l w := fun hp' hF a ha =>
  (h (hp hp') hF a ha).fewer hf
theorem at_q {i : Nat} {v : Value} (hi : ops[i]? = some ⟨some d, op, ty, pos, after, none⟩) (hck : mayTake ops listed i = true) (hlt : Nat.blt d c.n = true)
    (hq : ∀ w', Quiet c.P l op ty w' v) {li : Array Bool} (hli : listed.setIfInBounds i true = li) (h : AT c ops K p fuel li ((d, v) :: l) w) : AT c ops K p (fuel + 1) listed l w :=
  at_l (fun _ => True) hi hck hlt (fun w' _ => hq w') trivial hli (h.fewer (.triv (.refl p)) (fun h => h.2))
theorem at_gq {i j gd : Nat} {b : Bool} {v : Value} (q : World → Prop) (hi : ops[i]? = some ⟨some d, op, ty, pos, after, some (j, b)⟩) (hck : mayTake ops listed i = true) (hlt : Nat.blt d c.n = true)
    (hj : ((ops[j]?).bind (·.dst)) = some gd) (hn : Nat.blt gd c.n = true) (hb : look l gd = some (.bool b))
    (hq : ∀ w', q w' → Quiet c.P l op ty w' v) (hw : q w) {li : Array Bool} (hli : listed.setIfInBounds i true = li) (h : AT c ops K ((i, q) :: p) fuel li ((d, v) :: l) w) : AT c ops K p (fuel + 1) listed l w := fun hp hF a ha => by
  simp only [mayTake, Bool.and_eq_true] at hck
  subst hli
  exact wpAnyT_first hF hi (fun ch a' w' hx => absurd rfl (hx.1 ch)) fuel p listed a w (Region.free_spec hi hck.2) (by simpa using hck.1)
    (.inl ⟨by simp [Region.wanted, yielded_of ha hj hn hb], fun w' hw' => hq w' hw' a.eval (fun x u hu => ha.ev hu) _ _ _ _⟩) hw hp (h ⟨hw, hp⟩ hF _ (ha.put hlt v))
theorem at_gskip {i j gd : Nat} {b want : Bool} (hi : ops[i]? = some ⟨some d, op, ty, pos, after, some (j, want)⟩) (hck : mayTake ops listed i = true) (hlt : Nat.blt d c.n = true)
    (hj : ((ops[j]?).bind (·.dst)) = some gd) (hn : Nat.blt gd c.n = true) (hb : look l gd = some (.bool b)) (hne : (b == want) = false)
    {li : Array Bool} (hli : listed.setIfInBounds i true = li) (h : AT c ops K p fuel li ((d, undef) :: l) w) : AT c ops K p (fuel + 1) listed l w := fun hp hF a ha => by
  simp only [mayTake, Bool.and_eq_true] at hck
  subst hli
  exact wpAnyT_first (p := fun _ => True) hF hi (fun ch a' w' hx => absurd rfl (hx.1 ch)) fuel p listed a w (Region.free_spec hi hck.2) (by simpa using hck.1)
    (.inr ⟨by simp [Region.wanted, yielded_of ha hj hn hb]; simpa using hne, rfl⟩) trivial hp ((h hp hF _ (ha.put hlt undef)).fewer (.triv (.refl p)))
theorem at_gp {i j gd : Nat} {b : Bool} {v : Value} (hi : ops[i]? = some ⟨some d, op, ty, pos, after, some (j, b)⟩) (hck : mayTake ops listed i = true) (hlt : Nat.blt d c.n = true)
    (hj : ((ops[j]?).bind (·.dst)) = some gd) (hn : Nat.blt gd c.n = true) (hb : look l gd = some (.bool b))
    (hq : ∀ w', Quiet c.P l op ty w' v) {li : Array Bool} (hli : listed.setIfInBounds i true = li) (h : AT c ops K p fuel li ((d, v) :: l) w) : AT c ops K p (fuel + 1) listed l w := fun hp hF a ha => by
  simp only [mayTake, Bool.and_eq_true] at hck
  subst hli
  exact wpAnyT_first (p := fun _ => True) hF hi (fun ch a' w' hx => absurd rfl (hx.1 ch)) fuel p listed a w (Region.free_spec hi hck.2) (by simpa using hck.1)
    (.inl ⟨by simp [Region.wanted, yielded_of ha hj hn hb], fun w' _ => hq w' a.eval (fun x u hu => ha.ev hu) _ _ _ _⟩) trivial hp ((h hp hF _ (ha.put hlt v)).fewer (.triv (.refl p)))
theorem at_h {i : Nat} (hi : ops[i]? = some ⟨some d, op, ty, pos, after, none⟩) (hck : Region.ready .any ops listed = [i]) (hlt : Nat.blt d c.n = true)
    {p' : Pend} (hp' : keep ops i p = p') {li : Array Bool} (hli : listed.setIfInBounds i true = li)
    (hq : HW c l op ty w fun v w' => All p' w' ∧ AT c ops K p' fuel li ((d, v) :: l) w') : AT c ops K p (fuel + 1) listed l w := fun hp hF a ha => by
  subst hp'
  subst hli
  refine ⟨fun h0 => (by rw [hck] at h0; cases h0), fun k hk => ?_⟩
  rw [hck] at hk
  obtain rfl := List.mem_singleton.1 hk
  unfold wpOpIn
  simp only [hi]
  rw [if_pos (show Region.wanted _ _ = true from rfl)]
  exact hq a ha _ _ _ _ _ _ fun v w' ⟨h1, h2⟩ => ⟨h1, h2 h1 hF _ (ha.put hlt v)⟩
def AH (c : Cx) (ops : Array Oper) (K : Env → World → Prop) (p : Pend) (fuel : Nat) (listed : Array Bool) (i : Nat) (l : Env) (w : World) : Prop :=
  All p w → Free (fence c.r) ops → ∀ a, Fits c l a → wpOpIn (fence c.r) 0 c.P ops (lift c (nrm K)) i (fun a' w' => All (keep ops i p) w' ∧ wpAnyT (fence c.r) 0 c.P ops (lift c (nrm K)) (keep ops i p) fuel (listed.setIfInBounds i true) a' w') a w
theorem at_two {i j : Nat} (hck : Region.ready .any ops listed = [i, j]) (h1 : AH c ops K p fuel listed i l w) (h2 : AH c ops K p fuel listed j l w) : AT c ops K p (fuel + 1) listed l w := fun hp hF a ha => by
  refine ⟨fun h0 => (by rw [hck] at h0; cases h0), fun k hk => ?_⟩
  rw [hck] at hk
  rcases List.mem_cons.1 hk with rfl | hk
  · exact h1 hp hF a ha
  · obtain rfl := List.mem_singleton.1 hk
    exact h2 hp hF a ha
theorem ah_h {i : Nat} (hi : ops[i]? = some ⟨some d, op, ty, pos, after, none⟩) (hlt : Nat.blt d c.n = true)
    {p' : Pend} (hp' : keep ops i p = p') {li : Array Bool} (hli : listed.setIfInBounds i true = li)
    (hq : HW c l op ty w fun v w' => All p' w' ∧ AT c ops K p' fuel li ((d, v) :: l) w') : AH c ops K p fuel listed i l w := fun _ hF a ha => by
  subst hp'
  subst hli
  unfold wpOpIn
  simp only [hi]
  rw [if_pos (show Region.wanted _ _ = true from rfl)]
  exact hq a ha _ _ _ _ _ _ fun v w' ⟨h1, h2⟩ => ⟨h1, h2 h1 hF _ (ha.put hlt v)⟩
theorem cw_rdJ {id : Nat} {y : Code} {K : Post} (J : Env → World → Prop) (hm : c.P.follows .mixedOrders = true) (h1 : noDefer ops = true) (h2 : Region.noSelect ops = true) {n : Nat} (hn : ops.size = n) {li : Array Bool} (hli : Array.replicate n false = li)
    (h : AT c ops J [] n li l w.drew) (hr : ∀ l w, J l w → CW c y K l w) : CW c (.seq (.region id ops true) y) K l w :=
  cw_cut J (cw_drawn hm h1 h2 hn hli fun K2 k2 => by
    intro hp hF a ha
    refine wpAnyT.postAll ?_ ?_ (h hp hF a ha)
    · intro a' w' ⟨h1, h2, l', hf, hK⟩
      exact ⟨h1, h2, l', hf, k2 _ _ hK⟩
    · intro e a' w' hne ⟨h1, h2, l', hf, hK⟩
      cases e <;> first | exact absurd rfl hne | exact (hK : False).elim) hr
theorem cw_rdS {id : Nat} {y : Code} {K : Post} (J : Env → World → Prop) (hm : c.P.follows .mixedOrders = true) (h1 : noDefer ops = true) (h2 : Region.noSelect ops = true) {n : Nat} (hn : ops.size = n) {li : Array Bool} (hli : Array.replicate n false = li)
    (h : AT c ops (fun l' w' => ∃ l₀, Sub l₀ l' ∧ J l₀ w') [] n li l w.drew) (hr : ∀ l w, J l w → CW c y K l w) : CW c (.seq (.region id ops true) y) K l w :=
  cw_rdJ _ hm h1 h2 hn hli h fun _ w' ⟨l₀, hs, hj⟩ a ha => hr l₀ w' hj a (ha.sub hs)
theorem at_gh {i j gd : Nat} {b : Bool} (hi : ops[i]? = some ⟨some d, op, ty, pos, after, some (j, b)⟩) (hck : Region.ready .any ops listed = [i]) (hlt : Nat.blt d c.n = true)
    (hj : ((ops[j]?).bind (·.dst)) = some gd) (hn : Nat.blt gd c.n = true) (hb : look l gd = some (.bool b))
    {p' : Pend} (hp' : keep ops i p = p') {li : Array Bool} (hli : listed.setIfInBounds i true = li)
    (hq : HW c l op ty w fun v w' => All p' w' ∧ AT c ops K p' fuel li ((d, v) :: l) w') : AT c ops K p (fuel + 1) listed l w := fun hp hF a ha => by
  subst hp'
  subst hli
  refine ⟨fun h0 => (by rw [hck] at h0; cases h0), fun k hk => ?_⟩
  rw [hck] at hk
  obtain rfl := List.mem_singleton.1 hk
  unfold wpOpIn
  simp only [hi]
  rw [if_pos (by simp [Region.wanted, yielded_of ha hj hn hb])]
  exact hq a ha _ _ _ _ _ _ fun v w' ⟨h1, h2⟩ => ⟨h1, h2 h1 hF _ (ha.put hlt v)⟩
theorem at_h0 {i : Nat} (hi : ops[i]? = some ⟨none, op, ty, pos, after, none⟩) (hck : Region.ready .any ops listed = [i])
    {p' : Pend} (hp' : keep ops i p = p') {li : Array Bool} (hli : listed.setIfInBounds i true = li)
    (hq : HW c l op ty w fun _ w' => All p' w' ∧ AT c ops K p' fuel li l w') : AT c ops K p (fuel + 1) listed l w := fun hp hF a ha => by
  subst hp'
  subst hli
  refine ⟨fun h0 => (by rw [hck] at h0; cases h0), fun k hk => ?_⟩
  rw [hck] at hk
  obtain rfl := List.mem_singleton.1 hk
  unfold wpOpIn
  simp only [hi]
  rw [if_pos (show Region.wanted _ _ = true from rfl)]
  exact hq a ha _ _ _ _ _ _ fun v w' ⟨h1, h2⟩ => ⟨h1, h2 h1 hF _ ha⟩
theorem at_done (hck : Region.ready .any ops listed = []) (h : K l w) : AT c ops K p fuel listed l w := fun _ _ a ha => by
  have h0 : lift c (nrm K) .normal a w := ⟨by simp, by simp, l, ha, h⟩
  cases fuel with
  | zero => exact ⟨hck, h0⟩
  | succ f => exact ⟨fun _ => h0, fun i hi => (by rw [hck] at hi; cases hi)⟩
end

def ResL (P : Program) (l : Env) (w : World) : List ResultVar → List Value → Prop
  | [], vs => vs = []
  | .tmp t :: r, vs => ∃ v us, vs = v :: us ∧ look l t = some v ∧ ResL P l w r us
  | .cell a T :: r, vs => ∃ v us b, vs = v :: us ∧ look l a = some (.pointer (some b)) ∧ (loadVar T b).run P w = .ok v w ∧ ResL P l w r us
def pack : List Value → Value
  | [v] => v
  | vs => .tuple vs.toArray
def fnK (P : Program) (rs : List ResultVar) (K : Value → World → Prop) : Post
  | .ret => fun l w => ∃ vs, ResL P l w rs vs ∧ K (pack vs) w
  | .normal => fun l w => ∃ vs, ResL P l w rs vs ∧ K (pack vs) w
  | _ => fun _ _ => False
theorem res_nil {P : Program} {l : Env} {w : World} : ResL P l w [] [] := rfl
theorem res_tmp {P : Program} {l : Env} {w : World} {t : Nat} {r : List ResultVar} {v : Value} {us : List Value} (h : look l t = some v) (hr : ResL P l w r us) : ResL P l w (.tmp t :: r) (v :: us) := ⟨v, us, rfl, h, hr⟩
theorem res_cell {P : Program} {l : Env} {w : World} {a T : Nat} {b : Addr} {r : List ResultVar} {v : Value} {us : List Value} (h : look l a = some (.pointer (some b))) (hv : (loadVar T b).run P w = .ok v w) (hr : ResL P l w r us) : ResL P l w (.cell a T :: r) (v :: us) := ⟨v, us, b, rfl, h, hv, hr⟩
theorem resL_mapM {P : Program} {c : Cx} {l : Env} {a : Act} {w : World} (ha : Fits c l a) (g : ResultVar → Sem Value) (hg : ∀ t, g (.tmp t) = pure (a.tmps.getD t undef)) (hc : ∀ b T, g (.cell b T) = do loadVar T (← asAddr (a.tmps.getD b undef))) : ∀ (rs : List ResultVar) (vs : List Value), ResL P l w rs vs →
      (rs.mapM (m := Sem) g).run P w = .ok vs w ∧ vs.length = rs.length
  | [], vs, h => by cases h; exact ⟨rfl, rfl⟩
  | .tmp t :: r, vs, h => by
    obtain ⟨v, us, rfl, hl, hr⟩ := h
    have ih := resL_mapM ha g hg hc r us hr
    rw [List.mapM_cons]
    simp only [hg, ha.vals t v hl, pure_bind]
    rw [Sem.run_bind, ih.1]
    exact ⟨rfl, by simp [ih.2]⟩
  | .cell b T :: r, vs, h => by
    obtain ⟨v, us, p, rfl, hl, hv, hr⟩ := h
    have ih := resL_mapM ha g hg hc r us hr
    rw [List.mapM_cons]
    simp only [hc, ha.vals b _ hl, asAddr, pure_bind]
    rw [Sem.run_bind, hv]
    simp only [Result.andThen_ok, Sem.run_bind, ih.1]
    exact ⟨rfl, by simp [ih.2]⟩
theorem resL_results {P : Program} {fn : Func} {rs : List ResultVar} {c : Cx} {l : Env} {a : Act} {w : World} {vs : List Value} (hr : fn.results = rs.toArray) (ha : Fits c l a) (hv : ResL P l w rs vs) :
    (results fn a.tmps).run P w = .ok (pack vs) w := by
  unfold results
  rw [hr, List.mapM_toArray, Sem.run_bind, Sem.run_map]
  have := resL_mapM (P := P) (w := w) ha (fun | .tmp t => pure (a.tmps.getD t undef) | .cell b t => do loadVar t (← asAddr (a.tmps.getD b undef))) (fun _ => rfl) (fun _ _ => rfl) rs vs hv
  erw [this.1]
  match vs with
  | [] => rfl
  | [v] => rfl
  | v :: u :: r => rfl
def argEnv : List Value → Nat → Env
  | [], _ => []
  | v :: r, k => (k, v) :: argEnv r (k + 1)
theorem argEnv_look : ∀ (vs : List Value) (k t : Nat) (v : Value), look (argEnv vs k) t = some v → k ≤ t ∧ vs[t - k]? = some v
  | [], _, _, _, h => by cases h
  | u :: r, k, t, v, h => by
    rcases look_cons h with ⟨rfl, rfl⟩ | ⟨hne, hl⟩
    · simp
    · obtain ⟨h1, h2⟩ := argEnv_look r (k + 1) t v hl
      refine ⟨by omega, ?_⟩
      rw [show t - k = (t - (k + 1)) + 1 from by omega, List.getElem?_cons_succ]
      exact h2
theorem fn_enter {P : Program} {f : FuncId} {fn : Func} {x : Code} {args : List Value} {w : World} {K : Value → World → Prop} {rs : List ResultVar} {n : Nat} {l : Env}
    (hf : P.funcs[f]? = some fn) (hb : fn.body = some x) (hr : fn.results = rs.toArray) (hn : fn.ntmps = n) (hsz : Nat.ble args.length n = true) (hl : argEnv args 0 = l)
    (h : CW ⟨P, none, n, []⟩ x (fnK P rs K) l w) : Does P f args.toArray w K := by
  subst hn
  subst hl
  refine callsIn_of_wp hf hb trivial ?_
  refine wpIn_mono (h _ ⟨?_, rfl, ?_⟩) ?_
  · have := Nat.le_of_ble_eq_true hsz
    simp
    omega
  · intro t v ht
    obtain ⟨_, h2⟩ := argEnv_look args 0 t v ht
    have hlt := (List.getElem?_eq_some_iff.1 h2).1
    simp only [Nat.sub_zero] at h2 hlt
    rw [Array.getD_eq_getD_getElem?, Array.getElem?_append, if_pos (by simpa using hlt)]
    simp [h2]
  · intro e a w' ⟨h1, h2, l', hfit, hK⟩
    cases e with
    | normal => obtain ⟨vs, hv, hk⟩ := hK; exact ⟨hfit.defers, pack vs, resL_results hr hfit hv, hk⟩
    | ret => obtain ⟨vs, hv, hk⟩ := hK; exact ⟨hfit.defers, pack vs, resL_results hr hfit hv, hk⟩
    | panic ch => exact absurd rfl (h1 ch)
    | outgrown => exact absurd rfl h2
    | exit id => exact (hK : False).elim
    | goto id => exact (hK : False).elim
end Go.Eng
/- The engine of this claim's walks, second part: what each kind of operation does. No conditions. -/
namespace Go.Eng
open Go
def nth : List Value → Nat → Option Value
  | [], _ => none
  | v :: _, 0 => some v
  | _ :: r, n + 1 => nth r n
theorem nth_eq : ∀ (l : List Value) (n : Nat), nth l n = l[n]?
  | [], n => by simp [nth]
  | v :: r, 0 => by simp [nth]
  | v :: r, n + 1 => by simp [nth, nth_eq r n]
def cut : List Value → Nat → Nat → Option (List Value)
  | _, _, 0 => some []
  | [], _, _ + 1 => none
  | v :: r, 0, n + 1 => match cut r 0 n with
    | some vs => some (v :: vs)
    | none => none
  | _ :: r, o + 1, n + 1 => cut r o (n + 1)
theorem cut_spec : ∀ (l : List Value) (o n : Nat) (vs : List Value), cut l o n = some vs → vs = (l.drop o).take n ∧ vs.length = n ∧ (0 < n → o + n ≤ l.length)
  | _, _, 0, vs, h => by
    rw [cut.eq_1] at h
    cases h
    simp
  | [], _, _ + 1, _, h => by simp [cut] at h
  | v :: r, 0, n + 1, vs, h => by
    simp only [cut] at h
    cases hc : cut r 0 n with
    | none => rw [hc] at h; cases h
    | some ws =>
      rw [hc] at h
      obtain ⟨h1, h2, h3⟩ := cut_spec r 0 n ws hc
      cases h
      refine ⟨by simp [h1], by simp [h2], fun _ => ?_⟩
      rcases Nat.eq_zero_or_pos n with h0 | h0
      · subst h0; simp
      · have := h3 h0; simp; omega
  | v :: r, o + 1, n + 1, vs, h => by
    obtain ⟨h1, h2, h3⟩ := cut_spec r o (n + 1) vs h
    exact ⟨by simp [h1], h2, fun hn => by have := h3 hn; simp; omega⟩
def opvs (l : Env) : List Operand → Option (List Value)
  | [] => some []
  | x :: r => match opv l x, opvs l r with
    | some v, some vs => some (v :: vs)
    | _, _ => none
theorem opvs_map {l : Env} {ρ : Operand → Value} (hρ : ∀ x u, opv l x = some u → ρ x = u) : ∀ (xs : List Operand) (vs : List Value), opvs l xs = some vs → xs.map ρ = vs
  | [], vs, h => by cases h; rfl
  | x :: r, vs, h => by
    unfold opvs at h
    cases h1 : opv l x with
    | none => rw [h1] at h; cases h
    | some v =>
      cases h2 : opvs l r with
      | none => rw [h1, h2] at h; cases h
      | some us => rw [h1, h2] at h; cases h; simp [hρ x v h1, opvs_map hρ r us h2]
def Blk (w : World) (b : Nat) (cs : List Value) (e : TypeId) : Prop := w.heap[b]? = some (.cells cs.toArray e (0, 0))
theorem Blk.cell {w : World} {b : Nat} {cs : List Value} {e : TypeId} (h : Blk w b cs e) {o : Nat} {v : Value} (hv : nth cs o = some v) : w.cell? ⟨b, o, none⟩ = some v := by
  rw [nth_eq] at hv
  have h' : w.heap[b]? = some (.cells cs.toArray e (0, 0)) := h
  simp [World.cell?, h', hv]
theorem Blk.free {w : World} {b : Nat} {cs : List Value} {e : TypeId} (h : Blk w b cs e) (o : Nat) : w.frozen? ⟨b, o, none⟩ = false := by
  have h' : w.heap[b]? = some (.cells cs.toArray e (0, 0)) := h
  simp [World.frozen?, h']
theorem Blk.lt {w : World} {b : Nat} {cs : List Value} {e : TypeId} (h : Blk w b cs e) : b < w.heap.size := (Array.getElem?_eq_some_iff.1 h).1
theorem Blk.shape {w : World} {b : Nat} {cs : List Value} {e : TypeId} (h : Blk w b cs e) : w.shape? b = some (e, cs.length) := by
  have h' : w.heap[b]? = some (.cells cs.toArray e (0, 0)) := h
  simp [World.shape?, h']
theorem Blk.new (w : World) (cs : List Value) (e : TypeId) : Blk (w.alloc (.cells cs.toArray e)) w.heap.size cs e := by
  show (w.heap.push _)[w.heap.size]? = _
  simp
theorem Blk.drew {w : World} {b : Nat} {cs : List Value} {e : TypeId} (h : Blk w b cs e) : Blk w.drew b cs e := h
def BlkR (w : World) (b : Nat) (cs : List Value) (e : TypeId) : Prop := ∃ fr, w.heap[b]? = some (.cells cs.toArray e fr)
theorem Blk.r {w : World} {b : Nat} {cs : List Value} {e : TypeId} (h : Blk w b cs e) : BlkR w b cs e := ⟨_, h⟩
theorem BlkR.cell {w : World} {b : Nat} {cs : List Value} {e : TypeId} (h : BlkR w b cs e) {o : Nat} {v : Value} (hv : nth cs o = some v) : w.cell? ⟨b, o, none⟩ = some v := by
  rw [nth_eq] at hv
  obtain ⟨fr, h'⟩ := h
  simp [World.cell?, h', hv]
theorem BlkR.lt {w : World} {b : Nat} {cs : List Value} {e : TypeId} (h : BlkR w b cs e) : b < w.heap.size := by
  obtain ⟨fr, h'⟩ := h
  exact (Array.getElem?_eq_some_iff.1 h').1
theorem BlkR.shape {w : World} {b : Nat} {cs : List Value} {e : TypeId} (h : BlkR w b cs e) : w.shape? b = some (e, cs.length) := by
  obtain ⟨fr, h'⟩ := h
  simp [World.shape?, h']
theorem run_v {P : Program} {s : Sem Value} {v : Value} {w w' : World} (h : s.run P w = .ok v w') : (do pure (Next.value (← s)) : Sem Next).run P w = .ok (.value v) w' := by
  rw [Sem.run_bind, h]; rfl
theorem run_u {P : Program} {s : Sem Unit} {w w' : World} (h : s.run P w = .ok () w') : (do s; pure Next.skip : Sem Next).run P w = .ok .skip w' := by
  rw [Sem.run_bind, h]; rfl
section quiet
variable {P : Program} {l : Env} {ty : TypeId} {w : World}
theorem q_move {x : Operand} {v : Value} (hx : opv l x = some v) : Quiet P l (.move x) ty w v := fun ρ h _ _ _ _ => by
  show (pure (Next.value (ρ x)) : Sem Next).run P w = _
  rw [h x v hx]; rfl
theorem q_assign {x : Operand} {v : Value} (hx : opv l x = some v) : Quiet P l (.assign x) ty w v := fun ρ h _ _ _ _ => by
  show (pure (Next.value (ρ x)) : Sem Next).run P w = _
  rw [h x v hx]; rfl
theorem q_pick_t {x y z : Operand} {v : Value} (hx : opv l x = some (.bool true)) (hy : opv l y = some v) : Quiet P l (.pick x y z) ty w v := fun ρ h _ _ _ _ => by
  simp only [execOp, h x _ hx, h y _ hy]; rfl
theorem q_pick_f {x y z : Operand} {v : Value} (hx : opv l x = some (.bool false)) (hz : opv l z = some v) : Quiet P l (.pick x y z) ty w v := fun ρ h _ _ _ _ => by
  simp only [execOp, h x _ hx, h z _ hz]; rfl
theorem q_nilp {x : Operand} {a : Addr} (hx : opv l x = some (.pointer (some a))) : Quiet P l (.nilCheck x) ty w (.pointer (some a)) := fun ρ h _ _ _ _ => by
  simp only [execOp, h x _ hx]; rfl
def fieldOff (P : Program) (T : TypeId) (i : Nat) : Option Nat :=
  match P.underlying T with
  | some (.struct fs) => match fs[i]? with
    | some f => match P.info? f.type with
      | some ti => if ti.size = 0 then none else some f.offset
      | none => none
    | none => none
  | _ => none
theorem q_fieldAddr {x : Operand} {b o off T i : Nat} (hT : fieldOff P T i = some off) (hx : opv l x = some (.pointer (some ⟨b, o, none⟩))) : Quiet P l (.fieldAddr T x i) ty w (.pointer (some ⟨b, o + off, none⟩)) := fun ρ h _ _ _ _ => by
  refine run_v ?_
  rw [h x _ hx]
  unfold fieldOff at hT
  cases hu : P.underlying T with
  | none => rw [hu] at hT; cases hT
  | some d =>
    cases d <;> (rw [hu] at hT; try cases hT)
    rename_i fs
    simp only [] at hT
    cases hf : fs[i]? with
    | none => rw [hf] at hT; cases hT
    | some f =>
      rw [hf] at hT
      simp only [] at hT
      cases hi : P.info? f.type with
      | none => rw [hi] at hT; cases hT
      | some ti =>
        rw [hi] at hT
        simp only [] at hT
        split at hT
        · cases hT
        · rename_i hz
          cases hT
          simp [Instr.fieldAt, run_underlying hu, hf, Instr.sureAddr, fieldPlace, sizeOf, typeInfo, hi, hz, Result.andThen, Addr.add]
def aggOf (P : Program) (T : TypeId) : Option (Option Nat) :=
  match P.underlying T, P.info? T with
  | some (.struct _), some ti => some (some ti.size)
  | some (.array _ _), some ti => some (some ti.size)
  | some _, some _ => some none
  | _, _ => none
theorem aggOf_none {T : TypeId} (h : aggOf P T = some none) : (isAgg T).run P w = .ok false w := by
  unfold aggOf at h
  cases hu : P.underlying T with
  | none => rw [hu] at h; cases h
  | some d =>
    cases hi : P.info? T with
    | none => rw [hu, hi] at h; cases d <;> cases h
    | some ti => rw [hu, hi] at h; cases d <;> first | (cases h; done) | simp [isAgg, run_underlying hu]
theorem aggOf_some {T n : Nat} (h : aggOf P T = some (some n)) : (isAgg T).run P w = .ok true w ∧ (sizeOf T).run P w = .ok n w := by
  unfold aggOf at h
  cases hu : P.underlying T with
  | none => rw [hu] at h; cases h
  | some d =>
    cases hi : P.info? T with
    | none => rw [hu, hi] at h; cases d <;> cases h
    | some ti => rw [hu, hi] at h; cases d <;> first | (cases h; done) | (cases h; simp [isAgg, run_underlying hu, sizeOf, typeInfo, hi])
theorem q_load1 {x : Operand} {b o T : Nat} {v : Value} (hT : aggOf P T = some none) (hx : opv l x = some (.pointer (some ⟨b, o, none⟩))) (hc : w.cell? ⟨b, o, none⟩ = some v) : Quiet P l (.load T x) ty w v := fun ρ h _ _ _ _ => by
  refine run_v ?_
  rw [h x _ hx]
  simp [Instr.loadAt, Instr.sureAddr, loadVar, aggOf_none hT, load, hc, Sem.run]
theorem q_loadn {x : Operand} {b o T n : Nat} {vs : List Value} (hT : aggOf P T = some (some n)) (hx : opv l x = some (.pointer (some ⟨b, o, none⟩))) (hn : vs.length = n)
    (hc : ∀ j v, vs[j]? = some v → w.cell? ⟨b, o + j, none⟩ = some v) : Quiet P l (.load T x) ty w (.agg vs.toArray) := fun ρ h _ _ _ _ => by
  refine run_v ?_
  rw [h x _ hx]
  have h1 := run_loadCells_list (P := P) (w := w) ⟨b, o, none⟩ vs (fun j v hv => by
    rw [show (Addr.mk b o none).add j = ⟨b, o + j, none⟩ from Addr.add_lit b o j]; exact hc j v hv)
  rw [hn] at h1
  simp [Instr.loadAt, Instr.sureAddr, loadVar, (aggOf_some hT).1, (aggOf_some hT).2, h1]
theorem Blk.cells {w : World} {b o n : Nat} {cs vs : List Value} {e : TypeId} (h : Blk w b cs e) (hv : cut cs o n = some vs) : vs.length = n ∧ ∀ j v, vs[j]? = some v → w.cell? ⟨b, o + j, none⟩ = some v := by
  obtain ⟨h1, h2, _⟩ := cut_spec cs o n vs hv
  refine ⟨h2, fun j v hj => h.cell ?_⟩
  rw [nth_eq]
  rw [h1, List.getElem?_take] at hj
  split at hj
  · simpa using hj
  · cases hj
theorem BlkR.cells {w : World} {b o n : Nat} {cs vs : List Value} {e : TypeId} (h : BlkR w b cs e) (hv : cut cs o n = some vs) : vs.length = n ∧ ∀ j v, vs[j]? = some v → w.cell? ⟨b, o + j, none⟩ = some v := by
  obtain ⟨h1, h2, _⟩ := cut_spec cs o n vs hv
  refine ⟨h2, fun j v hj => h.cell ?_⟩
  rw [nth_eq]
  rw [h1, List.getElem?_take] at hj
  split at hj
  · simpa using hj
  · cases hj
theorem run_part1 {T off : Nat} {cs : List Value} {v : Value} (hT : aggOf P T = some none) (hv : nth cs off = some v) : (part T cs.toArray off).run P w = .ok v w := by
  rw [nth_eq] at hv
  simp [part, aggOf_none hT, hv]
theorem q_extract {x : Operand} {i : Nat} {vs : List Value} {v : Value} (hx : opv l x = some (.tuple vs.toArray)) (hv : nth vs i = some v) : Quiet P l (.extract x i) ty w v := fun ρ h _ _ _ _ => by
  rw [nth_eq] at hv
  refine run_v ?_
  rw [h x _ hx]
  simp [Instr.extract, hv]
theorem q_iface {x : Operand} {T : TypeId} {v : Value} (hT : P.concrete T = true) (hx : opv l x = some v) : Quiet P l (.makeInterface T x) ty w (.iface T v) := fun ρ h _ _ _ _ => by
  refine run_v ?_
  rw [h x _ hx]
  exact run_makeInterface w T v hT
theorem q_func {fn : Fn} {fs cs : List Operand} {us vs : List Value} (hf : opvs l fs = some us) (hc : opvs l cs = some vs) : Quiet P l (.makeFunc fn fs.toArray cs.toArray) ty w (.func fn us.toArray vs.toArray) := fun ρ h _ _ _ _ => by
  refine run_v ?_
  simp only [List.map_toArray, opvs_map h fs us hf, opvs_map h cs vs hc]
  rfl
theorem q_not {x : Operand} {t : TypeId} {b : Bool} (hx : opv l x = some (.bool b)) : Quiet P l (.unOp .not t x) ty w (.bool !b) := fun ρ h _ _ _ _ => by
  refine run_v ?_
  rw [h x _ hx]; rfl
section ints
variable {x y : Operand} {t u : TypeId} {k : IntKind} {a b : Int}
theorem q_add (hx : opv l x = some (.int k a)) (hy : opv l y = some (.int k b)) : Quiet P l (.binOp .add t x y u) ty w (.int k (k.wrap (a + b))) := fun ρ h _ _ _ _ => by
  refine run_v ?_
  rw [h x _ hx, h y _ hy, eqGuard_add, binOp_add]; rfl
theorem q_sub (hx : opv l x = some (.int k a)) (hy : opv l y = some (.int k b)) : Quiet P l (.binOp .sub t x y u) ty w (.int k (k.wrap (a - b))) := fun ρ h _ _ _ _ => by
  refine run_v ?_
  rw [h x _ hx, h y _ hy, eqGuard_sub, binOp_sub]; rfl
theorem q_lt (hx : opv l x = some (.int k a)) (hy : opv l y = some (.int k b)) : Quiet P l (.binOp .lss t x y u) ty w (.bool (decide (a < b))) := fun ρ h _ _ _ _ => by
  refine run_v ?_
  rw [h x _ hx, h y _ hy, eqGuard_lss, binOp_lss]; rfl
theorem q_gt (hx : opv l x = some (.int k a)) (hy : opv l y = some (.int k b)) : Quiet P l (.binOp .gtr t x y u) ty w (.bool (decide (a > b))) := fun ρ h _ _ _ _ => by
  refine run_v ?_
  rw [h x _ hx, h y _ hy, eqGuard_gtr, binOp_gtr]; rfl
theorem q_ge (hx : opv l x = some (.int k a)) (hy : opv l y = some (.int k b)) : Quiet P l (.binOp .geq t x y u) ty w (.bool (decide (a ≥ b))) := fun ρ h _ _ _ _ => by
  refine run_v ?_
  rw [h x _ hx, h y _ hy, eqGuard_geq, binOp_geq]; rfl
theorem q_eq (hx : opv l x = some (.int k a)) (hy : opv l y = some (.int k b)) : Quiet P l (.binOp .eql t x y u) ty w (.bool (a == b)) := fun ρ h _ _ _ _ => by
  refine run_v ?_
  rw [h x _ hx, h y _ hy, eqGuard_at_int, binOp_eql]; rfl
theorem q_ne (hx : opv l x = some (.int k a)) (hy : opv l y = some (.int k b)) : Quiet P l (.binOp .neq t x y u) ty w (.bool (a != b)) := fun ρ h _ _ _ _ => by
  refine run_v ?_
  rw [h x _ hx, h y _ hy, eqGuard_at_int, binOp_neq]; rfl
theorem q_conv {s d : TypeId} {k' : IntKind} (hs : (P.underlying s).isSome = true) (hd : P.underlying d = some (.int k')) (hx : opv l x = some (.int k a)) : Quiet P l (.convert s d x) ty w (.int k' (k'.wrap a)) := fun ρ h _ _ _ _ => by
  refine run_v ?_
  rw [h x _ hx]
  obtain ⟨e, he⟩ := Option.isSome_iff_exists.1 hs
  simp [convert, run_underlying he, run_underlying hd, Conv.intToInt]
theorem q_max2 {ats : Array TypeId} (hx : opv l x = some (.int k a)) (hy : opv l y = some (.int k b)) : Quiet P l (.call ⟨.builtin .max, #[x, y], ats⟩) ty w (.int k (if b > a then b else a)) := fun ρ h _ _ _ _ => by
  have := run_max_int2 (P := P) w ats ty k k a b
  simp only [execOp, resolve, List.map_toArray, List.map_cons, List.map_nil, h x _ hx, h y _ hy]
  simp [invoke, builtin, this]
end ints
def isPtr (P : Program) (t : TypeId) : Bool := match P.underlying t with | some (.pointer _) => true | _ => false
theorem isPtr_spec {t : TypeId} (h : isPtr P t = true) : P.underlying t = some (.pointer (P.pointee t)) := by
  unfold isPtr at h
  unfold Program.pointee
  cases hu : P.underlying t with
  | none => rw [hu] at h; cases h
  | some d => rw [hu] at h; cases d <;> first | (cases h; done) | rfl
theorem q_eqnil {x : Operand} {t u : TypeId} {p : Option Addr} (ht : isPtr P t = true) (hx : opv l x = some (.pointer p)) : Quiet P l (.binOp .eql t x (.const (.pointer none)) u) ty w (.bool p.isNone) := fun ρ h _ _ _ _ => by
  refine run_v ?_
  rw [h x _ hx, h (.const (.pointer none)) _ rfl, eqGuard_at_pointer]
  have := run_eql_pointer_nil (P := P) w t p (isPtr_spec ht)
  simp [this]
theorem q_nenil {x : Operand} {t u : TypeId} {p : Option Addr} (ht : isPtr P t = true) (hx : opv l x = some (.pointer p)) : Quiet P l (.binOp .neq t x (.const (.pointer none)) u) ty w (.bool p.isSome) := fun ρ h _ _ _ _ => by
  refine run_v ?_
  rw [h x _ hx, h (.const (.pointer none)) _ rfl, eqGuard_at_pointer]
  have := run_neq_pointer_nil (P := P) w t p (isPtr_spec ht)
  simp [this]
end quiet
theorem loadVar_n {P : Program} {w : World} {T b o n : Nat} {vs : List Value} (hT : aggOf P T = some (some n)) (hc : vs.length = n ∧ ∀ j v, vs[j]? = some v → w.cell? ⟨b, o + j, none⟩ = some v) : (loadVar T ⟨b, o, none⟩).run P w = .ok (.agg vs.toArray) w := by
  have h1 := run_loadCells_list (P := P) (w := w) ⟨b, o, none⟩ vs (fun j v hv => by
    rw [show (Addr.mk b o none).add j = ⟨b, o + j, none⟩ from Addr.add_lit b o j]; exact hc.2 j v hv)
  rw [hc.1] at h1
  simp [loadVar, (aggOf_some hT).1, (aggOf_some hT).2, h1]
end Go.Eng
/- The engine of this claim's walks, third part: what of memory never turns, and what a call may have turned. No conditions. -/
namespace Go.Eng
open Go
abbrev Raw := Nat → Option (List Value × TypeId)
def Raw.ins (M : Raw) (b : Nat) (cs : List Value) (e : TypeId) : Raw := fun k => if k = b then some (cs, e) else M k
structure Mem (mb : Option Nat) where
  f : Raw
  n : Nat
instance {mb : Option Nat} : CoeFun (Mem mb) fun _ => Raw := ⟨Mem.f⟩
instance {mb : Option Nat} : CoeOut (Mem mb) Raw := ⟨Mem.f⟩
section
variable {mb : Option Nat}
def Mem.ins (M : Mem mb) (b : Nat) (cs : List Value) (e : TypeId) : Mem mb := ⟨M.f.ins b cs e, M.n⟩
def Mem.tick (M : Mem mb) (k : Nat) : Mem mb := ⟨M.f, M.n + k⟩
def Mem.no (M : Mem mb) (b : Nat) : Prop := M b = none ∧ mb ≠ some b
def Mtr (mb : Option Nat) (f : Raw) (n : Nat) (w : World) : Prop := ∀ b, mb = some b → f b = none ∧ ∃ (x y : Int) (e : TypeId), Blk w b [.int .i64 x, .int .i64 y] e ∧ IntKind.wrap .i64 (x + y) = IntKind.wrap .i64 (n : Int)
theorem Mtr.lt {f : Raw} {n : Nat} {w : World} (h : Mtr mb f n w) {b : Nat} (hb : mb = some b) : b < w.heap.size := by
  obtain ⟨_, _, _, _, h, _⟩ := h b hb
  exact h.lt
theorem Mtr.same {f f' : Raw} {n : Nat} {w w' : World} (h : Mtr mb f n w) (hf : ∀ b, mb = some b → f' b = none) (hh : ∀ b, mb = some b → w'.heap[b]? = w.heap[b]?) : Mtr mb f' n w' := fun b hb => by
  obtain ⟨_, x, y, e, h2, h3⟩ := h b hb
  exact ⟨hf b hb, x, y, e, (hh b hb).trans h2, h3⟩
structure Sat (M : Mem mb) (w : World) : Prop where
  blk : ∀ b cs e, M b = some (cs, e) → BlkR w b cs e
  mtr : Mtr mb M.f M.n w
instance {M : Mem mb} {w : World} : CoeFun (Sat M w) fun _ => ∀ b cs e, M b = some (cs, e) → BlkR w b cs e := ⟨Sat.blk⟩
theorem Sat.off {M : Mem mb} {w : World} (h : Sat M w) {b : Nat} (hb : mb = some b) : M b = none := (h.mtr b hb).1
end
def Le (M M' : Raw) : Prop := ∀ b x, M b = some x → M' b = some x
theorem Le.refl (M : Raw) : Le M M := fun _ _ h => h
theorem Le.trans {M M' M'' : Raw} (h : Le M M') (k : Le M' M'') : Le M M'' := fun b x hx => k b x (h b x hx)
theorem Raw.ins_same (M : Raw) (b : Nat) (cs : List Value) (e : TypeId) : M.ins b cs e b = some (cs, e) := if_pos rfl
theorem Raw.ins_other {M : Raw} {b k : Nat} (cs : List Value) (e : TypeId) (h : k ≠ b) : M.ins b cs e k = M k := if_neg h
theorem Mem.ins_same {mb : Option Nat} (M : Mem mb) (b : Nat) (cs : List Value) (e : TypeId) : M.ins b cs e b = some (cs, e) := if_pos rfl
theorem Mem.ins_other {mb : Option Nat} {M : Mem mb} {b k : Nat} (cs : List Value) (e : TypeId) (h : k ≠ b) : M.ins b cs e k = M k := if_neg h
theorem Le.ins {mb : Option Nat} {M : Mem mb} {b : Nat} (cs : List Value) (e : TypeId) (h : M b = none) : Le M (M.ins b cs e) := fun k x hk => by
  by_cases hb : k = b
  · subst hb; rw [h] at hk; cases hk
  · rw [Mem.ins_other cs e hb]; exact hk
structure StepC {mb : Option Nat} (S : Nat → Prop) (i : Nat) (M : Mem mb) (w : World) (M' : Mem mb) (w' : World) : Prop where
  le : Le M M'
  sat : Sat M' w'
  fresh : ∀ b x, M b = none → M' b = some x → w.heap.size ≤ b
  kept' : ∀ k, k < w.heap.size → ¬ S k → mb ≠ some k → w'.heap[k]? = w.heap[k]?
  size : w.heap.size ≤ w'.heap.size
  os : w'.os = w.os
  output : w'.output = w.output
  tape : w'.tape = w.tape
  cnt : M'.n = M.n + i
  still : i = 0 → ∀ k, k < w.heap.size → ¬ S k → w'.heap[k]? = w.heap[k]?
abbrev Step {mb : Option Nat} (S : Nat → Prop) (M : Mem mb) (w : World) (M' : Mem mb) (w' : World) : Prop := StepC S 0 M w M' w'
def Nope : Nat → Prop := fun _ => False
def Just (b : Nat) : Nat → Prop := fun k => k = b
section
variable {mb : Option Nat} {i j : Nat} {S S' : Nat → Prop} {M M' M'' : Mem mb} {w w' w'' : World}
theorem StepC.kept (h : StepC S 0 M w M' w') : ∀ k, k < w.heap.size → ¬ S k → w'.heap[k]? = w.heap[k]? := h.still rfl
theorem StepC.to (h : StepC S i M w M' w') (e : i = j) : StepC S j M w M' w' := e ▸ h
theorem Step.refl (S : Nat → Prop) (h : Sat M w) : Step S M w M w := ⟨Le.refl _, h, fun b x h0 h1 => (by rw [h0] at h1; cases h1), fun _ _ _ _ => rfl, Nat.le_refl _, rfl, rfl, rfl, rfl, fun _ _ _ _ => rfl⟩
theorem StepC.trans (h : StepC S i M w M' w') (k : StepC S' j M' w' M'' w'') (hs : ∀ b, b < w.heap.size → S' b → S b) : StepC S (i + j) M w M'' w'' where
  le := h.le.trans k.le
  sat := k.sat
  fresh := fun b x h0 h1 => by
    cases hm : M' b with
    | none => exact Nat.le_trans h.size (k.fresh b x hm h1)
    | some y => exact h.fresh b y h0 hm
  kept' := fun b hb hn hmb => (k.kept' b (Nat.lt_of_lt_of_le hb h.size) (fun hs' => hn (hs b hb hs')) hmb).trans (h.kept' b hb hn hmb)
  size := Nat.le_trans h.size k.size
  os := k.os.trans h.os
  output := k.output.trans h.output
  tape := k.tape.trans h.tape
  cnt := by rw [k.cnt, h.cnt, Nat.add_assoc]
  still := fun e b hb hn => (k.still (by omega) b (Nat.lt_of_lt_of_le hb h.size) (fun hs' => hn (hs b hb hs'))).trans (h.still (by omega) b hb hn)
theorem StepC.also (h : StepC S i M w M' w') (k : StepC S j M' w' M'' w'') : StepC S (i + j) M w M'' w'' := h.trans k fun _ _ h => h
theorem StepC.then (h : StepC S i M w M' w') (k : StepC Nope j M' w' M'' w'') : StepC S (i + j) M w M'' w'' := h.trans k fun _ _ h => h.elim
theorem StepC.own (h : StepC S i M w M' w') {b : Nat} (k : StepC (Just b) j M' w' M'' w'') (hb : w.heap.size ≤ b) : StepC S (i + j) M w M'' w'' :=
  h.trans k fun c hc hj => by cases hj; omega
theorem StepC.wide (h : StepC S i M w M' w') (hs : ∀ b, b < w.heap.size → S b → S' b) : StepC S' i M w M' w' :=
  { h with kept' := fun b hb hn => h.kept' b hb fun hb' => hn (hs b hb hb'), still := fun e b hb hn => h.still e b hb fun hb' => hn (hs b hb hb') }
theorem StepC.any (h : StepC Nope i M w M' w') (S : Nat → Prop) : StepC S i M w M' w' := h.wide fun _ _ h => h.elim
theorem Sat.same' (h : Sat M w) (hh : ∀ b, b < w.heap.size → w'.heap[b]? = w.heap[b]?) : Sat M w' := ⟨fun b cs e hb => by
  obtain ⟨fr, h'⟩ := h.blk b cs e hb
  exact ⟨fr, (hh b (Array.getElem?_eq_some_iff.1 h').1).trans h'⟩, h.mtr.same (fun b hb => h.off hb) fun b hb => hh b (h.mtr.lt hb)⟩
theorem Step.just (hs : Sat M w) {g : Nat} (hno : M.no g) (h : ∀ k, k ≠ g → w'.heap[k]? = w.heap[k]?) (hz : w.heap.size ≤ w'.heap.size) (h1 : w'.os = w.os) (h2 : w'.output = w.output) (h3 : w'.tape = w.tape) : Step (Just g) M w M w' :=
  ⟨Le.refl _, ⟨fun c ds f hc => by
    obtain ⟨fr, h'⟩ := hs.blk c ds f hc
    exact ⟨fr, (h c fun e => by rw [e, hno.1] at hc; cases hc).trans h'⟩, hs.mtr.same (fun b hb => hs.off hb) fun b hb => h b fun e => hno.2 (by rw [← e]; exact hb)⟩,
   fun b x h0 h1 => (by rw [h0] at h1; cases h1), fun k _ hn _ => h k hn, hz, h1, h2, h3, rfl, fun _ k _ hn => h k hn⟩
theorem Step.drew (h : Sat M w) : Step Nope M w M w.drew := ⟨Le.refl _, h.same' fun _ _ => rfl, fun b x h0 h1 => (by rw [h0] at h1; cases h1), fun _ _ _ _ => rfl, Nat.le_refl _, rfl, rfl, rfl, rfl, fun _ _ _ _ => rfl⟩
theorem heap_alloc_at (w : World) (o : Obj) (k : Nat) (h : k < w.heap.size) : (w.alloc o).heap[k]? = w.heap[k]? := by
  show (w.heap.push o)[k]? = _
  rw [Array.getElem?_push, if_neg (by omega)]
theorem BlkR.same {b : Nat} {cs : List Value} {e : TypeId} (h : BlkR w b cs e) (hh : w'.heap[b]? = w.heap[b]?) : BlkR w' b cs e := by
  obtain ⟨fr, h'⟩ := h
  exact ⟨fr, hh.trans h'⟩
theorem Sat.alloc (h : Sat M w) (o : Obj) : Sat M (w.alloc o) := h.same' fun b hb => heap_alloc_at w o b hb
theorem Sat.none_new (h : Sat M w) : M w.heap.size = none := by
  cases hm : M w.heap.size with
  | none => rfl
  | some x => exact absurd (h _ x.1 x.2 hm).lt (Nat.lt_irrefl _)
theorem Sat.no_new (h : Sat M w) : M.no w.heap.size := ⟨h.none_new, fun hb => absurd (h.mtr.lt hb) (Nat.lt_irrefl _)⟩
theorem Step.alloc (h : Sat M w) (o : Obj) : Step Nope M w M (w.alloc o) := ⟨Le.refl _, h.alloc o, fun b x h0 h1 => (by rw [h0] at h1; cases h1), fun k hk _ _ => heap_alloc_at w o k hk, by simp, rfl, rfl, rfl, rfl, fun _ k hk _ => heap_alloc_at w o k hk⟩
theorem Step.allocM (h : Sat M w) (cs : List Value) (e : TypeId) : Step Nope M w (M.ins w.heap.size cs e) (w.alloc (.cells cs.toArray e)) where
  le := Le.ins cs e h.none_new
  sat := ⟨fun b ds f hb => by
    by_cases hk : b = w.heap.size
    · subst hk; rw [Mem.ins_same] at hb; cases hb; exact (Blk.new w cs e).r
    · rw [Mem.ins_other cs e hk] at hb; exact (h.alloc _).blk b ds f hb, h.mtr.same (fun b hb => (Mem.ins_other cs e (Nat.ne_of_lt (h.mtr.lt hb))).trans (h.off hb)) fun b hb => heap_alloc_at w _ b (h.mtr.lt hb)⟩
  fresh := fun b x h0 h1 => by
    by_cases hk : b = w.heap.size
    · omega
    · rw [Mem.ins_other cs e hk, h0] at h1; cases h1
  kept' := fun k hk _ _ => heap_alloc_at w _ k hk
  size := by simp
  os := rfl
  output := rfl
  tape := rfl
  cnt := rfl
  still := fun _ k hk _ => heap_alloc_at w _ k hk
def Own (w : World) (M : Mem mb) (b : Nat) (cs : List Value) (e : TypeId) : Prop := Blk w b cs e ∧ M.no b
theorem StepC.no (k : StepC S i M w M' w') {b : Nat} (h : M.no b) (hl : b < w.heap.size) : M'.no b := ⟨by
  cases hm : M' b with
  | none => rfl
  | some x => exact absurd (k.fresh b x h.1 hm) (Nat.not_le.2 hl), h.2⟩
theorem Own.step {b : Nat} {cs : List Value} {e : TypeId} (h : Own w M b cs e) (k : StepC S i M w M' w') (hb : ¬ S b) : Own w' M' b cs e :=
  ⟨(k.kept' b h.1.lt hb h.2.2).trans h.1, k.no h.2 h.1.lt⟩
theorem Own.then {b : Nat} {cs : List Value} {e : TypeId} (h : Own w M b cs e) (k : StepC Nope i M w M' w') : Own w' M' b cs e := h.step k id
def OwnO (w : World) (M : Mem mb) (b : Nat) (o : Obj) : Prop := w.heap[b]? = some o ∧ M.no b
theorem OwnO.step {b : Nat} {o : Obj} (h : OwnO w M b o) (k : StepC S i M w M' w') (hb : ¬ S b) : OwnO w' M' b o :=
  have hlt : b < w.heap.size := (Array.getElem?_eq_some_iff.1 h.1).1
  ⟨(k.kept' b hlt hb h.2.2).trans h.1, k.no h.2 hlt⟩
theorem StepC.freeze (h : StepC S i M w M' w') {b : Nat} {cs : List Value} {e : TypeId} (ho : Own w' M' b cs e) (hb : w.heap.size ≤ b) : StepC S i M w (M'.ins b cs e) w' where
  le := h.le.trans (Le.ins cs e ho.2.1)
  sat := ⟨fun c ds f hc => by
    by_cases hk : c = b
    · subst hk; rw [Mem.ins_same] at hc; cases hc; exact ho.1.r
    · rw [Mem.ins_other cs e hk] at hc; exact h.sat.blk c ds f hc, h.sat.mtr.same (fun k hk => (Mem.ins_other cs e (fun ek => ho.2.2 (by rw [← ek]; exact hk))).trans (h.sat.off hk)) fun _ _ => rfl⟩
  fresh := fun c x h0 h1 => by
    by_cases hk : c = b
    · subst hk; exact hb
    · rw [Mem.ins_other cs e hk] at h1; exact h.fresh c x h0 h1
  kept' := h.kept'
  size := h.size
  os := h.os
  output := h.output
  tape := h.tape
  cnt := h.cnt
  still := h.still
theorem Own.freeze {b k : Nat} {cs ds : List Value} {e f : TypeId} (h : Own w M k ds f) (hne : k ≠ b) : Own w (M.ins b cs e) k ds f := ⟨h.1, (Mem.ins_other cs e hne).trans h.2.1, h.2.2⟩

theorem Blk.set {b : Nat} {cs : List Value} {e : TypeId} (h : Blk w b cs e) (o : Nat) (v : Value) : Blk (w.setCell ⟨b, o, none⟩ v) b (cs.set o v) e := by
  have h' : w.heap[b]? = some (.cells cs.toArray e (0, 0)) := h
  show (w.heap.modify b _)[b]? = _
  rw [Array.getElem?_modify, if_pos rfl, h']
  simp
theorem Step.set (h : Sat M w) {b : Nat} (hb : M.no b) (o : Nat) (v : Value) : Step (Just b) M w M (w.setCell ⟨b, o, none⟩ v) where
  le := Le.refl _
  sat := ⟨fun c ds f hc => by
    have hne : c ≠ b := fun e => by subst e; rw [hb.1] at hc; cases hc
    refine (h.blk c ds f hc).same ?_
    show (w.heap.modify b _)[c]? = _
    rw [Array.getElem?_modify, if_neg (fun e => hne e.symm)], h.mtr.same (fun c hc => h.off hc) fun c hc => by
    show (w.heap.modify b _)[c]? = _
    rw [Array.getElem?_modify, if_neg (fun e => hb.2 (by rw [e]; exact hc))]⟩
  fresh := fun c x h0 h1 => by rw [h0] at h1; cases h1
  kept' := fun k hk hn _ => by
    show (w.heap.modify b _)[k]? = _
    rw [Array.getElem?_modify, if_neg (fun e => hn e.symm)]
  size := by simp
  os := rfl
  output := rfl
  tape := rfl
  cnt := rfl
  still := fun _ k hk hn => by
    show (w.heap.modify b _)[k]? = _
    rw [Array.getElem?_modify, if_neg (fun e => hn e.symm)]
def puts (cs : List Value) (o : Nat) : List Value → List Value
  | [] => cs
  | v :: r => puts (cs.set o v) (o + 1) r
theorem puts_length : ∀ (vs cs : List Value) (o : Nat), (puts cs o vs).length = cs.length
  | [], _, _ => rfl
  | v :: r, cs, o => by simp [puts, puts_length r]
theorem run_storeCells_own (P : Program) {b : Nat} {e : TypeId} : ∀ (vs : List Value) (i o : Nat) (cs : List Value) (w : World) (M : Mem mb), Sat M w → Own w M b cs e → o + i + vs.length ≤ cs.length → (∀ v ∈ vs, v.oneCell' = true) →
    ∃ w', (storeCells ⟨b, o, none⟩ vs i).run P w = .ok () w' ∧ Step (Just b) M w M w' ∧ Own w' M b (puts cs (o + i) vs) e
  | [], _, _, _, w, M, hs, ho, _, _ => ⟨w, rfl, Step.refl _ hs, ho⟩
  | v :: r, i, o, cs, w, M, hs, ho, hl, h1 => by
    have hlt : o + i < cs.length := by simp only [List.length_cons] at hl; omega
    have hadd : (⟨b, o, none⟩ : Addr).add i = ⟨b, o + i, none⟩ := Addr.add_lit b o i
    have hst : (store ((⟨b, o, none⟩ : Addr).add i) v).run P w = .ok () (w.setCell ⟨b, o + i, none⟩ v) := by
      rw [hadd, run_store P w _ v _ (h1 v (by simp))]
      have hz := ho.1.free (o + i)
      have hc : w.cell? ⟨b, o + i, none⟩ = some cs[o + i] := ho.1.cell (by rw [nth_eq, List.getElem?_eq_getElem hlt])
      simp [hc, hz]
    have hs1 := Step.set hs ho.2 (o + i) v
    obtain ⟨w', hr, hs2, ho2⟩ := run_storeCells_own P r (i + 1) o (cs.set (o + i) v) _ M hs1.sat ⟨ho.1.set (o + i) v, ho.2⟩ (by simp only [List.length_cons, List.length_set] at hl ⊢; omega) (fun u hu => h1 u (by simp [hu]))
    refine ⟨w', ?_, hs1.also hs2, ho2⟩
    simp only [storeCells, Sem.run_bind, hst, Result.andThen_ok, hr]
def vcells : Value → List Value
  | .agg cs => cs.toList
  | v => [v]
theorem vcells_eq (v : Value) : v.cells = (vcells v).toArray := by cases v <;> rfl
section heavy
variable {c : Cx} {l : Env} {ty : TypeId} {K : Value → World → Prop}
theorem h_q {op : Op} {v : Value} (hd : isDefer op = false) (h : Quiet c.P l op ty w v) (hk : K v w) : HW c l op ty w K := h.hw hd hk
theorem h_boxM {x : Operand} {e : TypeId} {v : Value} {cs : List Value} (hs : Sat M w) (hx : opv l x = some v) (hc : vcells v = cs)
    (hk : ∀ b M' w', Step Nope M w M' w' → M' b = some (cs, e) → w.heap.size = b → K (.pointer (some ⟨b, 0, none⟩)) w') : HW c l (.box e x) ty w K :=
  HW.value (w' := w.alloc (.cells cs.toArray e)) rfl (fun ρ h _ _ _ _ => by
    refine run_v ?_
    rw [h x _ hx]
    simp only [Instr.box, newVar, newRow, vcells_eq, hc]
    rfl) (hk _ _ _ (Step.allocM hs cs e) (Mem.ins_same _ _ _ _) rfl)
theorem h_boxO {x : Operand} {e : TypeId} {v : Value} {cs : List Value} (hs : Sat M w) (hx : opv l x = some v) (hc : vcells v = cs)
    (hk : ∀ b w', Step Nope M w M w' → Own w' M b cs e → w.heap.size = b → K (.pointer (some ⟨b, 0, none⟩)) w') : HW c l (.box e x) ty w K :=
  HW.value (w' := w.alloc (.cells cs.toArray e)) rfl (fun ρ h _ _ _ _ => by
    refine run_v ?_
    rw [h x _ hx]
    simp only [Instr.box, newVar, newRow, vcells_eq, hc]
    rfl) (hk _ _ (Step.alloc hs _) ⟨Blk.new w cs e, hs.no_new⟩ rfl)
def zeroOf (P : Program) (t : TypeId) : Option Value := (P.info? t).bind (·.zero)
theorem run_zeroOf {P : Program} {t : TypeId} {z : Value} (h : zeroOf P t = some z) (w : World) : (zeroValue t).run P w = .ok z w := by
  unfold zeroOf at h
  cases hi : P.info? t with
  | none => rw [hi] at h; cases h
  | some i =>
    rw [hi] at h
    have h : i.zero = some z := h
    simp [zeroValue, typeInfo, hi, h]
theorem h_allocO {e : TypeId} {z : Value} {cs : List Value} (hs : Sat M w) (hz : zeroOf c.P e = some z) (hc : vcells z = cs)
    (hk : ∀ b w', Step Nope M w M w' → Own w' M b cs e → w.heap.size = b → K (.pointer (some ⟨b, 0, none⟩)) w') : HW c l (.alloc e) ty w K :=
  HW.value (w' := w.alloc (.cells cs.toArray e)) rfl (fun ρ h _ _ _ _ => by
    refine run_v ?_
    simp only [Instr.alloc, Sem.run_bind, run_zeroOf hz w, Result.andThen_ok, newVar, newRow, vcells_eq, hc]
    rfl) (hk _ _ (Step.alloc hs _) ⟨Blk.new w cs e, hs.no_new⟩ rfl)
def sizeB (P : Program) (t : TypeId) : Option Nat := (P.info? t).map (·.size)
theorem run_sizeB {P : Program} {t n : Nat} (h : sizeB P t = some n) (w : World) : (sizeOf t).run P w = .ok n w := by
  unfold sizeB at h
  cases hi : P.info? t with
  | none => rw [hi] at h; cases h
  | some i => rw [hi] at h; cases h; simp [sizeOf, typeInfo, hi]
theorem h_store {x y : Operand} {t b o : Nat} {v : Value} {vs cs cs' : List Value} {e : TypeId} (hs : Sat M w) (ho : Own w M b cs e) (hx : opv l x = some (.pointer (some ⟨b, o, none⟩))) (hy : opv l y = some v)
    (hv : vcells v = vs) (hn : sizeB c.P t = some vs.length) (hl : Nat.ble (o + vs.length) cs.length = true) (h1 : vs.all (·.oneCell') = true) (hc : puts cs o vs = cs')
    (hk : ∀ w', Step (Just b) M w M w' → Own w' M b cs' e → K undef w') : HW c l (.store t x y) ty w K := by
  obtain ⟨w', hr, hs', ho'⟩ := run_storeCells_own c.P vs 0 o cs w M hs ho (by simpa using Nat.le_of_ble_eq_true hl) (by simpa using h1)
  subst hc
  refine HW.skip (w' := w') rfl (fun ρ h _ _ _ _ => ?_) (hk w' hs' ho')
  refine run_u ?_
  rw [h x _ hx, h y _ hy]
  have he : (v.cells.size ≠ vs.length) = False := by rw [vcells_eq, hv]; simp
  simp only [Instr.storeAt, Instr.sureAddr, Sem.run_bind, Sem.run_pure, Result.andThen_ok, storeVar, run_sizeB hn w]
  rw [if_neg (by rw [vcells_eq, hv]; simp), vcells_eq, hv]
  exact hr

def callable (P : Program) (f : FuncId) : Bool :=
  match P.funcs[f]? with
  | none => false
  | some fn => !(fn.name == "runtime.NumGoroutine") && fn.body.isSome
theorem run_callable {P : Program} {f : FuncId} (h : callable P f = true) (args : Array Value) (w : World) : (callFunc f args).run P w = .ok (.enter f args) w := by
  unfold callable at h
  cases hf : P.funcs[f]? with
  | none => rw [hf] at h; cases h
  | some fn =>
    rw [hf] at h
    simp only [Bool.and_eq_true, Bool.not_eq_true'] at h
    have hb : fn.body.isNone = false := by cases hb : fn.body <;> simp_all
    have hn : ¬ fn.name = "runtime.NumGoroutine" := by simpa using h.1
    have hb' : ¬ fn.body = none := fun e => by rw [e] at hb; cases hb
    simp [callFunc, program, hf, hn, hb', Sem.run]
theorem h_call {f : FuncId} {xs : List Operand} {ats : Array TypeId} {vs : List Value} (hf : callable c.P f = true) (ha : opvs l xs = some vs) (h : Does c.P f vs.toArray w K) :
    HW c l (.call ⟨.value (.func f), xs.toArray, ats⟩) ty w K :=
  HW.enter (f := f) (args := vs.toArray) (w' := w) rfl (fun ρ hρ _ _ _ _ => by
    have e : xs.toArray.map ρ = vs.toArray := by rw [List.map_toArray, opvs_map hρ xs vs ha]
    simp only [execOp, resolve, e, hρ (.func f) _ rfl, Deferred.ofValue]
    simp [invoke, run_callable hf]) h
theorem h_callv {x : Operand} {f : FuncId} {first cap : List Value} {xs : List Operand} {ats : Array TypeId} {vs aw : List Value} (hf : callable c.P f = true) (hx : opv l x = some (.func (.func f) first.toArray cap.toArray)) (ha : opvs l xs = some vs)
    (he : first ++ vs ++ cap = aw) (h : Does c.P f aw.toArray w K) : HW c l (.call ⟨.value x, xs.toArray, ats⟩) ty w K :=
  HW.enter (f := f) (args := aw.toArray) (w' := w) rfl (fun ρ hρ _ _ _ _ => by
    have e : xs.toArray.map ρ = vs.toArray := by rw [List.map_toArray, opvs_map hρ xs vs ha]
    subst he
    simp only [execOp, resolve, e, hρ x _ hx, Deferred.ofValue]
    simp [invoke, run_callable hf]) h
theorem h_invoke {x : Operand} {name : String} {f : FuncId} {t : TypeId} {u r : Value} {xs : List Operand} {ats : Array TypeId} {vs : List Value} (hf : callable c.P f = true) (hx : opv l x = some (.iface t u)) (ha : opvs l xs = some vs)
    (hm : (method (c.P.types.size + Made.depth) t u name).run c.P w = .ok (f, r) w) (h : Does c.P f (r :: vs).toArray w K) : HW c l (.call ⟨.invoke x name, xs.toArray, ats⟩) ty w K :=
  HW.enter (f := f) (args := (r :: vs).toArray) (w' := w) rfl (fun ρ hρ _ _ _ _ => by
    have e : xs.toArray.map ρ = vs.toArray := by rw [List.map_toArray, opvs_map hρ xs vs ha]
    simp only [execOp, resolve, e, hρ x _ hx]
    simp [invoke, callMethod, program, Sem.run, hm, run_callable hf]) h
theorem h_extern {f : FuncId} {xs : List Operand} {ats : Array TypeId} {vs : List Value} {v : Value} {w' : World} (ha : opvs l xs = some vs) (h : (callFunc f vs.toArray).run c.P w = .ok (.value v) w') (hk : K v w') :
    HW c l (.call ⟨.value (.func f), xs.toArray, ats⟩) ty w K :=
  HW.value (w' := w') rfl (fun ρ hρ _ _ _ _ => by
    have e : xs.toArray.map ρ = vs.toArray := by rw [List.map_toArray, opvs_map hρ xs vs ha]
    simp only [execOp, resolve, e, hρ (.func f) _ rfl, Deferred.ofValue]
    simpa [invoke] using h) hk
end heavy

def Rd (w : World) (size : Nat) (v : Value) (n : Nat) (cs : List Value) : Prop :=
  cs.length = n * size ∧ ((n = 0 ∧ ∃ a cap, v = .slice a 0 cap ∧ (a = none → cap = 0)) ∨ ∃ b o cap, v = .slice (some ⟨b, o, none⟩) n cap ∧ n ≤ cap ∧ ∀ j u, cs[j]? = some u → w.cell? ⟨b, o + j, none⟩ = some u)
def Buf (w : World) (M : Mem mb) (e : TypeId) (size : Nat) (v : Value) (n : Nat) (cs : List Value) : Prop := w.ownsRow 0 e size v n cs ∧ ∀ g, v.ownBlock = some g → M.no g
theorem Buf.nil (w : World) (M : Mem mb) (e : TypeId) (size : Nat) : Buf w M e size (.slice none 0 0) 0 [] := ⟨World.ownsRow_nil w 0 e size, fun g h => by cases h⟩
theorem StepC.grown (h : Step S M w M' w') (row : Option Nat) (hr : ∀ k, S k → row = some k) : w.grownBy w' row := ⟨h.os, h.tape, h.output, h.size, fun k hk hne => h.kept k hk fun hs => hne (hr k hs).symm⟩
theorem Buf.step {e size n : Nat} {v : Value} {cs : List Value} (h : Buf w M e size v n cs) (k : StepC S i M w M' w') (hb : ∀ g, v.ownBlock = some g → ¬ S g) : Buf w' M' e size v n cs := by
  obtain ⟨⟨h1, h2⟩, h3⟩ := h
  refine ⟨⟨h1, ?_⟩, fun g hg => ?_⟩
  · rcases h2 with h2 | ⟨g, cap, cur, rfl, hbg, hh, rest⟩
    · exact .inl h2
    · exact .inr ⟨g, cap, cur, rfl, hbg, (k.kept' g (Array.getElem?_eq_some_iff.1 hh).1 (hb g rfl) (h3 g rfl).2).trans hh, rest⟩
  · rcases h2 with ⟨rfl, _⟩ | ⟨g', cap, cur, rfl, hbg, hh, rest⟩
    · cases hg
    · cases hg
      exact k.no (h3 _ rfl) (Array.getElem?_eq_some_iff.1 hh).1
theorem Buf.then {e size n : Nat} {v : Value} {cs : List Value} (h : Buf w M e size v n cs) (k : StepC Nope i M w M' w') : Buf w' M' e size v n cs := h.step k fun _ _ h => h
theorem Buf.rd {e size n : Nat} {v : Value} {cs : List Value} (h : Buf w M e size v n cs) : Rd w size v n cs := by
  obtain ⟨⟨h1, h2⟩, h3⟩ := h
  refine ⟨h1, ?_⟩
  rcases h2 with ⟨rfl, h2⟩ | ⟨g, cap, cur, rfl, hbg, hh, hnc, hcm, hsz, htk⟩
  · exact .inl ⟨h2, none, 0, rfl, fun _ => rfl⟩
  · refine .inr ⟨g, 0, cap, rfl, hnc, fun j u hj => ?_⟩
    have := World.ownsRow.cells (w := w) (base := 0) (e := e) (size := size) (v := .slice (some ⟨g, 0, none⟩) n cap) (n := n) (xs := cs) ⟨h1, .inr ⟨g, cap, cur, rfl, hbg, hh, hnc, hcm, hsz, htk⟩⟩ (g := g) rfl j u hj
    rwa [Addr.add_lit] at this
theorem Rd.keep {size n : Nat} {v : Value} {cs : List Value} (h : Rd w size v n cs) (hc : ∀ b o u, v = .slice (some ⟨b, o, none⟩) n u → w'.heap[b]? = w.heap[b]?) : Rd w' size v n cs := by
  refine ⟨h.1, ?_⟩
  rcases h.2 with h2 | ⟨b, o, cap, rfl, hcap, hh⟩
  · exact .inl h2
  · exact .inr ⟨b, o, cap, rfl, hcap, fun j u hj => by
      have := hh j u hj
      unfold World.cell? at this ⊢
      simp only [hc b o cap rfl]
      exact this⟩
structure ElemOk (P : Program) (t e size bytes : Nat) : Prop where
  sl : P.underlying t = some (.slice e)
  ex : ∃ i z, P.info? e = some i ∧ i.zero = some z ∧ i.size = size ∧ i.bytes = bytes ∧ z.cells.size = size
  pos : 0 < size
def elemOk (P : Program) (t e size bytes : Nat) : Bool :=
  (match P.underlying t with | some (.slice e') => Nat.beq e' e | _ => false) &&
  (match P.info? e with
    | some i => match i.zero with
      | some z => Nat.beq i.size size && Nat.beq i.bytes bytes && Nat.beq z.cells.size size
      | none => false
    | none => false) && Nat.blt 0 size
theorem elemOk_spec {P : Program} {t e size bytes : Nat} (h : elemOk P t e size bytes = true) : ElemOk P t e size bytes := by
  unfold elemOk at h
  simp only [Bool.and_eq_true] at h
  obtain ⟨⟨h1, h2⟩, h3⟩ := h
  refine ⟨?_, ?_, by simpa [Nat.blt_eq] using h3⟩
  · split at h1
    · rename_i e' he; rw [he, Nat.eq_of_beq_eq_true h1]
    · cases h1
  · split at h2
    · rename_i i hi
      split at h2
      · rename_i z hz
        simp only [Bool.and_eq_true] at h2
        exact ⟨i, z, hi, hz, Nat.eq_of_beq_eq_true h2.1.1, Nat.eq_of_beq_eq_true h2.1.2, Nat.eq_of_beq_eq_true h2.2⟩
      · cases h2
    · cases h2
theorem run_append_buf {P : Program} {t e size bytes : Nat} (he : ElemOk P t e size bytes) (hs : Sat M w) {v : Value} {n : Nat} {cs : List Value} (hb : Buf w M e size v n cs) {u : Value} {m : Nat} {news : List Value} (hr : Rd w size u m news)
    (h1 : ∀ x ∈ news, x.oneCell' = true) (h63 : n + m ≤ maxLen) (hbytes : (n + m) * bytes ≤ 140737488355328) (ty : TypeId) :
    ∃ v' w', (Builtin.append_ #[t, t] ty #[v, u]).run P w = .ok v' w' ∧ Step (fun k => v.ownBlock = some k) M w M w' ∧ Buf w' M e size v' (n + m) (cs ++ news) ∧ (v'.ownBlock = v.ownBlock ∨ v'.ownBlock = some w.heap.size) := by
  obtain ⟨i, z, hi, hz, rfl, rfl, hzs⟩ := he.ex
  have hsmall : n + m ≤ 9223372036854775807 := by simp only [maxLen] at h63; omega
  have hsat : ∀ {w' : World}, w.grownBy w' v.ownBlock → Sat M w' := fun {w'} hg => ⟨fun c ds f hc => (by
    refine (hs.blk c ds f hc).same (hg.block c (hs.blk c ds f hc).lt ?_)
    intro h
    rw [(hb.2 c h.symm).1] at hc
    cases hc), hs.mtr.same (fun c hc => hs.off hc) fun c hc => hg.block c (hs.mtr.lt hc) fun h => (hb.2 c h.symm).2 hc⟩
  have hstep : ∀ {w' : World}, w.grownBy w' v.ownBlock → Step (fun k => v.ownBlock = some k) M w M w' := fun {w'} hg =>
    ⟨Le.refl _, hsat hg, fun c x h0 h1 => (by rw [h0] at h1; cases h1), fun k hk hn _ => hg.block k hk fun h => hn h.symm, hg.size, hg.os, hg.output, hg.tape, rfl, fun _ k hk hn => hg.block k hk fun h => hn h.symm⟩
  have hnew : M.no w.heap.size := hs.no_new
  have hlen : ∀ (hl : news.length = m * i.size), (cs ++ news).length = (n + m) * i.size := fun hl => by rw [List.length_append, hb.1.1, hl, Nat.add_mul]
  rcases hr with ⟨hl, ⟨rfl, a, cap, rfl, _⟩ | ⟨b, o, cap, rfl, hcap, hh⟩⟩
  · have hnil : news = [] := List.eq_nil_of_length_eq_zero (by simpa using hl)
    subst hnil
    have hf : (Builtin.firstCells i.size 0 (.slice a 0 cap)).run P w = .ok #[] w := by
      cases a <;> simp [Builtin.firstCells, loadCells, loadCellsFrom]
    refine ⟨v, w, ?_, Step.refl _ hs, by simpa using hb, .inl rfl⟩
    rcases hb.1.2 with ⟨rfl, rfl⟩ | ⟨g, cap, cur, rfl, hbg, hg, hnc, hcm, hcs, htk⟩
    · simp [Builtin.append_, run_underlying he.sl, sizeOf, typeInfo, hi, Builtin.lenOf, hf]
    · simp [Builtin.append_, run_underlying he.sl, sizeOf, typeInfo, hi, Builtin.lenOf, hf, hnc, storeCells]
  · have hnews : ∀ j x, news[j]? = some x → w.cell? ((⟨b, o, none⟩ : Addr).add j) = some x := fun j x hj => by rw [Addr.add_lit]; exact hh j x hj
    have grown : ∀ (old : Nat), old < n + m →
        (w.drew.alloc (.cells (cs.toArray ++ news.toArray ++ Builtin.zeroCells z.cells (grownCap w (n + m) old e - (n + m))) e)).ownsRow 0 e i.size
          (.slice (some ⟨w.heap.size, 0, none⟩) (n + m) (grownCap w (n + m) old e)) (n + m) (cs ++ news) ∧
        w.grownBy (w.drew.alloc (.cells (cs.toArray ++ news.toArray ++ Builtin.zeroCells z.cells (grownCap w (n + m) old e - (n + m))) e)) v.ownBlock := by
      intro old ho
      have hge := grownCap_ge w (n + m) old e
      have hcm : grownCap w (n + m) old e ≤ maxLen := grownCap_le_maxLen w (n + m) old e h63
      refine ⟨⟨hlen hl, .inr ⟨w.heap.size, _, _, rfl, Nat.zero_le _, heap_alloc_new w.drew _, hge, hcm, ?_, ?_⟩⟩, ⟨rfl, rfl, rfl, by simp, fun k hk _ => heap_alloc_at w.drew _ k hk⟩⟩
      · simp only [Array.size_append, List.size_toArray, size_zeroCells, hzs, hb.1.1, hl, ← Nat.add_mul]
        congr 1
        omega
      · simp only [Array.toList_append, List.append_assoc]
        rw [← List.append_assoc, ← hlen hl]
        exact List.take_left
    rcases hb.1.2 with ⟨rfl, rfl⟩ | ⟨g, gcap, cur, rfl, hbg, hg, hnc, hcm, hcs, htk⟩
    · have hx : cs = [] := List.eq_nil_of_length_eq_zero (by simpa using hb.1.1)
      subst hx
      by_cases hm : m = 0
      · subst hm
        have hn : news = [] := List.eq_nil_of_length_eq_zero (by simpa using hl)
        subst hn
        refine ⟨.slice none 0 0, w, ?_, Step.refl _ hs, hb, .inl rfl⟩
        simp [Builtin.append_, run_underlying he.sl, sizeOf, typeInfo, hi, Builtin.lenOf, Builtin.firstCells, loadCells, loadCellsFrom]
      · have hr := run_append_nil (P := P) w t ty e i z he.sl hi hz ⟨b, o, none⟩ m cap news hl hnews (by omega) (by omega) (by have hb := hbytes; simp only [Nat.zero_add] at hb; omega)
        have hgr := grown 0 (by omega)
        simp only [Nat.zero_add, List.nil_append, Array.empty_append] at hgr ⊢
        exact ⟨_, _, hr, hstep hgr.2, ⟨hgr.1, fun k hk => by cases hk; exact hnew⟩, .inr rfl⟩
    · by_cases hroom : n + m ≤ gcap
      · have hfit : n * i.size + news.length ≤ cur.size := by rw [hl, hcs, ← Nat.add_mul]; exact Nat.mul_le_mul_right _ hroom
        have hr := run_append_room (P := P) w t ty e i he.sl hi g n gcap cur hg ⟨b, o, none⟩ m cap news hl hnews h1 hroom hfit
        refine ⟨_, _, hr, hstep ⟨rfl, rfl, rfl, by simp, fun k _ hk => setRow_other w g k _ (fun e => hk (by simp [Value.ownBlock, e]))⟩, ⟨⟨hlen hl, .inr ⟨g, gcap, _, rfl, hbg, setRow_heap w g cur _ e _ hg, hroom, hcm, ?_, ?_⟩⟩, fun k hk => by cases hk; exact hb.2 g rfl⟩, .inl rfl⟩
        · simp only [List.size_toArray, List.length_append, List.length_take, List.length_drop, Array.length_toList]
          omega
        · rw [htk, ← hlen hl]
          exact List.take_left
      · have holds : ∀ j x, cs[j]? = some x → w.cell? ((⟨g, 0, none⟩ : Addr).add j) = some x := hb.1.cells (g := g) rfl
        have hr := run_append_grow (P := P) w t ty e i z he.sl hi hz ⟨g, 0, none⟩ n gcap cs hb.1.1 holds ⟨b, o, none⟩ m cap news hl hnews (by omega) (by omega) (growslice_fits (by omega) hbytes)
        have hgr := grown gcap (by omega)
        exact ⟨_, _, hr, hstep hgr.2, ⟨hgr.1, fun k hk => by cases hk; exact hnew⟩, .inr rfl⟩
theorem h_append {c : Cx} {l : Env} {ty : TypeId} {K : Value → World → Prop} {t e size bytes : Nat} (he : elemOk c.P t e size bytes = true) (hs : Sat M w) {x y : Operand} {v : Value} {n : Nat} {cs : List Value} (hb : Buf w M e size v n cs) {u : Value} {m : Nat} {news : List Value} (hr : Rd w size u m news)
    (hx : opv l x = some v) (hy : opv l y = some u) (h1 : ∀ x ∈ news, x.oneCell' = true) (hbytes : (n + m) * bytes ≤ 140737488355328) (hpos : Nat.blt 0 bytes = true)
    (hk : ∀ v' w', Step (fun k => v.ownBlock = some k) M w M w' → Buf w' M e size v' (n + m) (cs ++ news) → (v'.ownBlock = v.ownBlock ∨ v'.ownBlock = some w.heap.size) → K v' w') :
    HW c l (.call ⟨.builtin .append, #[x, y], #[t, t]⟩) ty w K := by
  have h63 : n + m ≤ maxLen := by
    have h0 : 0 < bytes := by simpa [Nat.blt_eq] using hpos
    have : n + m ≤ (n + m) * bytes := Nat.le_mul_of_pos_right _ h0
    simp only [maxLen]; omega
  obtain ⟨v', w', hrun, hstep, hbuf, hor⟩ := run_append_buf (elemOk_spec he) hs hb hr h1 h63 hbytes ty
  refine HW.value (w' := w') rfl (fun ρ h _ _ _ _ => ?_) (hk v' w' hstep hbuf hor)
  simp only [execOp, resolve, List.map_toArray, List.map_cons, List.map_nil, h x _ hx, h y _ hy]
  simp [invoke, builtin, hrun]
theorem q_len {c : Cx} {l : Env} {ty : TypeId} {x : Operand} {t : TypeId} {a : Option Addr} {n cap : Nat} (ht : (match c.P.underlying t with | some (.slice _) => true | _ => false) = true) (hx : opv l x = some (.slice a n cap)) (w : World) :
    Quiet c.P l (.call ⟨.builtin .len, #[x], #[t]⟩) ty w (.int .i64 n) := fun ρ h _ _ _ _ => by
  have hu : c.P.underlying t = some (.slice (c.P.elem t)) := by
    unfold Program.elem
    cases hu : c.P.underlying t with
    | none => rw [hu] at ht; cases ht
    | some d => rw [hu] at ht; cases d <;> first | (cases ht; done) | rfl
  have hr := run_len_slice (P := c.P) w t ty a n cap hu
  simp only [execOp, resolve, List.map_toArray, List.map_cons, List.map_nil, h x _ hx]
  simp [invoke, builtin, hr]
  rfl

def rawOf (w : World) : Raw := fun b => match w.heap[b]? with
  | some (.cells c e _) => some (c.toList, e)
  | _ => none
def memOf (w : World) : Mem none := ⟨rawOf w, 0⟩
theorem Sat.memOf (w : World) : Sat (memOf w) w := ⟨fun b cs e h => (by
  have h : rawOf w b = some (cs, e) := h
  unfold Eng.rawOf at h
  split at h
  · rename_i c e' fr hb
    cases h
    exact ⟨fr, by rw [hb]⟩
  · cases h), fun b hb => by cases hb⟩
def cellM (M : Raw) (b o : Nat) : Option Value := (M b).bind fun x => nth x.1 o
theorem cellM_memOf {b o : Nat} {v : Value} (h : w.cell? ⟨b, o, none⟩ = some v) : cellM (memOf w) b o = some v := by
  unfold World.cell? at h
  show cellM (rawOf w) b o = some v
  unfold cellM rawOf
  split at h
  · rename_i c e fr hb
    simp only [Option.isSome_none, Bool.false_eq_true, if_false] at h
    simp only [hb, Option.bind_some, nth_eq]
    simpa using h
  · cases h
theorem cellM_le {M M' : Raw} (h : Le M M') {b o : Nat} {v : Value} (hc : cellM M b o = some v) : cellM M' b o = some v := by
  unfold cellM at *
  cases hm : M b with
  | none => rw [hm] at hc; cases hc
  | some x => rw [hm] at hc; rw [h b x hm]; exact hc
theorem cellM_cell (h : Sat M w) {b o : Nat} {v : Value} (hc : cellM M b o = some v) : w.cell? ⟨b, o, none⟩ = some v := by
  unfold cellM at hc
  cases hm : M b with
  | none => rw [hm] at hc; cases hc
  | some x => rw [hm] at hc; exact (h b x.1 x.2 hm).cell hc
def RdM (M : Raw) (size : Nat) (v : Value) (n : Nat) (cs : List Value) : Prop :=
  cs.length = n * size ∧ ((n = 0 ∧ ∃ a cap, v = .slice a 0 cap ∧ (a = none → cap = 0)) ∨ ∃ b o cap, v = .slice (some ⟨b, o, none⟩) n cap ∧ n ≤ cap ∧ ∀ j u, cs[j]? = some u → cellM M b (o + j) = some u)
theorem RdM.mono {M M' : Raw} {size n : Nat} {v : Value} {cs : List Value} (h : RdM M size v n cs) (k : Le M M') : RdM M' size v n cs := by
  refine ⟨h.1, ?_⟩
  rcases h.2 with h2 | ⟨b, o, cap, rfl, hc, hh⟩
  · exact .inl h2
  · exact .inr ⟨b, o, cap, rfl, hc, fun j u hj => cellM_le k (hh j u hj)⟩
theorem RdM.rd {size n : Nat} {v : Value} {cs : List Value} (h : RdM M size v n cs) (hs : Sat M w) : Rd w size v n cs := by
  refine ⟨h.1, ?_⟩
  rcases h.2 with h2 | ⟨b, o, cap, rfl, hc, hh⟩
  · exact .inl h2
  · exact .inr ⟨b, o, cap, rfl, hc, fun j u hj => cellM_cell hs (hh j u hj)⟩
theorem RdM.slice {M : Raw} {size n : Nat} {v : Value} {cs : List Value} (h : RdM M size v n cs) : ∃ a c, v = .slice a n c ∧ n ≤ c ∧ (a = none → n = 0 ∧ c = 0) := by
  rcases h.2 with ⟨rfl, a, cap, rfl, ha⟩ | ⟨b, o, cap, rfl, hc, _⟩
  · exact ⟨a, cap, rfl, Nat.zero_le _, fun h => ⟨rfl, ha h⟩⟩
  · exact ⟨_, cap, rfl, hc, fun h => (by cases h)⟩
theorem RdM.there {M : Raw} {size n cap : Nat} {a : Option Addr} {cs : List Value} (h : RdM M size (.slice a n cap) n cs) (hn : 0 < n) : ∃ g o, a = some ⟨g, o, none⟩ := by
  rcases h.2 with ⟨rfl, _⟩ | ⟨b, o, cap, h, hc, _⟩
  · omega
  · cases h; exact ⟨b, o, rfl⟩
theorem Own.buf {b e size n : Nat} {cs : List Value} (h : Own w M b cs e) (hl : cs.length = n * size) (hn : n ≤ maxLen) : Buf w M e size (.slice (some ⟨b, 0, none⟩) n n) n cs := by
  refine ⟨⟨hl, .inr ⟨b, n, cs.toArray, rfl, Nat.zero_le _, h.1, Nat.le_refl _, hn, by simpa using hl, ?_⟩⟩, fun g hg => by cases hg; exact h.2⟩
  rw [← hl]; simp
theorem Buf.slice {e size n : Nat} {v : Value} {cs : List Value} (h : Buf w M e size v n cs) : ∃ a c, v = .slice a n c ∧ n ≤ c ∧ (a = none → n = 0 ∧ c = 0) := by
  obtain ⟨⟨_, ⟨rfl, rfl⟩ | ⟨g, cap, cur, rfl, _, _, hc, _⟩⟩, _⟩ := h
  · exact ⟨none, 0, rfl, Nat.le_refl _, fun _ => ⟨rfl, rfl⟩⟩
  · exact ⟨_, _, rfl, hc, fun h => (by cases h)⟩
theorem Buf.lt {e size n : Nat} {v : Value} {cs : List Value} (h : Buf w M e size v n cs) : ∀ g, v.ownBlock = some g → g < w.heap.size := by
  obtain ⟨⟨_, ⟨rfl, rfl⟩ | ⟨g, cap, cur, rfl, _, hg, hc, _⟩⟩, _⟩ := h
  · intro g hg; cases hg
  · intro k hk; cases hk; exact (Array.getElem?_eq_some_iff.1 hg).1
theorem StepC.freezeB {S : Nat → Prop} (h : StepC S i M w M' w') {e size n : Nat} {v : Value} {cs : List Value} (hb : Buf w' M' e size v n cs) (hn : ∀ g, v.ownBlock = some g → w.heap.size ≤ g) :
    ∃ M'' : Mem mb, StepC S i M w M'' w' ∧ Le M' M'' ∧ RdM M'' size v n cs ∧ ∀ k, v.ownBlock ≠ some k → M'' k = M' k := by
  obtain ⟨⟨h1, h2⟩, h3⟩ := hb
  rcases h2 with ⟨rfl, rfl⟩ | ⟨g, cap, cur, rfl, hbg, hh, hnc, hcm, hsz, htk⟩
  · exact ⟨M', h, Le.refl _, ⟨h1, .inl ⟨rfl, none, 0, rfl, fun _ => rfl⟩⟩, fun _ _ => rfl⟩
  · have ho : Own w' M' g cur.toList e := ⟨by show w'.heap[g]? = _; rw [hh], h3 g rfl⟩
    refine ⟨M'.ins g cur.toList e, h.freeze ho (hn g rfl), Le.ins _ _ ho.2.1, ⟨h1, .inr ⟨g, 0, cap, rfl, hnc, fun j u hj => ?_⟩⟩, fun k hk => Mem.ins_other _ _ fun he => hk (by rw [he]; rfl)⟩
    unfold cellM
    rw [Mem.ins_same, Option.bind_some, nth_eq, Nat.zero_add]
    rw [← htk, List.getElem?_take] at hj
    split at hj
    · exact hj
    · cases hj
theorem Rd.cell {size n o cap g j : Nat} {cs : List Value} {u : Value} (h : Rd w size (.slice (some ⟨g, o, none⟩) n cap) n cs) (hj : cs[j]? = some u) : w.cell? ⟨g, o + j, none⟩ = some u := by
  rcases h.2 with ⟨rfl, _⟩ | ⟨b, o', cap', h2, _, hh⟩
  · have h1 := h.1
    rw [Nat.zero_mul] at h1
    rw [List.eq_nil_of_length_eq_zero h1] at hj
    cases hj
  · cases h2; exact hh j u hj
theorem Buf.cell {e size n o cap g j : Nat} {cs : List Value} {u : Value} (h : Buf w M e size (.slice (some ⟨g, o, none⟩) n cap) n cs) (hj : cs[j]? = some u) : w.cell? ⟨g, o + j, none⟩ = some u := h.rd.cell hj
theorem RdM.cell {size n o cap g j : Nat} {cs : List Value} {u : Value} (h : RdM M size (.slice (some ⟨g, o, none⟩) n cap) n cs) (hs : Sat M w) (hj : cs[j]? = some u) : w.cell? ⟨g, o + j, none⟩ = some u := (h.rd hs).cell hj
theorem Own.of_same {b e : Nat} {cs : List Value} (h : Own w M b cs e) (hm : M' b = M b) : Own w M' b cs e := ⟨h.1, hm.trans h.2.1, h.2.2⟩
theorem Buf.of_same {e size n : Nat} {v : Value} {cs : List Value} (h : Buf w M e size v n cs) (hm : ∀ g, v.ownBlock = some g → M' g = M g) : Buf w M' e size v n cs := ⟨h.1, fun g hg => ⟨(hm g hg).trans (h.2 g hg).1, (h.2 g hg).2⟩⟩
end
end Go.Eng
/- The engine of this claim's walks, fourth part: structs that are built, slices that are cut, strings, division. No conditions. -/
namespace Go.Eng
open Go
variable {mb : Option Nat}
theorem q_congr {P : Program} {l : Env} {op : Op} {ty : TypeId} {w : World} {v v' : Value} (h : Quiet P l op ty w v) (e : v = v') : Quiet P l op ty w v' := e ▸ h

def nthN : List (Nat × Nat) → Nat → Option (Nat × Nat)
  | [], _ => none
  | v :: _, 0 => some v
  | _ :: r, n + 1 => nthN r n
theorem nthN_eq : ∀ (l : List (Nat × Nat)) (n : Nat), nthN l n = l[n]?
  | [], n => by simp [nthN]
  | v :: r, 0 => by simp [nthN]
  | v :: r, n + 1 => by simp [nthN, nthN_eq r n]
def fillL (places : List (Nat × Nat)) : List (Nat × Value) → List Value → Option (List Value)
  | [], cells => some cells
  | (i, v) :: rest, cells => match nthN places i with
    | none => none
    | some (off, size) => bif Nat.beq (vcells v).length size && Nat.ble (off + size) cells.length then fillL places rest (puts cells off (vcells v)) else none
theorem puts_foldl (off : Nat) : ∀ (vs : List Value) (k : Nat) (cells : Array Value), (vs.zipIdx k).foldl (fun (cs : Array Value) (x : Value × Nat) => cs.setIfInBounds (off + x.2) x.1) cells = (puts cells.toList (off + k) vs).toArray
  | [], k, cells => by simp [puts]
  | v :: r, k, cells => by
    rw [List.zipIdx_cons, List.foldl_cons, puts_foldl off r (k + 1) (cells.setIfInBounds (off + k) v)]
    simp [puts, Nat.add_assoc]
theorem fill_eq (place : Nat → Option (Nat × Nat)) (places : List (Nat × Nat)) (hp : ∀ i x, nthN places i = some x → place i = some x) : ∀ (parts : List (Nat × Value)) (cells : List Value) (out : List Value), fillL places parts cells = some out →
    Instr.fill place cells.toArray parts = some out.toArray
  | [], cells, out, h => by cases h; rfl
  | (i, v) :: rest, cells, out, h => by
    unfold fillL at h
    cases hn : nthN places i with
    | none => rw [hn] at h; cases h
    | some x =>
      obtain ⟨off, size⟩ := x
      rw [hn] at h
      simp only [] at h
      cases hb : (Nat.beq (vcells v).length size && Nat.ble (off + size) cells.length) with
      | false => rw [hb] at h; cases h
      | true =>
        rw [hb, cond_true] at h
        simp only [Bool.and_eq_true] at hb
        have h1 := Nat.eq_of_beq_eq_true hb.1
        have h2 := Nat.le_of_ble_eq_true hb.2
        unfold Instr.fill
        rw [hp i _ hn]
        simp only []
        rw [vcells_eq]
        have hf : (vcells v).toArray.zipIdx.foldl (fun (cs : Array Value) (x : Value × Nat) => cs.setIfInBounds (off + x.2) x.1) cells.toArray = (puts cells off (vcells v)).toArray := by
          have h3 := puts_foldl off (vcells v) 0 cells.toArray
          rw [show (vcells v).toArray.zipIdx = ((vcells v).zipIdx 0).toArray from by simp, List.foldl_toArray]
          simpa using h3
        rw [if_neg (by simp; omega)]
        exact (congrArg (fun c => Instr.fill place c rest) hf).trans (fill_eq place places hp rest _ out h)
def placesOf (P : Program) (T : TypeId) : Option (List (Nat × Nat)) :=
  match P.underlying T with
  | some (.struct fs) => fs.toList.mapM fun f => (P.info? f.type).map fun i => (f.offset, i.size)
  | _ => none
def opparts (l : Env) : List (Nat × Operand) → Option (List (Nat × Value))
  | [] => some []
  | (i, x) :: r => match opv l x, opparts l r with
    | some v, some vs => some ((i, v) :: vs)
    | _, _ => none
theorem opparts_map {l : Env} {ρ : Operand → Value} (hρ : ∀ x u, opv l x = some u → ρ x = u) : ∀ (xs : List (Nat × Operand)) (vs : List (Nat × Value)), opparts l xs = some vs → xs.map (fun (i, x) => (i, ρ x)) = vs
  | [], vs, h => by cases h; rfl
  | (i, x) :: r, vs, h => by
    unfold opparts at h
    cases h1 : opv l x with
    | none => rw [h1] at h; cases h
    | some v =>
      cases h2 : opparts l r with
      | none => rw [h1, h2] at h; cases h
      | some us => rw [h1, h2] at h; cases h; simp [hρ x v h1, opparts_map hρ r us h2]
theorem mapM_places {P : Program} {w : World} : ∀ (fs : List Field) (ps : List (Nat × Nat)), fs.mapM (fun f => (P.info? f.type).map fun i => (f.offset, i.size)) = some ps →
    (fs.mapM (m := Sem) fun f => do pure (f.offset, ← sizeOf f.type)).run P w = .ok ps w
  | [], ps, h => by simp at h; subst h; rfl
  | f :: r, ps, h => by
    simp only [List.mapM_cons, Option.bind_eq_bind, Option.bind_eq_some_iff] at h
    obtain ⟨x, hx, ps', hps, he⟩ := h
    simp only [Option.pure_def, Option.some.injEq] at he
    subst he
    obtain ⟨i, hi, rfl⟩ := Option.map_eq_some_iff.1 hx
    have ih := mapM_places (P := P) (w := w) r ps' hps
    rw [List.mapM_cons]
    have e1 : (sizeOf f.type).run P w = .ok i.size w := by simp [sizeOf, typeInfo, hi]
    simp only [Sem.run_bind, e1, Result.andThen_ok, Sem.run_pure, ih]
theorem q_build {P : Program} {l : Env} {ty : TypeId} {w : World} {T : TypeId} {xs : List (Nat × Operand)} {zs cs : List Value} {places : List (Nat × Nat)} {vs : List (Nat × Value)} (hT : zeroOf P T = some (.agg zs.toArray)) (hP : placesOf P T = some places)
    (hx : opparts l xs = some vs) (hf : fillL places vs zs = some cs) : Quiet P l (.build T xs.toArray) ty w (.agg cs.toArray) := fun ρ h _ _ _ _ => by
  refine run_v ?_
  have e := opparts_map h xs vs hx
  unfold placesOf at hP
  cases hu : P.underlying T with
  | none => rw [hu] at hP; cases hP
  | some d =>
    cases d <;> (rw [hu] at hP; try cases hP)
    rename_i fs
    simp only [] at hP
    have hm := mapM_places (P := P) (w := w) fs.toList places hP
    have hmA : (fs.mapM (m := Sem) fun f => do pure (f.offset, ← sizeOf f.type)).run P w = .ok places.toArray w := by
      rw [show fs = fs.toList.toArray from rfl, List.mapM_toArray, Sem.run_map, hm]; rfl
    have hfill := fill_eq (fun i => places.toArray[i]?) places (fun i x hi => by rw [nthN_eq] at hi; simpa using hi) vs zs cs hf
    have e2 : (xs.toArray.map fun (i, x) => (i, ρ x)).toList = vs := by simpa using e
    simp only [Instr.build, Sem.run_bind, run_zeroOf hT w, Result.andThen_ok, run_underlying hu, hmA]
    have e3 : (Array.map (fun x : Nat × Operand => match x with | (i, x) => (i, ρ x)) xs.toArray).toList = vs := e2
    rw [e3]
    have hz : (Value.agg zs.toArray).cells = zs.toArray := rfl
    rw [hz, hfill]
    rfl

theorem q_indexAddr {P : Program} {l : Env} {ty : TypeId} {w : World} {x y : Operand} {T e size b o n cap : Nat} {k : IntKind} {i : Int} (hT : P.underlying T = some (.slice e)) (hz : sizeB P e = some size) (hx : opv l x = some (.slice (some ⟨b, o, none⟩) n cap)) (hy : opv l y = some (.int k i))
    (h0 : 0 ≤ i) (h1 : i < n) : Quiet P l (.indexAddr T x y) ty w (.pointer (some ⟨b, o + i.toNat * size, none⟩)) := fun ρ h _ _ _ _ => by
  refine run_v ?_
  rw [h x _ hx, h y _ hy]
  have e : (Addr.mk b o none).add (i.toNat * size) = ⟨b, o + i.toNat * size, none⟩ := Addr.add_lit b o _
  simp [Instr.indexAt, asIntOf, run_underlying hT, h0, h1, run_sizeB hz, e]
theorem q_slice {P : Program} {l : Env} {ty : TypeId} {w : World} {x : Operand} {lo hi : Option Operand} {T e size n cap : Nat} {a : Option Addr} {k k' : IntKind} {i j : Int} (hT : P.underlying T = some (.slice e)) (hz : sizeB P e = some size)
    (hx : opv l x = some (.slice a n cap)) (hlo : (match lo with | none => i = 0 | some y => opv l y = some (.int k i))) (hhi : (match hi with | none => j = n | some y => opv l y = some (.int k' j)))
    (h0 : 0 ≤ i) (h1 : i ≤ j) (h2 : j ≤ cap) :
    Quiet P l (.slice T x lo hi none) ty w (.slice (if cap = i.toNat then a else a.map (·.add (i.toNat * size))) (j.toNat - i.toNat) (cap - i.toNat)) := fun ρ h _ _ _ _ => by
  refine run_v ?_
  have hb : (Instr.sliceBounds true n cap (lo.map ρ) (hi.map ρ) none).run P w = .ok (i.toNat, j.toNat, cap) w := by
    unfold Instr.sliceBounds
    cases lo with
    | none =>
      cases hi with
      | none =>
        simp only [] at hlo hhi
        subst hlo; subst hhi
        simp
      | some y =>
        simp only [] at hlo hhi
        subst hlo
        rw [Option.map_some, h y _ hhi]
        simp [Instr.sliceBound, asIntOf, show (0 : Int) ≤ j ∧ j ≤ cap from ⟨by omega, h2⟩]
    | some y =>
      cases hi with
      | none =>
        simp only [] at hlo hhi
        subst hhi
        rw [Option.map_some, h y _ hlo]
        simp [Instr.sliceBound, asIntOf, show (0 : Int) ≤ i ∧ i ≤ n from ⟨by omega, h1⟩]
      | some y' =>
        simp only [] at hlo hhi
        rw [Option.map_some, Option.map_some, h y _ hlo, h y' _ hhi]
        have hj : ((j.toNat : Nat) : Int) = j := by omega
        simp [Instr.sliceBound, asIntOf, show (0 : Int) ≤ j ∧ j ≤ cap from ⟨by omega, h2⟩, show 0 ≤ i from h0, show i ≤ max j 0 from by omega]
  rw [h x _ hx]
  simp [Instr.sliceAt, run_underlying hT, Instr.slice, hb, run_sizeB hz]
section strs
variable {P : Program} {l : Env} {ty : TypeId} {w : World} {x y : Operand} {t u : TypeId} {a b : ByteArray}
end strs
def cellIs (b o : Nat) (v : Value) : World → Prop := fun w => w.cell? ⟨b, o, none⟩ = some v
def cellsAre (b o n : Nat) (vs : List Value) : World → Prop := fun w => vs.length = n ∧ ∀ j v, vs[j]? = some v → w.cell? ⟨b, o + j, none⟩ = some v
section
variable {P : Program} {l : Env} {ty : TypeId} {w : World}
theorem q_loadc {x : Operand} {b o T n : Nat} {vs : List Value} (hT : aggOf P T = some (some n)) (hx : opv l x = some (.pointer (some ⟨b, o, none⟩))) (hc : vs.length = n ∧ ∀ j v, vs[j]? = some v → w.cell? ⟨b, o + j, none⟩ = some v) : Quiet P l (.load T x) ty w (.agg vs.toArray) :=
  q_loadn hT hx hc.1 hc.2
variable {x y : Operand} {t u : TypeId} {a b : Int}
theorem wrap64_of {z : Int} (h0 : -9223372036854775808 ≤ z) (h1 : z ≤ 9223372036854775807) : IntKind.i64.wrap z = z := by rw [IntKind.wrap_i64]; omega
theorem q_addx (hx : opv l x = some (.int .i64 a)) (hy : opv l y = some (.int .i64 b)) (h0 : -9223372036854775808 ≤ a + b) (h1 : a + b ≤ 9223372036854775807) : Quiet P l (.binOp .add t x y u) ty w (.int .i64 (a + b)) :=
  q_congr (q_add hx hy) (by rw [wrap64_of h0 h1])
theorem q_subx (hx : opv l x = some (.int .i64 a)) (hy : opv l y = some (.int .i64 b)) (h0 : -9223372036854775808 ≤ a - b) (h1 : a - b ≤ 9223372036854775807) : Quiet P l (.binOp .sub t x y u) ty w (.int .i64 (a - b)) :=
  q_congr (q_sub hx hy) (by rw [wrap64_of h0 h1])
theorem q_convx {s d : TypeId} {k k' : IntKind} (hs : (P.underlying s).isSome = true) (hd : P.underlying d = some (.int k')) (hx : opv l x = some (.int k a)) (hw : k'.wrap a = a) : Quiet P l (.convert s d x) ty w (.int k' a) :=
  q_congr (q_conv hs hd hx) (by rw [hw])
theorem q_eqsl {t' u' : TypeId} {a' : Option Addr} {n c : Nat} (ht : (match P.underlying t' with | some (.slice _) => true | _ => false) = true) (hx : opv l x = some (.slice a' n c)) : Quiet P l (.binOp .eql t' x (.const (.slice none 0 0)) u') ty w (.bool a'.isNone) := fun ρ h _ _ _ _ => by
  refine run_v ?_
  rw [h x _ hx, h (.const (.slice none 0 0)) _ rfl, eqGuard_at_slice]
  cases hu : P.underlying t' with
  | none => rw [hu] at ht; cases ht
  | some d =>
    rw [hu] at ht
    cases d <;> first | (cases ht; done) | skip
    have e : (Op.equalIn 10000 t' (.slice a' n c) (.slice none 0 0)).run P w = .ok a'.isNone w := by
      show (Op.equalIn (9999 + 1) t' (.slice a' n c) (.slice none 0 0)).run P w = _
      unfold Op.equalIn
      cases a' <;> simp [run_underlying hu]
    simp [binOp, Op.equal, Op.maxDepth, e]
def rowPlaces (size : Nat) : Nat → Nat → List (Nat × Nat)
  | _, 0 => []
  | k, n + 1 => (k * size, size) :: rowPlaces size (k + 1) n
theorem rowPlaces_nth (size : Nat) : ∀ (n k i : Nat) (z : Nat × Nat), nthN (rowPlaces size k n) i = some z → z = ((k + i) * size, size)
  | 0, _, _, _, h => by cases h
  | n + 1, k, 0, z, h => by cases h; rfl
  | n + 1, k, i + 1, z, h => by
    have := rowPlaces_nth size n (k + 1) i z h
    rw [this]; congr 2; omega
def rowZeros (P : Program) (e size n : Nat) : Option (List Value) :=
  if n * size = 0 then some [] else (zeroOf P e).map fun z => ((Array.range (n * size)).map (z.cells[· % z.cells.size]!)).toList
theorem run_buildSlice {T e size n : Nat} {vs : List (Nat × Value)} {zs cs : List Value} (hT : P.underlying T = some (.slice e)) (hz : sizeB P e = some size) (hzs : rowZeros P e size n = some zs) (hn : n * size ≤ 16777216)
    (hf : fillL (rowPlaces size 0 n) vs zs = some cs) : (Instr.buildSlice T n vs.toArray).run P w = .ok (.slice (some ⟨w.heap.size, 0, none⟩) n n) (w.alloc (.cells cs.toArray e)) := by
  have hfill := fill_eq (fun i => some (i * size, size)) (rowPlaces size 0 n) (fun i z hi => by rw [rowPlaces_nth size n 0 i z hi]; simp) vs zs cs hf
  unfold rowZeros at hzs
  by_cases h0 : n * size = 0
  · rw [if_pos h0] at hzs
    cases hzs
    have hn' : ¬ (16777216 < n * size) := by omega
    simp [Instr.buildSlice, run_underlying hT, run_sizeB hz, h0, newRow, Array.range_zero']
    rw [hfill]
    simp
  · rw [if_neg h0] at hzs
    obtain ⟨z, hz1, hz2⟩ := Option.map_eq_some_iff.1 hzs
    have hn' : ¬ (16777216 < n * size) := by omega
    have e1 : (Array.range (n * size)).map (z.cells[· % z.cells.size]!) = zs.toArray := by rw [← hz2]
    simp [Instr.buildSlice, run_underlying hT, run_sizeB hz, h0, hn', run_zeroOf hz1]
    rw [e1, hfill]
    simp [newRow]
theorem h_buildO {c : Cx} {M : Mem mb} {K : Value → World → Prop} {T e size n : Nat} {xs : List (Nat × Operand)} {vs : List (Nat × Value)} {zs cs : List Value} (hT : c.P.underlying T = some (.slice e)) (hz : sizeB c.P e = some size) (hzs : rowZeros c.P e size n = some zs) (hn : Nat.ble (n * size) 16777216 = true)
    (hs : Sat M w) (hx : opparts l xs = some vs) (hf : fillL (rowPlaces size 0 n) vs zs = some cs)
    (hk : ∀ b w', Step Nope M w M w' → Own w' M b cs e → w.heap.size = b → K (.slice (some ⟨b, 0, none⟩) n n) w') : HW c l (.buildSlice T n xs.toArray) ty w K :=
  HW.value (w' := w.alloc (.cells cs.toArray e)) rfl (fun ρ h _ _ _ _ => by
    refine run_v ?_
    have e2 : (xs.toArray.map fun (i, x) => (i, ρ x)) = vs.toArray := by simp only [List.map_toArray]; rw [opparts_map h xs vs hx]
    have e3 : (Array.map (fun x : Nat × Operand => match x with | (i, x) => (i, ρ x)) xs.toArray) = vs.toArray := e2
    rw [e3]
    exact run_buildSlice hT hz hzs (Nat.le_of_ble_eq_true hn) hf) (hk _ _ (Step.alloc hs _) ⟨Blk.new w cs e, hs.no_new⟩ rfl)
section decided
variable {k : IntKind}
theorem q_ltT {a b : Int} (hx : opv l x = some (.int k a)) (hy : opv l y = some (.int k b)) (h : a < b) : Quiet P l (.binOp .lss t x y u) ty w (.bool true) := q_congr (q_lt hx hy) (by rw [decide_eq_true h])
theorem q_ltF {a b : Int} (hx : opv l x = some (.int k a)) (hy : opv l y = some (.int k b)) (h : b ≤ a) : Quiet P l (.binOp .lss t x y u) ty w (.bool false) := q_congr (q_lt hx hy) (by rw [decide_eq_false (by omega)])
theorem q_gtT {a b : Int} (hx : opv l x = some (.int k a)) (hy : opv l y = some (.int k b)) (h : b < a) : Quiet P l (.binOp .gtr t x y u) ty w (.bool true) := q_congr (q_gt hx hy) (by rw [decide_eq_true h])
theorem q_gtF {a b : Int} (hx : opv l x = some (.int k a)) (hy : opv l y = some (.int k b)) (h : a ≤ b) : Quiet P l (.binOp .gtr t x y u) ty w (.bool false) := q_congr (q_gt hx hy) (by rw [decide_eq_false (by omega)])
theorem q_eqT {a b : Int} (hx : opv l x = some (.int k a)) (hy : opv l y = some (.int k b)) (h : a = b) : Quiet P l (.binOp .eql t x y u) ty w (.bool true) := q_congr (q_eq hx hy) (by rw [h, beq_self_eq_true])
theorem q_eqF {a b : Int} (hx : opv l x = some (.int k a)) (hy : opv l y = some (.int k b)) (h : a ≠ b) : Quiet P l (.binOp .eql t x y u) ty w (.bool false) := q_congr (q_eq hx hy) (by rw [beq_eq_false_iff_ne.2 h])
theorem q_neT {a b : Int} (hx : opv l x = some (.int k a)) (hy : opv l y = some (.int k b)) (h : a ≠ b) : Quiet P l (.binOp .neq t x y u) ty w (.bool true) := q_congr (q_ne hx hy) (by rw [bne_iff_ne.2 h])
theorem q_neF {a b : Int} (hx : opv l x = some (.int k a)) (hy : opv l y = some (.int k b)) (h : a = b) : Quiet P l (.binOp .neq t x y u) ty w (.bool false) := q_congr (q_ne hx hy) (by rw [h]; simp)
end decided
theorem puts_take : ∀ (vs cs : List Value) (o k : Nat), o + vs.length ≤ k → (puts cs o vs).take k = puts (cs.take k) o vs
  | [], _, _, _, _ => rfl
  | v :: r, cs, o, k, h => by
    simp only [List.length_cons] at h
    rw [puts, puts, puts_take r (cs.set o v) (o + 1) k (by omega), List.take_set]
theorem h_storeB {c : Cx} {M : Mem mb} {K : Value → World → Prop} {x y : Operand} {t g o e size n cap : Nat} {v : Value} {vs cs cs' : List Value} (hs : Sat M w) (hb : Buf w M e size (.slice (some ⟨g, 0, none⟩) n cap) n cs) (hx : opv l x = some (.pointer (some ⟨g, o, none⟩))) (hy : opv l y = some v)
    (hv : vcells v = vs) (hn : sizeB c.P t = some vs.length) (hl : o + vs.length ≤ n * size) (h1 : vs.all (·.oneCell') = true) (hc : puts cs o vs = cs')
    (hk : ∀ w', Step (Just g) M w M w' → Buf w' M e size (.slice (some ⟨g, 0, none⟩) n cap) n cs' → K undef w') : HW c l (.store t x y) ty w K := by
  obtain ⟨⟨hlen, h2⟩, h3⟩ := hb
  rcases h2 with ⟨h2, _⟩ | ⟨g', cap', cur, h2, hbg, hh, hnc, hcm, hsz, htk⟩
  · cases h2
  cases h2
  have ho : Own w M g cur.toList e := ⟨by show w.heap[g]? = _; rw [hh], h3 g rfl⟩
  have hle : n * size ≤ cur.toList.length := by rw [Array.length_toList, hsz]; exact Nat.mul_le_mul_right _ hnc
  subst hc
  subst hv
  refine h_store hs ho hx hy rfl hn (Nat.ble_eq_true_of_le (by omega)) h1 rfl fun w' hs' ho' => hk w' hs' ⟨⟨by rw [puts_length]; exact hlen, .inr ⟨g, cap, (puts cur.toList o (vcells v)).toArray, rfl, hbg, ho'.1, hnc, hcm, by rw [List.size_toArray, puts_length, Array.length_toList, hsz], ?_⟩⟩, fun k hk => by cases hk; exact ho'.2⟩
  rw [List.toList_toArray, puts_take _ _ _ _ hl, htk]
theorem Buf.head {M : Mem mb} {e size n : Nat} {v : Value} {cs : List Value} (h : Buf w M e size v n cs) (hn : 0 < n) : ∃ g cap, v = .slice (some ⟨g, 0, none⟩) n cap ∧ n ≤ cap := by
  obtain ⟨⟨_, ⟨rfl, h0⟩ | ⟨g, cap, cur, rfl, _, _, hc, _⟩⟩, _⟩ := h
  · omega
  · exact ⟨g, cap, rfl, hc⟩
end
end Go.Eng
/- The engine of this claim's walks, fifth part: the arguments of a law as what lies still. No conditions. -/
namespace Go.Eng
open Go Go.ChangeShapes Go.WideShapes Go.RowKit
theorem StepC.below {mb : Option Nat} {S : Nat → Prop} {M M' : Mem mb} {w w' : World} (h : Step S M w M' w') (hS : ∀ k, ¬ S k) : Below w.heap.size w w' := ⟨h.os, h.tape, h.output, h.size, fun k hk => h.kept k hk (hS k)⟩
def LawP (w : World) : Value → World → Prop := fun v w' => v = .bool true ∧ Below w.heap.size w w'
theorem Does.law {P : Program} {f : FuncId} {args : Array Value} {w : World} {K : Value → World → Prop} (h : Does P f args w K) (hk : ∀ v w', K v w' → LawP w v w') : Calls P f args w fun e w' => e = .returned (.bool true) ∧ Below w.heap.size w w' :=
  h.calls.mono fun e w' he => by
    cases e with
    | returned v => obtain ⟨rfl, hb⟩ := hk v w' he; exact ⟨rfl, hb⟩
    | panicked c => exact he.elim
    | outgrown => exact he.elim
theorem rdM_of {W : World} {a : Addr} {len cap size : Nat} {cs : List Value} (hs : 0 < size) (hc : len ≤ cap) (hl : cs.length = len * size) (h : ∀ j u, cs[j]? = some u → W.cell? (a.add j) = some u) : RdM (memOf W) size (.slice (some a) len cap) len cs := by
  refine ⟨hl, ?_⟩
  by_cases h0 : cs = []
  · subst h0
    rcases Nat.eq_zero_or_pos len with rfl | hp
    · exact .inl ⟨rfl, some a, cap, rfl, fun h => (by cases h)⟩
    · have : 0 < len * size := Nat.mul_pos hp hs
      simp at hl; omega
  · obtain ⟨v, hv⟩ : ∃ v, cs[0]? = some v := by
      cases cs with
      | nil => exact absurd rfl h0
      | cons v r => exact ⟨v, rfl⟩
    have h1 := h 0 v hv
    obtain ⟨b, o, s⟩ := a
    have hsp : s = none := by
      have h2 : W.cell? ⟨b, o, s⟩ = some v := by simpa [Addr.add] using h1
      cases s with
      | none => rfl
      | some s =>
        unfold World.cell? at h2
        split at h2
        · simp at h2
        · cases h2
    subst hsp
    exact .inr ⟨b, o, cap, rfl, hc, fun j u hj => cellM_memOf (by have := h j u hj; rwa [Addr.add_lit] at this)⟩
section
variable {H : Type} {enc : TypeId × Value → H} {P : Program} {W : World} {spare : Nat → Bool} {held : Bool} {t e : TypeId} {v : Value} {d : DataW H} {p : List MemPlace}
end
end Go.Eng
/- The engine of this claim's walks, sixth part: pieces of a slice. No conditions. -/
namespace Go.Eng
open Go
variable {mb : Option Nat}
theorem RdM.sub {M : Raw} {size n c : Nat} {a : Option Addr} {cs : List Value} (h : RdM M size (.slice a n c) n cs) (i j : Int) (h0 : 0 ≤ i) (hij : i ≤ j) (hj : j ≤ n) :
    RdM M size (.slice (if c = i.toNat then a else a.map (·.add (i.toNat * size))) (j.toNat - i.toNat) (c - i.toNat)) (j.toNat - i.toNat) ((cs.drop (i.toNat * size)).take ((j.toNat - i.toNat) * size)) := by
  have hjn : j.toNat ≤ n := by omega
  have hle : i.toNat ≤ j.toNat := by omega
  obtain ⟨hl, hh⟩ := h
  refine ⟨?_, ?_⟩
  · rw [List.length_take, List.length_drop, hl, ← Nat.sub_mul]
    exact Nat.min_eq_left (Nat.mul_le_mul_right _ (by omega))
  · by_cases he : j.toNat - i.toNat = 0
    · refine .inl ⟨he, _, _, by rw [he], fun hn => ?_⟩
      rcases hh with ⟨rfl, a', cap, h1, h2⟩ | ⟨b, o, cap, h1, h2, _⟩
      · cases h1
        split at hn
        · omega
        · cases a with
          | none => have := h2 rfl; omega
          | some x => cases hn
      · cases h1
        split at hn <;> cases hn
    · rcases hh with ⟨rfl, _⟩ | ⟨b, o, cap, h1, h2, h3⟩
      · omega
      · cases h1
        refine .inr ⟨b, o + i.toNat * size, c - i.toNat, ?_, by omega, fun k u hk => ?_⟩
        · rw [if_neg (by omega)]
          show Value.slice (some (Addr.add ⟨b, o, none⟩ _)) _ _ = _
          rw [Addr.add_lit]
        · rw [List.getElem?_take] at hk
          split at hk
          · rw [List.getElem?_drop] at hk
            rw [Nat.add_assoc]
            exact h3 _ _ hk
          · cases hk
theorem RdM.cast {M : Raw} {size n n' : Nat} {v v' : Value} {cs cs' : List Value} (h : RdM M size v n cs) (hv : v = v') (hn : n = n') (hc : cs = cs') : RdM M size v' n' cs' := by subst hv; subst hn; subst hc; exact h
theorem Buf.cast {w : World} {M : Mem mb} {e size n n' : Nat} {v : Value} {cs cs' : List Value} (h : Buf w M e size v n cs) (hn : n = n') (hc : cs = cs') : Buf w M e size v n' cs' := by subst hn; subst hc; exact h
theorem RdM.elem {M : Mem mb} {w : World} {size n o c g j : Nat} {cs vs : List Value} (h : RdM M size (.slice (some ⟨g, o, none⟩) n c) n cs) (hs : Sat M w) (hl : vs.length = size) (hj : ∀ i u, vs[i]? = some u → cs[j * size + i]? = some u) :
    cellsAre g (o + j * size) size vs w := by
  refine ⟨hl, fun i u hi => ?_⟩
  rw [Nat.add_assoc]
  exact h.cell hs (hj i u hi)
theorem RdM.one {M : Raw} {size n : Nat} {v : Value} {cs : List Value} (h : RdM M size v n cs) : v.oneCell' = true := by obtain ⟨a, c, rfl, _⟩ := h.slice; rfl
section
variable {P : Program} {l : Env} {x y : Operand} {ty t u : TypeId} {w : World} {k : IntKind} {a b : Int}
theorem q_rem (hx : opv l x = some (.int k a)) (hy : opv l y = some (.int k b)) (hb : b ≠ 0) : Quiet P l (.binOp .rem t x y u) ty w (.int k (a.tmod b)) := fun ρ h _ _ _ _ => by
  refine run_v ?_
  rw [h x _ hx, h y _ hy, eqGuard_rem, binOp_rem]
  unfold Op.intDiv
  rw [if_neg hb]
  rfl
end
theorem floor_of {v v' : Value} {B s : Nat} (h : v'.ownBlock = v.ownBlock ∨ v'.ownBlock = some s) (hf : ∀ g, v.ownBlock = some g → B ≤ g) (hs : B ≤ s) : ∀ g, v'.ownBlock = some g → B ≤ g := fun g hg => by
  rcases h with h | h
  · exact hf g (h ▸ hg)
  · rw [h] at hg; cases hg; exact hs
theorem lt_of_app {v v' : Value} {B s : Nat} (h : v'.ownBlock = v.ownBlock ∨ v'.ownBlock = some s) (hn : v.ownBlock ≠ some B) (hs : B ≠ s) : v'.ownBlock ≠ some B := by
  rcases h with h | h
  · rw [h]; exact hn
  · rw [h]; intro e; cases e; exact hs rfl
theorem Does.frozen {P : Program} {f : FuncId} {args : Array Value} {w : World} {M : Mem mb} {e size n : Nat} {cs : List Value} (h : Does P f args w fun v w' => Step Nope M w M w' ∧ Buf w' M e size v n cs ∧ ∀ g, v.ownBlock = some g → w.heap.size ≤ g) :
    Does P f args w fun v w' => ∃ M', Step Nope M w M' w' ∧ RdM M' size v n cs :=
  h.mono fun _ _ ⟨h1, h2, h3⟩ => by
    obtain ⟨M', h4, _, h5, _⟩ := h1.freezeB h2 h3
    exact ⟨M', h4, h5⟩
theorem StepC.forgetC {i : Nat} {S : Nat → Prop} {M M' : Mem mb} {w w' : World} (h : StepC S i M w M' w') : StepC S i M w (M.tick i) w' where
  le := Le.refl _
  sat := ⟨fun b cs e hb => h.sat.blk b cs e (h.le b (cs, e) hb), fun b hb => by
    obtain ⟨h1, x, y, e, h2, h3⟩ := h.sat.mtr b hb
    refine ⟨?_, x, y, e, h2, by rw [h.cnt] at h3; exact h3⟩
    cases hm : M.f b with
    | none => exact hm
    | some z => have := h.le b z hm; rw [h1] at this; cases this⟩
  fresh := fun b x h0 h1 => by
    have h1 : M b = some x := h1
    rw [h0] at h1; cases h1
  kept' := h.kept'
  size := h.size
  os := h.os
  output := h.output
  tape := h.tape
  cnt := rfl
  still := h.still
theorem StepC.forget {i : Nat} {S : Nat → Prop} {M M' : Mem mb} {w w' : World} (h : StepC S i M w M' w') (hi : i = 0 := by rfl) : Step S M w M w' := by
  subst hi; exact h.forgetC
theorem h_buildM {c : Cx} {l : Env} {ty : TypeId} {w : World} {M : Mem mb} {K : Value → World → Prop} {T e size n : Nat} {xs : List (Nat × Operand)} {vs : List (Nat × Value)} {zs cs : List Value} (hT : c.P.underlying T = some (.slice e)) (hz : sizeB c.P e = some size) (hzs : rowZeros c.P e size n = some zs) (hn : Nat.ble (n * size) 16777216 = true)
    (hs : Sat M w) (hx : opparts l xs = some vs) (hf : fillL (rowPlaces size 0 n) vs zs = some cs) (hl : cs.length = n * size)
    (hk : ∀ b M' w', Step Nope M w M' w' → RdM M' size (.slice (some ⟨b, 0, none⟩) n n) n cs → w.heap.size = b → K (.slice (some ⟨b, 0, none⟩) n n) w') : HW c l (.buildSlice T n xs.toArray) ty w K :=
  HW.value (w' := w.alloc (.cells cs.toArray e)) rfl (fun ρ h _ _ _ _ => by
    refine run_v ?_
    have e2 : (xs.toArray.map fun (i, x) => (i, ρ x)) = vs.toArray := by simp only [List.map_toArray]; rw [opparts_map h xs vs hx]
    have e3 : (Array.map (fun x : Nat × Operand => match x with | (i, x) => (i, ρ x)) xs.toArray) = vs.toArray := e2
    rw [e3]
    exact run_buildSlice hT hz hzs (Nat.le_of_ble_eq_true hn) hf) (hk _ _ _ (Step.allocM hs cs e) ⟨hl, .inr ⟨_, 0, n, rfl, Nat.le_refl _, fun j u hj => by
      unfold cellM
      rw [Mem.ins_same, Option.bind_some, nth_eq, Nat.zero_add]
      exact hj⟩⟩ rfl)
end Go.Eng
/- The engine of this claim's walks, seventh part: slices of what has more cells than one. No conditions. -/
namespace Go.Eng
open Go Go.ChangeShapes Go.WideShapes Go.RowKit
theorem rows_length {α : Type} {cell : α → List Value} {size : Nat} (hc : ∀ y, (cell y).length = size) : ∀ ys : List α, (ys.flatMap cell).length = ys.length * size
  | [] => by simp
  | y :: r => by rw [List.flatMap_cons, List.length_append, rows_length hc r, hc, List.length_cons, Nat.add_mul]; omega
theorem get_rows {α : Type} {cell : α → List Value} {size : Nat} (hc : ∀ y, (cell y).length = size) : ∀ {ys : List α} {j : Nat} {u : Value}, (ys.flatMap cell)[j]? = some u → ∃ i y r, ys[i]? = some y ∧ j = i * size + r ∧ r < size ∧ (cell y)[r]? = some u
  | [], _, _, h => by simp at h
  | y :: t, j, u, h => by
    rw [List.flatMap_cons] at h
    rcases Nat.lt_or_ge j size with hj | hj
    · rw [List.getElem?_append_left (by rw [hc]; exact hj)] at h
      exact ⟨0, y, j, rfl, by omega, hj, h⟩
    · rw [List.getElem?_append_right (by rw [hc]; exact hj), hc] at h
      obtain ⟨i, z, r, h1, h2, h3, h4⟩ := get_rows hc h
      exact ⟨i + 1, z, r, by simpa using h1, by rw [Nat.add_mul]; omega, h3, h4⟩
theorem rows_get {α : Type} {cell : α → List Value} {size : Nat} (hc : ∀ y, (cell y).length = size) : ∀ {ys : List α} {i : Nat} {y : α}, ys[i]? = some y → ∀ r u, (cell y)[r]? = some u → (ys.flatMap cell)[i * size + r]? = some u
  | [], _, _, h, _, _, _ => by simp at h
  | y :: t, 0, z, h, r, u, hu => by
    cases h
    have hr : r < size := by
      rw [← hc y]
      exact (List.getElem?_eq_some_iff.1 hu).1
    rw [List.flatMap_cons, Nat.zero_mul, Nat.zero_add, List.getElem?_append_left (by rw [hc]; exact hr)]
    exact hu
  | y :: t, i + 1, z, h, r, u, hu => by
    rw [List.flatMap_cons, List.getElem?_append_right (by rw [hc, Nat.add_mul]; omega), hc, show (i + 1) * size + r - size = i * size + r from by rw [Nat.add_mul]; omega]
    exact rows_get hc (by simpa using h) r u hu
section
variable {H : Type} {enc : TypeId × Value → H} {P : Program} {W : World} {spare : Nat → Bool} {held : Bool} {t e : TypeId} {v : Value} {x : DataW H × List MemPlace} {fuel : Nat}
theorem read_rows {α : Type} (cell : α → List Value) (G : α → Prop) {size : Nat} (hcl : ∀ y, (cell y).length = size) (ht : P.underlying t = some (.slice e)) (hc : P.cellsOf e = size) (hs : 0 < size)
    (hQ : ∀ n cs x, DataW.trod enc P W 0 spare held n e cs = some x → ∃ y, cs = cell y ∧ G y) (h : DataW.trod enc P W 0 spare held fuel t [v] = some x) :
    ∃ (n : Nat) (ys : List α), ys.length = n ∧ RdM (memOf W) size v n (ys.flatMap cell) ∧ ∀ y ∈ ys, G y := by
  rcases DataW.trod_slice ht h with ⟨hcs, _⟩ | ⟨a, len, cap, elems, rest, n, _, hcs, _, _, hl, hm, hlen, hel, _, _⟩
  · cases hcs
    exact ⟨0, [], rfl, ⟨by simp, .inl ⟨rfl, none, 0, rfl, fun _ => rfl⟩⟩, by simp⟩
  · cases hcs
    have each : ∀ i, i < len → ∃ y, G y ∧ W.cells? 0 (a.add (i * size)) size = some (cell y) := fun i hi => by
      have h1 := hel i hi
      rw [hc, List.getElem?_eq_getElem (by omega)] at h1
      obtain ⟨cs', hcs', hy⟩ := Option.bind_eq_some_iff.1 h1
      obtain ⟨y, rfl, hg⟩ := hQ _ _ _ hy
      exact ⟨y, hg, hcs'⟩
    have all : ∀ k, k ≤ len → ∃ ys : List α, ys.length = k ∧ ∀ i y, ys[i]? = some y → G y ∧ W.cells? 0 (a.add (i * size)) size = some (cell y) := by
      intro k
      induction k with
      | zero => exact fun _ => ⟨[], rfl, fun i y h => by simp at h⟩
      | succ k ih =>
        intro hk
        obtain ⟨ys, h1, h2⟩ := ih (by omega)
        obtain ⟨y, hy⟩ := each k (by omega)
        refine ⟨ys ++ [y], by simp [h1], fun i z hz => ?_⟩
        rcases Nat.lt_or_ge i ys.length with hi | hi
        · exact h2 i z (by rwa [List.getElem?_append_left hi] at hz)
        · rw [List.getElem?_append_right hi] at hz
          have hik : i - ys.length = 0 := by
            have := (List.getElem?_eq_some_iff.1 hz).1
            simp at this; omega
          rw [hik] at hz
          cases hz
          obtain rfl : i = k := by omega
          exact hy
    obtain ⟨ys, hy1, hy2⟩ := all len (Nat.le_refl _)
    refine ⟨len, ys, hy1, rdM_of hs hl (by rw [rows_length hcl, hy1]) fun j u hj => ?_, fun y hy => ?_⟩
    · obtain ⟨i, y, r, h1, rfl, h3, h4⟩ := get_rows hcl hj
      have h5 := (World.cells?_some (hy2 i y h1).2).2.2 r h3
      rw [Addr.add_add, h4] at h5
      exact h5
    · obtain ⟨i, hi⟩ := List.getElem?_of_mem hy
      exact (hy2 i y hi).1
end
end Go.Eng
/- Rows of elements of two numbers, to be put in order. No conditions. -/
namespace Go.Eng
open Go
variable {mb : Option Nat}
abbrev El := Int × Int
def elc (e : El) : List Value := [.int .i64 e.1, .int .i64 e.2]
def els (xs : List El) : List Value := xs.flatMap elc
theorem elc_length (e : El) : (elc e).length = 2 := rfl
theorem els_length (xs : List El) : (els xs).length = xs.length * 2 := rows_length elc_length xs
theorem els_one (xs : List El) : ∀ x ∈ els xs, x.oneCell' = true := fun x hx => by
  obtain ⟨t, _, hx⟩ := List.mem_flatMap.1 hx
  simp only [elc, List.mem_cons, List.not_mem_nil, or_false] at hx
  rcases hx with rfl | rfl <;> rfl
theorem els_append (a b : List El) : els (a ++ b) = els a ++ els b := List.flatMap_append
def cmp1 (a b : Int) : Int := if a < b then -1 else if b < a then 1 else 0
def cmpE (x y : El) : Int := if cmp1 x.1 y.1 = 0 then cmp1 x.2 y.2 else cmp1 x.1 y.1
def ltE (x y : El) : Bool := decide (cmpE x y < 0)
theorem cmp1_neg {a b : Int} : cmp1 a b < 0 ↔ a < b := by
  unfold cmp1
  split
  · omega
  · split <;> omega
theorem cmp1_zero {a b : Int} : cmp1 a b = 0 ↔ a = b := by
  unfold cmp1
  split
  · omega
  · split <;> omega
theorem cmpE_neg {x y : El} : cmpE x y < 0 ↔ x.1 < y.1 ∨ x.1 = y.1 ∧ x.2 < y.2 := by
  unfold cmpE
  by_cases h : cmp1 x.1 y.1 = 0
  · rw [if_pos h, cmp1_neg]; have := cmp1_zero.1 h; omega
  · rw [if_neg h, cmp1_neg]; have : x.1 ≠ y.1 := fun e => h (cmp1_zero.2 e); omega
theorem ltE_iff {x y : El} : ltE x y = true ↔ x.1 < y.1 ∨ x.1 = y.1 ∧ x.2 < y.2 := by unfold ltE; rw [decide_eq_true_iff, cmpE_neg]
theorem ltE_not {x y : El} : ltE x y = false ↔ ¬ (x.1 < y.1 ∨ x.1 = y.1 ∧ x.2 < y.2) := by rw [← ltE_iff]; simp
theorem swoE : Go.Sort.SWO ltE where
  irrefl x := by rw [ltE_not]; omega
  trans x y z h1 h2 := by rw [ltE_iff] at *; omega
  ntrans x y z h1 h2 := by rw [ltE_not] at *; omega
theorem ltE_tot {x y : El} (h1 : ltE x y = false) (h2 : ltE y x = false) : x = y := by
  rw [ltE_not] at h1 h2
  exact Prod.ext (by omega) (by omega)
def ElRow (E : TypeId) (w : World) (M : Mem mb) (g n cap : Nat) (d : Array El) : Prop := Buf w M E 2 (.slice (some ⟨g, 0, none⟩) n cap) n (els d.toList)
section
variable {E g n cap : Nat} {w w' : World} {M M' : Mem mb} {d : Array El} {S : Nat → Prop}
theorem ElRow.size (h : ElRow E w M g n cap d) : d.size = n := by
  have h1 := h.1.1
  rw [els_length, Array.length_toList] at h1
  omega
theorem ElRow.step (h : ElRow E w M g n cap d) {i : Nat} (k : StepC S i M w M' w') (hb : ¬ S g) : ElRow E w' M' g n cap d := Buf.step h k fun b hb' => by cases hb'; exact hb
theorem ElRow.then (h : ElRow E w M g n cap d) {i : Nat} (k : StepC Nope i M w M' w') : ElRow E w' M' g n cap d := h.step k id
theorem get_bang {d : Array El} {i : Nat} (h : i < d.size) : d.toList[i]? = some d[i]! := by
  rw [List.getElem?_eq_getElem (by simpa using h), getElem!_pos d i h]
  simp
theorem ElRow.elem (h : ElRow E w M g n cap d) {i : Int} (h0 : 0 ≤ i) (h1 : i < n) : cellsAre g (0 + i.toNat * 2) 2 (elc d[i.toNat]!) w := by
  refine ⟨rfl, fun r u hr => ?_⟩
  have hi : i.toNat < d.size := by rw [h.size]; omega
  have := rows_get elc_length (get_bang hi) r u hr
  rw [Nat.add_assoc]
  exact Buf.cell h this
end
section
variable {P : Program} {l : Env} {x y : Operand} {ty t u e : TypeId} {w : World}
theorem two_of' {α : Type} : ∀ {cs : List α}, cs.length = 2 → ∃ a b, cs = [a, b]
  | [a, b], _ => ⟨a, b, rfl⟩
theorem run_eqE {a b : El} (ht : P.underlying t = some (.struct (P.fieldsOf t))) (hp : P.stoodInHeld t = false) (hf : (P.fieldsOf t).toList.map (fun f => (f.name == "_", f.type, f.offset)) = [(false, e, 0), (false, e, 1)]) (he : P.underlying e = some (.int .i64)) (ha : aggOf P e = some none) :
    (Op.equalIn 10000 t (.agg (elc a).toArray) (.agg (elc b).toArray)).run P w = .ok (decide (a = b)) w := by
  rw [run_equalIn_struct w 9999 t _ _ ht hp]
  have hl : (P.fieldsOf t).toList.length = 2 := by have := congrArg List.length hf; simpa using this
  obtain ⟨f0, f1, hfs⟩ := two_of' hl
  rw [hfs] at hf ⊢
  · simp only [List.map_cons, List.map_nil, List.cons.injEq, Prod.mk.injEq, and_true] at hf
    obtain ⟨⟨n0, t0, o0⟩, n1, t1, o1⟩ := hf
    have m0 : f0.name ≠ "_" := by simpa using n0
    have m1 : f1.name ≠ "_" := by simpa using n1
    obtain ⟨a1, a2⟩ := a
    obtain ⟨b1, b2⟩ := b
    have p0 : ∀ (c1 c2 : Int) (w : World), (part e (elc (c1, c2)).toArray 0).run P w = .ok (.int .i64 c1) w := fun c1 c2 w => run_part1 ha rfl
    have p1 : ∀ (c1 c2 : Int) (w : World), (part e (elc (c1, c2)).toArray 1).run P w = .ok (.int .i64 c2) w := fun c1 c2 w => run_part1 ha rfl
    rw [Op.eqFields, if_pos m0, t0, o0]
    simp only [Sem.run_bind, p0, Result.andThen_ok, run_equalIn_int w 9998 e .i64 .i64 a1 b1 he]
    by_cases h1 : a1 = b1
    · subst h1
      simp only [beq_self_eq_true, Bool.not_true, Bool.false_eq_true, if_false]
      rw [Op.eqFields, if_pos m1, t1, o1]
      simp only [Sem.run_bind, p1, Result.andThen_ok, run_equalIn_int w 9998 e .i64 .i64 a2 b2 he]
      by_cases h2 : a2 = b2
      · subst h2
        simp [Op.eqFields]
      · simp [h2]
    · simp [h1]
theorem q_eqE {a b : El} (ht : P.underlying t = some (.struct (P.fieldsOf t))) (hp : P.stoodInHeld t = false) (hm : P.eqGuardType P.depth t = false) (hf : (P.fieldsOf t).toList.map (fun f => (f.name == "_", f.type, f.offset)) = [(false, e, 0), (false, e, 1)]) (he : P.underlying e = some (.int .i64)) (ha : aggOf P e = some none)
    (hx : opv l x = some (.agg (elc a).toArray)) (hy : opv l y = some (.agg (elc b).toArray)) : Quiet P l (.binOp .eql t x y u) ty w (.bool (decide (a = b))) := fun ρ h _ _ _ _ => by
  refine run_v ?_
  rw [h x _ hx, h y _ hy]
  simp only [Sem.run_bind, run_eqGuard_agg w .eql t _ _ _ _ hm, Result.andThen_ok, run_eql_struct w t, run_eqE ht hp hf he ha]
theorem q_neE {a b : El} (ht : P.underlying t = some (.struct (P.fieldsOf t))) (hp : P.stoodInHeld t = false) (hm : P.eqGuardType P.depth t = false) (hf : (P.fieldsOf t).toList.map (fun f => (f.name == "_", f.type, f.offset)) = [(false, e, 0), (false, e, 1)]) (he : P.underlying e = some (.int .i64)) (ha : aggOf P e = some none)
    (hx : opv l x = some (.agg (elc a).toArray)) (hy : opv l y = some (.agg (elc b).toArray)) : Quiet P l (.binOp .neq t x y u) ty w (.bool (!decide (a = b))) := fun ρ h _ _ _ _ => by
  refine run_v ?_
  rw [h x _ hx, h y _ hy]
  simp only [Sem.run_bind, run_eqGuard_agg w .neq t _ _ _ _ hm, Result.andThen_ok, run_neq_struct w t, run_eqE ht hp hf he ha]
end
section
variable {P : Program} {l : Env} {x y : Operand} {ty t u : TypeId} {w : World} {k yk : IntKind} {a b : Int}
end
theorem cw_cutS {c : Cx} {K : Post} {l : Env} {w : World} {x y : Code} (J : Env → World → Prop) (h : CW c x (thn (fun l' w' => ∃ l₀, Sub l₀ l' ∧ J l₀ w') K) l w) (h2 : ∀ l w, J l w → CW c y K l w) : CW c (.seq x y) K l w :=
  cw_cut _ h fun _ w' ⟨l₀, hs, hj⟩ => (h2 l₀ w' hj).sub hs
end Go.Eng
/- Rows of elements, read, and put in order one by one. No conditions. -/
namespace Go.Eng
open Go
variable {mb : Option Nat}

theorem Rd.slice {w : World} {size n : Nat} {v : Value} {cs : List Value} (h : Rd w size v n cs) : ∃ a c, v = .slice a n c ∧ n ≤ c ∧ (a = none → n = 0 ∧ c = 0) := by
  rcases h.2 with ⟨rfl, a, cap, rfl, ha⟩ | ⟨b, o, cap, rfl, hc, _⟩
  · exact ⟨a, cap, rfl, Nat.zero_le _, fun h => ⟨rfl, ha h⟩⟩
  · exact ⟨_, cap, rfl, hc, fun h => (by cases h)⟩
theorem Rd.there {w : World} {size n cap : Nat} {a : Option Addr} {cs : List Value} (h : Rd w size (.slice a n cap) n cs) (hn : 0 < n) : ∃ g o, a = some ⟨g, o, none⟩ := by
  rcases h.2 with ⟨rfl, _⟩ | ⟨b, o, cap, h, hc, _⟩
  · omega
  · cases h; exact ⟨b, o, rfl⟩
theorem Rd.cast {w : World} {size n n' : Nat} {v v' : Value} {cs cs' : List Value} (h : Rd w size v n cs) (hv : v = v') (hn : n = n') (hc : cs = cs') : Rd w size v' n' cs' := by subst hv; subst hn; subst hc; exact h
theorem Rd.sub {w : World} {size n c : Nat} {a : Option Addr} {cs : List Value} (h : Rd w size (.slice a n c) n cs) (i j : Int) (h0 : 0 ≤ i) (hij : i ≤ j) (hj : j ≤ n) :
    Rd w size (.slice (if c = i.toNat then a else a.map (·.add (i.toNat * size))) (j.toNat - i.toNat) (c - i.toNat)) (j.toNat - i.toNat) ((cs.drop (i.toNat * size)).take ((j.toNat - i.toNat) * size)) := by
  have hjn : j.toNat ≤ n := by omega
  have hle : i.toNat ≤ j.toNat := by omega
  obtain ⟨hl, hh⟩ := h
  refine ⟨?_, ?_⟩
  · rw [List.length_take, List.length_drop, hl, ← Nat.sub_mul]
    exact Nat.min_eq_left (Nat.mul_le_mul_right _ (by omega))
  · by_cases he : j.toNat - i.toNat = 0
    · refine .inl ⟨he, _, _, by rw [he], fun hn => ?_⟩
      rcases hh with ⟨rfl, a', cap, h1, h2⟩ | ⟨b, o, cap, h1, h2, _⟩
      · cases h1
        split at hn
        · omega
        · cases a with
          | none => have := h2 rfl; omega
          | some x => cases hn
      · cases h1
        split at hn <;> cases hn
    · rcases hh with ⟨rfl, _⟩ | ⟨b, o, cap, h1, h2, h3⟩
      · omega
      · cases h1
        refine .inr ⟨b, o + i.toNat * size, c - i.toNat, ?_, by omega, fun k u hk => ?_⟩
        · rw [if_neg (by omega)]
          show Value.slice (some (Addr.add ⟨b, o, none⟩ _)) _ _ = _
          rw [Addr.add_lit]
        · rw [List.getElem?_take] at hk
          split at hk
          · rw [List.getElem?_drop] at hk
            rw [Nat.add_assoc]
            exact h3 _ _ hk
          · cases hk
def Rds (M : Mem mb) (w : World) (size : Nat) (v : Value) (n : Nat) (cs : List Value) : Prop := ∀ i M' w', StepC Nope i M w M' w' → Rd w' size v n cs
section
variable {M M' : Mem mb} {w w' : World} {size n : Nat} {v : Value} {cs : List Value}
theorem RdM.rds (h : RdM M size v n cs) (w : World) : Rds M w size v n cs := fun _ _ _ k => (h.mono k.le).rd k.sat
theorem Buf.rds {e : TypeId} (h : Buf w M e size v n cs) : Rds M w size v n cs := fun _ _ _ k => (h.then k).rd
theorem Rds.step {i : Nat} (h : Rds M w size v n cs) (k : StepC Nope i M w M' w') : Rds M' w' size v n cs := fun _ _ _ k2 => h _ _ _ (k.then k2)
theorem Rds.now (h : Rds M w size v n cs) (hs : Sat M w) : Rd w size v n cs := h _ _ _ (Step.refl _ hs)
theorem Rds.len (h : Rds M w size v n cs) (hs : Sat M w) : cs.length = n * size := (h.now hs).1
theorem Rds.slice (h : Rds M w size v n cs) (hs : Sat M w) : ∃ a c, v = .slice a n c ∧ n ≤ c ∧ (a = none → n = 0 ∧ c = 0) := (h.now hs).slice
theorem Rds.cast {n' : Nat} {v' : Value} {cs' : List Value} (h : Rds M w size v n cs) (hv : v = v') (hn : n = n') (hc : cs = cs') : Rds M w size v' n' cs' := by subst hv; subst hn; subst hc; exact h
theorem Rds.sub {c : Nat} {a : Option Addr} (h : Rds M w size (.slice a n c) n cs) (i j : Int) (h0 : 0 ≤ i) (hij : i ≤ j) (hj : j ≤ n) :
    Rds M w size (.slice (if c = i.toNat then a else a.map (·.add (i.toNat * size))) (j.toNat - i.toNat) (c - i.toNat)) (j.toNat - i.toNat) ((cs.drop (i.toNat * size)).take ((j.toNat - i.toNat) * size)) := fun _ _ _ k => (h _ _ _ k).sub i j h0 hij hj
end
theorem els_take (xs : List El) (k : Nat) : (els xs).take (k * 2) = els (xs.take k) := by
  induction xs generalizing k with
  | nil => simp [els]
  | cons x r ih =>
    cases k with
    | zero => simp [els]
    | succ k =>
      rw [show (k + 1) * 2 = k * 2 + 1 + 1 from by omega]
      show (Value.int .i64 x.1 :: .int .i64 x.2 :: els r).take (k * 2 + 1 + 1) = _
      rw [List.take_succ_cons, List.take_succ_cons, ih, List.take_succ_cons]
      rfl
theorem els_drop (xs : List El) (k : Nat) : (els xs).drop (k * 2) = els (xs.drop k) := by
  induction xs generalizing k with
  | nil => simp [els]
  | cons x r ih =>
    cases k with
    | zero => simp [els]
    | succ k =>
      rw [show (k + 1) * 2 = k * 2 + 1 + 1 from by omega]
      show (Value.int .i64 x.1 :: .int .i64 x.2 :: els r).drop (k * 2 + 1 + 1) = _
      rw [List.drop_succ_cons, List.drop_succ_cons, ih, List.drop_succ_cons]
theorem els_cons (x : El) (r : List El) : els (x :: r) = elc x ++ els r := rfl
theorem Rds.front {M : Mem mb} {w : World} {n c : Nat} {a : Option Addr} {xs : List El} (h : Rds M w 2 (.slice a n c) n (els xs)) (j : Int) (h0 : 0 ≤ j) (hj : j ≤ n) :
    Rds M w 2 (.slice (if c = (0 : Int).toNat then a else a.map (·.add ((0 : Int).toNat * 2))) (j.toNat - (0 : Int).toNat) (c - (0 : Int).toNat)) j.toNat (els (xs.take j.toNat)) :=
  (h.sub 0 j (by omega) h0 hj).cast rfl (by simp) (by simp [els_take])
theorem Rd.front {w : World} {n c : Nat} {a : Option Addr} {xs : List El} (h : Rd w 2 (.slice a n c) n (els xs)) (j : Int) (h0 : 0 ≤ j) (hj : j ≤ n) :
    Rd w 2 (.slice (if c = (0 : Int).toNat then a else a.map (·.add ((0 : Int).toNat * 2))) (j.toNat - (0 : Int).toNat) (c - (0 : Int).toNat)) j.toNat (els (xs.take j.toNat)) :=
  (h.sub 0 j (by omega) h0 hj).cast rfl (by simp) (by simp [els_take])
theorem Rd.rest {w : World} {n c : Nat} {a : Option Addr} {xs : List El} (h : Rd w 2 (.slice a n c) n (els xs)) (i : Int) (h0 : 0 ≤ i) (hi : i ≤ n) :
    Rd w 2 (.slice (if c = i.toNat then a else a.map (·.add (i.toNat * 2))) ((n : Int).toNat - i.toNat) (c - i.toNat)) (n - i.toNat) (els (xs.drop i.toNat)) :=
  (h.sub i n h0 hi (Int.le_refl _)).cast rfl (by simp) (by
    rw [els_drop, List.take_of_length_le]
    have := h.1
    rw [els_length] at this ⊢
    rw [List.length_drop]
    omega)
theorem Rd.el {w : World} {n o c g : Nat} {xs : List El} (h : Rd w 2 (.slice (some ⟨g, o, none⟩) n c) n (els xs)) {j : Nat} {e : El} (hj : xs[j]? = some e) : cellsAre g (o + j * 2) 2 (elc e) w := by
  refine ⟨rfl, fun i u hi => ?_⟩
  rw [Nat.add_assoc]
  exact h.cell (rows_get elc_length hj i u hi)
theorem Rds.els_len {M : Mem mb} {w : World} {n : Nat} {v : Value} {xs : List El} (h : Rds M w 2 v n (els xs)) (hs : Sat M w) : xs.length = n := by
  have := h.len hs
  rw [els_length] at this
  omega

def putE (l : List El) (x : El) : List El := l.takeWhile (fun y => ltE y x) ++ x :: l.dropWhile (fun y => ltE y x)
def srtE (xs : List El) : List El := xs.foldl putE []
def OrdE (l : List El) : Prop := l.Pairwise fun x y => ltE y x = false
theorem takeWhile_at {p : El → Bool} : ∀ {xs : List El} {i : Nat}, i ≤ xs.length → (∀ j e, j < i → xs[j]? = some e → p e = true) → (∀ e, xs[i]? = some e → p e = false) → xs.takeWhile p = xs.take i ∧ xs.dropWhile p = xs.drop i
  | [], i, _, _, _ => by simp
  | x :: r, 0, _, _, h2 => by
    have h := h2 x rfl
    simp [h]
  | x :: r, i + 1, hl, h1, h2 => by
    have h := h1 0 x (by omega) rfl
    have ih := takeWhile_at (xs := r) (i := i) (by simpa using hl) (fun j e hj he => h1 (j + 1) e (by omega) he) (fun e he => h2 e he)
    simp [h, ih.1, ih.2]
theorem putE_at {xs : List El} {x : El} {i : Nat} (hl : i ≤ xs.length) (h1 : ∀ j e, j < i → xs[j]? = some e → ltE e x = true) (h2 : ∀ e, xs[i]? = some e → ltE e x = false) : putE xs x = xs.take i ++ x :: xs.drop i := by
  obtain ⟨h3, h4⟩ := takeWhile_at (p := fun y => ltE y x) hl h1 h2
  unfold putE
  rw [h3, h4]
theorem putE_perm (l : List El) (x : El) : (putE l x).Perm (x :: l) := by
  unfold putE
  refine List.perm_middle.trans ?_
  rw [List.takeWhile_append_dropWhile]
theorem foldl_perm : ∀ (xs acc : List El), (xs.foldl putE acc).Perm (xs ++ acc)
  | [], _ => .refl _
  | x :: r, acc => ((foldl_perm r (putE acc x)).trans ((putE_perm acc x).append_left r)).trans List.perm_middle
theorem srtE_perm (xs : List El) : (srtE xs).Perm xs := by simpa [srtE] using foldl_perm xs []
theorem srtE_length (xs : List El) : (srtE xs).length = xs.length := (srtE_perm xs).length_eq
theorem srtE_snoc (xs : List El) (x : El) : srtE (xs ++ [x]) = putE (srtE xs) x := by simp [srtE, List.foldl_append]
theorem putE_ord : ∀ {l : List El} {x : El}, OrdE l → OrdE (putE l x)
  | [], x, _ => by simp [putE, OrdE]
  | a :: r, x, h => by
    obtain ⟨h1, h2⟩ := List.pairwise_cons.1 h
    by_cases hl : ltE a x = true
    · have e : putE (a :: r) x = a :: putE r x := by simp [putE, hl]
      rw [e]
      refine List.pairwise_cons.2 ⟨fun y hy => ?_, putE_ord h2⟩
      rcases List.mem_cons.1 ((putE_perm r x).mem_iff.1 hy) with rfl | hy
      · rw [ltE_iff] at hl; rw [ltE_not]; omega
      · exact h1 y hy
    · have hl : ltE a x = false := by simpa using hl
      have e : putE (a :: r) x = x :: a :: r := by simp [putE, hl]
      rw [e]
      refine List.pairwise_cons.2 ⟨fun y hy => ?_, h⟩
      rcases List.mem_cons.1 hy with rfl | hy
      · exact hl
      · exact swoE.ntrans _ _ _ (h1 y hy) hl
theorem foldl_ord : ∀ (xs acc : List El), OrdE acc → OrdE (xs.foldl putE acc)
  | [], _, h => h
  | x :: r, acc, h => foldl_ord r (putE acc x) (putE_ord h)
theorem srtE_ord (xs : List El) : OrdE (srtE xs) := foldl_ord xs [] .nil
theorem ord_unique {l l' : List El} (hp : l.Perm l') (h : OrdE l) (h' : OrdE l') : l = l' :=
  List.Perm.eq_of_pairwise (fun _ _ _ _ h1 h2 => ltE_tot h2 h1) h h' hp
theorem srtE_eq {xs ys : List El} (hp : ys.Perm xs) (h : OrdE ys) : ys = srtE xs := ord_unique (hp.trans (srtE_perm xs).symm) h (srtE_ord xs)
theorem srtE_congr {xs ys : List El} (h : xs.Perm ys) : srtE xs = srtE ys := srtE_eq ((srtE_perm xs).trans h) (srtE_ord xs)
theorem Buf.cases {w : World} {M : Mem mb} {E n : Nat} {v : Value} {xs : List El} (h : Buf w M E 2 v n (els xs)) : (v = .slice none 0 0 ∧ n = 0 ∧ xs = []) ∨ ∃ g cap, v = .slice (some ⟨g, 0, none⟩) n cap ∧ ElRow E w M g n cap xs.toArray := by
  have h0 := h
  obtain ⟨⟨h1, ⟨rfl, rfl⟩ | ⟨g, cap, cur, rfl, _⟩⟩, _⟩ := h
  · exact .inl ⟨rfl, rfl, List.eq_nil_of_length_eq_zero (by rw [els_length] at h1; omega)⟩
  · exact .inr ⟨g, cap, rfl, h0⟩

theorem els_at {d : Array El} {i : Nat} (hi : i < d.size) : (els d.toList)[i * 2]? = some (.int .i64 d[i]!.1) ∧ (els d.toList)[i * 2 + 1]? = some (.int .i64 d[i]!.2) :=
  ⟨rows_get elc_length (get_bang hi) 0 _ rfl, rows_get elc_length (get_bang hi) 1 _ rfl⟩
theorem ElRow.fst {E g n cap : Nat} {w : World} {M : Mem mb} {d : Array El} (h : ElRow E w M g n cap d) {i : Nat} (hi : i < n) : w.cell? ⟨g, 0 + i * 2 + 0, none⟩ = some (.int .i64 d[i]!.1) := by
  have := Buf.cell h (els_at (by rw [h.size]; exact hi)).1
  exact this
theorem ElRow.snd {E g n cap : Nat} {w : World} {M : Mem mb} {d : Array El} (h : ElRow E w M g n cap d) {i : Nat} (hi : i < n) : w.cell? ⟨g, 0 + i * 2 + 1, none⟩ = some (.int .i64 d[i]!.2) := by
  have := Buf.cell h (els_at (by rw [h.size]; exact hi)).2
  exact this
end Go.Eng
/- Deferred calls, and the library's locks of one goroutine. No conditions. -/
namespace Go.Eng
open Go
variable {mb : Option Nat}
def DoesU (P : Program) (f : FuncId) (args : Array Value) (w : World) (K : Value → World → Prop) : Prop :=
  CallsDIn (fence none) 0 P f args .returning w fun e u' w' => u' = .returning ∧ retP K e w'
theorem DoesU.mono {P : Program} {f : FuncId} {args : Array Value} {w : World} {K K' : Value → World → Prop} (h : DoesU P f args w K) (hk : ∀ v w', K v w' → K' v w') : DoesU P f args w K' :=
  CallsDIn.mono h fun e _ w' ⟨hu, he⟩ => ⟨hu, by cases e <;> first | exact hk _ _ he | exact he⟩
theorem fn_enterU {P : Program} {f : FuncId} {fn : Func} {x : Code} {args : List Value} {w : World} {K : Value → World → Prop} {rs : List ResultVar} {n : Nat} {l : Env}
    (hf : P.funcs[f]? = some fn) (hb : fn.body = some x) (hr : fn.results = rs.toArray) (hn : fn.ntmps = n) (hsz : Nat.ble args.length n = true) (hl : argEnv args 0 = l)
    (h : CW ⟨P, none, n, []⟩ x (fnK P rs K) l w) : DoesU P f args.toArray w K := by
  subst hn
  subst hl
  refine callsDIn_of_wp hf hb trivial ?_
  refine wpIn_mono (h _ ⟨?_, rfl, ?_⟩) ?_
  · have := Nat.le_of_ble_eq_true hsz
    simp
    omega
  · intro t v ht
    obtain ⟨_, h2⟩ := argEnv_look args 0 t v ht
    have hlt := (List.getElem?_eq_some_iff.1 h2).1
    simp only [Nat.sub_zero] at h2 hlt
    rw [Array.getD_eq_getD_getElem?, Array.getElem?_append, if_pos (by simpa using hlt)]
    simp [h2]
  · intro e a w' ⟨h1, h2, l', hfit, hK⟩
    cases e with
    | normal => obtain ⟨vs, hv, hk⟩ := hK; exact ⟨hfit.defers, pack vs, resL_results hr hfit hv, hk⟩
    | ret => obtain ⟨vs, hv, hk⟩ := hK; exact ⟨hfit.defers, pack vs, resL_results hr hfit hv, hk⟩
    | panic ch => exact absurd rfl (h1 ch)
    | outgrown => exact absurd rfl h2
    | exit id => exact (hK : False).elim
    | goto id => exact (hK : False).elim
theorem leave_one {P : Program} {fn : Func} {tmps : Array Value} {K : Value → World → Prop} {f : FuncId} {vs : List Value} {ds : List Deferred} {w : World} (hc : callable P f = true)
    (h : DoesU P f vs.toArray w fun _ w' => LeavesIn (fence none) 0 P fn tmps (retP K) ds .returning w') :
    LeavesIn (fence none) 0 P fn tmps (retP K) (⟨.fn (.func f) #[], vs.toArray⟩ :: ds) .returning w :=
  leavesIn_cons (f := f) (args := vs.toArray) (by simp) (fun h => by simp [fence, Fence.wide] at h) (by simp [invoke, run_callable hc]) (fun _ _ => trivial)
    (CallsDIn.mono h fun e u' w' ⟨hu, he⟩ => by
      subst hu
      cases e with
      | returned v => exact he
      | panicked ch => exact (he : False).elim
      | outgrown => exact (he : False).elim)
def CD (c c2 : Cx) (x : Code) (K : Env → World → Prop) (l : Env) (w : World) : Prop :=
  ∀ a, Fits c l a → x.wpIn (fence c.r) 0 c.P (fun e a' w' => e = .normal ∧ ∃ l', Fits c2 l' a' ∧ K l' w') a w
section
variable {c c1 c2 : Cx} {l : Env} {w : World} {K J : Env → World → Prop}
theorem cd_cw {x : Code} (h : CW c x (nrm K) l w) : CD c c x K l w := fun a ha =>
  wpIn_mono (h a ha) fun e a' w' ⟨_, _, l', hf, hK⟩ => by
    cases e <;> first | exact ⟨rfl, l', hf, hK⟩ | exact (hK : False).elim
theorem cd_seq {x y : Code} (J : Env → World → Prop) (h : CD c c1 x J l w) (hr : c1.r = c.r) (hp : c1.P = c.P) (h2 : ∀ l w, J l w → CD c1 c2 y K l w) : CD c c2 (.seq x y) K l w := fun a ha =>
  wpIn_seq (wpIn_mono (h a ha) fun e a' w' ⟨he, l', hf, hK⟩ => by
    subst he
    have h3 := h2 l' w' hK a' hf
    rw [hr, hp] at h3
    exact h3)
theorem cd_true {x : Operand} {t e : Code} (hc : opv l x = some (.bool true)) (ht : CD c c2 t K l w) : CD c c2 (.cond x t e) K l w := fun a ha => wpIn_cond_true (ha.ev hc) (ht a ha)
def ASD (c c2 : Cx) (ops : Array Oper) (K : Env → World → Prop) (js : List Oper) (l : Env) (w : World) : Prop :=
  ∀ a, Fits c l a → wpListIn (fence c.r) 0 c.P ops (fun e a' w' => e = .normal ∧ ∃ l', Fits c2 l' a' ∧ K l' w') js a w
theorem cd_region {id : Nat} {lops : List Oper} (h : ASD c c2 lops.toArray K lops l w) : CD c c2 (.region id lops.toArray false) K l w := fun a ha => wpIn_region_lit (h a ha)
theorem asd_q {ops : Array Oper} {js : List Oper} {op : Op} {ty : TypeId} {pos : String} {after : Array Edge} {d : Nat} {v : Value} (hlt : Nat.blt d c.n = true) (hd : isDefer op = false) (hq : Quiet c.P l op ty w v) (h : ASD c c2 ops K js ((d, v) :: l) w) :
    ASD c c2 ops K (⟨some d, op, ty, pos, after, none⟩ :: js) l w := fun a ha => by
  show if _ then _ else _
  rw [if_pos (show Region.wanted _ _ = true from rfl)]
  exact (hq.hw (K := fun v' w' => v' = v ∧ w' = w) hd ⟨rfl, rfl⟩) a ha _ _ _ _ _ _ fun v' w' ⟨e1, e2⟩ => by subst e1; subst e2; exact h _ (ha.put hlt _)
theorem asd_defer {ops : Array Oper} {ty : TypeId} {pos : String} {after : Array Edge} {f : FuncId} {xs : List Operand} {ats : Array TypeId} {vs : List Value} (hv : opvs l xs = some vs) (hr : c.r = none) (hc : c2 = { c with D := ⟨.fn (.func f) #[], vs.toArray⟩ :: c.D }) (hk : K l w) :
    ASD c c2 ops K [⟨none, .defer ⟨.value (.func f), xs.toArray, ats⟩, ty, pos, after, none⟩] l w := fun a ha => by
  subst hc
  show if _ then _ else _
  rw [if_pos (show Region.wanted _ _ = true from rfl)]
  have e : xs.toArray.map a.eval = vs.toArray := by rw [List.map_toArray, opvs_map (fun x u hu => ha.ev hu) xs vs hv]
  refine ⟨fun _ _ => trivial, ?_⟩
  have hs : (Oper.semAt (fence c.r).round a.eval ⟨none, .defer ⟨.value (.func f), xs.toArray, ats⟩, ty, pos, after, none⟩).run c.P w = .ok (.defer ⟨.fn (.func f) #[], vs.toArray⟩) w := by
    rw [show (fence c.r).round = none from hr]
    simp [Oper.semAt, execOp, resolve, e, show a.eval (.func f) = .func (.func f) #[] #[] from rfl, Deferred.ofValue]
  rw [hs]
  exact ⟨rfl, l, ⟨ha.size, by show _ :: a.defers = _; rw [ha.defers], ha.vals⟩, hk⟩
end
theorem fn_enterD {P : Program} {f : FuncId} {fn : Func} {x : Code} {args : List Value} {w : World} {K : Value → World → Prop} {J : Env → World → Prop} {n : Nat} {l : Env} (D : List Deferred)
    (hf : P.funcs[f]? = some fn) (hb : fn.body = some x) (hn : fn.ntmps = n) (hsz : Nat.ble args.length n = true) (hl : argEnv args 0 = l)
    (h : CD ⟨P, none, n, []⟩ ⟨P, none, n, D⟩ x J l w) (hk : ∀ l w tmps, J l w → LeavesIn (fence none) 0 P fn tmps (retP K) D .returning w) : Does P f args.toArray w K := by
  subst hn
  subst hl
  refine callsIn_of_wp_defers hf hb trivial ?_
  refine wpIn_mono (h _ ⟨?_, rfl, ?_⟩) ?_
  · have := Nat.le_of_ble_eq_true hsz
    simp
    omega
  · intro t v ht
    obtain ⟨_, h2⟩ := argEnv_look args 0 t v ht
    have hlt := (List.getElem?_eq_some_iff.1 h2).1
    simp only [Nat.sub_zero] at h2 hlt
    rw [Array.getD_eq_getD_getElem?, Array.getElem?_append, if_pos (by simpa using hlt)]
    simp [h2]
  · intro e a w' ⟨he, l', hfit, hJ⟩
    subst he
    show LeavesIn _ _ _ _ a.tmps _ a.defers _ _
    rw [hfit.defers]
    exact hk _ _ _ hJ
section
variable {P : Program} {l : Env} {ty : TypeId} {w : World}
theorem q_unsafe {x : Operand} {s d t : TypeId} {a : Addr} {v : Value} (hs : P.underlying s = some (.pointer t)) (hd : P.underlying d = some .unsafePointer) (hsz : (P.info? t).map (fun i => decide (i.size = 0)) = some false) (hx : opv l x = some (.pointer (some a))) (hc : w.cell? a = some v) :
    Quiet P l (.convert s d x) ty w (.pointer (some a)) := fun ρ h _ _ _ _ => by
  refine run_v ?_
  rw [h x _ hx]
  exact run_convert_to_unsafe hs hd hsz hc
end
theorem Own.at {w : World} {M : Mem mb} {b T o : Nat} {cs : List Value} {v : Value} (h : Own w M b cs T) (hc : cs[o]? = some v) : w.cell? ⟨b, o, none⟩ = some v := h.1.cell (by rw [nth_eq]; exact hc)
theorem Own.put {w : World} {M : Mem mb} {b T : Nat} {cs : List Value} (h : Own w M b cs T) (o : Nat) (v : Value) : Own (w.setCell ⟨b, o, none⟩ v) M b (cs.set o v) T := ⟨h.1.set o v, h.2⟩
theorem h_externO {c : Cx} {l : Env} {ty : TypeId} {K : Value → World → Prop} {w : World} {M : Mem mb} {b T o : Nat} {cs : List Value} {f : FuncId} {xs : List Operand} {ats : Array TypeId} {vs : List Value} {v u : Value} (hs : Sat M w) (ho : Own w M b cs T) (ha : opvs l xs = some vs)
    (h : (callFunc f vs.toArray).run c.P w = .ok (.value v) (w.setCell ⟨b, o, none⟩ u)) (hk : ∀ w', Step (Just b) M w M w' → Own w' M b (cs.set o u) T → K v w') :
    HW c l (.call ⟨.value (.func f), xs.toArray, ats⟩) ty w K :=
  h_extern ha h (hk _ (Step.set hs ho.2 o u) (ho.put o u))
section
variable {c c2 : Cx} {l : Env} {w : World} {K : Env → World → Prop}
theorem cd_seqK {x y : Code} {D : List Deferred} (h : ∀ K' : Env → World → Prop, (∀ l w, CD { c with D := D } c2 y K l w → K' l w) → CD c { c with D := D } x K' l w) : CD c c2 (.seq x y) K l w :=
  cd_seq (fun l w => CD { c with D := D } c2 y K l w) (h _ fun _ _ h => h) rfl rfl fun _ _ h => h
end
theorem Buf.front {w : World} {M : Mem mb} {E n c : Nat} {a : Option Addr} {xs : List El} (h : Buf w M E 2 (.slice a n c) n (els xs)) {j : Int} (h0 : 0 ≤ j) (hj : j ≤ n) :
    Buf w M E 2 (.slice (if c = (0 : Int).toNat then a else a.map (·.add ((0 : Int).toNat * 2))) (j.toNat - (0 : Int).toNat) (c - (0 : Int).toNat)) j.toNat (els (xs.take j.toNat)) ∧
      (Value.slice (if c = (0 : Int).toNat then a else a.map (·.add ((0 : Int).toNat * 2))) (j.toNat - (0 : Int).toNat) (c - (0 : Int).toNat)).ownBlock = (Value.slice a n c).ownBlock := by
  have e0 : (if c = (0 : Int).toNat then a else a.map (·.add ((0 : Int).toNat * 2))) = a := by
    split
    · rfl
    · cases a with
      | none => rfl
      | some x => simp [Addr.add]
  rw [e0, show j.toNat - (0 : Int).toNat = j.toNat from by simp, show c - (0 : Int).toNat = c from by simp]
  refine ⟨?_, by cases a <;> rfl⟩
  obtain ⟨⟨h1, h2⟩, h3⟩ := h
  have hl : xs.length = n := by rw [els_length] at h1; omega
  refine ⟨⟨by rw [els_length, List.length_take]; omega, ?_⟩, fun g hg => h3 g (by cases a <;> exact hg)⟩
  rcases h2 with ⟨h2, rfl⟩ | ⟨g, cap, cur, hv, hb, hh, hnc, hcm, hsz, htk⟩
  · cases h2
    exact .inl ⟨by rw [show j.toNat = 0 from by omega], by omega⟩
  · cases hv
    refine .inr ⟨g, c, cur, rfl, hb, hh, by omega, hcm, hsz, ?_⟩
    rw [← els_take, ← htk, List.take_take, Nat.min_eq_left (by omega)]
end Go.Eng
/- Ranges over functions: a round, the statement, the mark that it leaves; what an interface holds. No conditions. -/
namespace Go.Eng
open Go
variable {mb : Option Nat}
def Yields (P : Program) (r : Nat) (args : List Value) (w : World) (K : Value → World → Prop) : Prop :=
  ∃ fn tmps assign body, (Instr.yield r args.toArray).run P w = .ok (.round r fn tmps assign body) w ∧ RoundIn (fence none) 0 P r fn tmps assign body w (retP K)
theorem h_yield {c : Cx} {l : Env} {ty : TypeId} {w : World} {K : Value → World → Prop} {x : Operand} {r : Nat} {xs : List Operand} {ats : Array TypeId} {vs : List Value} (hx : opv l x = some (.func (.yield r) #[] #[])) (ha : opvs l xs = some vs) (h : Yields c.P r vs w K) :
    HW c l (.call ⟨.value x, xs.toArray, ats⟩) ty w K := fun a hf dst pos after guard next Q hn => by
  obtain ⟨fn, tmps, assign, body, hy, hr⟩ := h
  refine ⟨fun _ _ => trivial, ?_⟩
  rw [semAt_of (o := ⟨dst, .call ⟨.value x, xs.toArray, ats⟩, ty, pos, after, guard⟩) rfl]
  have e : (execOp a.eval ⟨dst, .call ⟨.value x, xs.toArray, ats⟩, ty, pos, after, guard⟩).run c.P w = .ok (.round r fn tmps assign body) w := by
    have e : xs.toArray.map a.eval = vs.toArray := by rw [List.map_toArray, opvs_map (fun x u hu => hf.ev hu) xs vs ha]
    simp only [execOp, resolve, e, hf.ev hx, Deferred.ofValue]
    simp [invoke, hy]
  rw [e, Oper.uponIn_round]
  refine ⟨fun h => by simp [fence, Fence.wide] at h, ?_⟩
  have hr' : RoundIn (fence c.r) (0 - 1) c.P r fn tmps assign body w (retP K) := hr
  exact RoundIn.mono hr' fun e w'' he => by cases e <;> first | exact hn _ _ he | exact he.elim
def mk (D : Nat) : Deferred := ⟨.collected D, #[]⟩
def CM (c : Cx) (x : Code) (B : Nat) (K : Post) (l : Env) (w : World) : Prop :=
  ∀ a, Fits c l a → x.wpIn (fence c.r) 0 c.P (fun e a' w' => (∀ ch, e ≠ .panic ch) ∧ e ≠ .outgrown ∧ ∃ D l', B ≤ D ∧ Fits { c with D := [mk D] } l' a' ∧ w'.heap[D]? = some (.deferred (some [])) ∧ K e l' w') a w
section
variable {c : Cx} {K : Post} {l : Env} {w : World} {B : Nat}
theorem cm_seq {x y : Code} (h : ∀ K' : Env → World → Prop, (∀ l w, CM c y B K l w → K' l w) → CW c x (nrm K') l w) : CM c (.seq x y) B K l w := fun a ha =>
  wpIn_seq (wpIn_mono (h (fun l w => CM c y B K l w) (fun _ _ h => h) a ha) fun e a' w' ⟨_, _, l', hf, hK⟩ => by
    cases e <;> first | exact hK a' hf | exact (hK : False).elim)
theorem cm_seqM {x y : Code} (h : CM c x B (nrm fun l w => ∀ D, B ≤ D → w.heap[D]? = some (.deferred (some [])) → CW { c with D := [mk D] } y (fun e l' w' => w'.heap[D]? = some (.deferred (some [])) ∧ K e l' w') l w) l w) : CM c (.seq x y) B K l w := fun a ha =>
  wpIn_seq (wpIn_mono (h a ha) fun e a' w' hh => by
    obtain ⟨_, _, D, l', hB, hf, hD, hK⟩ := hh
    cases e <;> first | exact (hK : False).elim | skip
    have h2 := hK D hB hD a' hf
    exact wpIn_mono (show y.wpIn (fence c.r) 0 c.P (lift { c with D := [mk D] } (fun e l' w' => w'.heap[D]? = some (.deferred (some [])) ∧ K e l' w')) _ _ from h2) fun e a' w' hh => by
      obtain ⟨h1, h2, l', hf, h3, h4⟩ := hh
      exact ⟨h1, h2, D, l', hB, hf, h3, h4⟩)
theorem cm_block {id : Nat} {x : Code} (h : CM c x B (blk id K) l w) : CM c (.block id x) B K l w := fun a ha =>
  wpIn_block (wpIn_mono (h a ha) fun e a' w' ⟨h1, h2, D, l', hB, hf, hD, hK⟩ => by
    cases e with
    | normal => exact ⟨h1, h2, D, l', hB, hf, hD, hK⟩
    | exit j =>
      simp only [Exit.inBlock]
      simp only [blk] at hK
      split
      · rename_i hj
        subst hj
        rw [Nat.beq_refl, cond_true] at hK
        exact ⟨by simp, by simp, D, l', hB, hf, hD, hK⟩
      · rename_i hj
        have hb : Nat.beq j id = false := by
          cases hb : Nat.beq j id with
          | false => rfl
          | true => exact absurd (Nat.eq_of_beq_eq_true hb) hj
        rw [hb, cond_false] at hK
        exact ⟨by simp, by simp, D, l', hB, hf, hD, hK⟩
    | goto id => exact ⟨h1, h2, D, l', hB, hf, hD, hK⟩
    | ret => exact ⟨h1, h2, D, l', hB, hf, hD, hK⟩
    | panic ch => exact absurd rfl (h1 ch)
    | outgrown => exact absurd rfl h2)
end
def IterP (P : Program) (gf : FuncId) (lb : List Value) (S : Nat → Prop) (n : Nat) (ok : Nat → Value → Prop) (M : Mem mb) (w : World) : Prop :=
  ∀ (r : Nat) (J : Nat → Mem mb → World → Prop) (M0 : Mem mb) (W0 : World), Step (fun k => ¬ S k) M w M0 W0 → w.heap.size + 2 ≤ W0.heap.size →
    (∀ i M' W' M'' W'', J i M' W' → Step S M' W' M'' W'' → J i M'' W'') →
    (∀ i v M' W', ok i v → J i M' W' → Sat M' W' → Le M0 M' → Yields P r [v] W' fun b W'' => b = .bool true ∧ ∃ M'', Step (fun k => ¬ S k) M' W' M'' W'' ∧ J (i + 1) M'' W'') →
    J 0 M0 W0 → Does P gf (.func (.yield r) #[] #[] :: lb).toArray W0 fun _ W' => ∃ M', Sat M' W' ∧ Le M0 M' ∧ J n M' W'
def IterG (P : Program) (gf : FuncId) (lb : List Value) (S : Nat → Prop) (n : Nat) (ok : Nat → Value → Prop) (Z : Nat → Prop) (F : Mem mb → Mem mb → Prop) (M : Mem mb) (w : World) : Prop :=
  ∀ (r : Nat) (J : Nat → Mem mb → World → Prop) (M0 : Mem mb) (W0 : World), Step (fun k => ¬ S k) M w M0 W0 → w.heap.size + 2 ≤ W0.heap.size →
    (∀ i c M' W' M'' W'', Z c → J i M' W' → StepC S c M' W' M'' W'' → J i M'' W'') →
    (∀ i v M' W', ok i v → J i M' W' → Sat M' W' → Le M0 M' → Yields P r [v] W' fun b W'' => b = .bool true ∧ ∃ M'', Step (fun k => ¬ S k) M' W' M'' W'' ∧ J (i + 1) M'' W'') →
    J 0 M0 W0 → Does P gf (.func (.yield r) #[] #[] :: lb).toArray W0 fun _ W' => ∃ M', Sat M' W' ∧ Le M0 M' ∧ F M0 M' ∧ J n M' W'
theorem IterP.g {P : Program} {gf : FuncId} {lb : List Value} {S : Nat → Prop} {n : Nat} {ok : Nat → Value → Prop} {M : Mem mb} {w : World} (h : IterP P gf lb S n ok M w) : IterG P gf lb S n ok (fun c => c = 0) (fun _ _ => True) M w :=
  fun r J M0 W0 h0 hW hab hround hJ => (h r J M0 W0 h0 hW (fun i M' W' M'' W'' hj k => hab i 0 M' W' M'' W'' rfl hj k) hround hJ).mono fun _ _ ⟨M', a, b, c⟩ => ⟨M', a, b, trivial, c⟩
def IterOk (P : Program) (gf : FuncId) (lb : List Value) (S : Nat → Prop) (vs : List Value) (M : Mem mb) (w : World) : Prop := IterP P gf lb S vs.length (fun i v => vs[i]? = some v) M w
theorem Sat.same {M : Mem mb} {w w' : World} (h : Sat M w) (hh : ∀ b, (M b ≠ none ∨ mb = some b) → w'.heap[b]? = w.heap[b]?) : Sat M w' := ⟨fun b cs e hb => (h.blk b cs e hb).same (hh b (.inl (by rw [hb]; simp))), h.mtr.same (fun _ hb => h.off hb) fun b hb => hh b (.inr hb)⟩
theorem Sat.not_mtr {M : Mem mb} {w : World} (h : Sat M w) {b : Nat} {o : Obj} (ho : w.heap[b]? = some o) (hc : ∀ c e f, o ≠ .cells c e f) : mb ≠ some b := fun e => by
  obtain ⟨_, x, y, t, h2, _⟩ := h.mtr b e
  have h2 : w.heap[b]? = some (.cells _ _ _) := h2
  rw [ho] at h2
  exact hc _ _ _ (Option.some.inj h2)
theorem Sat.none_of {M : Mem mb} {w : World} (h : Sat M w) {b : Nat} {o : Obj} (ho : w.heap[b]? = some o) (hc : ∀ c e f, o ≠ .cells c e f) : M b = none := by
  cases hm : M b with
  | none => rfl
  | some x =>
    obtain ⟨fr, hb⟩ := h.blk b x.1 x.2 hm
    rw [ho] at hb
    exact absurd (Option.some.inj hb) (hc _ _ _)
theorem Step.putObj {M : Mem mb} {w : World} (h : Sat M w) {b : Nat} {o : Obj} (ho : w.heap[b]? = some o) (hc : ∀ c e f, o ≠ .cells c e f) (o' : Obj) : Step (Just b) M w M (w.putObj b o') where
  le := Le.refl _
  sat := h.same fun k hk => World.putObj_heap_other fun e => by
    subst e
    rcases hk with hk | hk
    · exact hk (h.none_of ho hc)
    · exact h.not_mtr ho hc hk
  fresh := fun c x h0 h1 => by rw [h0] at h1; cases h1
  kept' := fun k _ hn _ => World.putObj_heap_other hn
  size := by simp
  os := rfl
  output := rfl
  tape := rfl
  cnt := rfl
  still := fun _ k _ hn => World.putObj_heap_other hn
theorem zip1 (p : Tmp) (v : Value) (t : Array Value) : ((#[p] : Array Tmp).zip [v].toArray).foldl (fun t (x : Tmp × Value) => t.setIfInBounds x.1 x.2) t = t.setIfInBounds p v := by
  simp
theorem cm_rangeG {c : Cx} {K : Post} {l : Env} {w : World} {B : Nat} {M : Mem mb} {g : Operand} {p : Nat} {assign body : Code} {gf : FuncId} {lb : List Value} {S : Nat → Prop} {N : Nat} {ok : Nat → Value → Prop} {Z : Nat → Prop} {F : Mem mb → Mem mb → Prop} (hZ : Z 0)
    (hr : c.r = none) (hD : c.D = []) (hg : opv l g = some (.func (.func gf) #[] lb.toArray)) (hcal : callable c.P gf = true) (hp : Nat.blt p c.n = true) (hs : Sat M w) (hB : B ≤ w.heap.size)
    (hit : IterG c.P gf lb S N ok Z F M w) (hS : ∀ k, S k → k ≠ w.heap.size ∧ k ≠ w.heap.size + 1) (I : Nat → Mem mb → World → Prop) (J2 : Nat → Value → Env → Mem mb → World → Prop)
    (hI : ∀ i c M' W' M'' W'', Z c → I i M' W' → StepC (fun k => S k ∨ k = w.heap.size ∨ k = w.heap.size + 1) c M' W' M'' W'' → I i M'' W'') (h0 : I 0 M w)
    (hI2 : ∀ i v la M' W' M'' W'', J2 i v la M' W' → Step (fun k => S k ∨ k = w.heap.size ∨ k = w.heap.size + 1) M' W' M'' W'' → J2 i v la M'' W'')
    (hassign : ∀ i v r M' W', ok i v → I i M' W' → Sat M' W' → Le M M' → w.heap.size + 1 < W'.heap.size →
      CW ⟨c.P, some r, c.n, []⟩ assign (nrm fun l1 W1 => ∃ la M1, Sub la l1 ∧ Step Nope M' W' M1 W1 ∧ J2 i v la M1 W1) ((p, v) :: l) W')
    (hbody : ∀ i v la r M' W', ok i v → J2 i v la M' W' → Sat M' W' → Le M M' → w.heap.size + 1 < W'.heap.size →
      CW ⟨c.P, some r, c.n, []⟩ body (nrm fun _ W2 => ∃ M2, Step (fun k => ¬ S k ∧ k ≠ w.heap.size ∧ k ≠ w.heap.size + 1) M' W' M2 W2 ∧ I (i + 1) M2 W2) la W')
    (hdone : ∀ M' W', Sat M' W' → Le M M' → F M M' → I N M' W' → K .normal l W') :
    CM c (.rangeFunc g #[p] assign body) B K l w := fun a ha => by
  obtain ⟨P, r0, n, D0⟩ := c
  simp only at hr hD
  subst hr; subst hD
  refine wpIn_rangeFunc fun fn hfn => ?_
  obtain ⟨rec, hrec⟩ : ∃ rec : LoopState → Option Code → Loop, rec = fun st pe => { state := st, pending := pe, fn, tmps := a.tmps, params := #[p], assign, body, defers := w.heap.size } := ⟨_, rfl⟩
  obtain ⟨W1, hW1⟩ : ∃ W1, (w.alloc (.deferred (some []))).alloc (.loop (rec .ready none)) = W1 := ⟨_, rfl⟩
  have hL1 : W1.heap[w.heap.size + 1]? = some (.loop (rec .ready none)) := by
    rw [← hW1]; have := World.alloc_heap_new (w.alloc (.deferred (some []))) (.loop (rec .ready none)); rwa [World.size_alloc] at this
  have hK1 : W1.heap[w.heap.size]? = some (.deferred (some [])) := by
    rw [← hW1, heap_alloc_at _ _ _ (by simp)]; exact World.alloc_heap_new w _
  have hst : Step Nope M w M W1 := by
    rw [← hW1]; exact (Step.alloc hs _).also (Step.alloc (hs.alloc _) _)
  refine ⟨w.heap.size + 1, [mk w.heap.size], W1, { target := .fn (.func gf) lb.toArray, args := #[.func (.yield (w.heap.size + 1)) #[] #[]] }, W1, gf,
    #[.func (.yield (w.heap.size + 1)) #[] #[]] ++ lb.toArray, W1, ?_, ?_, ?_, ?_, fun h => by simp [fence, Fence.wide] at h, ?_⟩
  · rw [← hW1, hrec]; exact run_enterLoop_outer _ _ _ _ _
  · simp only [resolve, ha.ev hg]
    simp [go_sem]
  · intro f' _; trivial
  · have eg : ∀ args w, (callFunc gf args).run P w = .ok (.enter gf args) w := fun _ _ => run_callable hcal _ _
    simp [invoke, go_sem, eg]
  have hd := hit (w.heap.size + 1) (fun i M' W' => (I i M' W' ∧ W'.heap[w.heap.size + 1]? = some (.loop (rec .ready none)) ∧ W'.heap[w.heap.size]? = some (.deferred (some []))) ∧ Le M M') M W1 (hst.any _) (by rw [← hW1]; simp)
    (fun i c M' W' M'' W'' hz ⟨⟨h1, h2, h3⟩, h4⟩ k => ⟨⟨hI _ _ _ _ _ _ hz h1 (k.wide fun _ _ h => .inl h), (k.kept' _ (Array.getElem?_eq_some_iff.1 h2).1 (fun h => (hS _ h).2 rfl) (fun e => by have := hs.mtr.lt e; omega)).trans h2, (k.kept' _ (Array.getElem?_eq_some_iff.1 h3).1 (fun h => (hS _ h).1 rfl) (fun e => by have := hs.mtr.lt e; omega)).trans h3⟩, h4.trans k.le⟩)
    ?_ ⟨⟨hI _ _ _ _ _ _ hZ h0 (hst.any _), hL1, hK1⟩, Le.refl _⟩
  · have e : (Value.func (.yield (w.heap.size + 1)) #[] #[] :: lb).toArray = #[.func (.yield (w.heap.size + 1)) #[] #[]] ++ lb.toArray := by simp
    rw [e] at hd
    refine CallsIn.mono (show CallsIn (fence none) (0 - 1) P gf _ W1 _ from hd) fun e W' he => ?_
    cases e with
    | panicked ch => exact (he : False).elim
    | outgrown => exact (he : False).elim
    | returned v =>
      obtain ⟨M', hs', hle, hF, ⟨hi, hl, hk⟩, _⟩ := he
      have hrun : (Instr.endLoop (w.heap.size + 1)).run P W' = .ok none (W'.putObj (w.heap.size + 1) (.loop (rec .exhausted none))) := by
        have h := run_endLoop (P := P) hl (by rw [hrec]; simp)
        subst hrec; exact h
      have hk2 := Step.putObj hs' hl (by simp) (.loop (rec .exhausted none))
      refine ⟨none, _, hrun, ?_⟩
      have hD2 : (W'.putObj (w.heap.size + 1) (.loop (rec .exhausted none))).heap[w.heap.size]? = some (.deferred (some [])) := (World.putObj_heap_other (by omega)).trans hk
      have hfit : Fits ⟨P, none, n, [mk w.heap.size]⟩ l { a with defers := [mk w.heap.size] ++ a.defers } := ⟨ha.size, by rw [ha.defers]; rfl, ha.vals⟩
      exact ⟨by simp, by simp, w.heap.size, l, hB, hfit, hD2, hdone M' _ hk2.sat hle hF (hI _ _ _ _ _ _ hZ hi (hk2.wide fun k _ h => .inr (.inr h)))⟩
  · rintro i v M' W' hv ⟨⟨hi, hl, hk⟩, hle⟩ hs' _
    have hlt : w.heap.size + 1 < W'.heap.size := (Array.getElem?_eq_some_iff.1 hl).1
    have hy := run_yield (P := P) (args := [v].toArray) hl (by rw [hrec]; rfl)
    rw [hrec] at hy
    refine ⟨fn, _, assign, body, hy, roundIn_of_wpIn (F := fence none) trivial ?_⟩
    have hfit : Fits ⟨P, some (w.heap.size + 1), n, []⟩ ((p, v) :: l) { tmps := ((#[p] : Array Tmp).zip [v].toArray).foldl (fun t (p, v) => t.setIfInBounds p v) a.tmps, defers := [] } := by
      rw [zip1]
      exact Fits.put (c := ⟨P, some (w.heap.size + 1), n, []⟩) (l := l) (a := { tmps := a.tmps, defers := [] }) ⟨ha.size, rfl, ha.vals⟩ (d := p) hp v
    have h2 := hassign i v (w.heap.size + 1) M' W' hv hi hs' hle hlt _ hfit
    refine wpIn_mono (show assign.wpIn ((fence none).inRound (w.heap.size + 1)) 0 P _ _ _ from h2) fun e a1 w1 ⟨_, _, l1, hf1, hK1⟩ => ?_
    cases e <;> try exact (hK1 : False).elim
    obtain ⟨la, M1, hsub, hk1, hj⟩ := hK1
    have hl1 : w1.heap[w.heap.size + 1]? = some (.loop (rec .ready none)) := (hk1.kept _ hlt id).trans hl
    have hk1' : w1.heap[w.heap.size]? = some (.deferred (some [])) := (hk1.kept _ (by omega) id).trans hk
    have hlt1 : w.heap.size + 1 < w1.heap.size := Nat.lt_of_lt_of_le hlt hk1.size
    refine ⟨_, run_beginRound hl1 (by rw [hrec]), ?_⟩
    obtain ⟨W2, hW2⟩ : ∃ W2, w1.putObj (w.heap.size + 1) (.loop { rec .ready none with state := .busy }) = W2 := ⟨_, rfl⟩
    have hk2 : Step (Just (w.heap.size + 1)) M1 w1 M1 W2 := by rw [← hW2]; exact Step.putObj hk1.sat hl1 (by simp) _
    have hl2 : W2.heap[w.heap.size + 1]? = some (.loop { rec .ready none with state := .busy }) := by rw [← hW2]; exact World.putObj_heap_same hlt1
    have hk3 : W2.heap[w.heap.size]? = some (.deferred (some [])) := by rw [← hW2]; exact (World.putObj_heap_other (by omega)).trans hk1'
    have hb := hbody i v la (w.heap.size + 1) M1 W2 hv (hI2 _ _ _ _ _ _ _ hj (hk2.wide fun k _ h => .inr (.inr h))) hk2.sat (hle.trans hk1.le) (Nat.lt_of_lt_of_le hlt1 hk2.size) a1 (hf1.sub hsub)
    rw [hW2]
    refine wpIn_mono (show body.wpIn ((fence none).inRound (w.heap.size + 1)) 0 P _ _ _ from hb) fun e a3 w3 ⟨_, _, l3, hf3, hK3⟩ => ?_
    cases e <;> try exact (hK3 : False).elim
    obtain ⟨M3, hk4, hi3⟩ := hK3
    have hl4 : w3.heap[w.heap.size + 1]? = some (.loop { rec .ready none with state := .busy }) := (hk4.kept _ (Array.getElem?_eq_some_iff.1 hl2).1 fun h => h.2.2 rfl).trans hl2
    have hk5 : w3.heap[w.heap.size]? = some (.deferred (some [])) := (hk4.kept _ (Array.getElem?_eq_some_iff.1 hk3).1 fun h => h.2.1 rfl).trans hk3
    have hrun : (Instr.endRound (w.heap.size + 1) none).run P w3 = .ok (.bool true) (w3.putObj (w.heap.size + 1) (.loop (rec .ready none))) := by
      have h := run_endRound (P := P) none hl4
      subst hrec; exact h
    have hk6 := Step.putObj hk4.sat hl4 (by simp) (.loop (rec .ready none))
    refine ⟨.bool true, _, hrun, rfl, M3, ?_, ⟨hI _ _ _ _ _ _ hZ hi3 (hk6.wide fun k _ h => .inr (.inr h)), World.putObj_heap_same (Array.getElem?_eq_some_iff.1 hl4).1, (World.putObj_heap_other (by omega)).trans hk5⟩, (hle.trans hk1.le).trans hk4.le⟩
    have k0 : Step (fun k => ¬ S k) M' W' M1 w1 := hk1.any _
    have k1 : Step (fun k => ¬ S k) M1 w1 M1 W2 := hk2.wide fun k _ h hs => (hS _ hs).2 h
    have k2 : Step (fun k => ¬ S k) M1 W2 M3 w3 := hk4.wide fun k _ h => h.1
    have k3 : Step (fun k => ¬ S k) M3 w3 M3 _ := hk6.wide fun k _ h hs => (hS _ hs).2 h
    exact ((k0.also k1).also k2).also k3
theorem cm_rangeP {c : Cx} {K : Post} {l : Env} {w : World} {B : Nat} {M : Mem mb} {g : Operand} {p : Nat} {assign body : Code} {gf : FuncId} {lb : List Value} {S : Nat → Prop} {N : Nat} {ok : Nat → Value → Prop}
    (hr : c.r = none) (hD : c.D = []) (hg : opv l g = some (.func (.func gf) #[] lb.toArray)) (hcal : callable c.P gf = true) (hp : Nat.blt p c.n = true) (hs : Sat M w) (hB : B ≤ w.heap.size)
    (hit : IterP c.P gf lb S N ok M w) (hS : ∀ k, S k → k ≠ w.heap.size ∧ k ≠ w.heap.size + 1) (I : Nat → Mem mb → World → Prop) (J2 : Nat → Value → Env → Mem mb → World → Prop)
    (hI : ∀ i M' W' M'' W'', I i M' W' → Step (fun k => S k ∨ k = w.heap.size ∨ k = w.heap.size + 1) M' W' M'' W'' → I i M'' W'') (h0 : I 0 M w)
    (hI2 : ∀ i v la M' W' M'' W'', J2 i v la M' W' → Step (fun k => S k ∨ k = w.heap.size ∨ k = w.heap.size + 1) M' W' M'' W'' → J2 i v la M'' W'')
    (hassign : ∀ i v r M' W', ok i v → I i M' W' → Sat M' W' → Le M M' → w.heap.size + 1 < W'.heap.size →
      CW ⟨c.P, some r, c.n, []⟩ assign (nrm fun l1 W1 => ∃ la M1, Sub la l1 ∧ Step Nope M' W' M1 W1 ∧ J2 i v la M1 W1) ((p, v) :: l) W')
    (hbody : ∀ i v la r M' W', ok i v → J2 i v la M' W' → Sat M' W' → Le M M' → w.heap.size + 1 < W'.heap.size →
      CW ⟨c.P, some r, c.n, []⟩ body (nrm fun _ W2 => ∃ M2, Step (fun k => ¬ S k ∧ k ≠ w.heap.size ∧ k ≠ w.heap.size + 1) M' W' M2 W2 ∧ I (i + 1) M2 W2) la W')
    (hdone : ∀ M' W', Sat M' W' → Le M M' → I N M' W' → K .normal l W') :
    CM c (.rangeFunc g #[p] assign body) B K l w :=
  cm_rangeG (Z := fun c => c = 0) (F := fun _ _ => True) rfl hr hD hg hcal hp hs hB hit.g hS I J2 (fun i c M' W' M'' W'' hc h k => hI i M' W' M'' W'' h (by subst hc; exact k)) h0 hI2 hassign hbody (fun M' W' h1 h2 _ h3 => hdone M' W' h1 h2 h3)
theorem cm_rangeC {c : Cx} {K : Post} {l : Env} {w : World} {B : Nat} {M : Mem mb} {g : Operand} {p : Nat} {assign body : Code} {gf : FuncId} {lb : List Value} {S : Nat → Prop} {vs : List Value}
    (hr : c.r = none) (hD : c.D = []) (hg : opv l g = some (.func (.func gf) #[] lb.toArray)) (hcal : callable c.P gf = true) (hp : Nat.blt p c.n = true) (hs : Sat M w) (hB : B ≤ w.heap.size)
    (hit : IterOk c.P gf lb S vs M w) (hS : ∀ k, S k → k ≠ w.heap.size ∧ k ≠ w.heap.size + 1) (I : Nat → Mem mb → World → Prop) (J2 : Nat → Value → Env → Mem mb → World → Prop)
    (hI : ∀ i M' W' M'' W'', I i M' W' → Step (fun k => S k ∨ k = w.heap.size ∨ k = w.heap.size + 1) M' W' M'' W'' → I i M'' W'') (h0 : I 0 M w)
    (hI2 : ∀ i v la M' W' M'' W'', J2 i v la M' W' → Step (fun k => S k ∨ k = w.heap.size ∨ k = w.heap.size + 1) M' W' M'' W'' → J2 i v la M'' W'')
    (hassign : ∀ i v r M' W', vs[i]? = some v → I i M' W' → Sat M' W' → Le M M' → w.heap.size + 1 < W'.heap.size →
      CW ⟨c.P, some r, c.n, []⟩ assign (nrm fun l1 W1 => ∃ la M1, Sub la l1 ∧ Step Nope M' W' M1 W1 ∧ J2 i v la M1 W1) ((p, v) :: l) W')
    (hbody : ∀ i v la r M' W', vs[i]? = some v → J2 i v la M' W' → Sat M' W' → Le M M' → w.heap.size + 1 < W'.heap.size →
      CW ⟨c.P, some r, c.n, []⟩ body (nrm fun _ W2 => ∃ M2, Step (fun k => ¬ S k ∧ k ≠ w.heap.size ∧ k ≠ w.heap.size + 1) M' W' M2 W2 ∧ I (i + 1) M2 W2) la W')
    (hdone : ∀ M' W', Sat M' W' → Le M M' → I vs.length M' W' → K .normal l W') :
    CM c (.rangeFunc g #[p] assign body) B K l w :=
  cm_rangeP (N := vs.length) (ok := fun i v => vs[i]? = some v) hr hD hg hcal hp hs hB hit hS I J2 hI h0 hI2 hassign hbody hdone
theorem resT {P : Program} {w w' : World} : ∀ {rs : List ResultVar} {l : Env} {vs : List Value}, (rs.all fun | .tmp _ => true | _ => false) = true → ResL P l w rs vs → ResL P l w' rs vs
  | [], _, _, _, h => h
  | .tmp t :: r, l, vs, ha, ⟨v, us, h1, h2, h3⟩ => ⟨v, us, h1, h2, resT (by simpa using ha) h3⟩
  | .cell a T :: r, l, vs, ha, _ => by simp at ha
theorem fn_enterM {P : Program} {f : FuncId} {fn : Func} {x : Code} {args : List Value} {w : World} {K K' : Value → World → Prop} {rs : List ResultVar} {n : Nat} {l : Env}
    (hf : P.funcs[f]? = some fn) (hb : fn.body = some x) (hr : fn.results = rs.toArray) (hn : fn.ntmps = n) (hsz : Nat.ble args.length n = true) (hl : argEnv args 0 = l)
    (h : CM ⟨P, none, n, []⟩ x w.heap.size (fnK P rs K') l w) (hres : ∀ vs l' w' D, w.heap.size ≤ D → w'.heap[D]? = some (.deferred (some [])) → ResL P l' w' rs vs → ResL P l' (w'.putObj D (.deferred none)) rs vs)
    (hk : ∀ v w' D, w.heap.size ≤ D → w'.heap[D]? = some (.deferred (some [])) → K' v w' → K v (w'.putObj D (.deferred none))) : Does P f args.toArray w K := by
  subst hn
  subst hl
  refine callsIn_of_wp_marks hf hb trivial ?_
  refine wpIn_mono (h _ ⟨?_, rfl, ?_⟩) ?_
  · have := Nat.le_of_ble_eq_true hsz
    simp
    omega
  · intro t v ht
    obtain ⟨_, h2⟩ := argEnv_look args 0 t v ht
    have hlt := (List.getElem?_eq_some_iff.1 h2).1
    simp only [Nat.sub_zero] at h2 hlt
    rw [Array.getD_eq_getD_getElem?, Array.getElem?_append, if_pos (by simpa using hlt)]
    simp [h2]
  · intro e a w' ⟨h1, h2, D, l', hB, hfit, hD, hK⟩
    have go : (∃ vs, ResL P l' w' rs vs ∧ K' (pack vs) w') → LeavesInM (fence none) 0 P fn a.tmps (retP K) a.defers .returning w' := fun ⟨vs, hv, hk'⟩ => by
      rw [hfit.defers]
      refine ⟨by simp, .inl ⟨D, _, rfl, run_takeDeferred hD, ?_⟩⟩
      exact ⟨pack vs, resL_results hr hfit (hres vs l' w' D hB hD hv), hk _ _ _ hB hD hk'⟩
    cases e with
    | normal => exact go hK
    | ret => exact go hK
    | panic ch => exact absurd rfl (h1 ch)
    | outgrown => exact absurd rfl h2
    | exit id => exact (hK : False).elim
    | goto id => exact (hK : False).elim
section
variable {P : Program} {l : Env} {ty : TypeId} {w : World}
def notIface (P : Program) (t : TypeId) : Bool := match P.underlying t with
  | some (.interface _) => false
  | some _ => true
  | none => false
theorem run_under {P : Program} {t : TypeId} (h : notIface P t = true) (w : World) : ∃ d, (underlying t).run P w = .ok d w ∧ ∀ m, d ≠ .interface m := by
  unfold notIface at h
  cases hu : P.underlying t with
  | none => rw [hu] at h; cases h
  | some d => exact ⟨d, run_underlying hu w, fun m hm => by rw [hu, hm] at h; cases h⟩
theorem q_isNil {x : Operand} {s t : TypeId} {r : Value} (ht : notIface P t = true) (hz : zeroOf P t = some r) (hx : opv l x = some .nilIface) :
    Quiet P l (.typeAssert x s t true) ty w (.tuple #[r, .bool false]) := fun ρ h _ _ _ _ => by
  refine run_v ?_
  rw [h x _ hx]
  obtain ⟨d, hd, hm⟩ := run_under ht w
  simp only [Instr.typeAssert, Sem.run_bind, hd, Result.andThen_ok]
  cases d <;> first | exact absurd rfl (hm _) | simp [run_zeroOf hz]
end
end Go.Eng
/- Heaps as plain values: leftist heaps; how they lie in memory. No conditions. -/
namespace Go.Eng
open Go
inductive Lft where
  | nil
  | node (x : El) (l r : Lft)
def Lft.rank : Lft → Nat
  | .nil => 0
  | .node _ _ r => r.rank + 1
def Lft.size : Lft → Nat
  | .nil => 0
  | .node _ l r => 1 + l.size + r.size
theorem Lft.rank_le : ∀ t : Lft, t.rank ≤ t.size
  | .nil => Nat.le_refl _
  | .node _ l r => by have := Lft.rank_le r; simp only [Lft.rank, Lft.size]; omega
def Lft.mk (x : El) (a b : Lft) : Lft := if a.rank < b.rank then .node x b a else .node x a b
theorem Lft.mk_size (x : El) (a b : Lft) : (Lft.mk x a b).size = 1 + a.size + b.size := by
  unfold Lft.mk
  split <;> simp only [Lft.size] <;> omega
def Lft.meld : Lft → Lft → Lft
  | .nil, o => o
  | .node x l r, .nil => .node x l r
  | .node x l r, .node y l' r' => if ltE y x then Lft.mk y l' (Lft.meld r' (.node x l r)) else Lft.mk x l (Lft.meld r (.node y l' r'))
termination_by a b => a.size + b.size
decreasing_by
  all_goals simp only [Lft.size]; omega
def Lft.insert (x : El) (t : Lft) : Lft := (Lft.mk x .nil .nil).meld t
theorem Lft.meld_size (a b : Lft) : (Lft.meld a b).size = a.size + b.size := by
  fun_induction Lft.meld a b <;> simp_all only [Lft.size, Lft.mk_size] <;> omega
def LRep (T : TypeId) (M : Raw) : Lft → Value → Prop
  | .nil, v => v = .pointer none
  | .node x l r, v => ∃ b pl pr, v = .pointer (some ⟨b, 0, none⟩) ∧
      M b = some ([.int .i64 x.1, .int .i64 x.2, pl, pr, .int .i64 ((r.rank : Int) + 1), .int .i64 (1 + (l.size : Int) + (r.size : Int))], T) ∧ LRep T M l pl ∧ LRep T M r pr
theorem LRep.mono {T : TypeId} {M M' : Raw} (k : Le M M') : ∀ {t : Lft} {v : Value}, LRep T M t v → LRep T M' t v
  | .nil, _, h => h
  | .node _ _ _, _, ⟨b, pl, pr, h1, h2, h3, h4⟩ => ⟨b, pl, pr, h1, k _ _ h2, h3.mono k, h4.mono k⟩
theorem LRep.ptr {T : TypeId} {M : Raw} : ∀ {t : Lft} {v : Value}, LRep T M t v → ∃ q, v = .pointer q
  | .nil, _, h => ⟨none, h⟩
  | .node _ _ _, _, ⟨_, _, _, h1, _⟩ => ⟨_, h1⟩

def CRep (T : TypeId) (M : Raw) : List (Option Addr) → Value → Prop
  | [], v => v = .pointer none
  | x :: r, v => ∃ b q, v = .pointer (some ⟨b, 0, none⟩) ∧ M b = some ([.pointer x, .pointer q, .int .i64 ((r.length : Int) + 1)], T) ∧ CRep T M r (.pointer q)
theorem CRep.mono {T : TypeId} {M M' : Raw} (k : Le M M') : ∀ {t : List (Option Addr)} {v : Value}, CRep T M t v → CRep T M' t v
  | [], _, h => h
  | _ :: _, _, ⟨b, q, h1, h2, h3⟩ => ⟨b, q, h1, k _ _ h2, h3.mono k⟩
theorem CRep.ptr {T : TypeId} {M : Raw} : ∀ {t : List (Option Addr)} {v : Value}, CRep T M t v → ∃ q, v = .pointer q
  | [], _, h => ⟨none, h⟩
  | _ :: _, _, ⟨_, _, h1, _⟩ => ⟨_, h1⟩
def ptrs (vs : List (Option Addr)) : List Value := vs.map .pointer
theorem ptrs_length (vs : List (Option Addr)) : (ptrs vs).length = vs.length := List.length_map ..
theorem ptrs_one (vs : List (Option Addr)) : ∀ x ∈ ptrs vs, x.oneCell' = true := fun x h => by
  obtain ⟨q, _, rfl⟩ := List.mem_map.1 h
  rfl
theorem ptrs_take {vs : List (Option Addr)} {i : Nat} {x : Option Addr} (h : vs[i]? = some x) : ptrs (vs.take i) ++ [.pointer x] = ptrs (vs.take (i + 1)) := by
  rw [List.take_add_one, h]
  simp [ptrs]
end Go.Eng
/- Trees of things, as plain values; how they lie in memory. No conditions. -/
namespace Go.Eng
open Go
inductive RT (α : Type) where
  | node (x : α) (bs : List α) (ks : List (RT α))
namespace RT
variable {α : Type}
def root : RT α → α
  | .node x _ _ => x
def beside : RT α → List α
  | .node _ bs _ => bs
def kids : RT α → List (RT α)
  | .node _ _ ks => ks
def rank (t : RT α) : Nat := t.kids.length
mutual
def size : RT α → Nat
  | .node _ bs ks => 1 + bs.length + sizes ks
def sizes : List (RT α) → Nat
  | [] => 0
  | k :: r => size k + sizes r
end
theorem size_pos : ∀ t : RT α, 1 ≤ t.size
  | .node _ _ _ => by simp only [size]; omega
theorem sizes_length : ∀ l : List (RT α), l.length ≤ sizes l
  | [] => Nat.le_refl _
  | k :: r => by have := sizes_length r; have := k.size_pos; simp only [List.length_cons, sizes]; omega
theorem sizes_append (l r : List (RT α)) : sizes (l ++ r) = sizes l + sizes r := by
  induction l with
  | nil => simp [sizes]
  | cons k l ih => simp only [List.cons_append, sizes, ih]; omega
theorem sizes_take {l : List (RT α)} {i : Nat} {k : RT α} (h : l[i]? = some k) : sizes (l.take (i + 1)) = sizes (l.take i) + k.size := by
  rw [List.take_add_one, h, sizes_append]
  simp [sizes]
theorem sizes_take_le (l : List (RT α)) (i : Nat) : sizes (l.take i) ≤ sizes l := by
  have h := sizes_append (l.take i) (l.drop i)
  rw [List.take_append_drop] at h
  omega
theorem sizes_cons (k : RT α) (r : List (RT α)) : sizes (k :: r) = k.size + sizes r := rfl
def leaf (x : α) : RT α := .node x [] []
def link (lt : α → α → Bool) (a b : RT α) : RT α := if lt b.root a.root then .node b.root b.beside (a :: b.kids) else .node a.root a.beside (b :: a.kids)
def skew (lt : α → α → Bool) (x : α) (a b : RT α) : RT α :=
  if lt (link lt a b).root x then .node (link lt a b).root (x :: (link lt a b).beside) (link lt a b).kids else .node x ((link lt a b).root :: (link lt a b).beside) (link lt a b).kids
theorem size_eq (t : RT α) : t.size = 1 + t.beside.length + sizes t.kids := by cases t; rfl
theorem link_size (lt : α → α → Bool) (a b : RT α) : (link lt a b).size = a.size + b.size := by
  have h1 := a.size_eq
  have h2 := b.size_eq
  unfold link
  split <;> simp only [size, sizes] <;> omega
theorem skew_size (lt : α → α → Bool) (x : α) (a b : RT α) : (skew lt x a b).size = 1 + a.size + b.size := by
  have h1 := (link lt a b).size_eq
  have h2 := link_size lt a b
  unfold skew
  split <;> simp only [size, List.length_cons] <;> omega
end RT
abbrev Enc (α : Type) := Raw → α → List Value → Prop
def EncL {α : Type} (enc : Enc α) (sz : Nat) (M : Raw) : List α → List Value → Prop
  | [], cs => cs = []
  | x :: r, cs => ∃ c d, cs = c ++ d ∧ c.length = sz ∧ enc M x c ∧ EncL enc sz M r d
def Enc.Mono {α : Type} (enc : Enc α) : Prop := ∀ (M M' : Raw) (x : α) (c : List Value), Le M M' → enc M x c → enc M' x c
theorem EncL.mono {α : Type} {enc : Enc α} (he : enc.Mono) {sz : Nat} {M M' : Raw} (k : Le M M') : ∀ {l : List α} {cs : List Value}, EncL enc sz M l cs → EncL enc sz M' l cs
  | [], _, h => h
  | _ :: _, _, ⟨c, d, h1, h2, h3, h4⟩ => ⟨c, d, h1, h2, he _ _ _ _ k h3, EncL.mono he k h4⟩
theorem EncL.length {α : Type} {enc : Enc α} {sz : Nat} {M : Raw} : ∀ {l : List α} {cs : List Value}, EncL enc sz M l cs → cs.length = l.length * sz
  | [], _, h => by cases h; simp
  | _ :: _, _, ⟨c, d, h1, h2, _, h4⟩ => by rw [h1, List.length_append, h2, EncL.length h4, List.length_cons, Nat.add_mul]; omega
theorem EncL.get {α : Type} {enc : Enc α} {sz : Nat} {M : Raw} : ∀ {l : List α} {cs : List Value} {i : Nat} {x : α}, EncL enc sz M l cs → l[i]? = some x → ∃ c, c.length = sz ∧ enc M x c ∧ ∀ j u, c[j]? = some u → cs[i * sz + j]? = some u
  | _ :: _, _, 0, _, ⟨c, d, h1, h2, h3, _⟩, h => by
    cases h
    exact ⟨c, h2, h3, fun j u hj => by
      rw [h1, Nat.zero_mul, Nat.zero_add, List.getElem?_append_left (List.getElem?_eq_some_iff.1 hj).1]; exact hj⟩
  | _ :: _, _, i + 1, _, ⟨c, d, h1, h2, _, h4⟩, h => by
    obtain ⟨c', h5, h6, h7⟩ := EncL.get h4 (by simpa using h)
    exact ⟨c', h5, h6, fun j u hj => by
      rw [h1, show (i + 1) * sz + j = c.length + (i * sz + j) from by rw [h2, Nat.add_mul]; omega, List.getElem?_append_right (by omega), Nat.add_sub_cancel_left]
      exact h7 j u hj⟩
section
variable {α : Type}
mutual
def TRep (T : TypeId) (sz : Nat) (enc : Enc α) (M : Raw) : RT α → Option Addr → Prop
  | .node x bs ks, q => ∃ b xc bv bc kv ka, q = some ⟨b, 0, none⟩ ∧ M b = some (.int .i64 (ks.length : Int) :: (xc ++ [bv, kv, .int .i64 ((1 + bs.length + RT.sizes ks : Nat) : Int)]), T) ∧
      enc M x xc ∧ xc.length = sz ∧ RdM M sz bv bs.length bc ∧ EncL enc sz M bs bc ∧ RdM M 1 kv ks.length (ptrs ka) ∧ TReps T sz enc M ks ka
def TReps (T : TypeId) (sz : Nat) (enc : Enc α) (M : Raw) : List (RT α) → List (Option Addr) → Prop
  | [], l => l = []
  | k :: r, l => ∃ a s, l = a :: s ∧ TRep T sz enc M k a ∧ TReps T sz enc M r s
end
variable {T : TypeId} {sz : Nat} {enc : Enc α} {M M' : Raw}
theorem trep_node {x : α} {bs : List α} {ks : List (RT α)} {q : Option Addr} : TRep T sz enc M (.node x bs ks) q ↔ ∃ b xc bv bc kv ka, q = some ⟨b, 0, none⟩ ∧ M b = some (.int .i64 (ks.length : Int) :: (xc ++ [bv, kv, .int .i64 ((1 + bs.length + RT.sizes ks : Nat) : Int)]), T) ∧
      enc M x xc ∧ xc.length = sz ∧ RdM M sz bv bs.length bc ∧ EncL enc sz M bs bc ∧ RdM M 1 kv ks.length (ptrs ka) ∧ TReps T sz enc M ks ka := by
  conv => lhs; unfold TRep
theorem treps_nil {l : List (Option Addr)} : TReps T sz enc M ([] : List (RT α)) l ↔ l = [] := by unfold TReps; rfl
theorem treps_cons {k : RT α} {r : List (RT α)} {l : List (Option Addr)} : TReps T sz enc M (k :: r) l ↔ ∃ a s, l = a :: s ∧ TRep T sz enc M k a ∧ TReps T sz enc M r s := by
  conv => lhs; unfold TReps
mutual
theorem TRep.mono' (he : enc.Mono) (k : Le M M') : ∀ {t : RT α} {q : Option Addr}, TRep T sz enc M t q → TRep T sz enc M' t q
  | .node _ _ _, _, h => by
    obtain ⟨b, xc, bv, bc, kv, ka, h1, h2, h3, h0, h4, h5, h6, h7⟩ := trep_node.1 h
    exact trep_node.2 ⟨b, xc, bv, bc, kv, ka, h1, k _ _ h2, he _ _ _ _ k h3, h0, h4.mono k, h5.mono he k, h6.mono k, TReps.mono' he k h7⟩
theorem TReps.mono' (he : enc.Mono) (k : Le M M') : ∀ {t : List (RT α)} {q : List (Option Addr)}, TReps T sz enc M t q → TReps T sz enc M' t q
  | [], _, h => treps_nil.2 (treps_nil.1 h)
  | _ :: _, _, h => by
    obtain ⟨a, s, h1, h2, h3⟩ := treps_cons.1 h
    exact treps_cons.2 ⟨a, s, h1, TRep.mono' he k h2, TReps.mono' he k h3⟩
end
theorem TReps.length : ∀ {t : List (RT α)} {l : List (Option Addr)}, TReps T sz enc M t l → l.length = t.length
  | [], _, h => by rw [treps_nil.1 h]; rfl
  | _ :: _, _, h => by obtain ⟨a, s, rfl, _, h3⟩ := treps_cons.1 h; simp [TReps.length h3]
theorem TReps.get : ∀ {t : List (RT α)} {l : List (Option Addr)} {i : Nat} {k : RT α}, TReps T sz enc M t l → t[i]? = some k → ∃ a, l[i]? = some a ∧ TRep T sz enc M k a
  | _ :: _, _, 0, _, h, hi => by cases hi; obtain ⟨a, s, rfl, h2, _⟩ := treps_cons.1 h; exact ⟨a, rfl, h2⟩
  | _ :: _, _, i + 1, _, h, hi => by
    obtain ⟨a, s, rfl, _, h3⟩ := treps_cons.1 h
    obtain ⟨c, h4, h5⟩ := TReps.get (i := i) h3 (by simpa using hi)
    exact ⟨c, by simpa using h4, h5⟩
theorem TRep.some : ∀ {t : RT α} {q : Option Addr}, TRep T sz enc M t q → ∃ b, q = .some ⟨b, 0, none⟩
  | .node _ _ _, _, h => by obtain ⟨b, _, _, _, _, _, h1, _⟩ := trep_node.1 h; exact ⟨b, h1⟩
end
theorem nth_app {xs : List Value} {a b c : Value} {r : Value} : nth (r :: (xs ++ [a, b, c])) (xs.length + 3) = some c := by
  rw [nth_eq]
  simp
theorem trep_size {α : Type} {T : TypeId} {sz : Nat} {enc : Enc α} {M : Raw} : ∀ {t : RT α} {q : Option Addr}, TRep T sz enc M t q → ∃ c, q = .some ⟨c, 0, none⟩ ∧ cellM M c (sz + 3) = .some (.int .i64 (t.size : Int))
  | .node _ _ _, _, h => by
    obtain ⟨b, xc, bv, bc, kv, ka, h1, h2, _, h0, _⟩ := trep_node.1 h
    refine ⟨b, h1, ?_⟩
    unfold cellM
    rw [h2, Option.bind_some, ← h0, nth_app, RT.size]
theorem own_freeze {mb : Option Nat} {i : Nat} {S : Nat → Prop} {M M' : Mem mb} {w w' : World} {b : Nat} {cs : List Value} {T : TypeId} (h : StepC S i M w M' w') (ho : Own w' M' b cs T) (hb : w.heap.size ≤ b) : (M'.ins b cs T) b = .some (cs, T) ∧ StepC S i M w (M'.ins b cs T) w' := ⟨Mem.ins_same _ _ _ _, h.freeze ho hb⟩
theorem rdm_nil (M : Raw) (sz : Nat) : RdM M sz (.slice none 0 0) 0 [] := ⟨by simp, .inl ⟨rfl, none, 0, rfl, fun _ => rfl⟩⟩
def EncE : Enc El := fun _ x cs => cs = elc x
theorem EncE.mono : EncE.Mono := fun _ _ _ _ _ h => h
theorem encE_list {M : Raw} : ∀ {l : List El} {cs : List Value}, EncL EncE 2 M l cs ↔ cs = els l
  | [], cs => by simp [EncL, els]
  | x :: r, cs => by
    constructor
    · rintro ⟨c, d, h1, _, h3, h4⟩
      rw [h1, show c = elc x from h3, encE_list.1 h4, els_cons]
    · rintro rfl
      exact ⟨elc x, els r, els_cons x r, rfl, rfl, encE_list.2 rfl⟩
end Go.Eng
/- A scope of labels that nobody jumps to. No conditions. -/
namespace Go.Eng
open Go
section
variable {P : Program} {b : Frame} {a : Act} {k : List Item} {cs : List Frame} {w : World}
theorem stepR_scope' {x : Code} : step P (lone (b.atR a (.code (.scope x) :: k)) cs w) = .next (lone (b.atR a (.code x :: .inScope x :: k)) cs w) :=
  step_lone_go (by simp [stepG, stepG.exec, Frame.atR])
theorem stepR_inScope' {x : Code} : step P (lone (b.atR a (.inScope x :: k)) cs w) = .next (lone (b.atR a k) cs w) :=
  step_lone_go (by simp [stepG, stepG.exec, Frame.atR])
end
def ng (K : Post) : Post
  | .goto _ => fun _ _ => False
  | e => K e
theorem cw_scope {c : Cx} {x : Code} {K : Post} {l : Env} {w : World} (h : CW c x (ng K) l w) : CW c (.scope x) K l w := fun a ha => by
  intro b k cs hro hb hr
  obtain ⟨e, a₁, w₁, ⟨h1, h2, l', hf, hK⟩, harr⟩ := h a ha b (.inScope x :: k) cs hro hb hr
  cases e with
  | normal => exact ⟨.normal, a₁, w₁, ⟨h1, h2, l', hf, hK⟩, StepsIn.trans (.one (fenced_calm hb hr rfl) stepR_scope') (StepsIn.trans harr (.one (fenced_calm hb hr rfl) stepR_inScope'))⟩
  | exit id =>
    have he : exitTo id (.inScope x :: k) = exitTo id k := by simp [exitTo]
    exact ⟨_, a₁, w₁, ⟨h1, h2, l', hf, hK⟩, .of_steps (.one (fenced_calm hb hr rfl) stepR_scope') ⟨fun k' hk => harr.1 k' (by rw [he]; exact hk), fun hr hk => harr.2 hr (by rw [he]; exact hk)⟩⟩
  | goto t => exact (hK : False).elim
  | ret =>
    have hh : ArrivesIn (Machine.fenced c.P (fence c.r)) c.P (lone (b.atR a (.code x :: .inScope x :: k)) cs w) b k cs .ret a₁ w₁ := harr
    exact ⟨_, a₁, w₁, ⟨h1, h2, l', hf, hK⟩, .of_steps (.one (fenced_calm hb hr rfl) stepR_scope') hh⟩
  | panic ch => exact absurd rfl (h1 ch)
  | outgrown => exact absurd rfl h2
theorem q_isT {P : Program} {l : Env} {ty : TypeId} {w : World} {x : Operand} {s t : TypeId} {v : Value} (ht : notIface P t = true) (hx : opv l x = some (.iface t v)) :
    Quiet P l (.typeAssert x s t true) ty w (.tuple #[v, .bool true]) := fun ρ h _ _ _ _ => by
  refine run_v ?_
  rw [h x _ hx]
  obtain ⟨d, hd, hm⟩ := run_under ht w
  simp only [Instr.typeAssert, Sem.run_bind, hd, Result.andThen_ok]
  cases d <;> first | exact absurd rfl (hm _) | simp
theorem q_isF {P : Program} {l : Env} {ty : TypeId} {w : World} {x : Operand} {s t u : TypeId} {v r : Value} (ht : notIface P t = true) (hz : zeroOf P t = some r) (hx : opv l x = some (.iface u v)) (hne : Nat.beq u t = false) :
    Quiet P l (.typeAssert x s t true) ty w (.tuple #[r, .bool false]) := fun ρ h _ _ _ _ => by
  have hu : ¬ u = t := fun e => by subst e; rw [Nat.beq_refl] at hne; cases hne
  refine run_v ?_
  rw [h x _ hx]
  obtain ⟨d, hd, hm⟩ := run_under ht w
  simp only [Instr.typeAssert, Sem.run_bind, hd, Result.andThen_ok]
  cases d <;> first | exact absurd rfl (hm _) | simp [hu, run_zeroOf hz]
end Go.Eng
/- Rows of trees, as plain values: binomial heaps, skew binomial heaps; how they lie in memory. No conditions. -/
namespace Go.Eng
open Go
section
variable {α : Type}
def FRep (C T : TypeId) (sz : Nat) (enc : Enc α) (M : Raw) (ts : List (RT α)) (q : Option Addr) : Prop := ∃ l, CRep C M l (.pointer q) ∧ TReps T sz enc M ts l
variable {C T : TypeId} {sz : Nat} {enc : Enc α} {M M' : Raw}
theorem FRep.mono' (he : enc.Mono) (k : Le M M') {ts : List (RT α)} {q : Option Addr} (h : FRep C T sz enc M ts q) : FRep C T sz enc M' ts q := by
  obtain ⟨l, h1, h2⟩ := h
  exact ⟨l, h1.mono k, TReps.mono' he k h2⟩
theorem frep_nil {q : Option Addr} : FRep C T sz enc M ([] : List (RT α)) q ↔ q = none := by
  constructor
  · rintro ⟨l, h1, h2⟩
    rw [treps_nil] at h2
    subst h2
    have h : Value.pointer q = .pointer none := h1
    cases h; rfl
  · rintro rfl
    exact ⟨[], rfl, treps_nil.2 rfl⟩
theorem FRep.len {ts : List (RT α)} {q : Option Addr} (h : FRep C T sz enc M ts q) : ∃ l, CRep C M l (.pointer q) ∧ TReps T sz enc M ts l ∧ l.length = ts.length ∧ ts.length ≤ RT.sizes ts := by
  obtain ⟨l, h1, h2⟩ := h
  exact ⟨l, h1, h2, h2.length, RT.sizes_length ts⟩
def bput (lt : α → α → Bool) (t : RT α) : List (RT α) → List (RT α)
  | [] => [t]
  | f :: r => if t.rank < f.rank then t :: f :: r else bput lt (RT.link lt t f) r
theorem bput_size (lt : α → α → Bool) : ∀ (l : List (RT α)) (t : RT α), RT.sizes (bput lt t l) = t.size + RT.sizes l
  | [], t => by simp [bput, RT.sizes]
  | f :: r, t => by
    unfold bput
    split
    · simp [RT.sizes]
    · rw [bput_size lt r, RT.link_size]; simp only [RT.sizes]; omega
def bmeld (lt : α → α → Bool) : List (RT α) → List (RT α) → List (RT α)
  | [], b => b
  | f :: a, [] => f :: a
  | f :: a, g :: b => if f.rank < g.rank then f :: bmeld lt a (g :: b) else if g.rank < f.rank then g :: bmeld lt (f :: a) b else bput lt (RT.link lt f g) (bmeld lt a b)
termination_by a b => a.length + b.length
decreasing_by all_goals simp only [List.length_cons]; omega
theorem bmeld_size (lt : α → α → Bool) (a b : List (RT α)) : RT.sizes (bmeld lt a b) = RT.sizes a + RT.sizes b := by
  fun_induction bmeld lt a b <;> simp_all only [RT.sizes, bput_size, RT.link_size] <;> omega
def leastN (lt : α → α → Bool) (xs : List α) : Nat → Nat
  | 0 => 0
  | i + 1 => match xs[i + 1]?, xs[leastN lt xs i]? with
    | some a, some b => if lt a b then i + 1 else leastN lt xs i
    | _, _ => leastN lt xs i
theorem leastN_le (lt : α → α → Bool) (xs : List α) : ∀ i, leastN lt xs i ≤ i
  | 0 => Nat.le_refl _
  | i + 1 => by
    have := leastN_le lt xs i
    unfold leastN
    split
    · split <;> omega
    · omega
theorem leastN_step {lt : α → α → Bool} {xs : List α} {i : Nat} {a b : α} (ha : xs[i + 1]? = some a) (hb : xs[leastN lt xs i]? = some b) : leastN lt xs (i + 1) = if lt a b then i + 1 else leastN lt xs i := by
  rw [leastN, ha, hb]
def sinsert (lt : α → α → Bool) (x : α) : List (RT α) → List (RT α)
  | a :: b :: r => if a.rank = b.rank then RT.skew lt x a b :: r else RT.leaf x :: a :: b :: r
  | l => RT.leaf x :: l
theorem leaf_size (x : α) : (RT.leaf x).size = 1 := by simp [RT.leaf, RT.size, RT.sizes]
theorem sinsert_size (lt : α → α → Bool) (x : α) (l : List (RT α)) : RT.sizes (sinsert lt x l) = 1 + RT.sizes l := by
  unfold sinsert
  split
  · split <;> simp only [RT.sizes, RT.skew_size, leaf_size] <;> omega
  · simp only [RT.sizes, leaf_size]
def slevel (lt : α → α → Bool) : List (RT α) → List (RT α)
  | [] => []
  | t :: l => bput lt t l
def smeld (lt : α → α → Bool) (a b : List (RT α)) : List (RT α) := bmeld lt (slevel lt a) (slevel lt b)
theorem slevel_size (lt : α → α → Bool) : ∀ l : List (RT α), RT.sizes (slevel lt l) = RT.sizes l
  | [] => rfl
  | t :: l => by rw [slevel, bput_size]; simp [RT.sizes]
end
section
variable {mb : Option Nat} {α : Type} {T : TypeId} {sz : Nat} {enc : Enc α} {M M' : Mem mb} {w w' : World}
def SRow (T : TypeId) (sz : Nat) (enc : Enc α) (M : Mem mb) (w : World) (ts : List (RT α)) (v : Value) : Prop :=
  ∃ sa sc l, v = .slice sa ts.length sc ∧ Rds M w 1 (.slice sa ts.length sc) ts.length (ptrs l) ∧ TReps T sz enc M ts l
theorem srow_nil (M : Mem mb) (w : World) (sa : Option Addr) (sc : Nat) (ha : sa = none → sc = 0) : SRow T sz enc M w ([] : List (RT α)) (.slice sa 0 sc) :=
  ⟨sa, sc, [], rfl, fun _ _ _ _ => ⟨rfl, .inl ⟨rfl, sa, sc, rfl, ha⟩⟩, treps_nil.2 rfl⟩
theorem Rds.tail {n c : Nat} {a : Option Addr} {x : Option Addr} {l : List (Option Addr)} (h : Rds M w 1 (.slice a (n + 1) c) (n + 1) (ptrs (x :: l))) (hl : l.length = n) :
    Rds M w 1 (.slice (if c = 1 then a else a.map (·.add 1)) n (c - 1)) n (ptrs l) :=
  (h.sub 1 ((n + 1 : Nat) : Int) (by omega) (by omega) (by omega)).cast rfl (by simp) (by
    show ((ptrs l).take _) = ptrs l
    exact List.take_of_length_le (by rw [ptrs_length]; simp; omega))
end
inductive Ro where
  | nil
  | node (x : El) (ts : List (RT El))
def Ro.size : Ro → Nat
  | .nil => 0
  | .node _ ts => 1 + RT.sizes ts
def Ro.insert (x : El) : Ro → Ro
  | .nil => .node x []
  | .node r ts => if ltE x r then .node x (sinsert ltE r ts) else .node r (sinsert ltE x ts)
def Ro.meld : Ro → Ro → Ro
  | .nil, o => o
  | .node r ts, .nil => .node r ts
  | .node r ts, .node s us => if ltE s r then .node s (sinsert ltE r (smeld ltE ts us)) else .node r (sinsert ltE s (smeld ltE ts us))
def RoRep (T C D : TypeId) (M : Raw) : Ro → Option Addr → Prop
  | .nil, q => q = none
  | .node x ts, q => ∃ b qs, q = some ⟨b, 0, none⟩ ∧ M b = some ([.pointer qs, .int .i64 x.1, .int .i64 x.2], T) ∧ FRep C D 2 EncE M ts qs
theorem RoRep.mono {T C D : TypeId} {M M' : Raw} (k : Le M M') : ∀ {t : Ro} {q : Option Addr}, RoRep T C D M t q → RoRep T C D M' t q
  | .nil, _, h => h
  | .node _ _, _, ⟨b, qs, h1, h2, h3⟩ => ⟨b, qs, h1, k _ _ h2, h3.mono' EncE.mono k⟩
theorem smeld_size {α : Type} (lt : α → α → Bool) (a b : List (RT α)) : RT.sizes (smeld lt a b) = RT.sizes a + RT.sizes b := by
  unfold smeld
  rw [bmeld_size, slevel_size, slevel_size]
end Go.Eng
/- Heaps whose others are heaps, as plain values; how they lie in memory. No conditions. -/
namespace Go.Eng
open Go
section
variable {α : Type} {T : TypeId} {sz : Nat} {e e' : Enc α} {M : Raw}
theorem EncL.imp (h : ∀ x c, e M x c → e' M x c) : ∀ {l : List α} {cs : List Value}, EncL e sz M l cs → EncL e' sz M l cs
  | [], _, h1 => h1
  | _ :: _, _, ⟨c, d, h1, h2, h3, h4⟩ => ⟨c, d, h1, h2, h _ _ h3, EncL.imp h h4⟩
mutual
theorem TRep.imp (h : ∀ x c, e M x c → e' M x c) : ∀ {t : RT α} {q : Option Addr}, TRep T sz e M t q → TRep T sz e' M t q
  | .node _ _ _, _, h1 => by
    obtain ⟨b, xc, bv, bc, kv, ka, h2, h3, h4, h5, h6, h7, h8, h9⟩ := trep_node.1 h1
    exact trep_node.2 ⟨b, xc, bv, bc, kv, ka, h2, h3, h _ _ h4, h5, h6, h7.imp h, h8, TReps.imp h h9⟩
theorem TReps.imp (h : ∀ x c, e M x c → e' M x c) : ∀ {t : List (RT α)} {q : List (Option Addr)}, TReps T sz e M t q → TReps T sz e' M t q
  | [], _, h1 => treps_nil.2 (treps_nil.1 h1)
  | _ :: _, _, h1 => by
    obtain ⟨a, s, h2, h3, h4⟩ := treps_cons.1 h1
    exact treps_cons.2 ⟨a, s, h2, TRep.imp h h3, TReps.imp h h4⟩
end
variable {E : Nat → Enc α} (hE : ∀ {n m : Nat}, n ≤ m → ∀ x c, E n M x c → E m M x c)
include hE
theorem EncL.sup : ∀ {l : List α} {cs : List Value}, EncL (fun M x c => ∃ n, E n M x c) sz M l cs → ∃ n, EncL (E n) sz M l cs
  | [], _, h1 => ⟨0, h1⟩
  | _ :: _, _, ⟨c, d, h1, h2, ⟨n, h3⟩, h4⟩ => by
    obtain ⟨m, h5⟩ := EncL.sup h4
    exact ⟨max n m, c, d, h1, h2, hE (Nat.le_max_left n m) _ _ h3, h5.imp (hE (Nat.le_max_right n m))⟩
mutual
theorem TRep.sup : ∀ {t : RT α} {q : Option Addr}, TRep T sz (fun M x c => ∃ n, E n M x c) M t q → ∃ n, TRep T sz (E n) M t q
  | .node _ _ _, _, h1 => by
    obtain ⟨b, xc, bv, bc, kv, ka, h2, h3, ⟨n, h4⟩, h5, h6, h7, h8, h9⟩ := trep_node.1 h1
    obtain ⟨m, h7⟩ := EncL.sup hE h7
    obtain ⟨k, h9⟩ := TReps.sup h9
    exact ⟨max n (max m k), trep_node.2 ⟨b, xc, bv, bc, kv, ka, h2, h3, hE (Nat.le_max_left _ _) _ _ h4, h5, h6, h7.imp (hE (Nat.le_trans (Nat.le_max_left m k) (Nat.le_max_right _ _))), h8, h9.imp (hE (Nat.le_trans (Nat.le_max_right m k) (Nat.le_max_right _ _)))⟩⟩
theorem TReps.sup : ∀ {t : List (RT α)} {q : List (Option Addr)}, TReps T sz (fun M x c => ∃ n, E n M x c) M t q → ∃ n, TReps T sz (E n) M t q
  | [], _, h1 => ⟨0, treps_nil.2 (treps_nil.1 h1)⟩
  | _ :: _, _, h1 => by
    obtain ⟨a, s, h2, h3, h4⟩ := treps_cons.1 h1
    obtain ⟨n, h3⟩ := TRep.sup h3
    obtain ⟨m, h4⟩ := TReps.sup h4
    exact ⟨max n m, treps_cons.2 ⟨a, s, h2, h3.imp (hE (Nat.le_max_left _ _)), h4.imp (hE (Nat.le_max_right _ _))⟩⟩
end
end
inductive Bt where
  | nil
  | node (x : El) (ts : List (RT Bt))
def Bt.key : Bt → El
  | .nil => (0, 0)
  | .node x _ => x
def ltB (a b : Bt) : Bool := ltE a.key b.key
def Bt.meld : Bt → Bt → Bt
  | .nil, o => o
  | .node x ts, .nil => .node x ts
  | .node x ts, .node y us => if ltE y x then .node y (sinsert ltB (.node x ts) us) else .node x (sinsert ltB (.node y us) ts)
def Bt.insert (x : El) (t : Bt) : Bt := (Bt.node x []).meld t
def Bt.queue : Bt → List (RT Bt)
  | .nil => []
  | .node _ ts => ts
section
variable (T C D : TypeId)
def BRepN : Nat → Raw → Bt → Option Addr → Prop
  | _, _, .nil, q => q = none
  | 0, _, .node _ _, _ => False
  | n + 1, M, .node x ts, q => ∃ b qs, q = some ⟨b, 0, none⟩ ∧ M b = some ([.int .i64 x.1, .int .i64 x.2, .pointer qs], T) ∧ FRep C D 1 (fun M h cs => ∃ q, cs = [.pointer q] ∧ BRepN n M h q) M ts qs
def encN (n : Nat) : Enc Bt := fun M h cs => ∃ q, cs = [.pointer q] ∧ BRepN T C D n M h q
def encB : Enc Bt := fun M h cs => ∃ n, encN T C D n M h cs
def BRep (M : Raw) (h : Bt) (q : Option Addr) : Prop := ∃ n, BRepN T C D n M h q
end
section
variable {T C D : TypeId}
theorem BRepN.mono {M M' : Raw} (k : Le M M') : ∀ {n : Nat} {h : Bt} {q : Option Addr}, BRepN T C D n M h q → BRepN T C D n M' h q
  | 0, .nil, _, h1 => h1
  | _ + 1, .nil, _, h1 => h1
  | n + 1, .node x ts, _, ⟨b, qs, h1, h2, h3⟩ => ⟨b, qs, h1, k _ _ h2, h3.mono' (enc := encN T C D n) (fun M M' h c k' ⟨q, h4, h5⟩ => ⟨q, h4, BRepN.mono k' h5⟩) k⟩
theorem BRepN.up {M : Raw} : ∀ {n m : Nat} {h : Bt} {q : Option Addr}, n ≤ m → BRepN T C D n M h q → BRepN T C D m M h q
  | 0, 0, .nil, _, _, h1 => h1
  | 0, _ + 1, .nil, _, _, h1 => h1
  | _ + 1, 0, .nil, _, _, h1 => h1
  | _ + 1, _ + 1, .nil, _, _, h1 => h1
  | n + 1, m + 1, .node x ts, _, hnm, ⟨b, qs, h1, h2, l, h3, h4⟩ => ⟨b, qs, h1, h2, l, h3, h4.imp fun x c ⟨q, h5, h6⟩ => ⟨q, h5, BRepN.up (Nat.le_of_succ_le_succ hnm) h6⟩⟩
theorem encB_mono : (encB T C D).Mono := fun _ _ _ _ k ⟨n, q, h1, h2⟩ => ⟨n, q, h1, h2.mono k⟩
theorem BRep.mono {M M' : Raw} (k : Le M M') {h : Bt} {q : Option Addr} (h1 : BRep T C D M h q) : BRep T C D M' h q := h1.imp fun _ h => h.mono k
theorem encB_iff {M : Raw} {h : Bt} {cs : List Value} : encB T C D M h cs ↔ ∃ q, cs = [.pointer q] ∧ BRep T C D M h q :=
  ⟨fun ⟨n, q, h1, h2⟩ => ⟨q, h1, n, h2⟩, fun ⟨q, h1, n, h2⟩ => ⟨n, q, h1, h2⟩⟩
theorem brep_nil {M : Raw} {q : Option Addr} : BRep T C D M .nil q ↔ q = none :=
  ⟨fun ⟨n, h⟩ => by cases n <;> exact h, fun h => ⟨0, h⟩⟩
theorem brep_node {M : Raw} {x : El} {ts : List (RT Bt)} {q : Option Addr} : BRep T C D M (.node x ts) q ↔ ∃ b qs, q = some ⟨b, 0, none⟩ ∧ M b = some ([.int .i64 x.1, .int .i64 x.2, .pointer qs], T) ∧ FRep C D 1 (encB T C D) M ts qs := by
  constructor
  · rintro ⟨n, h⟩
    cases n with
    | zero => exact h.elim
    | succ n =>
      obtain ⟨b, qs, h1, h2, l, h3, h4⟩ := h
      exact ⟨b, qs, h1, h2, l, h3, h4.imp fun x c h5 => ⟨n, h5⟩⟩
  · rintro ⟨b, qs, h1, h2, l, h3, h4⟩
    obtain ⟨n, h5⟩ := TReps.sup (E := encN T C D) (fun hnm x c ⟨q, h6, h7⟩ => ⟨q, h6, h7.up hnm⟩) h4
    exact ⟨n + 1, b, qs, h1, h2, l, h3, h5⟩
theorem encB_one {M : Raw} : ∀ {l : List Bt} {cs : List Value}, EncL (encB T C D) 1 M l cs → ∀ x ∈ cs, x.oneCell' = true
  | [], _, h, x, hx => by cases h; cases hx
  | _ :: _, _, ⟨c, d, h1, _, h3, h4⟩, x, hx => by
    subst h1
    obtain ⟨q, rfl, _⟩ := encB_iff.1 h3
    rcases List.mem_append.1 hx with hx | hx
    · obtain rfl := List.mem_singleton.1 hx
      rfl
    · exact encB_one h4 x hx
end
mutual
def RT.all {α : Type} : RT α → List α
  | .node x bs ks => x :: (bs ++ RT.alls ks)
def RT.alls {α : Type} : List (RT α) → List α
  | [] => []
  | k :: r => RT.all k ++ RT.alls r
end
mutual
theorem RT.all_length {α : Type} : ∀ t : RT α, (RT.all t).length = t.size
  | .node x bs ks => by simp only [RT.all, RT.size, List.length_cons, List.length_append, RT.alls_length ks]; omega
theorem RT.alls_length {α : Type} : ∀ l : List (RT α), (RT.alls l).length = RT.sizes l
  | [] => rfl
  | k :: r => by simp only [RT.alls, RT.sizes, List.length_append, RT.all_length k, RT.alls_length r]
end
theorem RT.alls_append {α : Type} (l r : List (RT α)) : RT.alls (l ++ r) = RT.alls l ++ RT.alls r := by
  induction l with
  | nil => rfl
  | cons k l ih => simp only [List.cons_append, RT.alls, ih, List.append_assoc]
theorem RT.alls_take {α : Type} {l : List (RT α)} {i : Nat} {k : RT α} (h : l[i]? = some k) : RT.alls (l.take (i + 1)) = RT.alls (l.take i) ++ RT.all k := by
  rw [List.take_add_one, h, RT.alls_append]
  simp [RT.alls]
theorem EncL.append {α : Type} {e : Enc α} {sz : Nat} {M : Raw} : ∀ {l r : List α} {cs ds : List Value}, EncL e sz M l cs → EncL e sz M r ds → EncL e sz M (l ++ r) (cs ++ ds)
  | [], _, _, _, h1, h2 => by cases h1; exact h2
  | _ :: _, _, _, _, ⟨c, d, h1, h2, h3, h4⟩, h5 => ⟨c, d ++ _, by rw [h1, List.append_assoc], h2, h3, EncL.append h4 h5⟩
mutual
def Bt.cnt (z : Nat) : Bt → Nat
  | .nil => z
  | .node _ ts => 1 + Bt.cntQ z ts
def Bt.cntQ (z : Nat) : List (RT Bt) → Nat
  | [] => 0
  | t :: r => Bt.cntT z t + Bt.cntQ z r
def Bt.cntT (z : Nat) : RT Bt → Nat
  | .node x bs ks => Bt.cnt z x + Bt.cntL z bs + Bt.cntQ z ks
def Bt.cntL (z : Nat) : List Bt → Nat
  | [] => 0
  | h :: r => Bt.cnt z h + Bt.cntL z r
end
theorem Bt.cntL_append (z : Nat) (l r : List Bt) : Bt.cntL z (l ++ r) = Bt.cntL z l + Bt.cntL z r := by
  induction l with
  | nil => simp [Bt.cntL]
  | cons k l ih => simp only [List.cons_append, Bt.cntL, ih]; omega
mutual
theorem Bt.cntT_all (z : Nat) : ∀ t : RT Bt, Bt.cntL z (RT.all t) = Bt.cntT z t
  | .node x bs ks => by simp only [RT.all, Bt.cntL, Bt.cntL_append, Bt.cntT, Bt.cntQ_alls z ks]; omega
theorem Bt.cntQ_alls (z : Nat) : ∀ l : List (RT Bt), Bt.cntL z (RT.alls l) = Bt.cntQ z l
  | [] => rfl
  | t :: r => by simp only [RT.alls, Bt.cntL_append, Bt.cntQ, Bt.cntT_all z t, Bt.cntQ_alls z r]
end
theorem Bt.cnt_pos : ∀ t : Bt, 1 ≤ Bt.cnt 1 t
  | .nil => Nat.le_refl _
  | .node _ ts => by simp only [Bt.cnt]; omega
theorem Bt.cntL_length : ∀ l : List Bt, l.length ≤ Bt.cntL 1 l
  | [] => Nat.le_refl _
  | h :: r => by have := h.cnt_pos; have := Bt.cntL_length r; simp only [List.length_cons, Bt.cntL]; omega
theorem EncL.last {α : Type} {e : Enc α} {M : Raw} : ∀ {l : List α} {x : α} {cs : List Value}, EncL e 1 M (l ++ [x]) cs → ∃ ds c, cs = ds ++ [c] ∧ EncL e 1 M l ds ∧ e M x [c]
  | [], x, cs, ⟨c, d, h1, h2, h3, h4⟩ => by
    cases h4
    obtain ⟨v, rfl⟩ := List.length_eq_one_iff.1 h2
    exact ⟨[], v, by simpa using h1, rfl, h3⟩
  | y :: l, x, cs, ⟨c, d, h1, h2, h3, h4⟩ => by
    obtain ⟨ds, v, h5, h6, h7⟩ := EncL.last h4
    exact ⟨c ++ ds, v, by rw [h1, h5, List.append_assoc], ⟨c, ds, rfl, h2, h3, h6⟩, h7⟩
theorem Buf.front1 {mb : Option Nat} {w : World} {M : Mem mb} {E n c : Nat} {a : Option Addr} {cs : List Value} (h : Buf w M E 1 (.slice a n c) n cs) {j : Nat} (hj : j ≤ n) : Buf w M E 1 (.slice a j c) j (cs.take j) := by
  obtain ⟨⟨h1, h2⟩, h3⟩ := h
  refine ⟨⟨by rw [List.length_take]; omega, ?_⟩, fun g hg => h3 g (by cases a <;> exact hg)⟩
  rcases h2 with ⟨h2, rfl⟩ | ⟨g, cap, cur, hv, hb, hh, hnc, hcm, hsz, htk⟩
  · cases h2
    exact .inl ⟨by rw [show j = 0 from by omega], by omega⟩
  · cases hv
    refine .inr ⟨g, c, cur, rfl, hb, hh, by omega, hcm, hsz, ?_⟩
    rw [← htk, List.take_take, Nat.min_eq_left (by omega), Nat.mul_one]
end Go.Eng
/- Pairing heaps as plain values; how they lie in memory. No conditions. -/
namespace Go.Eng
open Go
inductive Pr where
  | nil
  | node (x : El) (ks : List Pr)
mutual
def Pr.size : Pr → Nat
  | .nil => 0
  | .node _ ks => 1 + Pr.sizes ks
def Pr.sizes : List Pr → Nat
  | [] => 0
  | k :: r => k.size + Pr.sizes r
end
def Pr.meld : Pr → Pr → Pr
  | .nil, o => o
  | .node x ks, .nil => .node x ks
  | .node x ks, .node y ls => if ltE y x then .node y (.node x ks :: ls) else .node x (.node y ls :: ks)
def Pr.insert (x : El) (t : Pr) : Pr := (Pr.node x []).meld t
def Pr.pair : List Pr → Pr
  | [] => .nil
  | [a] => a
  | a :: b :: r => (a.meld b).meld (Pr.pair r)
theorem Pr.meld_size (a b : Pr) : (a.meld b).size = a.size + b.size := by
  unfold Pr.meld
  split
  · simp [Pr.size]
  · simp [Pr.size]
  · split <;> simp only [Pr.size, Pr.sizes] <;> omega
theorem Pr.pair_size : ∀ l : List Pr, (Pr.pair l).size = Pr.sizes l
  | [] => rfl
  | [a] => by simp [Pr.pair, Pr.sizes]
  | a :: b :: r => by simp only [Pr.pair, Pr.meld_size, Pr.sizes, Pr.pair_size r]; omega
mutual
def PRep (T C : TypeId) (M : Raw) : Pr → Option Addr → Prop
  | .nil, q => q = none
  | .node x ks, q => ∃ b kq aw, q = some ⟨b, 0, none⟩ ∧ M b = some ([.int .i64 x.1, .int .i64 x.2, .pointer kq, .int .i64 ((1 + Pr.sizes ks : Nat) : Int)], T) ∧ CRep C M aw (.pointer kq) ∧ PReps T C M ks aw
def PReps (T C : TypeId) (M : Raw) : List Pr → List (Option Addr) → Prop
  | [], aw => aw = []
  | k :: r, aw => k ≠ .nil ∧ ∃ a s, aw = a :: s ∧ PRep T C M k a ∧ PReps T C M r s
end
mutual
theorem PRep.mono {T C : TypeId} {M M' : Raw} (k : Le M M') : ∀ {t : Pr} {q : Option Addr}, PRep T C M t q → PRep T C M' t q
  | .nil, _, h => h
  | .node _ _, _, h => by
    unfold PRep at h ⊢
    obtain ⟨b, kq, aw, h1, h2, h3, h4⟩ := h
    exact ⟨b, kq, aw, h1, k _ _ h2, h3.mono k, PReps.mono k h4⟩
theorem PReps.mono {T C : TypeId} {M M' : Raw} (k : Le M M') : ∀ {t : List Pr} {q : List (Option Addr)}, PReps T C M t q → PReps T C M' t q
  | [], _, h => h
  | _ :: _, _, h => by
    unfold PReps at h ⊢
    obtain ⟨h0, a, s, h1, h2, h3⟩ := h
    exact ⟨h0, a, s, h1, PRep.mono k h2, PReps.mono k h3⟩
end
theorem PReps.length {T C : TypeId} {M : Raw} : ∀ {t : List Pr} {aw : List (Option Addr)}, PReps T C M t aw → aw.length = t.length
  | [], _, h => by unfold PReps at h; subst h; rfl
  | _ :: _, _, h => by
    unfold PReps at h
    obtain ⟨_, a, s, rfl, _, h3⟩ := h
    simp [PReps.length h3]
theorem prep_nil {T C : TypeId} {M : Raw} {q : Option Addr} : PRep T C M .nil q ↔ q = none := by unfold PRep; rfl
theorem prep_node {T C : TypeId} {M : Raw} {x : El} {ks : List Pr} {q : Option Addr} : PRep T C M (.node x ks) q ↔ ∃ b kq aw, q = some ⟨b, 0, none⟩ ∧ M b = some ([.int .i64 x.1, .int .i64 x.2, .pointer kq, .int .i64 ((1 + Pr.sizes ks : Nat) : Int)], T) ∧ CRep C M aw (.pointer kq) ∧ PReps T C M ks aw := by
  conv => lhs; unfold PRep
theorem preps_cons {T C : TypeId} {M : Raw} {k : Pr} {r : List Pr} {aw : List (Option Addr)} : PReps T C M (k :: r) aw ↔ k ≠ .nil ∧ ∃ a s, aw = a :: s ∧ PRep T C M k a ∧ PReps T C M r s := by
  conv => lhs; unfold PReps
theorem preps_nil {T C : TypeId} {M : Raw} {aw : List (Option Addr)} : PReps T C M [] aw ↔ aw = [] := by unfold PReps; rfl
theorem cell4 {a b c : Value} {T : TypeId} {z z' : Int} (h : z = z') : some ([a, b, c, Value.int .i64 z], T) = some ([a, b, c, .int .i64 z'], T) := by rw [h]
theorem PReps.small {T C : TypeId} {M : Raw} : ∀ {t : List Pr} {aw : List (Option Addr)}, PReps T C M t aw → aw.length ≤ Pr.sizes t
  | [], _, h => by rw [preps_nil] at h; subst h; exact Nat.le_refl _
  | k :: _, _, h => by
    obtain ⟨h0, a, s, rfl, _, h3⟩ := preps_cons.1 h
    have h1 := PReps.small h3
    have h2 : 1 ≤ k.size := by
      cases k with
      | nil => exact absurd rfl h0
      | node x ks => simp only [Pr.size]; omega
    simp only [List.length_cons, Pr.sizes]; omega
end Go.Eng
/- What the heaps of the kinds hold; that they are in order, and stay so. No conditions. -/
namespace Go.Eng
open Go
def AllGe (x : El) (l : List El) : Prop := ∀ y ∈ l, ltE y x = false
theorem AllGe.perm {x : El} {l l' : List El} (h : AllGe x l) (p : l'.Perm l) : AllGe x l' := fun y hy => h y (p.mem_iff.1 hy)
theorem AllGe.app {x : El} {l l' : List El} (h : AllGe x l) (h' : AllGe x l') : AllGe x (l ++ l') := fun y hy => (List.mem_append.1 hy).elim (h y) (h' y)
theorem AllGe.left {x : El} {l l' : List El} (h : AllGe x (l ++ l')) : AllGe x l := fun y hy => h y (List.mem_append_left _ hy)
theorem AllGe.right {x : El} {l l' : List El} (h : AllGe x (l ++ l')) : AllGe x l' := fun y hy => h y (List.mem_append_right _ hy)
theorem AllGe.trans {x y : El} {l : List El} (h : AllGe y l) (h2 : ltE y x = false) : AllGe x l := fun z hz => swoE.ntrans z y x (h z hz) h2
theorem AllGe.cons {x y : El} {l : List El} (h2 : ltE y x = false) (h : AllGe x l) : AllGe x (y :: l) := fun z hz => by
  rcases List.mem_cons.1 hz with rfl | hz
  · exact h2
  · exact h z hz
theorem ltE_asym {x y : El} (h : ltE x y = true) : ltE y x = false := by rw [ltE_iff] at h; rw [ltE_not]; omega
theorem srtE_cons {x : El} {l : List El} (h : AllGe x l) : srtE (x :: l) = x :: srtE l :=
  (srtE_eq ((srtE_perm l).cons x) (List.pairwise_cons.2 ⟨fun y hy => h y ((srtE_perm l).mem_iff.1 hy), srtE_ord l⟩)).symm
theorem srtE_put (x : El) (l : List El) : srtE (x :: l) = putE (srtE l) x := by
  rw [← srtE_snoc]
  exact srtE_congr (List.perm_append_singleton x l).symm
theorem srtE_app (l r : List El) : srtE (l ++ r) = srtE (srtE l ++ srtE r) := srtE_congr ((srtE_perm l).symm.append (srtE_perm r).symm)
def Lft.els : Lft → List El
  | .nil => []
  | .node x l r => x :: (l.els ++ r.els)
def Lft.ok : Lft → Prop
  | .nil => True
  | .node x l r => AllGe x (l.els ++ r.els) ∧ l.ok ∧ r.ok
theorem Lft.els_size : ∀ t : Lft, t.els.length = t.size
  | .nil => rfl
  | .node _ l r => by simp only [Lft.els, Lft.size, List.length_cons, List.length_append, l.els_size, r.els_size]; omega
theorem Lft.mk_els (x : El) (a b : Lft) : (Lft.mk x a b).els.Perm (x :: (a.els ++ b.els)) := by
  unfold Lft.mk
  split
  · exact List.perm_append_comm.cons x
  · exact .refl _
theorem Lft.mk_ok {x : El} {a b : Lft} (h : AllGe x (a.els ++ b.els)) (ha : a.ok) (hb : b.ok) : (Lft.mk x a b).ok := by
  unfold Lft.mk
  split
  · exact ⟨h.perm List.perm_append_comm, hb, ha⟩
  · exact ⟨h, ha, hb⟩
theorem Lft.meld_els (a b : Lft) : (Lft.meld a b).els.Perm (a.els ++ b.els) := by
  fun_induction Lft.meld a b with
  | case1 o => exact .refl _
  | case2 x l r => simp [Lft.els]
  | case3 x l r y l' r' h ih =>
    refine (Lft.mk_els ..).trans (List.perm_iff_count.2 fun e => ?_)
    have := ih.count_eq e
    simp only [Lft.els, List.count_append, List.count_cons] at this ⊢
    omega
  | case4 x l r y l' r' h ih =>
    refine (Lft.mk_els ..).trans (List.perm_iff_count.2 fun e => ?_)
    have := ih.count_eq e
    simp only [Lft.els, List.count_append, List.count_cons] at this ⊢
    omega
theorem Lft.meld_ok (a b : Lft) (ha : a.ok) (hb : b.ok) : (Lft.meld a b).ok := by
  fun_induction Lft.meld a b with
  | case1 o => exact hb
  | case2 x l r => exact ha
  | case3 x l r y l' r' h ih =>
    have h2 := ltE_asym h
    refine Lft.mk_ok (hb.1.left.app (AllGe.perm ?_ (Lft.meld_els ..))) hb.2.1 (ih hb.2.2 ha)
    exact hb.1.right.app (.cons h2 (ha.1.trans h2))
  | case4 x l r y l' r' h ih =>
    have h2 : ltE y x = false := by simpa using h
    refine Lft.mk_ok (ha.1.left.app (AllGe.perm ?_ (Lft.meld_els ..))) ha.2.1 (ih ha.2.2 hb)
    exact ha.1.right.app (.cons h2 (hb.1.trans h2))
theorem Lft.one_ok (x : El) : (Lft.mk x .nil .nil).ok := Lft.mk_ok (fun _ h => by cases h) trivial trivial
theorem Lft.insert_els (x : El) (t : Lft) : (Lft.insert x t).els.Perm (x :: t.els) := (Lft.meld_els ..).trans ((Lft.mk_els x .nil .nil).append_right _)
theorem Lft.insert_ok (x : El) (t : Lft) (h : t.ok) : (Lft.insert x t).ok := Lft.meld_ok _ _ (Lft.one_ok x) h
mutual
def Pr.els : Pr → List El
  | .nil => []
  | .node x ks => x :: Pr.elsL ks
def Pr.elsL : List Pr → List El
  | [] => []
  | k :: r => k.els ++ Pr.elsL r
end
mutual
def Pr.ok : Pr → Prop
  | .nil => True
  | .node x ks => AllGe x (Pr.elsL ks) ∧ Pr.okL ks
def Pr.okL : List Pr → Prop
  | [] => True
  | k :: r => k.ok ∧ Pr.okL r
end
mutual
theorem Pr.els_size : ∀ t : Pr, t.els.length = t.size
  | .nil => rfl
  | .node x ks => by simp only [Pr.els, Pr.size, List.length_cons, Pr.elsL_size ks]; omega
theorem Pr.elsL_size : ∀ l : List Pr, (Pr.elsL l).length = Pr.sizes l
  | [] => rfl
  | k :: r => by simp only [Pr.elsL, Pr.sizes, List.length_append, Pr.els_size k, Pr.elsL_size r]
end
theorem Pr.meld_els (a b : Pr) : (a.meld b).els.Perm (a.els ++ b.els) := by
  unfold Pr.meld
  split
  · simp [Pr.els]
  · simp [Pr.els]
  · split <;> refine List.perm_iff_count.2 fun e => ?_ <;> simp only [Pr.els, Pr.elsL, List.count_append, List.count_cons] <;> omega
theorem Pr.meld_ok {a b : Pr} (ha : a.ok) (hb : b.ok) : (a.meld b).ok := by
  unfold Pr.meld
  split
  · exact hb
  · exact ha
  · rename_i x ks y ls
    simp only [Pr.ok] at ha hb
    split
    · rename_i h
      have h2 := ltE_asym h
      simp only [Pr.ok, Pr.okL, Pr.elsL, Pr.els]
      exact ⟨AllGe.app (.cons h2 (ha.1.trans h2)) hb.1, ha, hb.2⟩
    · rename_i h
      have h2 : ltE y x = false := by simpa using h
      simp only [Pr.ok, Pr.okL, Pr.elsL, Pr.els]
      exact ⟨AllGe.app (.cons h2 (hb.1.trans h2)) ha.1, hb, ha.2⟩
theorem Pr.insert_els (x : El) (t : Pr) : (Pr.insert x t).els.Perm (x :: t.els) := by
  refine (Pr.meld_els ..).trans ?_
  simp [Pr.els, Pr.elsL]
theorem Pr.insert_ok (x : El) (t : Pr) (h : t.ok) : (Pr.insert x t).ok := Pr.meld_ok (by simp only [Pr.ok, Pr.okL, Pr.elsL]; exact ⟨fun _ h => (nomatch h), trivial⟩) h
theorem Pr.pair_els : ∀ l : List Pr, (Pr.pair l).els.Perm (Pr.elsL l)
  | [] => .refl _
  | [a] => by simp [Pr.pair, Pr.elsL]
  | a :: b :: r => by
    simp only [Pr.pair, Pr.elsL]
    refine (Pr.meld_els ..).trans ?_
    rw [← List.append_assoc]
    exact (Pr.meld_els a b).append (Pr.pair_els r)
theorem Pr.pair_ok : ∀ {l : List Pr}, Pr.okL l → (Pr.pair l).ok
  | [], _ => trivial
  | [a], h => h.1
  | a :: b :: r, h => Pr.meld_ok (Pr.meld_ok h.1 h.2.1) (Pr.pair_ok h.2.2)
section
variable {α : Type}
theorem RT.alls_flat : ∀ l : List (RT α), RT.alls l = l.flatMap RT.all
  | [] => rfl
  | k :: r => by simp only [RT.alls, List.flatMap_cons, RT.alls_flat r]
theorem RT.alls_perm {l r : List (RT α)} (h : l.Perm r) : (RT.alls l).Perm (RT.alls r) := by
  rw [RT.alls_flat, RT.alls_flat]
  exact h.flatMap_right _
theorem RT.all_eq (t : RT α) : RT.all t = t.root :: (t.beside ++ RT.alls t.kids) := by cases t; rfl
variable (lt : α → α → Bool)
mutual
def RT.ok : RT α → Prop
  | .node x bs ks => (∀ y ∈ bs ++ RT.alls ks, lt y x = false) ∧ RT.oks ks
def RT.oks : List (RT α) → Prop
  | [] => True
  | k :: r => RT.ok k ∧ RT.oks r
end
theorem RT.oks_iff : ∀ l : List (RT α), RT.oks lt l ↔ ∀ t ∈ l, RT.ok lt t
  | [] => by simp [RT.oks]
  | k :: r => by simp [RT.oks, RT.oks_iff r]
theorem RT.ok_eq (t : RT α) : RT.ok lt t ↔ (∀ y ∈ t.beside ++ RT.alls t.kids, lt y t.root = false) ∧ RT.oks lt t.kids := by cases t; exact Iff.rfl
variable {lt} (hlt : Go.Sort.SWO lt)
include hlt
theorem swo_asym {x y : α} (h : lt x y = true) : lt y x = false := by
  cases h2 : lt y x with
  | false => rfl
  | true => have := hlt.trans _ _ _ h h2; rw [hlt.irrefl] at this; cases this
theorem RT.ok_all {t : RT α} (h : RT.ok lt t) : ∀ y ∈ RT.all t, lt y t.root = false := fun y hy => by
  rw [RT.all_eq] at hy
  rcases List.mem_cons.1 hy with rfl | hy
  · exact hlt.irrefl _
  · exact ((RT.ok_eq lt t).1 h).1 y hy
omit hlt in
theorem RT.link_all (a b : RT α) : (RT.all (RT.link lt a b)).Perm (RT.all a ++ RT.all b) := by
  classical
  rw [RT.all_eq a, RT.all_eq b]
  unfold RT.link
  split <;> refine List.perm_iff_count.2 fun e => ?_ <;> simp only [RT.all, RT.alls, RT.all_eq a, RT.all_eq b, List.count_append, List.count_cons] <;> omega
theorem RT.link_ok {a b : RT α} (ha : RT.ok lt a) (hb : RT.ok lt b) : RT.ok lt (RT.link lt a b) := by
  have ha' := (RT.ok_eq lt a).1 ha
  have hb' := (RT.ok_eq lt b).1 hb
  unfold RT.link
  split
  · rename_i h
    have h2 := swo_asym hlt h
    refine ⟨fun y hy => ?_, ha, hb'.2⟩
    simp only [RT.alls, List.mem_append] at hy
    rcases hy with hy | hy | hy
    · exact hb'.1 y (List.mem_append_left _ hy)
    · exact hlt.ntrans _ _ _ (RT.ok_all hlt ha y hy) h2
    · exact hb'.1 y (List.mem_append_right _ hy)
  · rename_i h
    have h2 : lt b.root a.root = false := by simpa using h
    refine ⟨fun y hy => ?_, hb, ha'.2⟩
    simp only [RT.alls, List.mem_append] at hy
    rcases hy with hy | hy | hy
    · exact ha'.1 y (List.mem_append_left _ hy)
    · exact hlt.ntrans _ _ _ (RT.ok_all hlt hb y hy) h2
    · exact ha'.1 y (List.mem_append_right _ hy)
omit hlt in
theorem RT.skew_all (x : α) (a b : RT α) : (RT.all (RT.skew lt x a b)).Perm (x :: (RT.all a ++ RT.all b)) := by
  classical
  refine List.Perm.trans ?_ ((RT.link_all (lt := lt) a b).cons x)
  rw [RT.all_eq (RT.link lt a b)]
  unfold RT.skew
  split <;> refine List.perm_iff_count.2 fun e => ?_ <;> simp only [RT.all, List.cons_append, List.count_append, List.count_cons] <;> omega
theorem RT.skew_ok {x : α} {a b : RT α} (ha : RT.ok lt a) (hb : RT.ok lt b) : RT.ok lt (RT.skew lt x a b) := by
  have hl := RT.link_ok hlt ha hb
  have hl' := (RT.ok_eq lt _).1 hl
  unfold RT.skew
  split
  · rename_i h
    refine ⟨fun y hy => ?_, hl'.2⟩
    rcases List.mem_append.1 hy with hy | hy
    · rcases List.mem_cons.1 hy with rfl | hy
      · exact swo_asym hlt h
      · exact hl'.1 y (List.mem_append_left _ hy)
    · exact hl'.1 y (List.mem_append_right _ hy)
  · rename_i h
    have h2 : lt (RT.link lt a b).root x = false := by simpa using h
    refine ⟨fun y hy => hlt.ntrans _ _ _ (RT.ok_all hlt hl y ?_) h2, hl'.2⟩
    rw [RT.all_eq]
    exact hy
omit hlt in
theorem RT.leaf_ok (x : α) : RT.ok lt (RT.leaf x) := ⟨fun _ h => (nomatch h), trivial⟩
omit hlt in
theorem bput_alls : ∀ (l : List (RT α)) (t : RT α), (RT.alls (bput lt t l)).Perm (RT.all t ++ RT.alls l)
  | [], t => .refl _
  | f :: r, t => by
    unfold bput
    split
    · exact .refl _
    · refine (bput_alls r _).trans ?_
      refine ((RT.link_all (lt := lt) t f).append_right _).trans ?_
      rw [List.append_assoc]
      exact .refl _
theorem bput_oks : ∀ {l : List (RT α)} {t : RT α}, RT.ok lt t → RT.oks lt l → RT.oks lt (bput lt t l)
  | [], _, h, _ => ⟨h, trivial⟩
  | f :: r, t, h, h2 => by
    unfold bput
    split
    · exact ⟨h, h2⟩
    · exact bput_oks (RT.link_ok hlt h h2.1) h2.2
omit hlt in
theorem bmeld_alls (a b : List (RT α)) : (RT.alls (bmeld lt a b)).Perm (RT.alls a ++ RT.alls b) := by
  classical
  fun_induction bmeld lt a b with
  | case1 b => exact .refl _
  | case2 f a => simp [RT.alls]
  | case3 f a g b h ih =>
    simp only [RT.alls, List.append_assoc] at ih ⊢
    exact ih.append_left _
  | case4 f a g b h h2 ih =>
    refine List.perm_iff_count.2 fun e => ?_
    have := ih.count_eq e
    simp only [RT.alls, List.count_append] at this ⊢
    omega
  | case5 f a g b h h2 ih =>
    refine (bput_alls ..).trans (List.perm_iff_count.2 fun e => ?_)
    have h1 := ih.count_eq e
    have h2 := (RT.link_all (lt := lt) f g).count_eq e
    simp only [RT.alls, List.count_append] at h1 h2 ⊢
    omega
theorem bmeld_oks {a b : List (RT α)} (ha : RT.oks lt a) (hb : RT.oks lt b) : RT.oks lt (bmeld lt a b) := by
  fun_induction bmeld lt a b with
  | case1 b => exact hb
  | case2 f a => exact ha
  | case3 f a g b h ih => exact ⟨ha.1, ih ha.2 hb⟩
  | case4 f a g b h h2 ih => exact ⟨hb.1, ih ha hb.2⟩
  | case5 f a g b h h2 ih => exact bput_oks hlt (RT.link_ok hlt ha.1 hb.1) (ih ha.2 hb.2)
omit hlt in
theorem sinsert_alls (x : α) (l : List (RT α)) : (RT.alls (sinsert lt x l)).Perm (x :: RT.alls l) := by
  unfold sinsert
  split
  · split
    · simp only [RT.alls]
      refine ((RT.skew_all (lt := lt) _ _ _).append_right _).trans ?_
      simp [List.append_assoc]
    · exact .refl _
  · exact .refl _
theorem sinsert_oks {x : α} {l : List (RT α)} (h : RT.oks lt l) : RT.oks lt (sinsert lt x l) := by
  unfold sinsert
  split
  · split
    · exact ⟨RT.skew_ok hlt h.1 h.2.1, h.2.2⟩
    · exact ⟨RT.leaf_ok _, h⟩
  · exact ⟨RT.leaf_ok _, h⟩
omit hlt in
theorem slevel_alls : ∀ l : List (RT α), (RT.alls (slevel lt l)).Perm (RT.alls l)
  | [] => .refl _
  | t :: l => bput_alls l t
theorem slevel_oks : ∀ {l : List (RT α)}, RT.oks lt l → RT.oks lt (slevel lt l)
  | [], h => h
  | _ :: _, h => bput_oks hlt h.1 h.2
omit hlt in
theorem smeld_alls (a b : List (RT α)) : (RT.alls (smeld lt a b)).Perm (RT.alls a ++ RT.alls b) := (bmeld_alls ..).trans ((slevel_alls a).append (slevel_alls b))
theorem smeld_oks {a b : List (RT α)} (ha : RT.oks lt a) (hb : RT.oks lt b) : RT.oks lt (smeld lt a b) := bmeld_oks hlt (slevel_oks hlt ha) (slevel_oks hlt hb)
omit hlt in
theorem leastN_get (xs : List α) : ∀ i, i < xs.length → ∃ m, xs[leastN lt xs i]? = some m := fun i hi => by
  have := leastN_le lt xs i
  exact ⟨xs[leastN lt xs i]'(by omega), List.getElem?_eq_getElem _⟩
theorem leastN_least (xs : List α) : ∀ i, i < xs.length → ∀ m, xs[leastN lt xs i]? = some m → ∀ j y, j ≤ i → xs[j]? = some y → lt y m = false
  | 0, _, m, hm, j, y, hj, hy => by
    obtain rfl : j = 0 := by omega
    have hm : xs[0]? = some m := hm
    rw [hm] at hy
    cases hy
    exact hlt.irrefl _
  | i + 1, hi, m, hm, j, y, hj, hy => by
    obtain ⟨b, hb⟩ := leastN_get (lt := lt) xs i (by omega)
    have ha : xs[i + 1]? = some xs[i + 1] := List.getElem?_eq_getElem hi
    rw [leastN_step ha hb] at hm
    have ih := leastN_least xs i (by omega) b hb
    split at hm
    · rename_i h
      rw [ha] at hm
      cases hm
      by_cases e : j = i + 1
      · subst e; rw [ha] at hy; cases hy; exact hlt.irrefl _
      · exact hlt.ntrans _ _ _ (ih j y (by omega) hy) (swo_asym hlt h)
    · rename_i h
      rw [hb] at hm
      cases hm
      by_cases e : j = i + 1
      · subst e; rw [ha] at hy; cases hy; simpa using h
      · exact ih j y (by omega) hy
theorem least_tree {l : List (RT α)} (h : RT.oks lt l) {k : RT α} (hk : l[leastN lt (l.map RT.root) (l.length - 1)]? = some k) : ∀ y ∈ RT.alls l, lt y k.root = false := fun y hy => by
  rw [RT.alls_flat] at hy
  obtain ⟨t, ht, hy⟩ := List.mem_flatMap.1 hy
  have h1 := RT.ok_all hlt ((RT.oks_iff lt l).1 h t ht) y hy
  obtain ⟨j, hj, rfl⟩ := List.getElem_of_mem ht
  have hm : (l.map RT.root)[leastN lt (l.map RT.root) (l.length - 1)]? = some k.root := by rw [List.getElem?_map, hk]; rfl
  exact hlt.ntrans _ _ _ h1 (leastN_least hlt (l.map RT.root) (l.length - 1) (by rw [List.length_map]; omega) _ hm j _ (by omega) (by rw [List.getElem?_map, List.getElem?_eq_getElem hj]; rfl))
omit hlt in
theorem least_is {l : List (RT α)} (h : l ≠ []) : ∃ k, l[leastN lt (l.map RT.root) (l.length - 1)]? = some k := by
  have hp := List.length_pos_iff.2 h
  have := leastN_le lt (l.map RT.root) (l.length - 1)
  exact ⟨l[leastN lt (l.map RT.root) (l.length - 1)]'(by omega), List.getElem?_eq_getElem _⟩
omit hlt in
theorem erase_perm : ∀ {l : List (RT α)} {i : Nat} {k : RT α}, l[i]? = some k → l.Perm (k :: l.eraseIdx i)
  | _ :: _, 0, _, h => by cases h; exact .refl _
  | x :: _, i + 1, k, h => ((erase_perm (i := i) (by simpa using h)).cons x).trans (.swap k x _)
omit hlt in
theorem alls_out {l : List (RT α)} {i : Nat} {k : RT α} (hk : l[i]? = some k) : (RT.alls l).Perm (k.root :: (k.beside ++ RT.alls k.kids ++ RT.alls (l.eraseIdx i))) := by
  refine (RT.alls_perm (erase_perm hk)).trans ?_
  rw [RT.alls, RT.all_eq]
  exact .refl _
omit hlt in
theorem oks_out {l : List (RT α)} (h : RT.oks lt l) (i : Nat) : RT.oks lt (l.eraseIdx i) := (RT.oks_iff lt _).2 fun t ht => (RT.oks_iff lt l).1 h t (List.mem_of_mem_eraseIdx ht)
omit hlt in
theorem oks_rev {l : List (RT α)} (h : RT.oks lt l) : RT.oks lt l.reverse := (RT.oks_iff lt _).2 fun t ht => (RT.oks_iff lt l).1 h t (List.mem_reverse.1 ht)
omit hlt in
theorem alls_rev (l : List (RT α)) : (RT.alls l.reverse).Perm (RT.alls l) := RT.alls_perm (List.reverse_perm l)
omit hlt in
theorem oks_get {l : List (RT α)} (h : RT.oks lt l) {i : Nat} {k : RT α} (hk : l[i]? = some k) : RT.ok lt k := (RT.oks_iff lt l).1 h k (List.mem_of_getElem? hk)
omit hlt in
def bpop (lt : α → α → Bool) (l : List (RT α)) (k : RT α) : List (RT α) := bmeld lt k.kids.reverse (l.eraseIdx (leastN lt (l.map RT.root) (l.length - 1)))
def spop (lt : α → α → Bool) (l : List (RT α)) (k : RT α) : List (RT α) := k.beside.foldl (fun h x => sinsert lt x h) (bmeld lt k.kids.reverse (slevel lt (l.eraseIdx (leastN lt (l.map RT.root) (l.length - 1)))))
omit hlt in
theorem sins_alls : ∀ (bs : List α) (l : List (RT α)), (RT.alls (bs.foldl (fun h x => sinsert lt x h) l)).Perm (bs ++ RT.alls l)
  | [], l => .refl _
  | x :: r, l => ((sins_alls r _).trans ((sinsert_alls x l).append_left r)).trans List.perm_middle
theorem sins_oks : ∀ (bs : List α) {l : List (RT α)}, RT.oks lt l → RT.oks lt (bs.foldl (fun h x => sinsert lt x h) l)
  | [], _, h => h
  | x :: r, _, h => sins_oks r (sinsert_oks hlt h)
omit hlt in
theorem sins_size : ∀ (bs : List α) (l : List (RT α)), RT.sizes (bs.foldl (fun h x => sinsert lt x h) l) = bs.length + RT.sizes l
  | [], l => by simp
  | x :: r, l => by rw [List.foldl_cons, sins_size r, sinsert_size, List.length_cons]; omega
theorem bpop_oks {l : List (RT α)} {k : RT α} (h : RT.oks lt l) (hk : l[leastN lt (l.map RT.root) (l.length - 1)]? = some k) : RT.oks lt (bpop lt l k) :=
  bmeld_oks hlt (oks_rev ((RT.ok_eq lt k).1 (oks_get h hk)).2) (oks_out h _)
omit hlt in
theorem bpop_alls {l : List (RT α)} {k : RT α} (hb : k.beside = []) (hk : l[leastN lt (l.map RT.root) (l.length - 1)]? = some k) : (RT.alls l).Perm (k.root :: RT.alls (bpop lt l k)) := by
  refine (alls_out hk).trans (.cons _ ?_)
  rw [hb, List.nil_append]
  exact ((bmeld_alls ..).trans ((alls_rev _).append_right _)).symm
theorem spop_oks {l : List (RT α)} {k : RT α} (h : RT.oks lt l) (hk : l[leastN lt (l.map RT.root) (l.length - 1)]? = some k) : RT.oks lt (spop lt l k) :=
  sins_oks hlt _ (bmeld_oks hlt (oks_rev ((RT.ok_eq lt k).1 (oks_get h hk)).2) (slevel_oks hlt (oks_out h _)))
omit hlt in
theorem spop_alls {l : List (RT α)} {k : RT α} (hk : l[leastN lt (l.map RT.root) (l.length - 1)]? = some k) : (RT.alls l).Perm (k.root :: RT.alls (spop lt l k)) := by
  refine (alls_out hk).trans (.cons _ ?_)
  rw [List.append_assoc]
  exact ((sins_alls ..).trans (List.Perm.append_left _ ((bmeld_alls ..).trans ((alls_rev _).append (slevel_alls _))))).symm
end
section
variable {α : Type}
mutual
def RT.nob : RT α → Prop
  | .node _ bs ks => bs = [] ∧ RT.nobs ks
def RT.nobs : List (RT α) → Prop
  | [] => True
  | k :: r => RT.nob k ∧ RT.nobs r
end
theorem RT.nobs_iff : ∀ l : List (RT α), RT.nobs l ↔ ∀ t ∈ l, RT.nob t
  | [] => by simp [RT.nobs]
  | k :: r => by simp [RT.nobs, RT.nobs_iff r]
theorem RT.nob_eq (t : RT α) : RT.nob t ↔ t.beside = [] ∧ RT.nobs t.kids := by cases t; exact Iff.rfl
variable {lt : α → α → Bool}
theorem RT.link_nob {a b : RT α} (ha : RT.nob a) (hb : RT.nob b) : RT.nob (RT.link lt a b) := by
  have ha' := (RT.nob_eq a).1 ha
  have hb' := (RT.nob_eq b).1 hb
  unfold RT.link
  split
  · exact ⟨hb'.1, ha, hb'.2⟩
  · exact ⟨ha'.1, hb, ha'.2⟩
theorem bput_nobs : ∀ {l : List (RT α)} {t : RT α}, RT.nob t → RT.nobs l → RT.nobs (bput lt t l)
  | [], _, h, _ => ⟨h, trivial⟩
  | f :: r, t, h, h2 => by
    unfold bput
    split
    · exact ⟨h, h2⟩
    · exact bput_nobs (RT.link_nob h h2.1) h2.2
theorem bmeld_nobs {a b : List (RT α)} (ha : RT.nobs a) (hb : RT.nobs b) : RT.nobs (bmeld lt a b) := by
  fun_induction bmeld lt a b with
  | case1 b => exact hb
  | case2 f a => exact ha
  | case3 f a g b h ih => exact ⟨ha.1, ih ha.2 hb⟩
  | case4 f a g b h h2 ih => exact ⟨hb.1, ih ha hb.2⟩
  | case5 f a g b h h2 ih => exact bput_nobs (RT.link_nob ha.1 hb.1) (ih ha.2 hb.2)
theorem nobs_get {l : List (RT α)} (h : RT.nobs l) {i : Nat} {k : RT α} (hk : l[i]? = some k) : RT.nob k := (RT.nobs_iff l).1 h k (List.mem_of_getElem? hk)
theorem bpop_nobs {l : List (RT α)} {k : RT α} (h : RT.nobs l) (hk : l[leastN lt (l.map RT.root) (l.length - 1)]? = some k) : RT.nobs (bpop lt l k) :=
  bmeld_nobs ((RT.nobs_iff _).2 fun t ht => (RT.nobs_iff _).1 ((RT.nob_eq k).1 (nobs_get h hk)).2 t (List.mem_reverse.1 ht)) ((RT.nobs_iff _).2 fun t ht => (RT.nobs_iff l).1 h t (List.mem_of_mem_eraseIdx ht))
end
def Ro.els : Ro → List El
  | .nil => []
  | .node x ts => x :: RT.alls ts
def Ro.ok : Ro → Prop
  | .nil => True
  | .node x ts => AllGe x (RT.alls ts) ∧ RT.oks ltE ts
theorem Ro.els_size : ∀ t : Ro, t.els.length = t.size
  | .nil => rfl
  | .node _ ts => by simp only [Ro.els, Ro.size, List.length_cons, RT.alls_length]; omega
theorem Ro.insert_els (x : El) : ∀ t : Ro, (Ro.insert x t).els.Perm (x :: t.els)
  | .nil => .refl _
  | .node r ts => by
    simp only [Ro.insert]
    split
    · exact (sinsert_alls r ts).cons x
    · exact ((sinsert_alls x ts).cons r).trans (List.Perm.swap x r _)
theorem Ro.insert_ok (x : El) : ∀ {t : Ro}, t.ok → (Ro.insert x t).ok
  | .nil, _ => ⟨fun _ h => (nomatch h), trivial⟩
  | .node r ts, h => by
    simp only [Ro.insert]
    split
    · rename_i h2
      have h3 := ltE_asym h2
      exact ⟨AllGe.perm (.cons h3 (h.1.trans h3)) (sinsert_alls ..), sinsert_oks swoE h.2⟩
    · rename_i h2
      have h3 : ltE x r = false := by simpa using h2
      exact ⟨AllGe.perm (.cons h3 h.1) (sinsert_alls ..), sinsert_oks swoE h.2⟩
theorem Ro.meld_els (a b : Ro) : (a.meld b).els.Perm (a.els ++ b.els) := by
  unfold Ro.meld
  split
  · exact .refl _
  · simp [Ro.els]
  · rename_i r ts s us
    split <;> refine List.perm_iff_count.2 fun e => ?_
    · have h1 := (sinsert_alls (lt := ltE) r (smeld ltE ts us)).count_eq e
      have h2 := (smeld_alls (lt := ltE) ts us).count_eq e
      simp only [Ro.els, List.count_append, List.count_cons] at h1 h2 ⊢
      omega
    · have h1 := (sinsert_alls (lt := ltE) s (smeld ltE ts us)).count_eq e
      have h2 := (smeld_alls (lt := ltE) ts us).count_eq e
      simp only [Ro.els, List.count_append, List.count_cons] at h1 h2 ⊢
      omega
theorem Ro.meld_ok {a b : Ro} (ha : a.ok) (hb : b.ok) : (a.meld b).ok := by
  unfold Ro.meld
  split
  · exact hb
  · exact ha
  · rename_i r ts s us
    split
    · rename_i h
      have h2 := ltE_asym h
      exact ⟨AllGe.perm (.cons h2 (AllGe.perm ((ha.1.trans h2).app hb.1) (smeld_alls ..))) (sinsert_alls ..), sinsert_oks swoE (smeld_oks swoE ha.2 hb.2)⟩
    · rename_i h
      have h2 : ltE s r = false := by simpa using h
      exact ⟨AllGe.perm (.cons h2 (AllGe.perm (ha.1.app (hb.1.trans h2)) (smeld_alls ..))) (sinsert_alls ..), sinsert_oks swoE (smeld_oks swoE ha.2 hb.2)⟩
mutual
def Bt.els : Bt → List El
  | .nil => []
  | .node x ts => x :: Bt.elsQ ts
def Bt.elsQ : List (RT Bt) → List El
  | [] => []
  | t :: r => Bt.elsT t ++ Bt.elsQ r
def Bt.elsT : RT Bt → List El
  | .node x bs ks => Bt.els x ++ (Bt.elsL bs ++ Bt.elsQ ks)
def Bt.elsL : List Bt → List El
  | [] => []
  | h :: r => Bt.els h ++ Bt.elsL r
end
theorem Bt.elsL_append (l r : List Bt) : Bt.elsL (l ++ r) = Bt.elsL l ++ Bt.elsL r := by
  induction l with
  | nil => simp [Bt.elsL]
  | cons k l ih => simp only [List.cons_append, Bt.elsL, ih, List.append_assoc]
theorem Bt.elsL_flat : ∀ l : List Bt, Bt.elsL l = l.flatMap Bt.els
  | [] => by simp [Bt.elsL]
  | k :: r => by simp only [Bt.elsL, List.flatMap_cons, Bt.elsL_flat r]
theorem Bt.elsL_perm {l r : List Bt} (h : l.Perm r) : (Bt.elsL l).Perm (Bt.elsL r) := by
  rw [Bt.elsL_flat, Bt.elsL_flat]
  exact h.flatMap_right _
mutual
theorem Bt.elsT_all : ∀ t : RT Bt, Bt.elsL (RT.all t) = Bt.elsT t
  | .node x bs ks => by simp only [RT.all, Bt.elsL, Bt.elsL_append, Bt.elsT, Bt.elsQ_alls ks]
theorem Bt.elsQ_alls : ∀ l : List (RT Bt), Bt.elsL (RT.alls l) = Bt.elsQ l
  | [] => by simp [RT.alls, Bt.elsL, Bt.elsQ]
  | t :: r => by simp only [RT.alls, Bt.elsL_append, Bt.elsQ, Bt.elsT_all t, Bt.elsQ_alls r]
end
mutual
def Bt.ok : Bt → Prop
  | .nil => True
  | .node x ts => AllGe x (Bt.elsQ ts) ∧ RT.oks ltB ts ∧ Bt.okQ ts
def Bt.okQ : List (RT Bt) → Prop
  | [] => True
  | t :: r => Bt.okT t ∧ Bt.okQ r
def Bt.okT : RT Bt → Prop
  | .node x bs ks => (x ≠ .nil ∧ Bt.ok x) ∧ Bt.okL bs ∧ Bt.okQ ks
def Bt.okL : List Bt → Prop
  | [] => True
  | h :: r => (h ≠ .nil ∧ Bt.ok h) ∧ Bt.okL r
end
theorem Bt.okL_append (l r : List Bt) : Bt.okL (l ++ r) ↔ Bt.okL l ∧ Bt.okL r := by
  induction l with
  | nil => simp [Bt.okL]
  | cons k l ih => simp only [List.cons_append, Bt.okL, ih, and_assoc]
theorem Bt.okL_iff : ∀ l : List Bt, Bt.okL l ↔ ∀ h ∈ l, h ≠ .nil ∧ h.ok
  | [] => by simp [Bt.okL]
  | k :: r => by simp only [Bt.okL, Bt.okL_iff r, List.forall_mem_cons]
mutual
theorem Bt.okT_all : ∀ t : RT Bt, Bt.okL (RT.all t) ↔ Bt.okT t
  | .node x bs ks => by simp only [RT.all, Bt.okL, Bt.okL_append, Bt.okT, Bt.okQ_alls ks]
theorem Bt.okQ_alls : ∀ l : List (RT Bt), Bt.okL (RT.alls l) ↔ Bt.okQ l
  | [] => by simp [RT.alls, Bt.okL, Bt.okQ]
  | t :: r => by simp only [RT.alls, Bt.okL_append, Bt.okQ, Bt.okT_all t, Bt.okQ_alls r]
end
theorem Bt.okL_perm {l r : List Bt} (p : l.Perm r) (h : Bt.okL r) : Bt.okL l := (Bt.okL_iff l).2 fun x hx => (Bt.okL_iff r).1 h x (p.mem_iff.1 hx)
mutual
theorem Bt.cnt_els (z : Nat) : ∀ t : Bt, t ≠ .nil → t.ok → Bt.cnt z t = t.els.length
  | .nil, h, _ => absurd rfl h
  | .node x ts, _, h => by simp only [Bt.cnt, Bt.els, List.length_cons, Bt.cntQ_els z ts h.2.2]; omega
theorem Bt.cntQ_els (z : Nat) : ∀ l : List (RT Bt), Bt.okQ l → Bt.cntQ z l = (Bt.elsQ l).length
  | [], _ => by simp [Bt.cntQ, Bt.elsQ]
  | t :: r, h => by simp only [Bt.cntQ, Bt.elsQ, List.length_append, Bt.cntT_els z t h.1, Bt.cntQ_els z r h.2]
theorem Bt.cntT_els (z : Nat) : ∀ t : RT Bt, Bt.okT t → Bt.cntT z t = (Bt.elsT t).length
  | .node x bs ks, h => by simp only [Bt.cntT, Bt.elsT, List.length_append, Bt.cnt_els z x h.1.1 h.1.2, Bt.cntL_els z bs h.2.1, Bt.cntQ_els z ks h.2.2]; omega
theorem Bt.cntL_els (z : Nat) : ∀ l : List Bt, Bt.okL l → Bt.cntL z l = (Bt.elsL l).length
  | [], _ => by simp [Bt.cntL, Bt.elsL]
  | t :: r, h => by simp only [Bt.cntL, Bt.elsL, List.length_append, Bt.cnt_els z t h.1.1 h.1.2, Bt.cntL_els z r h.2]
end
theorem Bt.queue_els : ∀ {t : Bt}, t.ok → RT.sizes t.queue ≤ t.els.length
  | .nil, _ => by simp [Bt.queue, RT.sizes]
  | .node x ts, h => by
    have h1 := Bt.cntL_length (RT.alls ts)
    rw [RT.alls_length, Bt.cntQ_alls, Bt.cntQ_els 1 ts h.2.2] at h1
    simp only [Bt.queue, Bt.els, List.length_cons]
    omega
theorem swoB : Go.Sort.SWO ltB where
  irrefl x := swoE.irrefl _
  trans x y z h1 h2 := swoE.trans _ _ _ h1 h2
  ntrans x y z h1 h2 := swoE.ntrans _ _ _ h1 h2
theorem Bt.meld_els (a b : Bt) : (a.meld b).els.Perm (a.els ++ b.els) := by
  unfold Bt.meld
  split
  · simp [Bt.els]
  · simp [Bt.els]
  · rename_i x ts y us
    split <;> refine List.perm_iff_count.2 fun e => ?_
    · have h1 := (Bt.elsL_perm (sinsert_alls (lt := ltB) (.node x ts) us)).count_eq e
      simp only [Bt.els, Bt.elsL, Bt.elsQ_alls, List.count_append, List.count_cons] at h1 ⊢
      omega
    · have h1 := (Bt.elsL_perm (sinsert_alls (lt := ltB) (.node y us) ts)).count_eq e
      simp only [Bt.els, Bt.elsL, Bt.elsQ_alls, List.count_append, List.count_cons] at h1 ⊢
      omega
theorem Bt.meld_ok {a b : Bt} (ha : a.ok) (hb : b.ok) : (a.meld b).ok := by
  unfold Bt.meld
  split
  · exact hb
  · exact ha
  · rename_i x ts y us
    have ha' : AllGe x (Bt.elsQ ts) ∧ RT.oks ltB ts ∧ Bt.okQ ts := by simpa only [Bt.ok] using ha
    have hb' : AllGe y (Bt.elsQ us) ∧ RT.oks ltB us ∧ Bt.okQ us := by simpa only [Bt.ok] using hb
    split
    · rename_i h
      have h2 := ltE_asym h
      have hp := sinsert_alls (lt := ltB) (.node x ts) us
      refine (show AllGe y (Bt.elsQ _) ∧ RT.oks ltB _ ∧ Bt.okQ _ from ⟨?_, sinsert_oks swoB hb'.2.1, ?_⟩)
      · rw [← Bt.elsQ_alls]
        refine AllGe.perm ?_ (Bt.elsL_perm hp)
        simp only [Bt.elsL, Bt.els, Bt.elsQ_alls]
        exact AllGe.app (.cons h2 (ha'.1.trans h2)) hb'.1
      · rw [← Bt.okQ_alls]
        refine Bt.okL_perm hp ?_
        exact ⟨⟨by simp, ha⟩, (Bt.okQ_alls us).2 hb'.2.2⟩
    · rename_i h
      have h2 : ltE y x = false := by simpa using h
      have hp := sinsert_alls (lt := ltB) (.node y us) ts
      refine (show AllGe x (Bt.elsQ _) ∧ RT.oks ltB _ ∧ Bt.okQ _ from ⟨?_, sinsert_oks swoB ha'.2.1, ?_⟩)
      · rw [← Bt.elsQ_alls]
        refine AllGe.perm ?_ (Bt.elsL_perm hp)
        simp only [Bt.elsL, Bt.els, Bt.elsQ_alls]
        exact AllGe.app (.cons h2 (hb'.1.trans h2)) ha'.1
      · rw [← Bt.okQ_alls]
        refine Bt.okL_perm hp ?_
        exact ⟨⟨by simp, hb⟩, (Bt.okQ_alls ts).2 ha'.2.2⟩
theorem Bt.one_ok (x : El) : (Bt.node x []).ok := ⟨fun _ h => by simp [Bt.elsQ] at h, trivial, trivial⟩
theorem Bt.insert_els (x : El) (t : Bt) : (Bt.insert x t).els.Perm (x :: t.els) := by
  refine (Bt.meld_els ..).trans ?_
  simp [Bt.els, Bt.elsQ]
theorem Bt.insert_ok (x : El) {t : Bt} (h : t.ok) : (Bt.insert x t).ok := Bt.meld_ok (Bt.one_ok x) h
def Bt.popped (ts : List (RT Bt)) (k : RT Bt) (y : El) (us : List (RT Bt)) : Bt := .node y (smeld ltB us (spop ltB ts k))
theorem Bt.popped_els {x y : El} {ts us : List (RT Bt)} {k : RT Bt} (hk : ts[leastN ltB (ts.map RT.root) (ts.length - 1)]? = some k) (hr : k.root = .node y us) : (Bt.node x ts).els.Perm (x :: (Bt.popped ts k y us).els) := by
  have h0 := spop_alls hk
  rw [hr] at h0
  refine List.perm_iff_count.2 fun e => ?_
  have h1 := (Bt.elsL_perm h0).count_eq e
  have h2 := (Bt.elsL_perm (smeld_alls (lt := ltB) us (spop ltB ts k))).count_eq e
  simp only [Bt.popped, Bt.els, Bt.elsL, Bt.elsL_append, Bt.elsQ_alls, List.count_append, List.count_cons] at h1 h2 ⊢
  omega
theorem Bt.popped_ok {x y : El} {ts us : List (RT Bt)} {k : RT Bt} (h : (Bt.node x ts).ok) (hk : ts[leastN ltB (ts.map RT.root) (ts.length - 1)]? = some k) (hr : k.root = .node y us) : (Bt.popped ts k y us).ok := by
  have h' : AllGe x (Bt.elsQ ts) ∧ RT.oks ltB ts ∧ Bt.okQ ts := by simpa only [Bt.ok] using h
  have h0 := spop_alls hk
  have hl := least_tree swoB h'.2.1 hk
  rw [hr] at h0 hl
  have hokL := Bt.okL_perm h0.symm ((Bt.okQ_alls ts).2 h'.2.2)
  have hy : AllGe y (Bt.elsQ us) ∧ RT.oks ltB us ∧ Bt.okQ us := by simpa only [Bt.ok] using hokL.1.2
  have hp := smeld_alls (lt := ltB) us (spop ltB ts k)
  refine (show AllGe y (Bt.elsQ _) ∧ RT.oks ltB _ ∧ Bt.okQ _ from ⟨?_, smeld_oks swoB hy.2.1 (spop_oks swoB h'.2.1 hk), ?_⟩)
  · rw [← Bt.elsQ_alls]
    refine AllGe.perm ?_ (Bt.elsL_perm hp)
    rw [Bt.elsL_append, Bt.elsQ_alls]
    refine hy.1.app fun e he => ?_
    rw [Bt.elsL_flat] at he
    obtain ⟨g, hg, he⟩ := List.mem_flatMap.1 he
    have h3 : ltE g.key y = false := hl g (h0.mem_iff.2 (List.mem_cons_of_mem _ hg))
    have h4 := (Bt.okL_iff _).1 hokL.2 g hg
    cases g with
    | nil => exact absurd rfl h4.1
    | node z vs =>
      have h5 : AllGe z (Bt.elsQ vs) ∧ RT.oks ltB vs ∧ Bt.okQ vs := by simpa only [Bt.ok] using h4.2
      simp only [Bt.els] at he
      rcases List.mem_cons.1 he with rfl | he
      · exact h3
      · exact swoE.ntrans _ _ _ (h5.1 e he) h3
  · rw [← Bt.okQ_alls]
    refine Bt.okL_perm hp ?_
    exact (Bt.okL_append _ _).2 ⟨(Bt.okQ_alls us).2 hy.2.2, hokL.2⟩
end Go.Eng
/- Rows of pointers: one written, some taken out, some cleared. No conditions. -/
namespace Go.Eng
open Go
variable {mb : Option Nat}
def PtRow (E : TypeId) (w : World) (M : Mem mb) (g n cap : Nat) (l : List (Option Addr)) : Prop := Buf w M E 1 (.slice (some ⟨g, 0, none⟩) n cap) n (ptrs l)
section
variable {E g n cap : Nat} {w w' : World} {M M' : Mem mb} {l : List (Option Addr)} {S : Nat → Prop}
theorem PtRow.len (h : PtRow E w M g n cap l) : l.length = n := by
  have h1 := h.1.1
  rw [ptrs_length] at h1
  omega
theorem PtRow.step (h : PtRow E w M g n cap l) {i : Nat} (k : StepC S i M w M' w') (hb : ¬ S g) : PtRow E w' M' g n cap l := Buf.step h k fun b hb' => by cases hb'; exact hb
theorem PtRow.then (h : PtRow E w M g n cap l) {i : Nat} (k : StepC Nope i M w M' w') : PtRow E w' M' g n cap l := h.step k id
theorem PtRow.cell (h : PtRow E w M g n cap l) {j : Nat} {q : Option Addr} (hj : l[j]? = some q) : w.cell? ⟨g, 0 + j, none⟩ = some (.pointer q) := Buf.cell h (by simp [ptrs, hj])
theorem h_storeP {c : Cx} {l' : Env} {ty : TypeId} {K : Value → World → Prop} {x y : Operand} {t i : Nat} {q : Option Addr} (hs : Sat M w) (hd : PtRow E w M g n cap l)
    (hx : opv l' x = some (.pointer (some ⟨g, 0 + i * 1, none⟩))) (hy : opv l' y = some (.pointer q)) (hn : sizeB c.P t = some 1) (h1 : i < n)
    (hk : ∀ w', Step (Just g) M w M w' → PtRow E w' M g n cap (l.set i q) → K undef w') : HW c l' (.store t x y) ty w K :=
  h_storeB hs hd hx hy (rfl : vcells _ = [.pointer q]) hn (by simp; omega) rfl (by
    show (ptrs l).set _ _ = ptrs (l.set i q)
    rw [ptrs, ptrs, List.map_set]
    simp) hk
end
theorem q_slice3 {P : Program} {l : Env} {ty : TypeId} {w : World} {x y y' z : Operand} {T e size n cap : Nat} {a : Option Addr} {k k' k2 : IntKind} {i j m : Int} (hT : P.underlying T = some (.slice e)) (hz : sizeB P e = some size)
    (hx : opv l x = some (.slice a n cap)) (hlo : opv l y = some (.int k i)) (hhi : opv l y' = some (.int k' j)) (hmx : opv l z = some (.int k2 m)) (h0 : 0 ≤ i) (h1 : i ≤ j) (h2 : j ≤ m) (h3 : m ≤ cap) :
    Quiet P l (.slice T x (some y) (some y') (some z)) ty w (.slice (if m.toNat = i.toNat then a else a.map (·.add (i.toNat * size))) (j.toNat - i.toNat) (m.toNat - i.toNat)) := fun ρ h _ _ _ _ => by
  refine run_v ?_
  have hb : (Instr.sliceBounds true n cap (some (.int k i)) (some (.int k' j)) (some (.int k2 m))).run P w = .ok (i.toNat, j.toNat, m.toNat) w := by
    unfold Instr.sliceBounds
    simp [Instr.sliceBound, asIntOf, show (0 : Int) ≤ m ∧ m ≤ cap from ⟨by omega, h3⟩, show (0 : Int) ≤ j ∧ j ≤ max m 0 from ⟨by omega, by omega⟩, show (0 : Int) ≤ i ∧ i ≤ max j 0 from ⟨by omega, by omega⟩]
  rw [h x _ hx]
  simp only [Option.map_some, h y _ hlo, h y' _ hhi, h z _ hmx]
  simp [Instr.sliceAt, run_underlying hT, Instr.slice, hb, run_sizeB hz]
theorem front_val2 {a : Option Addr} {sc k : Nat} {z : Int} (h : z.toNat = k) : Value.slice (if sc = (0 : Int).toNat then a else a.map (·.add ((0 : Int).toNat * 1))) (z.toNat - (0 : Int).toNat) (sc - (0 : Int).toNat) = .slice a k sc := by
  subst h
  cases a <;> simp [Addr.add]
theorem Buf.head0 {w : World} {M : Mem mb} {e sz n : Nat} {v : Value} {cs : List Value} (h : Buf w M e sz v n cs) (hn : 0 < n) : ∃ g c, v = .slice (some ⟨g, 0, none⟩) n c := by
  obtain ⟨⟨_, h2⟩, _⟩ := h
  rcases h2 with ⟨_, rfl⟩ | ⟨g, cap, cur, rfl, _⟩
  · omega
  · exact ⟨g, cap, rfl⟩
theorem take_mid {α : Type} {cur news : List α} {N i m : Nat} (hm : news.length = m) (h : i + m ≤ N) (hN : N ≤ cur.length) : (cur.take i ++ news ++ cur.drop (i + m)).take N = (cur.take N).take i ++ news ++ (cur.take N).drop (i + m) := by
  have h1 : (cur.take i ++ news).length = i + m := by simp; omega
  rw [List.take_append, h1, List.take_of_length_le (by omega), List.drop_take, List.take_take, Nat.min_eq_left (by omega)]
theorem h_appendIn {c : Cx} {l : Env} {ty : TypeId} {w : World} {M : Mem mb} {K : Value → World → Prop} {t e bytes : Nat} (he : elemOk c.P t e 1 bytes = true) (hs : Sat M w) {x y : Operand} {g N cap i m : Nat} {cs news : List Value} {u : Value}
    (hb : Buf w M e 1 (.slice (some ⟨g, 0, none⟩) N cap) N cs) (hr : Rd w 1 u m news) (hx : opv l x = some (.slice (some ⟨g, 0, none⟩) i cap)) (hy : opv l y = some u) (h1 : ∀ x ∈ news, x.oneCell' = true) (him : i + m ≤ N)
    (hk : ∀ w', Step (Just g) M w M w' → Buf w' M e 1 (.slice (some ⟨g, 0, none⟩) N cap) N (cs.take i ++ news ++ cs.drop (i + m)) → K (.slice (some ⟨g, 0, none⟩) (i + m) cap) w') :
    HW c l (.call ⟨.builtin .append, #[x, y], #[t, t]⟩) ty w K := by
  have he' := elemOk_spec he
  obtain ⟨ii, z, hi, hz, hsz1, hby, hzs⟩ := he'.ex
  have hst : ∃ w', (Builtin.append_ #[t, t] ty #[.slice (some ⟨g, 0, none⟩) i cap, u]).run c.P w = .ok (.slice (some ⟨g, 0, none⟩) (i + m) cap) w' ∧ Step (Just g) M w M w' ∧ Buf w' M e 1 (.slice (some ⟨g, 0, none⟩) N cap) N (cs.take i ++ news ++ cs.drop (i + m)) := by
    obtain ⟨⟨hlen, h2⟩, h3⟩ := id hb
    rcases h2 with ⟨h2, _⟩ | ⟨g', cap', cur, h2, _, hh, hnc, hcm, hsz, htk⟩
    · cases h2
    cases h2
    rcases hr with ⟨hl, ⟨rfl, a, cp, rfl, _⟩ | ⟨b, o, cp, rfl, hcap, hcell⟩⟩
    · have hnil : news = [] := List.eq_nil_of_length_eq_zero (by simpa using hl)
      subst hnil
      have hf : (Builtin.firstCells ii.size 0 (.slice a 0 cp)).run c.P w = .ok #[] w := by
        cases a <;> simp [Builtin.firstCells, loadCells, loadCellsFrom]
      have hic : i ≤ cap := by omega
      refine ⟨w, ?_, Step.refl _ hs, by simpa using hb⟩
      simp [Builtin.append_, run_underlying he'.sl, sizeOf, typeInfo, hi, Builtin.lenOf, hf, hic, storeCells]
    · have hl' : news.length = m * ii.size := by rw [hsz1]; exact hl
      have hnews : ∀ j x, news[j]? = some x → w.cell? ((⟨b, o, none⟩ : Addr).add j) = some x := fun j x hj => by rw [Addr.add_lit]; exact hcell j x hj
      have hfit : i * ii.size + news.length ≤ cur.size := by rw [hl', hsz1, hsz]; omega
      have hrun := run_append_room (P := c.P) w t ty e ii he'.sl hi g i cap cur hh ⟨b, o, none⟩ m cp news hl' hnews h1 (by omega) hfit
      have hlm : news.length = m := by rw [hl]; omega
      refine ⟨_, hrun, ?_, ?_⟩
      · exact Step.just hs (h3 g rfl) (fun k hk => setRow_other w g k _ (fun h => hk h)) (by simp) rfl rfl rfl
      · refine ⟨⟨?_, .inr ⟨g, cap, _, rfl, Nat.zero_le _, setRow_heap w g cur _ e _ hh, hnc, hcm, ?_, ?_⟩⟩, fun k hk => by cases hk; exact h3 g rfl⟩
        · simp only [List.length_append, List.length_take, List.length_drop, hlm]; omega
        · simp only [List.size_toArray, List.length_append, List.length_take, List.length_drop, Array.length_toList, hsz1]; omega
        · have hcs : cs = cur.toList.take (N * 1) := htk.symm
          have hN : N ≤ cur.toList.length := by rw [Array.length_toList, hsz]; omega
          rw [List.toList_toArray, hsz1, Nat.mul_one, Nat.mul_one, hlm, hcs, Nat.mul_one]
          exact take_mid hlm him hN
  obtain ⟨w', hrun, hstep, hbuf⟩ := hst
  refine HW.value (w' := w') rfl (fun ρ h _ _ _ _ => ?_) (hk w' hstep hbuf)
  simp only [execOp, resolve, List.map_toArray, List.map_cons, List.map_nil, h x _ hx, h y _ hy]
  simp [invoke, builtin, hrun]
theorem h_clearP {c : Cx} {l : Env} {ty : TypeId} {w : World} {M : Mem mb} {K : Value → World → Prop} {t e : Nat} (ht : c.P.underlying t = some (.slice e)) (hz : zeroOf c.P e = some (.pointer none)) (hs : Sat M w) {x : Operand} {g N cap k m c' : Nat} {cs : List Value}
    (hb : Buf w M e 1 (.slice (some ⟨g, 0, none⟩) N cap) N cs) (hx : opv l x = some (.slice (some ⟨g, k, none⟩) m c')) (hkm : k + m ≤ N)
    (hk : ∀ w', Step (Just g) M w M w' → Buf w' M e 1 (.slice (some ⟨g, 0, none⟩) N cap) N (cs.take k ++ List.replicate m (.pointer none) ++ cs.drop (k + m)) → K (.tuple #[]) w') :
    HW c l (.call ⟨.builtin .clear, #[x], #[t]⟩) ty w K := by
  have hst : ∃ w', (Builtin.clear_ #[t] ty #[.slice (some ⟨g, k, none⟩) m c']).run c.P w = .ok (.tuple #[]) w' ∧ Step (Just g) M w M w' ∧ Buf w' M e 1 (.slice (some ⟨g, 0, none⟩) N cap) N (cs.take k ++ List.replicate m (.pointer none) ++ cs.drop (k + m)) := by
    obtain ⟨⟨hlen, h2⟩, h3⟩ := id hb
    rcases h2 with ⟨h2, _⟩ | ⟨g', cap', cur, h2, _, hh, hnc, hcm, hsz, htk⟩
    · cases h2
    cases h2
    by_cases hm : m = 0
    · subst hm
      refine ⟨w, ?_, Step.refl _ hs, by simpa using hb⟩
      simp [Builtin.clear_, run_underlying ht]
    · have hzc : (Builtin.zeroCells (Value.pointer none).cells m).toList = List.replicate m (.pointer none) := by
        have h0 : (Value.pointer none).cells = #[.pointer none] := rfl
        rw [h0]
        refine List.ext_getElem? fun j => ?_
        simp [Builtin.zeroCells, List.getElem?_replicate, List.getElem?_map, List.getElem?_range]
        split <;> simp_all [Nat.mod_one]
      have hw := run_storeCells_at c.P g k e (List.replicate m (.pointer none)) 0 cur w hh (by rw [List.length_replicate, hsz]; omega) (fun v hv => by obtain rfl := List.eq_of_mem_replicate hv; rfl)
      simp only [Nat.add_zero, List.length_replicate] at hw
      refine ⟨w.setRow g (cur.toList.take k ++ List.replicate m (Value.pointer none) ++ cur.toList.drop (k + m)).toArray, ?_, ?_, ?_⟩
      · obtain ⟨m', rfl⟩ : ∃ m', m = m' + 1 := ⟨m - 1, by omega⟩
        simp [Builtin.clear_, run_underlying ht, run_zeroOf hz, hzc]
        rw [hw]
        simp
      · exact Step.just hs (h3 g rfl) (fun k hk => setRow_other w g k _ (fun h => hk h)) (by simp) rfl rfl rfl
      · refine ⟨⟨?_, .inr ⟨g, cap, _, rfl, Nat.zero_le _, setRow_heap w g cur _ e _ hh, hnc, hcm, ?_, ?_⟩⟩, fun k hk => by cases hk; exact h3 g rfl⟩
        · simp only [List.length_append, List.length_take, List.length_drop, List.length_replicate]; omega
        · simp only [List.size_toArray, List.length_append, List.length_take, List.length_drop, Array.length_toList, List.length_replicate]; omega
        · have hcs : cs = cur.toList.take (N * 1) := htk.symm
          have hN : N ≤ cur.toList.length := by rw [Array.length_toList, hsz]; omega
          rw [List.toList_toArray, Nat.mul_one, hcs, Nat.mul_one]
          exact take_mid List.length_replicate hkm hN
  obtain ⟨w', hrun, hstep, hbuf⟩ := hst
  refine HW.value (w' := w') rfl (fun ρ h _ _ _ _ => ?_) (hk w' hstep hbuf)
  simp only [execOp, resolve, List.map_toArray, List.map_cons, List.map_nil, h x _ hx]
  simp [invoke, builtin, hrun]
def Rvd (l l' : List (Option Addr)) (i : Nat) : Prop := l'.length = l.length ∧ ∀ k, k < l.length → l'[k]? = if k < i ∨ l.length ≤ k + i then l[l.length - 1 - k]? else l[k]?
theorem rvd_zero (l : List (Option Addr)) : Rvd l l 0 := ⟨rfl, fun k hk => by rw [if_neg (by omega)]⟩
theorem rvd_step {l l' : List (Option Addr)} {i j : Nat} {x y : Option Addr} (h : Rvd l l' i) (hij : i + j + 1 = l.length) (hlt : i < j) (hx : l'[i]? = some x) (hy : l'[j]? = some y) : Rvd l ((l'.set i y).set j x) (i + 1) := by
  obtain ⟨h1, h2⟩ := h
  refine ⟨by simpa using h1, fun k hk => ?_⟩
  rw [List.getElem?_set, List.getElem?_set]
  have hxi := h2 i (by omega)
  have hyj := h2 j (by omega)
  rw [if_neg (by omega)] at hxi hyj
  by_cases e : j = k
  · subst e
    rw [if_pos rfl, List.length_set, if_pos (by omega), if_pos (by omega), show l.length - 1 - j = i by omega, ← hxi, hx]
  · rw [if_neg e]
    by_cases e2 : i = k
    · subst e2
      rw [if_pos rfl, if_pos (by omega), if_pos (by omega), show l.length - 1 - i = j by omega, ← hyj, hy]
    · rw [if_neg e2, h2 k hk]
      by_cases c : k < i ∨ l.length ≤ k + i
      · rw [if_pos c, if_pos (by omega)]
      · rw [if_neg c, if_neg (by omega)]
theorem rvd_done {l l' : List (Option Addr)} {i : Nat} (h : Rvd l l' i) (hi : l.length ≤ 2 * i + 1) (h0 : 2 * i ≤ l.length) : l' = l.reverse := by
  obtain ⟨h1, h2⟩ := h
  refine List.ext_getElem? fun k => ?_
  by_cases hk : k < l.length
  · rw [h2 k hk, List.getElem?_reverse hk]
    split
    · rfl
    · congr 1; omega
  · rw [List.getElem?_eq_none (by omega), List.getElem?_eq_none (by simp; omega)]
theorem ptrs_out {l : List (Option Addr)} {i n : Nat} (hn : l.length = n) (hi : i < n) : ((ptrs l).take i ++ ((ptrs l).drop (i + 1)) ++ (ptrs l).drop (i + (n - (i + 1)))).take (n - 1) = ptrs (l.eraseIdx i) := by
  subst hn
  rw [List.take_append_of_le_length (by simp [ptrs]; omega), List.take_of_length_le (by simp [ptrs]; omega)]
  simp only [ptrs]
  rw [List.eraseIdx_eq_take_drop_succ, List.map_append, List.map_take, List.map_drop]
theorem treps_rev {α : Type} {T : TypeId} {sz : Nat} {enc : Enc α} {M : Raw} : ∀ {ts : List (RT α)} {l : List (Option Addr)}, TReps T sz enc M ts l → TReps T sz enc M ts.reverse l.reverse := by
  have app : ∀ {ts us : List (RT α)} {l m : List (Option Addr)}, TReps T sz enc M ts l → TReps T sz enc M us m → TReps T sz enc M (ts ++ us) (l ++ m) := by
    intro ts
    induction ts with
    | nil => intro us l m h h2; rw [treps_nil.1 h]; exact h2
    | cons k r ih =>
      intro us l m h h2
      obtain ⟨a, s, rfl, h3, h4⟩ := treps_cons.1 h
      exact treps_cons.2 ⟨a, s ++ m, rfl, h3, ih h4 h2⟩
  intro ts
  induction ts with
  | nil => intro l h; rw [treps_nil.1 h]; exact treps_nil.2 rfl
  | cons k r ih =>
    intro l h
    obtain ⟨a, s, rfl, h3, h4⟩ := treps_cons.1 h
    rw [List.reverse_cons, List.reverse_cons]
    exact app (ih h4) (treps_cons.2 ⟨a, [], rfl, h3, treps_nil.2 rfl⟩)
theorem treps_out {α : Type} {T : TypeId} {sz : Nat} {enc : Enc α} {M : Raw} : ∀ {ts : List (RT α)} {l : List (Option Addr)} (i : Nat), TReps T sz enc M ts l → TReps T sz enc M (ts.eraseIdx i) (l.eraseIdx i)
  | [], _, i, h => by rw [treps_nil.1 h]; exact treps_nil.2 rfl
  | k :: r, _, 0, h => by obtain ⟨a, s, rfl, _, h4⟩ := treps_cons.1 h; exact h4
  | k :: r, _, i + 1, h => by
    obtain ⟨a, s, rfl, h3, h4⟩ := treps_cons.1 h
    exact treps_cons.2 ⟨a, _, rfl, h3, treps_out i h4⟩
end Go.Eng
