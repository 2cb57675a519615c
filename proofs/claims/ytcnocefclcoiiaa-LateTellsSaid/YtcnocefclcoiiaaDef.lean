/- Deferred calls, and the library's locks of one goroutine. No conditions. -/
import Derived.Test.YtcnocefclcoiiaaEls
import Derived.DefersIn
import Derived.Laws.LoneSync
namespace Go.Eng
open Go

/-- A function entered as a deferred call of a frame that returns. -/
def DoesU (P : Program) (f : FuncId) (args : Array Value) (w : World) (K : Value → World → Prop) : Prop :=
  CallsDIn (fence none) 0 P f args .returning w fun e u' w' => u' = .returning ∧ retP K e w'

theorem DoesU.mono {P : Program} {f : FuncId} {args : Array Value} {w : World} {K K' : Value → World → Prop} (h : DoesU P f args w K) (hk : ∀ v w', K v w' → K' v w') : DoesU P f args w K' :=
  CallsDIn.mono h fun e _ w' ⟨hu, he⟩ => ⟨hu, by cases e <;> first | exact hk _ _ he | exact he⟩

theorem fn_enterU {P : Program} {f : FuncId} {fn : Func} {x : Code} {args : List Value} {w : World} {K : Value → World → Prop} {rs : List ResultVar} {n : Nat} {l : Env}
    (hf : P.funcs[f]? = some fn) (hb : fn.body = some x) (hr : fn.results = rs.toArray) (hn : fn.ntmps = n) (hsz : Nat.ble args.length n = true) (hl : argEnv args 0 = l)
    (h : CW ⟨P, none, n, []⟩ x (fnK P rs K) l w) : DoesU P f args.toArray w K := by
  subst hn
  subst hl
  refine callsDIn_of_wp hf hb trivial ?_
  refine wpIn_mono (h _ ⟨?_, rfl, ?_⟩) ?_
  · have := Nat.le_of_ble_eq_true hsz
    simp
    omega
  · intro t v ht
    obtain ⟨_, h2⟩ := argEnv_look args 0 t v ht
    have hlt := (List.getElem?_eq_some_iff.1 h2).1
    simp only [Nat.sub_zero] at h2 hlt
    rw [Array.getD_eq_getD_getElem?, Array.getElem?_append, if_pos (by simpa using hlt)]
    simp [h2]
  · intro e a w' ⟨h1, h2, l', hfit, hK⟩
    cases e with
    | normal => obtain ⟨vs, hv, hk⟩ := hK; exact ⟨hfit.defers, pack vs, resL_results hr hfit hv, hk⟩
    | ret => obtain ⟨vs, hv, hk⟩ := hK; exact ⟨hfit.defers, pack vs, resL_results hr hfit hv, hk⟩
    | panic ch => exact absurd rfl (h1 ch)
    | outgrown => exact absurd rfl h2
    | exit id => exact (hK : False).elim
    | goto id => exact (hK : False).elim

/-- One deferred call, at the door. -/
theorem leave_one {P : Program} {fn : Func} {tmps : Array Value} {K : Value → World → Prop} {f : FuncId} {vs : List Value} {ds : List Deferred} {w : World} (hc : callable P f = true)
    (h : DoesU P f vs.toArray w fun _ w' => LeavesIn (fence none) 0 P fn tmps (retP K) ds .returning w') :
    LeavesIn (fence none) 0 P fn tmps (retP K) (⟨.fn (.func f) #[], vs.toArray⟩ :: ds) .returning w :=
  leavesIn_cons (f := f) (args := vs.toArray) (by simp) (fun h => by simp [fence, Fence.wide] at h) (by simp [invoke, run_callable hc]) (fun _ _ => trivial)
    (CallsDIn.mono h fun e u' w' ⟨hu, he⟩ => by
      subst hu
      cases e with
      | returned v => exact he
      | panicked ch => exact (he : False).elim
      | outgrown => exact (he : False).elim)

/-- Code that lays deferred calls: c when it begins, c2 when it ends. -/
def CD (c c2 : Cx) (x : Code) (K : Env → World → Prop) (l : Env) (w : World) : Prop :=
  ∀ a, Fits c l a → x.wpIn (fence c.r) 0 c.P (fun e a' w' => e = .normal ∧ ∃ l', Fits c2 l' a' ∧ K l' w') a w
section
variable {c c1 c2 : Cx} {l : Env} {w : World} {K J : Env → World → Prop}
theorem cd_cw {x : Code} (h : CW c x (nrm K) l w) : CD c c x K l w := fun a ha =>
  wpIn_mono (h a ha) fun e a' w' ⟨_, _, l', hf, hK⟩ => by
    cases e <;> first | exact ⟨rfl, l', hf, hK⟩ | exact (hK : False).elim
theorem cd_seq {x y : Code} (J : Env → World → Prop) (h : CD c c1 x J l w) (hr : c1.r = c.r) (hp : c1.P = c.P) (h2 : ∀ l w, J l w → CD c1 c2 y K l w) : CD c c2 (.seq x y) K l w := fun a ha =>
  wpIn_seq (wpIn_mono (h a ha) fun e a' w' ⟨he, l', hf, hK⟩ => by
    subst he
    have h3 := h2 l' w' hK a' hf
    rw [hr, hp] at h3
    exact h3)
theorem cd_true {x : Operand} {t e : Code} (hc : opv l x = some (.bool true)) (ht : CD c c2 t K l w) : CD c c2 (.cond x t e) K l w := fun a ha => wpIn_cond_true (ha.ev hc) (ht a ha)

/-- A region's operations, the last one of which lays a deferred call. -/
def ASD (c c2 : Cx) (ops : Array Oper) (K : Env → World → Prop) (js : List Oper) (l : Env) (w : World) : Prop :=
  ∀ a, Fits c l a → wpListIn (fence c.r) 0 c.P ops (fun e a' w' => e = .normal ∧ ∃ l', Fits c2 l' a' ∧ K l' w') js a w
theorem cd_region {id : Nat} {lops : List Oper} (h : ASD c c2 lops.toArray K lops l w) : CD c c2 (.region id lops.toArray false) K l w := fun a ha => wpIn_region_lit (h a ha)
theorem asd_q {ops : Array Oper} {js : List Oper} {op : Op} {ty : TypeId} {pos : String} {after : Array Edge} {d : Nat} {v : Value} (hlt : Nat.blt d c.n = true) (hd : isDefer op = false) (hq : Quiet c.P l op ty w v) (h : ASD c c2 ops K js ((d, v) :: l) w) :
    ASD c c2 ops K (⟨some d, op, ty, pos, after, none⟩ :: js) l w := fun a ha => by
  show if _ then _ else _
  rw [if_pos (show Region.wanted _ _ = true from rfl)]
  exact (hq.hw (K := fun v' w' => v' = v ∧ w' = w) hd ⟨rfl, rfl⟩) a ha _ _ _ _ _ _ fun v' w' ⟨e1, e2⟩ => by subst e1; subst e2; exact h _ (ha.put hlt _)
theorem asd_defer {ops : Array Oper} {ty : TypeId} {pos : String} {after : Array Edge} {f : FuncId} {xs : List Operand} {ats : Array TypeId} {vs : List Value} (hv : opvs l xs = some vs) (hr : c.r = none) (hc : c2 = { c with D := ⟨.fn (.func f) #[], vs.toArray⟩ :: c.D }) (hk : K l w) :
    ASD c c2 ops K [⟨none, .defer ⟨.value (.func f), xs.toArray, ats⟩, ty, pos, after, none⟩] l w := fun a ha => by
  subst hc
  show if _ then _ else _
  rw [if_pos (show Region.wanted _ _ = true from rfl)]
  have e : xs.toArray.map a.eval = vs.toArray := by rw [List.map_toArray, opvs_map (fun x u hu => ha.ev hu) xs vs hv]
  refine ⟨fun _ _ => trivial, ?_⟩
  have hs : (Oper.semAt (fence c.r).round a.eval ⟨none, .defer ⟨.value (.func f), xs.toArray, ats⟩, ty, pos, after, none⟩).run c.P w = .ok (.defer ⟨.fn (.func f) #[], vs.toArray⟩) w := by
    rw [show (fence c.r).round = none from hr]
    simp [Oper.semAt, execOp, resolve, e, show a.eval (.func f) = .func (.func f) #[] #[] from rfl, Deferred.ofValue]
  rw [hs]
  exact ⟨rfl, l, ⟨ha.size, by show _ :: a.defers = _; rw [ha.defers], ha.vals⟩, hk⟩
end

/-- A function that lays deferred calls. -/
theorem fn_enterD {P : Program} {f : FuncId} {fn : Func} {x : Code} {args : List Value} {w : World} {K : Value → World → Prop} {J : Env → World → Prop} {n : Nat} {l : Env} (D : List Deferred)
    (hf : P.funcs[f]? = some fn) (hb : fn.body = some x) (hn : fn.ntmps = n) (hsz : Nat.ble args.length n = true) (hl : argEnv args 0 = l)
    (h : CD ⟨P, none, n, []⟩ ⟨P, none, n, D⟩ x J l w) (hk : ∀ l w tmps, J l w → LeavesIn (fence none) 0 P fn tmps (retP K) D .returning w) : Does P f args.toArray w K := by
  subst hn
  subst hl
  refine callsIn_of_wp_defers hf hb trivial ?_
  refine wpIn_mono (h _ ⟨?_, rfl, ?_⟩) ?_
  · have := Nat.le_of_ble_eq_true hsz
    simp
    omega
  · intro t v ht
    obtain ⟨_, h2⟩ := argEnv_look args 0 t v ht
    have hlt := (List.getElem?_eq_some_iff.1 h2).1
    simp only [Nat.sub_zero] at h2 hlt
    rw [Array.getD_eq_getD_getElem?, Array.getElem?_append, if_pos (by simpa using hlt)]
    simp [h2]
  · intro e a w' ⟨he, l', hfit, hJ⟩
    subst he
    show LeavesIn _ _ _ _ a.tmps _ a.defers _ _
    rw [hfit.defers]
    exact hk _ _ _ hJ

/-! ### Atomics -/
section
variable {P : Program} {l : Env} {ty : TypeId} {w : World}
theorem q_unsafe {x : Operand} {s d t : TypeId} {a : Addr} {v : Value} (hs : P.underlying s = some (.pointer t)) (hd : P.underlying d = some .unsafePointer) (hsz : (P.info? t).map (fun i => decide (i.size = 0)) = some false) (hx : opv l x = some (.pointer (some a))) (hc : w.cell? a = some v) :
    Quiet P l (.convert s d x) ty w (.pointer (some a)) := fun ρ h _ _ _ _ => by
  refine run_v ?_
  rw [h x _ hx]
  exact run_convert_to_unsafe hs hd hsz hc
end
theorem Own.at {w : World} {M : Mem} {b T o : Nat} {cs : List Value} {v : Value} (h : Own w M b cs T) (hc : cs[o]? = some v) : w.cell? ⟨b, o, none⟩ = some v := h.1.cell (by rw [nth_eq]; exact hc)
theorem Own.put {w : World} {M : Mem} {b T : Nat} {cs : List Value} (h : Own w M b cs T) (o : Nat) (v : Value) : Own (w.setCell ⟨b, o, none⟩ v) M b (cs.set o v) T := ⟨h.1.set o v, h.2⟩

/-- A call that the library answers at once, and that writes one cell of a block of the call's own. -/
theorem h_externO {c : Cx} {l : Env} {ty : TypeId} {K : Value → World → Prop} {w : World} {M : Mem} {b T o : Nat} {cs : List Value} {f : FuncId} {xs : List Operand} {ats : Array TypeId} {vs : List Value} {v u : Value} (hs : Sat M w) (ho : Own w M b cs T) (ha : opvs l xs = some vs)
    (h : (callFunc f vs.toArray).run c.P w = .ok (.value v) (w.setCell ⟨b, o, none⟩ u)) (hk : ∀ w', Step (Just b) M w M w' → Own w' M b (cs.set o u) T → K v w') :
    HW c l (.call ⟨.value (.func f), xs.toArray, ats⟩) ty w K :=
  h_extern ha h (hk _ (Step.set hs ho.2 o u) (ho.put o u))

section
variable {c c2 : Cx} {l : Env} {w : World} {K : Env → World → Prop}
theorem cd_seqK {x y : Code} {D : List Deferred} (h : ∀ K' : Env → World → Prop, (∀ l w, CD { c with D := D } c2 y K l w → K' l w) → CD c { c with D := D } x K' l w) : CD c c2 (.seq x y) K l w :=
  cd_seq (fun l w => CD { c with D := D } c2 y K l w) (h _ fun _ _ h => h) rfl rfl fun _ _ h => h
end

/-- A beginning of a row of the call's own is one. -/
theorem Buf.front {w : World} {M : Mem} {E n c : Nat} {a : Option Addr} {xs : List El} (h : Buf w M E 2 (.slice a n c) n (els xs)) {j : Int} (h0 : 0 ≤ j) (hj : j ≤ n) :
    Buf w M E 2 (.slice (if c = (0 : Int).toNat then a else a.map (·.add ((0 : Int).toNat * 2))) (j.toNat - (0 : Int).toNat) (c - (0 : Int).toNat)) j.toNat (els (xs.take j.toNat)) ∧
      (Value.slice (if c = (0 : Int).toNat then a else a.map (·.add ((0 : Int).toNat * 2))) (j.toNat - (0 : Int).toNat) (c - (0 : Int).toNat)).ownBlock = (Value.slice a n c).ownBlock := by
  have e0 : (if c = (0 : Int).toNat then a else a.map (·.add ((0 : Int).toNat * 2))) = a := by
    split
    · rfl
    · cases a with
      | none => rfl
      | some x => simp [Addr.add]
  rw [e0, show j.toNat - (0 : Int).toNat = j.toNat from by simp, show c - (0 : Int).toNat = c from by simp]
  refine ⟨?_, by cases a <;> rfl⟩
  obtain ⟨⟨h1, h2⟩, h3⟩ := h
  have hl : xs.length = n := by rw [els_length] at h1; omega
  refine ⟨⟨by rw [els_length, List.length_take]; omega, ?_⟩, fun g hg => h3 g (by cases a <;> exact hg)⟩
  rcases h2 with ⟨h2, rfl⟩ | ⟨g, cap, cur, hv, hb, hh, hnc, hcm, hsz, htk⟩
  · cases h2
    exact .inl ⟨by rw [show j.toNat = 0 from by omega], by omega⟩
  · cases hv
    refine .inr ⟨g, c, cur, rfl, hb, hh, by omega, hcm, hsz, ?_⟩
    rw [← els_take, ← htk, List.take_take, Nat.min_eq_left (by omega)]
end Go.Eng
