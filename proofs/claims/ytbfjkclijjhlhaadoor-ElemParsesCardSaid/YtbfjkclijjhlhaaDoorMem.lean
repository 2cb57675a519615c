/- The engine of this claim's walks, third part: what of memory never turns, and what a call may have turned. No conditions. -/
import Derived.Test.YtbfjkclijjhlhaaDoorOps
import Derived.Laws.AppendOwn
import Derived.Laws.MakeOwn
import Derived.Laws.Append
namespace Go.Eng
open Go

/-- Blocks that are never written any more. -/
abbrev Mem := Nat → Option (List Value × TypeId)
def Mem.ins (M : Mem) (b : Nat) (cs : List Value) (e : TypeId) : Mem := fun k => if k = b then some (cs, e) else M k
def Sat (M : Mem) (w : World) : Prop := ∀ b cs e, M b = some (cs, e) → BlkR w b cs e
def Le (M M' : Mem) : Prop := ∀ b x, M b = some x → M' b = some x
theorem Le.refl (M : Mem) : Le M M := fun _ _ h => h
theorem Le.trans {M M' M'' : Mem} (h : Le M M') (k : Le M' M'') : Le M M'' := fun b x hx => k b x (h b x hx)
theorem Mem.ins_same (M : Mem) (b : Nat) (cs : List Value) (e : TypeId) : M.ins b cs e b = some (cs, e) := if_pos rfl
theorem Mem.ins_other {M : Mem} {b k : Nat} (cs : List Value) (e : TypeId) (h : k ≠ b) : M.ins b cs e k = M k := if_neg h
theorem Le.ins {M : Mem} {b : Nat} (cs : List Value) (e : TypeId) (h : M b = none) : Le M (M.ins b cs e) := fun k x hk => by
  by_cases hb : k = b
  · subst hb; rw [h] at hk; cases hk
  · rw [Mem.ins_other cs e hb]; exact hk

/-- From w to w' only blocks of S were written; what is added to M lies in new blocks. -/
structure Step (S : Nat → Prop) (M : Mem) (w : World) (M' : Mem) (w' : World) : Prop where
  le : Le M M'
  sat : Sat M' w'
  fresh : ∀ b x, M b = none → M' b = some x → w.heap.size ≤ b
  kept : ∀ k, k < w.heap.size → ¬ S k → w'.heap[k]? = w.heap[k]?
  size : w.heap.size ≤ w'.heap.size
  os : w'.os = w.os
  output : w'.output = w.output
  tape : w'.tape = w.tape

def Nope : Nat → Prop := fun _ => False
def Just (b : Nat) : Nat → Prop := fun k => k = b

section
variable {S S' : Nat → Prop} {M M' M'' : Mem} {w w' w'' : World}

theorem Step.refl (S : Nat → Prop) (h : Sat M w) : Step S M w M w := ⟨Le.refl _, h, fun b x h0 h1 => (by rw [h0] at h1; cases h1), fun _ _ _ => rfl, Nat.le_refl _, rfl, rfl, rfl⟩

theorem Step.trans (h : Step S M w M' w') (k : Step S' M' w' M'' w'') (hs : ∀ b, b < w.heap.size → S' b → S b) : Step S M w M'' w'' where
  le := h.le.trans k.le
  sat := k.sat
  fresh := fun b x h0 h1 => by
    cases hm : M' b with
    | none => exact Nat.le_trans h.size (k.fresh b x hm h1)
    | some y => exact h.fresh b y h0 hm
  kept := fun b hb hn => (k.kept b (Nat.lt_of_lt_of_le hb h.size) (fun hs' => hn (hs b hb hs'))).trans (h.kept b hb hn)
  size := Nat.le_trans h.size k.size
  os := k.os.trans h.os
  output := k.output.trans h.output
  tape := k.tape.trans h.tape

/-- The same may be written. -/
theorem Step.also (h : Step S M w M' w') (k : Step S M' w' M'' w'') : Step S M w M'' w'' := h.trans k fun _ _ h => h
/-- Nothing is written. -/
theorem Step.then (h : Step S M w M' w') (k : Step Nope M' w' M'' w'') : Step S M w M'' w'' := h.trans k fun _ _ h => h.elim
/-- A block of the call's own is written. -/
theorem Step.own (h : Step S M w M' w') {b : Nat} (k : Step (Just b) M' w' M'' w'') (hb : w.heap.size ≤ b) : Step S M w M'' w'' :=
  h.trans k fun c hc hj => by cases hj; omega
theorem Step.wide (h : Step S M w M' w') (hs : ∀ b, b < w.heap.size → S b → S' b) : Step S' M w M' w' := { h with kept := fun b hb hn => h.kept b hb fun hb' => hn (hs b hb hb') }
theorem Step.any (h : Step Nope M w M' w') (S : Nat → Prop) : Step S M w M' w' := h.wide fun _ _ h => h.elim

theorem Step.drew (h : Sat M w) : Step Nope M w M w.drew := ⟨Le.refl _, h, fun b x h0 h1 => (by rw [h0] at h1; cases h1), fun _ _ _ => rfl, Nat.le_refl _, rfl, rfl, rfl⟩

theorem heap_alloc_at (w : World) (o : Obj) (k : Nat) (h : k < w.heap.size) : (w.alloc o).heap[k]? = w.heap[k]? := by
  show (w.heap.push o)[k]? = _
  rw [Array.getElem?_push, if_neg (by omega)]

theorem BlkR.same {b : Nat} {cs : List Value} {e : TypeId} (h : BlkR w b cs e) (hh : w'.heap[b]? = w.heap[b]?) : BlkR w' b cs e := by
  obtain ⟨fr, h'⟩ := h
  exact ⟨fr, hh.trans h'⟩

theorem Sat.alloc (h : Sat M w) (o : Obj) : Sat M (w.alloc o) := fun b cs e hb => (h b cs e hb).same (heap_alloc_at w o b (h b cs e hb).lt)
theorem Sat.none_new (h : Sat M w) : M w.heap.size = none := by
  cases hm : M w.heap.size with
  | none => rfl
  | some x => exact absurd (h _ x.1 x.2 hm).lt (Nat.lt_irrefl _)

theorem Step.alloc (h : Sat M w) (o : Obj) : Step Nope M w M (w.alloc o) := ⟨Le.refl _, h.alloc o, fun b x h0 h1 => (by rw [h0] at h1; cases h1), fun k hk _ => heap_alloc_at w o k hk, by simp, rfl, rfl, rfl⟩

theorem Step.allocM (h : Sat M w) (cs : List Value) (e : TypeId) : Step Nope M w (M.ins w.heap.size cs e) (w.alloc (.cells cs.toArray e)) where
  le := Le.ins cs e h.none_new
  sat := fun b ds f hb => by
    by_cases hk : b = w.heap.size
    · subst hk; rw [Mem.ins_same] at hb; cases hb; exact (Blk.new w cs e).r
    · rw [Mem.ins_other cs e hk] at hb; exact h.alloc _ b ds f hb
  fresh := fun b x h0 h1 => by
    by_cases hk : b = w.heap.size
    · omega
    · rw [Mem.ins_other cs e hk, h0] at h1; cases h1
  kept := fun k hk _ => heap_alloc_at w _ k hk
  size := by simp
  os := rfl
  output := rfl
  tape := rfl

/-- A block that the call may write. -/
def Own (w : World) (M : Mem) (b : Nat) (cs : List Value) (e : TypeId) : Prop := Blk w b cs e ∧ M b = none

theorem Own.step {b : Nat} {cs : List Value} {e : TypeId} (h : Own w M b cs e) (k : Step S M w M' w') (hb : ¬ S b) : Own w' M' b cs e := by
  refine ⟨(k.kept b h.1.lt hb).trans h.1, ?_⟩
  cases hm : M' b with
  | none => rfl
  | some x => exact absurd (k.fresh b x h.2 hm) (Nat.not_le.2 h.1.lt)
theorem Own.then {b : Nat} {cs : List Value} {e : TypeId} (h : Own w M b cs e) (k : Step Nope M w M' w') : Own w' M' b cs e := h.step k id

/-- Any other object (a map, say) of the call's own. -/
def OwnO (w : World) (M : Mem) (b : Nat) (o : Obj) : Prop := w.heap[b]? = some o ∧ M b = none
theorem OwnO.step {b : Nat} {o : Obj} (h : OwnO w M b o) (k : Step S M w M' w') (hb : ¬ S b) : OwnO w' M' b o := by
  have hlt : b < w.heap.size := (Array.getElem?_eq_some_iff.1 h.1).1
  refine ⟨(k.kept b hlt hb).trans h.1, ?_⟩
  cases hm : M' b with
  | none => rfl
  | some x => exact absurd (k.fresh b x h.2 hm) (Nat.not_le.2 hlt)

/-- What is written no more joins M: seen from where the call began. -/
theorem Step.freeze (h : Step S M w M' w') {b : Nat} {cs : List Value} {e : TypeId} (ho : Own w' M' b cs e) (hb : w.heap.size ≤ b) : Step S M w (M'.ins b cs e) w' where
  le := h.le.trans (Le.ins cs e ho.2)
  sat := fun c ds f hc => by
    by_cases hk : c = b
    · subst hk; rw [Mem.ins_same] at hc; cases hc; exact ho.1.r
    · rw [Mem.ins_other cs e hk] at hc; exact h.sat c ds f hc
  fresh := fun c x h0 h1 => by
    by_cases hk : c = b
    · subst hk; exact hb
    · rw [Mem.ins_other cs e hk] at h1; exact h.fresh c x h0 h1
  kept := h.kept
  size := h.size
  os := h.os
  output := h.output
  tape := h.tape
theorem Own.freeze {b k : Nat} {cs ds : List Value} {e f : TypeId} (h : Own w M k ds f) (hne : k ≠ b) : Own w (M.ins b cs e) k ds f := ⟨h.1, by rw [Mem.ins_other cs e hne]; exact h.2⟩

/-! ### A store -/

def put1 (cs : List Value) (o : Nat) (v : Value) : List Value := cs.set o v

theorem Blk.set {b : Nat} {cs : List Value} {e : TypeId} (h : Blk w b cs e) (o : Nat) (v : Value) : Blk (w.setCell ⟨b, o, none⟩ v) b (cs.set o v) e := by
  have h' : w.heap[b]? = some (.cells cs.toArray e (0, 0)) := h
  show (w.heap.modify b _)[b]? = _
  rw [Array.getElem?_modify, if_pos rfl, h']
  simp

theorem Step.set (h : Sat M w) {b : Nat} (hb : M b = none) (o : Nat) (v : Value) : Step (Just b) M w M (w.setCell ⟨b, o, none⟩ v) where
  le := Le.refl _
  sat := fun c ds f hc => by
    have hne : c ≠ b := fun e => by subst e; rw [hb] at hc; cases hc
    refine (h c ds f hc).same ?_
    show (w.heap.modify b _)[c]? = _
    rw [Array.getElem?_modify, if_neg (fun e => hne e.symm)]
  fresh := fun c x h0 h1 => by rw [h0] at h1; cases h1
  kept := fun k hk hn => by
    show (w.heap.modify b _)[k]? = _
    rw [Array.getElem?_modify, if_neg (fun e => hn e.symm)]
  size := by simp
  os := rfl
  output := rfl
  tape := rfl

/-- Some cells, one behind the other. -/
def puts (cs : List Value) (o : Nat) : List Value → List Value
  | [] => cs
  | v :: r => puts (cs.set o v) (o + 1) r

theorem puts_length : ∀ (vs cs : List Value) (o : Nat), (puts cs o vs).length = cs.length
  | [], _, _ => rfl
  | v :: r, cs, o => by simp [puts, puts_length r]

theorem run_storeCells_own (P : Program) {b : Nat} {e : TypeId} : ∀ (vs : List Value) (i o : Nat) (cs : List Value) (w : World) (M : Mem), Sat M w → Own w M b cs e → o + i + vs.length ≤ cs.length → (∀ v ∈ vs, v.oneCell' = true) →
    ∃ w', (storeCells ⟨b, o, none⟩ vs i).run P w = .ok () w' ∧ Step (Just b) M w M w' ∧ Own w' M b (puts cs (o + i) vs) e
  | [], _, _, _, w, M, hs, ho, _, _ => ⟨w, rfl, Step.refl _ hs, ho⟩
  | v :: r, i, o, cs, w, M, hs, ho, hl, h1 => by
    have hlt : o + i < cs.length := by simp only [List.length_cons] at hl; omega
    have hadd : (⟨b, o, none⟩ : Addr).add i = ⟨b, o + i, none⟩ := Addr.add_lit b o i
    have hst : (store ((⟨b, o, none⟩ : Addr).add i) v).run P w = .ok () (w.setCell ⟨b, o + i, none⟩ v) := by
      rw [hadd, run_store P w _ v _ (h1 v (by simp))]
      have hz := ho.1.free (o + i)
      have hc : w.cell? ⟨b, o + i, none⟩ = some cs[o + i] := ho.1.cell (by rw [nth_eq, List.getElem?_eq_getElem hlt])
      simp [hc, hz]
    have hs1 := Step.set hs ho.2 (o + i) v
    obtain ⟨w', hr, hs2, ho2⟩ := run_storeCells_own P r (i + 1) o (cs.set (o + i) v) _ M hs1.sat ⟨ho.1.set (o + i) v, ho.2⟩ (by simp only [List.length_cons, List.length_set] at hl ⊢; omega) (fun u hu => h1 u (by simp [hu]))
    refine ⟨w', ?_, hs1.also hs2, ho2⟩
    simp only [storeCells, Sem.run_bind, hst, Result.andThen_ok, hr]

def vcells : Value → List Value
  | .agg cs => cs.toList
  | v => [v]
theorem vcells_eq (v : Value) : v.cells = (vcells v).toArray := by cases v <;> rfl

section heavy
variable {c : Cx} {l : Env} {ty : TypeId} {K : Value → World → Prop}

theorem h_q {op : Op} {v : Value} (hd : isDefer op = false) (h : Quiet c.P l op ty w v) (hk : K v w) : HW c l op ty w K := h.hw hd hk

/-- '&x', a captured variable's box: never written again. -/
theorem h_boxM {x : Operand} {e : TypeId} {v : Value} {cs : List Value} (hs : Sat M w) (hx : opv l x = some v) (hc : vcells v = cs)
    (hk : ∀ b M' w', Step Nope M w M' w' → M' b = some (cs, e) → w.heap.size = b → K (.pointer (some ⟨b, 0, none⟩)) w') : HW c l (.box e x) ty w K :=
  HW.value (w' := w.alloc (.cells cs.toArray e)) rfl (fun ρ h _ _ _ _ => by
    refine run_v ?_
    rw [h x _ hx]
    simp only [Instr.box, newVar, newRow, vcells_eq, hc]
    rfl) (hk _ _ _ (Step.allocM hs cs e) (Mem.ins_same _ _ _ _) rfl)

/-- The same, of the call's own. -/
theorem h_boxO {x : Operand} {e : TypeId} {v : Value} {cs : List Value} (hs : Sat M w) (hx : opv l x = some v) (hc : vcells v = cs)
    (hk : ∀ b w', Step Nope M w M w' → Own w' M b cs e → w.heap.size = b → K (.pointer (some ⟨b, 0, none⟩)) w') : HW c l (.box e x) ty w K :=
  HW.value (w' := w.alloc (.cells cs.toArray e)) rfl (fun ρ h _ _ _ _ => by
    refine run_v ?_
    rw [h x _ hx]
    simp only [Instr.box, newVar, newRow, vcells_eq, hc]
    rfl) (hk _ _ (Step.alloc hs _) ⟨Blk.new w cs e, hs.none_new⟩ rfl)

def zeroOf (P : Program) (t : TypeId) : Option Value := (P.info? t).bind (·.zero)
theorem run_zeroOf {P : Program} {t : TypeId} {z : Value} (h : zeroOf P t = some z) (w : World) : (zeroValue t).run P w = .ok z w := by
  unfold zeroOf at h
  cases hi : P.info? t with
  | none => rw [hi] at h; cases h
  | some i =>
    rw [hi] at h
    have h : i.zero = some z := h
    simp [zeroValue, typeInfo, hi, h]

theorem h_allocO {e : TypeId} {z : Value} {cs : List Value} (hs : Sat M w) (hz : zeroOf c.P e = some z) (hc : vcells z = cs)
    (hk : ∀ b w', Step Nope M w M w' → Own w' M b cs e → w.heap.size = b → K (.pointer (some ⟨b, 0, none⟩)) w') : HW c l (.alloc e) ty w K :=
  HW.value (w' := w.alloc (.cells cs.toArray e)) rfl (fun ρ h _ _ _ _ => by
    refine run_v ?_
    simp only [Instr.alloc, Sem.run_bind, run_zeroOf hz w, Result.andThen_ok, newVar, newRow, vcells_eq, hc]
    rfl) (hk _ _ (Step.alloc hs _) ⟨Blk.new w cs e, hs.none_new⟩ rfl)

def sizeB (P : Program) (t : TypeId) : Option Nat := (P.info? t).map (·.size)
theorem run_sizeB {P : Program} {t n : Nat} (h : sizeB P t = some n) (w : World) : (sizeOf t).run P w = .ok n w := by
  unfold sizeB at h
  cases hi : P.info? t with
  | none => rw [hi] at h; cases h
  | some i => rw [hi] at h; cases h; simp [sizeOf, typeInfo, hi]

theorem h_store {x y : Operand} {t b o : Nat} {v : Value} {vs cs cs' : List Value} {e : TypeId} (hs : Sat M w) (ho : Own w M b cs e) (hx : opv l x = some (.pointer (some ⟨b, o, none⟩))) (hy : opv l y = some v)
    (hv : vcells v = vs) (hn : sizeB c.P t = some vs.length) (hl : Nat.ble (o + vs.length) cs.length = true) (h1 : vs.all (·.oneCell') = true) (hc : puts cs o vs = cs')
    (hk : ∀ w', Step (Just b) M w M w' → Own w' M b cs' e → K undef w') : HW c l (.store t x y) ty w K := by
  obtain ⟨w', hr, hs', ho'⟩ := run_storeCells_own c.P vs 0 o cs w M hs ho (by simpa using Nat.le_of_ble_eq_true hl) (by simpa using h1)
  subst hc
  refine HW.skip (w' := w') rfl (fun ρ h _ _ _ _ => ?_) (hk w' hs' ho')
  refine run_u ?_
  rw [h x _ hx, h y _ hy]
  have he : (v.cells.size ≠ vs.length) = False := by rw [vcells_eq, hv]; simp
  simp only [Instr.storeAt, Instr.sureAddr, Sem.run_bind, Sem.run_pure, Result.andThen_ok, storeVar, run_sizeB hn w]
  rw [if_neg (by rw [vcells_eq, hv]; simp), vcells_eq, hv]
  exact hr

/-! ### Calls -/

def callable (P : Program) (f : FuncId) : Bool :=
  match P.funcs[f]? with
  | none => false
  | some fn => !(fn.name == "runtime.NumGoroutine") && fn.body.isSome

theorem run_callable {P : Program} {f : FuncId} (h : callable P f = true) (args : Array Value) (w : World) : (callFunc f args).run P w = .ok (.enter f args) w := by
  unfold callable at h
  cases hf : P.funcs[f]? with
  | none => rw [hf] at h; cases h
  | some fn =>
    rw [hf] at h
    simp only [Bool.and_eq_true, Bool.not_eq_true'] at h
    have hb : fn.body.isNone = false := by cases hb : fn.body <;> simp_all
    have hn : ¬ fn.name = "runtime.NumGoroutine" := by simpa using h.1
    have hb' : ¬ fn.body = none := fun e => by rw [e] at hb; cases hb
    simp [callFunc, program, hf, hn, hb', Sem.run]

/-- A call of a named function. -/
theorem h_call {f : FuncId} {xs : List Operand} {ats : Array TypeId} {vs : List Value} (hf : callable c.P f = true) (ha : opvs l xs = some vs) (h : Does c.P f vs.toArray w K) :
    HW c l (.call ⟨.value (.func f), xs.toArray, ats⟩) ty w K :=
  HW.enter (f := f) (args := vs.toArray) (w' := w) rfl (fun ρ hρ _ _ _ _ => by
    have e : xs.toArray.map ρ = vs.toArray := by rw [List.map_toArray, opvs_map hρ xs vs ha]
    simp only [execOp, resolve, e, hρ (.func f) _ rfl, Deferred.ofValue]
    simp [invoke, run_callable hf]) h

/-- A call of a function value: first, what it bears ahead; cap, what it has captured. -/
theorem h_callv {x : Operand} {f : FuncId} {first cap : List Value} {xs : List Operand} {ats : Array TypeId} {vs as : List Value} (hf : callable c.P f = true) (hx : opv l x = some (.func (.func f) first.toArray cap.toArray)) (ha : opvs l xs = some vs)
    (he : first ++ vs ++ cap = as) (h : Does c.P f as.toArray w K) : HW c l (.call ⟨.value x, xs.toArray, ats⟩) ty w K :=
  HW.enter (f := f) (args := as.toArray) (w' := w) rfl (fun ρ hρ _ _ _ _ => by
    have e : xs.toArray.map ρ = vs.toArray := by rw [List.map_toArray, opvs_map hρ xs vs ha]
    subst he
    simp only [execOp, resolve, e, hρ x _ hx, Deferred.ofValue]
    simp [invoke, run_callable hf]) h

/-- A call of a method of an interface's value. -/
theorem h_invoke {x : Operand} {name : String} {f : FuncId} {t : TypeId} {u r : Value} {xs : List Operand} {ats : Array TypeId} {vs : List Value} (hf : callable c.P f = true) (hx : opv l x = some (.iface t u)) (ha : opvs l xs = some vs)
    (hm : (method (c.P.types.size + Made.depth) t u name).run c.P w = .ok (f, r) w) (h : Does c.P f (r :: vs).toArray w K) : HW c l (.call ⟨.invoke x name, xs.toArray, ats⟩) ty w K :=
  HW.enter (f := f) (args := (r :: vs).toArray) (w' := w) rfl (fun ρ hρ _ _ _ _ => by
    have e : xs.toArray.map ρ = vs.toArray := by rw [List.map_toArray, opvs_map hρ xs vs ha]
    simp only [execOp, resolve, e, hρ x _ hx]
    simp [invoke, callMethod, program, Sem.run, hm, run_callable hf]) h

/-- A call that the library answers at once. -/
theorem h_extern {f : FuncId} {xs : List Operand} {ats : Array TypeId} {vs : List Value} {v : Value} {w' : World} (ha : opvs l xs = some vs) (h : (callFunc f vs.toArray).run c.P w = .ok (.value v) w') (hk : K v w') :
    HW c l (.call ⟨.value (.func f), xs.toArray, ats⟩) ty w K :=
  HW.value (w' := w') rfl (fun ρ hρ _ _ _ _ => by
    have e : xs.toArray.map ρ = vs.toArray := by rw [List.map_toArray, opvs_map hρ xs vs ha]
    simp only [execOp, resolve, e, hρ (.func f) _ rfl, Deferred.ofValue]
    simpa [invoke] using h) hk
end heavy

/-! ### Slices -/

/-- A slice that can be read: n elements, of size cells each: the cells cs. -/
def Rd (w : World) (size : Nat) (v : Value) (n : Nat) (cs : List Value) : Prop :=
  cs.length = n * size ∧ ((n = 0 ∧ ∃ a cap, v = .slice a 0 cap ∧ (a = none → cap = 0)) ∨ ∃ b o cap, v = .slice (some ⟨b, o, none⟩) n cap ∧ n ≤ cap ∧ ∀ j u, cs[j]? = some u → w.cell? ⟨b, o + j, none⟩ = some u)

/-- A slice that the call has made, at its head: whatever room it has. -/
def Buf (w : World) (M : Mem) (e : TypeId) (size : Nat) (v : Value) (n : Nat) (cs : List Value) : Prop := w.ownsRow 0 e size v n cs ∧ ∀ g, v.ownBlock = some g → M g = none

theorem Buf.nil (w : World) (M : Mem) (e : TypeId) (size : Nat) : Buf w M e size (.slice none 0 0) 0 [] := ⟨World.ownsRow_nil w 0 e size, fun g h => by cases h⟩

theorem Step.grown (h : Step S M w M' w') (row : Option Nat) (hr : ∀ k, S k → row = some k) : w.grownBy w' row := ⟨h.os, h.tape, h.output, h.size, fun k hk hne => h.kept k hk fun hs => hne (hr k hs).symm⟩

theorem Buf.step {e size n : Nat} {v : Value} {cs : List Value} (h : Buf w M e size v n cs) (k : Step S M w M' w') (hb : ∀ g, v.ownBlock = some g → ¬ S g) : Buf w' M' e size v n cs := by
  obtain ⟨⟨h1, h2⟩, h3⟩ := h
  refine ⟨⟨h1, ?_⟩, fun g hg => ?_⟩
  · rcases h2 with h2 | ⟨g, cap, cur, rfl, hbg, hh, rest⟩
    · exact .inl h2
    · exact .inr ⟨g, cap, cur, rfl, hbg, (k.kept g (Array.getElem?_eq_some_iff.1 hh).1 (hb g rfl)).trans hh, rest⟩
  · cases hm : M' g with
    | none => rfl
    | some x =>
      have h4 := k.fresh g x (h3 g hg) hm
      rcases h2 with ⟨rfl, _⟩ | ⟨g', cap, cur, rfl, hbg, hh, rest⟩
      · cases hg
      · cases hg
        exact absurd h4 (Nat.not_le.2 (Array.getElem?_eq_some_iff.1 hh).1)
theorem Buf.then {e size n : Nat} {v : Value} {cs : List Value} (h : Buf w M e size v n cs) (k : Step Nope M w M' w') : Buf w' M' e size v n cs := h.step k fun _ _ h => h

theorem Buf.rd {e size n : Nat} {v : Value} {cs : List Value} (h : Buf w M e size v n cs) : Rd w size v n cs := by
  obtain ⟨⟨h1, h2⟩, h3⟩ := h
  refine ⟨h1, ?_⟩
  rcases h2 with ⟨rfl, h2⟩ | ⟨g, cap, cur, rfl, hbg, hh, hnc, hcm, hsz, htk⟩
  · exact .inl ⟨h2, none, 0, rfl, fun _ => rfl⟩
  · refine .inr ⟨g, 0, cap, rfl, hnc, fun j u hj => ?_⟩
    have := World.ownsRow.cells (w := w) (base := 0) (e := e) (size := size) (v := .slice (some ⟨g, 0, none⟩) n cap) (n := n) (xs := cs) ⟨h1, .inr ⟨g, cap, cur, rfl, hbg, hh, hnc, hcm, hsz, htk⟩⟩ (g := g) rfl j u hj
    rwa [Addr.add_lit] at this

theorem Rd.keep {size n : Nat} {v : Value} {cs : List Value} (h : Rd w size v n cs) (hc : ∀ b o u, v = .slice (some ⟨b, o, none⟩) n u → w'.heap[b]? = w.heap[b]?) : Rd w' size v n cs := by
  refine ⟨h.1, ?_⟩
  rcases h.2 with h2 | ⟨b, o, cap, rfl, hcap, hh⟩
  · exact .inl h2
  · exact .inr ⟨b, o, cap, rfl, hcap, fun j u hj => by
      have := hh j u hj
      unfold World.cell? at this ⊢
      simp only [hc b o cap rfl]
      exact this⟩

structure ElemOk (P : Program) (t e size bytes : Nat) : Prop where
  sl : P.underlying t = some (.slice e)
  ex : ∃ i z, P.info? e = some i ∧ i.zero = some z ∧ i.size = size ∧ i.bytes = bytes ∧ z.cells.size = size
  pos : 0 < size

def elemOk (P : Program) (t e size bytes : Nat) : Bool :=
  (match P.underlying t with | some (.slice e') => Nat.beq e' e | _ => false) &&
  (match P.info? e with
    | some i => match i.zero with
      | some z => Nat.beq i.size size && Nat.beq i.bytes bytes && Nat.beq z.cells.size size
      | none => false
    | none => false) && Nat.blt 0 size

theorem elemOk_spec {P : Program} {t e size bytes : Nat} (h : elemOk P t e size bytes = true) : ElemOk P t e size bytes := by
  unfold elemOk at h
  simp only [Bool.and_eq_true] at h
  obtain ⟨⟨h1, h2⟩, h3⟩ := h
  refine ⟨?_, ?_, by simpa [Nat.blt_eq] using h3⟩
  · split at h1
    · rename_i e' he; rw [he, Nat.eq_of_beq_eq_true h1]
    · cases h1
  · split at h2
    · rename_i i hi
      split at h2
      · rename_i z hz
        simp only [Bool.and_eq_true] at h2
        exact ⟨i, z, hi, hz, Nat.eq_of_beq_eq_true h2.1.1, Nat.eq_of_beq_eq_true h2.1.2, Nat.eq_of_beq_eq_true h2.2⟩
      · cases h2
    · cases h2

/-- 'append(s, x..)' on a slice of the call's own. -/
theorem run_append_buf {P : Program} {t e size bytes : Nat} (he : ElemOk P t e size bytes) (hs : Sat M w) {v : Value} {n : Nat} {cs : List Value} (hb : Buf w M e size v n cs) {u : Value} {m : Nat} {news : List Value} (hr : Rd w size u m news)
    (h1 : ∀ x ∈ news, x.oneCell' = true) (h63 : n + m ≤ maxLen) (hbytes : (n + m) * bytes ≤ 140737488355328) (ty : TypeId) :
    ∃ v' w', (Builtin.append_ #[t, t] ty #[v, u]).run P w = .ok v' w' ∧ Step (fun k => v.ownBlock = some k) M w M w' ∧ Buf w' M e size v' (n + m) (cs ++ news) ∧ (v'.ownBlock = v.ownBlock ∨ v'.ownBlock = some w.heap.size) := by
  obtain ⟨i, z, hi, hz, rfl, rfl, hzs⟩ := he.ex
  have hsmall : n + m ≤ 9223372036854775807 := by simp only [maxLen] at h63; omega
  have hsat : ∀ {w' : World}, w.grownBy w' v.ownBlock → Sat M w' := fun {w'} hg c ds f hc => by
    refine (hs c ds f hc).same (hg.block c (hs c ds f hc).lt ?_)
    intro h
    rw [hb.2 c h.symm] at hc; cases hc
  have hstep : ∀ {w' : World}, w.grownBy w' v.ownBlock → Step (fun k => v.ownBlock = some k) M w M w' := fun {w'} hg =>
    ⟨Le.refl _, hsat hg, fun c x h0 h1 => (by rw [h0] at h1; cases h1), fun k hk hn => hg.block k hk fun h => hn h.symm, hg.size, hg.os, hg.output, hg.tape⟩
  have hnew : M w.heap.size = none := hs.none_new
  have hlen : ∀ (hl : news.length = m * i.size), (cs ++ news).length = (n + m) * i.size := fun hl => by rw [List.length_append, hb.1.1, hl, Nat.add_mul]
  rcases hr with ⟨hl, ⟨rfl, a, cap, rfl, _⟩ | ⟨b, o, cap, rfl, hcap, hh⟩⟩
  · have hnil : news = [] := List.eq_nil_of_length_eq_zero (by simpa using hl)
    subst hnil
    have hf : (Builtin.firstCells i.size 0 (.slice a 0 cap)).run P w = .ok #[] w := by
      cases a <;> simp [Builtin.firstCells, loadCells, loadCellsFrom]
    refine ⟨v, w, ?_, Step.refl _ hs, by simpa using hb, .inl rfl⟩
    rcases hb.1.2 with ⟨rfl, rfl⟩ | ⟨g, cap, cur, rfl, hbg, hg, hnc, hcm, hcs, htk⟩
    · simp [Builtin.append_, run_underlying he.sl, sizeOf, typeInfo, hi, Builtin.lenOf, hf]
    · simp [Builtin.append_, run_underlying he.sl, sizeOf, typeInfo, hi, Builtin.lenOf, hf, hnc, storeCells]
  · have hnews : ∀ j x, news[j]? = some x → w.cell? ((⟨b, o, none⟩ : Addr).add j) = some x := fun j x hj => by rw [Addr.add_lit]; exact hh j x hj
    have grown : ∀ (old : Nat), old < n + m →
        (w.drew.alloc (.cells (cs.toArray ++ news.toArray ++ Builtin.zeroCells z.cells (grownCap w (n + m) old e - (n + m))) e)).ownsRow 0 e i.size
          (.slice (some ⟨w.heap.size, 0, none⟩) (n + m) (grownCap w (n + m) old e)) (n + m) (cs ++ news) ∧
        w.grownBy (w.drew.alloc (.cells (cs.toArray ++ news.toArray ++ Builtin.zeroCells z.cells (grownCap w (n + m) old e - (n + m))) e)) v.ownBlock := by
      intro old ho
      have hge := grownCap_ge w (n + m) old e
      have hcm : grownCap w (n + m) old e ≤ maxLen := grownCap_le_maxLen w (n + m) old e h63
      refine ⟨⟨hlen hl, .inr ⟨w.heap.size, _, _, rfl, Nat.zero_le _, heap_alloc_new w.drew _, hge, hcm, ?_, ?_⟩⟩, ⟨rfl, rfl, rfl, by simp, fun k hk _ => heap_alloc_at w.drew _ k hk⟩⟩
      · simp only [Array.size_append, List.size_toArray, size_zeroCells, hzs, hb.1.1, hl, ← Nat.add_mul]
        congr 1
        omega
      · simp only [Array.toList_append, List.append_assoc]
        rw [← List.append_assoc, ← hlen hl]
        exact List.take_left
    rcases hb.1.2 with ⟨rfl, rfl⟩ | ⟨g, gcap, cur, rfl, hbg, hg, hnc, hcm, hcs, htk⟩
    · have hx : cs = [] := List.eq_nil_of_length_eq_zero (by simpa using hb.1.1)
      subst hx
      by_cases hm : m = 0
      · subst hm
        have hn : news = [] := List.eq_nil_of_length_eq_zero (by simpa using hl)
        subst hn
        refine ⟨.slice none 0 0, w, ?_, Step.refl _ hs, hb, .inl rfl⟩
        simp [Builtin.append_, run_underlying he.sl, sizeOf, typeInfo, hi, Builtin.lenOf, Builtin.firstCells, loadCells, loadCellsFrom]
      · have hr := run_append_nil (P := P) w t ty e i z he.sl hi hz ⟨b, o, none⟩ m cap news hl hnews (by omega) (by omega) (by have hb := hbytes; simp only [Nat.zero_add] at hb; omega)
        have hgr := grown 0 (by omega)
        simp only [Nat.zero_add, List.nil_append, Array.empty_append] at hgr ⊢
        exact ⟨_, _, hr, hstep hgr.2, ⟨hgr.1, fun k hk => by cases hk; exact hnew⟩, .inr rfl⟩
    · by_cases hroom : n + m ≤ gcap
      · have hfit : n * i.size + news.length ≤ cur.size := by rw [hl, hcs, ← Nat.add_mul]; exact Nat.mul_le_mul_right _ hroom
        have hr := run_append_room (P := P) w t ty e i he.sl hi g n gcap cur hg ⟨b, o, none⟩ m cap news hl hnews h1 hroom hfit
        refine ⟨_, _, hr, hstep ⟨rfl, rfl, rfl, by simp, fun k _ hk => setRow_other w g k _ (fun e => hk (by simp [Value.ownBlock, e]))⟩, ⟨⟨hlen hl, .inr ⟨g, gcap, _, rfl, hbg, setRow_heap w g cur _ e _ hg, hroom, hcm, ?_, ?_⟩⟩, fun k hk => by cases hk; exact hb.2 g rfl⟩, .inl rfl⟩
        · simp only [List.size_toArray, List.length_append, List.length_take, List.length_drop, Array.length_toList]
          omega
        · rw [htk, ← hlen hl]
          exact List.take_left
      · have holds : ∀ j x, cs[j]? = some x → w.cell? ((⟨g, 0, none⟩ : Addr).add j) = some x := hb.1.cells (g := g) rfl
        have hr := run_append_grow (P := P) w t ty e i z he.sl hi hz ⟨g, 0, none⟩ n gcap cs hb.1.1 holds ⟨b, o, none⟩ m cap news hl hnews (by omega) (by omega) (growslice_fits (by omega) hbytes)
        have hgr := grown gcap (by omega)
        exact ⟨_, _, hr, hstep hgr.2, ⟨hgr.1, fun k hk => by cases hk; exact hnew⟩, .inr rfl⟩

theorem h_append {c : Cx} {l : Env} {ty : TypeId} {K : Value → World → Prop} {t e size bytes : Nat} (he : elemOk c.P t e size bytes = true) (hs : Sat M w) {x y : Operand} {v : Value} {n : Nat} {cs : List Value} (hb : Buf w M e size v n cs) {u : Value} {m : Nat} {news : List Value} (hr : Rd w size u m news)
    (hx : opv l x = some v) (hy : opv l y = some u) (h1 : ∀ x ∈ news, x.oneCell' = true) (hbytes : (n + m) * bytes ≤ 140737488355328) (hpos : Nat.blt 0 bytes = true)
    (hk : ∀ v' w', Step (fun k => v.ownBlock = some k) M w M w' → Buf w' M e size v' (n + m) (cs ++ news) → (v'.ownBlock = v.ownBlock ∨ v'.ownBlock = some w.heap.size) → K v' w') :
    HW c l (.call ⟨.builtin .append, #[x, y], #[t, t]⟩) ty w K := by
  have h63 : n + m ≤ maxLen := by
    have h0 : 0 < bytes := by simpa [Nat.blt_eq] using hpos
    have : n + m ≤ (n + m) * bytes := Nat.le_mul_of_pos_right _ h0
    simp only [maxLen]; omega
  obtain ⟨v', w', hrun, hstep, hbuf, hor⟩ := run_append_buf (elemOk_spec he) hs hb hr h1 h63 hbytes ty
  refine HW.value (w' := w') rfl (fun ρ h _ _ _ _ => ?_) (hk v' w' hstep hbuf hor)
  simp only [execOp, resolve, List.map_toArray, List.map_cons, List.map_nil, h x _ hx, h y _ hy]
  simp [invoke, builtin, hrun]

theorem q_len {c : Cx} {l : Env} {ty : TypeId} {x : Operand} {t : TypeId} {a : Option Addr} {n cap : Nat} (ht : (match c.P.underlying t with | some (.slice _) => true | _ => false) = true) (hx : opv l x = some (.slice a n cap)) (w : World) :
    Quiet c.P l (.call ⟨.builtin .len, #[x], #[t]⟩) ty w (.int .i64 n) := fun ρ h _ _ _ _ => by
  have hu : c.P.underlying t = some (.slice (c.P.elem t)) := by
    unfold Program.elem
    cases hu : c.P.underlying t with
    | none => rw [hu] at ht; cases ht
    | some d => rw [hu] at ht; cases d <;> first | (cases ht; done) | rfl
  have hr := run_len_slice (P := c.P) w t ty a n cap hu
  simp only [execOp, resolve, List.map_toArray, List.map_cons, List.map_nil, h x _ hx]
  simp [invoke, builtin, hr]
  rfl

/-! ### What lies still -/

/-- All that lies in cells when the call begins. -/
def memOf (w : World) : Mem := fun b => match w.heap[b]? with
  | some (.cells c e _) => some (c.toList, e)
  | _ => none
theorem Sat.memOf (w : World) : Sat (memOf w) w := fun b cs e h => by
  unfold Eng.memOf at h
  split at h
  · rename_i c e' fr hb
    cases h
    exact ⟨fr, by rw [hb]⟩
  · cases h

def cellM (M : Mem) (b o : Nat) : Option Value := (M b).bind fun x => nth x.1 o
theorem cellM_memOf {b o : Nat} {v : Value} (h : w.cell? ⟨b, o, none⟩ = some v) : cellM (memOf w) b o = some v := by
  unfold World.cell? at h
  unfold cellM memOf
  split at h
  · rename_i c e fr hb
    simp only [Option.isSome_none, Bool.false_eq_true, if_false] at h
    simp only [hb, Option.bind_some, nth_eq]
    simpa using h
  · cases h
theorem cellM_le (h : Le M M') {b o : Nat} {v : Value} (hc : cellM M b o = some v) : cellM M' b o = some v := by
  unfold cellM at *
  cases hm : M b with
  | none => rw [hm] at hc; cases hc
  | some x => rw [hm] at hc; rw [h b x hm]; exact hc
theorem cellM_cell (h : Sat M w) {b o : Nat} {v : Value} (hc : cellM M b o = some v) : w.cell? ⟨b, o, none⟩ = some v := by
  unfold cellM at hc
  cases hm : M b with
  | none => rw [hm] at hc; cases hc
  | some x => rw [hm] at hc; exact (h b x.1 x.2 hm).cell hc

/-- A slice that lies still. -/
def RdM (M : Mem) (size : Nat) (v : Value) (n : Nat) (cs : List Value) : Prop :=
  cs.length = n * size ∧ ((n = 0 ∧ ∃ a cap, v = .slice a 0 cap ∧ (a = none → cap = 0)) ∨ ∃ b o cap, v = .slice (some ⟨b, o, none⟩) n cap ∧ n ≤ cap ∧ ∀ j u, cs[j]? = some u → cellM M b (o + j) = some u)
theorem RdM.mono {size n : Nat} {v : Value} {cs : List Value} (h : RdM M size v n cs) (k : Le M M') : RdM M' size v n cs := by
  refine ⟨h.1, ?_⟩
  rcases h.2 with h2 | ⟨b, o, cap, rfl, hc, hh⟩
  · exact .inl h2
  · exact .inr ⟨b, o, cap, rfl, hc, fun j u hj => cellM_le k (hh j u hj)⟩
theorem RdM.rd {size n : Nat} {v : Value} {cs : List Value} (h : RdM M size v n cs) (hs : Sat M w) : Rd w size v n cs := by
  refine ⟨h.1, ?_⟩
  rcases h.2 with h2 | ⟨b, o, cap, rfl, hc, hh⟩
  · exact .inl h2
  · exact .inr ⟨b, o, cap, rfl, hc, fun j u hj => cellM_cell hs (hh j u hj)⟩
theorem RdM.slice {size n : Nat} {v : Value} {cs : List Value} (h : RdM M size v n cs) : ∃ a c, v = .slice a n c ∧ n ≤ c ∧ (a = none → n = 0 ∧ c = 0) := by
  rcases h.2 with ⟨rfl, a, cap, rfl, ha⟩ | ⟨b, o, cap, rfl, hc, _⟩
  · exact ⟨a, cap, rfl, Nat.zero_le _, fun h => ⟨rfl, ha h⟩⟩
  · exact ⟨_, cap, rfl, hc, fun h => (by cases h)⟩
theorem RdM.there {size n cap : Nat} {a : Option Addr} {cs : List Value} (h : RdM M size (.slice a n cap) n cs) (hn : 0 < n) : ∃ g o, a = some ⟨g, o, none⟩ := by
  rcases h.2 with ⟨rfl, _⟩ | ⟨b, o, cap, h, hc, _⟩
  · omega
  · cases h; exact ⟨b, o, rfl⟩

theorem Own.buf {b e size n : Nat} {cs : List Value} (h : Own w M b cs e) (hl : cs.length = n * size) (hn : n ≤ maxLen) : Buf w M e size (.slice (some ⟨b, 0, none⟩) n n) n cs := by
  refine ⟨⟨hl, .inr ⟨b, n, cs.toArray, rfl, Nat.zero_le _, h.1, Nat.le_refl _, hn, by simpa using hl, ?_⟩⟩, fun g hg => by cases hg; exact h.2⟩
  rw [← hl]; simp

theorem Buf.slice {e size n : Nat} {v : Value} {cs : List Value} (h : Buf w M e size v n cs) : ∃ a c, v = .slice a n c ∧ n ≤ c ∧ (a = none → n = 0 ∧ c = 0) := by
  obtain ⟨⟨_, ⟨rfl, rfl⟩ | ⟨g, cap, cur, rfl, _, _, hc, _⟩⟩, _⟩ := h
  · exact ⟨none, 0, rfl, Nat.le_refl _, fun _ => ⟨rfl, rfl⟩⟩
  · exact ⟨_, _, rfl, hc, fun h => (by cases h)⟩
theorem Buf.lt {e size n : Nat} {v : Value} {cs : List Value} (h : Buf w M e size v n cs) : ∀ g, v.ownBlock = some g → g < w.heap.size := by
  obtain ⟨⟨_, ⟨rfl, rfl⟩ | ⟨g, cap, cur, rfl, _, hg, hc, _⟩⟩, _⟩ := h
  · intro g hg; cases hg
  · intro k hk; cases hk; exact (Array.getElem?_eq_some_iff.1 hg).1

/-- A slice of the call's own joins what lies still. -/
theorem Step.freezeB {S : Nat → Prop} (h : Step S M w M' w') {e size n : Nat} {v : Value} {cs : List Value} (hb : Buf w' M' e size v n cs) (hn : ∀ g, v.ownBlock = some g → w.heap.size ≤ g) :
    ∃ M'', Step S M w M'' w' ∧ Le M' M'' ∧ RdM M'' size v n cs ∧ ∀ k, v.ownBlock ≠ some k → M'' k = M' k := by
  obtain ⟨⟨h1, h2⟩, h3⟩ := hb
  rcases h2 with ⟨rfl, rfl⟩ | ⟨g, cap, cur, rfl, hbg, hh, hnc, hcm, hsz, htk⟩
  · exact ⟨M', h, Le.refl _, ⟨h1, .inl ⟨rfl, none, 0, rfl, fun _ => rfl⟩⟩, fun _ _ => rfl⟩
  · have ho : Own w' M' g cur.toList e := ⟨by show w'.heap[g]? = _; rw [hh], h3 g rfl⟩
    refine ⟨M'.ins g cur.toList e, h.freeze ho (hn g rfl), Le.ins _ _ ho.2, ⟨h1, .inr ⟨g, 0, cap, rfl, hnc, fun j u hj => ?_⟩⟩, fun k hk => Mem.ins_other _ _ fun he => hk (by rw [he]; rfl)⟩
    unfold cellM
    rw [Mem.ins_same, Option.bind_some, nth_eq, Nat.zero_add]
    rw [← htk, List.getElem?_take] at hj
    split at hj
    · exact hj
    · cases hj
theorem Rd.cell {size n o cap g j : Nat} {cs : List Value} {u : Value} (h : Rd w size (.slice (some ⟨g, o, none⟩) n cap) n cs) (hj : cs[j]? = some u) : w.cell? ⟨g, o + j, none⟩ = some u := by
  rcases h.2 with ⟨rfl, _⟩ | ⟨b, o', cap', h2, _, hh⟩
  · have h1 := h.1
    rw [Nat.zero_mul] at h1
    rw [List.eq_nil_of_length_eq_zero h1] at hj
    cases hj
  · cases h2; exact hh j u hj
theorem Buf.cell {e size n o cap g j : Nat} {cs : List Value} {u : Value} (h : Buf w M e size (.slice (some ⟨g, o, none⟩) n cap) n cs) (hj : cs[j]? = some u) : w.cell? ⟨g, o + j, none⟩ = some u := h.rd.cell hj
theorem RdM.cell {size n o cap g j : Nat} {cs : List Value} {u : Value} (h : RdM M size (.slice (some ⟨g, o, none⟩) n cap) n cs) (hs : Sat M w) (hj : cs[j]? = some u) : w.cell? ⟨g, o + j, none⟩ = some u := (h.rd hs).cell hj
theorem Own.of_same {b e : Nat} {cs : List Value} (h : Own w M b cs e) (hm : M' b = M b) : Own w M' b cs e := ⟨h.1, hm.trans h.2⟩
theorem Buf.of_same {e size n : Nat} {v : Value} {cs : List Value} (h : Buf w M e size v n cs) (hm : ∀ g, v.ownBlock = some g → M' g = M g) : Buf w M' e size v n cs := ⟨h.1, fun g hg => (hm g hg).trans (h.2 g hg)⟩
end
end Go.Eng
