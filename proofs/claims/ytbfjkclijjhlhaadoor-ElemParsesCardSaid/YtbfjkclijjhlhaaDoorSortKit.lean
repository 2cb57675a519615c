/- Rows of elements of two numbers, to be put in order. No conditions. -/
import Derived.Test.YtbfjkclijjhlhaaDoorRead2
import Derived.Sort.LotD3
import Derived.Laws.Bits64
import Derived.Sort.LotA
import Derived.Sort.LotB
import Derived.Sort.LotC
import Derived.Laws.StructEq
import Derived.Lib.Tables
import Derived.Sort.LotD4
import Derived.Sort.LotD5
import Derived.Sort.LotD7
namespace Go.Eng
open Go

abbrev El := Int × Int
def elc (e : El) : List Value := [.int .i64 e.1, .int .i64 e.2]
def els (xs : List El) : List Value := xs.flatMap elc
theorem elc_length (e : El) : (elc e).length = 2 := rfl
theorem els_length (xs : List El) : (els xs).length = xs.length * 2 := rows_length elc_length xs
theorem els_one (xs : List El) : ∀ x ∈ els xs, x.oneCell' = true := fun x hx => by
  obtain ⟨t, _, hx⟩ := List.mem_flatMap.1 hx
  simp only [elc, List.mem_cons, List.not_mem_nil, or_false] at hx
  rcases hx with rfl | rfl <;> rfl
theorem els_append (a b : List El) : els (a ++ b) = els a ++ els b := List.flatMap_append

/-- How two elements stand. -/
def cmp1 (a b : Int) : Int := if a < b then -1 else if b < a then 1 else 0
def cmpE (x y : El) : Int := if cmp1 x.1 y.1 = 0 then cmp1 x.2 y.2 else cmp1 x.1 y.1
def ltE (x y : El) : Bool := decide (cmpE x y < 0)
theorem cmp1_neg {a b : Int} : cmp1 a b < 0 ↔ a < b := by
  unfold cmp1
  split
  · omega
  · split <;> omega
theorem cmp1_zero {a b : Int} : cmp1 a b = 0 ↔ a = b := by
  unfold cmp1
  split
  · omega
  · split <;> omega
theorem cmpE_neg {x y : El} : cmpE x y < 0 ↔ x.1 < y.1 ∨ x.1 = y.1 ∧ x.2 < y.2 := by
  unfold cmpE
  by_cases h : cmp1 x.1 y.1 = 0
  · rw [if_pos h, cmp1_neg]; have := cmp1_zero.1 h; omega
  · rw [if_neg h, cmp1_neg]; have : x.1 ≠ y.1 := fun e => h (cmp1_zero.2 e); omega
theorem ltE_iff {x y : El} : ltE x y = true ↔ x.1 < y.1 ∨ x.1 = y.1 ∧ x.2 < y.2 := by unfold ltE; rw [decide_eq_true_iff, cmpE_neg]
theorem ltE_not {x y : El} : ltE x y = false ↔ ¬ (x.1 < y.1 ∨ x.1 = y.1 ∧ x.2 < y.2) := by rw [← ltE_iff]; simp
theorem swoE : Go.Sort.SWO ltE where
  irrefl x := by rw [ltE_not]; omega
  trans x y z h1 h2 := by rw [ltE_iff] at *; omega
  ntrans x y z h1 h2 := by rw [ltE_not] at *; omega
theorem ltE_tot {x y : El} (h1 : ltE x y = false) (h2 : ltE y x = false) : x = y := by
  rw [ltE_not] at h1 h2
  exact Prod.ext (by omega) (by omega)

/-- A row of elements, at its head. -/
def ElRow (E : TypeId) (w : World) (M : Mem) (g n cap : Nat) (d : Array El) : Prop := Buf w M E 2 (.slice (some ⟨g, 0, none⟩) n cap) n (els d.toList)

section
variable {E g n cap : Nat} {w w' : World} {M M' : Mem} {d : Array El} {S : Nat → Prop}

theorem ElRow.size (h : ElRow E w M g n cap d) : d.size = n := by
  have h1 := h.1.1
  rw [els_length, Array.length_toList] at h1
  omega
theorem ElRow.step (h : ElRow E w M g n cap d) (k : Step S M w M' w') (hb : ¬ S g) : ElRow E w' M' g n cap d := Buf.step h k fun b hb' => by cases hb'; exact hb
theorem ElRow.then (h : ElRow E w M g n cap d) (k : Step Nope M w M' w') : ElRow E w' M' g n cap d := h.step k id

theorem get_bang {d : Array El} {i : Nat} (h : i < d.size) : d.toList[i]? = some d[i]! := by
  rw [List.getElem?_eq_getElem (by simpa using h), getElem!_pos d i h]
  simp

theorem ElRow.elem (h : ElRow E w M g n cap d) {i : Int} (h0 : 0 ≤ i) (h1 : i < n) : cellsAre g (0 + i.toNat * 2) 2 (elc d[i.toNat]!) w := by
  refine ⟨rfl, fun r u hr => ?_⟩
  have hi : i.toNat < d.size := by rw [h.size]; omega
  have := rows_get elc_length (get_bang hi) r u hr
  rw [Nat.add_assoc]
  exact Buf.cell h this
end

theorem puts_drop (vs : List Value) : ∀ (cs : List Value) (o : Nat) (j : Nat), (puts cs o vs)[j]? = if o ≤ j ∧ j < o + vs.length ∧ j < cs.length then vs[j - o]? else cs[j]? := by
  induction vs with
  | nil => intro cs o j; simp [puts]; omega
  | cons v r ih =>
    intro cs o j
    rw [puts, ih]
    rw [List.length_set, List.length_cons]
    by_cases hj : j < cs.length
    · by_cases h1 : o + 1 ≤ j ∧ j < o + 1 + r.length ∧ j < cs.length
      · rw [if_pos h1, if_pos (by omega), show j - o = (j - (o + 1)) + 1 from by omega, List.getElem?_cons_succ]
      · rw [if_neg h1]
        by_cases h2 : o = j
        · subst h2
          rw [if_pos (by omega), List.getElem?_set_self hj]; simp
        · rw [if_neg (by omega), List.getElem?_set_ne h2]
    · rw [if_neg (by omega), if_neg (by omega), List.getElem?_eq_none (by simpa using hj), List.getElem?_eq_none (by omega)]

theorem puts_el {d : Array El} {i : Nat} (e : El) : puts (els d.toList) (0 + i * 2) (elc e) = els (d.setIfInBounds i e).toList := by
  refine List.ext_getElem? fun j => ?_
  rw [puts_drop, els_length, show (elc e).length = 2 from rfl, Array.length_toList, Nat.zero_add]
  by_cases hj : j < d.size * 2
  · have hk : j / 2 < (d.setIfInBounds i e).toList.length := by simp; omega
    have hr := rows_get elc_length (List.getElem?_eq_getElem hk) (j % 2) ((elc (d.setIfInBounds i e).toList[j / 2])[j % 2]'(by rw [elc_length]; omega)) (List.getElem?_eq_getElem _)
    rw [show j / 2 * 2 + j % 2 = j from by omega] at hr
    show _ = (List.flatMap elc (d.setIfInBounds i e).toList)[j]?
    rw [hr]
    by_cases hij : i * 2 ≤ j ∧ j < i * 2 + 2 ∧ j < d.size * 2
    · rw [if_pos hij]
      have e1 : j / 2 = i := by omega
      have e2 : j % 2 = j - i * 2 := by omega
      simp only [e1, e2, Array.toList_setIfInBounds, List.getElem_set_self]
      exact List.getElem?_eq_getElem _
    · rw [if_neg hij]
      have e1 : i ≠ j / 2 := by omega
      have hk2 : j / 2 < d.toList.length := by simp; omega
      have hr2 := rows_get elc_length (List.getElem?_eq_getElem hk2) (j % 2) ((elc d.toList[j / 2])[j % 2]'(by rw [elc_length]; omega)) (List.getElem?_eq_getElem _)
      rw [show j / 2 * 2 + j % 2 = j from by omega] at hr2
      show (List.flatMap elc d.toList)[j]? = _
      rw [hr2]
      simp only [Array.toList_setIfInBounds, List.getElem_set_ne e1]
  · rw [if_neg (by omega), List.getElem?_eq_none (by rw [els_length]; simp; omega), List.getElem?_eq_none (by rw [els_length]; simp; omega)]

theorem h_storeD {c : Cx} {l : Env} {ty : TypeId} {w : World} {M : Mem} {K : Value → World → Prop} {x y : Operand} {t E g n cap : Nat} {d : Array El} {e : El} {i : Int} (hs : Sat M w) (hd : ElRow E w M g n cap d)
    (hx : opv l x = some (.pointer (some ⟨g, 0 + i.toNat * 2, none⟩))) (hy : opv l y = some (.agg (elc e).toArray)) (hn : sizeB c.P t = some 2) (h0 : 0 ≤ i) (h1 : i < n)
    (hk : ∀ w', Step (Just g) M w M w' → ElRow E w' M g n cap (d.setIfInBounds i.toNat e) → K undef w') : HW c l (.store t x y) ty w K :=
  h_storeB hs hd hx hy (rfl : vcells _ = elc e) hn (by rw [elc_length]; omega) rfl (puts_el e) hk

section
variable {P : Program} {l : Env} {x y : Operand} {ty t u e : TypeId} {w : World}

theorem two_of' {α : Type} : ∀ {cs : List α}, cs.length = 2 → ∃ a b, cs = [a, b]
  | [a, b], _ => ⟨a, b, rfl⟩

theorem run_eqE {a b : El} (ht : P.underlying t = some (.struct (P.fieldsOf t))) (hp : P.stoodInHeld t = false) (hf : (P.fieldsOf t).toList.map (fun f => (f.name == "_", f.type, f.offset)) = [(false, e, 0), (false, e, 1)]) (he : P.underlying e = some (.int .i64)) (ha : aggOf P e = some none) :
    (Op.equalIn 10000 t (.agg (elc a).toArray) (.agg (elc b).toArray)).run P w = .ok (decide (a = b)) w := by
  rw [run_equalIn_struct w 9999 t _ _ ht hp]
  have hl : (P.fieldsOf t).toList.length = 2 := by have := congrArg List.length hf; simpa using this
  obtain ⟨f0, f1, hfs⟩ := two_of' hl
  rw [hfs] at hf ⊢
  · simp only [List.map_cons, List.map_nil, List.cons.injEq, Prod.mk.injEq, and_true] at hf
    obtain ⟨⟨n0, t0, o0⟩, n1, t1, o1⟩ := hf
    have m0 : f0.name ≠ "_" := by simpa using n0
    have m1 : f1.name ≠ "_" := by simpa using n1
    obtain ⟨a1, a2⟩ := a
    obtain ⟨b1, b2⟩ := b
    have p0 : ∀ (c1 c2 : Int) (w : World), (part e (elc (c1, c2)).toArray 0).run P w = .ok (.int .i64 c1) w := fun c1 c2 w => run_part1 ha rfl
    have p1 : ∀ (c1 c2 : Int) (w : World), (part e (elc (c1, c2)).toArray 1).run P w = .ok (.int .i64 c2) w := fun c1 c2 w => run_part1 ha rfl
    rw [Op.eqFields, if_pos m0, t0, o0]
    simp only [Sem.run_bind, p0, Result.andThen_ok, run_equalIn_int w 9998 e .i64 .i64 a1 b1 he]
    by_cases h1 : a1 = b1
    · subst h1
      simp only [beq_self_eq_true, Bool.not_true, Bool.false_eq_true, if_false]
      rw [Op.eqFields, if_pos m1, t1, o1]
      simp only [Sem.run_bind, p1, Result.andThen_ok, run_equalIn_int w 9998 e .i64 .i64 a2 b2 he]
      by_cases h2 : a2 = b2
      · subst h2
        simp [Op.eqFields]
      · simp [h2]
    · simp [h1]

theorem q_eqE {a b : El} (ht : P.underlying t = some (.struct (P.fieldsOf t))) (hp : P.stoodInHeld t = false) (hm : P.eqGuardType P.depth t = false) (hf : (P.fieldsOf t).toList.map (fun f => (f.name == "_", f.type, f.offset)) = [(false, e, 0), (false, e, 1)]) (he : P.underlying e = some (.int .i64)) (ha : aggOf P e = some none)
    (hx : opv l x = some (.agg (elc a).toArray)) (hy : opv l y = some (.agg (elc b).toArray)) : Quiet P l (.binOp .eql t x y u) ty w (.bool (decide (a = b))) := fun ρ h _ _ _ _ => by
  refine run_v ?_
  rw [h x _ hx, h y _ hy]
  simp only [Sem.run_bind, run_eqGuard_agg w .eql t _ _ _ _ hm, Result.andThen_ok, run_eql_struct w t, run_eqE ht hp hf he ha]
theorem q_neE {a b : El} (ht : P.underlying t = some (.struct (P.fieldsOf t))) (hp : P.stoodInHeld t = false) (hm : P.eqGuardType P.depth t = false) (hf : (P.fieldsOf t).toList.map (fun f => (f.name == "_", f.type, f.offset)) = [(false, e, 0), (false, e, 1)]) (he : P.underlying e = some (.int .i64)) (ha : aggOf P e = some none)
    (hx : opv l x = some (.agg (elc a).toArray)) (hy : opv l y = some (.agg (elc b).toArray)) : Quiet P l (.binOp .neq t x y u) ty w (.bool (!decide (a = b))) := fun ρ h _ _ _ _ => by
  refine run_v ?_
  rw [h x _ hx, h y _ hy]
  simp only [Sem.run_bind, run_eqGuard_agg w .neq t _ _ _ _ hm, Result.andThen_ok, run_neq_struct w t, run_eqE ht hp hf he ha]
end

section
variable {P : Program} {l : Env} {x y : Operand} {ty t u : TypeId} {w : World} {k yk : IntKind} {a b : Int}
theorem q_shl (hx : opv l x = some (.int k a)) (hy : opv l y = some (.int yk b)) (hb : 0 ≤ b) : Quiet P l (.binOp .shl t x y u) ty w (.int k (k.wrap (a * 2 ^ (min b.toNat k.bits)))) := fun ρ h _ _ _ _ => by
  refine run_v ?_
  rw [h x _ hx, h y _ hy, eqGuard_shl, binOp_shl]
  unfold Op.shift
  rw [if_neg (by omega)]
  rfl
theorem q_shr (hx : opv l x = some (.int k a)) (hy : opv l y = some (.int yk b)) (hb : 0 ≤ b) : Quiet P l (.binOp .shr t x y u) ty w (.int k (a.fdiv (2 ^ (min b.toNat k.bits)))) := fun ρ h _ _ _ _ => by
  refine run_v ?_
  rw [h x _ hx, h y _ hy, eqGuard_shr, binOp_shr]
  unfold Op.shift
  rw [if_neg (by omega)]
  rfl
theorem q_andb (hx : opv l x = some (.int k a)) (hy : opv l y = some (.int k b)) : Quiet P l (.binOp .and t x y u) ty w (.int k (k.wrap ((BitVec.ofInt k.bits a &&& BitVec.ofInt k.bits b).toNat : Int))) := fun ρ h _ _ _ _ => by
  refine run_v ?_
  rw [h x _ hx, h y _ hy, eqGuard_and, binOp_and]
  rfl
theorem q_xorb (hx : opv l x = some (.int k a)) (hy : opv l y = some (.int k b)) : Quiet P l (.binOp .xor t x y u) ty w (.int k (k.wrap ((BitVec.ofInt k.bits a ^^^ BitVec.ofInt k.bits b).toNat : Int))) := fun ρ h _ _ _ _ => by
  refine run_v ?_
  rw [h x _ hx, h y _ hy, eqGuard_xor, binOp_xor]
  rfl
theorem wrap_u64_range (z : Int) : 0 ≤ IntKind.u64.wrap z ∧ IntKind.u64.wrap z < 18446744073709551616 := by
  have h : IntKind.u64.wrap z = z % 18446744073709551616 := by simp [IntKind.wrap, IntKind.bits, IntKind.signed]
  rw [h]; omega
theorem and_u64_le (a b : Int) (h0 : 0 ≤ b) (h1 : b < 18446744073709551616) : IntKind.u64.wrap ((BitVec.ofInt 64 a &&& BitVec.ofInt 64 b).toNat : Int) ≤ b := by
  have h : ∀ z, IntKind.u64.wrap z = z % 18446744073709551616 := fun z => by simp [IntKind.wrap, IntKind.bits, IntKind.signed]
  rw [h, BitVec.toNat_and]
  have h2 : (BitVec.ofInt 64 a).toNat &&& (BitVec.ofInt 64 b).toNat ≤ (BitVec.ofInt 64 b).toNat := Nat.and_le_right
  have h3 : (BitVec.ofInt 64 b).toNat = b.toNat := by rw [BitVec.toNat_ofInt]; omega
  omega
end

theorem q_len8 {P : Program} {l : Env} {x y : Operand} {ty T : TypeId} {w : World} {k : IntKind} {i : Int} (ht : P.underlying T = some .string) (hx : opv l x = some (.string Go.Lib.len8tab)) (hy : opv l y = some (.int k i)) (h0 : 0 ≤ i) (h1 : i ≤ 255) :
    Quiet P l (.index T x y) ty w (.int .u8 (Go.Lib.len8 i)) := fun ρ h _ _ _ _ => by
  refine run_v ?_
  rw [h x _ hx, h y _ hy]
  exact Go.Lib.run_index_len8tab w T k i ht h0 h1
theorem len8_all : ∀ n : Nat, n < 256 → 0 ≤ Go.Lib.len8 n ∧ Go.Lib.len8 n ≤ 8 ∧ (8 ≤ n → 2 ^ (Go.Lib.len8 n).toNat ≤ 2 * n) := by decide +kernel
/-- A statement that ends in J, and what comes behind it. -/
theorem cw_cutS {c : Cx} {K : Post} {l : Env} {w : World} {x y : Code} (J : Env → World → Prop) (h : CW c x (thn (fun l' w' => ∃ l₀, Sub l₀ l' ∧ J l₀ w') K) l w) (h2 : ∀ l w, J l w → CW c y K l w) : CW c (.seq x y) K l w :=
  cw_cut _ h fun _ w' ⟨l₀, hs, hj⟩ => (h2 l₀ w' hj).sub hs
end Go.Eng
