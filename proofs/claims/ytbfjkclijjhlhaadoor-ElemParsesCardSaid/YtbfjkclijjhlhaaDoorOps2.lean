/- The engine of this claim's walks, fourth part: structs that are built, slices that are cut, strings, division. No conditions. -/
import Derived.Test.YtbfjkclijjhlhaaDoorMem
namespace Go.Eng
open Go

theorem q_congr {P : Program} {l : Env} {op : Op} {ty : TypeId} {w : World} {v v' : Value} (h : Quiet P l op ty w v) (e : v = v') : Quiet P l op ty w v' := e ▸ h

/-! ### A struct's value -/

def nthN : List (Nat × Nat) → Nat → Option (Nat × Nat)
  | [], _ => none
  | v :: _, 0 => some v
  | _ :: r, n + 1 => nthN r n
theorem nthN_eq : ∀ (l : List (Nat × Nat)) (n : Nat), nthN l n = l[n]?
  | [], n => by simp [nthN]
  | v :: r, 0 => by simp [nthN]
  | v :: r, n + 1 => by simp [nthN, nthN_eq r n]

def fillL (places : List (Nat × Nat)) : List (Nat × Value) → List Value → Option (List Value)
  | [], cells => some cells
  | (i, v) :: rest, cells => match nthN places i with
    | none => none
    | some (off, size) => bif Nat.beq (vcells v).length size && Nat.ble (off + size) cells.length then fillL places rest (puts cells off (vcells v)) else none

theorem puts_foldl (off : Nat) : ∀ (vs : List Value) (k : Nat) (cells : Array Value), (vs.zipIdx k).foldl (fun (cs : Array Value) (x : Value × Nat) => cs.setIfInBounds (off + x.2) x.1) cells = (puts cells.toList (off + k) vs).toArray
  | [], k, cells => by simp [puts]
  | v :: r, k, cells => by
    rw [List.zipIdx_cons, List.foldl_cons, puts_foldl off r (k + 1) (cells.setIfInBounds (off + k) v)]
    simp [puts, Nat.add_assoc]

theorem fill_eq (place : Nat → Option (Nat × Nat)) (places : List (Nat × Nat)) (hp : ∀ i x, nthN places i = some x → place i = some x) : ∀ (parts : List (Nat × Value)) (cells : List Value) (out : List Value), fillL places parts cells = some out →
    Instr.fill place cells.toArray parts = some out.toArray
  | [], cells, out, h => by cases h; rfl
  | (i, v) :: rest, cells, out, h => by
    unfold fillL at h
    cases hn : nthN places i with
    | none => rw [hn] at h; cases h
    | some x =>
      obtain ⟨off, size⟩ := x
      rw [hn] at h
      simp only [] at h
      cases hb : (Nat.beq (vcells v).length size && Nat.ble (off + size) cells.length) with
      | false => rw [hb] at h; cases h
      | true =>
        rw [hb, cond_true] at h
        simp only [Bool.and_eq_true] at hb
        have h1 := Nat.eq_of_beq_eq_true hb.1
        have h2 := Nat.le_of_ble_eq_true hb.2
        unfold Instr.fill
        rw [hp i _ hn]
        simp only []
        rw [vcells_eq]
        have hf : (vcells v).toArray.zipIdx.foldl (fun (cs : Array Value) (x : Value × Nat) => cs.setIfInBounds (off + x.2) x.1) cells.toArray = (puts cells off (vcells v)).toArray := by
          have h3 := puts_foldl off (vcells v) 0 cells.toArray
          rw [show (vcells v).toArray.zipIdx = ((vcells v).zipIdx 0).toArray from by simp, List.foldl_toArray]
          simpa using h3
        rw [if_neg (by simp; omega)]
        exact (congrArg (fun c => Instr.fill place c rest) hf).trans (fill_eq place places hp rest _ out h)

def placesOf (P : Program) (T : TypeId) : Option (List (Nat × Nat)) :=
  match P.underlying T with
  | some (.struct fs) => fs.toList.mapM fun f => (P.info? f.type).map fun i => (f.offset, i.size)
  | _ => none

def buildInfo (P : Program) (T : TypeId) (zs : List Value) (places : List (Nat × Nat)) : Prop := zeroOf P T = some (.agg zs.toArray) ∧ placesOf P T = some places

def opparts (l : Env) : List (Nat × Operand) → Option (List (Nat × Value))
  | [] => some []
  | (i, x) :: r => match opv l x, opparts l r with
    | some v, some vs => some ((i, v) :: vs)
    | _, _ => none

theorem opparts_map {l : Env} {ρ : Operand → Value} (hρ : ∀ x u, opv l x = some u → ρ x = u) : ∀ (xs : List (Nat × Operand)) (vs : List (Nat × Value)), opparts l xs = some vs → xs.map (fun (i, x) => (i, ρ x)) = vs
  | [], vs, h => by cases h; rfl
  | (i, x) :: r, vs, h => by
    unfold opparts at h
    cases h1 : opv l x with
    | none => rw [h1] at h; cases h
    | some v =>
      cases h2 : opparts l r with
      | none => rw [h1, h2] at h; cases h
      | some us => rw [h1, h2] at h; cases h; simp [hρ x v h1, opparts_map hρ r us h2]

theorem mapM_places {P : Program} {w : World} : ∀ (fs : List Field) (ps : List (Nat × Nat)), fs.mapM (fun f => (P.info? f.type).map fun i => (f.offset, i.size)) = some ps →
    (fs.mapM (m := Sem) fun f => do pure (f.offset, ← sizeOf f.type)).run P w = .ok ps w
  | [], ps, h => by simp at h; subst h; rfl
  | f :: r, ps, h => by
    simp only [List.mapM_cons, Option.bind_eq_bind, Option.bind_eq_some_iff] at h
    obtain ⟨x, hx, ps', hps, he⟩ := h
    simp only [Option.pure_def, Option.some.injEq] at he
    subst he
    obtain ⟨i, hi, rfl⟩ := Option.map_eq_some_iff.1 hx
    have ih := mapM_places (P := P) (w := w) r ps' hps
    rw [List.mapM_cons]
    have e1 : (sizeOf f.type).run P w = .ok i.size w := by simp [sizeOf, typeInfo, hi]
    simp only [Sem.run_bind, e1, Result.andThen_ok, Sem.run_pure, ih]

theorem q_build {P : Program} {l : Env} {ty : TypeId} {w : World} {T : TypeId} {xs : List (Nat × Operand)} {zs cs : List Value} {places : List (Nat × Nat)} {vs : List (Nat × Value)} (hT : zeroOf P T = some (.agg zs.toArray)) (hP : placesOf P T = some places)
    (hx : opparts l xs = some vs) (hf : fillL places vs zs = some cs) : Quiet P l (.build T xs.toArray) ty w (.agg cs.toArray) := fun ρ h _ _ _ _ => by
  refine run_v ?_
  have e := opparts_map h xs vs hx
  unfold placesOf at hP
  cases hu : P.underlying T with
  | none => rw [hu] at hP; cases hP
  | some d =>
    cases d <;> (rw [hu] at hP; try cases hP)
    rename_i fs
    simp only [] at hP
    have hm := mapM_places (P := P) (w := w) fs.toList places hP
    have hmA : (fs.mapM (m := Sem) fun f => do pure (f.offset, ← sizeOf f.type)).run P w = .ok places.toArray w := by
      rw [show fs = fs.toList.toArray from rfl, List.mapM_toArray, Sem.run_map, hm]; rfl
    have hfill := fill_eq (fun i => places.toArray[i]?) places (fun i x hi => by rw [nthN_eq] at hi; simpa using hi) vs zs cs hf
    have e2 : (xs.toArray.map fun (i, x) => (i, ρ x)).toList = vs := by simpa using e
    simp only [Instr.build, Sem.run_bind, run_zeroOf hT w, Result.andThen_ok, run_underlying hu, hmA]
    have e3 : (Array.map (fun x : Nat × Operand => match x with | (i, x) => (i, ρ x)) xs.toArray).toList = vs := e2
    rw [e3]
    have hz : (Value.agg zs.toArray).cells = zs.toArray := rfl
    rw [hz, hfill]
    rfl

/-! ### The address of an element -/

theorem q_indexAddr {P : Program} {l : Env} {ty : TypeId} {w : World} {x y : Operand} {T e size b o n cap : Nat} {k : IntKind} {i : Int} (hT : P.underlying T = some (.slice e)) (hz : sizeB P e = some size) (hx : opv l x = some (.slice (some ⟨b, o, none⟩) n cap)) (hy : opv l y = some (.int k i))
    (h0 : 0 ≤ i) (h1 : i < n) : Quiet P l (.indexAddr T x y) ty w (.pointer (some ⟨b, o + i.toNat * size, none⟩)) := fun ρ h _ _ _ _ => by
  refine run_v ?_
  rw [h x _ hx, h y _ hy]
  have e : (Addr.mk b o none).add (i.toNat * size) = ⟨b, o + i.toNat * size, none⟩ := Addr.add_lit b o _
  simp [Instr.indexAt, asIntOf, run_underlying hT, h0, h1, run_sizeB hz, e]

/-- xs[lo:hi] of a slice. -/
theorem q_slice {P : Program} {l : Env} {ty : TypeId} {w : World} {x : Operand} {lo hi : Option Operand} {T e size n cap : Nat} {a : Option Addr} {k k' : IntKind} {i j : Int} (hT : P.underlying T = some (.slice e)) (hz : sizeB P e = some size)
    (hx : opv l x = some (.slice a n cap)) (hlo : (match lo with | none => i = 0 | some y => opv l y = some (.int k i))) (hhi : (match hi with | none => j = n | some y => opv l y = some (.int k' j)))
    (h0 : 0 ≤ i) (h1 : i ≤ j) (h2 : j ≤ cap) :
    Quiet P l (.slice T x lo hi none) ty w (.slice (if cap = i.toNat then a else a.map (·.add (i.toNat * size))) (j.toNat - i.toNat) (cap - i.toNat)) := fun ρ h _ _ _ _ => by
  refine run_v ?_
  have hb : (Instr.sliceBounds true n cap (lo.map ρ) (hi.map ρ) none).run P w = .ok (i.toNat, j.toNat, cap) w := by
    unfold Instr.sliceBounds
    cases lo with
    | none =>
      cases hi with
      | none =>
        simp only [] at hlo hhi
        subst hlo; subst hhi
        simp
      | some y =>
        simp only [] at hlo hhi
        subst hlo
        rw [Option.map_some, h y _ hhi]
        simp [Instr.sliceBound, asIntOf, show (0 : Int) ≤ j ∧ j ≤ cap from ⟨by omega, h2⟩]
    | some y =>
      cases hi with
      | none =>
        simp only [] at hlo hhi
        subst hhi
        rw [Option.map_some, h y _ hlo]
        simp [Instr.sliceBound, asIntOf, show (0 : Int) ≤ i ∧ i ≤ n from ⟨by omega, h1⟩]
      | some y' =>
        simp only [] at hlo hhi
        rw [Option.map_some, Option.map_some, h y _ hlo, h y' _ hhi]
        have hj : ((j.toNat : Nat) : Int) = j := by omega
        simp [Instr.sliceBound, asIntOf, show (0 : Int) ≤ j ∧ j ≤ cap from ⟨by omega, h2⟩, show 0 ≤ i from h0, show i ≤ max j 0 from by omega]
  rw [h x _ hx]
  simp [Instr.sliceAt, run_underlying hT, Instr.slice, hb, run_sizeB hz]

/-- An element of an array's value. -/
theorem q_indexA1 {P : Program} {l : Env} {ty : TypeId} {w : World} {x y : Operand} {T e n : Nat} {k : IntKind} {i : Int} {cs : List Value} {v : Value} (hT : P.underlying T = some (.array n e)) (ha : aggOf P e = some none) (hz : sizeB P e = some 1)
    (hx : opv l x = some (.agg cs.toArray)) (hy : opv l y = some (.int k i)) (h0 : 0 ≤ i) (h1 : i < n) (hv : nth cs i.toNat = some v) : Quiet P l (.index T x y) ty w v := fun ρ h _ _ _ _ => by
  refine run_v ?_
  rw [h x _ hx, h y _ hy]
  simp [Instr.index, asIntOf, run_underlying hT, h0, h1, run_sizeB hz, run_part1 ha hv]

/-! ### Strings -/
section strs
variable {P : Program} {l : Env} {ty : TypeId} {w : World} {x y : Operand} {t u : TypeId} {a b : ByteArray}
theorem q_concat (hx : opv l x = some (.string a)) (hy : opv l y = some (.string b)) (hsz : a.size + b.size ≤ 9223372036854775807) : Quiet P l (.binOp .add t x y u) ty w (.string (a ++ b)) := fun ρ h _ _ _ _ => by
  refine run_v ?_
  rw [h x _ hx, h y _ hy, eqGuard_add]
  have hn : ¬ (((a.size + b.size : Nat) : Int) > IntKind.i64.max) := by
    rw [show IntKind.i64.max = 9223372036854775807 from rfl]; omega
  show (Op.stringOp .add a b).run P w = _
  unfold Op.stringOp
  simp only []
  rw [if_neg hn]
  rfl
theorem q_eqs (hx : opv l x = some (.string a)) (hy : opv l y = some (.string b)) : Quiet P l (.binOp .eql t x y u) ty w (.bool (a.toList == b.toList)) := fun ρ h _ _ _ _ => by
  refine run_v ?_
  rw [h x _ hx, h y _ hy, eqGuard_at_string]
  rfl
theorem q_nes (hx : opv l x = some (.string a)) (hy : opv l y = some (.string b)) : Quiet P l (.binOp .neq t x y u) ty w (.bool (!(a.toList == b.toList))) := fun ρ h _ _ _ _ => by
  refine run_v ?_
  rw [h x _ hx, h y _ hy, eqGuard_at_string]
  rfl
end strs

/-! ### What a region that draws must keep -/
def cellIs (b o : Nat) (v : Value) : World → Prop := fun w => w.cell? ⟨b, o, none⟩ = some v
def cellsAre (b o n : Nat) (vs : List Value) : World → Prop := fun w => vs.length = n ∧ ∀ j v, vs[j]? = some v → w.cell? ⟨b, o + j, none⟩ = some v

section
variable {P : Program} {l : Env} {ty : TypeId} {w : World}
theorem q_loadc {x : Operand} {b o T n : Nat} {vs : List Value} (hT : aggOf P T = some (some n)) (hx : opv l x = some (.pointer (some ⟨b, o, none⟩))) (hc : vs.length = n ∧ ∀ j v, vs[j]? = some v → w.cell? ⟨b, o + j, none⟩ = some v) : Quiet P l (.load T x) ty w (.agg vs.toArray) :=
  q_loadn hT hx hc.1 hc.2

variable {x y : Operand} {t u : TypeId} {a b : Int}
theorem wrap64_of {z : Int} (h0 : -9223372036854775808 ≤ z) (h1 : z ≤ 9223372036854775807) : IntKind.i64.wrap z = z := by rw [IntKind.wrap_i64]; omega
theorem q_addx (hx : opv l x = some (.int .i64 a)) (hy : opv l y = some (.int .i64 b)) (h0 : -9223372036854775808 ≤ a + b) (h1 : a + b ≤ 9223372036854775807) : Quiet P l (.binOp .add t x y u) ty w (.int .i64 (a + b)) :=
  q_congr (q_add hx hy) (by rw [wrap64_of h0 h1])
theorem q_subx (hx : opv l x = some (.int .i64 a)) (hy : opv l y = some (.int .i64 b)) (h0 : -9223372036854775808 ≤ a - b) (h1 : a - b ≤ 9223372036854775807) : Quiet P l (.binOp .sub t x y u) ty w (.int .i64 (a - b)) :=
  q_congr (q_sub hx hy) (by rw [wrap64_of h0 h1])
theorem q_mulx (hx : opv l x = some (.int .i64 a)) (hy : opv l y = some (.int .i64 b)) (h0 : -9223372036854775808 ≤ a * b) (h1 : a * b ≤ 9223372036854775807) : Quiet P l (.binOp .mul t x y u) ty w (.int .i64 (a * b)) :=
  q_congr (q_mul hx hy) (by rw [wrap64_of h0 h1])
theorem q_convx {s d : TypeId} {k k' : IntKind} (hs : (P.underlying s).isSome = true) (hd : P.underlying d = some (.int k')) (hx : opv l x = some (.int k a)) (hw : k'.wrap a = a) : Quiet P l (.convert s d x) ty w (.int k' a) :=
  q_congr (q_conv hs hd hx) (by rw [hw])

theorem q_lens {t' : TypeId} {s : ByteArray} (ht : P.underlying t' = some .string) (hx : opv l x = some (.string s)) (w : World) : Quiet P l (.call ⟨.builtin .len, #[x], #[t']⟩) ty w (.int .i64 s.size) := fun ρ h _ _ _ _ => by
  simp only [execOp, resolve, List.map_toArray, List.map_cons, List.map_nil, h x _ hx]
  simp [invoke, builtin, Builtin.len_, run_underlying ht]
  rfl

theorem q_eqsl {t' u' : TypeId} {a' : Option Addr} {n c : Nat} (ht : (match P.underlying t' with | some (.slice _) => true | _ => false) = true) (hx : opv l x = some (.slice a' n c)) : Quiet P l (.binOp .eql t' x (.const (.slice none 0 0)) u') ty w (.bool a'.isNone) := fun ρ h _ _ _ _ => by
  refine run_v ?_
  rw [h x _ hx, h (.const (.slice none 0 0)) _ rfl, eqGuard_at_slice]
  cases hu : P.underlying t' with
  | none => rw [hu] at ht; cases ht
  | some d =>
    rw [hu] at ht
    cases d <;> first | (cases ht; done) | skip
    have e : (Op.equalIn 10000 t' (.slice a' n c) (.slice none 0 0)).run P w = .ok a'.isNone w := by
      show (Op.equalIn (9999 + 1) t' (.slice a' n c) (.slice none 0 0)).run P w = _
      unfold Op.equalIn
      cases a' <;> simp [run_underlying hu]
    simp [binOp, Op.equal, Op.maxDepth, e]

def rowPlaces (size : Nat) : Nat → Nat → List (Nat × Nat)
  | _, 0 => []
  | k, n + 1 => (k * size, size) :: rowPlaces size (k + 1) n
theorem rowPlaces_nth (size : Nat) : ∀ (n k i : Nat) (z : Nat × Nat), nthN (rowPlaces size k n) i = some z → z = ((k + i) * size, size)
  | 0, _, _, _, h => by cases h
  | n + 1, k, 0, z, h => by cases h; rfl
  | n + 1, k, i + 1, z, h => by
    have := rowPlaces_nth size n (k + 1) i z h
    rw [this]; congr 2; omega

/-- The zeros of a row of n elements. -/
def rowZeros (P : Program) (e size n : Nat) : Option (List Value) :=
  if n * size = 0 then some [] else (zeroOf P e).map fun z => ((Array.range (n * size)).map (z.cells[· % z.cells.size]!)).toList

theorem run_buildSlice {T e size n : Nat} {vs : List (Nat × Value)} {zs cs : List Value} (hT : P.underlying T = some (.slice e)) (hz : sizeB P e = some size) (hzs : rowZeros P e size n = some zs) (hn : n * size ≤ 16777216)
    (hf : fillL (rowPlaces size 0 n) vs zs = some cs) : (Instr.buildSlice T n vs.toArray).run P w = .ok (.slice (some ⟨w.heap.size, 0, none⟩) n n) (w.alloc (.cells cs.toArray e)) := by
  have hfill := fill_eq (fun i => some (i * size, size)) (rowPlaces size 0 n) (fun i z hi => by rw [rowPlaces_nth size n 0 i z hi]; simp) vs zs cs hf
  unfold rowZeros at hzs
  by_cases h0 : n * size = 0
  · rw [if_pos h0] at hzs
    cases hzs
    have hn' : ¬ (16777216 < n * size) := by omega
    simp [Instr.buildSlice, run_underlying hT, run_sizeB hz, h0, newRow, Array.range_zero']
    rw [hfill]
    simp
  · rw [if_neg h0] at hzs
    obtain ⟨z, hz1, hz2⟩ := Option.map_eq_some_iff.1 hzs
    have hn' : ¬ (16777216 < n * size) := by omega
    have e1 : (Array.range (n * size)).map (z.cells[· % z.cells.size]!) = zs.toArray := by rw [← hz2]
    simp [Instr.buildSlice, run_underlying hT, run_sizeB hz, h0, hn', run_zeroOf hz1]
    rw [e1, hfill]
    simp [newRow]

theorem h_buildO {c : Cx} {M : Mem} {K : Value → World → Prop} {T e size n : Nat} {xs : List (Nat × Operand)} {vs : List (Nat × Value)} {zs cs : List Value} (hT : c.P.underlying T = some (.slice e)) (hz : sizeB c.P e = some size) (hzs : rowZeros c.P e size n = some zs) (hn : Nat.ble (n * size) 16777216 = true)
    (hs : Sat M w) (hx : opparts l xs = some vs) (hf : fillL (rowPlaces size 0 n) vs zs = some cs)
    (hk : ∀ b w', Step Nope M w M w' → Own w' M b cs e → w.heap.size = b → K (.slice (some ⟨b, 0, none⟩) n n) w') : HW c l (.buildSlice T n xs.toArray) ty w K :=
  HW.value (w' := w.alloc (.cells cs.toArray e)) rfl (fun ρ h _ _ _ _ => by
    refine run_v ?_
    have e2 : (xs.toArray.map fun (i, x) => (i, ρ x)) = vs.toArray := by simp only [List.map_toArray]; rw [opparts_map h xs vs hx]
    have e3 : (Array.map (fun x : Nat × Operand => match x with | (i, x) => (i, ρ x)) xs.toArray) = vs.toArray := e2
    rw [e3]
    exact run_buildSlice hT hz hzs (Nat.le_of_ble_eq_true hn) hf) (hk _ _ (Step.alloc hs _) ⟨Blk.new w cs e, hs.none_new⟩ rfl)

section decided
variable {k : IntKind}
theorem q_ltT {a b : Int} (hx : opv l x = some (.int k a)) (hy : opv l y = some (.int k b)) (h : a < b) : Quiet P l (.binOp .lss t x y u) ty w (.bool true) := q_congr (q_lt hx hy) (by rw [decide_eq_true h])
theorem q_ltF {a b : Int} (hx : opv l x = some (.int k a)) (hy : opv l y = some (.int k b)) (h : b ≤ a) : Quiet P l (.binOp .lss t x y u) ty w (.bool false) := q_congr (q_lt hx hy) (by rw [decide_eq_false (by omega)])
theorem q_leT {a b : Int} (hx : opv l x = some (.int k a)) (hy : opv l y = some (.int k b)) (h : a ≤ b) : Quiet P l (.binOp .leq t x y u) ty w (.bool true) := q_congr (q_le hx hy) (by rw [decide_eq_true h])
theorem q_leF {a b : Int} (hx : opv l x = some (.int k a)) (hy : opv l y = some (.int k b)) (h : b < a) : Quiet P l (.binOp .leq t x y u) ty w (.bool false) := q_congr (q_le hx hy) (by rw [decide_eq_false (by omega)])
theorem q_gtT {a b : Int} (hx : opv l x = some (.int k a)) (hy : opv l y = some (.int k b)) (h : b < a) : Quiet P l (.binOp .gtr t x y u) ty w (.bool true) := q_congr (q_gt hx hy) (by rw [decide_eq_true h])
theorem q_gtF {a b : Int} (hx : opv l x = some (.int k a)) (hy : opv l y = some (.int k b)) (h : a ≤ b) : Quiet P l (.binOp .gtr t x y u) ty w (.bool false) := q_congr (q_gt hx hy) (by rw [decide_eq_false (by omega)])
theorem q_geT {a b : Int} (hx : opv l x = some (.int k a)) (hy : opv l y = some (.int k b)) (h : b ≤ a) : Quiet P l (.binOp .geq t x y u) ty w (.bool true) := q_congr (q_ge hx hy) (by rw [decide_eq_true h])
theorem q_geF {a b : Int} (hx : opv l x = some (.int k a)) (hy : opv l y = some (.int k b)) (h : a < b) : Quiet P l (.binOp .geq t x y u) ty w (.bool false) := q_congr (q_ge hx hy) (by rw [decide_eq_false (by omega)])
theorem q_eqT {a b : Int} (hx : opv l x = some (.int k a)) (hy : opv l y = some (.int k b)) (h : a = b) : Quiet P l (.binOp .eql t x y u) ty w (.bool true) := q_congr (q_eq hx hy) (by rw [h, beq_self_eq_true])
theorem q_eqF {a b : Int} (hx : opv l x = some (.int k a)) (hy : opv l y = some (.int k b)) (h : a ≠ b) : Quiet P l (.binOp .eql t x y u) ty w (.bool false) := q_congr (q_eq hx hy) (by rw [beq_eq_false_iff_ne.2 h])
theorem q_neT {a b : Int} (hx : opv l x = some (.int k a)) (hy : opv l y = some (.int k b)) (h : a ≠ b) : Quiet P l (.binOp .neq t x y u) ty w (.bool true) := q_congr (q_ne hx hy) (by rw [bne_iff_ne.2 h])
theorem q_neF {a b : Int} (hx : opv l x = some (.int k a)) (hy : opv l y = some (.int k b)) (h : a = b) : Quiet P l (.binOp .neq t x y u) ty w (.bool false) := q_congr (q_ne hx hy) (by rw [h]; simp)
end decided

theorem q_eqb {a b : Bool} (ht : P.underlying t = some .bool) (hx : opv l x = some (.bool a)) (hy : opv l y = some (.bool b)) : Quiet P l (.binOp .eql t x y u) ty w (.bool (a == b)) := fun ρ h _ _ _ _ => by
  refine run_v ?_
  rw [h x _ hx, h y _ hy, eqGuard_at_bool]
  exact run_eql_bool w t a b ht
theorem q_neb {a b : Bool} (ht : P.underlying t = some .bool) (hx : opv l x = some (.bool a)) (hy : opv l y = some (.bool b)) : Quiet P l (.binOp .neq t x y u) ty w (.bool (!(a == b))) := fun ρ h _ _ _ _ => by
  refine run_v ?_
  rw [h x _ hx, h y _ hy, eqGuard_at_bool]
  exact run_neq_bool w t a b ht
theorem q_eqsT {a b : ByteArray} (hx : opv l x = some (.string a)) (hy : opv l y = some (.string b)) (h : a = b) : Quiet P l (.binOp .eql t x y u) ty w (.bool true) := q_congr (q_eqs hx hy) (by rw [h, beq_self_eq_true])
theorem q_nesF {a b : ByteArray} (hx : opv l x = some (.string a)) (hy : opv l y = some (.string b)) (h : a = b) : Quiet P l (.binOp .neq t x y u) ty w (.bool false) := q_congr (q_nes hx hy) (by rw [h, beq_self_eq_true]; rfl)

/-! ### A store into a slice of the call's own -/
theorem puts_take : ∀ (vs cs : List Value) (o k : Nat), o + vs.length ≤ k → (puts cs o vs).take k = puts (cs.take k) o vs
  | [], _, _, _, _ => rfl
  | v :: r, cs, o, k, h => by
    simp only [List.length_cons] at h
    rw [puts, puts, puts_take r (cs.set o v) (o + 1) k (by omega), List.take_set]

theorem h_storeB {c : Cx} {M : Mem} {K : Value → World → Prop} {x y : Operand} {t g o e size n cap : Nat} {v : Value} {vs cs cs' : List Value} (hs : Sat M w) (hb : Buf w M e size (.slice (some ⟨g, 0, none⟩) n cap) n cs) (hx : opv l x = some (.pointer (some ⟨g, o, none⟩))) (hy : opv l y = some v)
    (hv : vcells v = vs) (hn : sizeB c.P t = some vs.length) (hl : o + vs.length ≤ n * size) (h1 : vs.all (·.oneCell') = true) (hc : puts cs o vs = cs')
    (hk : ∀ w', Step (Just g) M w M w' → Buf w' M e size (.slice (some ⟨g, 0, none⟩) n cap) n cs' → K undef w') : HW c l (.store t x y) ty w K := by
  obtain ⟨⟨hlen, h2⟩, h3⟩ := hb
  rcases h2 with ⟨h2, _⟩ | ⟨g', cap', cur, h2, hbg, hh, hnc, hcm, hsz, htk⟩
  · cases h2
  cases h2
  have ho : Own w M g cur.toList e := ⟨by show w.heap[g]? = _; rw [hh], h3 g rfl⟩
  have hle : n * size ≤ cur.toList.length := by rw [Array.length_toList, hsz]; exact Nat.mul_le_mul_right _ hnc
  subst hc
  subst hv
  refine h_store hs ho hx hy rfl hn (Nat.ble_eq_true_of_le (by omega)) h1 rfl fun w' hs' ho' => hk w' hs' ⟨⟨by rw [puts_length]; exact hlen, .inr ⟨g, cap, (puts cur.toList o (vcells v)).toArray, rfl, hbg, ho'.1, hnc, hcm, by rw [List.size_toArray, puts_length, Array.length_toList, hsz], ?_⟩⟩, fun k hk => by cases hk; exact ho'.2⟩
  rw [List.toList_toArray, puts_take _ _ _ _ hl, htk]

theorem Buf.head {M : Mem} {e size n : Nat} {v : Value} {cs : List Value} (h : Buf w M e size v n cs) (hn : 0 < n) : ∃ g cap, v = .slice (some ⟨g, 0, none⟩) n cap ∧ n ≤ cap := by
  obtain ⟨⟨_, ⟨rfl, h0⟩ | ⟨g, cap, cur, rfl, _, _, hc, _⟩⟩, _⟩ := h
  · omega
  · exact ⟨g, cap, rfl, hc⟩
end
end Go.Eng
