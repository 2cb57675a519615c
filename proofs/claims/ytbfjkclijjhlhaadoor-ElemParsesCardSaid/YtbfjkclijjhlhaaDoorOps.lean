/- The engine of this claim's walks, second part: what each kind of operation does. No conditions. -/
import Derived.Test.YtbfjkclijjhlhaaDoorEng
import Derived.WideLaws
import Derived.LaidEql
import Derived.WalkLawsBesides
namespace Go.Eng
open Go

def nth : List Value → Nat → Option Value
  | [], _ => none
  | v :: _, 0 => some v
  | _ :: r, n + 1 => nth r n

theorem nth_eq : ∀ (l : List Value) (n : Nat), nth l n = l[n]?
  | [], n => by simp [nth]
  | v :: r, 0 => by simp [nth]
  | v :: r, n + 1 => by simp [nth, nth_eq r n]

/-- n cells from o on. -/
def cut : List Value → Nat → Nat → Option (List Value)
  | _, _, 0 => some []
  | [], _, _ + 1 => none
  | v :: r, 0, n + 1 => match cut r 0 n with
    | some vs => some (v :: vs)
    | none => none
  | _ :: r, o + 1, n + 1 => cut r o (n + 1)

theorem cut_spec : ∀ (l : List Value) (o n : Nat) (vs : List Value), cut l o n = some vs → vs = (l.drop o).take n ∧ vs.length = n ∧ (0 < n → o + n ≤ l.length)
  | _, _, 0, vs, h => by
    rw [cut.eq_1] at h
    cases h
    simp
  | [], _, _ + 1, _, h => by simp [cut] at h
  | v :: r, 0, n + 1, vs, h => by
    simp only [cut] at h
    cases hc : cut r 0 n with
    | none => rw [hc] at h; cases h
    | some ws =>
      rw [hc] at h
      obtain ⟨h1, h2, h3⟩ := cut_spec r 0 n ws hc
      cases h
      refine ⟨by simp [h1], by simp [h2], fun _ => ?_⟩
      rcases Nat.eq_zero_or_pos n with h0 | h0
      · subst h0; simp
      · have := h3 h0; simp; omega
  | v :: r, o + 1, n + 1, vs, h => by
    obtain ⟨h1, h2, h3⟩ := cut_spec r o (n + 1) vs h
    exact ⟨by simp [h1], h2, fun hn => by have := h3 hn; simp; omega⟩

def opvs (l : Env) : List Operand → Option (List Value)
  | [] => some []
  | x :: r => match opv l x, opvs l r with
    | some v, some vs => some (v :: vs)
    | _, _ => none

theorem opvs_map {l : Env} {ρ : Operand → Value} (hρ : ∀ x u, opv l x = some u → ρ x = u) : ∀ (xs : List Operand) (vs : List Value), opvs l xs = some vs → xs.map ρ = vs
  | [], vs, h => by cases h; rfl
  | x :: r, vs, h => by
    unfold opvs at h
    cases h1 : opv l x with
    | none => rw [h1] at h; cases h
    | some v =>
      cases h2 : opvs l r with
      | none => rw [h1, h2] at h; cases h
      | some us => rw [h1, h2] at h; cases h; simp [hρ x v h1, opvs_map hρ r us h2]

/-- What is known of a block. -/
def Blk (w : World) (b : Nat) (cs : List Value) (e : TypeId) : Prop := w.heap[b]? = some (.cells cs.toArray e (0, 0))

theorem Blk.cell {w : World} {b : Nat} {cs : List Value} {e : TypeId} (h : Blk w b cs e) {o : Nat} {v : Value} (hv : nth cs o = some v) : w.cell? ⟨b, o, none⟩ = some v := by
  rw [nth_eq] at hv
  have h' : w.heap[b]? = some (.cells cs.toArray e (0, 0)) := h
  simp [World.cell?, h', hv]
theorem Blk.free {w : World} {b : Nat} {cs : List Value} {e : TypeId} (h : Blk w b cs e) (o : Nat) : w.frozen? ⟨b, o, none⟩ = false := by
  have h' : w.heap[b]? = some (.cells cs.toArray e (0, 0)) := h
  simp [World.frozen?, h']
theorem Blk.lt {w : World} {b : Nat} {cs : List Value} {e : TypeId} (h : Blk w b cs e) : b < w.heap.size := (Array.getElem?_eq_some_iff.1 h).1
theorem Blk.shape {w : World} {b : Nat} {cs : List Value} {e : TypeId} (h : Blk w b cs e) : w.shape? b = some (e, cs.length) := by
  have h' : w.heap[b]? = some (.cells cs.toArray e (0, 0)) := h
  simp [World.shape?, h']
theorem Blk.new (w : World) (cs : List Value) (e : TypeId) : Blk (w.alloc (.cells cs.toArray e)) w.heap.size cs e := by
  show (w.heap.push _)[w.heap.size]? = _
  simp
theorem Blk.drew {w : World} {b : Nat} {cs : List Value} {e : TypeId} (h : Blk w b cs e) : Blk w.drew b cs e := h

/-- The same, whether or not some of its cells are frozen. -/
def BlkR (w : World) (b : Nat) (cs : List Value) (e : TypeId) : Prop := ∃ fr, w.heap[b]? = some (.cells cs.toArray e fr)
theorem Blk.r {w : World} {b : Nat} {cs : List Value} {e : TypeId} (h : Blk w b cs e) : BlkR w b cs e := ⟨_, h⟩
theorem BlkR.cell {w : World} {b : Nat} {cs : List Value} {e : TypeId} (h : BlkR w b cs e) {o : Nat} {v : Value} (hv : nth cs o = some v) : w.cell? ⟨b, o, none⟩ = some v := by
  rw [nth_eq] at hv
  obtain ⟨fr, h'⟩ := h
  simp [World.cell?, h', hv]
theorem BlkR.lt {w : World} {b : Nat} {cs : List Value} {e : TypeId} (h : BlkR w b cs e) : b < w.heap.size := by
  obtain ⟨fr, h'⟩ := h
  exact (Array.getElem?_eq_some_iff.1 h').1
theorem BlkR.shape {w : World} {b : Nat} {cs : List Value} {e : TypeId} (h : BlkR w b cs e) : w.shape? b = some (e, cs.length) := by
  obtain ⟨fr, h'⟩ := h
  simp [World.shape?, h']

theorem run_v {P : Program} {s : Sem Value} {v : Value} {w w' : World} (h : s.run P w = .ok v w') : (do pure (Next.value (← s)) : Sem Next).run P w = .ok (.value v) w' := by
  rw [Sem.run_bind, h]; rfl
theorem run_u {P : Program} {s : Sem Unit} {w w' : World} (h : s.run P w = .ok () w') : (do s; pure Next.skip : Sem Next).run P w = .ok .skip w' := by
  rw [Sem.run_bind, h]; rfl

section quiet
variable {P : Program} {l : Env} {ty : TypeId} {w : World}

theorem q_move {x : Operand} {v : Value} (hx : opv l x = some v) : Quiet P l (.move x) ty w v := fun ρ h _ _ _ _ => by
  show (pure (Next.value (ρ x)) : Sem Next).run P w = _
  rw [h x v hx]; rfl
theorem q_assign {x : Operand} {v : Value} (hx : opv l x = some v) : Quiet P l (.assign x) ty w v := fun ρ h _ _ _ _ => by
  show (pure (Next.value (ρ x)) : Sem Next).run P w = _
  rw [h x v hx]; rfl
theorem q_pick {x y z : Operand} {b : Bool} {v u : Value} (hx : opv l x = some (.bool b)) (hy : opv l y = some v) (hz : opv l z = some u) : Quiet P l (.pick x y z) ty w (if b then v else u) := fun ρ h _ _ _ _ => by
  simp only [execOp, h x _ hx, h y _ hy, h z _ hz]; rfl
/-- Only the chosen one need be known. -/
theorem q_pick_t {x y z : Operand} {v : Value} (hx : opv l x = some (.bool true)) (hy : opv l y = some v) : Quiet P l (.pick x y z) ty w v := fun ρ h _ _ _ _ => by
  simp only [execOp, h x _ hx, h y _ hy]; rfl
theorem q_pick_f {x y z : Operand} {v : Value} (hx : opv l x = some (.bool false)) (hz : opv l z = some v) : Quiet P l (.pick x y z) ty w v := fun ρ h _ _ _ _ => by
  simp only [execOp, h x _ hx, h z _ hz]; rfl

theorem q_nilp {x : Operand} {a : Addr} (hx : opv l x = some (.pointer (some a))) : Quiet P l (.nilCheck x) ty w (.pointer (some a)) := fun ρ h _ _ _ _ => by
  simp only [execOp, h x _ hx]; rfl
theorem q_nili {x : Operand} {t : TypeId} {v : Value} (hx : opv l x = some (.iface t v)) : Quiet P l (.nilCheck x) ty w (.iface t v) := fun ρ h _ _ _ _ => by
  simp only [execOp, h x _ hx]; rfl
theorem q_nilf {x : Operand} {f : FuncId} {a c : Array Value} (hx : opv l x = some (.func (.func f) a c)) : Quiet P l (.nilCheck x) ty w (.func (.func f) a c) := fun ρ h _ _ _ _ => by
  simp only [execOp, h x _ hx]; rfl
theorem q_nily {x : Operand} {f : Nat} {a c : Array Value} (hx : opv l x = some (.func (.yield f) a c)) : Quiet P l (.nilCheck x) ty w (.func (.yield f) a c) := fun ρ h _ _ _ _ => by
  simp only [execOp, h x _ hx]; rfl

def fieldOff (P : Program) (T : TypeId) (i : Nat) : Option Nat :=
  match P.underlying T with
  | some (.struct fs) => match fs[i]? with
    | some f => match P.info? f.type with
      | some ti => if ti.size = 0 then none else some f.offset
      | none => none
    | none => none
  | _ => none

theorem q_fieldAddr {x : Operand} {b o off T i : Nat} (hT : fieldOff P T i = some off) (hx : opv l x = some (.pointer (some ⟨b, o, none⟩))) : Quiet P l (.fieldAddr T x i) ty w (.pointer (some ⟨b, o + off, none⟩)) := fun ρ h _ _ _ _ => by
  refine run_v ?_
  rw [h x _ hx]
  unfold fieldOff at hT
  cases hu : P.underlying T with
  | none => rw [hu] at hT; cases hT
  | some d =>
    cases d <;> (rw [hu] at hT; try cases hT)
    rename_i fs
    simp only [] at hT
    cases hf : fs[i]? with
    | none => rw [hf] at hT; cases hT
    | some f =>
      rw [hf] at hT
      simp only [] at hT
      cases hi : P.info? f.type with
      | none => rw [hi] at hT; cases hT
      | some ti =>
        rw [hi] at hT
        simp only [] at hT
        split at hT
        · cases hT
        · rename_i hz
          cases hT
          simp [Instr.fieldAt, run_underlying hu, hf, Instr.sureAddr, fieldPlace, sizeOf, typeInfo, hi, hz, Result.andThen, Addr.add]

/-- some none: one cell; some (some n): an aggregate of n cells. -/
def aggOf (P : Program) (T : TypeId) : Option (Option Nat) :=
  match P.underlying T, P.info? T with
  | some (.struct _), some ti => some (some ti.size)
  | some (.array _ _), some ti => some (some ti.size)
  | some _, some _ => some none
  | _, _ => none

theorem aggOf_none {T : TypeId} (h : aggOf P T = some none) : (isAgg T).run P w = .ok false w := by
  unfold aggOf at h
  cases hu : P.underlying T with
  | none => rw [hu] at h; cases h
  | some d =>
    cases hi : P.info? T with
    | none => rw [hu, hi] at h; cases d <;> cases h
    | some ti => rw [hu, hi] at h; cases d <;> first | (cases h; done) | simp [isAgg, run_underlying hu]
theorem aggOf_some {T n : Nat} (h : aggOf P T = some (some n)) : (isAgg T).run P w = .ok true w ∧ (sizeOf T).run P w = .ok n w := by
  unfold aggOf at h
  cases hu : P.underlying T with
  | none => rw [hu] at h; cases h
  | some d =>
    cases hi : P.info? T with
    | none => rw [hu, hi] at h; cases d <;> cases h
    | some ti => rw [hu, hi] at h; cases d <;> first | (cases h; done) | (cases h; simp [isAgg, run_underlying hu, sizeOf, typeInfo, hi])

theorem q_load1 {x : Operand} {b o T : Nat} {v : Value} (hT : aggOf P T = some none) (hx : opv l x = some (.pointer (some ⟨b, o, none⟩))) (hc : w.cell? ⟨b, o, none⟩ = some v) : Quiet P l (.load T x) ty w v := fun ρ h _ _ _ _ => by
  refine run_v ?_
  rw [h x _ hx]
  simp [Instr.loadAt, Instr.sureAddr, loadVar, aggOf_none hT, load, hc, Sem.run]

theorem q_loadn {x : Operand} {b o T n : Nat} {vs : List Value} (hT : aggOf P T = some (some n)) (hx : opv l x = some (.pointer (some ⟨b, o, none⟩))) (hn : vs.length = n)
    (hc : ∀ j v, vs[j]? = some v → w.cell? ⟨b, o + j, none⟩ = some v) : Quiet P l (.load T x) ty w (.agg vs.toArray) := fun ρ h _ _ _ _ => by
  refine run_v ?_
  rw [h x _ hx]
  have h1 := run_loadCells_list (P := P) (w := w) ⟨b, o, none⟩ vs (fun j v hv => by
    rw [show (Addr.mk b o none).add j = ⟨b, o + j, none⟩ from Addr.add_lit b o j]; exact hc j v hv)
  rw [hn] at h1
  simp [Instr.loadAt, Instr.sureAddr, loadVar, (aggOf_some hT).1, (aggOf_some hT).2, h1]

theorem Blk.cells {w : World} {b o n : Nat} {cs vs : List Value} {e : TypeId} (h : Blk w b cs e) (hv : cut cs o n = some vs) : vs.length = n ∧ ∀ j v, vs[j]? = some v → w.cell? ⟨b, o + j, none⟩ = some v := by
  obtain ⟨h1, h2, _⟩ := cut_spec cs o n vs hv
  refine ⟨h2, fun j v hj => h.cell ?_⟩
  rw [nth_eq]
  rw [h1, List.getElem?_take] at hj
  split at hj
  · simpa using hj
  · cases hj

theorem BlkR.cells {w : World} {b o n : Nat} {cs vs : List Value} {e : TypeId} (h : BlkR w b cs e) (hv : cut cs o n = some vs) : vs.length = n ∧ ∀ j v, vs[j]? = some v → w.cell? ⟨b, o + j, none⟩ = some v := by
  obtain ⟨h1, h2, _⟩ := cut_spec cs o n vs hv
  refine ⟨h2, fun j v hj => h.cell ?_⟩
  rw [nth_eq]
  rw [h1, List.getElem?_take] at hj
  split at hj
  · simpa using hj
  · cases hj

theorem q_loadb {x : Operand} {b o T : Nat} {cs : List Value} {e : TypeId} {v : Value} (hT : aggOf P T = some none) (hx : opv l x = some (.pointer (some ⟨b, o, none⟩))) (hb : Blk w b cs e) (hv : nth cs o = some v) : Quiet P l (.load T x) ty w v :=
  q_load1 hT hx (hb.cell hv)
theorem q_loadbn {x : Operand} {b o T n : Nat} {cs vs : List Value} {e : TypeId} (hT : aggOf P T = some (some n)) (hx : opv l x = some (.pointer (some ⟨b, o, none⟩))) (hb : Blk w b cs e) (hv : cut cs o n = some vs) : Quiet P l (.load T x) ty w (.agg vs.toArray) :=
  q_loadn hT hx (hb.cells hv).1 (hb.cells hv).2

/-- Where a field of a struct's value lies, and how it is read. -/
def fieldPart (P : Program) (T : TypeId) (i : Nat) : Option (Nat × Option Nat) :=
  match P.underlying T with
  | some (.struct fs) => match fs[i]? with
    | some f => match aggOf P f.type with
      | some r => some (f.offset, r)
      | none => none
    | none => none
  | _ => none

theorem run_part1 {T off : Nat} {cs : List Value} {v : Value} (hT : aggOf P T = some none) (hv : nth cs off = some v) : (part T cs.toArray off).run P w = .ok v w := by
  rw [nth_eq] at hv
  simp [part, aggOf_none hT, hv]
theorem run_partn {T off n : Nat} {cs vs : List Value} (hT : aggOf P T = some (some n)) (hv : cut cs off n = some vs) : (part T cs.toArray off).run P w = .ok (.agg vs.toArray) w := by
  have h1 := (cut_spec cs off n vs hv).1
  simp [part, (aggOf_some hT).1, (aggOf_some hT).2, h1, List.extract_eq_take_drop]

theorem fieldPart_spec {T i off : Nat} {r : Option Nat} (h : fieldPart P T i = some (off, r)) : ∃ fs f, P.underlying T = some (.struct fs) ∧ fs[i]? = some f ∧ f.offset = off ∧ aggOf P f.type = some r := by
  unfold fieldPart at h
  cases hu : P.underlying T with
  | none => rw [hu] at h; cases h
  | some d =>
    cases d <;> (rw [hu] at h; try cases h)
    rename_i fs
    simp only [] at h
    cases hf : fs[i]? with
    | none => rw [hf] at h; cases h
    | some f =>
      rw [hf] at h
      simp only [] at h
      cases hi : aggOf P f.type with
      | none => rw [hi] at h; cases h
      | some r' => rw [hi] at h; cases h; exact ⟨fs, f, rfl, hf, rfl, hi⟩

theorem q_field1 {x : Operand} {T i off : Nat} {cs : List Value} {v : Value} (hT : fieldPart P T i = some (off, none)) (hx : opv l x = some (.agg cs.toArray)) (hv : nth cs off = some v) : Quiet P l (.field T x i) ty w v := fun ρ h _ _ _ _ => by
  obtain ⟨fs, f, hu, hf, rfl, ha⟩ := fieldPart_spec hT
  refine run_v ?_
  rw [h x _ hx]
  simp [Instr.field, run_underlying hu, hf, asAgg, run_part1 ha hv]
theorem q_fieldn {x : Operand} {T i off n : Nat} {cs vs : List Value} (hT : fieldPart P T i = some (off, some n)) (hx : opv l x = some (.agg cs.toArray)) (hv : cut cs off n = some vs) : Quiet P l (.field T x i) ty w (.agg vs.toArray) := fun ρ h _ _ _ _ => by
  obtain ⟨fs, f, hu, hf, rfl, ha⟩ := fieldPart_spec hT
  refine run_v ?_
  rw [h x _ hx]
  simp [Instr.field, run_underlying hu, hf, asAgg, run_partn ha hv]

theorem q_extract {x : Operand} {i : Nat} {vs : List Value} {v : Value} (hx : opv l x = some (.tuple vs.toArray)) (hv : nth vs i = some v) : Quiet P l (.extract x i) ty w v := fun ρ h _ _ _ _ => by
  rw [nth_eq] at hv
  refine run_v ?_
  rw [h x _ hx]
  simp [Instr.extract, hv]

theorem q_iface {x : Operand} {T : TypeId} {v : Value} (hT : P.concrete T = true) (hx : opv l x = some v) : Quiet P l (.makeInterface T x) ty w (.iface T v) := fun ρ h _ _ _ _ => by
  refine run_v ?_
  rw [h x _ hx]
  exact run_makeInterface w T v hT

theorem q_func {fn : Fn} {fs cs : List Operand} {us vs : List Value} (hf : opvs l fs = some us) (hc : opvs l cs = some vs) : Quiet P l (.makeFunc fn fs.toArray cs.toArray) ty w (.func fn us.toArray vs.toArray) := fun ρ h _ _ _ _ => by
  refine run_v ?_
  simp only [List.map_toArray, opvs_map h fs us hf, opvs_map h cs vs hc]
  rfl

theorem q_not {x : Operand} {t : TypeId} {b : Bool} (hx : opv l x = some (.bool b)) : Quiet P l (.unOp .not t x) ty w (.bool !b) := fun ρ h _ _ _ _ => by
  refine run_v ?_
  rw [h x _ hx]; rfl

section ints
variable {x y : Operand} {t u : TypeId} {k : IntKind} {a b : Int}
theorem q_add (hx : opv l x = some (.int k a)) (hy : opv l y = some (.int k b)) : Quiet P l (.binOp .add t x y u) ty w (.int k (k.wrap (a + b))) := fun ρ h _ _ _ _ => by
  refine run_v ?_
  rw [h x _ hx, h y _ hy, eqGuard_add, binOp_add]; rfl
theorem q_sub (hx : opv l x = some (.int k a)) (hy : opv l y = some (.int k b)) : Quiet P l (.binOp .sub t x y u) ty w (.int k (k.wrap (a - b))) := fun ρ h _ _ _ _ => by
  refine run_v ?_
  rw [h x _ hx, h y _ hy, eqGuard_sub, binOp_sub]; rfl
theorem q_mul (hx : opv l x = some (.int k a)) (hy : opv l y = some (.int k b)) : Quiet P l (.binOp .mul t x y u) ty w (.int k (k.wrap (a * b))) := fun ρ h _ _ _ _ => by
  refine run_v ?_
  rw [h x _ hx, h y _ hy, eqGuard_mul, binOp_mul]; rfl
theorem q_lt (hx : opv l x = some (.int k a)) (hy : opv l y = some (.int k b)) : Quiet P l (.binOp .lss t x y u) ty w (.bool (decide (a < b))) := fun ρ h _ _ _ _ => by
  refine run_v ?_
  rw [h x _ hx, h y _ hy, eqGuard_lss, binOp_lss]; rfl
theorem q_le (hx : opv l x = some (.int k a)) (hy : opv l y = some (.int k b)) : Quiet P l (.binOp .leq t x y u) ty w (.bool (decide (a ≤ b))) := fun ρ h _ _ _ _ => by
  refine run_v ?_
  rw [h x _ hx, h y _ hy, eqGuard_leq, binOp_leq]; rfl
theorem q_gt (hx : opv l x = some (.int k a)) (hy : opv l y = some (.int k b)) : Quiet P l (.binOp .gtr t x y u) ty w (.bool (decide (a > b))) := fun ρ h _ _ _ _ => by
  refine run_v ?_
  rw [h x _ hx, h y _ hy, eqGuard_gtr, binOp_gtr]; rfl
theorem q_ge (hx : opv l x = some (.int k a)) (hy : opv l y = some (.int k b)) : Quiet P l (.binOp .geq t x y u) ty w (.bool (decide (a ≥ b))) := fun ρ h _ _ _ _ => by
  refine run_v ?_
  rw [h x _ hx, h y _ hy, eqGuard_geq, binOp_geq]; rfl
theorem q_eq (hx : opv l x = some (.int k a)) (hy : opv l y = some (.int k b)) : Quiet P l (.binOp .eql t x y u) ty w (.bool (a == b)) := fun ρ h _ _ _ _ => by
  refine run_v ?_
  rw [h x _ hx, h y _ hy, eqGuard_at_int, binOp_eql]; rfl
theorem q_ne (hx : opv l x = some (.int k a)) (hy : opv l y = some (.int k b)) : Quiet P l (.binOp .neq t x y u) ty w (.bool (a != b)) := fun ρ h _ _ _ _ => by
  refine run_v ?_
  rw [h x _ hx, h y _ hy, eqGuard_at_int, binOp_neq]; rfl
theorem q_conv {s d : TypeId} {k' : IntKind} (hs : (P.underlying s).isSome = true) (hd : P.underlying d = some (.int k')) (hx : opv l x = some (.int k a)) : Quiet P l (.convert s d x) ty w (.int k' (k'.wrap a)) := fun ρ h _ _ _ _ => by
  refine run_v ?_
  rw [h x _ hx]
  obtain ⟨e, he⟩ := Option.isSome_iff_exists.1 hs
  simp [convert, run_underlying he, run_underlying hd, Conv.intToInt]
theorem q_max2 {ats : Array TypeId} (hx : opv l x = some (.int k a)) (hy : opv l y = some (.int k b)) : Quiet P l (.call ⟨.builtin .max, #[x, y], ats⟩) ty w (.int k (if b > a then b else a)) := fun ρ h _ _ _ _ => by
  have := run_max_int2 (P := P) w ats ty k k a b
  simp only [execOp, resolve, List.map_toArray, List.map_cons, List.map_nil, h x _ hx, h y _ hy]
  simp [invoke, builtin, this]
theorem q_min2 {ats : Array TypeId} (hx : opv l x = some (.int k a)) (hy : opv l y = some (.int k b)) : Quiet P l (.call ⟨.builtin .min, #[x, y], ats⟩) ty w (.int k (if b < a then b else a)) := fun ρ h _ _ _ _ => by
  have := run_min_int2 (P := P) w ats ty k k a b
  simp only [execOp, resolve, List.map_toArray, List.map_cons, List.map_nil, h x _ hx, h y _ hy]
  simp [invoke, builtin, this]
end ints

def isPtr (P : Program) (t : TypeId) : Bool := match P.underlying t with | some (.pointer _) => true | _ => false
theorem isPtr_spec {t : TypeId} (h : isPtr P t = true) : P.underlying t = some (.pointer (P.pointee t)) := by
  unfold isPtr at h
  unfold Program.pointee
  cases hu : P.underlying t with
  | none => rw [hu] at h; cases h
  | some d => rw [hu] at h; cases d <;> first | (cases h; done) | rfl

theorem q_eqnil {x : Operand} {t u : TypeId} {p : Option Addr} (ht : isPtr P t = true) (hx : opv l x = some (.pointer p)) : Quiet P l (.binOp .eql t x (.const (.pointer none)) u) ty w (.bool p.isNone) := fun ρ h _ _ _ _ => by
  refine run_v ?_
  rw [h x _ hx, h (.const (.pointer none)) _ rfl, eqGuard_at_pointer]
  have := run_eql_pointer_nil (P := P) w t p (isPtr_spec ht)
  simp [this]
theorem q_nenil {x : Operand} {t u : TypeId} {p : Option Addr} (ht : isPtr P t = true) (hx : opv l x = some (.pointer p)) : Quiet P l (.binOp .neq t x (.const (.pointer none)) u) ty w (.bool p.isSome) := fun ρ h _ _ _ _ => by
  refine run_v ?_
  rw [h x _ hx, h (.const (.pointer none)) _ rfl, eqGuard_at_pointer]
  have := run_neq_pointer_nil (P := P) w t p (isPtr_spec ht)
  simp [this]
end quiet

theorem loadVar_1 {P : Program} {w : World} {T b o : Nat} {v : Value} (hT : aggOf P T = some none) (hc : w.cell? ⟨b, o, none⟩ = some v) : (loadVar T ⟨b, o, none⟩).run P w = .ok v w := by
  simp [loadVar, aggOf_none hT, load, hc, Sem.run]
theorem loadVar_n {P : Program} {w : World} {T b o n : Nat} {vs : List Value} (hT : aggOf P T = some (some n)) (hc : vs.length = n ∧ ∀ j v, vs[j]? = some v → w.cell? ⟨b, o + j, none⟩ = some v) : (loadVar T ⟨b, o, none⟩).run P w = .ok (.agg vs.toArray) w := by
  have h1 := run_loadCells_list (P := P) (w := w) ⟨b, o, none⟩ vs (fun j v hv => by
    rw [show (Addr.mk b o none).add j = ⟨b, o + j, none⟩ from Addr.add_lit b o j]; exact hc.2 j v hv)
  rw [hc.1] at h1
  simp [loadVar, (aggOf_some hT).1, (aggOf_some hT).2, h1]
end Go.Eng
