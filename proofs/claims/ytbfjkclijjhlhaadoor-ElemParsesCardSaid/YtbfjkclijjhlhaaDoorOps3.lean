/- The engine of this claim's walks, sixth part: pieces of a slice. No conditions. -/
import Derived.Test.YtbfjkclijjhlhaaDoorRead
import Derived.Laws.MakeOwn
namespace Go.Eng
open Go

theorem RdM.sub {M : Mem} {size n c : Nat} {a : Option Addr} {cs : List Value} (h : RdM M size (.slice a n c) n cs) (i j : Int) (h0 : 0 ≤ i) (hij : i ≤ j) (hj : j ≤ n) :
    RdM M size (.slice (if c = i.toNat then a else a.map (·.add (i.toNat * size))) (j.toNat - i.toNat) (c - i.toNat)) (j.toNat - i.toNat) ((cs.drop (i.toNat * size)).take ((j.toNat - i.toNat) * size)) := by
  have hjn : j.toNat ≤ n := by omega
  have hle : i.toNat ≤ j.toNat := by omega
  obtain ⟨hl, hh⟩ := h
  refine ⟨?_, ?_⟩
  · rw [List.length_take, List.length_drop, hl, ← Nat.sub_mul]
    exact Nat.min_eq_left (Nat.mul_le_mul_right _ (by omega))
  · by_cases he : j.toNat - i.toNat = 0
    · refine .inl ⟨he, _, _, by rw [he], fun hn => ?_⟩
      rcases hh with ⟨rfl, a', cap, h1, h2⟩ | ⟨b, o, cap, h1, h2, _⟩
      · cases h1
        split at hn
        · omega
        · cases a with
          | none => have := h2 rfl; omega
          | some x => cases hn
      · cases h1
        split at hn <;> cases hn
    · rcases hh with ⟨rfl, _⟩ | ⟨b, o, cap, h1, h2, h3⟩
      · omega
      · cases h1
        refine .inr ⟨b, o + i.toNat * size, c - i.toNat, ?_, by omega, fun k u hk => ?_⟩
        · rw [if_neg (by omega)]
          show Value.slice (some (Addr.add ⟨b, o, none⟩ _)) _ _ = _
          rw [Addr.add_lit]
        · rw [List.getElem?_take] at hk
          split at hk
          · rw [List.getElem?_drop] at hk
            rw [Nat.add_assoc]
            exact h3 _ _ hk
          · cases hk

theorem RdM.cast {M : Mem} {size n n' : Nat} {v v' : Value} {cs cs' : List Value} (h : RdM M size v n cs) (hv : v = v') (hn : n = n') (hc : cs = cs') : RdM M size v' n' cs' := by subst hv; subst hn; subst hc; exact h
theorem Buf.cast {w : World} {M : Mem} {e size n n' : Nat} {v : Value} {cs cs' : List Value} (h : Buf w M e size v n cs) (hn : n = n') (hc : cs = cs') : Buf w M e size v n' cs' := by subst hn; subst hc; exact h

/-- Some cells of an element. -/
theorem RdM.elem {M : Mem} {w : World} {size n o c g j : Nat} {cs vs : List Value} (h : RdM M size (.slice (some ⟨g, o, none⟩) n c) n cs) (hs : Sat M w) (hl : vs.length = size) (hj : ∀ i u, vs[i]? = some u → cs[j * size + i]? = some u) :
    cellsAre g (o + j * size) size vs w := by
  refine ⟨hl, fun i u hi => ?_⟩
  rw [Nat.add_assoc]
  exact h.cell hs (hj i u hi)

theorem RdM.one {M : Mem} {size n : Nat} {v : Value} {cs : List Value} (h : RdM M size v n cs) : v.oneCell' = true := by obtain ⟨a, c, rfl, _⟩ := h.slice; rfl

section
variable {P : Program} {l : Env} {x y : Operand} {ty t u : TypeId} {w : World} {k : IntKind} {a b : Int}

theorem q_buildA {T e n size : Nat} {xs : List (Nat × Operand)} {zs cs : List Value} {vs : List (Nat × Value)} (hu : P.underlying T = some (.array n e)) (hz : sizeB P e = some size) (hT : zeroOf P T = some (.agg zs.toArray))
    (hx : opparts l xs = some vs) (hf : fillL (rowPlaces size 0 n) vs zs = some cs) : Quiet P l (.build T xs.toArray) ty w (.agg cs.toArray) := fun ρ h _ _ _ _ => by
  refine run_v ?_
  have e := opparts_map h xs vs hx
  have hfill := fill_eq (fun i => some (i * size, size)) (rowPlaces size 0 n) (fun i z hi => by rw [rowPlaces_nth size n 0 i z hi]; simp) vs zs cs hf
  have e3 : (Array.map (fun x : Nat × Operand => match x with | (i, x) => (i, ρ x)) xs.toArray).toList = vs := by simpa using e
  simp only [Instr.build, Sem.run_bind, run_zeroOf hT w, Result.andThen_ok, run_underlying hu, run_sizeB hz]
  rw [e3]
  have hzz : (Value.agg zs.toArray).cells = zs.toArray := rfl
  rw [hzz, hfill]
  rfl

theorem q_indexAP {T e n size blk o : Nat} {k : IntKind} {i : Int} (hT : P.underlying T = some (.array n e)) (hz : sizeB P e = some size) (hx : opv l x = some (.pointer (some ⟨blk, o, none⟩))) (hy : opv l y = some (.int k i))
    (h0 : 0 ≤ i) (h1 : i < n) : Quiet P l (.indexAddr T x y) ty w (.pointer (some ⟨blk, o + i.toNat * size, none⟩)) := fun ρ h _ _ _ _ => by
  refine run_v ?_
  rw [h x _ hx, h y _ hy]
  have e : (Addr.mk blk o none).add (i.toNat * size) = ⟨blk, o + i.toNat * size, none⟩ := Addr.add_lit blk o _
  simp [Instr.indexAt, asIntOf, run_underlying hT, Instr.sureAddr, h0, h1, run_sizeB hz, e]

theorem q_quo (hx : opv l x = some (.int k a)) (hy : opv l y = some (.int k b)) (hb : b ≠ 0) : Quiet P l (.binOp .quo t x y u) ty w (.int k (k.wrap (a.tdiv b))) := fun ρ h _ _ _ _ => by
  refine run_v ?_
  rw [h x _ hx, h y _ hy, eqGuard_quo, binOp_quo]
  unfold Op.intDiv
  rw [if_neg hb]
  rfl
theorem q_rem (hx : opv l x = some (.int k a)) (hy : opv l y = some (.int k b)) (hb : b ≠ 0) : Quiet P l (.binOp .rem t x y u) ty w (.int k (a.tmod b)) := fun ρ h _ _ _ _ => by
  refine run_v ?_
  rw [h x _ hx, h y _ hy, eqGuard_rem, binOp_rem]
  unfold Op.intDiv
  rw [if_neg hb]
  rfl

theorem h_makeO {c : Cx} {M : Mem} {K : Value → World → Prop} {T e size bytes : Nat} {z : Value} {kl kc : IntKind} {len cap : Int} (ht : c.P.underlying T = some (.slice e)) (hi : (c.P.info? e).map (fun i => (i.size, i.bytes, i.zero)) = some (size, bytes, some z)) (hs : Sat M w)
    (hx : opv l x = some (.int kl len)) (hy : opv l y = some (.int kc cap)) (h0 : 0 ≤ len) (hlc : len ≤ cap) (hb : (bytes : Int) * cap ≤ 281474976710656) (h63 : cap ≤ 9223372036854775807)
    (hk : ∀ b w', Step Nope M w M w' → Own w' M b (madeCells z.cells (cap.toNat * size)).toList e → w.heap.size = b → K (.slice (some ⟨b, 0, none⟩) len.toNat cap.toNat) w') : HW c l (.makeSlice T x y) ty w K := by
  obtain ⟨i, hi1, hi2⟩ := Option.map_eq_some_iff.1 hi
  simp only [Prod.mk.injEq] at hi2
  obtain ⟨rfl, rfl, hz⟩ := hi2
  refine HW.value (w' := w.alloc (.cells (madeCells z.cells (cap.toNat * i.size)) e)) rfl (fun ρ h _ _ _ _ => by
    refine run_v ?_
    rw [h x _ hx, h y _ hy]
    exact run_make w T e i z ht hi1 hz kl kc len cap h0 hlc hb h63) (hk _ _ (Step.alloc hs _) ⟨?_, hs.none_new⟩ rfl)
  have := Blk.new w (madeCells z.cells (cap.toNat * i.size)).toList e
  simpa using this
end
/-- Where an appended row lies: not ahead of where its row, and the world, began. -/
theorem floor_of {v v' : Value} {B s : Nat} (h : v'.ownBlock = v.ownBlock ∨ v'.ownBlock = some s) (hf : ∀ g, v.ownBlock = some g → B ≤ g) (hs : B ≤ s) : ∀ g, v'.ownBlock = some g → B ≤ g := fun g hg => by
  rcases h with h | h
  · exact hf g (h ▸ hg)
  · rw [h] at hg; cases hg; exact hs
theorem lt_of_app {v v' : Value} {B s : Nat} (h : v'.ownBlock = v.ownBlock ∨ v'.ownBlock = some s) (hn : v.ownBlock ≠ some B) (hs : B ≠ s) : v'.ownBlock ≠ some B := by
  rcases h with h | h
  · rw [h]; exact hn
  · rw [h]; intro e; cases e; exact hs rfl

/-- A row that lies nowhere ahead of the call joins what lies still. -/
theorem Does.frozen {P : Program} {f : FuncId} {args : Array Value} {w : World} {M : Mem} {e size n : Nat} {cs : List Value} (h : Does P f args w fun v w' => Step Nope M w M w' ∧ Buf w' M e size v n cs ∧ ∀ g, v.ownBlock = some g → w.heap.size ≤ g) :
    Does P f args w fun v w' => ∃ M', Step Nope M w M' w' ∧ RdM M' size v n cs :=
  h.mono fun _ _ ⟨h1, h2, h3⟩ => by
    obtain ⟨M', h4, _, h5, _⟩ := h1.freezeB h2 h3
    exact ⟨M', h4, h5⟩

theorem Step.forget {S : Nat → Prop} {M M' : Mem} {w w' : World} (h : Step S M w M' w') : Step S M w M w' where
  le := Le.refl _
  sat := fun b cs e hb => h.sat b cs e (h.le b (cs, e) hb)
  fresh := fun b x h0 h1 => by rw [h0] at h1; cases h1
  kept := h.kept
  size := h.size
  os := h.os
  output := h.output
  tape := h.tape

/-- A slice literal that is never written again. -/
theorem h_buildM {c : Cx} {l : Env} {ty : TypeId} {w : World} {M : Mem} {K : Value → World → Prop} {T e size n : Nat} {xs : List (Nat × Operand)} {vs : List (Nat × Value)} {zs cs : List Value} (hT : c.P.underlying T = some (.slice e)) (hz : sizeB c.P e = some size) (hzs : rowZeros c.P e size n = some zs) (hn : Nat.ble (n * size) 16777216 = true)
    (hs : Sat M w) (hx : opparts l xs = some vs) (hf : fillL (rowPlaces size 0 n) vs zs = some cs) (hl : cs.length = n * size)
    (hk : ∀ b M' w', Step Nope M w M' w' → RdM M' size (.slice (some ⟨b, 0, none⟩) n n) n cs → w.heap.size = b → K (.slice (some ⟨b, 0, none⟩) n n) w') : HW c l (.buildSlice T n xs.toArray) ty w K :=
  HW.value (w' := w.alloc (.cells cs.toArray e)) rfl (fun ρ h _ _ _ _ => by
    refine run_v ?_
    have e2 : (xs.toArray.map fun (i, x) => (i, ρ x)) = vs.toArray := by simp only [List.map_toArray]; rw [opparts_map h xs vs hx]
    have e3 : (Array.map (fun x : Nat × Operand => match x with | (i, x) => (i, ρ x)) xs.toArray) = vs.toArray := e2
    rw [e3]
    exact run_buildSlice hT hz hzs (Nat.le_of_ble_eq_true hn) hf) (hk _ _ _ (Step.allocM hs cs e) ⟨hl, .inr ⟨_, 0, n, rfl, Nat.le_refl _, fun j u hj => by
      unfold cellM
      rw [Mem.ins_same, Option.bind_some, nth_eq, Nat.zero_add]
      exact hj⟩⟩ rfl)

/-- A made slice that is never written. -/
theorem h_makeM {c : Cx} {l : Env} {x y : Operand} {ty : TypeId} {w : World} {M : Mem} {K : Value → World → Prop} {T e size bytes : Nat} {z : Value} {kl kc : IntKind} {len : Int} (ht : c.P.underlying T = some (.slice e)) (hi : (c.P.info? e).map (fun i => (i.size, i.bytes, i.zero)) = some (size, bytes, some z)) (hs : Sat M w)
    (hx : opv l x = some (.int kl len)) (hy : opv l y = some (.int kc len)) (h0 : 0 ≤ len) (hb : (bytes : Int) * len ≤ 281474976710656) (h63 : len ≤ 9223372036854775807)
    (hk : ∀ b M' w', Step Nope M w M' w' → RdM M' size (.slice (some ⟨b, 0, none⟩) len.toNat len.toNat) len.toNat (madeCells z.cells (len.toNat * size)).toList → w.heap.size = b → K (.slice (some ⟨b, 0, none⟩) len.toNat len.toNat) w') : HW c l (.makeSlice T x y) ty w K := by
  obtain ⟨i, hi1, hi2⟩ := Option.map_eq_some_iff.1 hi
  simp only [Prod.mk.injEq] at hi2
  obtain ⟨rfl, rfl, hz⟩ := hi2
  refine HW.value (v := .slice (some ⟨w.heap.size, 0, none⟩) len.toNat len.toNat) (w' := w.alloc (.cells (madeCells z.cells (len.toNat * i.size)) e)) rfl (fun ρ h _ _ _ _ => by
    refine run_v ?_
    rw [h x _ hx, h y _ hy]
    exact run_make w T e i z ht hi1 hz kl kc len len h0 (Int.le_refl _) hb h63) ?_
  have hst := Step.allocM hs (madeCells z.cells (len.toNat * i.size)).toList e
  refine hk _ _ _ (by simpa using hst) ⟨?_, .inr ⟨_, 0, len.toNat, rfl, Nat.le_refl _, fun j u hj => ?_⟩⟩ rfl
  · rw [Array.length_toList, size_madeCells]
  · unfold cellM
    rw [Mem.ins_same, Option.bind_some, nth_eq, Nat.zero_add]
    exact hj
theorem madeCells_one (v : Value) (n : Nat) : (madeCells #[v] n).toList = List.replicate n v := by
  refine List.ext_getElem? fun i => ?_
  by_cases h : i < n
  · rw [List.getElem?_replicate, if_pos h]
    simp [madeCells, h, Nat.mod_one]
  · rw [List.getElem?_replicate, if_neg h, List.getElem?_eq_none]
    simp [madeCells]; omega
end Go.Eng
