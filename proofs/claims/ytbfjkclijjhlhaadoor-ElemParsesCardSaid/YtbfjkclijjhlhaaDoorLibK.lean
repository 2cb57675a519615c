/- Strings, package-level variables, and the library's contracts. No conditions. -/
import Derived.Test.YtbfjkclijjhlhaaDoorEls
import Derived.Lib.LaidTab
import Derived.Laws.Strings
import Derived.Laws.IdiomStrings
import Derived.Below
namespace Go.Eng
open Go

theorem Step.of_below {M : Mem} {w w' : World} (hs : Sat M w) (h : RowKit.Below w.heap.size w w') : Step Nope M w M w' where
  le := Le.refl _
  sat := fun b cs e hb => (hs b cs e hb).same (h.block b (hs b cs e hb).lt)
  fresh := fun b x h0 h1 => by rw [h0] at h1; cases h1
  kept := fun k hk _ => h.block k hk
  size := h.size
  os := h.os
  output := h.output
  tape := h.tape

/-- A contract off the shelf. -/
theorem Does.of_calls {P : Program} {f : FuncId} {args : Array Value} {w : World} {R : Ending → World → Prop} {K : Value → World → Prop} (h : Calls P f args w R) (hr : ∀ e w', R e w' → ∃ v, e = .returned v ∧ K v w') : Does P f args w K :=
  callsIn_wide.2 (h.mono fun e w' he => by
    obtain ⟨v, rfl, hk⟩ := hr e w' he
    exact hk)

/-! ### Package-level variables -/
theorem tabIs_of {P : Program} {M : Mem} {w : World} {name : String} {g : Nat} {k : IntKind} {zs : List Int} {e : TypeId} (hg : P.globalNamed name = some g) (hm : M g = some (zs.map (Value.int k), e)) (hs : Sat M w) : Lib.TabIs P w name k zs := by
  obtain ⟨fr, h⟩ := hs _ _ _ hm
  unfold Lib.TabIs World.var?
  simp [hg, h]
theorem memOf_var {P : Program} {w : World} {name : String} {g : Nat} {cs : Array Value} (hg : P.globalNamed name = some g) (h : w.var? P name = some cs) : ∃ e, memOf w g = some (cs.toList, e) := by
  unfold World.var? at h
  simp only [hg, Option.bind_some] at h
  unfold Eng.memOf
  split at h
  · rename_i c e f hb
    cases h
    exact ⟨e, by rw [hb]⟩
  · cases h

section
variable {P : Program} {l : Env} {x y : Operand} {ty t u : TypeId} {w : World}
theorem q_neg {k : IntKind} {a : Int} (hx : opv l x = some (.int k a)) : Quiet P l (.unOp .neg t x) ty w (.int k (k.wrap (-a))) := fun ρ h _ _ _ _ => by
  refine run_v ?_
  rw [h x _ hx]
  simp [Op.unary, Op.intArith]
theorem q_indexS {T : TypeId} {s : ByteArray} {k : IntKind} {i : Int} (ht : P.underlying T = some .string) (hx : opv l x = some (.string s)) (hy : opv l y = some (.int k i)) (h0 : 0 ≤ i) (h1 : i < s.size) :
    Quiet P l (.index T x y) ty w (.int .u8 (s[i.toNat]'(by omega)).toNat) := fun ρ h _ _ _ _ => by
  refine run_v ?_
  rw [h x _ hx, h y _ hy, run_index_string w T s k i ht, dif_pos ⟨h0, h1⟩]
theorem q_sliceSh {T : TypeId} {s : ByteArray} {k : IntKind} {j : Int} (ht : P.underlying T = some .string) (hx : opv l x = some (.string s)) (hy : opv l y = some (.int k j)) (h0 : 0 ≤ j) (h1 : j ≤ s.size) :
    Quiet P l (.slice T x none (some y) none) ty w (.string (s.extract 0 j.toNat)) := fun ρ h _ _ _ _ => by
  refine run_v ?_
  have := run_slice_string_h (P := P) w T s ht k j h0 h1
  rw [← run_sliceAt_string (P := P) (w := w) T _ _ _ _ ht] at this
  simpa [h x _ hx, h y _ hy] using this
theorem q_sliceSl {T : TypeId} {s : ByteArray} {k : IntKind} {i : Int} (ht : P.underlying T = some .string) (hx : opv l x = some (.string s)) (hy : opv l y = some (.int k i)) (h0 : 0 ≤ i) (h1 : i ≤ s.size) :
    Quiet P l (.slice T x (some y) none none) ty w (.string (s.extract i.toNat s.size)) := fun ρ h _ _ _ _ => by
  refine run_v ?_
  have := run_slice_string_l (P := P) w T s ht k i h0 h1
  rw [← run_sliceAt_string (P := P) (w := w) T _ _ _ _ ht] at this
  simpa [h x _ hx, h y _ hy] using this
/-- 'string([]byte{b})'. -/
theorem q_byteS {s d e : TypeId} {g o c : Nat} {b : UInt8} (hs : P.underlying s = some (.slice e)) (he : P.underlying e = some (.int .u8)) (hd : P.underlying d = some .string) (hx : opv l x = some (.slice (some ⟨g, o, none⟩) 1 c))
    (hc : w.cell? ⟨g, o, none⟩ = some (.int .u8 (b.toNat : Int))) : Quiet P l (.convert s d x) ty w (.string ⟨#[b]⟩) := fun ρ h _ _ _ _ => by
  refine run_v ?_
  rw [h x _ hx]
  exact run_convert_bytes_back (P := P) w s d e ⟨g, o, none⟩ c [b] hs he hd (fun j hj => by
    obtain rfl : j = 0 := by simpa using hj
    simpa [Addr.add] using hc)
theorem run_eqIn_nil {ms : Array (String × TypeId)} (ht : P.underlying t = some (.interface ms)) (n : Nat) : (Op.equalIn (n + 1) t .nilIface .nilIface).run P w = .ok true w := by simp [Op.equalIn, run_underlying ht]
theorem run_eqIn_err {ms : Array (String × TypeId)} (ht : P.underlying t = some (.interface ms)) (n : Nat) (d : TypeId) (z : Value) : (Op.equalIn (n + 1) t (.iface d z) .nilIface).run P w = .ok false w := by simp [Op.equalIn, run_underlying ht]
theorem q_neErr {v : Value} {b : Bool} {ms : Array (String × TypeId)} (ht : P.underlying t = some (.interface ms)) (hx : opv l x = some v) (hv : (v = .nilIface ∧ b = false) ∨ ∃ d z, v = .iface d z ∧ b = true) :
    Quiet P l (.binOp .neq t x (.const .nilIface) u) ty w (.bool b) := fun ρ h _ _ _ _ => by
  refine run_v ?_
  rw [h x _ hx, h (.const .nilIface) _ rfl]
  rcases hv with ⟨rfl, rfl⟩ | ⟨d, z, rfl, rfl⟩
  · rw [eqGuard_nil_constR]
    simp only [Result.andThen_ok, Sem.run_bind, Sem.run_pure, binOp, Op.equal]
    exact (congrArg (Result.andThen · _) (run_eqIn_nil ht 9999)).trans rfl
  · rw [eqGuard_at_iface]
    simp only [Result.andThen_ok, Sem.run_bind, Sem.run_pure, binOp, Op.equal]
    exact (congrArg (Result.andThen · _) (run_eqIn_err ht 9999 d z)).trans rfl
end
end Go.Eng
