/- Steps of the proof that the law of this claim answers true, part 2. No conditions. -/
import Derived.Lib.LaidTab
import Derived.Laws.Strings
import Derived.Laws.IdiomStrings
import Derived.Below
import Derived.Test.YtgcgjpfjjgalmaaGreatCDrainKindsA
/- Strings, package-level variables, and the library's contracts. No conditions. -/
namespace Go.Eng
open Go
section
variable {P : Program} {l : Env} {x y : Operand} {ty t u : TypeId} {w : World}
theorem run_eqIn_nil {ms : Array (String × TypeId)} (ht : P.underlying t = some (.interface ms)) (n : Nat) : (Op.equalIn (n + 1) t .nilIface .nilIface).run P w = .ok true w := by simp [Op.equalIn, run_underlying ht]
theorem run_eqIn_err {ms : Array (String × TypeId)} (ht : P.underlying t = some (.interface ms)) (n : Nat) (d : TypeId) (z : Value) : (Op.equalIn (n + 1) t (.iface d z) .nilIface).run P w = .ok false w := by simp [Op.equalIn, run_underlying ht]
end
end Go.Eng
/- Values of interface types against nil. No conditions. -/
namespace Go.Eng
open Go
section
variable {P : Program} {l : Env} {x y : Operand} {ty t u : TypeId} {w : World}
theorem q_eqIf {v : Value} {b : Bool} {ms : Array (String × TypeId)} (ht : P.underlying t = some (.interface ms)) (hx : opv l x = some v) (hv : (v = .nilIface ∧ b = true) ∨ ∃ d z, v = .iface d z ∧ b = false) :
    Quiet P l (.binOp .eql t x (.const .nilIface) u) ty w (.bool b) := fun ρ h _ _ _ _ => by
  refine run_v ?_
  rw [h x _ hx, h (.const .nilIface) _ rfl]
  rcases hv with ⟨rfl, rfl⟩ | ⟨d, z, rfl, rfl⟩
  · rw [eqGuard_nil_constR]
    simp only [Result.andThen_ok, Sem.run_bind, Sem.run_pure, binOp, Op.equal]
    exact (congrArg (Result.andThen · _) (run_eqIn_nil ht 9999)).trans rfl
  · rw [eqGuard_at_iface]
    simp only [Result.andThen_ok, Sem.run_bind, Sem.run_pure, binOp, Op.equal]
    exact (congrArg (Result.andThen · _) (run_eqIn_err ht 9999 d z)).trans rfl
theorem h_invokeP {r0 : Option Nat} {n : Nat} {D : List Deferred} {K : Value → World → Prop} {x : Operand} {name : String} {f : FuncId} {t : TypeId} {u r : Value} {xs : List Operand} {ats : Array TypeId} {vs : List Value} (hf : callable P f = true) (hx : opv l x = some (.iface t u)) (ha : opvs l xs = some vs)
    (hm : (method (P.types.size + Made.depth) t u name).run P w = .ok (f, r) w) (h : Does P f (r :: vs).toArray w K) : HW ⟨P, r0, n, D⟩ l (.call ⟨.invoke x name, xs.toArray, ats⟩) ty w K := h_invoke (c := ⟨P, r0, n, D⟩) hf hx ha hm h
def isIf (P : Program) (t : TypeId) : Bool := match P.underlying t with | some (.interface _) => true | _ => false
theorem isIf_spec (h : isIf P t = true) : ∃ ms, P.underlying t = some (.interface ms) := by
  unfold isIf at h
  split at h
  · rename_i ms hm; exact ⟨ms, hm⟩
  · cases h
theorem q_ifNil (ht : isIf P t = true) (hx : opv l x = some .nilIface) : Quiet P l (.binOp .eql t x (.const .nilIface) u) ty w (.bool true) := by
  obtain ⟨ms, h⟩ := isIf_spec ht
  exact q_eqIf h hx (.inl ⟨rfl, rfl⟩)
theorem q_ifSome {d : TypeId} {z : Value} (ht : isIf P t = true) (hx : opv l x = some (.iface d z)) : Quiet P l (.binOp .eql t x (.const .nilIface) u) ty w (.bool false) := by
  obtain ⟨ms, h⟩ := isIf_spec ht
  exact q_eqIf h hx (.inr ⟨_, _, rfl, rfl⟩)
end
end Go.Eng
