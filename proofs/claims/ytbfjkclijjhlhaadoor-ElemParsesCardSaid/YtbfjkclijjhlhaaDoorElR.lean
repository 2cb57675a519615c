/- Elements, and rows of them, among a law s arguments. -/
import Derived.Test.YtbfjkclijjhlhaaDoorRows
import Derived.Test.YtbfjkclijjhlhaaDoorEls
import Derived.KernelRfl
namespace Go.Proofs.YtbfjkclijjhlhaaDoor
open Go Go.Eng Go.ChangeShapes Go.WideShapes Go.RowKit

theorem two_cells {α : Type} : ∀ {cs : List α}, cs.length = 2 → ∃ a b, cs = [a, b]
  | [a, b], _ => ⟨a, b, rfl⟩
/-- Numbers of the kind. -/
def ElOk (e : El) : Prop := (-9223372036854775808 ≤ e.1 ∧ e.1 ≤ 9223372036854775807) ∧ (-9223372036854775808 ≤ e.2 ∧ e.2 ≤ 9223372036854775807)
section
variable {H : Type} {enc : TypeId × Value → H} {W : World} {spare : Nat → Bool} {held : Bool} {v : Value} {x : DataW H × List MemPlace} {fuel : Nat} {d : DataW H} {p : List MemPlace}

theorem read_el {cs : List Value} (h : DataW.trod enc Tryd.prog W 0 spare held fuel 23 cs = some x) : ∃ e : El, cs = elc e ∧ ElOk e := by
  obtain ⟨xs, n, _, _, hl, hx, hf⟩ := DataW.trod_struct Tryd.underlying23 h
  rw [show Tryd.prog.cellsOf 23 = 2 by kernel_rfl] at hl
  obtain ⟨a, b, rfl⟩ := two_cells hl
  have h0 := hf 0 _ rfl
  have h1 := hf 1 _ rfl
  rw [show Tryd.prog.cellsOf _ = 1 by kernel_rfl] at h0 h1
  rw [List.getElem?_eq_getElem (by rw [hx]; decide)] at h0 h1
  obtain ⟨m, hm, wm⟩ := DataW.trod_int Tryd.underlying2 h0
  obtain ⟨k, hk, wk⟩ := DataW.trod_int Tryd.underlying2 h1
  cases hm
  cases hk
  exact ⟨(m, k), rfl, by simpa [Lit.wf, IntKind.min, IntKind.max, IntKind.signed, IntKind.bits] using wm.2, by simpa [Lit.wf, IntKind.min, IntKind.max, IntKind.signed, IntKind.bits] using wk.2⟩

theorem read_els (hv : ∃ a n c, v = .slice a n c) (h : DataW.Trod enc Tryd.prog W 0 spare held 24 v d p) : ∃ (n : Nat) (xs : List El), RdM (memOf W) 2 v n (els xs) ∧ ∀ e ∈ xs, ElOk e := by
  obtain ⟨fuel, h⟩ := h
  obtain ⟨a, k, c, rfl⟩ := hv
  obtain ⟨n, ys, _, h1, h2⟩ := read_rows elc ElOk elc_length Tryd.underlying24 (show Tryd.prog.cellsOf 23 = 2 by kernel_rfl) (by decide) (fun _ cs x hx => read_el hx) (v := .slice a k c) h
  exact ⟨n, ys, h1, h2⟩

theorem read_el1 (hv : ∃ cs, v = .agg cs ∧ cs.size = Tryd.prog.cellsOf 23) (h : DataW.Trod enc Tryd.prog W 0 spare held 23 v d p) : ∃ e : El, v = .agg (elc e).toArray ∧ ElOk e := by
  obtain ⟨cs, rfl, _⟩ := hv
  obtain ⟨fuel, h⟩ := h
  obtain ⟨e, h1, h2⟩ := read_el h
  have : cs.toList = elc e := h1
  exact ⟨e, by rw [← Array.toArray_toList (xs := cs), this], h2⟩
end
end Go.Proofs.YtbfjkclijjhlhaaDoor
