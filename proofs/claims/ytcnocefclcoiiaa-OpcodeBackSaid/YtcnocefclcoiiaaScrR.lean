/- Scripts, and operations, among a law's arguments. -/
import Derived.Test.YtcnocefclcoiiaaRows
import Derived.Test.YtcnocefclcoiiaaScr
import Derived.Test.YtcnocefclcoiiaaRead2
import Derived.KernelRfl
namespace Go.Proofs.Ytcnocefclcoiiaa
open Go Go.Eng Go.ChangeShapes Go.WideShapes Go.RowKit

theorem two_of {α : Type} : ∀ {cs : List α}, cs.length = 2 → ∃ a b, cs = [a, b]
  | [a, b], _ => ⟨a, b, rfl⟩
theorem flat1 {α β : Type} (f : α → β) : ∀ ys : List α, (ys.flatMap fun z => [f z]) = ys.map f
  | [] => rfl
  | a :: r => by rw [List.flatMap_cons, flat1 f r]; rfl
section
variable {H : Type} {enc : TypeId × Value → H} {W : World} {spare : Nat → Bool} {held : Bool} {v : Value} {x : DataW H × List MemPlace} {fuel : Nat} {d : DataW H} {p : List MemPlace}

theorem read_row (h : DataW.trod enc Try.prog W 0 spare held fuel 34 [v] = some x) : ∃ zs : List Int, RdM (memOf W) 1 v zs.length (i64s zs) := by
  obtain ⟨n, ys, rfl, h1, _⟩ := read_rows (fun z : Int => [Value.int .i64 z]) (fun _ => True) (fun _ => rfl) Try.underlying34 (show Try.prog.cellsOf 2 = 1 by kernel_rfl) (by decide) (fun n cs x hx => by
    obtain ⟨m, rfl, _⟩ := DataW.trod_int Try.underlying2 hx
    exact ⟨m, rfl, trivial⟩) h
  exact ⟨ys, h1.cast rfl rfl (flat1 _ ys)⟩

theorem read_op {cs : List Value} (h : DataW.trod enc Try.prog W 0 spare held fuel 51 cs = some x) : ∃ t : T3, cs = [.int .i64 t.1, t.2.2] ∧ RdM (memOf W) 1 t.2.2 t.2.1.length (i64s t.2.1) := by
  obtain ⟨xs, n, _, _, hl, hx, hf⟩ := DataW.trod_struct Try.underlying51 h
  rw [show Try.prog.cellsOf 51 = 2 by kernel_rfl] at hl
  obtain ⟨a, b, rfl⟩ := two_of hl
  have h0 := hf 0 _ rfl
  have h1 := hf 1 _ rfl
  rw [show Try.prog.cellsOf _ = 1 by kernel_rfl] at h0 h1
  rw [List.getElem?_eq_getElem (by rw [hx]; decide)] at h0 h1
  obtain ⟨m, hm, _⟩ := DataW.trod_int Try.underlying2 h0
  obtain ⟨zs, hz⟩ := read_row (v := b) h1
  cases hm
  exact ⟨(m, zs, b), rfl, hz⟩

theorem read_ops (h : DataW.trod enc Try.prog W 0 spare held fuel 47 [v] = some x) : ∃ ts : List T3, RdM (memOf W) 2 v ts.length (flat ts) ∧ ArgsM (memOf W) ts := by
  obtain ⟨n, ys, rfl, h1, h2⟩ := read_rows (fun t : T3 => [Value.int .i64 t.1, t.2.2]) (fun t => RdM (memOf W) 1 t.2.2 t.2.1.length (i64s t.2.1)) (fun _ => rfl) Try.underlying47 (show Try.prog.cellsOf 51 = 2 by kernel_rfl) (by decide) (fun n cs x hx => read_op hx) h
  exact ⟨ys, h1, h2⟩

theorem read_script (hv : ∃ cs, v = .agg cs ∧ cs.size = Try.prog.cellsOf 49) (h : DataW.Trod enc Try.prog W 0 spare held 49 v d p) : ∃ (room : Int) (a : Option Addr) (c : Nat) (ts : List T3), v = .agg #[.int .i64 room, .slice a ts.length c] ∧ RdM (memOf W) 2 (.slice a ts.length c) ts.length (flat ts) ∧ ArgsM (memOf W) ts := by
  obtain ⟨cs, rfl, _⟩ := hv
  obtain ⟨fuel, h⟩ := h
  obtain ⟨xs, n, _, _, hl, hx, hf⟩ := DataW.trod_struct Try.underlying49 h
  rw [show Try.prog.cellsOf 49 = 2 by kernel_rfl] at hl
  obtain ⟨a, b, hab⟩ := two_of hl
  rw [hab] at hf
  have h0 := hf 0 _ rfl
  have h1 := hf 1 _ rfl
  rw [show Try.prog.cellsOf _ = 1 by kernel_rfl] at h0 h1
  rw [List.getElem?_eq_getElem (by rw [hx]; decide)] at h0 h1
  obtain ⟨m, hm, _⟩ := DataW.trod_int Try.underlying3 h0
  obtain ⟨ts, h2, h3⟩ := read_ops (v := b) h1
  cases hm
  obtain ⟨sa, sc, rfl, _⟩ := h2.slice
  refine ⟨m, sa, sc, ts, ?_, h2, h3⟩
  have : cs.toList = [.int .i64 m, .slice sa ts.length sc] := hab
  rw [← Array.toArray_toList (xs := cs), this]

theorem read_op1 (hv : ∃ cs, v = .agg cs ∧ cs.size = Try.prog.cellsOf 51) (h : DataW.Trod enc Try.prog W 0 spare held 51 v d p) : ∃ (c : Int) (a : Option Addr) (n cap : Nat), v = .agg #[.int .i64 c, .slice a n cap] := by
  obtain ⟨cs, rfl, _⟩ := hv
  obtain ⟨fuel, h⟩ := h
  obtain ⟨⟨c, zs, b⟩, h1, h2⟩ := read_op h
  replace h2 : RdM (memOf W) 1 b zs.length (i64s zs) := h2
  obtain ⟨sa, sc, rfl, _⟩ := h2.slice
  refine ⟨c, sa, zs.length, sc, ?_⟩
  have : cs.toList = [.int .i64 c, .slice sa zs.length sc] := h1
  rw [← Array.toArray_toList (xs := cs), this]
end
end Go.Proofs.Ytcnocefclcoiiaa
