/- The engine of this claim's walks, fifth part: the arguments of a law as what lies still. No conditions. -/
import Derived.Test.YtbfjkclijjhlhaaDoorOps2
import Derived.ProofKit
import Derived.OpenShut
import Derived.ShutString
import Derived.ChangeOld
import Derived.Below
import Derived.SizedLaws
import Derived.SliceStrings
import Derived.ChangeSlices
import Derived.Carry
namespace Go.Eng
open Go Go.ChangeShapes Go.WideShapes Go.RowKit

theorem Step.below {S : Nat → Prop} {M M' : Mem} {w w' : World} (h : Step S M w M' w') (hS : ∀ k, ¬ S k) : Below w.heap.size w w' := ⟨h.os, h.tape, h.output, h.size, fun k hk => h.kept k hk (hS k)⟩

/-- What a law's walk gives. -/
def LawP (w : World) : Value → World → Prop := fun v w' => v = .bool true ∧ Below w.heap.size w w'

theorem Does.law {P : Program} {f : FuncId} {args : Array Value} {w : World} {K : Value → World → Prop} (h : Does P f args w K) (hk : ∀ v w', K v w' → LawP w v w') : Calls P f args w fun e w' => e = .returned (.bool true) ∧ Below w.heap.size w w' :=
  h.calls.mono fun e w' he => by
    cases e with
    | returned v => obtain ⟨rfl, hb⟩ := hk v w' he; exact ⟨rfl, hb⟩
    | panicked c => exact he.elim
    | outgrown => exact he.elim

theorem rdM_of {W : World} {a : Addr} {len cap size : Nat} {cs : List Value} (hs : 0 < size) (hc : len ≤ cap) (hl : cs.length = len * size) (h : ∀ j u, cs[j]? = some u → W.cell? (a.add j) = some u) : RdM (memOf W) size (.slice (some a) len cap) len cs := by
  refine ⟨hl, ?_⟩
  by_cases h0 : cs = []
  · subst h0
    rcases Nat.eq_zero_or_pos len with rfl | hp
    · exact .inl ⟨rfl, some a, cap, rfl, fun h => (by cases h)⟩
    · have : 0 < len * size := Nat.mul_pos hp hs
      simp at hl; omega
  · obtain ⟨v, hv⟩ : ∃ v, cs[0]? = some v := by
      cases cs with
      | nil => exact absurd rfl h0
      | cons v r => exact ⟨v, rfl⟩
    have h1 := h 0 v hv
    obtain ⟨b, o, s⟩ := a
    have hsp : s = none := by
      have h2 : W.cell? ⟨b, o, s⟩ = some v := by simpa [Addr.add] using h1
      cases s with
      | none => rfl
      | some s =>
        unfold World.cell? at h2
        split at h2
        · simp at h2
        · cases h2
    subst hsp
    exact .inr ⟨b, o, cap, rfl, hc, fun j u hj => cellM_memOf (by have := h j u hj; rwa [Addr.add_lit] at this)⟩

section
variable {H : Type} {enc : TypeId × Value → H} {P : Program} {W : World} {spare : Nat → Bool} {held : Bool} {t e : TypeId} {v : Value} {d : DataW H} {p : List MemPlace}

theorem slice_of_cells {v : Value} {a : Option Addr} {n c : Nat} (hv : ∃ a n c, v = .slice a n c) (h : v.cells.toList = [.slice a n c]) : v = .slice a n c := by
  obtain ⟨a', n', c', rfl⟩ := hv
  simpa [Value.cells] using h

theorem read_strings (ht : P.underlying t = some (.slice e)) (he : P.underlying e = some .string) (hc : P.cellsOf e = 1) (hv : ∃ a n c, v = .slice a n c) (h : DataW.Trod enc P W 0 spare held t v d p) :
    ∃ (n : Nat) (ss : List ByteArray), RdM (memOf W) 1 v n (ss.map .string) ∧ ∀ s ∈ ss, s.size ≤ maxLen := by
  obtain ⟨fuel, hf⟩ := h
  rcases open_strings ht he hc hf with ⟨hcs, _⟩ | ⟨a, len, cap, ss, hcs, _, hl, _, hlen, _, hcell, hsz⟩
  · exact ⟨0, [], by rw [slice_of_cells hv hcs]; exact ⟨rfl, .inl ⟨rfl, none, 0, rfl, fun _ => rfl⟩⟩, by simp⟩
  · have hle : len ≤ ss.length := by rw [hlen]; split <;> omega
    refine ⟨len, ss.take len, ?_, fun s hs => hsz s (List.mem_of_mem_take hs)⟩
    rw [slice_of_cells hv hcs]
    refine rdM_of (by decide) hl (by simp; omega) fun j u hj => ?_
    rw [List.getElem?_map, List.getElem?_take] at hj
    split at hj
    · rename_i hjl
      have hjs : j < ss.length := by omega
      rw [List.getElem?_eq_getElem hjs] at hj
      cases hj
      have := hcell j hjs
      rw [List.getD_eq_getElem?_getD, List.getElem?_eq_getElem hjs] at this
      exact this
    · cases hj

theorem weights_strs (P : Program) (e : TypeId) : ∀ (ss : List ByteArray), ∀ s ∈ ss, s.size ∈ DataW.weightsAll (H := H) P e (strs ss)
  | [], s, h => by cases h
  | s0 :: r, s, h => by
    show s.size ∈ DataW.weights P e (.lit (.string s0.data.toList)) ++ DataW.weightsAll P e (strs r)
    rcases List.mem_cons.1 h with rfl | h
    · refine List.mem_append.2 (.inl ?_)
      show s.size ∈ [s.data.toList.length]
      rw [Array.length_toList]
      exact List.mem_singleton.2 rfl
    · exact List.mem_append.2 (.inr (weights_strs P e r s h))

theorem read_stringsW (ht : P.underlying t = some (.slice e)) (he : P.underlying e = some .string) (hc : P.cellsOf e = 1) (hv : ∃ a n c, v = .slice a n c) (h : DataW.Trod enc P W 0 spare held t v d p) (hw : ∀ n ∈ d.weights P t, n ≤ reachBytes) :
    ∃ (n : Nat) (ss : List ByteArray), RdM (memOf W) 1 v n (ss.map .string) ∧ ∀ s ∈ ss, s.size ≤ 140737488351232 := by
  obtain ⟨fuel, hf⟩ := h
  rcases open_strings ht he hc hf with ⟨hcs, _⟩ | ⟨a, len, cap, ss, hcs, _, hl, _, hlen, hx, hcell, hsz⟩
  · exact ⟨0, [], by rw [slice_of_cells hv hcs]; exact ⟨rfl, .inl ⟨rfl, none, 0, rfl, fun _ => rfl⟩⟩, by simp⟩
  · have hle : len ≤ ss.length := by rw [hlen]; split <;> omega
    obtain ⟨rfl, _⟩ := Prod.mk.inj hx
    refine ⟨len, ss.take len, ?_, fun s hs => hw _ ?_⟩
    · rw [slice_of_cells hv hcs]
      refine rdM_of (by decide) hl (by simp; omega) fun j u hj => ?_
      rw [List.getElem?_map, List.getElem?_take] at hj
      split at hj
      · rename_i hjl
        have hjs : j < ss.length := by omega
        rw [List.getElem?_eq_getElem hjs] at hj
        cases hj
        have := hcell j hjs
        rw [List.getD_eq_getElem?_getD, List.getElem?_eq_getElem hjs] at this
        exact this
      · cases hj
    · simp only [DataW.weights, ht]
      exact List.mem_cons_of_mem _ (List.mem_append.2 (.inl (weights_strs P e _ s hs)))

theorem read_ints {k : IntKind} (ht : P.underlying t = some (.slice e)) (he : P.underlying e = some (.int k)) (hc : P.cellsOf e = 1) (hv : ∃ a n c, v = .slice a n c) (h : DataW.Trod enc P W 0 spare held t v d p) :
    ∃ (n : Nat) (zs : List Int), RdM (memOf W) 1 v n (zs.map (.int k)) ∧ ∀ z ∈ zs, (Lit.int k z).wf = true := by
  obtain ⟨fuel, hf⟩ := h
  rcases open_ints ht he hc hf with ⟨hcs, _⟩ | ⟨a, len, cap, ss, hcs, _, hl, _, hlen, _, hcell, hsz⟩
  · exact ⟨0, [], by rw [slice_of_cells hv hcs]; exact ⟨rfl, .inl ⟨rfl, none, 0, rfl, fun _ => rfl⟩⟩, by simp⟩
  · have hle : len ≤ ss.length := by rw [hlen]; split <;> omega
    refine ⟨len, ss.take len, ?_, fun s hs => hsz s (List.mem_of_mem_take hs)⟩
    rw [slice_of_cells hv hcs]
    refine rdM_of (by decide) hl (by simp; omega) fun j u hj => ?_
    rw [List.getElem?_map, List.getElem?_take] at hj
    split at hj
    · rename_i hjl
      have hjs : j < ss.length := by omega
      rw [List.getElem?_eq_getElem hjs] at hj
      cases hj
      have := hcell j hjs
      rw [List.getD_eq_getElem?_getD, List.getElem?_eq_getElem hjs] at this
      exact this
    · cases hj
end
end Go.Eng
