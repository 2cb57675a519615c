/- The engine of this claim's walks, seventh part: slices of what has more cells than one. No conditions. -/
import Derived.Test.YtbfjkclijjhlhaaDoorOps3
import Derived.DataElems
namespace Go.Eng
open Go Go.ChangeShapes Go.WideShapes Go.RowKit

theorem rows_length {α : Type} {cell : α → List Value} {size : Nat} (hc : ∀ y, (cell y).length = size) : ∀ ys : List α, (ys.flatMap cell).length = ys.length * size
  | [] => by simp
  | y :: r => by rw [List.flatMap_cons, List.length_append, rows_length hc r, hc, List.length_cons, Nat.add_mul]; omega

theorem get_rows {α : Type} {cell : α → List Value} {size : Nat} (hc : ∀ y, (cell y).length = size) : ∀ {ys : List α} {j : Nat} {u : Value}, (ys.flatMap cell)[j]? = some u → ∃ i y r, ys[i]? = some y ∧ j = i * size + r ∧ r < size ∧ (cell y)[r]? = some u
  | [], _, _, h => by simp at h
  | y :: t, j, u, h => by
    rw [List.flatMap_cons] at h
    rcases Nat.lt_or_ge j size with hj | hj
    · rw [List.getElem?_append_left (by rw [hc]; exact hj)] at h
      exact ⟨0, y, j, rfl, by omega, hj, h⟩
    · rw [List.getElem?_append_right (by rw [hc]; exact hj), hc] at h
      obtain ⟨i, z, r, h1, h2, h3, h4⟩ := get_rows hc h
      exact ⟨i + 1, z, r, by simpa using h1, by rw [Nat.add_mul]; omega, h3, h4⟩

/-- An element's cells among those of its row. -/
theorem rows_get {α : Type} {cell : α → List Value} {size : Nat} (hc : ∀ y, (cell y).length = size) : ∀ {ys : List α} {i : Nat} {y : α}, ys[i]? = some y → ∀ r u, (cell y)[r]? = some u → (ys.flatMap cell)[i * size + r]? = some u
  | [], _, _, h, _, _, _ => by simp at h
  | y :: t, 0, z, h, r, u, hu => by
    cases h
    have hr : r < size := by
      rw [← hc y]
      exact (List.getElem?_eq_some_iff.1 hu).1
    rw [List.flatMap_cons, Nat.zero_mul, Nat.zero_add, List.getElem?_append_left (by rw [hc]; exact hr)]
    exact hu
  | y :: t, i + 1, z, h, r, u, hu => by
    rw [List.flatMap_cons, List.getElem?_append_right (by rw [hc, Nat.add_mul]; omega), hc, show (i + 1) * size + r - size = i * size + r from by rw [Nat.add_mul]; omega]
    exact rows_get hc (by simpa using h) r u hu

section
variable {H : Type} {enc : TypeId × Value → H} {P : Program} {W : World} {spare : Nat → Bool} {held : Bool} {t e : TypeId} {v : Value} {x : DataW H × List MemPlace} {fuel : Nat}

theorem read_rows {α : Type} (cell : α → List Value) (G : α → Prop) {size : Nat} (hcl : ∀ y, (cell y).length = size) (ht : P.underlying t = some (.slice e)) (hc : P.cellsOf e = size) (hs : 0 < size)
    (hQ : ∀ n cs x, DataW.trod enc P W 0 spare held n e cs = some x → ∃ y, cs = cell y ∧ G y) (h : DataW.trod enc P W 0 spare held fuel t [v] = some x) :
    ∃ (n : Nat) (ys : List α), ys.length = n ∧ RdM (memOf W) size v n (ys.flatMap cell) ∧ ∀ y ∈ ys, G y := by
  rcases DataW.trod_slice ht h with ⟨hcs, _⟩ | ⟨a, len, cap, elems, rest, n, _, hcs, _, _, hl, hm, hlen, hel, _, _⟩
  · cases hcs
    exact ⟨0, [], rfl, ⟨by simp, .inl ⟨rfl, none, 0, rfl, fun _ => rfl⟩⟩, by simp⟩
  · cases hcs
    have each : ∀ i, i < len → ∃ y, G y ∧ W.cells? 0 (a.add (i * size)) size = some (cell y) := fun i hi => by
      have h1 := hel i hi
      rw [hc, List.getElem?_eq_getElem (by omega)] at h1
      obtain ⟨cs', hcs', hy⟩ := Option.bind_eq_some_iff.1 h1
      obtain ⟨y, rfl, hg⟩ := hQ _ _ _ hy
      exact ⟨y, hg, hcs'⟩
    have all : ∀ k, k ≤ len → ∃ ys : List α, ys.length = k ∧ ∀ i y, ys[i]? = some y → G y ∧ W.cells? 0 (a.add (i * size)) size = some (cell y) := by
      intro k
      induction k with
      | zero => exact fun _ => ⟨[], rfl, fun i y h => by simp at h⟩
      | succ k ih =>
        intro hk
        obtain ⟨ys, h1, h2⟩ := ih (by omega)
        obtain ⟨y, hy⟩ := each k (by omega)
        refine ⟨ys ++ [y], by simp [h1], fun i z hz => ?_⟩
        rcases Nat.lt_or_ge i ys.length with hi | hi
        · exact h2 i z (by rwa [List.getElem?_append_left hi] at hz)
        · rw [List.getElem?_append_right hi] at hz
          have hik : i - ys.length = 0 := by
            have := (List.getElem?_eq_some_iff.1 hz).1
            simp at this; omega
          rw [hik] at hz
          cases hz
          obtain rfl : i = k := by omega
          exact hy
    obtain ⟨ys, hy1, hy2⟩ := all len (Nat.le_refl _)
    refine ⟨len, ys, hy1, rdM_of hs hl (by rw [rows_length hcl, hy1]) fun j u hj => ?_, fun y hy => ?_⟩
    · obtain ⟨i, y, r, h1, rfl, h3, h4⟩ := get_rows hcl hj
      have h5 := (World.cells?_some (hy2 i y h1).2).2.2 r h3
      rw [Addr.add_add, h4] at h5
      exact h5
    · obtain ⟨i, hi⟩ := List.getElem?_of_mem hy
      exact (hy2 i y hi).1
end
end Go.Eng
