/- Numbers read, letter by letter. No conditions. -/
import Derived.Test.YtbfjkclijjhlhaaDoorNum
namespace Go.Eng
open Go

def W64 (z : Int) : Int := IntKind.i64.wrap z
theorem W64_in (z : Int) : InR (W64 z) := by
  unfold W64 InR
  rw [IntKind.wrap_i64]
  omega
theorem W64_of {z : Int} (h : InR z) : W64 z = z := wrap64_of h.1 h.2
/-- One letter more. -/
def stp (a : Int) (b : UInt8) : Int := W64 (W64 (a * 10) - ((b.toNat : Int) - 48))
def dig (l : List UInt8) : Int := l.foldl stp 0
theorem dig_snoc (l : List UInt8) (b : UInt8) : dig (l ++ [b]) = stp (dig l) b := by simp [dig, List.foldl_append]
theorem dig_dec : ∀ u : Nat, u ≤ 9223372036854775808 → dig (Lib.decDigits u) = -(u : Int) := by
  intro u
  induction u using Nat.strongRecOn with
  | ind u ih =>
    intro hu
    by_cases h : u < 10
    · rw [dec_small h]
      show stp 0 _ = _
      unfold stp
      rw [toNat_digit h, show W64 (0 * 10) = 0 from W64_of ⟨by omega, by omega⟩, W64_of ⟨by omega, by omega⟩]
      omega
    · rw [dec_big h, dig_snoc, ih (u / 10) (by omega) (by omega)]
      unfold stp
      rw [toNat_digit (by omega), show W64 (-((u / 10 : Nat) : Int) * 10) = -((u / 10 : Nat) : Int) * 10 from W64_of ⟨by omega, by omega⟩, W64_of ⟨by omega, by omega⟩]
      omega
/-- What a text's letters make, the sign passed over. -/
def accE : List UInt8 → Int
  | [] => 0
  | b :: r => if b.toNat = 45 then dig r else dig (b :: r)
theorem dig_in : ∀ l : List UInt8, InR (dig l) := by
  intro l
  rcases List.eq_nil_or_concat l with rfl | ⟨m, b, rfl⟩
  · exact ⟨by show _ ≤ (0 : Int); omega, by show (0 : Int) ≤ _; omega⟩
  · rw [List.concat_eq_append, dig_snoc]; exact W64_in _
theorem accE_in (l : List UInt8) : InR (accE l) := by
  cases l with
  | nil => exact ⟨by show _ ≤ (0 : Int); omega, by show (0 : Int) ≤ _; omega⟩
  | cons b r => show InR (if b.toNat = 45 then dig r else dig (b :: r)); split <;> exact dig_in _
theorem accE_snoc {l : List UInt8} {b : UInt8} (h : l ≠ [] ∨ b.toNat ≠ 45) : accE (l ++ [b]) = stp (accE l) b := by
  cases l with
  | nil =>
    have hb : b.toNat ≠ 45 := h.resolve_left (fun h => h rfl)
    show (if b.toNat = 45 then dig [] else dig [b]) = stp 0 b
    rw [if_neg hb]
    rfl
  | cons c r =>
    show (if c.toNat = 45 then dig (r ++ [b]) else dig ((c :: r) ++ [b])) = stp (if c.toNat = 45 then dig r else dig (c :: r)) b
    split
    · exact dig_snoc r b
    · exact dig_snoc (c :: r) b
theorem accE_sign {b : UInt8} (h : b.toNat = 45) : accE ([] ++ [b]) = 0 := by
  show (if b.toNat = 45 then dig [] else _) = 0
  rw [if_pos h]
  rfl
/-- The number in the end. -/
def finE : List UInt8 → Int
  | [] => 0
  | b :: r => if b.toNat = 45 then accE (b :: r) else W64 (-(accE (b :: r)))
theorem finE_in (l : List UInt8) : InR (finE l) := by
  cases l with
  | nil => exact ⟨by show _ ≤ (0 : Int); omega, by show (0 : Int) ≤ _; omega⟩
  | cons b r =>
    show InR (if b.toNat = 45 then accE (b :: r) else W64 (-(accE (b :: r))))
    split
    · exact accE_in _
    · exact W64_in _
theorem fin_itoa {p : Int} (h : InR p) : finE (Lib.itoa p) = p := by
  obtain ⟨h0, h1⟩ := h
  unfold Lib.itoa
  split
  · rw [finE, if_pos (show (45 : UInt8).toNat = 45 from rfl), accE, if_pos (show (45 : UInt8).toNat = 45 from rfl), dig_dec _ (by omega)]
    omega
  · have hd := dec_mem p.toNat
    have hn := dec_ne p.toNat
    have hp := dig_dec p.toNat (by omega)
    revert hd hn hp
    generalize Lib.decDigits p.toNat = l
    intro hd hn hp
    cases l with
    | nil => exact absurd rfl hn
    | cons c r =>
      have hc := hd c (by simp)
      rw [finE, if_neg (by omega), accE, if_neg (by omega), hp, W64_of ⟨by omega, by omega⟩]
      omega
theorem itoa_ne (p : Int) : Lib.itoa p ≠ [] := by
  unfold Lib.itoa
  split
  · simp
  · exact dec_ne _
theorem itoa_at {p : Int} {i : Nat} {b : UInt8} (h : (Lib.itoa p)[i]? = some b) (hi : 1 ≤ i) : 48 ≤ b.toNat ∧ b.toNat ≤ 57 := by
  unfold Lib.itoa at h
  split at h
  · obtain ⟨j, rfl⟩ : ∃ j, i = j + 1 := ⟨i - 1, by omega⟩
    exact dec_mem _ _ (List.mem_of_getElem? h)
  · exact dec_mem _ _ (List.mem_of_getElem? h)
theorem itoa_last {p : Int} {l : List UInt8} {c : UInt8} (h : Lib.itoa p = l ++ [c]) : 48 ≤ c.toNat ∧ c.toNat ≤ 57 := by
  unfold Lib.itoa at h
  split at h
  · cases l with
    | nil =>
      simp only [List.nil_append, List.cons.injEq] at h
      exact absurd h.2 (dec_ne _)
    | cons d r =>
      simp only [List.cons_append, List.cons.injEq] at h
      exact dec_mem p.natAbs c (by rw [h.2]; simp)
  · exact dec_mem p.toNat c (by rw [h]; simp)

theorem no_text_head {c : UInt8} {l : List UInt8} (h1 : c.toNat ≠ 45) (h2 : ¬ (48 ≤ c.toNat ∧ c.toNat ≤ 57)) (e : El) : textE e ≠ c :: l := fun h => by
  unfold textE at h
  cases hi : Lib.itoa e.1 with
  | nil => exact itoa_ne _ hi
  | cons d r =>
    rw [hi] at h
    simp only [List.cons_append, List.cons.injEq] at h
    have := itoa_mem (p := e.1) (c := c) (by rw [hi, ← h.1]; simp)
    omega
theorem no_text_last {c : UInt8} {l : List UInt8} (h2 : ¬ (48 ≤ c.toNat ∧ c.toNat ≤ 57)) (e : El) : textE e ≠ l ++ [c] := fun h => by
  rcases List.eq_nil_or_concat (Lib.itoa e.2) with hn | ⟨m, d, hd⟩
  · exact itoa_ne _ hn
  · rw [List.concat_eq_append] at hd
    have h4 := itoa_last (p := e.2) (l := m) (c := d) hd
    unfold textE at h
    rw [hd, show Lib.itoa e.1 ++ 58 :: (m ++ [d]) = (Lib.itoa e.1 ++ 58 :: m) ++ [d] from by simp] at h
    have h5 := (List.append_inj' h rfl).2
    simp only [List.cons.injEq, and_true] at h5
    subst h5
    exact h2 h4
theorem no_text_mid {c : UInt8} {p q : Int} (h1 : c.toNat ≠ 45) (h2 : ¬ (48 ≤ c.toNat ∧ c.toNat ≤ 57)) (e : El) : textE e ≠ Lib.itoa p ++ [c] ++ [58] ++ Lib.itoa q := fun h => by
  have hc := cut_text e
  rw [h] at hc
  by_cases h58 : c = 58
  · subst h58
    rw [show Lib.itoa p ++ [58] ++ [58] ++ Lib.itoa q = Lib.itoa p ++ 58 :: (58 :: Lib.itoa q) from by simp, cut_at itoa_colon] at hc
    simp only [Prod.mk.injEq] at hc
    exact itoa_colon (p := e.2) (by rw [← hc.2]; simp)
  · rw [show Lib.itoa p ++ [c] ++ [58] ++ Lib.itoa q = (Lib.itoa p ++ [c]) ++ 58 :: Lib.itoa q from by simp, cut_at (by
      intro hm
      rcases List.mem_append.1 hm with hm | hm
      · exact itoa_colon hm
      · exact h58 (by simpa using (List.mem_singleton.1 hm).symm))] at hc
    simp only [Prod.mk.injEq] at hc
    have := itoa_mem (p := e.1) (c := c) (by rw [← hc.1]; simp)
    omega
end Go.Eng
