/- Scripts as numbers: back and forth, in plain Lean. -/
import Derived.Test.YtcnocefclcoiiaaScr
namespace Go.Proofs.Ytcnocefclcoiiaa
open Go Go.Eng

def encO (o : Int × List Int) : List Int := o.1 :: (o.2.length : Int) :: o.2
theorem build_eq (room : Int) (ops : List (Int × List Int)) : build room ops = room :: ops.flatMap encO := rfl

theorem pGo_ok : ∀ (k : Nat) (acc : List (Int × List Int)) (rs : List Int) (ops : List (Int × List Int)), rs.length ≤ k → pGo acc rs = .ok ops → ops.flatMap encO = acc.flatMap encO ++ rs
  | k, acc, [], ops, _, h => by rw [pGo] at h; cases h; simp
  | k, acc, [_], ops, _, h => by rw [pGo] at h; split at h <;> cases h
  | 0, acc, c :: n :: r, ops, hk, h => by simp at hk
  | k + 1, acc, c :: n :: r, ops, hk, h => by
    rw [pGo] at h
    split at h
    · cases h
    · split at h
      · cases h
      · split at h
        · cases h
        · rename_i h1 h2 h3
          rw [pGo_ok k _ _ _ (by simp at hk ⊢; omega) h, List.flatMap_append]
          have e : encO (c, r.take n.toNat) ++ r.drop n.toNat = c :: n :: r := by
            show c :: ((r.take n.toNat).length : Int) :: (r.take n.toNat ++ r.drop n.toNat) = _
            rw [List.take_append_drop, List.length_take, Nat.min_eq_left (by omega), Int.toNat_of_nonneg (by omega)]
          rw [List.append_assoc]
          simp [e]
theorem parse_build {zs : List Int} {a : Int} {ops : List (Int × List Int)} (h : parse zs = .ok (a, ops)) : build a ops = zs ∧ 0 ≤ a ∧ a ≤ 64 := by
  match zs, h with
  | b :: r, h =>
    replace h : (if b < 0 ∨ 64 < b then Except.error 1 else (pGo [] r).map fun ops => (b, ops)) = .ok (a, ops) := h
    by_cases hb : b < 0 ∨ 64 < b
    · rw [if_pos hb] at h; cases h
    · rw [if_neg hb] at h
      cases hp : pGo [] r with
      | error e => rw [hp] at h; cases h
      | ok o =>
        rw [hp] at h
        cases h
        exact ⟨by rw [build_eq, pGo_ok _ _ _ _ (Nat.le_refl _) hp]; rfl, by omega, by omega⟩

theorem pGo_back : ∀ (ops acc : List (Int × List Int)), acc.length + ops.length ≤ 256 → (∀ o ∈ ops, o.2.length ≤ 4) → pGo acc (ops.flatMap encO) = .ok (acc ++ ops)
  | [], acc, _, _ => by rw [List.flatMap_nil, pGo]; simp
  | o :: r, acc, hl, h4 => by
    have h1 := h4 o (by simp)
    rw [List.flatMap_cons]
    show pGo acc (o.1 :: (o.2.length : Int) :: (o.2 ++ r.flatMap encO)) = _
    simp only [List.length_cons] at hl
    rw [pGo, if_neg (by omega), if_neg (by omega), if_neg (by simp; omega), Int.toNat_natCast, List.take_left, List.drop_left, pGo_back r _ (by simp; omega) (fun x hx => h4 x (by simp [hx]))]
    simp
theorem parse_back {room : Int} {ops : List (Int × List Int)} (h0 : 0 ≤ room) (h1 : room ≤ 64) (hl : ops.length ≤ 256) (h4 : ∀ o ∈ ops, o.2.length ≤ 4) : parse (build room ops) = .ok (room, ops) := by
  rw [build_eq, parse_cons h0 h1, pGo_back ops [] (by simpa using hl) h4]
  rfl

/-- A script that is cut ends too early, or has fewer operations. -/
theorem pGo_cut : ∀ (ops acc : List (Int × List Int)) (k : Nat), acc.length + ops.length ≤ 256 → (∀ o ∈ ops, o.2.length ≤ 4) → k < (ops.flatMap encO).length →
    pGo acc ((ops.flatMap encO).take k) = .error 11 ∨ ∃ o2, pGo acc ((ops.flatMap encO).take k) = .ok o2 ∧ o2.length < acc.length + ops.length
  | [], acc, k, _, _, hk => by simp at hk
  | o :: r, acc, k, hl, h4, hk => by
    have h1 := h4 o (by simp)
    simp only [List.length_cons] at hl
    have he : (o :: r).flatMap encO = o.1 :: (o.2.length : Int) :: (o.2 ++ r.flatMap encO) := rfl
    rw [he] at hk ⊢
    match k, hk with
    | 0, _ => exact .inr ⟨acc, by rw [List.take_zero, pGo], by simp⟩
    | 1, _ => exact .inl (by rw [List.take_succ_cons, List.take_zero, pGo, if_neg (by omega)])
    | k + 2, hk =>
      rw [List.take_succ_cons, List.take_succ_cons]
      simp only [List.length_cons, List.length_append] at hk
      rcases Nat.lt_or_ge k o.2.length with hs | hs
      · refine .inl ?_
        rw [pGo, if_neg (by omega), if_neg (by omega), if_pos (by simp; omega)]
      · rw [pGo, if_neg (by omega), if_neg (by omega), if_neg (by simp; omega), Int.toNat_natCast, List.take_append, List.take_of_length_le hs]
        rw [List.take_left, List.drop_left]
        rcases pGo_cut r (acc ++ [(o.1, o.2)]) (k - o.2.length) (by simp; omega) (fun x hx => h4 x (by simp [hx])) (by omega) with h | ⟨o2, h, h5⟩
        · exact .inl h
        · exact .inr ⟨o2, h, by simp at h5 ⊢; omega⟩
theorem parse_cut {room : Int} {ops : List (Int × List Int)} {k : Nat} (h0 : 0 ≤ room) (h1 : room ≤ 64) (hl : ops.length ≤ 256) (h4 : ∀ o ∈ ops, o.2.length ≤ 4) (hk : k < (build room ops).length) :
    parse ((build room ops).take k) = .error 11 ∨ ∃ o2, parse ((build room ops).take k) = .ok (room, o2) ∧ o2.length < ops.length := by
  rw [build_eq] at hk ⊢
  cases k with
  | zero => exact .inl rfl
  | succ k =>
    rw [List.take_succ_cons, parse_cons h0 h1]
    rcases pGo_cut ops [] k (by simpa using hl) h4 (by simpa using hk) with h | ⟨o2, h, h5⟩
    · exact .inl (by rw [h]; rfl)
    · exact .inr ⟨o2, by rw [h]; rfl, by simpa using h5⟩
end Go.Proofs.Ytcnocefclcoiiaa
