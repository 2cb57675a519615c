/- Numbers as texts. No conditions. -/
import Derived.Test.YtbfjkclijjhlhaaDoorLibK
import Derived.Lib.ItoaNum
import Derived.Lib.ParseIntBTie
import Derived.Lib.Bytealg
namespace Go.Eng
open Go

theorem toNat_digit {d : Nat} (h : d < 10) : (UInt8.ofNat (48 + d)).toNat = 48 + d := by
  rw [UInt8.toNat_ofNat']
  omega
theorem dec_small {u : Nat} (h : u < 10) : Lib.decDigits u = [UInt8.ofNat (48 + u)] := by rw [Lib.decDigits, dif_pos h]
theorem dec_big {u : Nat} (h : ¬ u < 10) : Lib.decDigits u = Lib.decDigits (u / 10) ++ [UInt8.ofNat (48 + u % 10)] := by rw [Lib.decDigits, dif_neg h]

theorem dec_mem : ∀ (u : Nat) (c : UInt8), c ∈ Lib.decDigits u → 48 ≤ c.toNat ∧ c.toNat ≤ 57 := by
  intro u
  induction u using Nat.strongRecOn with
  | ind u ih =>
    intro c hc
    by_cases h : u < 10
    · rw [dec_small h] at hc
      obtain rfl := List.mem_singleton.1 hc
      rw [toNat_digit h]; omega
    · rw [dec_big h] at hc
      rcases List.mem_append.1 hc with hc | hc
      · exact ih (u / 10) (by omega) c hc
      · obtain rfl := List.mem_singleton.1 hc
        rw [toNat_digit (by omega)]; omega
theorem dec_ne (u : Nat) : Lib.decDigits u ≠ [] := by
  by_cases h : u < 10
  · rw [dec_small h]; simp
  · rw [dec_big h]; simp
theorem dec_length : ∀ (k u : Nat), u < 10 ^ (k + 1) → (Lib.decDigits u).length ≤ k + 1
  | 0, u, h => by rw [dec_small (by simpa using h)]; simp
  | k + 1, u, h => by
    by_cases h10 : u < 10
    · rw [dec_small h10]; simp
    · rw [dec_big h10, List.length_append]
      have := dec_length k (u / 10) (by rw [Nat.pow_succ] at h; omega)
      simp only [List.length_cons, List.length_nil]
      omega

theorem parse_dec (M : Nat) (hM : M ≤ 18446744073709551615) : ∀ (u : Nat) (r : List UInt8), u ≤ M → Lib.parseUintM M 0 (Lib.decDigits u ++ r) = Lib.parseUintM M u r := by
  intro u
  induction u using Nat.strongRecOn with
  | ind u ih =>
    intro r hu
    by_cases h : u < 10
    · rw [dec_small h]
      show Lib.parseUintM M 0 (_ :: r) = _
      rw [Lib.parseUintM, toNat_digit h, if_pos (by omega), if_neg (by omega), if_neg (by omega)]
      congr 1
      omega
    · rw [dec_big h, List.append_assoc, ih (u / 10) (by omega) _ (by omega)]
      show Lib.parseUintM M (u / 10) (_ :: r) = _
      rw [Lib.parseUintM, toNat_digit (by omega), if_pos (by omega), if_neg (by omega), if_neg (by omega)]
      congr 1
      omega
theorem parseU_dec {u : Nat} (h : u ≤ 18446744073709551615) : Lib.parseUintB 64 (Lib.decDigits u) = .ok u := by
  have e : (2 : Nat) ^ 64 - 1 = 18446744073709551615 := by decide
  rw [Lib.parseUintB, if_neg (dec_ne u), e]
  have := parse_dec 18446744073709551615 (Nat.le_refl _) u [] h
  rw [List.append_nil] at this
  rw [this]
  rfl
theorem parse_itoa {p : Int} (h0 : -9223372036854775808 ≤ p) (h1 : p ≤ 9223372036854775807) : Lib.parseIntB 64 (Lib.itoa p) = .ok p := by
  have e : (2 : Nat) ^ (64 - 1) = 9223372036854775808 := by decide
  unfold Lib.itoa
  split
  · rw [Lib.parseIntB_minus, parseU_dec (by omega), Lib.signedC, e, if_neg (by omega)]
    congr 1
    omega
  · have hd := dec_mem p.toNat
    have hn := dec_ne p.toNat
    have hp := parseU_dec (u := p.toNat) (by omega)
    revert hd hn hp
    generalize Lib.decDigits p.toNat = l
    intro hd hn hp
    cases l with
    | nil => exact absurd rfl hn
    | cons c r =>
      have hc := hd c (by simp)
      rw [Lib.parseIntB_plain 64 c r (by omega) (by omega), hp, Lib.signlessC, e, if_neg (by omega)]
      congr 1
      omega
theorem itoa_mem {p : Int} {c : UInt8} (h : c ∈ Lib.itoa p) : c.toNat = 45 ∨ (48 ≤ c.toNat ∧ c.toNat ≤ 57) := by
  unfold Lib.itoa at h
  split at h
  · rcases List.mem_cons.1 h with rfl | h
    · exact .inl rfl
    · exact .inr (dec_mem _ _ h)
  · exact .inr (dec_mem _ _ h)
theorem itoa_colon {p : Int} : (58 : UInt8) ∉ Lib.itoa p := fun h => by
  have := itoa_mem h
  have e : (58 : UInt8).toNat = 58 := rfl
  omega
theorem itoa_len {p : Int} (h0 : -9223372036854775808 ≤ p) (h1 : p ≤ 9223372036854775807) : (Lib.itoa p).length ≤ 20 := by
  unfold Lib.itoa
  have e : (10 : Nat) ^ (18 + 1) = 10000000000000000000 := by decide
  split
  · have := dec_length 18 p.natAbs (by rw [e]; omega)
    simp only [List.length_cons]; omega
  · have := dec_length 18 p.toNat (by rw [e]; omega)
    omega

/-- An element as a text. -/
def textE (e : El) : List UInt8 := Lib.itoa e.1 ++ 58 :: Lib.itoa e.2
/-- What stands ahead of the first colon, and behind it; all, and nothing, where there is none. -/
def cutE (l : List UInt8) : List UInt8 × List UInt8 := (l.takeWhile (· != 58), (l.dropWhile (· != 58)).tail)

theorem cut_at : ∀ {a b : List UInt8}, (58 : UInt8) ∉ a → cutE (a ++ 58 :: b) = (a, b)
  | [], b, _ => rfl
  | c :: r, b, h => by
    have hc : (c != 58) = true := by
      have : c ≠ 58 := fun e => h (by simp [e])
      simpa using this
    have ih := cut_at (a := r) (b := b) (fun hm => h (by simp [hm]))
    unfold cutE at ih ⊢
    simp only [List.cons_append, List.takeWhile_cons, List.dropWhile_cons, hc, if_true]
    simp only [Prod.mk.injEq] at ih ⊢
    exact ⟨by rw [ih.1], ih.2⟩
theorem cut_text (e : El) : cutE (textE e) = (Lib.itoa e.1, Lib.itoa e.2) := cut_at itoa_colon
def InR (z : Int) : Prop := -9223372036854775808 ≤ z ∧ z ≤ 9223372036854775807
theorem parse_inR {l : List UInt8} {v : Int} (h : Lib.parseIntB 64 l = .ok v) : InR v := by
  have := Lib.parseIntB_bounds h
  have e : (2 : Nat) ^ (64 - 1) = 9223372036854775808 := by decide
  rw [e] at this
  exact ⟨by omega, by omega⟩
theorem text_inj {e f : El} (he : InR e.1 ∧ InR e.2) (hf : InR f.1 ∧ InR f.2) (h : textE e = textE f) : e = f := by
  have h1 := cut_text e
  rw [h, cut_text f] at h1
  simp only [Prod.mk.injEq] at h1
  have a1 := parse_itoa he.1.1 he.1.2
  have a2 := parse_itoa he.2.1 he.2.2
  rw [← h1.1, parse_itoa hf.1.1 hf.1.2] at a1
  rw [← h1.2, parse_itoa hf.2.1 hf.2.2] at a2
  injection a1 with a1
  injection a2 with a2
  exact Prod.ext a1.symm a2.symm

/-! ### Strings by their letters -/
section
variable {P : Program} {l : Env} {x y : Operand} {ty t u : TypeId} {w : World}
theorem bytes_take (bs : List UInt8) (j : Nat) : (ByteArray.mk bs.toArray).extract 0 j = ⟨(bs.take j).toArray⟩ := by
  apply ByteArray.ext
  simp [ByteArray.data_extract]
theorem bytes_drop (bs : List UInt8) (i : Nat) : (ByteArray.mk bs.toArray).extract i bs.length = ⟨(bs.drop i).toArray⟩ := by
  apply ByteArray.ext
  simp only [ByteArray.data_extract, List.extract_toArray, List.extract_eq_take_drop]
  rw [List.take_of_length_le (by simp)]
theorem bytes_cat (a b : List UInt8) : (ByteArray.mk a.toArray) ++ (ByteArray.mk b.toArray) = ⟨(a ++ b).toArray⟩ := by
  apply ByteArray.ext
  simp [ByteArray.data_append]
theorem bytes_size (bs : List UInt8) : (ByteArray.mk bs.toArray).size = bs.length := by simp [ByteArray.size]
theorem bytes_of (s : ByteArray) : s = ⟨s.data.toList.toArray⟩ := by cases s; simp
theorem q_lenL {t' : TypeId} {bs : List UInt8} (ht : P.underlying t' = some .string) (hx : opv l x = some (.string ⟨bs.toArray⟩)) (w : World) : Quiet P l (.call ⟨.builtin .len, #[x], #[t']⟩) ty w (.int .i64 bs.length) :=
  q_congr (q_lens ht hx w) (by rw [bytes_size])
theorem q_takeL {T : TypeId} {bs : List UInt8} {k : IntKind} {j : Int} (ht : P.underlying T = some .string) (hx : opv l x = some (.string ⟨bs.toArray⟩)) (hy : opv l y = some (.int k j)) (h0 : 0 ≤ j) (h1 : j ≤ bs.length) :
    Quiet P l (.slice T x none (some y) none) ty w (.string ⟨(bs.take j.toNat).toArray⟩) := q_congr (q_sliceSh ht hx hy h0 (by rw [bytes_size]; exact h1)) (by rw [bytes_take])
theorem q_dropL {T : TypeId} {bs : List UInt8} {k : IntKind} {i : Int} (ht : P.underlying T = some .string) (hx : opv l x = some (.string ⟨bs.toArray⟩)) (hy : opv l y = some (.int k i)) (h0 : 0 ≤ i) (h1 : i ≤ bs.length) :
    Quiet P l (.slice T x (some y) none none) ty w (.string ⟨(bs.drop i.toNat).toArray⟩) := q_congr (q_sliceSl ht hx hy h0 (by rw [bytes_size]; exact h1)) (by rw [bytes_size, bytes_drop])
theorem q_atL {T : TypeId} {bs : List UInt8} {k : IntKind} {i : Int} {b : UInt8} (ht : P.underlying T = some .string) (hx : opv l x = some (.string ⟨bs.toArray⟩)) (hy : opv l y = some (.int k i)) (h0 : 0 ≤ i) (hb : bs[i.toNat]? = some b) :
    Quiet P l (.index T x y) ty w (.int .u8 (b.toNat : Int)) := by
  obtain ⟨hlt, he⟩ := List.getElem?_eq_some_iff.1 hb
  refine q_congr (q_indexS ht hx hy h0 (by rw [bytes_size]; omega)) ?_
  rw [← he]
  rfl
theorem q_catL {a b : List UInt8} (hx : opv l x = some (.string ⟨a.toArray⟩)) (hy : opv l y = some (.string ⟨b.toArray⟩)) (h : a.length + b.length ≤ 9223372036854775807) : Quiet P l (.binOp .add t x y u) ty w (.string ⟨(a ++ b).toArray⟩) :=
  q_congr (q_concat hx hy (by rw [bytes_size, bytes_size]; exact h)) (by rw [bytes_cat])
theorem toList_mk (a : List UInt8) : (ByteArray.mk a.toArray).toList = a := Go.ByteArray.toList_mk a
theorem q_eqL {a b : List UInt8} (hx : opv l x = some (.string ⟨a.toArray⟩)) (hy : opv l y = some (.string ⟨b.toArray⟩)) : Quiet P l (.binOp .eql t x y u) ty w (.bool (decide (a = b))) :=
  q_congr (q_eqs hx hy) (by rw [toList_mk, toList_mk]; congr 1; exact Bool.eq_iff_iff.2 (by simp))
theorem q_neL {a b : List UInt8} (hx : opv l x = some (.string ⟨a.toArray⟩)) (hy : opv l y = some (.string ⟨b.toArray⟩)) : Quiet P l (.binOp .neq t x y u) ty w (.bool (!decide (a = b))) :=
  q_congr (q_nes hx hy) (by rw [toList_mk, toList_mk]; congr 2; exact Bool.eq_iff_iff.2 (by simp))
end
/-- Where the first colon stands. -/
theorem index_none : ∀ {bs : List UInt8} {c : UInt8}, c ∉ bs → Lib.indexByte bs c = -1
  | [], _, _ => rfl
  | b :: r, c, h => by
    have hb : (b == c) = false := by
      have : b ≠ c := fun e => h (by simp [e])
      simpa using this
    have ih := index_none (bs := r) (c := c) (fun hm => h (by simp [hm]))
    simp [Lib.indexByte, hb, ih]
theorem index_at : ∀ {a b : List UInt8} {c : UInt8}, c ∉ a → Lib.indexByte (a ++ c :: b) c = a.length
  | [], b, c, _ => by simp [Lib.indexByte]
  | d :: r, b, c, h => by
    have hb : (d == c) = false := by
      have : d ≠ c := fun e => h (by simp [e])
      simpa using this
    have ih := index_at (a := r) (b := b) (c := c) (fun hm => h (by simp [hm]))
    simp only [List.cons_append, Lib.indexByte, hb, Bool.false_eq_true, if_false, ih]
    have hne : ((r.length : Int) == -1) = false := by simp
    rw [hne]
    simp
theorem split_at {c : UInt8} : ∀ {bs : List UInt8}, c ∈ bs → ∃ a b, bs = a ++ c :: b ∧ c ∉ a
  | b :: r, h => by
    by_cases hb : b = c
    · exact ⟨[], r, by simp [hb], by simp⟩
    · obtain ⟨p, q, rfl, hp⟩ := split_at (bs := r) (by rcases List.mem_cons.1 h with h | h; exact absurd h.symm hb; exact h)
      exact ⟨b :: p, q, by simp, by
        intro hm
        rcases List.mem_cons.1 hm with e | hm
        · exact hb e.symm
        · exact hp hm⟩
theorem cut_none {l : List UInt8} (h : (58 : UInt8) ∉ l) : cutE l = (l, []) := by
  have h1 : ∀ c ∈ l, (c != 58) = true := fun c hc => by
    have : c ≠ 58 := fun e => h (e ▸ hc)
    simpa using this
  have h2 : ∀ l : List UInt8, (∀ c ∈ l, (c != 58) = true) → l.takeWhile (· != 58) = l ∧ l.dropWhile (· != 58) = [] := by
    intro l
    induction l with
    | nil => intro _; exact ⟨rfl, rfl⟩
    | cons c r ih =>
      intro hl
      obtain ⟨i1, i2⟩ := ih fun d hd => hl d (by simp [hd])
      simp only [List.takeWhile_cons, List.dropWhile_cons, hl c (by simp), if_true]
      exact ⟨by rw [i1], i2⟩
  unfold cutE
  rw [(h2 l h1).1, (h2 l h1).2]
  rfl
end Go.Eng
