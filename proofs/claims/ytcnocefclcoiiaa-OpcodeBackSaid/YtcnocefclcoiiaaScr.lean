/- Scripts as numbers: in plain Lean, and as they lie in memory. -/
import Derived.Test.YtcnocefclcoiiaaOps3
namespace Go.Proofs.Ytcnocefclcoiiaa
open Go Go.Eng

def i64s (zs : List Int) : List Value := zs.map (.int .i64)
theorem i64s_length (zs : List Int) : (i64s zs).length = zs.length := by simp [i64s]
theorem i64s_get {zs : List Int} {j : Nat} {z : Int} (h : zs[j]? = some z) : (i64s zs)[j]? = some (.int .i64 z) := by simp [i64s, h]
theorem i64s_one (zs : List Int) : ∀ x ∈ i64s zs, x.oneCell' = true := fun x hx => by obtain ⟨s, _, rfl⟩ := List.mem_map.1 hx; rfl
theorem i64s_append (a b : List Int) : i64s (a ++ b) = i64s a ++ i64s b := by simp [i64s]

/-- An operation: its code, what it is told, and where that lies. -/
abbrev T3 := Int × List Int × Value
def flat (ts : List T3) : List Value := ts.flatMap fun t => [.int .i64 t.1, t.2.2]
def keyT (ts : List T3) : List (Int × List Int) := ts.map fun t => (t.1, t.2.1)
theorem keyT_length (ts : List T3) : (keyT ts).length = ts.length := by simp [keyT]
theorem flat_cons (t : T3) (ts : List T3) : flat (t :: ts) = .int .i64 t.1 :: t.2.2 :: flat ts := rfl
theorem flat_length : ∀ (ts : List T3), (flat ts).length = ts.length * 2
  | [] => rfl
  | t :: r => by rw [flat_cons, List.length_cons, List.length_cons, flat_length r, List.length_cons]; omega
theorem flat_append (ts : List T3) (t : T3) : flat (ts ++ [t]) = flat ts ++ [.int .i64 t.1, t.2.2] := by simp [flat]
theorem flat_get : ∀ {ts : List T3} {j : Nat} {t : T3}, ts[j]? = some t → (flat ts)[j * 2]? = some (.int .i64 t.1) ∧ (flat ts)[j * 2 + 1]? = some t.2.2
  | [], _, _, h => by cases h
  | t :: r, 0, _, h => by cases h; exact ⟨rfl, rfl⟩
  | t :: r, j + 1, u, h => by
    have h' := flat_get (ts := r) (j := j) (t := u) (by simpa using h)
    rw [flat_cons, show (j + 1) * 2 = j * 2 + 2 from by omega]
    exact h'
theorem flat_elem {ts : List T3} {j : Nat} {t : T3} (h : ts[j]? = some t) : ∀ i u, [Value.int .i64 t.1, t.2.2][i]? = some u → (flat ts)[j * 2 + i]? = some u := fun i u hu => by
  obtain ⟨h1, h2⟩ := flat_get h
  match i, hu with
  | 0, hu => cases hu; exact h1
  | 1, hu => cases hu; exact h2
  | _ + 2, hu => simp at hu
theorem keyT_take {ts : List T3} {i : Nat} {t : T3} (h : ts[i]? = some t) : (keyT ts).take (i + 1) = (keyT ts).take i ++ [(t.1, t.2.1)] := by
  have hl : i < ts.length := by
    rcases Nat.lt_or_ge i ts.length with h1 | h1
    · exact h1
    · rw [List.getElem?_eq_none h1] at h; cases h
  rw [List.take_succ_eq_append_getElem (by rw [keyT_length]; exact hl)]
  congr 2
  rw [List.getElem?_eq_getElem hl] at h
  simp [keyT, Option.some.inj h]
theorem flat_take {ts : List T3} {i : Nat} {t : T3} (h : ts[i]? = some t) : flat (ts.take (i + 1)) = flat (ts.take i) ++ [.int .i64 t.1, t.2.2] := by
  have hl : i < ts.length := by
    rcases Nat.lt_or_ge i ts.length with h1 | h1
    · exact h1
    · rw [List.getElem?_eq_none h1] at h; cases h
  rw [List.take_succ_eq_append_getElem hl, flat_append]
  rw [List.getElem?_eq_getElem hl] at h
  rw [Option.some.inj h]
def ArgsM (M : Mem) (ts : List T3) : Prop := ∀ t ∈ ts, RdM M 1 t.2.2 t.2.1.length (i64s t.2.1)
theorem ArgsM.mono {M M' : Mem} {ts : List T3} (h : ArgsM M ts) (k : Le M M') : ArgsM M' ts := fun t ht => (h t ht).mono k
theorem ArgsM.flat_one {M : Mem} {ts : List T3} (h : ArgsM M ts) : ∀ x ∈ flat ts, x.oneCell' = true := fun x hx => by
  obtain ⟨t, ht, hx⟩ := List.mem_flatMap.1 hx
  simp only [List.mem_cons, List.not_mem_nil, or_false] at hx
  rcases hx with rfl | rfl
  · rfl
  · exact (h t ht).one

/-! ### Numbers -/
def build (room : Int) (ops : List (Int × List Int)) : List Int := room :: ops.flatMap fun o => o.1 :: (o.2.length : Int) :: o.2
theorem build_snoc (room : Int) (ops : List (Int × List Int)) (o : Int × List Int) : build room (ops ++ [o]) = build room ops ++ [o.1, (o.2.length : Int)] ++ o.2 := by simp [build]
theorem build_length_take (room : Int) (ops : List (Int × List Int)) (i : Nat) : (build room (ops.take i)).length ≤ (build room ops).length := by
  have h := congrArg (fun l => (build room l).length) (List.take_append_drop i ops)
  simp only [build, List.flatMap_append, List.length_cons, List.length_append] at h ⊢
  omega
theorem build_le (room : Int) (k : Nat) : ∀ (ops : List (Int × List Int)), (∀ o ∈ ops, o.2.length ≤ k) → (build room ops).length ≤ 1 + ops.length * (k + 2)
  | [], _ => by simp [build]
  | o :: r, h => by
    have h1 := build_le room k r (fun x hx => h x (by simp [hx]))
    have h2 := h o (by simp)
    simp only [build, List.flatMap_cons, List.length_cons, List.length_append, Nat.add_mul] at h1 ⊢
    omega

def pGo (acc : List (Int × List Int)) : (l : List Int) → Except Int (List (Int × List Int))
  | [] => .ok acc
  | [_] => if acc.length = 256 then .error 12 else .error 11
  | c :: n :: r => if acc.length = 256 then .error 12 else if n < 0 ∨ 4 < n then .error 10 else if (r.length : Int) < n then .error 11 else pGo (acc ++ [(c, r.take n.toNat)]) (r.drop n.toNat)
termination_by l => l.length
decreasing_by simp; omega

def parse : List Int → Except Int (Int × List (Int × List Int))
  | [] => .error 11
  | a :: r => if a < 0 ∨ 64 < a then .error 1 else (pGo [] r).map fun ops => (a, ops)

/-- What parsing tells. -/
def PR (M : Mem) (v : Value) (zs : List Int) : Prop :=
  ∃ (a : Int) (ov : Value) (ts : List T3) (e : Int), v = .tuple #[.agg #[.int .i64 a, ov], .int .i64 e] ∧ RdM M 2 ov ts.length (flat ts) ∧ ArgsM M ts ∧
    ((e = 0 ∧ parse zs = .ok (a, keyT ts)) ∨ (e ≠ 0 ∧ parse zs = .error e ∧ a = 0 ∧ ts = []))
theorem PR.err {M : Mem} {zs : List Int} {e : Int} (h : parse zs = .error e) (he : e ≠ 0) : PR M (.tuple #[.agg #[.int .i64 0, .slice none 0 0], .int .i64 e]) zs :=
  ⟨0, _, [], e, rfl, ⟨rfl, .inl ⟨rfl, none, 0, rfl, fun _ => rfl⟩⟩, fun t ht => (by cases ht), .inr ⟨he, h, rfl, rfl⟩⟩
theorem parse_cons {a : Int} {r : List Int} (h0 : 0 ≤ a) (h1 : a ≤ 64) : parse (a :: r) = (pGo [] r).map fun ops => (a, ops) := if_neg (by omega)

theorem pGo_nil (acc : List (Int × List Int)) : pGo acc [] = .ok acc := by rw [pGo]
theorem pGo_long {acc : List (Int × List Int)} {rs : List Int} (h : acc.length = 256) (h0 : 0 < rs.length) : pGo acc rs = .error 12 := by
  match rs, h0 with
  | [_], _ => rw [pGo, if_pos h]
  | _ :: _ :: _, _ => rw [pGo, if_pos h]
theorem pGo_one {acc : List (Int × List Int)} {rs : List Int} (h : acc.length ≠ 256) (h0 : rs.length = 1) : pGo acc rs = .error 11 := by
  match rs, h0 with
  | [_], _ => rw [pGo, if_neg h]
theorem pGo_form {acc : List (Int × List Int)} {rs : List Int} {n : Int} (h : acc.length ≠ 256) (h1 : rs[1]? = some n) (hn : n < 0 ∨ 4 < n) : pGo acc rs = .error 10 := by
  match rs, h1 with
  | _ :: m :: _, h1 => cases h1; rw [pGo, if_neg h, if_pos hn]
theorem pGo_short {acc : List (Int × List Int)} {rs : List Int} {n : Int} (h : acc.length ≠ 256) (h1 : rs[1]? = some n) (hn : ¬ (n < 0 ∨ 4 < n)) (hl : (rs.length : Int) < n + 2) : pGo acc rs = .error 11 := by
  match rs, h1 with
  | _ :: m :: r, h1 => cases h1; rw [pGo, if_neg h, if_neg hn, if_pos (by simp at hl; omega)]
theorem pGo_step {acc : List (Int × List Int)} {rs : List Int} {c n : Int} (h : acc.length ≠ 256) (h0 : rs[0]? = some c) (h1 : rs[1]? = some n) (hn : ¬ (n < 0 ∨ 4 < n)) (hl : n + 2 ≤ rs.length) :
    pGo acc rs = pGo (acc ++ [(c, (rs.drop 2).take n.toNat)]) (rs.drop (2 + n).toNat) := by
  match rs, h0, h1 with
  | _ :: m :: r, h0, h1 =>
    cases h0; cases h1
    rw [pGo, if_neg h, if_neg hn, if_neg (by simp at hl; omega)]
    rw [show (2 + n).toNat = n.toNat + 2 from by omega]
    rfl

theorem rd_sub {M : Mem} {n c : Nat} {a : Option Addr} {zs : List Int} (h : RdM M 1 (.slice a n c) n (i64s zs)) (i j : Int) (h0 : 0 ≤ i) (hij : i ≤ j) (hj : j ≤ n) :
    RdM M 1 (.slice (if c = i.toNat then a else a.map (·.add (i.toNat * 1))) (j.toNat - i.toNat) (c - i.toNat)) ((zs.drop i.toNat).take (j.toNat - i.toNat)).length (i64s ((zs.drop i.toNat).take (j.toNat - i.toNat))) := by
  have hl : zs.length = n := by have := h.1; rw [i64s_length] at this; omega
  refine (h.sub i j h0 hij hj).cast rfl ?_ ?_
  · rw [List.length_take, List.length_drop]; omega
  · simp [i64s]
theorem rd_from {M : Mem} {n c : Nat} {a : Option Addr} {zs : List Int} (h : RdM M 1 (.slice a n c) n (i64s zs)) (i : Int) (h0 : 0 ≤ i) (hi : i ≤ n) :
    RdM M 1 (.slice (if c = i.toNat then a else a.map (·.add (i.toNat * 1))) ((n : Int).toNat - i.toNat) (c - i.toNat)) (zs.drop i.toNat).length (i64s (zs.drop i.toNat)) := by
  have hl : zs.length = n := by have := h.1; rw [i64s_length] at this; omega
  have h1 := rd_sub h i n h0 hi (Int.le_refl _)
  rw [List.take_of_length_le (by rw [List.length_drop]; omega)] at h1
  exact h1

theorem PR.ok {M : Mem} {v : Value} {zs : List Int} {a : Int} {ops : List (Int × List Int)} (h : PR M v zs) (hp : parse zs = .ok (a, ops)) :
    ∃ ov ts, v = .tuple #[.agg #[.int .i64 a, ov], .int .i64 0] ∧ keyT ts = ops ∧ RdM M 2 ov ts.length (flat ts) ∧ ArgsM M ts := by
  obtain ⟨a', ov, ts, e, rfl, h1, h2, ⟨rfl, h3⟩ | ⟨_, h3, _⟩⟩ := h
  · rw [hp] at h3
    cases h3
    exact ⟨ov, ts, rfl, rfl, h1, h2⟩
  · rw [hp] at h3; cases h3
theorem PR.no {M : Mem} {v : Value} {zs : List Int} {e : Int} (h : PR M v zs) (hp : parse zs = .error e) :
    ∃ a c, v = .tuple #[.agg #[.int .i64 0, .slice a 0 c], .int .i64 e] ∧ RdM M 2 (.slice a 0 c) 0 [] := by
  obtain ⟨a', ov, ts, e, rfl, h1, h2, ⟨rfl, h3⟩ | ⟨_, h3, rfl, rfl⟩⟩ := h
  · rw [hp] at h3; cases h3
  · rw [hp] at h3
    cases h3
    obtain ⟨a, c, rfl, _⟩ := h1.slice
    exact ⟨a, c, rfl, h1⟩
theorem keyT_one {ts : List T3} {c : Int} {zs : List Int} (h : keyT ts = [(c, zs)]) : ∃ tv, ts = [(c, zs, tv)] := by
  match ts, h with
  | [(c', z', tv)], h => simp [keyT] at h; obtain ⟨rfl, rfl⟩ := h; exact ⟨tv, rfl⟩
theorem parse_ex1 : parse [5, 1, 1, 3] = .ok (5, [(1, [3])]) := by simp [parse, pGo, Except.map]
theorem parse_ex2 : parse [5, 1, 1] = .error 11 := by simp [parse, pGo, Except.map]
theorem parse_ex3 : parse [65] = .error 1 := by simp [parse]

theorem parse_one {rm c k : Int} (h0 : 0 ≤ rm) (h1 : rm ≤ 64) (h2 : 0 ≤ k) (h3 : k ≤ 4) : parse (rm :: c :: k :: List.replicate k.toNat 0) = .ok (rm, [(c, List.replicate k.toNat 0)]) := by
  rw [parse_cons h0 h1, pGo, if_neg (by simp), if_neg (by omega), if_neg (by simp; omega), List.take_of_length_le (by simp), List.drop_eq_nil_of_le (by simp), pGo_nil]
  rfl
theorem parse_many {rm c k : Int} (h0 : 0 ≤ rm) (h1 : rm ≤ 64) (h3 : 4 < k) : parse (rm :: c :: k :: List.replicate k.toNat 0) = .error 10 := by
  rw [parse_cons h0 h1, pGo, if_neg (by simp), if_pos (Or.inr h3)]
  rfl
/-- How many numbers an operation is told. -/
def argsOf (c : Int) : Int :=
  if c = 10 then 0 else if c = 1 ∨ c = 4 ∨ c = 5 ∨ c = 6 ∨ c = 7 ∨ c = 14 ∨ c = 15 ∨ c = 19 ∨ c = 21 then 1
  else if c = 3 ∨ c = 8 ∨ c = 9 ∨ c = 12 ∨ c = 16 ∨ c = 17 ∨ c = 18 ∨ c = 22 then 2 else if c = 2 ∨ c = 11 ∨ c = 13 ∨ c = 20 then 3 else -1
end Go.Proofs.Ytcnocefclcoiiaa
