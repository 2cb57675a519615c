/- Rows of elements, read, and put in order one by one. No conditions. -/
import Derived.Test.YtbfjkclijjhlhaaDoorSortKit
namespace Go.Eng
open Go

/-! ## What is read -/

theorem Rd.slice {w : World} {size n : Nat} {v : Value} {cs : List Value} (h : Rd w size v n cs) : ∃ a c, v = .slice a n c ∧ n ≤ c ∧ (a = none → n = 0 ∧ c = 0) := by
  rcases h.2 with ⟨rfl, a, cap, rfl, ha⟩ | ⟨b, o, cap, rfl, hc, _⟩
  · exact ⟨a, cap, rfl, Nat.zero_le _, fun h => ⟨rfl, ha h⟩⟩
  · exact ⟨_, cap, rfl, hc, fun h => (by cases h)⟩
theorem Rd.there {w : World} {size n cap : Nat} {a : Option Addr} {cs : List Value} (h : Rd w size (.slice a n cap) n cs) (hn : 0 < n) : ∃ g o, a = some ⟨g, o, none⟩ := by
  rcases h.2 with ⟨rfl, _⟩ | ⟨b, o, cap, h, hc, _⟩
  · omega
  · cases h; exact ⟨b, o, rfl⟩
theorem Rd.cast {w : World} {size n n' : Nat} {v v' : Value} {cs cs' : List Value} (h : Rd w size v n cs) (hv : v = v') (hn : n = n') (hc : cs = cs') : Rd w size v' n' cs' := by subst hv; subst hn; subst hc; exact h

theorem Rd.sub {w : World} {size n c : Nat} {a : Option Addr} {cs : List Value} (h : Rd w size (.slice a n c) n cs) (i j : Int) (h0 : 0 ≤ i) (hij : i ≤ j) (hj : j ≤ n) :
    Rd w size (.slice (if c = i.toNat then a else a.map (·.add (i.toNat * size))) (j.toNat - i.toNat) (c - i.toNat)) (j.toNat - i.toNat) ((cs.drop (i.toNat * size)).take ((j.toNat - i.toNat) * size)) := by
  have hjn : j.toNat ≤ n := by omega
  have hle : i.toNat ≤ j.toNat := by omega
  obtain ⟨hl, hh⟩ := h
  refine ⟨?_, ?_⟩
  · rw [List.length_take, List.length_drop, hl, ← Nat.sub_mul]
    exact Nat.min_eq_left (Nat.mul_le_mul_right _ (by omega))
  · by_cases he : j.toNat - i.toNat = 0
    · refine .inl ⟨he, _, _, by rw [he], fun hn => ?_⟩
      rcases hh with ⟨rfl, a', cap, h1, h2⟩ | ⟨b, o, cap, h1, h2, _⟩
      · cases h1
        split at hn
        · omega
        · cases a with
          | none => have := h2 rfl; omega
          | some x => cases hn
      · cases h1
        split at hn <;> cases hn
    · rcases hh with ⟨rfl, _⟩ | ⟨b, o, cap, h1, h2, h3⟩
      · omega
      · cases h1
        refine .inr ⟨b, o + i.toNat * size, c - i.toNat, ?_, by omega, fun k u hk => ?_⟩
        · rw [if_neg (by omega)]
          show Value.slice (some (Addr.add ⟨b, o, none⟩ _)) _ _ = _
          rw [Addr.add_lit]
        · rw [List.getElem?_take] at hk
          split at hk
          · rw [List.getElem?_drop] at hk
            rw [Nat.add_assoc]
            exact h3 _ _ hk
          · cases hk

/-- What stays to be read, whatever is made. -/
def Rds (M : Mem) (w : World) (size : Nat) (v : Value) (n : Nat) (cs : List Value) : Prop := ∀ M' w', Step Nope M w M' w' → Rd w' size v n cs
section
variable {M M' : Mem} {w w' : World} {size n : Nat} {v : Value} {cs : List Value}
theorem RdM.rds (h : RdM M size v n cs) (w : World) : Rds M w size v n cs := fun _ _ k => (h.mono k.le).rd k.sat
theorem Buf.rds {e : TypeId} (h : Buf w M e size v n cs) : Rds M w size v n cs := fun _ _ k => (h.then k).rd
theorem Rds.step (h : Rds M w size v n cs) (k : Step Nope M w M' w') : Rds M' w' size v n cs := fun _ _ k2 => h _ _ (k.then k2)
theorem Rds.now (h : Rds M w size v n cs) (hs : Sat M w) : Rd w size v n cs := h _ _ (Step.refl _ hs)
theorem Rds.len (h : Rds M w size v n cs) (hs : Sat M w) : cs.length = n * size := (h.now hs).1
theorem Rds.slice (h : Rds M w size v n cs) (hs : Sat M w) : ∃ a c, v = .slice a n c ∧ n ≤ c ∧ (a = none → n = 0 ∧ c = 0) := (h.now hs).slice
theorem Rds.cast {n' : Nat} {v' : Value} {cs' : List Value} (h : Rds M w size v n cs) (hv : v = v') (hn : n = n') (hc : cs = cs') : Rds M w size v' n' cs' := by subst hv; subst hn; subst hc; exact h
theorem Rds.sub {c : Nat} {a : Option Addr} (h : Rds M w size (.slice a n c) n cs) (i j : Int) (h0 : 0 ≤ i) (hij : i ≤ j) (hj : j ≤ n) :
    Rds M w size (.slice (if c = i.toNat then a else a.map (·.add (i.toNat * size))) (j.toNat - i.toNat) (c - i.toNat)) (j.toNat - i.toNat) ((cs.drop (i.toNat * size)).take ((j.toNat - i.toNat) * size)) := fun _ _ k => (h _ _ k).sub i j h0 hij hj
end

theorem els_take (xs : List El) (k : Nat) : (els xs).take (k * 2) = els (xs.take k) := by
  induction xs generalizing k with
  | nil => simp [els]
  | cons x r ih =>
    cases k with
    | zero => simp [els]
    | succ k =>
      rw [show (k + 1) * 2 = k * 2 + 1 + 1 from by omega]
      show (Value.int .i64 x.1 :: .int .i64 x.2 :: els r).take (k * 2 + 1 + 1) = _
      rw [List.take_succ_cons, List.take_succ_cons, ih, List.take_succ_cons]
      rfl
theorem els_drop (xs : List El) (k : Nat) : (els xs).drop (k * 2) = els (xs.drop k) := by
  induction xs generalizing k with
  | nil => simp [els]
  | cons x r ih =>
    cases k with
    | zero => simp [els]
    | succ k =>
      rw [show (k + 1) * 2 = k * 2 + 1 + 1 from by omega]
      show (Value.int .i64 x.1 :: .int .i64 x.2 :: els r).drop (k * 2 + 1 + 1) = _
      rw [List.drop_succ_cons, List.drop_succ_cons, ih, List.drop_succ_cons]
theorem els_cons (x : El) (r : List El) : els (x :: r) = elc x ++ els r := rfl

/-- A beginning. -/
theorem Rds.front {M : Mem} {w : World} {n c : Nat} {a : Option Addr} {xs : List El} (h : Rds M w 2 (.slice a n c) n (els xs)) (j : Int) (h0 : 0 ≤ j) (hj : j ≤ n) :
    Rds M w 2 (.slice (if c = (0 : Int).toNat then a else a.map (·.add ((0 : Int).toNat * 2))) (j.toNat - (0 : Int).toNat) (c - (0 : Int).toNat)) j.toNat (els (xs.take j.toNat)) :=
  (h.sub 0 j (by omega) h0 hj).cast rfl (by simp) (by simp [els_take])
theorem Rd.front {w : World} {n c : Nat} {a : Option Addr} {xs : List El} (h : Rd w 2 (.slice a n c) n (els xs)) (j : Int) (h0 : 0 ≤ j) (hj : j ≤ n) :
    Rd w 2 (.slice (if c = (0 : Int).toNat then a else a.map (·.add ((0 : Int).toNat * 2))) (j.toNat - (0 : Int).toNat) (c - (0 : Int).toNat)) j.toNat (els (xs.take j.toNat)) :=
  (h.sub 0 j (by omega) h0 hj).cast rfl (by simp) (by simp [els_take])
/-- The rest. -/
theorem Rd.rest {w : World} {n c : Nat} {a : Option Addr} {xs : List El} (h : Rd w 2 (.slice a n c) n (els xs)) (i : Int) (h0 : 0 ≤ i) (hi : i ≤ n) :
    Rd w 2 (.slice (if c = i.toNat then a else a.map (·.add (i.toNat * 2))) ((n : Int).toNat - i.toNat) (c - i.toNat)) (n - i.toNat) (els (xs.drop i.toNat)) :=
  (h.sub i n h0 hi (Int.le_refl _)).cast rfl (by simp) (by
    rw [els_drop, List.take_of_length_le]
    have := h.1
    rw [els_length] at this ⊢
    rw [List.length_drop]
    omega)
theorem Rd.el {w : World} {n o c g : Nat} {xs : List El} (h : Rd w 2 (.slice (some ⟨g, o, none⟩) n c) n (els xs)) {j : Nat} {e : El} (hj : xs[j]? = some e) : cellsAre g (o + j * 2) 2 (elc e) w := by
  refine ⟨rfl, fun i u hi => ?_⟩
  rw [Nat.add_assoc]
  exact h.cell (rows_get elc_length hj i u hi)
theorem Rds.els_len {M : Mem} {w : World} {n : Nat} {v : Value} {xs : List El} (h : Rds M w 2 v n (els xs)) (hs : Sat M w) : xs.length = n := by
  have := h.len hs
  rw [els_length] at this
  omega

/-! ## Put in order, one by one -/

def putE (l : List El) (x : El) : List El := l.takeWhile (fun y => ltE y x) ++ x :: l.dropWhile (fun y => ltE y x)
def srtE (xs : List El) : List El := xs.foldl putE []
def OrdE (l : List El) : Prop := l.Pairwise fun x y => ltE y x = false

theorem takeWhile_at {p : El → Bool} : ∀ {xs : List El} {i : Nat}, i ≤ xs.length → (∀ j e, j < i → xs[j]? = some e → p e = true) → (∀ e, xs[i]? = some e → p e = false) → xs.takeWhile p = xs.take i ∧ xs.dropWhile p = xs.drop i
  | [], i, _, _, _ => by simp
  | x :: r, 0, _, _, h2 => by
    have h := h2 x rfl
    simp [h]
  | x :: r, i + 1, hl, h1, h2 => by
    have h := h1 0 x (by omega) rfl
    have ih := takeWhile_at (xs := r) (i := i) (by simpa using hl) (fun j e hj he => h1 (j + 1) e (by omega) he) (fun e he => h2 e he)
    simp [h, ih.1, ih.2]
theorem putE_at {xs : List El} {x : El} {i : Nat} (hl : i ≤ xs.length) (h1 : ∀ j e, j < i → xs[j]? = some e → ltE e x = true) (h2 : ∀ e, xs[i]? = some e → ltE e x = false) : putE xs x = xs.take i ++ x :: xs.drop i := by
  obtain ⟨h3, h4⟩ := takeWhile_at (p := fun y => ltE y x) hl h1 h2
  unfold putE
  rw [h3, h4]
theorem putE_perm (l : List El) (x : El) : (putE l x).Perm (x :: l) := by
  unfold putE
  refine List.perm_middle.trans ?_
  rw [List.takeWhile_append_dropWhile]
theorem putE_length (l : List El) (x : El) : (putE l x).length = l.length + 1 := by simpa using (putE_perm l x).length_eq
theorem foldl_perm : ∀ (xs acc : List El), (xs.foldl putE acc).Perm (xs ++ acc)
  | [], _ => .refl _
  | x :: r, acc => ((foldl_perm r (putE acc x)).trans ((putE_perm acc x).append_left r)).trans List.perm_middle
theorem srtE_perm (xs : List El) : (srtE xs).Perm xs := by simpa [srtE] using foldl_perm xs []
theorem srtE_length (xs : List El) : (srtE xs).length = xs.length := (srtE_perm xs).length_eq
theorem srtE_snoc (xs : List El) (x : El) : srtE (xs ++ [x]) = putE (srtE xs) x := by simp [srtE, List.foldl_append]

theorem putE_ord : ∀ {l : List El} {x : El}, OrdE l → OrdE (putE l x)
  | [], x, _ => by simp [putE, OrdE]
  | a :: r, x, h => by
    obtain ⟨h1, h2⟩ := List.pairwise_cons.1 h
    by_cases hl : ltE a x = true
    · have e : putE (a :: r) x = a :: putE r x := by simp [putE, hl]
      rw [e]
      refine List.pairwise_cons.2 ⟨fun y hy => ?_, putE_ord h2⟩
      rcases List.mem_cons.1 ((putE_perm r x).mem_iff.1 hy) with rfl | hy
      · rw [ltE_iff] at hl; rw [ltE_not]; omega
      · exact h1 y hy
    · have hl : ltE a x = false := by simpa using hl
      have e : putE (a :: r) x = x :: a :: r := by simp [putE, hl]
      rw [e]
      refine List.pairwise_cons.2 ⟨fun y hy => ?_, h⟩
      rcases List.mem_cons.1 hy with rfl | hy
      · exact hl
      · exact swoE.ntrans _ _ _ (h1 y hy) hl
theorem foldl_ord : ∀ (xs acc : List El), OrdE acc → OrdE (xs.foldl putE acc)
  | [], _, h => h
  | x :: r, acc, h => foldl_ord r (putE acc x) (putE_ord h)
theorem srtE_ord (xs : List El) : OrdE (srtE xs) := foldl_ord xs [] .nil
theorem ord_unique {l l' : List El} (hp : l.Perm l') (h : OrdE l) (h' : OrdE l') : l = l' :=
  List.Perm.eq_of_pairwise (fun _ _ _ _ h1 h2 => ltE_tot h2 h1) h h' hp
theorem srtE_eq {xs ys : List El} (hp : ys.Perm xs) (h : OrdE ys) : ys = srtE xs := ord_unique (hp.trans (srtE_perm xs).symm) h (srtE_ord xs)
theorem srtE_sorted {xs : List El} (h : OrdE xs) : srtE xs = xs := (srtE_eq (.refl xs) h).symm
theorem srtE_congr {xs ys : List El} (h : xs.Perm ys) : srtE xs = srtE ys := srtE_eq ((srtE_perm xs).trans h) (srtE_ord xs)

theorem arr_srt {d R : Array El} {n : Nat} (hn : d.size = n) (hp : Go.Sort.PermIn 0 n d R) (hs : Go.Sort.SortedIn ltE 0 n R) : R = (srtE d.toList).toArray := by
  obtain ⟨h1, _, h3⟩ := hp
  have e1 : R.extract 0 n = R := by rw [show n = R.size by omega]; exact Array.extract_size
  have e2 : d.extract 0 n = d := by rw [← hn]; exact Array.extract_size
  rw [e1, e2] at h3
  have ho : OrdE R.toList := List.pairwise_iff_getElem.2 fun i j hi hj hij => by
    have hi' : i < R.size := by simpa using hi
    have hj' : j < R.size := by simpa using hj
    have := hs i j (Nat.zero_le _) hij (by omega)
    rw [getElem!_pos R i hi', getElem!_pos R j hj'] at this
    simpa using this
  rw [← srtE_eq h3 ho]

/-- A row of the call's own: nil, or at a block's head. -/
theorem Buf.cases {w : World} {M : Mem} {E n : Nat} {v : Value} {xs : List El} (h : Buf w M E 2 v n (els xs)) : (v = .slice none 0 0 ∧ n = 0 ∧ xs = []) ∨ ∃ g cap, v = .slice (some ⟨g, 0, none⟩) n cap ∧ ElRow E w M g n cap xs.toArray := by
  have h0 := h
  obtain ⟨⟨h1, ⟨rfl, rfl⟩ | ⟨g, cap, cur, rfl, _⟩⟩, _⟩ := h
  · exact .inl ⟨rfl, rfl, List.eq_nil_of_length_eq_zero (by rw [els_length] at h1; omega)⟩
  · exact .inr ⟨g, cap, rfl, h0⟩

/-! ## One number of an element written -/

theorem set_self {cs : List Value} {o : Nat} {a : Value} (h : cs[o]? = some a) : cs.set o a = cs := by
  refine List.ext_getElem? fun j => ?_
  by_cases hj : o = j
  · subst hj
    rw [List.getElem?_set_self (List.getElem?_eq_some_iff.1 h).1, h]
  · rw [List.getElem?_set_ne hj]
theorem els_at {d : Array El} {i : Nat} (hi : i < d.size) : (els d.toList)[i * 2]? = some (.int .i64 d[i]!.1) ∧ (els d.toList)[i * 2 + 1]? = some (.int .i64 d[i]!.2) :=
  ⟨rows_get elc_length (get_bang hi) 0 _ rfl, rows_get elc_length (get_bang hi) 1 _ rfl⟩
theorem puts_fst {d : Array El} {i : Nat} (hi : i < d.size) (z : Int) : puts (els d.toList) (0 + i * 2 + 0) [.int .i64 z] = els (d.setIfInBounds i (z, d[i]!.2)).toList := by
  rw [← puts_el, elc]
  show (els d.toList).set _ _ = ((els d.toList).set _ _).set _ _
  rw [set_self (cs := (els d.toList).set _ _)]
  · rfl
  · rw [List.getElem?_set_ne (by omega), Nat.zero_add]
    exact (els_at hi).2
theorem puts_snd {d : Array El} {i : Nat} (hi : i < d.size) (z : Int) : puts (els d.toList) (0 + i * 2 + 1) [.int .i64 z] = els (d.setIfInBounds i (d[i]!.1, z)).toList := by
  rw [← puts_el, elc]
  have e := set_self (cs := els d.toList) (o := 0 + i * 2) (a := .int .i64 d[i]!.1) (by rw [Nat.zero_add]; exact (els_at hi).1)
  show _ = ((els d.toList).set (0 + i * 2) (.int .i64 d[i]!.1)).set _ _
  rw [e]
  rfl
theorem h_storeFst {c : Cx} {l : Env} {ty : TypeId} {w : World} {M : Mem} {K : Value → World → Prop} {x y : Operand} {t E g n cap : Nat} {d : Array El} {z : Int} {i : Nat} (hs : Sat M w) (hd : ElRow E w M g n cap d)
    (hx : opv l x = some (.pointer (some ⟨g, 0 + i * 2 + 0, none⟩))) (hy : opv l y = some (.int .i64 z)) (hn : sizeB c.P t = some 1) (h1 : i < n)
    (hk : ∀ w', Step (Just g) M w M w' → ElRow E w' M g n cap (d.setIfInBounds i (z, d[i]!.2)) → K undef w') : HW c l (.store t x y) ty w K :=
  h_storeB hs hd hx hy (rfl : vcells _ = [.int .i64 z]) hn (by simp; omega) rfl (puts_fst (by rw [hd.size]; exact h1) z) hk
theorem h_storeSnd {c : Cx} {l : Env} {ty : TypeId} {w : World} {M : Mem} {K : Value → World → Prop} {x y : Operand} {t E g n cap : Nat} {d : Array El} {z : Int} {i : Nat} (hs : Sat M w) (hd : ElRow E w M g n cap d)
    (hx : opv l x = some (.pointer (some ⟨g, 0 + i * 2 + 1, none⟩))) (hy : opv l y = some (.int .i64 z)) (hn : sizeB c.P t = some 1) (h1 : i < n)
    (hk : ∀ w', Step (Just g) M w M w' → ElRow E w' M g n cap (d.setIfInBounds i (d[i]!.1, z)) → K undef w') : HW c l (.store t x y) ty w K :=
  h_storeB hs hd hx hy (rfl : vcells _ = [.int .i64 z]) hn (by simp; omega) rfl (puts_snd (by rw [hd.size]; exact h1) z) hk
theorem ElRow.fst {E g n cap : Nat} {w : World} {M : Mem} {d : Array El} (h : ElRow E w M g n cap d) {i : Nat} (hi : i < n) : w.cell? ⟨g, 0 + i * 2 + 0, none⟩ = some (.int .i64 d[i]!.1) := by
  have := Buf.cell h (els_at (by rw [h.size]; exact hi)).1
  exact this
theorem ElRow.snd {E g n cap : Nat} {w : World} {M : Mem} {d : Array El} (h : ElRow E w M g n cap d) {i : Nat} (hi : i < n) : w.cell? ⟨g, 0 + i * 2 + 1, none⟩ = some (.int .i64 d[i]!.2) := by
  have := Buf.cell h (els_at (by rw [h.size]; exact hi)).2
  exact this
end Go.Eng
