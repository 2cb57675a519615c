/- Steps of the proof that the law of this claim answers true, part 2. No conditions. -/
import Derived.Test.YtgcgjpfjjgalmaaGreatCDrainFrontsA
/- What the heaps of the kinds hold; that they are in order, and stay so. No conditions. -/
namespace Go.Eng
open Go
def AllGe (x : El) (l : List El) : Prop := ∀ y ∈ l, ltE y x = false
theorem AllGe.perm {x : El} {l l' : List El} (h : AllGe x l) (p : l'.Perm l) : AllGe x l' := fun y hy => h y (p.mem_iff.1 hy)
theorem AllGe.app {x : El} {l l' : List El} (h : AllGe x l) (h' : AllGe x l') : AllGe x (l ++ l') := fun y hy => (List.mem_append.1 hy).elim (h y) (h' y)
theorem AllGe.left {x : El} {l l' : List El} (h : AllGe x (l ++ l')) : AllGe x l := fun y hy => h y (List.mem_append_left _ hy)
theorem AllGe.right {x : El} {l l' : List El} (h : AllGe x (l ++ l')) : AllGe x l' := fun y hy => h y (List.mem_append_right _ hy)
theorem AllGe.trans {x y : El} {l : List El} (h : AllGe y l) (h2 : ltE y x = false) : AllGe x l := fun z hz => swoE.ntrans z y x (h z hz) h2
theorem AllGe.cons {x y : El} {l : List El} (h2 : ltE y x = false) (h : AllGe x l) : AllGe x (y :: l) := fun z hz => by
  rcases List.mem_cons.1 hz with rfl | hz
  · exact h2
  · exact h z hz
theorem ltE_asym {x y : El} (h : ltE x y = true) : ltE y x = false := by rw [ltE_iff] at h; rw [ltE_not]; omega
theorem srtE_cons {x : El} {l : List El} (h : AllGe x l) : srtE (x :: l) = x :: srtE l :=
  (srtE_eq ((srtE_perm l).cons x) (List.pairwise_cons.2 ⟨fun y hy => h y ((srtE_perm l).mem_iff.1 hy), srtE_ord l⟩)).symm
theorem srtE_put (x : El) (l : List El) : srtE (x :: l) = putE (srtE l) x := by
  rw [← srtE_snoc]
  exact srtE_congr (List.perm_append_singleton x l).symm
def Lft.els : Lft → List El
  | .nil => []
  | .node x l r => x :: (l.els ++ r.els)
def Lft.ok : Lft → Prop
  | .nil => True
  | .node x l r => AllGe x (l.els ++ r.els) ∧ l.ok ∧ r.ok
theorem Lft.els_size : ∀ t : Lft, t.els.length = t.size
  | .nil => rfl
  | .node _ l r => by simp only [Lft.els, Lft.size, List.length_cons, List.length_append, l.els_size, r.els_size]; omega
theorem Lft.mk_els (x : El) (a b : Lft) : (Lft.mk x a b).els.Perm (x :: (a.els ++ b.els)) := by
  unfold Lft.mk
  split
  · exact List.perm_append_comm.cons x
  · exact .refl _
theorem Lft.mk_ok {x : El} {a b : Lft} (h : AllGe x (a.els ++ b.els)) (ha : a.ok) (hb : b.ok) : (Lft.mk x a b).ok := by
  unfold Lft.mk
  split
  · exact ⟨h.perm List.perm_append_comm, hb, ha⟩
  · exact ⟨h, ha, hb⟩
theorem Lft.meld_els (a b : Lft) : (Lft.meld a b).els.Perm (a.els ++ b.els) := by
  fun_induction Lft.meld a b with
  | case1 o => exact .refl _
  | case2 x l r => simp [Lft.els]
  | case3 x l r y l' r' h ih =>
    refine (Lft.mk_els ..).trans (List.perm_iff_count.2 fun e => ?_)
    have := ih.count_eq e
    simp only [Lft.els, List.count_append, List.count_cons] at this ⊢
    omega
  | case4 x l r y l' r' h ih =>
    refine (Lft.mk_els ..).trans (List.perm_iff_count.2 fun e => ?_)
    have := ih.count_eq e
    simp only [Lft.els, List.count_append, List.count_cons] at this ⊢
    omega
theorem Lft.meld_ok (a b : Lft) (ha : a.ok) (hb : b.ok) : (Lft.meld a b).ok := by
  fun_induction Lft.meld a b with
  | case1 o => exact hb
  | case2 x l r => exact ha
  | case3 x l r y l' r' h ih =>
    have h2 := ltE_asym h
    refine Lft.mk_ok (hb.1.left.app (AllGe.perm ?_ (Lft.meld_els ..))) hb.2.1 (ih hb.2.2 ha)
    exact hb.1.right.app (.cons h2 (ha.1.trans h2))
  | case4 x l r y l' r' h ih =>
    have h2 : ltE y x = false := by simpa using h
    refine Lft.mk_ok (ha.1.left.app (AllGe.perm ?_ (Lft.meld_els ..))) ha.2.1 (ih ha.2.2 hb)
    exact ha.1.right.app (.cons h2 (hb.1.trans h2))
theorem Lft.one_ok (x : El) : (Lft.mk x .nil .nil).ok := Lft.mk_ok (fun _ h => by cases h) trivial trivial
theorem Lft.insert_els (x : El) (t : Lft) : (Lft.insert x t).els.Perm (x :: t.els) := (Lft.meld_els ..).trans ((Lft.mk_els x .nil .nil).append_right _)
theorem Lft.insert_ok (x : El) (t : Lft) (h : t.ok) : (Lft.insert x t).ok := Lft.meld_ok _ _ (Lft.one_ok x) h
mutual
def Pr.els : Pr → List El
  | .nil => []
  | .node x ks => x :: Pr.elsL ks
def Pr.elsL : List Pr → List El
  | [] => []
  | k :: r => k.els ++ Pr.elsL r
end
mutual
def Pr.ok : Pr → Prop
  | .nil => True
  | .node x ks => AllGe x (Pr.elsL ks) ∧ Pr.okL ks
def Pr.okL : List Pr → Prop
  | [] => True
  | k :: r => k.ok ∧ Pr.okL r
end
mutual
theorem Pr.els_size : ∀ t : Pr, t.els.length = t.size
  | .nil => rfl
  | .node x ks => by simp only [Pr.els, Pr.size, List.length_cons, Pr.elsL_size ks]; omega
theorem Pr.elsL_size : ∀ l : List Pr, (Pr.elsL l).length = Pr.sizes l
  | [] => rfl
  | k :: r => by simp only [Pr.elsL, Pr.sizes, List.length_append, Pr.els_size k, Pr.elsL_size r]
end
theorem Pr.meld_els (a b : Pr) : (a.meld b).els.Perm (a.els ++ b.els) := by
  unfold Pr.meld
  split
  · simp [Pr.els]
  · simp [Pr.els]
  · split <;> refine List.perm_iff_count.2 fun e => ?_ <;> simp only [Pr.els, Pr.elsL, List.count_append, List.count_cons] <;> omega
theorem Pr.meld_ok {a b : Pr} (ha : a.ok) (hb : b.ok) : (a.meld b).ok := by
  unfold Pr.meld
  split
  · exact hb
  · exact ha
  · rename_i x ks y ls
    simp only [Pr.ok] at ha hb
    split
    · rename_i h
      have h2 := ltE_asym h
      simp only [Pr.ok, Pr.okL, Pr.elsL, Pr.els]
      exact ⟨AllGe.app (.cons h2 (ha.1.trans h2)) hb.1, ha, hb.2⟩
    · rename_i h
      have h2 : ltE y x = false := by simpa using h
      simp only [Pr.ok, Pr.okL, Pr.elsL, Pr.els]
      exact ⟨AllGe.app (.cons h2 (hb.1.trans h2)) ha.1, hb, ha.2⟩
theorem Pr.insert_els (x : El) (t : Pr) : (Pr.insert x t).els.Perm (x :: t.els) := by
  refine (Pr.meld_els ..).trans ?_
  simp [Pr.els, Pr.elsL]
theorem Pr.insert_ok (x : El) (t : Pr) (h : t.ok) : (Pr.insert x t).ok := Pr.meld_ok (by simp only [Pr.ok, Pr.okL, Pr.elsL]; exact ⟨fun _ h => (nomatch h), trivial⟩) h
theorem Pr.pair_els : ∀ l : List Pr, (Pr.pair l).els.Perm (Pr.elsL l)
  | [] => .refl _
  | [a] => by simp [Pr.pair, Pr.elsL]
  | a :: b :: r => by
    simp only [Pr.pair, Pr.elsL]
    refine (Pr.meld_els ..).trans ?_
    rw [← List.append_assoc]
    exact (Pr.meld_els a b).append (Pr.pair_els r)
theorem Pr.pair_ok : ∀ {l : List Pr}, Pr.okL l → (Pr.pair l).ok
  | [], _ => trivial
  | [a], h => h.1
  | a :: b :: r, h => Pr.meld_ok (Pr.meld_ok h.1 h.2.1) (Pr.pair_ok h.2.2)
section
variable {α : Type}
theorem RT.alls_flat : ∀ l : List (RT α), RT.alls l = l.flatMap RT.all
  | [] => rfl
  | k :: r => by simp only [RT.alls, List.flatMap_cons, RT.alls_flat r]
theorem RT.alls_perm {l r : List (RT α)} (h : l.Perm r) : (RT.alls l).Perm (RT.alls r) := by
  rw [RT.alls_flat, RT.alls_flat]
  exact h.flatMap_right _
theorem RT.all_eq (t : RT α) : RT.all t = t.root :: (t.beside ++ RT.alls t.kids) := by cases t; rfl
variable (lt : α → α → Bool)
mutual
def RT.ok : RT α → Prop
  | .node x bs ks => (∀ y ∈ bs ++ RT.alls ks, lt y x = false) ∧ RT.oks ks
def RT.oks : List (RT α) → Prop
  | [] => True
  | k :: r => RT.ok k ∧ RT.oks r
end
theorem RT.oks_iff : ∀ l : List (RT α), RT.oks lt l ↔ ∀ t ∈ l, RT.ok lt t
  | [] => by simp [RT.oks]
  | k :: r => by simp [RT.oks, RT.oks_iff r]
theorem RT.ok_eq (t : RT α) : RT.ok lt t ↔ (∀ y ∈ t.beside ++ RT.alls t.kids, lt y t.root = false) ∧ RT.oks lt t.kids := by cases t; exact Iff.rfl
variable {lt} (hlt : Go.Sort.SWO lt)
include hlt
theorem swo_asym {x y : α} (h : lt x y = true) : lt y x = false := by
  cases h2 : lt y x with
  | false => rfl
  | true => have := hlt.trans _ _ _ h h2; rw [hlt.irrefl] at this; cases this
theorem RT.ok_all {t : RT α} (h : RT.ok lt t) : ∀ y ∈ RT.all t, lt y t.root = false := fun y hy => by
  rw [RT.all_eq] at hy
  rcases List.mem_cons.1 hy with rfl | hy
  · exact hlt.irrefl _
  · exact ((RT.ok_eq lt t).1 h).1 y hy
omit hlt in
theorem RT.link_all (a b : RT α) : (RT.all (RT.link lt a b)).Perm (RT.all a ++ RT.all b) := by
  classical
  rw [RT.all_eq a, RT.all_eq b]
  unfold RT.link
  split <;> refine List.perm_iff_count.2 fun e => ?_ <;> simp only [RT.all, RT.alls, RT.all_eq a, RT.all_eq b, List.count_append, List.count_cons] <;> omega
theorem RT.link_ok {a b : RT α} (ha : RT.ok lt a) (hb : RT.ok lt b) : RT.ok lt (RT.link lt a b) := by
  have ha' := (RT.ok_eq lt a).1 ha
  have hb' := (RT.ok_eq lt b).1 hb
  unfold RT.link
  split
  · rename_i h
    have h2 := swo_asym hlt h
    refine ⟨fun y hy => ?_, ha, hb'.2⟩
    simp only [RT.alls, List.mem_append] at hy
    rcases hy with hy | hy | hy
    · exact hb'.1 y (List.mem_append_left _ hy)
    · exact hlt.ntrans _ _ _ (RT.ok_all hlt ha y hy) h2
    · exact hb'.1 y (List.mem_append_right _ hy)
  · rename_i h
    have h2 : lt b.root a.root = false := by simpa using h
    refine ⟨fun y hy => ?_, hb, ha'.2⟩
    simp only [RT.alls, List.mem_append] at hy
    rcases hy with hy | hy | hy
    · exact ha'.1 y (List.mem_append_left _ hy)
    · exact hlt.ntrans _ _ _ (RT.ok_all hlt hb y hy) h2
    · exact ha'.1 y (List.mem_append_right _ hy)
omit hlt in
theorem RT.skew_all (x : α) (a b : RT α) : (RT.all (RT.skew lt x a b)).Perm (x :: (RT.all a ++ RT.all b)) := by
  classical
  refine List.Perm.trans ?_ ((RT.link_all (lt := lt) a b).cons x)
  rw [RT.all_eq (RT.link lt a b)]
  unfold RT.skew
  split <;> refine List.perm_iff_count.2 fun e => ?_ <;> simp only [RT.all, List.cons_append, List.count_append, List.count_cons] <;> omega
theorem RT.skew_ok {x : α} {a b : RT α} (ha : RT.ok lt a) (hb : RT.ok lt b) : RT.ok lt (RT.skew lt x a b) := by
  have hl := RT.link_ok hlt ha hb
  have hl' := (RT.ok_eq lt _).1 hl
  unfold RT.skew
  split
  · rename_i h
    refine ⟨fun y hy => ?_, hl'.2⟩
    rcases List.mem_append.1 hy with hy | hy
    · rcases List.mem_cons.1 hy with rfl | hy
      · exact swo_asym hlt h
      · exact hl'.1 y (List.mem_append_left _ hy)
    · exact hl'.1 y (List.mem_append_right _ hy)
  · rename_i h
    have h2 : lt (RT.link lt a b).root x = false := by simpa using h
    refine ⟨fun y hy => hlt.ntrans _ _ _ (RT.ok_all hlt hl y ?_) h2, hl'.2⟩
    rw [RT.all_eq]
    exact hy
omit hlt in
theorem RT.leaf_ok (x : α) : RT.ok lt (RT.leaf x) := ⟨fun _ h => (nomatch h), trivial⟩
omit hlt in
theorem bput_alls : ∀ (l : List (RT α)) (t : RT α), (RT.alls (bput lt t l)).Perm (RT.all t ++ RT.alls l)
  | [], t => .refl _
  | f :: r, t => by
    unfold bput
    split
    · exact .refl _
    · refine (bput_alls r _).trans ?_
      refine ((RT.link_all (lt := lt) t f).append_right _).trans ?_
      rw [List.append_assoc]
      exact .refl _
theorem bput_oks : ∀ {l : List (RT α)} {t : RT α}, RT.ok lt t → RT.oks lt l → RT.oks lt (bput lt t l)
  | [], _, h, _ => ⟨h, trivial⟩
  | f :: r, t, h, h2 => by
    unfold bput
    split
    · exact ⟨h, h2⟩
    · exact bput_oks (RT.link_ok hlt h h2.1) h2.2
omit hlt in
theorem bmeld_alls (a b : List (RT α)) : (RT.alls (bmeld lt a b)).Perm (RT.alls a ++ RT.alls b) := by
  classical
  fun_induction bmeld lt a b with
  | case1 b => exact .refl _
  | case2 f a => simp [RT.alls]
  | case3 f a g b h ih =>
    simp only [RT.alls, List.append_assoc] at ih ⊢
    exact ih.append_left _
  | case4 f a g b h h2 ih =>
    refine List.perm_iff_count.2 fun e => ?_
    have := ih.count_eq e
    simp only [RT.alls, List.count_append] at this ⊢
    omega
  | case5 f a g b h h2 ih =>
    refine (bput_alls ..).trans (List.perm_iff_count.2 fun e => ?_)
    have h1 := ih.count_eq e
    have h2 := (RT.link_all (lt := lt) f g).count_eq e
    simp only [RT.alls, List.count_append] at h1 h2 ⊢
    omega
theorem bmeld_oks {a b : List (RT α)} (ha : RT.oks lt a) (hb : RT.oks lt b) : RT.oks lt (bmeld lt a b) := by
  fun_induction bmeld lt a b with
  | case1 b => exact hb
  | case2 f a => exact ha
  | case3 f a g b h ih => exact ⟨ha.1, ih ha.2 hb⟩
  | case4 f a g b h h2 ih => exact ⟨hb.1, ih ha hb.2⟩
  | case5 f a g b h h2 ih => exact bput_oks hlt (RT.link_ok hlt ha.1 hb.1) (ih ha.2 hb.2)
omit hlt in
theorem sinsert_alls (x : α) (l : List (RT α)) : (RT.alls (sinsert lt x l)).Perm (x :: RT.alls l) := by
  unfold sinsert
  split
  · split
    · simp only [RT.alls]
      refine ((RT.skew_all (lt := lt) _ _ _).append_right _).trans ?_
      simp [List.append_assoc]
    · exact .refl _
  · exact .refl _
theorem sinsert_oks {x : α} {l : List (RT α)} (h : RT.oks lt l) : RT.oks lt (sinsert lt x l) := by
  unfold sinsert
  split
  · split
    · exact ⟨RT.skew_ok hlt h.1 h.2.1, h.2.2⟩
    · exact ⟨RT.leaf_ok _, h⟩
  · exact ⟨RT.leaf_ok _, h⟩
omit hlt in
theorem slevel_alls : ∀ l : List (RT α), (RT.alls (slevel lt l)).Perm (RT.alls l)
  | [] => .refl _
  | t :: l => bput_alls l t
theorem slevel_oks : ∀ {l : List (RT α)}, RT.oks lt l → RT.oks lt (slevel lt l)
  | [], h => h
  | _ :: _, h => bput_oks hlt h.1 h.2
omit hlt in
theorem smeld_alls (a b : List (RT α)) : (RT.alls (smeld lt a b)).Perm (RT.alls a ++ RT.alls b) := (bmeld_alls ..).trans ((slevel_alls a).append (slevel_alls b))
theorem smeld_oks {a b : List (RT α)} (ha : RT.oks lt a) (hb : RT.oks lt b) : RT.oks lt (smeld lt a b) := bmeld_oks hlt (slevel_oks hlt ha) (slevel_oks hlt hb)
omit hlt in
theorem leastN_get (xs : List α) : ∀ i, i < xs.length → ∃ m, xs[leastN lt xs i]? = some m := fun i hi => by
  have := leastN_le lt xs i
  exact ⟨xs[leastN lt xs i]'(by omega), List.getElem?_eq_getElem _⟩
theorem leastN_least (xs : List α) : ∀ i, i < xs.length → ∀ m, xs[leastN lt xs i]? = some m → ∀ j y, j ≤ i → xs[j]? = some y → lt y m = false
  | 0, _, m, hm, j, y, hj, hy => by
    obtain rfl : j = 0 := by omega
    have hm : xs[0]? = some m := hm
    rw [hm] at hy
    cases hy
    exact hlt.irrefl _
  | i + 1, hi, m, hm, j, y, hj, hy => by
    obtain ⟨b, hb⟩ := leastN_get (lt := lt) xs i (by omega)
    have ha : xs[i + 1]? = some xs[i + 1] := List.getElem?_eq_getElem hi
    rw [leastN_step ha hb] at hm
    have ih := leastN_least xs i (by omega) b hb
    split at hm
    · rename_i h
      rw [ha] at hm
      cases hm
      by_cases e : j = i + 1
      · subst e; rw [ha] at hy; cases hy; exact hlt.irrefl _
      · exact hlt.ntrans _ _ _ (ih j y (by omega) hy) (swo_asym hlt h)
    · rename_i h
      rw [hb] at hm
      cases hm
      by_cases e : j = i + 1
      · subst e; rw [ha] at hy; cases hy; simpa using h
      · exact ih j y (by omega) hy
theorem least_tree {l : List (RT α)} (h : RT.oks lt l) {k : RT α} (hk : l[leastN lt (l.map RT.root) (l.length - 1)]? = some k) : ∀ y ∈ RT.alls l, lt y k.root = false := fun y hy => by
  rw [RT.alls_flat] at hy
  obtain ⟨t, ht, hy⟩ := List.mem_flatMap.1 hy
  have h1 := RT.ok_all hlt ((RT.oks_iff lt l).1 h t ht) y hy
  obtain ⟨j, hj, rfl⟩ := List.getElem_of_mem ht
  have hm : (l.map RT.root)[leastN lt (l.map RT.root) (l.length - 1)]? = some k.root := by rw [List.getElem?_map, hk]; rfl
  exact hlt.ntrans _ _ _ h1 (leastN_least hlt (l.map RT.root) (l.length - 1) (by rw [List.length_map]; omega) _ hm j _ (by omega) (by rw [List.getElem?_map, List.getElem?_eq_getElem hj]; rfl))
omit hlt in
theorem least_is {l : List (RT α)} (h : l ≠ []) : ∃ k, l[leastN lt (l.map RT.root) (l.length - 1)]? = some k := by
  have hp := List.length_pos_iff.2 h
  have := leastN_le lt (l.map RT.root) (l.length - 1)
  exact ⟨l[leastN lt (l.map RT.root) (l.length - 1)]'(by omega), List.getElem?_eq_getElem _⟩
omit hlt in
theorem erase_perm : ∀ {l : List (RT α)} {i : Nat} {k : RT α}, l[i]? = some k → l.Perm (k :: l.eraseIdx i)
  | _ :: _, 0, _, h => by cases h; exact .refl _
  | x :: _, i + 1, k, h => ((erase_perm (i := i) (by simpa using h)).cons x).trans (.swap k x _)
omit hlt in
theorem alls_out {l : List (RT α)} {i : Nat} {k : RT α} (hk : l[i]? = some k) : (RT.alls l).Perm (k.root :: (k.beside ++ RT.alls k.kids ++ RT.alls (l.eraseIdx i))) := by
  refine (RT.alls_perm (erase_perm hk)).trans ?_
  rw [RT.alls, RT.all_eq]
  exact .refl _
omit hlt in
theorem oks_out {l : List (RT α)} (h : RT.oks lt l) (i : Nat) : RT.oks lt (l.eraseIdx i) := (RT.oks_iff lt _).2 fun t ht => (RT.oks_iff lt l).1 h t (List.mem_of_mem_eraseIdx ht)
omit hlt in
theorem oks_rev {l : List (RT α)} (h : RT.oks lt l) : RT.oks lt l.reverse := (RT.oks_iff lt _).2 fun t ht => (RT.oks_iff lt l).1 h t (List.mem_reverse.1 ht)
omit hlt in
theorem alls_rev (l : List (RT α)) : (RT.alls l.reverse).Perm (RT.alls l) := RT.alls_perm (List.reverse_perm l)
omit hlt in
theorem oks_get {l : List (RT α)} (h : RT.oks lt l) {i : Nat} {k : RT α} (hk : l[i]? = some k) : RT.ok lt k := (RT.oks_iff lt l).1 h k (List.mem_of_getElem? hk)
omit hlt in
def bpop (lt : α → α → Bool) (l : List (RT α)) (k : RT α) : List (RT α) := bmeld lt k.kids.reverse (l.eraseIdx (leastN lt (l.map RT.root) (l.length - 1)))
def spop (lt : α → α → Bool) (l : List (RT α)) (k : RT α) : List (RT α) := k.beside.foldl (fun h x => sinsert lt x h) (bmeld lt k.kids.reverse (slevel lt (l.eraseIdx (leastN lt (l.map RT.root) (l.length - 1)))))
omit hlt in
theorem sins_alls : ∀ (bs : List α) (l : List (RT α)), (RT.alls (bs.foldl (fun h x => sinsert lt x h) l)).Perm (bs ++ RT.alls l)
  | [], l => .refl _
  | x :: r, l => ((sins_alls r _).trans ((sinsert_alls x l).append_left r)).trans List.perm_middle
theorem sins_oks : ∀ (bs : List α) {l : List (RT α)}, RT.oks lt l → RT.oks lt (bs.foldl (fun h x => sinsert lt x h) l)
  | [], _, h => h
  | x :: r, _, h => sins_oks r (sinsert_oks hlt h)
omit hlt in
theorem sins_size : ∀ (bs : List α) (l : List (RT α)), RT.sizes (bs.foldl (fun h x => sinsert lt x h) l) = bs.length + RT.sizes l
  | [], l => by simp
  | x :: r, l => by rw [List.foldl_cons, sins_size r, sinsert_size, List.length_cons]; omega
theorem bpop_oks {l : List (RT α)} {k : RT α} (h : RT.oks lt l) (hk : l[leastN lt (l.map RT.root) (l.length - 1)]? = some k) : RT.oks lt (bpop lt l k) :=
  bmeld_oks hlt (oks_rev ((RT.ok_eq lt k).1 (oks_get h hk)).2) (oks_out h _)
omit hlt in
theorem bpop_alls {l : List (RT α)} {k : RT α} (hb : k.beside = []) (hk : l[leastN lt (l.map RT.root) (l.length - 1)]? = some k) : (RT.alls l).Perm (k.root :: RT.alls (bpop lt l k)) := by
  refine (alls_out hk).trans (.cons _ ?_)
  rw [hb, List.nil_append]
  exact ((bmeld_alls ..).trans ((alls_rev _).append_right _)).symm
theorem spop_oks {l : List (RT α)} {k : RT α} (h : RT.oks lt l) (hk : l[leastN lt (l.map RT.root) (l.length - 1)]? = some k) : RT.oks lt (spop lt l k) :=
  sins_oks hlt _ (bmeld_oks hlt (oks_rev ((RT.ok_eq lt k).1 (oks_get h hk)).2) (slevel_oks hlt (oks_out h _)))
omit hlt in
theorem spop_alls {l : List (RT α)} {k : RT α} (hk : l[leastN lt (l.map RT.root) (l.length - 1)]? = some k) : (RT.alls l).Perm (k.root :: RT.alls (spop lt l k)) := by
  refine (alls_out hk).trans (.cons _ ?_)
  rw [List.append_assoc]
  exact ((sins_alls ..).trans (List.Perm.append_left _ ((bmeld_alls ..).trans ((alls_rev _).append (slevel_alls _))))).symm
end
section
variable {α : Type}
mutual
def RT.nob : RT α → Prop
  | .node _ bs ks => bs = [] ∧ RT.nobs ks
def RT.nobs : List (RT α) → Prop
  | [] => True
  | k :: r => RT.nob k ∧ RT.nobs r
end
theorem RT.nobs_iff : ∀ l : List (RT α), RT.nobs l ↔ ∀ t ∈ l, RT.nob t
  | [] => by simp [RT.nobs]
  | k :: r => by simp [RT.nobs, RT.nobs_iff r]
theorem RT.nob_eq (t : RT α) : RT.nob t ↔ t.beside = [] ∧ RT.nobs t.kids := by cases t; exact Iff.rfl
variable {lt : α → α → Bool}
theorem RT.link_nob {a b : RT α} (ha : RT.nob a) (hb : RT.nob b) : RT.nob (RT.link lt a b) := by
  have ha' := (RT.nob_eq a).1 ha
  have hb' := (RT.nob_eq b).1 hb
  unfold RT.link
  split
  · exact ⟨hb'.1, ha, hb'.2⟩
  · exact ⟨ha'.1, hb, ha'.2⟩
theorem bput_nobs : ∀ {l : List (RT α)} {t : RT α}, RT.nob t → RT.nobs l → RT.nobs (bput lt t l)
  | [], _, h, _ => ⟨h, trivial⟩
  | f :: r, t, h, h2 => by
    unfold bput
    split
    · exact ⟨h, h2⟩
    · exact bput_nobs (RT.link_nob h h2.1) h2.2
theorem bmeld_nobs {a b : List (RT α)} (ha : RT.nobs a) (hb : RT.nobs b) : RT.nobs (bmeld lt a b) := by
  fun_induction bmeld lt a b with
  | case1 b => exact hb
  | case2 f a => exact ha
  | case3 f a g b h ih => exact ⟨ha.1, ih ha.2 hb⟩
  | case4 f a g b h h2 ih => exact ⟨hb.1, ih ha hb.2⟩
  | case5 f a g b h h2 ih => exact bput_nobs (RT.link_nob ha.1 hb.1) (ih ha.2 hb.2)
theorem nobs_get {l : List (RT α)} (h : RT.nobs l) {i : Nat} {k : RT α} (hk : l[i]? = some k) : RT.nob k := (RT.nobs_iff l).1 h k (List.mem_of_getElem? hk)
theorem bpop_nobs {l : List (RT α)} {k : RT α} (h : RT.nobs l) (hk : l[leastN lt (l.map RT.root) (l.length - 1)]? = some k) : RT.nobs (bpop lt l k) :=
  bmeld_nobs ((RT.nobs_iff _).2 fun t ht => (RT.nobs_iff _).1 ((RT.nob_eq k).1 (nobs_get h hk)).2 t (List.mem_reverse.1 ht)) ((RT.nobs_iff _).2 fun t ht => (RT.nobs_iff l).1 h t (List.mem_of_mem_eraseIdx ht))
end
def Ro.els : Ro → List El
  | .nil => []
  | .node x ts => x :: RT.alls ts
def Ro.ok : Ro → Prop
  | .nil => True
  | .node x ts => AllGe x (RT.alls ts) ∧ RT.oks ltE ts
theorem Ro.els_size : ∀ t : Ro, t.els.length = t.size
  | .nil => rfl
  | .node _ ts => by simp only [Ro.els, Ro.size, List.length_cons, RT.alls_length]; omega
theorem Ro.insert_els (x : El) : ∀ t : Ro, (Ro.insert x t).els.Perm (x :: t.els)
  | .nil => .refl _
  | .node r ts => by
    simp only [Ro.insert]
    split
    · exact (sinsert_alls r ts).cons x
    · exact ((sinsert_alls x ts).cons r).trans (List.Perm.swap x r _)
theorem Ro.insert_ok (x : El) : ∀ {t : Ro}, t.ok → (Ro.insert x t).ok
  | .nil, _ => ⟨fun _ h => (nomatch h), trivial⟩
  | .node r ts, h => by
    simp only [Ro.insert]
    split
    · rename_i h2
      have h3 := ltE_asym h2
      exact ⟨AllGe.perm (.cons h3 (h.1.trans h3)) (sinsert_alls ..), sinsert_oks swoE h.2⟩
    · rename_i h2
      have h3 : ltE x r = false := by simpa using h2
      exact ⟨AllGe.perm (.cons h3 h.1) (sinsert_alls ..), sinsert_oks swoE h.2⟩
theorem Ro.meld_els (a b : Ro) : (a.meld b).els.Perm (a.els ++ b.els) := by
  unfold Ro.meld
  split
  · exact .refl _
  · simp [Ro.els]
  · rename_i r ts s us
    split <;> refine List.perm_iff_count.2 fun e => ?_
    · have h1 := (sinsert_alls (lt := ltE) r (smeld ltE ts us)).count_eq e
      have h2 := (smeld_alls (lt := ltE) ts us).count_eq e
      simp only [Ro.els, List.count_append, List.count_cons] at h1 h2 ⊢
      omega
    · have h1 := (sinsert_alls (lt := ltE) s (smeld ltE ts us)).count_eq e
      have h2 := (smeld_alls (lt := ltE) ts us).count_eq e
      simp only [Ro.els, List.count_append, List.count_cons] at h1 h2 ⊢
      omega
theorem Ro.meld_ok {a b : Ro} (ha : a.ok) (hb : b.ok) : (a.meld b).ok := by
  unfold Ro.meld
  split
  · exact hb
  · exact ha
  · rename_i r ts s us
    split
    · rename_i h
      have h2 := ltE_asym h
      exact ⟨AllGe.perm (.cons h2 (AllGe.perm ((ha.1.trans h2).app hb.1) (smeld_alls ..))) (sinsert_alls ..), sinsert_oks swoE (smeld_oks swoE ha.2 hb.2)⟩
    · rename_i h
      have h2 : ltE s r = false := by simpa using h
      exact ⟨AllGe.perm (.cons h2 (AllGe.perm (ha.1.app (hb.1.trans h2)) (smeld_alls ..))) (sinsert_alls ..), sinsert_oks swoE (smeld_oks swoE ha.2 hb.2)⟩
mutual
def Bt.els : Bt → List El
  | .nil => []
  | .node x ts => x :: Bt.elsQ ts
def Bt.elsQ : List (RT Bt) → List El
  | [] => []
  | t :: r => Bt.elsT t ++ Bt.elsQ r
def Bt.elsT : RT Bt → List El
  | .node x bs ks => Bt.els x ++ (Bt.elsL bs ++ Bt.elsQ ks)
def Bt.elsL : List Bt → List El
  | [] => []
  | h :: r => Bt.els h ++ Bt.elsL r
end
theorem Bt.elsL_append (l r : List Bt) : Bt.elsL (l ++ r) = Bt.elsL l ++ Bt.elsL r := by
  induction l with
  | nil => simp [Bt.elsL]
  | cons k l ih => simp only [List.cons_append, Bt.elsL, ih, List.append_assoc]
theorem Bt.elsL_flat : ∀ l : List Bt, Bt.elsL l = l.flatMap Bt.els
  | [] => by simp [Bt.elsL]
  | k :: r => by simp only [Bt.elsL, List.flatMap_cons, Bt.elsL_flat r]
theorem Bt.elsL_perm {l r : List Bt} (h : l.Perm r) : (Bt.elsL l).Perm (Bt.elsL r) := by
  rw [Bt.elsL_flat, Bt.elsL_flat]
  exact h.flatMap_right _
mutual
theorem Bt.elsT_all : ∀ t : RT Bt, Bt.elsL (RT.all t) = Bt.elsT t
  | .node x bs ks => by simp only [RT.all, Bt.elsL, Bt.elsL_append, Bt.elsT, Bt.elsQ_alls ks]
theorem Bt.elsQ_alls : ∀ l : List (RT Bt), Bt.elsL (RT.alls l) = Bt.elsQ l
  | [] => by simp [RT.alls, Bt.elsL, Bt.elsQ]
  | t :: r => by simp only [RT.alls, Bt.elsL_append, Bt.elsQ, Bt.elsT_all t, Bt.elsQ_alls r]
end
mutual
def Bt.ok : Bt → Prop
  | .nil => True
  | .node x ts => AllGe x (Bt.elsQ ts) ∧ RT.oks ltB ts ∧ Bt.okQ ts
def Bt.okQ : List (RT Bt) → Prop
  | [] => True
  | t :: r => Bt.okT t ∧ Bt.okQ r
def Bt.okT : RT Bt → Prop
  | .node x bs ks => (x ≠ .nil ∧ Bt.ok x) ∧ Bt.okL bs ∧ Bt.okQ ks
def Bt.okL : List Bt → Prop
  | [] => True
  | h :: r => (h ≠ .nil ∧ Bt.ok h) ∧ Bt.okL r
end
theorem Bt.okL_append (l r : List Bt) : Bt.okL (l ++ r) ↔ Bt.okL l ∧ Bt.okL r := by
  induction l with
  | nil => simp [Bt.okL]
  | cons k l ih => simp only [List.cons_append, Bt.okL, ih, and_assoc]
theorem Bt.okL_iff : ∀ l : List Bt, Bt.okL l ↔ ∀ h ∈ l, h ≠ .nil ∧ h.ok
  | [] => by simp [Bt.okL]
  | k :: r => by simp only [Bt.okL, Bt.okL_iff r, List.forall_mem_cons]
mutual
theorem Bt.okT_all : ∀ t : RT Bt, Bt.okL (RT.all t) ↔ Bt.okT t
  | .node x bs ks => by simp only [RT.all, Bt.okL, Bt.okL_append, Bt.okT, Bt.okQ_alls ks]
theorem Bt.okQ_alls : ∀ l : List (RT Bt), Bt.okL (RT.alls l) ↔ Bt.okQ l
  | [] => by simp [RT.alls, Bt.okL, Bt.okQ]
  | t :: r => by simp only [RT.alls, Bt.okL_append, Bt.okQ, Bt.okT_all t, Bt.okQ_alls r]
end
theorem Bt.okL_perm {l r : List Bt} (p : l.Perm r) (h : Bt.okL r) : Bt.okL l := (Bt.okL_iff l).2 fun x hx => (Bt.okL_iff r).1 h x (p.mem_iff.1 hx)
mutual
theorem Bt.cnt_els (z : Nat) : ∀ t : Bt, t ≠ .nil → t.ok → Bt.cnt z t = t.els.length
  | .nil, h, _ => absurd rfl h
  | .node x ts, _, h => by simp only [Bt.cnt, Bt.els, List.length_cons, Bt.cntQ_els z ts h.2.2]; omega
theorem Bt.cntQ_els (z : Nat) : ∀ l : List (RT Bt), Bt.okQ l → Bt.cntQ z l = (Bt.elsQ l).length
  | [], _ => by simp [Bt.cntQ, Bt.elsQ]
  | t :: r, h => by simp only [Bt.cntQ, Bt.elsQ, List.length_append, Bt.cntT_els z t h.1, Bt.cntQ_els z r h.2]
theorem Bt.cntT_els (z : Nat) : ∀ t : RT Bt, Bt.okT t → Bt.cntT z t = (Bt.elsT t).length
  | .node x bs ks, h => by simp only [Bt.cntT, Bt.elsT, List.length_append, Bt.cnt_els z x h.1.1 h.1.2, Bt.cntL_els z bs h.2.1, Bt.cntQ_els z ks h.2.2]; omega
theorem Bt.cntL_els (z : Nat) : ∀ l : List Bt, Bt.okL l → Bt.cntL z l = (Bt.elsL l).length
  | [], _ => by simp [Bt.cntL, Bt.elsL]
  | t :: r, h => by simp only [Bt.cntL, Bt.elsL, List.length_append, Bt.cnt_els z t h.1.1 h.1.2, Bt.cntL_els z r h.2]
end
theorem Bt.queue_els : ∀ {t : Bt}, t.ok → RT.sizes t.queue ≤ t.els.length
  | .nil, _ => by simp [Bt.queue, RT.sizes]
  | .node x ts, h => by
    have h1 := Bt.cntL_length (RT.alls ts)
    rw [RT.alls_length, Bt.cntQ_alls, Bt.cntQ_els 1 ts h.2.2] at h1
    simp only [Bt.queue, Bt.els, List.length_cons]
    omega
theorem swoB : Go.Sort.SWO ltB where
  irrefl x := swoE.irrefl _
  trans x y z h1 h2 := swoE.trans _ _ _ h1 h2
  ntrans x y z h1 h2 := swoE.ntrans _ _ _ h1 h2
theorem Bt.meld_els (a b : Bt) : (a.meld b).els.Perm (a.els ++ b.els) := by
  unfold Bt.meld
  split
  · simp [Bt.els]
  · simp [Bt.els]
  · rename_i x ts y us
    split <;> refine List.perm_iff_count.2 fun e => ?_
    · have h1 := (Bt.elsL_perm (sinsert_alls (lt := ltB) (.node x ts) us)).count_eq e
      simp only [Bt.els, Bt.elsL, Bt.elsQ_alls, List.count_append, List.count_cons] at h1 ⊢
      omega
    · have h1 := (Bt.elsL_perm (sinsert_alls (lt := ltB) (.node y us) ts)).count_eq e
      simp only [Bt.els, Bt.elsL, Bt.elsQ_alls, List.count_append, List.count_cons] at h1 ⊢
      omega
theorem Bt.meld_ok {a b : Bt} (ha : a.ok) (hb : b.ok) : (a.meld b).ok := by
  unfold Bt.meld
  split
  · exact hb
  · exact ha
  · rename_i x ts y us
    have ha' : AllGe x (Bt.elsQ ts) ∧ RT.oks ltB ts ∧ Bt.okQ ts := by simpa only [Bt.ok] using ha
    have hb' : AllGe y (Bt.elsQ us) ∧ RT.oks ltB us ∧ Bt.okQ us := by simpa only [Bt.ok] using hb
    split
    · rename_i h
      have h2 := ltE_asym h
      have hp := sinsert_alls (lt := ltB) (.node x ts) us
      refine (show AllGe y (Bt.elsQ _) ∧ RT.oks ltB _ ∧ Bt.okQ _ from ⟨?_, sinsert_oks swoB hb'.2.1, ?_⟩)
      · rw [← Bt.elsQ_alls]
        refine AllGe.perm ?_ (Bt.elsL_perm hp)
        simp only [Bt.elsL, Bt.els, Bt.elsQ_alls]
        exact AllGe.app (.cons h2 (ha'.1.trans h2)) hb'.1
      · rw [← Bt.okQ_alls]
        refine Bt.okL_perm hp ?_
        exact ⟨⟨by simp, ha⟩, (Bt.okQ_alls us).2 hb'.2.2⟩
    · rename_i h
      have h2 : ltE y x = false := by simpa using h
      have hp := sinsert_alls (lt := ltB) (.node y us) ts
      refine (show AllGe x (Bt.elsQ _) ∧ RT.oks ltB _ ∧ Bt.okQ _ from ⟨?_, sinsert_oks swoB ha'.2.1, ?_⟩)
      · rw [← Bt.elsQ_alls]
        refine AllGe.perm ?_ (Bt.elsL_perm hp)
        simp only [Bt.elsL, Bt.els, Bt.elsQ_alls]
        exact AllGe.app (.cons h2 (hb'.1.trans h2)) ha'.1
      · rw [← Bt.okQ_alls]
        refine Bt.okL_perm hp ?_
        exact ⟨⟨by simp, hb⟩, (Bt.okQ_alls ts).2 ha'.2.2⟩
theorem Bt.one_ok (x : El) : (Bt.node x []).ok := ⟨fun _ h => by simp [Bt.elsQ] at h, trivial, trivial⟩
theorem Bt.insert_els (x : El) (t : Bt) : (Bt.insert x t).els.Perm (x :: t.els) := by
  refine (Bt.meld_els ..).trans ?_
  simp [Bt.els, Bt.elsQ]
theorem Bt.insert_ok (x : El) {t : Bt} (h : t.ok) : (Bt.insert x t).ok := Bt.meld_ok (Bt.one_ok x) h
def Bt.popped (ts : List (RT Bt)) (k : RT Bt) (y : El) (us : List (RT Bt)) : Bt := .node y (smeld ltB us (spop ltB ts k))
theorem Bt.popped_els {x y : El} {ts us : List (RT Bt)} {k : RT Bt} (hk : ts[leastN ltB (ts.map RT.root) (ts.length - 1)]? = some k) (hr : k.root = .node y us) : (Bt.node x ts).els.Perm (x :: (Bt.popped ts k y us).els) := by
  have h0 := spop_alls hk
  rw [hr] at h0
  refine List.perm_iff_count.2 fun e => ?_
  have h1 := (Bt.elsL_perm h0).count_eq e
  have h2 := (Bt.elsL_perm (smeld_alls (lt := ltB) us (spop ltB ts k))).count_eq e
  simp only [Bt.popped, Bt.els, Bt.elsL, Bt.elsL_append, Bt.elsQ_alls, List.count_append, List.count_cons] at h1 h2 ⊢
  omega
theorem Bt.popped_ok {x y : El} {ts us : List (RT Bt)} {k : RT Bt} (h : (Bt.node x ts).ok) (hk : ts[leastN ltB (ts.map RT.root) (ts.length - 1)]? = some k) (hr : k.root = .node y us) : (Bt.popped ts k y us).ok := by
  have h' : AllGe x (Bt.elsQ ts) ∧ RT.oks ltB ts ∧ Bt.okQ ts := by simpa only [Bt.ok] using h
  have h0 := spop_alls hk
  have hl := least_tree swoB h'.2.1 hk
  rw [hr] at h0 hl
  have hokL := Bt.okL_perm h0.symm ((Bt.okQ_alls ts).2 h'.2.2)
  have hy : AllGe y (Bt.elsQ us) ∧ RT.oks ltB us ∧ Bt.okQ us := by simpa only [Bt.ok] using hokL.1.2
  have hp := smeld_alls (lt := ltB) us (spop ltB ts k)
  refine (show AllGe y (Bt.elsQ _) ∧ RT.oks ltB _ ∧ Bt.okQ _ from ⟨?_, smeld_oks swoB hy.2.1 (spop_oks swoB h'.2.1 hk), ?_⟩)
  · rw [← Bt.elsQ_alls]
    refine AllGe.perm ?_ (Bt.elsL_perm hp)
    rw [Bt.elsL_append, Bt.elsQ_alls]
    refine hy.1.app fun e he => ?_
    rw [Bt.elsL_flat] at he
    obtain ⟨g, hg, he⟩ := List.mem_flatMap.1 he
    have h3 : ltE g.key y = false := hl g (h0.mem_iff.2 (List.mem_cons_of_mem _ hg))
    have h4 := (Bt.okL_iff _).1 hokL.2 g hg
    cases g with
    | nil => exact absurd rfl h4.1
    | node z vs =>
      have h5 : AllGe z (Bt.elsQ vs) ∧ RT.oks ltB vs ∧ Bt.okQ vs := by simpa only [Bt.ok] using h4.2
      simp only [Bt.els] at he
      rcases List.mem_cons.1 he with rfl | he
      · exact h3
      · exact swoE.ntrans _ _ _ (h5.1 e he) h3
  · rw [← Bt.okQ_alls]
    refine Bt.okL_perm hp ?_
    exact (Bt.okL_append _ _).2 ⟨(Bt.okQ_alls us).2 hy.2.2, hokL.2⟩
end Go.Eng
/- Values of interface types against nil. No conditions. -/
namespace Go.Eng
open Go
section
variable {P : Program} {l : Env} {x y : Operand} {ty t u : TypeId} {w : World}
theorem q_eqIf {v : Value} {b : Bool} {ms : Array (String × TypeId)} (ht : P.underlying t = some (.interface ms)) (hx : opv l x = some v) (hv : (v = .nilIface ∧ b = true) ∨ ∃ d z, v = .iface d z ∧ b = false) :
    Quiet P l (.binOp .eql t x (.const .nilIface) u) ty w (.bool b) := fun ρ h _ _ _ _ => by
  refine run_v ?_
  rw [h x _ hx, h (.const .nilIface) _ rfl]
  rcases hv with ⟨rfl, rfl⟩ | ⟨d, z, rfl, rfl⟩
  · rw [eqGuard_nil_constR]
    simp only [Result.andThen_ok, Sem.run_bind, Sem.run_pure, binOp, Op.equal]
    exact (congrArg (Result.andThen · _) (run_eqIn_nil ht 9999)).trans rfl
  · rw [eqGuard_at_iface]
    simp only [Result.andThen_ok, Sem.run_bind, Sem.run_pure, binOp, Op.equal]
    exact (congrArg (Result.andThen · _) (run_eqIn_err ht 9999 d z)).trans rfl
theorem h_invokeP {r0 : Option Nat} {n : Nat} {D : List Deferred} {K : Value → World → Prop} {x : Operand} {name : String} {f : FuncId} {t : TypeId} {u r : Value} {xs : List Operand} {ats : Array TypeId} {vs : List Value} (hf : callable P f = true) (hx : opv l x = some (.iface t u)) (ha : opvs l xs = some vs)
    (hm : (method (P.types.size + Made.depth) t u name).run P w = .ok (f, r) w) (h : Does P f (r :: vs).toArray w K) : HW ⟨P, r0, n, D⟩ l (.call ⟨.invoke x name, xs.toArray, ats⟩) ty w K := h_invoke (c := ⟨P, r0, n, D⟩) hf hx ha hm h
def isIf (P : Program) (t : TypeId) : Bool := match P.underlying t with | some (.interface _) => true | _ => false
theorem isIf_spec (h : isIf P t = true) : ∃ ms, P.underlying t = some (.interface ms) := by
  unfold isIf at h
  split at h
  · rename_i ms hm; exact ⟨ms, hm⟩
  · cases h
theorem q_ifNil (ht : isIf P t = true) (hx : opv l x = some .nilIface) : Quiet P l (.binOp .eql t x (.const .nilIface) u) ty w (.bool true) := by
  obtain ⟨ms, h⟩ := isIf_spec ht
  exact q_eqIf h hx (.inl ⟨rfl, rfl⟩)
theorem q_ifSome {d : TypeId} {z : Value} (ht : isIf P t = true) (hx : opv l x = some (.iface d z)) : Quiet P l (.binOp .eql t x (.const .nilIface) u) ty w (.bool false) := by
  obtain ⟨ms, h⟩ := isIf_spec ht
  exact q_eqIf h hx (.inr ⟨_, _, rfl, rfl⟩)
end
end Go.Eng
