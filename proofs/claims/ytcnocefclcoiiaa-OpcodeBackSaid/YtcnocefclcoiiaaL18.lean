/- Scripts as numbers: the walks of the functions. -/
import Derived.Test.YtcnocefclcoiiaaScr
import Derived.Test.YtcnocefclcoiiaaRows
namespace Go.Proofs.Ytcnocefclcoiiaa
open Go Go.Eng

theorem same18 {w : World} {M : Mem} {va vb : Value} {n m : Nat} {xs ys : List Int} (hs : Sat M w) (hn : n ≤ 1000000) (hr : RdM M 1 va n (i64s xs)) (hr2 : RdM M 1 vb m (i64s ys)) :
    Does Try.prog 29 #[va, vb] w (fun v w' => v = .bool (decide (xs = ys)) ∧ Step Nope M w M w') := by
  have hT := Step.refl Nope hs
  have hl1 : xs.length = n := by have := hr.1; rw [i64s_length] at this; omega
  have hl2 : ys.length = m := by have := hr2.1; rw [i64s_length] at this; omega
  obtain ⟨a, c, rfl, hac, _⟩ := hr.slice
  obtain ⟨b, d, rfl, hbd, _⟩ := hr2.slice
  refine fn_enter Try.func29 rfl (rs := [.tmp 4]) rfl rfl rfl rfl ?_
  refine cw_rs fun K1 hK1 => ?_
  -- region 0
  refine as_q rfl rfl (q_assign rfl) ?_
  refine as_nil (hK1 _ _ ?_)
  clear hK1 K1
  refine cw_seq fun K2 hK2 => ?_
  refine cw_rs fun K3 hK3 => ?_
  -- region 1
  refine as_q rfl rfl (q_move rfl) ?_
  refine as_q rfl rfl (q_len (by kernel_rfl) rfl _) ?_
  refine as_q rfl rfl (q_move rfl) ?_
  refine as_q rfl rfl (q_len (by kernel_rfl) rfl _) ?_
  first | refine as_q rfl rfl (q_neT rfl rfl (by omega)) ?_ | refine as_q rfl rfl (q_neF rfl rfl (by omega)) ?_ | refine as_q rfl rfl (q_ne rfl rfl) ?_
  refine as_nil (hK3 _ _ ?_)
  clear hK3 K3
  refine cw_cond rfl (fun hc0 => ?_) (fun hc0 => ?_)
  · skip
    have hne : n ≠ m := by simp at hc0; omega
    refine cw_rs fun K4 hK4 => ?_
    -- region 2
    refine as_q rfl rfl (q_assign rfl) ?_
    refine as_nil (hK4 _ _ ?_)
    clear hK4 K4
    refine cw_ret ?_
    exact ⟨_, (res_tmp rfl res_nil), by rw [decide_eq_false (fun h => hne (by rw [← hl1, ← hl2, h]))]; rfl, hT⟩
  · skip
    have hne : n = m := by simp at hc0; omega
    refine cw_skip ?_
    refine hK2 _ _ ?_
    clear hK2 K2
    refine cw_seq fun K5 hK5 => ?_
    refine cw_rs fun K6 hK6 => ?_
    -- region 3
    refine as_q rfl rfl (q_assign rfl) ?_
    refine as_nil (hK6 _ _ ?_)
    clear hK6 K6
    refine cw_block ?_
    refine cw_loop (fun mm l w' => ∃ i : Nat, mm = n - i ∧ i ≤ n ∧ (∀ j, j < i → xs[j]? = ys[j]?) ∧ l = [(0, .slice a n c), (1, .slice b m d), (5, .int .i64 i)] ∧ Step Nope M w M w') (n) [(0, .slice a n c), (1, .slice b m d), (5, .int .i64 (0 : Nat))] (.cons rfl (.cons rfl (.cons rfl (.nil _)))) ?_ ?_
    · skip
      exact ⟨0, rfl, Nat.zero_le _, fun j hj => by omega, rfl, hT⟩
    clear hT
    rintro mm l w1 ⟨i, rfl, hi, hpre, rfl, hT⟩
    refine cw_seq fun K7 hK7 => ?_
    refine cw_rs fun K8 hK8 => ?_
    -- region 4
    refine as_q rfl rfl (q_move rfl) ?_
    refine as_q rfl rfl (q_move rfl) ?_
    refine as_q rfl rfl (q_len (by kernel_rfl) rfl _) ?_
    first | refine as_q rfl rfl (q_ltT rfl rfl (by omega)) ?_ | refine as_q rfl rfl (q_ltF rfl rfl (by omega)) ?_ | refine as_q rfl rfl (q_lt rfl rfl) ?_
    refine as_nil (hK8 _ _ ?_)
    clear hK8 K8
    refine cw_cond rfl (fun hc1 => ?_) (fun hc1 => ?_)
    · skip
      have hlt : i < n := by have := of_decide_eq_true hc1; omega
      obtain ⟨g, o, rfl⟩ := hr.there (by omega)
      obtain ⟨g2, o2, rfl⟩ := hr2.there (by omega)
      obtain ⟨z1, hz1⟩ : ∃ z, xs[i]? = some z := ⟨xs[i], by simp⟩
      obtain ⟨z2, hz2⟩ : ∃ z, ys[i]? = some z := ⟨ys[i], by simp⟩
      refine cw_skip ?_
      refine hK7 _ _ ?_
      clear hK7 K7
      refine cw_seq fun K9 hK9 => ?_
      refine cw_block ?_
      refine cw_rd (by kernel_rfl) (by kernel_rfl) (by kernel_rfl) rfl rfl fun K10 hK10 => ?_
      -- region 6
      have hs1 := Step.drew hT.sat
      replace hT := hT.then hs1
      refine at_q (i := 0) (li := #[true, false, false, false, false, false, false, false, false]) rfl (by kernel_rfl) rfl (fun _ => (q_move rfl)) (by kernel_rfl) ?_
      refine at_q (i := 1) (li := #[true, true, false, false, false, false, false, false, false]) rfl (by kernel_rfl) rfl (fun _ => (q_move rfl)) (by kernel_rfl) ?_
      refine at_q (i := 2) (li := #[true, true, true, false, false, false, false, false, false]) rfl (by kernel_rfl) rfl (fun _ => (q_indexAddr (e := 2) (size := 1) (by kernel_rfl) (by kernel_rfl) rfl rfl (by omega) (by omega))) (by kernel_rfl) ?_
      refine at_l (i := 3) (li := #[true, true, true, true, false, false, false, false, false]) (cellIs _ _ _) rfl (by kernel_rfl) rfl (fun _ h => q_load1 (by kernel_rfl) rfl h) (hr.cell hT.sat (u := .int .i64 z1) (by simpa using i64s_get hz1)) (by kernel_rfl) ?_
      refine at_q (i := 4) (li := #[true, true, true, true, true, false, false, false, false]) rfl (by kernel_rfl) rfl (fun _ => (q_move rfl)) (by kernel_rfl) ?_
      refine at_q (i := 5) (li := #[true, true, true, true, true, true, false, false, false]) rfl (by kernel_rfl) rfl (fun _ => (q_move rfl)) (by kernel_rfl) ?_
      refine at_q (i := 6) (li := #[true, true, true, true, true, true, true, false, false]) rfl (by kernel_rfl) rfl (fun _ => (q_indexAddr (e := 2) (size := 1) (by kernel_rfl) (by kernel_rfl) rfl rfl (by omega) (by omega))) (by kernel_rfl) ?_
      refine at_l (i := 7) (li := #[true, true, true, true, true, true, true, true, false]) (cellIs _ _ _) rfl (by kernel_rfl) rfl (fun _ h => q_load1 (by kernel_rfl) rfl h) (hr2.cell hT.sat (u := .int .i64 z2) (by simpa using i64s_get hz2)) (by kernel_rfl) ?_
      first | refine at_q (i := 8) (li := #[true, true, true, true, true, true, true, true, true]) rfl (by kernel_rfl) rfl (fun _ => (q_neT rfl rfl (by omega))) (by kernel_rfl) ?_ | refine at_q (i := 8) (li := #[true, true, true, true, true, true, true, true, true]) rfl (by kernel_rfl) rfl (fun _ => (q_neF rfl rfl (by omega))) (by kernel_rfl) ?_ | refine at_q (i := 8) (li := #[true, true, true, true, true, true, true, true, true]) rfl (by kernel_rfl) rfl (fun _ => (q_ne rfl rfl)) (by kernel_rfl) ?_
      refine at_done (by kernel_rfl) (hK10 _ _ ?_)
      clear hK10 K10
      refine cw_cond rfl (fun hc2 => ?_) (fun hc2 => ?_)
      · skip
        replace hc2 : z1 ≠ z2 := by simpa using hc2
        refine cw_rs fun K11 hK11 => ?_
        -- region 7
        refine as_q rfl rfl (q_assign rfl) ?_
        refine as_nil (hK11 _ _ ?_)
        clear hK11 K11
        refine cw_ret ?_
        exact ⟨_, (res_tmp rfl res_nil), by rw [decide_eq_false (fun h => by subst h; rw [hz1] at hz2; cases hz2; exact hc2 rfl)]; rfl, hT⟩
      · skip
        replace hc2 : z1 = z2 := by simpa using hc2
        refine cw_skip ?_
        refine hK9 _ _ ?_
        clear hK9 K9
        refine cw_region fun K12 hK12 => ?_
        -- region 5
        refine as_q rfl rfl (q_move rfl) ?_
        refine as_q rfl rfl (q_addx rfl rfl (by omega) (by omega)) ?_
        refine as_q rfl rfl (q_assign rfl) ?_
        refine as_nil (hK12 _ _ ?_)
        clear hK12 K12
        exact ⟨_, _, by omega, (.cons rfl (.cons rfl (.cons rfl (.nil _)))), i + 1, rfl, by omega, fun j hj => by
          rcases Nat.lt_or_ge j i with h | h
          · exact hpre j h
          · obtain rfl : j = i := by omega
            rw [hz1, hz2, hc2], rfl, hT⟩
    · skip
      have hge : i = n := by have := of_decide_eq_false hc1; omega
      refine cw_exit ?_
      refine hK5 _ _ ?_
      clear hK7 K7
      clear hK5 K5
      refine cw_rs fun K13 hK13 => ?_
      -- region 8
      refine as_q rfl rfl (q_assign rfl) ?_
      refine as_nil (hK13 _ _ ?_)
      clear hK13 K13
      refine cw_ret ?_
      have hall : ∀ j, xs[j]? = ys[j]? := fun j => by
        rcases Nat.lt_or_ge j n with hj | hj
        · exact hpre j (by omega)
        · rw [List.getElem?_eq_none (by omega), List.getElem?_eq_none (by omega)]
      exact ⟨_, (res_tmp rfl res_nil), by rw [decide_eq_true (List.ext_getElem? fun j => hall j)]; rfl, hT⟩

def argTbl : List Int := [0, 1, 3, 2, 1, 1, 1, 1, 2, 2, 0, 3, 2, 3, 1, 1, 2, 2, 2, 1, 3, 1, 2]
theorem argTbl_get {c : Int} (h1 : 1 ≤ c) (h2 : c ≤ 22) : nth (i64s argTbl) (0 + c.toNat * 1) = some (.int .i64 (argsOf c)) := by
  have h : ∀ n : Nat, n < 23 → 1 ≤ n → argTbl[n]? = some (argsOf n) := by decide
  rw [nth_eq, Nat.zero_add, Nat.mul_one]
  have h3 := h c.toNat (by omega) (by omega)
  rw [show ((c.toNat : Nat) : Int) = c from by omega] at h3
  exact i64s_get h3

theorem args_lo {w : World} {M : Mem} {c : Int} (hs : Sat M w) (h : c < 1) :
    Does Try.prog 34 #[.int .i64 c] w (fun v w' => v = .tuple #[.int .i64 0, .bool false] ∧ Step Nope M w M w') := by
  have hT := Step.refl Nope hs
  refine fn_enter Try.func34 rfl (rs := [.tmp 2, .tmp 3]) rfl rfl rfl rfl ?_
  refine cw_rs fun K1 hK1 => ?_
  -- region 0
  refine as_q rfl rfl (q_assign rfl) ?_
  refine as_q rfl rfl (q_assign rfl) ?_
  refine as_nil (hK1 _ _ ?_)
  clear hK1 K1
  refine cw_rs fun K2 hK2 => ?_
  -- region 1
  refine as_q rfl rfl (q_buildA (e := 3) (n := 23) (size := 1) (zs := [(.int .i64 0), (.int .i64 0), (.int .i64 0), (.int .i64 0), (.int .i64 0), (.int .i64 0), (.int .i64 0), (.int .i64 0), (.int .i64 0), (.int .i64 0), (.int .i64 0), (.int .i64 0), (.int .i64 0), (.int .i64 0), (.int .i64 0), (.int .i64 0), (.int .i64 0), (.int .i64 0), (.int .i64 0), (.int .i64 0), (.int .i64 0), (.int .i64 0), (.int .i64 0)]) (cs := [_, _, _, _, _, _, _, _, _, _, _, _, _, _, _, _, _, _, _, _, _, _, _]) (by kernel_rfl) (by kernel_rfl) (by kernel_rfl) rfl rfl) ?_
  refine as_h rfl (h_allocO (z := (.agg #[(.int .i64 0), (.int .i64 0), (.int .i64 0), (.int .i64 0), (.int .i64 0), (.int .i64 0), (.int .i64 0), (.int .i64 0), (.int .i64 0), (.int .i64 0), (.int .i64 0), (.int .i64 0), (.int .i64 0), (.int .i64 0), (.int .i64 0), (.int .i64 0), (.int .i64 0), (.int .i64 0), (.int .i64 0), (.int .i64 0), (.int .i64 0), (.int .i64 0), (.int .i64 0)])) hs (by kernel_rfl) rfl fun b1 w1 hs1 ho1 e1 => ?_)
  replace hT := hT.then hs1
  refine as_h0 (h_store hs1.sat ho1 rfl rfl rfl (by kernel_rfl) rfl rfl rfl fun w2 hs2 hn2 => ?_)
  clear ho1; have ho1 := hn2; clear hn2
  replace hT := hT.own hs2 (by omega)
  refine as_nil (hK2 _ _ ?_)
  clear hK2 K2
  refine cw_seq fun K3 hK3 => ?_
  refine cw_rs fun K4 hK4 => ?_
  -- region 2
  refine as_q rfl rfl (q_move rfl) ?_
  first | refine as_q rfl rfl (q_ltT rfl rfl (by omega)) ?_ | refine as_q rfl rfl (q_ltF rfl rfl (by omega)) ?_ | refine as_q rfl rfl (q_lt rfl rfl) ?_
  refine as_q rfl rfl (q_move rfl) ?_
  first | refine as_gskip rfl rfl rfl rfl rfl ?_ | refine as_gskipU rfl rfl rfl rfl ?_
  first | refine as_gskip rfl rfl rfl rfl rfl ?_ | refine as_gskipU rfl rfl rfl rfl ?_
  first | refine as_q rfl rfl (q_pick_t rfl rfl) ?_ | refine as_q rfl rfl (q_pick_f rfl rfl) ?_ | refine as_q rfl rfl (q_pick rfl rfl rfl) ?_
  refine as_nil (hK4 _ _ ?_)
  clear hK4 K4
  refine cw_true rfl ?_
  refine cw_rs fun K5 hK5 => ?_
  -- region 3
  refine as_q rfl rfl (q_assign rfl) ?_
  refine as_q rfl rfl (q_assign rfl) ?_
  refine as_nil (hK5 _ _ ?_)
  clear hK5 K5
  refine cw_ret ?_
  exact ⟨_, (res_tmp rfl (res_tmp rfl res_nil)), rfl, hT⟩

theorem args_hi {w : World} {M : Mem} {c : Int} (hs : Sat M w) (h : 22 < c) :
    Does Try.prog 34 #[.int .i64 c] w (fun v w' => v = .tuple #[.int .i64 0, .bool false] ∧ Step Nope M w M w') := by
  have hT := Step.refl Nope hs
  refine fn_enter Try.func34 rfl (rs := [.tmp 2, .tmp 3]) rfl rfl rfl rfl ?_
  refine cw_rs fun K1 hK1 => ?_
  -- region 0
  refine as_q rfl rfl (q_assign rfl) ?_
  refine as_q rfl rfl (q_assign rfl) ?_
  refine as_nil (hK1 _ _ ?_)
  clear hK1 K1
  refine cw_rs fun K2 hK2 => ?_
  -- region 1
  refine as_q rfl rfl (q_buildA (e := 3) (n := 23) (size := 1) (zs := [(.int .i64 0), (.int .i64 0), (.int .i64 0), (.int .i64 0), (.int .i64 0), (.int .i64 0), (.int .i64 0), (.int .i64 0), (.int .i64 0), (.int .i64 0), (.int .i64 0), (.int .i64 0), (.int .i64 0), (.int .i64 0), (.int .i64 0), (.int .i64 0), (.int .i64 0), (.int .i64 0), (.int .i64 0), (.int .i64 0), (.int .i64 0), (.int .i64 0), (.int .i64 0)]) (cs := [_, _, _, _, _, _, _, _, _, _, _, _, _, _, _, _, _, _, _, _, _, _, _]) (by kernel_rfl) (by kernel_rfl) (by kernel_rfl) rfl rfl) ?_
  refine as_h rfl (h_allocO (z := (.agg #[(.int .i64 0), (.int .i64 0), (.int .i64 0), (.int .i64 0), (.int .i64 0), (.int .i64 0), (.int .i64 0), (.int .i64 0), (.int .i64 0), (.int .i64 0), (.int .i64 0), (.int .i64 0), (.int .i64 0), (.int .i64 0), (.int .i64 0), (.int .i64 0), (.int .i64 0), (.int .i64 0), (.int .i64 0), (.int .i64 0), (.int .i64 0), (.int .i64 0), (.int .i64 0)])) hs (by kernel_rfl) rfl fun b1 w1 hs1 ho1 e1 => ?_)
  replace hT := hT.then hs1
  refine as_h0 (h_store hs1.sat ho1 rfl rfl rfl (by kernel_rfl) rfl rfl rfl fun w2 hs2 hn2 => ?_)
  clear ho1; have ho1 := hn2; clear hn2
  replace hT := hT.own hs2 (by omega)
  refine as_nil (hK2 _ _ ?_)
  clear hK2 K2
  refine cw_seq fun K3 hK3 => ?_
  refine cw_rs fun K4 hK4 => ?_
  -- region 2
  refine as_q rfl rfl (q_move rfl) ?_
  first | refine as_q rfl rfl (q_ltT rfl rfl (by omega)) ?_ | refine as_q rfl rfl (q_ltF rfl rfl (by omega)) ?_ | refine as_q rfl rfl (q_lt rfl rfl) ?_
  refine as_q rfl rfl (q_move rfl) ?_
  refine as_gh rfl rfl rfl rfl (h_q rfl (q_move rfl) ?_)
  first | refine as_gh rfl rfl rfl rfl (h_q rfl (q_gtT rfl rfl (by omega)) ?_) | refine as_gh rfl rfl rfl rfl (h_q rfl (q_gtF rfl rfl (by omega)) ?_) | refine as_gh rfl rfl rfl rfl (h_q rfl (q_gt rfl rfl) ?_)
  first | refine as_q rfl rfl (q_pick_t rfl rfl) ?_ | refine as_q rfl rfl (q_pick_f rfl rfl) ?_ | refine as_q rfl rfl (q_pick rfl rfl rfl) ?_
  refine as_nil (hK4 _ _ ?_)
  clear hK4 K4
  refine cw_true rfl ?_
  refine cw_rs fun K5 hK5 => ?_
  -- region 3
  refine as_q rfl rfl (q_assign rfl) ?_
  refine as_q rfl rfl (q_assign rfl) ?_
  refine as_nil (hK5 _ _ ?_)
  clear hK5 K5
  refine cw_ret ?_
  exact ⟨_, (res_tmp rfl (res_tmp rfl res_nil)), rfl, hT⟩

theorem args_in {w : World} {M : Mem} {c : Int} (hs : Sat M w) (h1 : 1 ≤ c) (h2 : c ≤ 22) :
    Does Try.prog 34 #[.int .i64 c] w (fun v w' => v = .tuple #[.int .i64 (argsOf c), .bool true] ∧ Step Nope M w M w') := by
  have hT := Step.refl Nope hs
  refine fn_enter Try.func34 rfl (rs := [.tmp 2, .tmp 3]) rfl rfl rfl rfl ?_
  refine cw_rs fun K1 hK1 => ?_
  -- region 0
  refine as_q rfl rfl (q_assign rfl) ?_
  refine as_q rfl rfl (q_assign rfl) ?_
  refine as_nil (hK1 _ _ ?_)
  clear hK1 K1
  refine cw_rs fun K2 hK2 => ?_
  -- region 1
  refine as_q rfl rfl (q_buildA (e := 3) (n := 23) (size := 1) (zs := [(.int .i64 0), (.int .i64 0), (.int .i64 0), (.int .i64 0), (.int .i64 0), (.int .i64 0), (.int .i64 0), (.int .i64 0), (.int .i64 0), (.int .i64 0), (.int .i64 0), (.int .i64 0), (.int .i64 0), (.int .i64 0), (.int .i64 0), (.int .i64 0), (.int .i64 0), (.int .i64 0), (.int .i64 0), (.int .i64 0), (.int .i64 0), (.int .i64 0), (.int .i64 0)]) (cs := [_, _, _, _, _, _, _, _, _, _, _, _, _, _, _, _, _, _, _, _, _, _, _]) (by kernel_rfl) (by kernel_rfl) (by kernel_rfl) rfl rfl) ?_
  refine as_h rfl (h_allocO (z := (.agg #[(.int .i64 0), (.int .i64 0), (.int .i64 0), (.int .i64 0), (.int .i64 0), (.int .i64 0), (.int .i64 0), (.int .i64 0), (.int .i64 0), (.int .i64 0), (.int .i64 0), (.int .i64 0), (.int .i64 0), (.int .i64 0), (.int .i64 0), (.int .i64 0), (.int .i64 0), (.int .i64 0), (.int .i64 0), (.int .i64 0), (.int .i64 0), (.int .i64 0), (.int .i64 0)])) hs (by kernel_rfl) rfl fun b1 w1 hs1 ho1 e1 => ?_)
  replace hT := hT.then hs1
  refine as_h0 (h_store hs1.sat ho1 rfl rfl rfl (by kernel_rfl) rfl rfl rfl fun w2 hs2 hn2 => ?_)
  clear ho1; have ho1 := hn2; clear hn2
  replace hT := hT.own hs2 (by omega)
  refine as_nil (hK2 _ _ ?_)
  clear hK2 K2
  refine cw_seq fun K3 hK3 => ?_
  refine cw_rs fun K4 hK4 => ?_
  -- region 2
  refine as_q rfl rfl (q_move rfl) ?_
  first | refine as_q rfl rfl (q_ltT rfl rfl (by omega)) ?_ | refine as_q rfl rfl (q_ltF rfl rfl (by omega)) ?_ | refine as_q rfl rfl (q_lt rfl rfl) ?_
  refine as_q rfl rfl (q_move rfl) ?_
  refine as_gh rfl rfl rfl rfl (h_q rfl (q_move rfl) ?_)
  first | refine as_gh rfl rfl rfl rfl (h_q rfl (q_gtT rfl rfl (by omega)) ?_) | refine as_gh rfl rfl rfl rfl (h_q rfl (q_gtF rfl rfl (by omega)) ?_) | refine as_gh rfl rfl rfl rfl (h_q rfl (q_gt rfl rfl) ?_)
  first | refine as_q rfl rfl (q_pick_t rfl rfl) ?_ | refine as_q rfl rfl (q_pick_f rfl rfl) ?_ | refine as_q rfl rfl (q_pick rfl rfl rfl) ?_
  refine as_nil (hK4 _ _ ?_)
  clear hK4 K4
  refine cw_false rfl ?_
  refine cw_skip ?_
  refine hK3 _ _ ?_
  clear hK3 K3
  refine cw_rs fun K5 hK5 => ?_
  have hot : Own w2 M b1 (i64s argTbl) 91 := ho1
  -- region 4
  refine as_q rfl rfl (q_move rfl) ?_
  refine as_q rfl rfl (q_indexAP (e := 3) (n := 23) (size := 1) (by kernel_rfl) (by kernel_rfl) rfl rfl (by omega) (by omega)) ?_
  refine as_q rfl rfl (q_load1 (by kernel_rfl) rfl (hot.1.cell (argTbl_get h1 h2))) ?_
  refine as_q rfl rfl (q_assign rfl) ?_
  refine as_q rfl rfl (q_assign rfl) ?_
  refine as_nil (hK5 _ _ ?_)
  clear hK5 K5
  refine cw_ret ?_
  exact ⟨_, (res_tmp rfl (res_tmp rfl res_nil)), rfl, hT⟩

theorem rargs_1 {w : World} {M : Mem} (hs : Sat M w) :
    Does Try.prog 35 #[.int .i64 1] w (fun v w' => v = .int .i64 (1) ∧ Step Nope M w M w') := by
  have hT := Step.refl Nope hs
  refine fn_enter Try.func35 rfl (rs := [.tmp 2]) rfl rfl rfl rfl ?_
  refine cw_rs fun K1 hK1 => ?_
  -- region 0
  refine as_q rfl rfl (q_assign rfl) ?_
  refine as_nil (hK1 _ _ ?_)
  clear hK1 K1
  refine cw_seq fun K2 hK2 => ?_
  refine cw_rs fun K3 hK3 => ?_
  -- region 1
  refine as_q rfl rfl (q_move rfl) ?_
  refine as_nil (hK3 _ _ ?_)
  clear hK3 K3
  refine cw_block ?_
  refine cw_rs fun K4 hK4 => ?_
  -- region 2
  first | refine as_q rfl rfl (q_eqT rfl rfl (by omega)) ?_ | refine as_q rfl rfl (q_eqF rfl rfl (by omega)) ?_ | refine as_q rfl rfl (q_eq rfl rfl) ?_
  refine as_q rfl rfl (q_assign rfl) ?_
  refine as_nil (hK4 _ _ ?_)
  clear hK4 K4
  refine cw_false rfl ?_
  refine cw_seq fun K5 hK5 => ?_
  refine cw_rs fun K6 hK6 => ?_
  -- region 4
  first | refine as_q rfl rfl (q_eqT rfl rfl (by omega)) ?_ | refine as_q rfl rfl (q_eqF rfl rfl (by omega)) ?_ | refine as_q rfl rfl (q_eq rfl rfl) ?_
  refine as_q rfl rfl (q_assign rfl) ?_
  refine as_nil (hK6 _ _ ?_)
  clear hK6 K6
  refine cw_true rfl ?_
  refine cw_skip ?_
  refine hK5 _ _ ?_
  clear hK5 K5
  refine cw_true rfl ?_
  refine cw_rs fun K7 hK7 => ?_
  -- region 13
  refine as_q rfl rfl (q_assign rfl) ?_
  refine as_nil (hK7 _ _ ?_)
  clear hK7 K7
  refine cw_ret ?_
  exact ⟨_, (res_tmp rfl res_nil), rfl, hT⟩

theorem rargs_2 {w : World} {M : Mem} (hs : Sat M w) :
    Does Try.prog 35 #[.int .i64 2] w (fun v w' => v = .int .i64 (3) ∧ Step Nope M w M w') := by
  have hT := Step.refl Nope hs
  refine fn_enter Try.func35 rfl (rs := [.tmp 2]) rfl rfl rfl rfl ?_
  refine cw_rs fun K1 hK1 => ?_
  -- region 0
  refine as_q rfl rfl (q_assign rfl) ?_
  refine as_nil (hK1 _ _ ?_)
  clear hK1 K1
  refine cw_seq fun K2 hK2 => ?_
  refine cw_rs fun K3 hK3 => ?_
  -- region 1
  refine as_q rfl rfl (q_move rfl) ?_
  refine as_nil (hK3 _ _ ?_)
  clear hK3 K3
  refine cw_block ?_
  refine cw_rs fun K4 hK4 => ?_
  -- region 2
  first | refine as_q rfl rfl (q_eqT rfl rfl (by omega)) ?_ | refine as_q rfl rfl (q_eqF rfl rfl (by omega)) ?_ | refine as_q rfl rfl (q_eq rfl rfl) ?_
  refine as_q rfl rfl (q_assign rfl) ?_
  refine as_nil (hK4 _ _ ?_)
  clear hK4 K4
  refine cw_false rfl ?_
  refine cw_seq fun K5 hK5 => ?_
  refine cw_rs fun K6 hK6 => ?_
  -- region 4
  first | refine as_q rfl rfl (q_eqT rfl rfl (by omega)) ?_ | refine as_q rfl rfl (q_eqF rfl rfl (by omega)) ?_ | refine as_q rfl rfl (q_eq rfl rfl) ?_
  refine as_q rfl rfl (q_assign rfl) ?_
  refine as_nil (hK6 _ _ ?_)
  clear hK6 K6
  refine cw_false rfl ?_
  refine cw_rs fun K7 hK7 => ?_
  -- region 5
  first | refine as_q rfl rfl (q_eqT rfl rfl (by omega)) ?_ | refine as_q rfl rfl (q_eqF rfl rfl (by omega)) ?_ | refine as_q rfl rfl (q_eq rfl rfl) ?_
  refine as_q rfl rfl (q_assign rfl) ?_
  refine as_nil (hK7 _ _ ?_)
  clear hK7 K7
  refine cw_false rfl ?_
  refine cw_rs fun K8 hK8 => ?_
  -- region 6
  first | refine as_q rfl rfl (q_eqT rfl rfl (by omega)) ?_ | refine as_q rfl rfl (q_eqF rfl rfl (by omega)) ?_ | refine as_q rfl rfl (q_eq rfl rfl) ?_
  refine as_q rfl rfl (q_assign rfl) ?_
  refine as_nil (hK8 _ _ ?_)
  clear hK8 K8
  refine cw_false rfl ?_
  refine cw_rs fun K9 hK9 => ?_
  -- region 7
  first | refine as_q rfl rfl (q_eqT rfl rfl (by omega)) ?_ | refine as_q rfl rfl (q_eqF rfl rfl (by omega)) ?_ | refine as_q rfl rfl (q_eq rfl rfl) ?_
  refine as_q rfl rfl (q_assign rfl) ?_
  refine as_nil (hK9 _ _ ?_)
  clear hK9 K9
  refine cw_false rfl ?_
  refine cw_rs fun K10 hK10 => ?_
  -- region 8
  first | refine as_q rfl rfl (q_eqT rfl rfl (by omega)) ?_ | refine as_q rfl rfl (q_eqF rfl rfl (by omega)) ?_ | refine as_q rfl rfl (q_eq rfl rfl) ?_
  refine as_q rfl rfl (q_assign rfl) ?_
  refine as_nil (hK10 _ _ ?_)
  clear hK10 K10
  refine cw_false rfl ?_
  refine cw_rs fun K11 hK11 => ?_
  -- region 9
  first | refine as_q rfl rfl (q_eqT rfl rfl (by omega)) ?_ | refine as_q rfl rfl (q_eqF rfl rfl (by omega)) ?_ | refine as_q rfl rfl (q_eq rfl rfl) ?_
  refine as_q rfl rfl (q_assign rfl) ?_
  refine as_nil (hK11 _ _ ?_)
  clear hK11 K11
  refine cw_false rfl ?_
  refine cw_rs fun K12 hK12 => ?_
  -- region 10
  first | refine as_q rfl rfl (q_eqT rfl rfl (by omega)) ?_ | refine as_q rfl rfl (q_eqF rfl rfl (by omega)) ?_ | refine as_q rfl rfl (q_eq rfl rfl) ?_
  refine as_q rfl rfl (q_assign rfl) ?_
  refine as_nil (hK12 _ _ ?_)
  clear hK12 K12
  refine cw_false rfl ?_
  refine cw_rs fun K13 hK13 => ?_
  -- region 11
  first | refine as_q rfl rfl (q_eqT rfl rfl (by omega)) ?_ | refine as_q rfl rfl (q_eqF rfl rfl (by omega)) ?_ | refine as_q rfl rfl (q_eq rfl rfl) ?_
  refine as_q rfl rfl (q_assign rfl) ?_
  refine as_nil (hK13 _ _ ?_)
  clear hK13 K13
  refine cw_false rfl ?_
  refine cw_region fun K14 hK14 => ?_
  -- region 12
  first | refine as_q rfl rfl (q_eqT rfl rfl (by omega)) ?_ | refine as_q rfl rfl (q_eqF rfl rfl (by omega)) ?_ | refine as_q rfl rfl (q_eq rfl rfl) ?_
  refine as_q rfl rfl (q_assign rfl) ?_
  refine as_nil (hK14 _ _ ?_)
  clear hK14 K14
  refine hK5 _ _ ?_
  clear hK5 K5
  refine cw_false rfl ?_
  refine cw_seq fun K15 hK15 => ?_
  refine cw_rs fun K16 hK16 => ?_
  -- region 14
  first | refine as_q rfl rfl (q_eqT rfl rfl (by omega)) ?_ | refine as_q rfl rfl (q_eqF rfl rfl (by omega)) ?_ | refine as_q rfl rfl (q_eq rfl rfl) ?_
  refine as_q rfl rfl (q_assign rfl) ?_
  refine as_nil (hK16 _ _ ?_)
  clear hK16 K16
  refine cw_false rfl ?_
  refine cw_rs fun K17 hK17 => ?_
  -- region 15
  first | refine as_q rfl rfl (q_eqT rfl rfl (by omega)) ?_ | refine as_q rfl rfl (q_eqF rfl rfl (by omega)) ?_ | refine as_q rfl rfl (q_eq rfl rfl) ?_
  refine as_q rfl rfl (q_assign rfl) ?_
  refine as_nil (hK17 _ _ ?_)
  clear hK17 K17
  refine cw_false rfl ?_
  refine cw_rs fun K18 hK18 => ?_
  -- region 16
  first | refine as_q rfl rfl (q_eqT rfl rfl (by omega)) ?_ | refine as_q rfl rfl (q_eqF rfl rfl (by omega)) ?_ | refine as_q rfl rfl (q_eq rfl rfl) ?_
  refine as_q rfl rfl (q_assign rfl) ?_
  refine as_nil (hK18 _ _ ?_)
  clear hK18 K18
  refine cw_false rfl ?_
  refine cw_rs fun K19 hK19 => ?_
  -- region 17
  first | refine as_q rfl rfl (q_eqT rfl rfl (by omega)) ?_ | refine as_q rfl rfl (q_eqF rfl rfl (by omega)) ?_ | refine as_q rfl rfl (q_eq rfl rfl) ?_
  refine as_q rfl rfl (q_assign rfl) ?_
  refine as_nil (hK19 _ _ ?_)
  clear hK19 K19
  refine cw_false rfl ?_
  refine cw_rs fun K20 hK20 => ?_
  -- region 18
  first | refine as_q rfl rfl (q_eqT rfl rfl (by omega)) ?_ | refine as_q rfl rfl (q_eqF rfl rfl (by omega)) ?_ | refine as_q rfl rfl (q_eq rfl rfl) ?_
  refine as_q rfl rfl (q_assign rfl) ?_
  refine as_nil (hK20 _ _ ?_)
  clear hK20 K20
  refine cw_false rfl ?_
  refine cw_rs fun K21 hK21 => ?_
  -- region 19
  first | refine as_q rfl rfl (q_eqT rfl rfl (by omega)) ?_ | refine as_q rfl rfl (q_eqF rfl rfl (by omega)) ?_ | refine as_q rfl rfl (q_eq rfl rfl) ?_
  refine as_q rfl rfl (q_assign rfl) ?_
  refine as_nil (hK21 _ _ ?_)
  clear hK21 K21
  refine cw_false rfl ?_
  refine cw_rs fun K22 hK22 => ?_
  -- region 20
  first | refine as_q rfl rfl (q_eqT rfl rfl (by omega)) ?_ | refine as_q rfl rfl (q_eqF rfl rfl (by omega)) ?_ | refine as_q rfl rfl (q_eq rfl rfl) ?_
  refine as_q rfl rfl (q_assign rfl) ?_
  refine as_nil (hK22 _ _ ?_)
  clear hK22 K22
  refine cw_false rfl ?_
  refine cw_region fun K23 hK23 => ?_
  -- region 21
  first | refine as_q rfl rfl (q_eqT rfl rfl (by omega)) ?_ | refine as_q rfl rfl (q_eqF rfl rfl (by omega)) ?_ | refine as_q rfl rfl (q_eq rfl rfl) ?_
  refine as_q rfl rfl (q_assign rfl) ?_
  refine as_nil (hK23 _ _ ?_)
  clear hK23 K23
  refine hK15 _ _ ?_
  clear hK15 K15
  refine cw_false rfl ?_
  refine cw_seq fun K24 hK24 => ?_
  refine cw_rs fun K25 hK25 => ?_
  -- region 23
  first | refine as_q rfl rfl (q_eqT rfl rfl (by omega)) ?_ | refine as_q rfl rfl (q_eqF rfl rfl (by omega)) ?_ | refine as_q rfl rfl (q_eq rfl rfl) ?_
  refine as_q rfl rfl (q_assign rfl) ?_
  refine as_nil (hK25 _ _ ?_)
  clear hK25 K25
  refine cw_true rfl ?_
  refine cw_skip ?_
  refine hK24 _ _ ?_
  clear hK24 K24
  refine cw_true rfl ?_
  refine cw_rs fun K26 hK26 => ?_
  -- region 27
  refine as_q rfl rfl (q_assign rfl) ?_
  refine as_nil (hK26 _ _ ?_)
  clear hK26 K26
  refine cw_ret ?_
  exact ⟨_, (res_tmp rfl res_nil), rfl, hT⟩

theorem rargs_3 {w : World} {M : Mem} (hs : Sat M w) :
    Does Try.prog 35 #[.int .i64 3] w (fun v w' => v = .int .i64 (2) ∧ Step Nope M w M w') := by
  have hT := Step.refl Nope hs
  refine fn_enter Try.func35 rfl (rs := [.tmp 2]) rfl rfl rfl rfl ?_
  refine cw_rs fun K1 hK1 => ?_
  -- region 0
  refine as_q rfl rfl (q_assign rfl) ?_
  refine as_nil (hK1 _ _ ?_)
  clear hK1 K1
  refine cw_seq fun K2 hK2 => ?_
  refine cw_rs fun K3 hK3 => ?_
  -- region 1
  refine as_q rfl rfl (q_move rfl) ?_
  refine as_nil (hK3 _ _ ?_)
  clear hK3 K3
  refine cw_block ?_
  refine cw_rs fun K4 hK4 => ?_
  -- region 2
  first | refine as_q rfl rfl (q_eqT rfl rfl (by omega)) ?_ | refine as_q rfl rfl (q_eqF rfl rfl (by omega)) ?_ | refine as_q rfl rfl (q_eq rfl rfl) ?_
  refine as_q rfl rfl (q_assign rfl) ?_
  refine as_nil (hK4 _ _ ?_)
  clear hK4 K4
  refine cw_false rfl ?_
  refine cw_seq fun K5 hK5 => ?_
  refine cw_rs fun K6 hK6 => ?_
  -- region 4
  first | refine as_q rfl rfl (q_eqT rfl rfl (by omega)) ?_ | refine as_q rfl rfl (q_eqF rfl rfl (by omega)) ?_ | refine as_q rfl rfl (q_eq rfl rfl) ?_
  refine as_q rfl rfl (q_assign rfl) ?_
  refine as_nil (hK6 _ _ ?_)
  clear hK6 K6
  refine cw_false rfl ?_
  refine cw_rs fun K7 hK7 => ?_
  -- region 5
  first | refine as_q rfl rfl (q_eqT rfl rfl (by omega)) ?_ | refine as_q rfl rfl (q_eqF rfl rfl (by omega)) ?_ | refine as_q rfl rfl (q_eq rfl rfl) ?_
  refine as_q rfl rfl (q_assign rfl) ?_
  refine as_nil (hK7 _ _ ?_)
  clear hK7 K7
  refine cw_false rfl ?_
  refine cw_rs fun K8 hK8 => ?_
  -- region 6
  first | refine as_q rfl rfl (q_eqT rfl rfl (by omega)) ?_ | refine as_q rfl rfl (q_eqF rfl rfl (by omega)) ?_ | refine as_q rfl rfl (q_eq rfl rfl) ?_
  refine as_q rfl rfl (q_assign rfl) ?_
  refine as_nil (hK8 _ _ ?_)
  clear hK8 K8
  refine cw_false rfl ?_
  refine cw_rs fun K9 hK9 => ?_
  -- region 7
  first | refine as_q rfl rfl (q_eqT rfl rfl (by omega)) ?_ | refine as_q rfl rfl (q_eqF rfl rfl (by omega)) ?_ | refine as_q rfl rfl (q_eq rfl rfl) ?_
  refine as_q rfl rfl (q_assign rfl) ?_
  refine as_nil (hK9 _ _ ?_)
  clear hK9 K9
  refine cw_false rfl ?_
  refine cw_rs fun K10 hK10 => ?_
  -- region 8
  first | refine as_q rfl rfl (q_eqT rfl rfl (by omega)) ?_ | refine as_q rfl rfl (q_eqF rfl rfl (by omega)) ?_ | refine as_q rfl rfl (q_eq rfl rfl) ?_
  refine as_q rfl rfl (q_assign rfl) ?_
  refine as_nil (hK10 _ _ ?_)
  clear hK10 K10
  refine cw_false rfl ?_
  refine cw_rs fun K11 hK11 => ?_
  -- region 9
  first | refine as_q rfl rfl (q_eqT rfl rfl (by omega)) ?_ | refine as_q rfl rfl (q_eqF rfl rfl (by omega)) ?_ | refine as_q rfl rfl (q_eq rfl rfl) ?_
  refine as_q rfl rfl (q_assign rfl) ?_
  refine as_nil (hK11 _ _ ?_)
  clear hK11 K11
  refine cw_false rfl ?_
  refine cw_rs fun K12 hK12 => ?_
  -- region 10
  first | refine as_q rfl rfl (q_eqT rfl rfl (by omega)) ?_ | refine as_q rfl rfl (q_eqF rfl rfl (by omega)) ?_ | refine as_q rfl rfl (q_eq rfl rfl) ?_
  refine as_q rfl rfl (q_assign rfl) ?_
  refine as_nil (hK12 _ _ ?_)
  clear hK12 K12
  refine cw_false rfl ?_
  refine cw_rs fun K13 hK13 => ?_
  -- region 11
  first | refine as_q rfl rfl (q_eqT rfl rfl (by omega)) ?_ | refine as_q rfl rfl (q_eqF rfl rfl (by omega)) ?_ | refine as_q rfl rfl (q_eq rfl rfl) ?_
  refine as_q rfl rfl (q_assign rfl) ?_
  refine as_nil (hK13 _ _ ?_)
  clear hK13 K13
  refine cw_false rfl ?_
  refine cw_region fun K14 hK14 => ?_
  -- region 12
  first | refine as_q rfl rfl (q_eqT rfl rfl (by omega)) ?_ | refine as_q rfl rfl (q_eqF rfl rfl (by omega)) ?_ | refine as_q rfl rfl (q_eq rfl rfl) ?_
  refine as_q rfl rfl (q_assign rfl) ?_
  refine as_nil (hK14 _ _ ?_)
  clear hK14 K14
  refine hK5 _ _ ?_
  clear hK5 K5
  refine cw_false rfl ?_
  refine cw_seq fun K15 hK15 => ?_
  refine cw_rs fun K16 hK16 => ?_
  -- region 14
  first | refine as_q rfl rfl (q_eqT rfl rfl (by omega)) ?_ | refine as_q rfl rfl (q_eqF rfl rfl (by omega)) ?_ | refine as_q rfl rfl (q_eq rfl rfl) ?_
  refine as_q rfl rfl (q_assign rfl) ?_
  refine as_nil (hK16 _ _ ?_)
  clear hK16 K16
  refine cw_true rfl ?_
  refine cw_skip ?_
  refine hK15 _ _ ?_
  clear hK15 K15
  refine cw_true rfl ?_
  refine cw_rs fun K17 hK17 => ?_
  -- region 22
  refine as_q rfl rfl (q_assign rfl) ?_
  refine as_nil (hK17 _ _ ?_)
  clear hK17 K17
  refine cw_ret ?_
  exact ⟨_, (res_tmp rfl res_nil), rfl, hT⟩

theorem rargs_4 {w : World} {M : Mem} (hs : Sat M w) :
    Does Try.prog 35 #[.int .i64 4] w (fun v w' => v = .int .i64 (1) ∧ Step Nope M w M w') := by
  have hT := Step.refl Nope hs
  refine fn_enter Try.func35 rfl (rs := [.tmp 2]) rfl rfl rfl rfl ?_
  refine cw_rs fun K1 hK1 => ?_
  -- region 0
  refine as_q rfl rfl (q_assign rfl) ?_
  refine as_nil (hK1 _ _ ?_)
  clear hK1 K1
  refine cw_seq fun K2 hK2 => ?_
  refine cw_rs fun K3 hK3 => ?_
  -- region 1
  refine as_q rfl rfl (q_move rfl) ?_
  refine as_nil (hK3 _ _ ?_)
  clear hK3 K3
  refine cw_block ?_
  refine cw_rs fun K4 hK4 => ?_
  -- region 2
  first | refine as_q rfl rfl (q_eqT rfl rfl (by omega)) ?_ | refine as_q rfl rfl (q_eqF rfl rfl (by omega)) ?_ | refine as_q rfl rfl (q_eq rfl rfl) ?_
  refine as_q rfl rfl (q_assign rfl) ?_
  refine as_nil (hK4 _ _ ?_)
  clear hK4 K4
  refine cw_false rfl ?_
  refine cw_seq fun K5 hK5 => ?_
  refine cw_rs fun K6 hK6 => ?_
  -- region 4
  first | refine as_q rfl rfl (q_eqT rfl rfl (by omega)) ?_ | refine as_q rfl rfl (q_eqF rfl rfl (by omega)) ?_ | refine as_q rfl rfl (q_eq rfl rfl) ?_
  refine as_q rfl rfl (q_assign rfl) ?_
  refine as_nil (hK6 _ _ ?_)
  clear hK6 K6
  refine cw_false rfl ?_
  refine cw_rs fun K7 hK7 => ?_
  -- region 5
  first | refine as_q rfl rfl (q_eqT rfl rfl (by omega)) ?_ | refine as_q rfl rfl (q_eqF rfl rfl (by omega)) ?_ | refine as_q rfl rfl (q_eq rfl rfl) ?_
  refine as_q rfl rfl (q_assign rfl) ?_
  refine as_nil (hK7 _ _ ?_)
  clear hK7 K7
  refine cw_true rfl ?_
  refine cw_skip ?_
  refine hK5 _ _ ?_
  clear hK5 K5
  refine cw_true rfl ?_
  refine cw_rs fun K8 hK8 => ?_
  -- region 13
  refine as_q rfl rfl (q_assign rfl) ?_
  refine as_nil (hK8 _ _ ?_)
  clear hK8 K8
  refine cw_ret ?_
  exact ⟨_, (res_tmp rfl res_nil), rfl, hT⟩

theorem rargs_5 {w : World} {M : Mem} (hs : Sat M w) :
    Does Try.prog 35 #[.int .i64 5] w (fun v w' => v = .int .i64 (1) ∧ Step Nope M w M w') := by
  have hT := Step.refl Nope hs
  refine fn_enter Try.func35 rfl (rs := [.tmp 2]) rfl rfl rfl rfl ?_
  refine cw_rs fun K1 hK1 => ?_
  -- region 0
  refine as_q rfl rfl (q_assign rfl) ?_
  refine as_nil (hK1 _ _ ?_)
  clear hK1 K1
  refine cw_seq fun K2 hK2 => ?_
  refine cw_rs fun K3 hK3 => ?_
  -- region 1
  refine as_q rfl rfl (q_move rfl) ?_
  refine as_nil (hK3 _ _ ?_)
  clear hK3 K3
  refine cw_block ?_
  refine cw_rs fun K4 hK4 => ?_
  -- region 2
  first | refine as_q rfl rfl (q_eqT rfl rfl (by omega)) ?_ | refine as_q rfl rfl (q_eqF rfl rfl (by omega)) ?_ | refine as_q rfl rfl (q_eq rfl rfl) ?_
  refine as_q rfl rfl (q_assign rfl) ?_
  refine as_nil (hK4 _ _ ?_)
  clear hK4 K4
  refine cw_false rfl ?_
  refine cw_seq fun K5 hK5 => ?_
  refine cw_rs fun K6 hK6 => ?_
  -- region 4
  first | refine as_q rfl rfl (q_eqT rfl rfl (by omega)) ?_ | refine as_q rfl rfl (q_eqF rfl rfl (by omega)) ?_ | refine as_q rfl rfl (q_eq rfl rfl) ?_
  refine as_q rfl rfl (q_assign rfl) ?_
  refine as_nil (hK6 _ _ ?_)
  clear hK6 K6
  refine cw_false rfl ?_
  refine cw_rs fun K7 hK7 => ?_
  -- region 5
  first | refine as_q rfl rfl (q_eqT rfl rfl (by omega)) ?_ | refine as_q rfl rfl (q_eqF rfl rfl (by omega)) ?_ | refine as_q rfl rfl (q_eq rfl rfl) ?_
  refine as_q rfl rfl (q_assign rfl) ?_
  refine as_nil (hK7 _ _ ?_)
  clear hK7 K7
  refine cw_false rfl ?_
  refine cw_rs fun K8 hK8 => ?_
  -- region 6
  first | refine as_q rfl rfl (q_eqT rfl rfl (by omega)) ?_ | refine as_q rfl rfl (q_eqF rfl rfl (by omega)) ?_ | refine as_q rfl rfl (q_eq rfl rfl) ?_
  refine as_q rfl rfl (q_assign rfl) ?_
  refine as_nil (hK8 _ _ ?_)
  clear hK8 K8
  refine cw_true rfl ?_
  refine cw_skip ?_
  refine hK5 _ _ ?_
  clear hK5 K5
  refine cw_true rfl ?_
  refine cw_rs fun K9 hK9 => ?_
  -- region 13
  refine as_q rfl rfl (q_assign rfl) ?_
  refine as_nil (hK9 _ _ ?_)
  clear hK9 K9
  refine cw_ret ?_
  exact ⟨_, (res_tmp rfl res_nil), rfl, hT⟩

theorem rargs_6 {w : World} {M : Mem} (hs : Sat M w) :
    Does Try.prog 35 #[.int .i64 6] w (fun v w' => v = .int .i64 (1) ∧ Step Nope M w M w') := by
  have hT := Step.refl Nope hs
  refine fn_enter Try.func35 rfl (rs := [.tmp 2]) rfl rfl rfl rfl ?_
  refine cw_rs fun K1 hK1 => ?_
  -- region 0
  refine as_q rfl rfl (q_assign rfl) ?_
  refine as_nil (hK1 _ _ ?_)
  clear hK1 K1
  refine cw_seq fun K2 hK2 => ?_
  refine cw_rs fun K3 hK3 => ?_
  -- region 1
  refine as_q rfl rfl (q_move rfl) ?_
  refine as_nil (hK3 _ _ ?_)
  clear hK3 K3
  refine cw_block ?_
  refine cw_rs fun K4 hK4 => ?_
  -- region 2
  first | refine as_q rfl rfl (q_eqT rfl rfl (by omega)) ?_ | refine as_q rfl rfl (q_eqF rfl rfl (by omega)) ?_ | refine as_q rfl rfl (q_eq rfl rfl) ?_
  refine as_q rfl rfl (q_assign rfl) ?_
  refine as_nil (hK4 _ _ ?_)
  clear hK4 K4
  refine cw_false rfl ?_
  refine cw_seq fun K5 hK5 => ?_
  refine cw_rs fun K6 hK6 => ?_
  -- region 4
  first | refine as_q rfl rfl (q_eqT rfl rfl (by omega)) ?_ | refine as_q rfl rfl (q_eqF rfl rfl (by omega)) ?_ | refine as_q rfl rfl (q_eq rfl rfl) ?_
  refine as_q rfl rfl (q_assign rfl) ?_
  refine as_nil (hK6 _ _ ?_)
  clear hK6 K6
  refine cw_false rfl ?_
  refine cw_rs fun K7 hK7 => ?_
  -- region 5
  first | refine as_q rfl rfl (q_eqT rfl rfl (by omega)) ?_ | refine as_q rfl rfl (q_eqF rfl rfl (by omega)) ?_ | refine as_q rfl rfl (q_eq rfl rfl) ?_
  refine as_q rfl rfl (q_assign rfl) ?_
  refine as_nil (hK7 _ _ ?_)
  clear hK7 K7
  refine cw_false rfl ?_
  refine cw_rs fun K8 hK8 => ?_
  -- region 6
  first | refine as_q rfl rfl (q_eqT rfl rfl (by omega)) ?_ | refine as_q rfl rfl (q_eqF rfl rfl (by omega)) ?_ | refine as_q rfl rfl (q_eq rfl rfl) ?_
  refine as_q rfl rfl (q_assign rfl) ?_
  refine as_nil (hK8 _ _ ?_)
  clear hK8 K8
  refine cw_false rfl ?_
  refine cw_rs fun K9 hK9 => ?_
  -- region 7
  first | refine as_q rfl rfl (q_eqT rfl rfl (by omega)) ?_ | refine as_q rfl rfl (q_eqF rfl rfl (by omega)) ?_ | refine as_q rfl rfl (q_eq rfl rfl) ?_
  refine as_q rfl rfl (q_assign rfl) ?_
  refine as_nil (hK9 _ _ ?_)
  clear hK9 K9
  refine cw_true rfl ?_
  refine cw_skip ?_
  refine hK5 _ _ ?_
  clear hK5 K5
  refine cw_true rfl ?_
  refine cw_rs fun K10 hK10 => ?_
  -- region 13
  refine as_q rfl rfl (q_assign rfl) ?_
  refine as_nil (hK10 _ _ ?_)
  clear hK10 K10
  refine cw_ret ?_
  exact ⟨_, (res_tmp rfl res_nil), rfl, hT⟩

theorem rargs_7 {w : World} {M : Mem} (hs : Sat M w) :
    Does Try.prog 35 #[.int .i64 7] w (fun v w' => v = .int .i64 (1) ∧ Step Nope M w M w') := by
  have hT := Step.refl Nope hs
  refine fn_enter Try.func35 rfl (rs := [.tmp 2]) rfl rfl rfl rfl ?_
  refine cw_rs fun K1 hK1 => ?_
  -- region 0
  refine as_q rfl rfl (q_assign rfl) ?_
  refine as_nil (hK1 _ _ ?_)
  clear hK1 K1
  refine cw_seq fun K2 hK2 => ?_
  refine cw_rs fun K3 hK3 => ?_
  -- region 1
  refine as_q rfl rfl (q_move rfl) ?_
  refine as_nil (hK3 _ _ ?_)
  clear hK3 K3
  refine cw_block ?_
  refine cw_rs fun K4 hK4 => ?_
  -- region 2
  first | refine as_q rfl rfl (q_eqT rfl rfl (by omega)) ?_ | refine as_q rfl rfl (q_eqF rfl rfl (by omega)) ?_ | refine as_q rfl rfl (q_eq rfl rfl) ?_
  refine as_q rfl rfl (q_assign rfl) ?_
  refine as_nil (hK4 _ _ ?_)
  clear hK4 K4
  refine cw_false rfl ?_
  refine cw_seq fun K5 hK5 => ?_
  refine cw_rs fun K6 hK6 => ?_
  -- region 4
  first | refine as_q rfl rfl (q_eqT rfl rfl (by omega)) ?_ | refine as_q rfl rfl (q_eqF rfl rfl (by omega)) ?_ | refine as_q rfl rfl (q_eq rfl rfl) ?_
  refine as_q rfl rfl (q_assign rfl) ?_
  refine as_nil (hK6 _ _ ?_)
  clear hK6 K6
  refine cw_false rfl ?_
  refine cw_rs fun K7 hK7 => ?_
  -- region 5
  first | refine as_q rfl rfl (q_eqT rfl rfl (by omega)) ?_ | refine as_q rfl rfl (q_eqF rfl rfl (by omega)) ?_ | refine as_q rfl rfl (q_eq rfl rfl) ?_
  refine as_q rfl rfl (q_assign rfl) ?_
  refine as_nil (hK7 _ _ ?_)
  clear hK7 K7
  refine cw_false rfl ?_
  refine cw_rs fun K8 hK8 => ?_
  -- region 6
  first | refine as_q rfl rfl (q_eqT rfl rfl (by omega)) ?_ | refine as_q rfl rfl (q_eqF rfl rfl (by omega)) ?_ | refine as_q rfl rfl (q_eq rfl rfl) ?_
  refine as_q rfl rfl (q_assign rfl) ?_
  refine as_nil (hK8 _ _ ?_)
  clear hK8 K8
  refine cw_false rfl ?_
  refine cw_rs fun K9 hK9 => ?_
  -- region 7
  first | refine as_q rfl rfl (q_eqT rfl rfl (by omega)) ?_ | refine as_q rfl rfl (q_eqF rfl rfl (by omega)) ?_ | refine as_q rfl rfl (q_eq rfl rfl) ?_
  refine as_q rfl rfl (q_assign rfl) ?_
  refine as_nil (hK9 _ _ ?_)
  clear hK9 K9
  refine cw_false rfl ?_
  refine cw_rs fun K10 hK10 => ?_
  -- region 8
  first | refine as_q rfl rfl (q_eqT rfl rfl (by omega)) ?_ | refine as_q rfl rfl (q_eqF rfl rfl (by omega)) ?_ | refine as_q rfl rfl (q_eq rfl rfl) ?_
  refine as_q rfl rfl (q_assign rfl) ?_
  refine as_nil (hK10 _ _ ?_)
  clear hK10 K10
  refine cw_true rfl ?_
  refine cw_skip ?_
  refine hK5 _ _ ?_
  clear hK5 K5
  refine cw_true rfl ?_
  refine cw_rs fun K11 hK11 => ?_
  -- region 13
  refine as_q rfl rfl (q_assign rfl) ?_
  refine as_nil (hK11 _ _ ?_)
  clear hK11 K11
  refine cw_ret ?_
  exact ⟨_, (res_tmp rfl res_nil), rfl, hT⟩

theorem rargs_8 {w : World} {M : Mem} (hs : Sat M w) :
    Does Try.prog 35 #[.int .i64 8] w (fun v w' => v = .int .i64 (2) ∧ Step Nope M w M w') := by
  have hT := Step.refl Nope hs
  refine fn_enter Try.func35 rfl (rs := [.tmp 2]) rfl rfl rfl rfl ?_
  refine cw_rs fun K1 hK1 => ?_
  -- region 0
  refine as_q rfl rfl (q_assign rfl) ?_
  refine as_nil (hK1 _ _ ?_)
  clear hK1 K1
  refine cw_seq fun K2 hK2 => ?_
  refine cw_rs fun K3 hK3 => ?_
  -- region 1
  refine as_q rfl rfl (q_move rfl) ?_
  refine as_nil (hK3 _ _ ?_)
  clear hK3 K3
  refine cw_block ?_
  refine cw_rs fun K4 hK4 => ?_
  -- region 2
  first | refine as_q rfl rfl (q_eqT rfl rfl (by omega)) ?_ | refine as_q rfl rfl (q_eqF rfl rfl (by omega)) ?_ | refine as_q rfl rfl (q_eq rfl rfl) ?_
  refine as_q rfl rfl (q_assign rfl) ?_
  refine as_nil (hK4 _ _ ?_)
  clear hK4 K4
  refine cw_false rfl ?_
  refine cw_seq fun K5 hK5 => ?_
  refine cw_rs fun K6 hK6 => ?_
  -- region 4
  first | refine as_q rfl rfl (q_eqT rfl rfl (by omega)) ?_ | refine as_q rfl rfl (q_eqF rfl rfl (by omega)) ?_ | refine as_q rfl rfl (q_eq rfl rfl) ?_
  refine as_q rfl rfl (q_assign rfl) ?_
  refine as_nil (hK6 _ _ ?_)
  clear hK6 K6
  refine cw_false rfl ?_
  refine cw_rs fun K7 hK7 => ?_
  -- region 5
  first | refine as_q rfl rfl (q_eqT rfl rfl (by omega)) ?_ | refine as_q rfl rfl (q_eqF rfl rfl (by omega)) ?_ | refine as_q rfl rfl (q_eq rfl rfl) ?_
  refine as_q rfl rfl (q_assign rfl) ?_
  refine as_nil (hK7 _ _ ?_)
  clear hK7 K7
  refine cw_false rfl ?_
  refine cw_rs fun K8 hK8 => ?_
  -- region 6
  first | refine as_q rfl rfl (q_eqT rfl rfl (by omega)) ?_ | refine as_q rfl rfl (q_eqF rfl rfl (by omega)) ?_ | refine as_q rfl rfl (q_eq rfl rfl) ?_
  refine as_q rfl rfl (q_assign rfl) ?_
  refine as_nil (hK8 _ _ ?_)
  clear hK8 K8
  refine cw_false rfl ?_
  refine cw_rs fun K9 hK9 => ?_
  -- region 7
  first | refine as_q rfl rfl (q_eqT rfl rfl (by omega)) ?_ | refine as_q rfl rfl (q_eqF rfl rfl (by omega)) ?_ | refine as_q rfl rfl (q_eq rfl rfl) ?_
  refine as_q rfl rfl (q_assign rfl) ?_
  refine as_nil (hK9 _ _ ?_)
  clear hK9 K9
  refine cw_false rfl ?_
  refine cw_rs fun K10 hK10 => ?_
  -- region 8
  first | refine as_q rfl rfl (q_eqT rfl rfl (by omega)) ?_ | refine as_q rfl rfl (q_eqF rfl rfl (by omega)) ?_ | refine as_q rfl rfl (q_eq rfl rfl) ?_
  refine as_q rfl rfl (q_assign rfl) ?_
  refine as_nil (hK10 _ _ ?_)
  clear hK10 K10
  refine cw_false rfl ?_
  refine cw_rs fun K11 hK11 => ?_
  -- region 9
  first | refine as_q rfl rfl (q_eqT rfl rfl (by omega)) ?_ | refine as_q rfl rfl (q_eqF rfl rfl (by omega)) ?_ | refine as_q rfl rfl (q_eq rfl rfl) ?_
  refine as_q rfl rfl (q_assign rfl) ?_
  refine as_nil (hK11 _ _ ?_)
  clear hK11 K11
  refine cw_false rfl ?_
  refine cw_rs fun K12 hK12 => ?_
  -- region 10
  first | refine as_q rfl rfl (q_eqT rfl rfl (by omega)) ?_ | refine as_q rfl rfl (q_eqF rfl rfl (by omega)) ?_ | refine as_q rfl rfl (q_eq rfl rfl) ?_
  refine as_q rfl rfl (q_assign rfl) ?_
  refine as_nil (hK12 _ _ ?_)
  clear hK12 K12
  refine cw_false rfl ?_
  refine cw_rs fun K13 hK13 => ?_
  -- region 11
  first | refine as_q rfl rfl (q_eqT rfl rfl (by omega)) ?_ | refine as_q rfl rfl (q_eqF rfl rfl (by omega)) ?_ | refine as_q rfl rfl (q_eq rfl rfl) ?_
  refine as_q rfl rfl (q_assign rfl) ?_
  refine as_nil (hK13 _ _ ?_)
  clear hK13 K13
  refine cw_false rfl ?_
  refine cw_region fun K14 hK14 => ?_
  -- region 12
  first | refine as_q rfl rfl (q_eqT rfl rfl (by omega)) ?_ | refine as_q rfl rfl (q_eqF rfl rfl (by omega)) ?_ | refine as_q rfl rfl (q_eq rfl rfl) ?_
  refine as_q rfl rfl (q_assign rfl) ?_
  refine as_nil (hK14 _ _ ?_)
  clear hK14 K14
  refine hK5 _ _ ?_
  clear hK5 K5
  refine cw_false rfl ?_
  refine cw_seq fun K15 hK15 => ?_
  refine cw_rs fun K16 hK16 => ?_
  -- region 14
  first | refine as_q rfl rfl (q_eqT rfl rfl (by omega)) ?_ | refine as_q rfl rfl (q_eqF rfl rfl (by omega)) ?_ | refine as_q rfl rfl (q_eq rfl rfl) ?_
  refine as_q rfl rfl (q_assign rfl) ?_
  refine as_nil (hK16 _ _ ?_)
  clear hK16 K16
  refine cw_false rfl ?_
  refine cw_rs fun K17 hK17 => ?_
  -- region 15
  first | refine as_q rfl rfl (q_eqT rfl rfl (by omega)) ?_ | refine as_q rfl rfl (q_eqF rfl rfl (by omega)) ?_ | refine as_q rfl rfl (q_eq rfl rfl) ?_
  refine as_q rfl rfl (q_assign rfl) ?_
  refine as_nil (hK17 _ _ ?_)
  clear hK17 K17
  refine cw_true rfl ?_
  refine cw_skip ?_
  refine hK15 _ _ ?_
  clear hK15 K15
  refine cw_true rfl ?_
  refine cw_rs fun K18 hK18 => ?_
  -- region 22
  refine as_q rfl rfl (q_assign rfl) ?_
  refine as_nil (hK18 _ _ ?_)
  clear hK18 K18
  refine cw_ret ?_
  exact ⟨_, (res_tmp rfl res_nil), rfl, hT⟩

theorem rargs_9 {w : World} {M : Mem} (hs : Sat M w) :
    Does Try.prog 35 #[.int .i64 9] w (fun v w' => v = .int .i64 (2) ∧ Step Nope M w M w') := by
  have hT := Step.refl Nope hs
  refine fn_enter Try.func35 rfl (rs := [.tmp 2]) rfl rfl rfl rfl ?_
  refine cw_rs fun K1 hK1 => ?_
  -- region 0
  refine as_q rfl rfl (q_assign rfl) ?_
  refine as_nil (hK1 _ _ ?_)
  clear hK1 K1
  refine cw_seq fun K2 hK2 => ?_
  refine cw_rs fun K3 hK3 => ?_
  -- region 1
  refine as_q rfl rfl (q_move rfl) ?_
  refine as_nil (hK3 _ _ ?_)
  clear hK3 K3
  refine cw_block ?_
  refine cw_rs fun K4 hK4 => ?_
  -- region 2
  first | refine as_q rfl rfl (q_eqT rfl rfl (by omega)) ?_ | refine as_q rfl rfl (q_eqF rfl rfl (by omega)) ?_ | refine as_q rfl rfl (q_eq rfl rfl) ?_
  refine as_q rfl rfl (q_assign rfl) ?_
  refine as_nil (hK4 _ _ ?_)
  clear hK4 K4
  refine cw_false rfl ?_
  refine cw_seq fun K5 hK5 => ?_
  refine cw_rs fun K6 hK6 => ?_
  -- region 4
  first | refine as_q rfl rfl (q_eqT rfl rfl (by omega)) ?_ | refine as_q rfl rfl (q_eqF rfl rfl (by omega)) ?_ | refine as_q rfl rfl (q_eq rfl rfl) ?_
  refine as_q rfl rfl (q_assign rfl) ?_
  refine as_nil (hK6 _ _ ?_)
  clear hK6 K6
  refine cw_false rfl ?_
  refine cw_rs fun K7 hK7 => ?_
  -- region 5
  first | refine as_q rfl rfl (q_eqT rfl rfl (by omega)) ?_ | refine as_q rfl rfl (q_eqF rfl rfl (by omega)) ?_ | refine as_q rfl rfl (q_eq rfl rfl) ?_
  refine as_q rfl rfl (q_assign rfl) ?_
  refine as_nil (hK7 _ _ ?_)
  clear hK7 K7
  refine cw_false rfl ?_
  refine cw_rs fun K8 hK8 => ?_
  -- region 6
  first | refine as_q rfl rfl (q_eqT rfl rfl (by omega)) ?_ | refine as_q rfl rfl (q_eqF rfl rfl (by omega)) ?_ | refine as_q rfl rfl (q_eq rfl rfl) ?_
  refine as_q rfl rfl (q_assign rfl) ?_
  refine as_nil (hK8 _ _ ?_)
  clear hK8 K8
  refine cw_false rfl ?_
  refine cw_rs fun K9 hK9 => ?_
  -- region 7
  first | refine as_q rfl rfl (q_eqT rfl rfl (by omega)) ?_ | refine as_q rfl rfl (q_eqF rfl rfl (by omega)) ?_ | refine as_q rfl rfl (q_eq rfl rfl) ?_
  refine as_q rfl rfl (q_assign rfl) ?_
  refine as_nil (hK9 _ _ ?_)
  clear hK9 K9
  refine cw_false rfl ?_
  refine cw_rs fun K10 hK10 => ?_
  -- region 8
  first | refine as_q rfl rfl (q_eqT rfl rfl (by omega)) ?_ | refine as_q rfl rfl (q_eqF rfl rfl (by omega)) ?_ | refine as_q rfl rfl (q_eq rfl rfl) ?_
  refine as_q rfl rfl (q_assign rfl) ?_
  refine as_nil (hK10 _ _ ?_)
  clear hK10 K10
  refine cw_false rfl ?_
  refine cw_rs fun K11 hK11 => ?_
  -- region 9
  first | refine as_q rfl rfl (q_eqT rfl rfl (by omega)) ?_ | refine as_q rfl rfl (q_eqF rfl rfl (by omega)) ?_ | refine as_q rfl rfl (q_eq rfl rfl) ?_
  refine as_q rfl rfl (q_assign rfl) ?_
  refine as_nil (hK11 _ _ ?_)
  clear hK11 K11
  refine cw_false rfl ?_
  refine cw_rs fun K12 hK12 => ?_
  -- region 10
  first | refine as_q rfl rfl (q_eqT rfl rfl (by omega)) ?_ | refine as_q rfl rfl (q_eqF rfl rfl (by omega)) ?_ | refine as_q rfl rfl (q_eq rfl rfl) ?_
  refine as_q rfl rfl (q_assign rfl) ?_
  refine as_nil (hK12 _ _ ?_)
  clear hK12 K12
  refine cw_false rfl ?_
  refine cw_rs fun K13 hK13 => ?_
  -- region 11
  first | refine as_q rfl rfl (q_eqT rfl rfl (by omega)) ?_ | refine as_q rfl rfl (q_eqF rfl rfl (by omega)) ?_ | refine as_q rfl rfl (q_eq rfl rfl) ?_
  refine as_q rfl rfl (q_assign rfl) ?_
  refine as_nil (hK13 _ _ ?_)
  clear hK13 K13
  refine cw_false rfl ?_
  refine cw_region fun K14 hK14 => ?_
  -- region 12
  first | refine as_q rfl rfl (q_eqT rfl rfl (by omega)) ?_ | refine as_q rfl rfl (q_eqF rfl rfl (by omega)) ?_ | refine as_q rfl rfl (q_eq rfl rfl) ?_
  refine as_q rfl rfl (q_assign rfl) ?_
  refine as_nil (hK14 _ _ ?_)
  clear hK14 K14
  refine hK5 _ _ ?_
  clear hK5 K5
  refine cw_false rfl ?_
  refine cw_seq fun K15 hK15 => ?_
  refine cw_rs fun K16 hK16 => ?_
  -- region 14
  first | refine as_q rfl rfl (q_eqT rfl rfl (by omega)) ?_ | refine as_q rfl rfl (q_eqF rfl rfl (by omega)) ?_ | refine as_q rfl rfl (q_eq rfl rfl) ?_
  refine as_q rfl rfl (q_assign rfl) ?_
  refine as_nil (hK16 _ _ ?_)
  clear hK16 K16
  refine cw_false rfl ?_
  refine cw_rs fun K17 hK17 => ?_
  -- region 15
  first | refine as_q rfl rfl (q_eqT rfl rfl (by omega)) ?_ | refine as_q rfl rfl (q_eqF rfl rfl (by omega)) ?_ | refine as_q rfl rfl (q_eq rfl rfl) ?_
  refine as_q rfl rfl (q_assign rfl) ?_
  refine as_nil (hK17 _ _ ?_)
  clear hK17 K17
  refine cw_false rfl ?_
  refine cw_rs fun K18 hK18 => ?_
  -- region 16
  first | refine as_q rfl rfl (q_eqT rfl rfl (by omega)) ?_ | refine as_q rfl rfl (q_eqF rfl rfl (by omega)) ?_ | refine as_q rfl rfl (q_eq rfl rfl) ?_
  refine as_q rfl rfl (q_assign rfl) ?_
  refine as_nil (hK18 _ _ ?_)
  clear hK18 K18
  refine cw_true rfl ?_
  refine cw_skip ?_
  refine hK15 _ _ ?_
  clear hK15 K15
  refine cw_true rfl ?_
  refine cw_rs fun K19 hK19 => ?_
  -- region 22
  refine as_q rfl rfl (q_assign rfl) ?_
  refine as_nil (hK19 _ _ ?_)
  clear hK19 K19
  refine cw_ret ?_
  exact ⟨_, (res_tmp rfl res_nil), rfl, hT⟩

theorem rargs_10 {w : World} {M : Mem} (hs : Sat M w) :
    Does Try.prog 35 #[.int .i64 10] w (fun v w' => v = .int .i64 (0) ∧ Step Nope M w M w') := by
  have hT := Step.refl Nope hs
  refine fn_enter Try.func35 rfl (rs := [.tmp 2]) rfl rfl rfl rfl ?_
  refine cw_rs fun K1 hK1 => ?_
  -- region 0
  refine as_q rfl rfl (q_assign rfl) ?_
  refine as_nil (hK1 _ _ ?_)
  clear hK1 K1
  refine cw_seq fun K2 hK2 => ?_
  refine cw_rs fun K3 hK3 => ?_
  -- region 1
  refine as_q rfl rfl (q_move rfl) ?_
  refine as_nil (hK3 _ _ ?_)
  clear hK3 K3
  refine cw_block ?_
  refine cw_rs fun K4 hK4 => ?_
  -- region 2
  first | refine as_q rfl rfl (q_eqT rfl rfl (by omega)) ?_ | refine as_q rfl rfl (q_eqF rfl rfl (by omega)) ?_ | refine as_q rfl rfl (q_eq rfl rfl) ?_
  refine as_q rfl rfl (q_assign rfl) ?_
  refine as_nil (hK4 _ _ ?_)
  clear hK4 K4
  refine cw_true rfl ?_
  refine cw_rs fun K5 hK5 => ?_
  -- region 3
  refine as_q rfl rfl (q_assign rfl) ?_
  refine as_nil (hK5 _ _ ?_)
  clear hK5 K5
  refine cw_ret ?_
  exact ⟨_, (res_tmp rfl res_nil), rfl, hT⟩

theorem rargs_11 {w : World} {M : Mem} (hs : Sat M w) :
    Does Try.prog 35 #[.int .i64 11] w (fun v w' => v = .int .i64 (3) ∧ Step Nope M w M w') := by
  have hT := Step.refl Nope hs
  refine fn_enter Try.func35 rfl (rs := [.tmp 2]) rfl rfl rfl rfl ?_
  refine cw_rs fun K1 hK1 => ?_
  -- region 0
  refine as_q rfl rfl (q_assign rfl) ?_
  refine as_nil (hK1 _ _ ?_)
  clear hK1 K1
  refine cw_seq fun K2 hK2 => ?_
  refine cw_rs fun K3 hK3 => ?_
  -- region 1
  refine as_q rfl rfl (q_move rfl) ?_
  refine as_nil (hK3 _ _ ?_)
  clear hK3 K3
  refine cw_block ?_
  refine cw_rs fun K4 hK4 => ?_
  -- region 2
  first | refine as_q rfl rfl (q_eqT rfl rfl (by omega)) ?_ | refine as_q rfl rfl (q_eqF rfl rfl (by omega)) ?_ | refine as_q rfl rfl (q_eq rfl rfl) ?_
  refine as_q rfl rfl (q_assign rfl) ?_
  refine as_nil (hK4 _ _ ?_)
  clear hK4 K4
  refine cw_false rfl ?_
  refine cw_seq fun K5 hK5 => ?_
  refine cw_rs fun K6 hK6 => ?_
  -- region 4
  first | refine as_q rfl rfl (q_eqT rfl rfl (by omega)) ?_ | refine as_q rfl rfl (q_eqF rfl rfl (by omega)) ?_ | refine as_q rfl rfl (q_eq rfl rfl) ?_
  refine as_q rfl rfl (q_assign rfl) ?_
  refine as_nil (hK6 _ _ ?_)
  clear hK6 K6
  refine cw_false rfl ?_
  refine cw_rs fun K7 hK7 => ?_
  -- region 5
  first | refine as_q rfl rfl (q_eqT rfl rfl (by omega)) ?_ | refine as_q rfl rfl (q_eqF rfl rfl (by omega)) ?_ | refine as_q rfl rfl (q_eq rfl rfl) ?_
  refine as_q rfl rfl (q_assign rfl) ?_
  refine as_nil (hK7 _ _ ?_)
  clear hK7 K7
  refine cw_false rfl ?_
  refine cw_rs fun K8 hK8 => ?_
  -- region 6
  first | refine as_q rfl rfl (q_eqT rfl rfl (by omega)) ?_ | refine as_q rfl rfl (q_eqF rfl rfl (by omega)) ?_ | refine as_q rfl rfl (q_eq rfl rfl) ?_
  refine as_q rfl rfl (q_assign rfl) ?_
  refine as_nil (hK8 _ _ ?_)
  clear hK8 K8
  refine cw_false rfl ?_
  refine cw_rs fun K9 hK9 => ?_
  -- region 7
  first | refine as_q rfl rfl (q_eqT rfl rfl (by omega)) ?_ | refine as_q rfl rfl (q_eqF rfl rfl (by omega)) ?_ | refine as_q rfl rfl (q_eq rfl rfl) ?_
  refine as_q rfl rfl (q_assign rfl) ?_
  refine as_nil (hK9 _ _ ?_)
  clear hK9 K9
  refine cw_false rfl ?_
  refine cw_rs fun K10 hK10 => ?_
  -- region 8
  first | refine as_q rfl rfl (q_eqT rfl rfl (by omega)) ?_ | refine as_q rfl rfl (q_eqF rfl rfl (by omega)) ?_ | refine as_q rfl rfl (q_eq rfl rfl) ?_
  refine as_q rfl rfl (q_assign rfl) ?_
  refine as_nil (hK10 _ _ ?_)
  clear hK10 K10
  refine cw_false rfl ?_
  refine cw_rs fun K11 hK11 => ?_
  -- region 9
  first | refine as_q rfl rfl (q_eqT rfl rfl (by omega)) ?_ | refine as_q rfl rfl (q_eqF rfl rfl (by omega)) ?_ | refine as_q rfl rfl (q_eq rfl rfl) ?_
  refine as_q rfl rfl (q_assign rfl) ?_
  refine as_nil (hK11 _ _ ?_)
  clear hK11 K11
  refine cw_false rfl ?_
  refine cw_rs fun K12 hK12 => ?_
  -- region 10
  first | refine as_q rfl rfl (q_eqT rfl rfl (by omega)) ?_ | refine as_q rfl rfl (q_eqF rfl rfl (by omega)) ?_ | refine as_q rfl rfl (q_eq rfl rfl) ?_
  refine as_q rfl rfl (q_assign rfl) ?_
  refine as_nil (hK12 _ _ ?_)
  clear hK12 K12
  refine cw_false rfl ?_
  refine cw_rs fun K13 hK13 => ?_
  -- region 11
  first | refine as_q rfl rfl (q_eqT rfl rfl (by omega)) ?_ | refine as_q rfl rfl (q_eqF rfl rfl (by omega)) ?_ | refine as_q rfl rfl (q_eq rfl rfl) ?_
  refine as_q rfl rfl (q_assign rfl) ?_
  refine as_nil (hK13 _ _ ?_)
  clear hK13 K13
  refine cw_false rfl ?_
  refine cw_region fun K14 hK14 => ?_
  -- region 12
  first | refine as_q rfl rfl (q_eqT rfl rfl (by omega)) ?_ | refine as_q rfl rfl (q_eqF rfl rfl (by omega)) ?_ | refine as_q rfl rfl (q_eq rfl rfl) ?_
  refine as_q rfl rfl (q_assign rfl) ?_
  refine as_nil (hK14 _ _ ?_)
  clear hK14 K14
  refine hK5 _ _ ?_
  clear hK5 K5
  refine cw_false rfl ?_
  refine cw_seq fun K15 hK15 => ?_
  refine cw_rs fun K16 hK16 => ?_
  -- region 14
  first | refine as_q rfl rfl (q_eqT rfl rfl (by omega)) ?_ | refine as_q rfl rfl (q_eqF rfl rfl (by omega)) ?_ | refine as_q rfl rfl (q_eq rfl rfl) ?_
  refine as_q rfl rfl (q_assign rfl) ?_
  refine as_nil (hK16 _ _ ?_)
  clear hK16 K16
  refine cw_false rfl ?_
  refine cw_rs fun K17 hK17 => ?_
  -- region 15
  first | refine as_q rfl rfl (q_eqT rfl rfl (by omega)) ?_ | refine as_q rfl rfl (q_eqF rfl rfl (by omega)) ?_ | refine as_q rfl rfl (q_eq rfl rfl) ?_
  refine as_q rfl rfl (q_assign rfl) ?_
  refine as_nil (hK17 _ _ ?_)
  clear hK17 K17
  refine cw_false rfl ?_
  refine cw_rs fun K18 hK18 => ?_
  -- region 16
  first | refine as_q rfl rfl (q_eqT rfl rfl (by omega)) ?_ | refine as_q rfl rfl (q_eqF rfl rfl (by omega)) ?_ | refine as_q rfl rfl (q_eq rfl rfl) ?_
  refine as_q rfl rfl (q_assign rfl) ?_
  refine as_nil (hK18 _ _ ?_)
  clear hK18 K18
  refine cw_false rfl ?_
  refine cw_rs fun K19 hK19 => ?_
  -- region 17
  first | refine as_q rfl rfl (q_eqT rfl rfl (by omega)) ?_ | refine as_q rfl rfl (q_eqF rfl rfl (by omega)) ?_ | refine as_q rfl rfl (q_eq rfl rfl) ?_
  refine as_q rfl rfl (q_assign rfl) ?_
  refine as_nil (hK19 _ _ ?_)
  clear hK19 K19
  refine cw_false rfl ?_
  refine cw_rs fun K20 hK20 => ?_
  -- region 18
  first | refine as_q rfl rfl (q_eqT rfl rfl (by omega)) ?_ | refine as_q rfl rfl (q_eqF rfl rfl (by omega)) ?_ | refine as_q rfl rfl (q_eq rfl rfl) ?_
  refine as_q rfl rfl (q_assign rfl) ?_
  refine as_nil (hK20 _ _ ?_)
  clear hK20 K20
  refine cw_false rfl ?_
  refine cw_rs fun K21 hK21 => ?_
  -- region 19
  first | refine as_q rfl rfl (q_eqT rfl rfl (by omega)) ?_ | refine as_q rfl rfl (q_eqF rfl rfl (by omega)) ?_ | refine as_q rfl rfl (q_eq rfl rfl) ?_
  refine as_q rfl rfl (q_assign rfl) ?_
  refine as_nil (hK21 _ _ ?_)
  clear hK21 K21
  refine cw_false rfl ?_
  refine cw_rs fun K22 hK22 => ?_
  -- region 20
  first | refine as_q rfl rfl (q_eqT rfl rfl (by omega)) ?_ | refine as_q rfl rfl (q_eqF rfl rfl (by omega)) ?_ | refine as_q rfl rfl (q_eq rfl rfl) ?_
  refine as_q rfl rfl (q_assign rfl) ?_
  refine as_nil (hK22 _ _ ?_)
  clear hK22 K22
  refine cw_false rfl ?_
  refine cw_region fun K23 hK23 => ?_
  -- region 21
  first | refine as_q rfl rfl (q_eqT rfl rfl (by omega)) ?_ | refine as_q rfl rfl (q_eqF rfl rfl (by omega)) ?_ | refine as_q rfl rfl (q_eq rfl rfl) ?_
  refine as_q rfl rfl (q_assign rfl) ?_
  refine as_nil (hK23 _ _ ?_)
  clear hK23 K23
  refine hK15 _ _ ?_
  clear hK15 K15
  refine cw_false rfl ?_
  refine cw_seq fun K24 hK24 => ?_
  refine cw_rs fun K25 hK25 => ?_
  -- region 23
  first | refine as_q rfl rfl (q_eqT rfl rfl (by omega)) ?_ | refine as_q rfl rfl (q_eqF rfl rfl (by omega)) ?_ | refine as_q rfl rfl (q_eq rfl rfl) ?_
  refine as_q rfl rfl (q_assign rfl) ?_
  refine as_nil (hK25 _ _ ?_)
  clear hK25 K25
  refine cw_false rfl ?_
  refine cw_rs fun K26 hK26 => ?_
  -- region 24
  first | refine as_q rfl rfl (q_eqT rfl rfl (by omega)) ?_ | refine as_q rfl rfl (q_eqF rfl rfl (by omega)) ?_ | refine as_q rfl rfl (q_eq rfl rfl) ?_
  refine as_q rfl rfl (q_assign rfl) ?_
  refine as_nil (hK26 _ _ ?_)
  clear hK26 K26
  refine cw_true rfl ?_
  refine cw_skip ?_
  refine hK24 _ _ ?_
  clear hK24 K24
  refine cw_true rfl ?_
  refine cw_rs fun K27 hK27 => ?_
  -- region 27
  refine as_q rfl rfl (q_assign rfl) ?_
  refine as_nil (hK27 _ _ ?_)
  clear hK27 K27
  refine cw_ret ?_
  exact ⟨_, (res_tmp rfl res_nil), rfl, hT⟩

theorem rargs_12 {w : World} {M : Mem} (hs : Sat M w) :
    Does Try.prog 35 #[.int .i64 12] w (fun v w' => v = .int .i64 (2) ∧ Step Nope M w M w') := by
  have hT := Step.refl Nope hs
  refine fn_enter Try.func35 rfl (rs := [.tmp 2]) rfl rfl rfl rfl ?_
  refine cw_rs fun K1 hK1 => ?_
  -- region 0
  refine as_q rfl rfl (q_assign rfl) ?_
  refine as_nil (hK1 _ _ ?_)
  clear hK1 K1
  refine cw_seq fun K2 hK2 => ?_
  refine cw_rs fun K3 hK3 => ?_
  -- region 1
  refine as_q rfl rfl (q_move rfl) ?_
  refine as_nil (hK3 _ _ ?_)
  clear hK3 K3
  refine cw_block ?_
  refine cw_rs fun K4 hK4 => ?_
  -- region 2
  first | refine as_q rfl rfl (q_eqT rfl rfl (by omega)) ?_ | refine as_q rfl rfl (q_eqF rfl rfl (by omega)) ?_ | refine as_q rfl rfl (q_eq rfl rfl) ?_
  refine as_q rfl rfl (q_assign rfl) ?_
  refine as_nil (hK4 _ _ ?_)
  clear hK4 K4
  refine cw_false rfl ?_
  refine cw_seq fun K5 hK5 => ?_
  refine cw_rs fun K6 hK6 => ?_
  -- region 4
  first | refine as_q rfl rfl (q_eqT rfl rfl (by omega)) ?_ | refine as_q rfl rfl (q_eqF rfl rfl (by omega)) ?_ | refine as_q rfl rfl (q_eq rfl rfl) ?_
  refine as_q rfl rfl (q_assign rfl) ?_
  refine as_nil (hK6 _ _ ?_)
  clear hK6 K6
  refine cw_false rfl ?_
  refine cw_rs fun K7 hK7 => ?_
  -- region 5
  first | refine as_q rfl rfl (q_eqT rfl rfl (by omega)) ?_ | refine as_q rfl rfl (q_eqF rfl rfl (by omega)) ?_ | refine as_q rfl rfl (q_eq rfl rfl) ?_
  refine as_q rfl rfl (q_assign rfl) ?_
  refine as_nil (hK7 _ _ ?_)
  clear hK7 K7
  refine cw_false rfl ?_
  refine cw_rs fun K8 hK8 => ?_
  -- region 6
  first | refine as_q rfl rfl (q_eqT rfl rfl (by omega)) ?_ | refine as_q rfl rfl (q_eqF rfl rfl (by omega)) ?_ | refine as_q rfl rfl (q_eq rfl rfl) ?_
  refine as_q rfl rfl (q_assign rfl) ?_
  refine as_nil (hK8 _ _ ?_)
  clear hK8 K8
  refine cw_false rfl ?_
  refine cw_rs fun K9 hK9 => ?_
  -- region 7
  first | refine as_q rfl rfl (q_eqT rfl rfl (by omega)) ?_ | refine as_q rfl rfl (q_eqF rfl rfl (by omega)) ?_ | refine as_q rfl rfl (q_eq rfl rfl) ?_
  refine as_q rfl rfl (q_assign rfl) ?_
  refine as_nil (hK9 _ _ ?_)
  clear hK9 K9
  refine cw_false rfl ?_
  refine cw_rs fun K10 hK10 => ?_
  -- region 8
  first | refine as_q rfl rfl (q_eqT rfl rfl (by omega)) ?_ | refine as_q rfl rfl (q_eqF rfl rfl (by omega)) ?_ | refine as_q rfl rfl (q_eq rfl rfl) ?_
  refine as_q rfl rfl (q_assign rfl) ?_
  refine as_nil (hK10 _ _ ?_)
  clear hK10 K10
  refine cw_false rfl ?_
  refine cw_rs fun K11 hK11 => ?_
  -- region 9
  first | refine as_q rfl rfl (q_eqT rfl rfl (by omega)) ?_ | refine as_q rfl rfl (q_eqF rfl rfl (by omega)) ?_ | refine as_q rfl rfl (q_eq rfl rfl) ?_
  refine as_q rfl rfl (q_assign rfl) ?_
  refine as_nil (hK11 _ _ ?_)
  clear hK11 K11
  refine cw_false rfl ?_
  refine cw_rs fun K12 hK12 => ?_
  -- region 10
  first | refine as_q rfl rfl (q_eqT rfl rfl (by omega)) ?_ | refine as_q rfl rfl (q_eqF rfl rfl (by omega)) ?_ | refine as_q rfl rfl (q_eq rfl rfl) ?_
  refine as_q rfl rfl (q_assign rfl) ?_
  refine as_nil (hK12 _ _ ?_)
  clear hK12 K12
  refine cw_false rfl ?_
  refine cw_rs fun K13 hK13 => ?_
  -- region 11
  first | refine as_q rfl rfl (q_eqT rfl rfl (by omega)) ?_ | refine as_q rfl rfl (q_eqF rfl rfl (by omega)) ?_ | refine as_q rfl rfl (q_eq rfl rfl) ?_
  refine as_q rfl rfl (q_assign rfl) ?_
  refine as_nil (hK13 _ _ ?_)
  clear hK13 K13
  refine cw_false rfl ?_
  refine cw_region fun K14 hK14 => ?_
  -- region 12
  first | refine as_q rfl rfl (q_eqT rfl rfl (by omega)) ?_ | refine as_q rfl rfl (q_eqF rfl rfl (by omega)) ?_ | refine as_q rfl rfl (q_eq rfl rfl) ?_
  refine as_q rfl rfl (q_assign rfl) ?_
  refine as_nil (hK14 _ _ ?_)
  clear hK14 K14
  refine hK5 _ _ ?_
  clear hK5 K5
  refine cw_false rfl ?_
  refine cw_seq fun K15 hK15 => ?_
  refine cw_rs fun K16 hK16 => ?_
  -- region 14
  first | refine as_q rfl rfl (q_eqT rfl rfl (by omega)) ?_ | refine as_q rfl rfl (q_eqF rfl rfl (by omega)) ?_ | refine as_q rfl rfl (q_eq rfl rfl) ?_
  refine as_q rfl rfl (q_assign rfl) ?_
  refine as_nil (hK16 _ _ ?_)
  clear hK16 K16
  refine cw_false rfl ?_
  refine cw_rs fun K17 hK17 => ?_
  -- region 15
  first | refine as_q rfl rfl (q_eqT rfl rfl (by omega)) ?_ | refine as_q rfl rfl (q_eqF rfl rfl (by omega)) ?_ | refine as_q rfl rfl (q_eq rfl rfl) ?_
  refine as_q rfl rfl (q_assign rfl) ?_
  refine as_nil (hK17 _ _ ?_)
  clear hK17 K17
  refine cw_false rfl ?_
  refine cw_rs fun K18 hK18 => ?_
  -- region 16
  first | refine as_q rfl rfl (q_eqT rfl rfl (by omega)) ?_ | refine as_q rfl rfl (q_eqF rfl rfl (by omega)) ?_ | refine as_q rfl rfl (q_eq rfl rfl) ?_
  refine as_q rfl rfl (q_assign rfl) ?_
  refine as_nil (hK18 _ _ ?_)
  clear hK18 K18
  refine cw_false rfl ?_
  refine cw_rs fun K19 hK19 => ?_
  -- region 17
  first | refine as_q rfl rfl (q_eqT rfl rfl (by omega)) ?_ | refine as_q rfl rfl (q_eqF rfl rfl (by omega)) ?_ | refine as_q rfl rfl (q_eq rfl rfl) ?_
  refine as_q rfl rfl (q_assign rfl) ?_
  refine as_nil (hK19 _ _ ?_)
  clear hK19 K19
  refine cw_true rfl ?_
  refine cw_skip ?_
  refine hK15 _ _ ?_
  clear hK15 K15
  refine cw_true rfl ?_
  refine cw_rs fun K20 hK20 => ?_
  -- region 22
  refine as_q rfl rfl (q_assign rfl) ?_
  refine as_nil (hK20 _ _ ?_)
  clear hK20 K20
  refine cw_ret ?_
  exact ⟨_, (res_tmp rfl res_nil), rfl, hT⟩

theorem rargs_13 {w : World} {M : Mem} (hs : Sat M w) :
    Does Try.prog 35 #[.int .i64 13] w (fun v w' => v = .int .i64 (3) ∧ Step Nope M w M w') := by
  have hT := Step.refl Nope hs
  refine fn_enter Try.func35 rfl (rs := [.tmp 2]) rfl rfl rfl rfl ?_
  refine cw_rs fun K1 hK1 => ?_
  -- region 0
  refine as_q rfl rfl (q_assign rfl) ?_
  refine as_nil (hK1 _ _ ?_)
  clear hK1 K1
  refine cw_seq fun K2 hK2 => ?_
  refine cw_rs fun K3 hK3 => ?_
  -- region 1
  refine as_q rfl rfl (q_move rfl) ?_
  refine as_nil (hK3 _ _ ?_)
  clear hK3 K3
  refine cw_block ?_
  refine cw_rs fun K4 hK4 => ?_
  -- region 2
  first | refine as_q rfl rfl (q_eqT rfl rfl (by omega)) ?_ | refine as_q rfl rfl (q_eqF rfl rfl (by omega)) ?_ | refine as_q rfl rfl (q_eq rfl rfl) ?_
  refine as_q rfl rfl (q_assign rfl) ?_
  refine as_nil (hK4 _ _ ?_)
  clear hK4 K4
  refine cw_false rfl ?_
  refine cw_seq fun K5 hK5 => ?_
  refine cw_rs fun K6 hK6 => ?_
  -- region 4
  first | refine as_q rfl rfl (q_eqT rfl rfl (by omega)) ?_ | refine as_q rfl rfl (q_eqF rfl rfl (by omega)) ?_ | refine as_q rfl rfl (q_eq rfl rfl) ?_
  refine as_q rfl rfl (q_assign rfl) ?_
  refine as_nil (hK6 _ _ ?_)
  clear hK6 K6
  refine cw_false rfl ?_
  refine cw_rs fun K7 hK7 => ?_
  -- region 5
  first | refine as_q rfl rfl (q_eqT rfl rfl (by omega)) ?_ | refine as_q rfl rfl (q_eqF rfl rfl (by omega)) ?_ | refine as_q rfl rfl (q_eq rfl rfl) ?_
  refine as_q rfl rfl (q_assign rfl) ?_
  refine as_nil (hK7 _ _ ?_)
  clear hK7 K7
  refine cw_false rfl ?_
  refine cw_rs fun K8 hK8 => ?_
  -- region 6
  first | refine as_q rfl rfl (q_eqT rfl rfl (by omega)) ?_ | refine as_q rfl rfl (q_eqF rfl rfl (by omega)) ?_ | refine as_q rfl rfl (q_eq rfl rfl) ?_
  refine as_q rfl rfl (q_assign rfl) ?_
  refine as_nil (hK8 _ _ ?_)
  clear hK8 K8
  refine cw_false rfl ?_
  refine cw_rs fun K9 hK9 => ?_
  -- region 7
  first | refine as_q rfl rfl (q_eqT rfl rfl (by omega)) ?_ | refine as_q rfl rfl (q_eqF rfl rfl (by omega)) ?_ | refine as_q rfl rfl (q_eq rfl rfl) ?_
  refine as_q rfl rfl (q_assign rfl) ?_
  refine as_nil (hK9 _ _ ?_)
  clear hK9 K9
  refine cw_false rfl ?_
  refine cw_rs fun K10 hK10 => ?_
  -- region 8
  first | refine as_q rfl rfl (q_eqT rfl rfl (by omega)) ?_ | refine as_q rfl rfl (q_eqF rfl rfl (by omega)) ?_ | refine as_q rfl rfl (q_eq rfl rfl) ?_
  refine as_q rfl rfl (q_assign rfl) ?_
  refine as_nil (hK10 _ _ ?_)
  clear hK10 K10
  refine cw_false rfl ?_
  refine cw_rs fun K11 hK11 => ?_
  -- region 9
  first | refine as_q rfl rfl (q_eqT rfl rfl (by omega)) ?_ | refine as_q rfl rfl (q_eqF rfl rfl (by omega)) ?_ | refine as_q rfl rfl (q_eq rfl rfl) ?_
  refine as_q rfl rfl (q_assign rfl) ?_
  refine as_nil (hK11 _ _ ?_)
  clear hK11 K11
  refine cw_false rfl ?_
  refine cw_rs fun K12 hK12 => ?_
  -- region 10
  first | refine as_q rfl rfl (q_eqT rfl rfl (by omega)) ?_ | refine as_q rfl rfl (q_eqF rfl rfl (by omega)) ?_ | refine as_q rfl rfl (q_eq rfl rfl) ?_
  refine as_q rfl rfl (q_assign rfl) ?_
  refine as_nil (hK12 _ _ ?_)
  clear hK12 K12
  refine cw_false rfl ?_
  refine cw_rs fun K13 hK13 => ?_
  -- region 11
  first | refine as_q rfl rfl (q_eqT rfl rfl (by omega)) ?_ | refine as_q rfl rfl (q_eqF rfl rfl (by omega)) ?_ | refine as_q rfl rfl (q_eq rfl rfl) ?_
  refine as_q rfl rfl (q_assign rfl) ?_
  refine as_nil (hK13 _ _ ?_)
  clear hK13 K13
  refine cw_false rfl ?_
  refine cw_region fun K14 hK14 => ?_
  -- region 12
  first | refine as_q rfl rfl (q_eqT rfl rfl (by omega)) ?_ | refine as_q rfl rfl (q_eqF rfl rfl (by omega)) ?_ | refine as_q rfl rfl (q_eq rfl rfl) ?_
  refine as_q rfl rfl (q_assign rfl) ?_
  refine as_nil (hK14 _ _ ?_)
  clear hK14 K14
  refine hK5 _ _ ?_
  clear hK5 K5
  refine cw_false rfl ?_
  refine cw_seq fun K15 hK15 => ?_
  refine cw_rs fun K16 hK16 => ?_
  -- region 14
  first | refine as_q rfl rfl (q_eqT rfl rfl (by omega)) ?_ | refine as_q rfl rfl (q_eqF rfl rfl (by omega)) ?_ | refine as_q rfl rfl (q_eq rfl rfl) ?_
  refine as_q rfl rfl (q_assign rfl) ?_
  refine as_nil (hK16 _ _ ?_)
  clear hK16 K16
  refine cw_false rfl ?_
  refine cw_rs fun K17 hK17 => ?_
  -- region 15
  first | refine as_q rfl rfl (q_eqT rfl rfl (by omega)) ?_ | refine as_q rfl rfl (q_eqF rfl rfl (by omega)) ?_ | refine as_q rfl rfl (q_eq rfl rfl) ?_
  refine as_q rfl rfl (q_assign rfl) ?_
  refine as_nil (hK17 _ _ ?_)
  clear hK17 K17
  refine cw_false rfl ?_
  refine cw_rs fun K18 hK18 => ?_
  -- region 16
  first | refine as_q rfl rfl (q_eqT rfl rfl (by omega)) ?_ | refine as_q rfl rfl (q_eqF rfl rfl (by omega)) ?_ | refine as_q rfl rfl (q_eq rfl rfl) ?_
  refine as_q rfl rfl (q_assign rfl) ?_
  refine as_nil (hK18 _ _ ?_)
  clear hK18 K18
  refine cw_false rfl ?_
  refine cw_rs fun K19 hK19 => ?_
  -- region 17
  first | refine as_q rfl rfl (q_eqT rfl rfl (by omega)) ?_ | refine as_q rfl rfl (q_eqF rfl rfl (by omega)) ?_ | refine as_q rfl rfl (q_eq rfl rfl) ?_
  refine as_q rfl rfl (q_assign rfl) ?_
  refine as_nil (hK19 _ _ ?_)
  clear hK19 K19
  refine cw_false rfl ?_
  refine cw_rs fun K20 hK20 => ?_
  -- region 18
  first | refine as_q rfl rfl (q_eqT rfl rfl (by omega)) ?_ | refine as_q rfl rfl (q_eqF rfl rfl (by omega)) ?_ | refine as_q rfl rfl (q_eq rfl rfl) ?_
  refine as_q rfl rfl (q_assign rfl) ?_
  refine as_nil (hK20 _ _ ?_)
  clear hK20 K20
  refine cw_false rfl ?_
  refine cw_rs fun K21 hK21 => ?_
  -- region 19
  first | refine as_q rfl rfl (q_eqT rfl rfl (by omega)) ?_ | refine as_q rfl rfl (q_eqF rfl rfl (by omega)) ?_ | refine as_q rfl rfl (q_eq rfl rfl) ?_
  refine as_q rfl rfl (q_assign rfl) ?_
  refine as_nil (hK21 _ _ ?_)
  clear hK21 K21
  refine cw_false rfl ?_
  refine cw_rs fun K22 hK22 => ?_
  -- region 20
  first | refine as_q rfl rfl (q_eqT rfl rfl (by omega)) ?_ | refine as_q rfl rfl (q_eqF rfl rfl (by omega)) ?_ | refine as_q rfl rfl (q_eq rfl rfl) ?_
  refine as_q rfl rfl (q_assign rfl) ?_
  refine as_nil (hK22 _ _ ?_)
  clear hK22 K22
  refine cw_false rfl ?_
  refine cw_region fun K23 hK23 => ?_
  -- region 21
  first | refine as_q rfl rfl (q_eqT rfl rfl (by omega)) ?_ | refine as_q rfl rfl (q_eqF rfl rfl (by omega)) ?_ | refine as_q rfl rfl (q_eq rfl rfl) ?_
  refine as_q rfl rfl (q_assign rfl) ?_
  refine as_nil (hK23 _ _ ?_)
  clear hK23 K23
  refine hK15 _ _ ?_
  clear hK15 K15
  refine cw_false rfl ?_
  refine cw_seq fun K24 hK24 => ?_
  refine cw_rs fun K25 hK25 => ?_
  -- region 23
  first | refine as_q rfl rfl (q_eqT rfl rfl (by omega)) ?_ | refine as_q rfl rfl (q_eqF rfl rfl (by omega)) ?_ | refine as_q rfl rfl (q_eq rfl rfl) ?_
  refine as_q rfl rfl (q_assign rfl) ?_
  refine as_nil (hK25 _ _ ?_)
  clear hK25 K25
  refine cw_false rfl ?_
  refine cw_rs fun K26 hK26 => ?_
  -- region 24
  first | refine as_q rfl rfl (q_eqT rfl rfl (by omega)) ?_ | refine as_q rfl rfl (q_eqF rfl rfl (by omega)) ?_ | refine as_q rfl rfl (q_eq rfl rfl) ?_
  refine as_q rfl rfl (q_assign rfl) ?_
  refine as_nil (hK26 _ _ ?_)
  clear hK26 K26
  refine cw_false rfl ?_
  refine cw_rs fun K27 hK27 => ?_
  -- region 25
  first | refine as_q rfl rfl (q_eqT rfl rfl (by omega)) ?_ | refine as_q rfl rfl (q_eqF rfl rfl (by omega)) ?_ | refine as_q rfl rfl (q_eq rfl rfl) ?_
  refine as_q rfl rfl (q_assign rfl) ?_
  refine as_nil (hK27 _ _ ?_)
  clear hK27 K27
  refine cw_true rfl ?_
  refine cw_skip ?_
  refine hK24 _ _ ?_
  clear hK24 K24
  refine cw_true rfl ?_
  refine cw_rs fun K28 hK28 => ?_
  -- region 27
  refine as_q rfl rfl (q_assign rfl) ?_
  refine as_nil (hK28 _ _ ?_)
  clear hK28 K28
  refine cw_ret ?_
  exact ⟨_, (res_tmp rfl res_nil), rfl, hT⟩

theorem rargs_14 {w : World} {M : Mem} (hs : Sat M w) :
    Does Try.prog 35 #[.int .i64 14] w (fun v w' => v = .int .i64 (1) ∧ Step Nope M w M w') := by
  have hT := Step.refl Nope hs
  refine fn_enter Try.func35 rfl (rs := [.tmp 2]) rfl rfl rfl rfl ?_
  refine cw_rs fun K1 hK1 => ?_
  -- region 0
  refine as_q rfl rfl (q_assign rfl) ?_
  refine as_nil (hK1 _ _ ?_)
  clear hK1 K1
  refine cw_seq fun K2 hK2 => ?_
  refine cw_rs fun K3 hK3 => ?_
  -- region 1
  refine as_q rfl rfl (q_move rfl) ?_
  refine as_nil (hK3 _ _ ?_)
  clear hK3 K3
  refine cw_block ?_
  refine cw_rs fun K4 hK4 => ?_
  -- region 2
  first | refine as_q rfl rfl (q_eqT rfl rfl (by omega)) ?_ | refine as_q rfl rfl (q_eqF rfl rfl (by omega)) ?_ | refine as_q rfl rfl (q_eq rfl rfl) ?_
  refine as_q rfl rfl (q_assign rfl) ?_
  refine as_nil (hK4 _ _ ?_)
  clear hK4 K4
  refine cw_false rfl ?_
  refine cw_seq fun K5 hK5 => ?_
  refine cw_rs fun K6 hK6 => ?_
  -- region 4
  first | refine as_q rfl rfl (q_eqT rfl rfl (by omega)) ?_ | refine as_q rfl rfl (q_eqF rfl rfl (by omega)) ?_ | refine as_q rfl rfl (q_eq rfl rfl) ?_
  refine as_q rfl rfl (q_assign rfl) ?_
  refine as_nil (hK6 _ _ ?_)
  clear hK6 K6
  refine cw_false rfl ?_
  refine cw_rs fun K7 hK7 => ?_
  -- region 5
  first | refine as_q rfl rfl (q_eqT rfl rfl (by omega)) ?_ | refine as_q rfl rfl (q_eqF rfl rfl (by omega)) ?_ | refine as_q rfl rfl (q_eq rfl rfl) ?_
  refine as_q rfl rfl (q_assign rfl) ?_
  refine as_nil (hK7 _ _ ?_)
  clear hK7 K7
  refine cw_false rfl ?_
  refine cw_rs fun K8 hK8 => ?_
  -- region 6
  first | refine as_q rfl rfl (q_eqT rfl rfl (by omega)) ?_ | refine as_q rfl rfl (q_eqF rfl rfl (by omega)) ?_ | refine as_q rfl rfl (q_eq rfl rfl) ?_
  refine as_q rfl rfl (q_assign rfl) ?_
  refine as_nil (hK8 _ _ ?_)
  clear hK8 K8
  refine cw_false rfl ?_
  refine cw_rs fun K9 hK9 => ?_
  -- region 7
  first | refine as_q rfl rfl (q_eqT rfl rfl (by omega)) ?_ | refine as_q rfl rfl (q_eqF rfl rfl (by omega)) ?_ | refine as_q rfl rfl (q_eq rfl rfl) ?_
  refine as_q rfl rfl (q_assign rfl) ?_
  refine as_nil (hK9 _ _ ?_)
  clear hK9 K9
  refine cw_false rfl ?_
  refine cw_rs fun K10 hK10 => ?_
  -- region 8
  first | refine as_q rfl rfl (q_eqT rfl rfl (by omega)) ?_ | refine as_q rfl rfl (q_eqF rfl rfl (by omega)) ?_ | refine as_q rfl rfl (q_eq rfl rfl) ?_
  refine as_q rfl rfl (q_assign rfl) ?_
  refine as_nil (hK10 _ _ ?_)
  clear hK10 K10
  refine cw_false rfl ?_
  refine cw_rs fun K11 hK11 => ?_
  -- region 9
  first | refine as_q rfl rfl (q_eqT rfl rfl (by omega)) ?_ | refine as_q rfl rfl (q_eqF rfl rfl (by omega)) ?_ | refine as_q rfl rfl (q_eq rfl rfl) ?_
  refine as_q rfl rfl (q_assign rfl) ?_
  refine as_nil (hK11 _ _ ?_)
  clear hK11 K11
  refine cw_true rfl ?_
  refine cw_skip ?_
  refine hK5 _ _ ?_
  clear hK5 K5
  refine cw_true rfl ?_
  refine cw_rs fun K12 hK12 => ?_
  -- region 13
  refine as_q rfl rfl (q_assign rfl) ?_
  refine as_nil (hK12 _ _ ?_)
  clear hK12 K12
  refine cw_ret ?_
  exact ⟨_, (res_tmp rfl res_nil), rfl, hT⟩

theorem rargs_15 {w : World} {M : Mem} (hs : Sat M w) :
    Does Try.prog 35 #[.int .i64 15] w (fun v w' => v = .int .i64 (1) ∧ Step Nope M w M w') := by
  have hT := Step.refl Nope hs
  refine fn_enter Try.func35 rfl (rs := [.tmp 2]) rfl rfl rfl rfl ?_
  refine cw_rs fun K1 hK1 => ?_
  -- region 0
  refine as_q rfl rfl (q_assign rfl) ?_
  refine as_nil (hK1 _ _ ?_)
  clear hK1 K1
  refine cw_seq fun K2 hK2 => ?_
  refine cw_rs fun K3 hK3 => ?_
  -- region 1
  refine as_q rfl rfl (q_move rfl) ?_
  refine as_nil (hK3 _ _ ?_)
  clear hK3 K3
  refine cw_block ?_
  refine cw_rs fun K4 hK4 => ?_
  -- region 2
  first | refine as_q rfl rfl (q_eqT rfl rfl (by omega)) ?_ | refine as_q rfl rfl (q_eqF rfl rfl (by omega)) ?_ | refine as_q rfl rfl (q_eq rfl rfl) ?_
  refine as_q rfl rfl (q_assign rfl) ?_
  refine as_nil (hK4 _ _ ?_)
  clear hK4 K4
  refine cw_false rfl ?_
  refine cw_seq fun K5 hK5 => ?_
  refine cw_rs fun K6 hK6 => ?_
  -- region 4
  first | refine as_q rfl rfl (q_eqT rfl rfl (by omega)) ?_ | refine as_q rfl rfl (q_eqF rfl rfl (by omega)) ?_ | refine as_q rfl rfl (q_eq rfl rfl) ?_
  refine as_q rfl rfl (q_assign rfl) ?_
  refine as_nil (hK6 _ _ ?_)
  clear hK6 K6
  refine cw_false rfl ?_
  refine cw_rs fun K7 hK7 => ?_
  -- region 5
  first | refine as_q rfl rfl (q_eqT rfl rfl (by omega)) ?_ | refine as_q rfl rfl (q_eqF rfl rfl (by omega)) ?_ | refine as_q rfl rfl (q_eq rfl rfl) ?_
  refine as_q rfl rfl (q_assign rfl) ?_
  refine as_nil (hK7 _ _ ?_)
  clear hK7 K7
  refine cw_false rfl ?_
  refine cw_rs fun K8 hK8 => ?_
  -- region 6
  first | refine as_q rfl rfl (q_eqT rfl rfl (by omega)) ?_ | refine as_q rfl rfl (q_eqF rfl rfl (by omega)) ?_ | refine as_q rfl rfl (q_eq rfl rfl) ?_
  refine as_q rfl rfl (q_assign rfl) ?_
  refine as_nil (hK8 _ _ ?_)
  clear hK8 K8
  refine cw_false rfl ?_
  refine cw_rs fun K9 hK9 => ?_
  -- region 7
  first | refine as_q rfl rfl (q_eqT rfl rfl (by omega)) ?_ | refine as_q rfl rfl (q_eqF rfl rfl (by omega)) ?_ | refine as_q rfl rfl (q_eq rfl rfl) ?_
  refine as_q rfl rfl (q_assign rfl) ?_
  refine as_nil (hK9 _ _ ?_)
  clear hK9 K9
  refine cw_false rfl ?_
  refine cw_rs fun K10 hK10 => ?_
  -- region 8
  first | refine as_q rfl rfl (q_eqT rfl rfl (by omega)) ?_ | refine as_q rfl rfl (q_eqF rfl rfl (by omega)) ?_ | refine as_q rfl rfl (q_eq rfl rfl) ?_
  refine as_q rfl rfl (q_assign rfl) ?_
  refine as_nil (hK10 _ _ ?_)
  clear hK10 K10
  refine cw_false rfl ?_
  refine cw_rs fun K11 hK11 => ?_
  -- region 9
  first | refine as_q rfl rfl (q_eqT rfl rfl (by omega)) ?_ | refine as_q rfl rfl (q_eqF rfl rfl (by omega)) ?_ | refine as_q rfl rfl (q_eq rfl rfl) ?_
  refine as_q rfl rfl (q_assign rfl) ?_
  refine as_nil (hK11 _ _ ?_)
  clear hK11 K11
  refine cw_false rfl ?_
  refine cw_rs fun K12 hK12 => ?_
  -- region 10
  first | refine as_q rfl rfl (q_eqT rfl rfl (by omega)) ?_ | refine as_q rfl rfl (q_eqF rfl rfl (by omega)) ?_ | refine as_q rfl rfl (q_eq rfl rfl) ?_
  refine as_q rfl rfl (q_assign rfl) ?_
  refine as_nil (hK12 _ _ ?_)
  clear hK12 K12
  refine cw_true rfl ?_
  refine cw_skip ?_
  refine hK5 _ _ ?_
  clear hK5 K5
  refine cw_true rfl ?_
  refine cw_rs fun K13 hK13 => ?_
  -- region 13
  refine as_q rfl rfl (q_assign rfl) ?_
  refine as_nil (hK13 _ _ ?_)
  clear hK13 K13
  refine cw_ret ?_
  exact ⟨_, (res_tmp rfl res_nil), rfl, hT⟩

theorem rargs_16 {w : World} {M : Mem} (hs : Sat M w) :
    Does Try.prog 35 #[.int .i64 16] w (fun v w' => v = .int .i64 (2) ∧ Step Nope M w M w') := by
  have hT := Step.refl Nope hs
  refine fn_enter Try.func35 rfl (rs := [.tmp 2]) rfl rfl rfl rfl ?_
  refine cw_rs fun K1 hK1 => ?_
  -- region 0
  refine as_q rfl rfl (q_assign rfl) ?_
  refine as_nil (hK1 _ _ ?_)
  clear hK1 K1
  refine cw_seq fun K2 hK2 => ?_
  refine cw_rs fun K3 hK3 => ?_
  -- region 1
  refine as_q rfl rfl (q_move rfl) ?_
  refine as_nil (hK3 _ _ ?_)
  clear hK3 K3
  refine cw_block ?_
  refine cw_rs fun K4 hK4 => ?_
  -- region 2
  first | refine as_q rfl rfl (q_eqT rfl rfl (by omega)) ?_ | refine as_q rfl rfl (q_eqF rfl rfl (by omega)) ?_ | refine as_q rfl rfl (q_eq rfl rfl) ?_
  refine as_q rfl rfl (q_assign rfl) ?_
  refine as_nil (hK4 _ _ ?_)
  clear hK4 K4
  refine cw_false rfl ?_
  refine cw_seq fun K5 hK5 => ?_
  refine cw_rs fun K6 hK6 => ?_
  -- region 4
  first | refine as_q rfl rfl (q_eqT rfl rfl (by omega)) ?_ | refine as_q rfl rfl (q_eqF rfl rfl (by omega)) ?_ | refine as_q rfl rfl (q_eq rfl rfl) ?_
  refine as_q rfl rfl (q_assign rfl) ?_
  refine as_nil (hK6 _ _ ?_)
  clear hK6 K6
  refine cw_false rfl ?_
  refine cw_rs fun K7 hK7 => ?_
  -- region 5
  first | refine as_q rfl rfl (q_eqT rfl rfl (by omega)) ?_ | refine as_q rfl rfl (q_eqF rfl rfl (by omega)) ?_ | refine as_q rfl rfl (q_eq rfl rfl) ?_
  refine as_q rfl rfl (q_assign rfl) ?_
  refine as_nil (hK7 _ _ ?_)
  clear hK7 K7
  refine cw_false rfl ?_
  refine cw_rs fun K8 hK8 => ?_
  -- region 6
  first | refine as_q rfl rfl (q_eqT rfl rfl (by omega)) ?_ | refine as_q rfl rfl (q_eqF rfl rfl (by omega)) ?_ | refine as_q rfl rfl (q_eq rfl rfl) ?_
  refine as_q rfl rfl (q_assign rfl) ?_
  refine as_nil (hK8 _ _ ?_)
  clear hK8 K8
  refine cw_false rfl ?_
  refine cw_rs fun K9 hK9 => ?_
  -- region 7
  first | refine as_q rfl rfl (q_eqT rfl rfl (by omega)) ?_ | refine as_q rfl rfl (q_eqF rfl rfl (by omega)) ?_ | refine as_q rfl rfl (q_eq rfl rfl) ?_
  refine as_q rfl rfl (q_assign rfl) ?_
  refine as_nil (hK9 _ _ ?_)
  clear hK9 K9
  refine cw_false rfl ?_
  refine cw_rs fun K10 hK10 => ?_
  -- region 8
  first | refine as_q rfl rfl (q_eqT rfl rfl (by omega)) ?_ | refine as_q rfl rfl (q_eqF rfl rfl (by omega)) ?_ | refine as_q rfl rfl (q_eq rfl rfl) ?_
  refine as_q rfl rfl (q_assign rfl) ?_
  refine as_nil (hK10 _ _ ?_)
  clear hK10 K10
  refine cw_false rfl ?_
  refine cw_rs fun K11 hK11 => ?_
  -- region 9
  first | refine as_q rfl rfl (q_eqT rfl rfl (by omega)) ?_ | refine as_q rfl rfl (q_eqF rfl rfl (by omega)) ?_ | refine as_q rfl rfl (q_eq rfl rfl) ?_
  refine as_q rfl rfl (q_assign rfl) ?_
  refine as_nil (hK11 _ _ ?_)
  clear hK11 K11
  refine cw_false rfl ?_
  refine cw_rs fun K12 hK12 => ?_
  -- region 10
  first | refine as_q rfl rfl (q_eqT rfl rfl (by omega)) ?_ | refine as_q rfl rfl (q_eqF rfl rfl (by omega)) ?_ | refine as_q rfl rfl (q_eq rfl rfl) ?_
  refine as_q rfl rfl (q_assign rfl) ?_
  refine as_nil (hK12 _ _ ?_)
  clear hK12 K12
  refine cw_false rfl ?_
  refine cw_rs fun K13 hK13 => ?_
  -- region 11
  first | refine as_q rfl rfl (q_eqT rfl rfl (by omega)) ?_ | refine as_q rfl rfl (q_eqF rfl rfl (by omega)) ?_ | refine as_q rfl rfl (q_eq rfl rfl) ?_
  refine as_q rfl rfl (q_assign rfl) ?_
  refine as_nil (hK13 _ _ ?_)
  clear hK13 K13
  refine cw_false rfl ?_
  refine cw_region fun K14 hK14 => ?_
  -- region 12
  first | refine as_q rfl rfl (q_eqT rfl rfl (by omega)) ?_ | refine as_q rfl rfl (q_eqF rfl rfl (by omega)) ?_ | refine as_q rfl rfl (q_eq rfl rfl) ?_
  refine as_q rfl rfl (q_assign rfl) ?_
  refine as_nil (hK14 _ _ ?_)
  clear hK14 K14
  refine hK5 _ _ ?_
  clear hK5 K5
  refine cw_false rfl ?_
  refine cw_seq fun K15 hK15 => ?_
  refine cw_rs fun K16 hK16 => ?_
  -- region 14
  first | refine as_q rfl rfl (q_eqT rfl rfl (by omega)) ?_ | refine as_q rfl rfl (q_eqF rfl rfl (by omega)) ?_ | refine as_q rfl rfl (q_eq rfl rfl) ?_
  refine as_q rfl rfl (q_assign rfl) ?_
  refine as_nil (hK16 _ _ ?_)
  clear hK16 K16
  refine cw_false rfl ?_
  refine cw_rs fun K17 hK17 => ?_
  -- region 15
  first | refine as_q rfl rfl (q_eqT rfl rfl (by omega)) ?_ | refine as_q rfl rfl (q_eqF rfl rfl (by omega)) ?_ | refine as_q rfl rfl (q_eq rfl rfl) ?_
  refine as_q rfl rfl (q_assign rfl) ?_
  refine as_nil (hK17 _ _ ?_)
  clear hK17 K17
  refine cw_false rfl ?_
  refine cw_rs fun K18 hK18 => ?_
  -- region 16
  first | refine as_q rfl rfl (q_eqT rfl rfl (by omega)) ?_ | refine as_q rfl rfl (q_eqF rfl rfl (by omega)) ?_ | refine as_q rfl rfl (q_eq rfl rfl) ?_
  refine as_q rfl rfl (q_assign rfl) ?_
  refine as_nil (hK18 _ _ ?_)
  clear hK18 K18
  refine cw_false rfl ?_
  refine cw_rs fun K19 hK19 => ?_
  -- region 17
  first | refine as_q rfl rfl (q_eqT rfl rfl (by omega)) ?_ | refine as_q rfl rfl (q_eqF rfl rfl (by omega)) ?_ | refine as_q rfl rfl (q_eq rfl rfl) ?_
  refine as_q rfl rfl (q_assign rfl) ?_
  refine as_nil (hK19 _ _ ?_)
  clear hK19 K19
  refine cw_false rfl ?_
  refine cw_rs fun K20 hK20 => ?_
  -- region 18
  first | refine as_q rfl rfl (q_eqT rfl rfl (by omega)) ?_ | refine as_q rfl rfl (q_eqF rfl rfl (by omega)) ?_ | refine as_q rfl rfl (q_eq rfl rfl) ?_
  refine as_q rfl rfl (q_assign rfl) ?_
  refine as_nil (hK20 _ _ ?_)
  clear hK20 K20
  refine cw_true rfl ?_
  refine cw_skip ?_
  refine hK15 _ _ ?_
  clear hK15 K15
  refine cw_true rfl ?_
  refine cw_rs fun K21 hK21 => ?_
  -- region 22
  refine as_q rfl rfl (q_assign rfl) ?_
  refine as_nil (hK21 _ _ ?_)
  clear hK21 K21
  refine cw_ret ?_
  exact ⟨_, (res_tmp rfl res_nil), rfl, hT⟩

theorem rargs_17 {w : World} {M : Mem} (hs : Sat M w) :
    Does Try.prog 35 #[.int .i64 17] w (fun v w' => v = .int .i64 (2) ∧ Step Nope M w M w') := by
  have hT := Step.refl Nope hs
  refine fn_enter Try.func35 rfl (rs := [.tmp 2]) rfl rfl rfl rfl ?_
  refine cw_rs fun K1 hK1 => ?_
  -- region 0
  refine as_q rfl rfl (q_assign rfl) ?_
  refine as_nil (hK1 _ _ ?_)
  clear hK1 K1
  refine cw_seq fun K2 hK2 => ?_
  refine cw_rs fun K3 hK3 => ?_
  -- region 1
  refine as_q rfl rfl (q_move rfl) ?_
  refine as_nil (hK3 _ _ ?_)
  clear hK3 K3
  refine cw_block ?_
  refine cw_rs fun K4 hK4 => ?_
  -- region 2
  first | refine as_q rfl rfl (q_eqT rfl rfl (by omega)) ?_ | refine as_q rfl rfl (q_eqF rfl rfl (by omega)) ?_ | refine as_q rfl rfl (q_eq rfl rfl) ?_
  refine as_q rfl rfl (q_assign rfl) ?_
  refine as_nil (hK4 _ _ ?_)
  clear hK4 K4
  refine cw_false rfl ?_
  refine cw_seq fun K5 hK5 => ?_
  refine cw_rs fun K6 hK6 => ?_
  -- region 4
  first | refine as_q rfl rfl (q_eqT rfl rfl (by omega)) ?_ | refine as_q rfl rfl (q_eqF rfl rfl (by omega)) ?_ | refine as_q rfl rfl (q_eq rfl rfl) ?_
  refine as_q rfl rfl (q_assign rfl) ?_
  refine as_nil (hK6 _ _ ?_)
  clear hK6 K6
  refine cw_false rfl ?_
  refine cw_rs fun K7 hK7 => ?_
  -- region 5
  first | refine as_q rfl rfl (q_eqT rfl rfl (by omega)) ?_ | refine as_q rfl rfl (q_eqF rfl rfl (by omega)) ?_ | refine as_q rfl rfl (q_eq rfl rfl) ?_
  refine as_q rfl rfl (q_assign rfl) ?_
  refine as_nil (hK7 _ _ ?_)
  clear hK7 K7
  refine cw_false rfl ?_
  refine cw_rs fun K8 hK8 => ?_
  -- region 6
  first | refine as_q rfl rfl (q_eqT rfl rfl (by omega)) ?_ | refine as_q rfl rfl (q_eqF rfl rfl (by omega)) ?_ | refine as_q rfl rfl (q_eq rfl rfl) ?_
  refine as_q rfl rfl (q_assign rfl) ?_
  refine as_nil (hK8 _ _ ?_)
  clear hK8 K8
  refine cw_false rfl ?_
  refine cw_rs fun K9 hK9 => ?_
  -- region 7
  first | refine as_q rfl rfl (q_eqT rfl rfl (by omega)) ?_ | refine as_q rfl rfl (q_eqF rfl rfl (by omega)) ?_ | refine as_q rfl rfl (q_eq rfl rfl) ?_
  refine as_q rfl rfl (q_assign rfl) ?_
  refine as_nil (hK9 _ _ ?_)
  clear hK9 K9
  refine cw_false rfl ?_
  refine cw_rs fun K10 hK10 => ?_
  -- region 8
  first | refine as_q rfl rfl (q_eqT rfl rfl (by omega)) ?_ | refine as_q rfl rfl (q_eqF rfl rfl (by omega)) ?_ | refine as_q rfl rfl (q_eq rfl rfl) ?_
  refine as_q rfl rfl (q_assign rfl) ?_
  refine as_nil (hK10 _ _ ?_)
  clear hK10 K10
  refine cw_false rfl ?_
  refine cw_rs fun K11 hK11 => ?_
  -- region 9
  first | refine as_q rfl rfl (q_eqT rfl rfl (by omega)) ?_ | refine as_q rfl rfl (q_eqF rfl rfl (by omega)) ?_ | refine as_q rfl rfl (q_eq rfl rfl) ?_
  refine as_q rfl rfl (q_assign rfl) ?_
  refine as_nil (hK11 _ _ ?_)
  clear hK11 K11
  refine cw_false rfl ?_
  refine cw_rs fun K12 hK12 => ?_
  -- region 10
  first | refine as_q rfl rfl (q_eqT rfl rfl (by omega)) ?_ | refine as_q rfl rfl (q_eqF rfl rfl (by omega)) ?_ | refine as_q rfl rfl (q_eq rfl rfl) ?_
  refine as_q rfl rfl (q_assign rfl) ?_
  refine as_nil (hK12 _ _ ?_)
  clear hK12 K12
  refine cw_false rfl ?_
  refine cw_rs fun K13 hK13 => ?_
  -- region 11
  first | refine as_q rfl rfl (q_eqT rfl rfl (by omega)) ?_ | refine as_q rfl rfl (q_eqF rfl rfl (by omega)) ?_ | refine as_q rfl rfl (q_eq rfl rfl) ?_
  refine as_q rfl rfl (q_assign rfl) ?_
  refine as_nil (hK13 _ _ ?_)
  clear hK13 K13
  refine cw_false rfl ?_
  refine cw_region fun K14 hK14 => ?_
  -- region 12
  first | refine as_q rfl rfl (q_eqT rfl rfl (by omega)) ?_ | refine as_q rfl rfl (q_eqF rfl rfl (by omega)) ?_ | refine as_q rfl rfl (q_eq rfl rfl) ?_
  refine as_q rfl rfl (q_assign rfl) ?_
  refine as_nil (hK14 _ _ ?_)
  clear hK14 K14
  refine hK5 _ _ ?_
  clear hK5 K5
  refine cw_false rfl ?_
  refine cw_seq fun K15 hK15 => ?_
  refine cw_rs fun K16 hK16 => ?_
  -- region 14
  first | refine as_q rfl rfl (q_eqT rfl rfl (by omega)) ?_ | refine as_q rfl rfl (q_eqF rfl rfl (by omega)) ?_ | refine as_q rfl rfl (q_eq rfl rfl) ?_
  refine as_q rfl rfl (q_assign rfl) ?_
  refine as_nil (hK16 _ _ ?_)
  clear hK16 K16
  refine cw_false rfl ?_
  refine cw_rs fun K17 hK17 => ?_
  -- region 15
  first | refine as_q rfl rfl (q_eqT rfl rfl (by omega)) ?_ | refine as_q rfl rfl (q_eqF rfl rfl (by omega)) ?_ | refine as_q rfl rfl (q_eq rfl rfl) ?_
  refine as_q rfl rfl (q_assign rfl) ?_
  refine as_nil (hK17 _ _ ?_)
  clear hK17 K17
  refine cw_false rfl ?_
  refine cw_rs fun K18 hK18 => ?_
  -- region 16
  first | refine as_q rfl rfl (q_eqT rfl rfl (by omega)) ?_ | refine as_q rfl rfl (q_eqF rfl rfl (by omega)) ?_ | refine as_q rfl rfl (q_eq rfl rfl) ?_
  refine as_q rfl rfl (q_assign rfl) ?_
  refine as_nil (hK18 _ _ ?_)
  clear hK18 K18
  refine cw_false rfl ?_
  refine cw_rs fun K19 hK19 => ?_
  -- region 17
  first | refine as_q rfl rfl (q_eqT rfl rfl (by omega)) ?_ | refine as_q rfl rfl (q_eqF rfl rfl (by omega)) ?_ | refine as_q rfl rfl (q_eq rfl rfl) ?_
  refine as_q rfl rfl (q_assign rfl) ?_
  refine as_nil (hK19 _ _ ?_)
  clear hK19 K19
  refine cw_false rfl ?_
  refine cw_rs fun K20 hK20 => ?_
  -- region 18
  first | refine as_q rfl rfl (q_eqT rfl rfl (by omega)) ?_ | refine as_q rfl rfl (q_eqF rfl rfl (by omega)) ?_ | refine as_q rfl rfl (q_eq rfl rfl) ?_
  refine as_q rfl rfl (q_assign rfl) ?_
  refine as_nil (hK20 _ _ ?_)
  clear hK20 K20
  refine cw_false rfl ?_
  refine cw_rs fun K21 hK21 => ?_
  -- region 19
  first | refine as_q rfl rfl (q_eqT rfl rfl (by omega)) ?_ | refine as_q rfl rfl (q_eqF rfl rfl (by omega)) ?_ | refine as_q rfl rfl (q_eq rfl rfl) ?_
  refine as_q rfl rfl (q_assign rfl) ?_
  refine as_nil (hK21 _ _ ?_)
  clear hK21 K21
  refine cw_true rfl ?_
  refine cw_skip ?_
  refine hK15 _ _ ?_
  clear hK15 K15
  refine cw_true rfl ?_
  refine cw_rs fun K22 hK22 => ?_
  -- region 22
  refine as_q rfl rfl (q_assign rfl) ?_
  refine as_nil (hK22 _ _ ?_)
  clear hK22 K22
  refine cw_ret ?_
  exact ⟨_, (res_tmp rfl res_nil), rfl, hT⟩

theorem rargs_18 {w : World} {M : Mem} (hs : Sat M w) :
    Does Try.prog 35 #[.int .i64 18] w (fun v w' => v = .int .i64 (2) ∧ Step Nope M w M w') := by
  have hT := Step.refl Nope hs
  refine fn_enter Try.func35 rfl (rs := [.tmp 2]) rfl rfl rfl rfl ?_
  refine cw_rs fun K1 hK1 => ?_
  -- region 0
  refine as_q rfl rfl (q_assign rfl) ?_
  refine as_nil (hK1 _ _ ?_)
  clear hK1 K1
  refine cw_seq fun K2 hK2 => ?_
  refine cw_rs fun K3 hK3 => ?_
  -- region 1
  refine as_q rfl rfl (q_move rfl) ?_
  refine as_nil (hK3 _ _ ?_)
  clear hK3 K3
  refine cw_block ?_
  refine cw_rs fun K4 hK4 => ?_
  -- region 2
  first | refine as_q rfl rfl (q_eqT rfl rfl (by omega)) ?_ | refine as_q rfl rfl (q_eqF rfl rfl (by omega)) ?_ | refine as_q rfl rfl (q_eq rfl rfl) ?_
  refine as_q rfl rfl (q_assign rfl) ?_
  refine as_nil (hK4 _ _ ?_)
  clear hK4 K4
  refine cw_false rfl ?_
  refine cw_seq fun K5 hK5 => ?_
  refine cw_rs fun K6 hK6 => ?_
  -- region 4
  first | refine as_q rfl rfl (q_eqT rfl rfl (by omega)) ?_ | refine as_q rfl rfl (q_eqF rfl rfl (by omega)) ?_ | refine as_q rfl rfl (q_eq rfl rfl) ?_
  refine as_q rfl rfl (q_assign rfl) ?_
  refine as_nil (hK6 _ _ ?_)
  clear hK6 K6
  refine cw_false rfl ?_
  refine cw_rs fun K7 hK7 => ?_
  -- region 5
  first | refine as_q rfl rfl (q_eqT rfl rfl (by omega)) ?_ | refine as_q rfl rfl (q_eqF rfl rfl (by omega)) ?_ | refine as_q rfl rfl (q_eq rfl rfl) ?_
  refine as_q rfl rfl (q_assign rfl) ?_
  refine as_nil (hK7 _ _ ?_)
  clear hK7 K7
  refine cw_false rfl ?_
  refine cw_rs fun K8 hK8 => ?_
  -- region 6
  first | refine as_q rfl rfl (q_eqT rfl rfl (by omega)) ?_ | refine as_q rfl rfl (q_eqF rfl rfl (by omega)) ?_ | refine as_q rfl rfl (q_eq rfl rfl) ?_
  refine as_q rfl rfl (q_assign rfl) ?_
  refine as_nil (hK8 _ _ ?_)
  clear hK8 K8
  refine cw_false rfl ?_
  refine cw_rs fun K9 hK9 => ?_
  -- region 7
  first | refine as_q rfl rfl (q_eqT rfl rfl (by omega)) ?_ | refine as_q rfl rfl (q_eqF rfl rfl (by omega)) ?_ | refine as_q rfl rfl (q_eq rfl rfl) ?_
  refine as_q rfl rfl (q_assign rfl) ?_
  refine as_nil (hK9 _ _ ?_)
  clear hK9 K9
  refine cw_false rfl ?_
  refine cw_rs fun K10 hK10 => ?_
  -- region 8
  first | refine as_q rfl rfl (q_eqT rfl rfl (by omega)) ?_ | refine as_q rfl rfl (q_eqF rfl rfl (by omega)) ?_ | refine as_q rfl rfl (q_eq rfl rfl) ?_
  refine as_q rfl rfl (q_assign rfl) ?_
  refine as_nil (hK10 _ _ ?_)
  clear hK10 K10
  refine cw_false rfl ?_
  refine cw_rs fun K11 hK11 => ?_
  -- region 9
  first | refine as_q rfl rfl (q_eqT rfl rfl (by omega)) ?_ | refine as_q rfl rfl (q_eqF rfl rfl (by omega)) ?_ | refine as_q rfl rfl (q_eq rfl rfl) ?_
  refine as_q rfl rfl (q_assign rfl) ?_
  refine as_nil (hK11 _ _ ?_)
  clear hK11 K11
  refine cw_false rfl ?_
  refine cw_rs fun K12 hK12 => ?_
  -- region 10
  first | refine as_q rfl rfl (q_eqT rfl rfl (by omega)) ?_ | refine as_q rfl rfl (q_eqF rfl rfl (by omega)) ?_ | refine as_q rfl rfl (q_eq rfl rfl) ?_
  refine as_q rfl rfl (q_assign rfl) ?_
  refine as_nil (hK12 _ _ ?_)
  clear hK12 K12
  refine cw_false rfl ?_
  refine cw_rs fun K13 hK13 => ?_
  -- region 11
  first | refine as_q rfl rfl (q_eqT rfl rfl (by omega)) ?_ | refine as_q rfl rfl (q_eqF rfl rfl (by omega)) ?_ | refine as_q rfl rfl (q_eq rfl rfl) ?_
  refine as_q rfl rfl (q_assign rfl) ?_
  refine as_nil (hK13 _ _ ?_)
  clear hK13 K13
  refine cw_false rfl ?_
  refine cw_region fun K14 hK14 => ?_
  -- region 12
  first | refine as_q rfl rfl (q_eqT rfl rfl (by omega)) ?_ | refine as_q rfl rfl (q_eqF rfl rfl (by omega)) ?_ | refine as_q rfl rfl (q_eq rfl rfl) ?_
  refine as_q rfl rfl (q_assign rfl) ?_
  refine as_nil (hK14 _ _ ?_)
  clear hK14 K14
  refine hK5 _ _ ?_
  clear hK5 K5
  refine cw_false rfl ?_
  refine cw_seq fun K15 hK15 => ?_
  refine cw_rs fun K16 hK16 => ?_
  -- region 14
  first | refine as_q rfl rfl (q_eqT rfl rfl (by omega)) ?_ | refine as_q rfl rfl (q_eqF rfl rfl (by omega)) ?_ | refine as_q rfl rfl (q_eq rfl rfl) ?_
  refine as_q rfl rfl (q_assign rfl) ?_
  refine as_nil (hK16 _ _ ?_)
  clear hK16 K16
  refine cw_false rfl ?_
  refine cw_rs fun K17 hK17 => ?_
  -- region 15
  first | refine as_q rfl rfl (q_eqT rfl rfl (by omega)) ?_ | refine as_q rfl rfl (q_eqF rfl rfl (by omega)) ?_ | refine as_q rfl rfl (q_eq rfl rfl) ?_
  refine as_q rfl rfl (q_assign rfl) ?_
  refine as_nil (hK17 _ _ ?_)
  clear hK17 K17
  refine cw_false rfl ?_
  refine cw_rs fun K18 hK18 => ?_
  -- region 16
  first | refine as_q rfl rfl (q_eqT rfl rfl (by omega)) ?_ | refine as_q rfl rfl (q_eqF rfl rfl (by omega)) ?_ | refine as_q rfl rfl (q_eq rfl rfl) ?_
  refine as_q rfl rfl (q_assign rfl) ?_
  refine as_nil (hK18 _ _ ?_)
  clear hK18 K18
  refine cw_false rfl ?_
  refine cw_rs fun K19 hK19 => ?_
  -- region 17
  first | refine as_q rfl rfl (q_eqT rfl rfl (by omega)) ?_ | refine as_q rfl rfl (q_eqF rfl rfl (by omega)) ?_ | refine as_q rfl rfl (q_eq rfl rfl) ?_
  refine as_q rfl rfl (q_assign rfl) ?_
  refine as_nil (hK19 _ _ ?_)
  clear hK19 K19
  refine cw_false rfl ?_
  refine cw_rs fun K20 hK20 => ?_
  -- region 18
  first | refine as_q rfl rfl (q_eqT rfl rfl (by omega)) ?_ | refine as_q rfl rfl (q_eqF rfl rfl (by omega)) ?_ | refine as_q rfl rfl (q_eq rfl rfl) ?_
  refine as_q rfl rfl (q_assign rfl) ?_
  refine as_nil (hK20 _ _ ?_)
  clear hK20 K20
  refine cw_false rfl ?_
  refine cw_rs fun K21 hK21 => ?_
  -- region 19
  first | refine as_q rfl rfl (q_eqT rfl rfl (by omega)) ?_ | refine as_q rfl rfl (q_eqF rfl rfl (by omega)) ?_ | refine as_q rfl rfl (q_eq rfl rfl) ?_
  refine as_q rfl rfl (q_assign rfl) ?_
  refine as_nil (hK21 _ _ ?_)
  clear hK21 K21
  refine cw_false rfl ?_
  refine cw_rs fun K22 hK22 => ?_
  -- region 20
  first | refine as_q rfl rfl (q_eqT rfl rfl (by omega)) ?_ | refine as_q rfl rfl (q_eqF rfl rfl (by omega)) ?_ | refine as_q rfl rfl (q_eq rfl rfl) ?_
  refine as_q rfl rfl (q_assign rfl) ?_
  refine as_nil (hK22 _ _ ?_)
  clear hK22 K22
  refine cw_true rfl ?_
  refine cw_skip ?_
  refine hK15 _ _ ?_
  clear hK15 K15
  refine cw_true rfl ?_
  refine cw_rs fun K23 hK23 => ?_
  -- region 22
  refine as_q rfl rfl (q_assign rfl) ?_
  refine as_nil (hK23 _ _ ?_)
  clear hK23 K23
  refine cw_ret ?_
  exact ⟨_, (res_tmp rfl res_nil), rfl, hT⟩

theorem rargs_19 {w : World} {M : Mem} (hs : Sat M w) :
    Does Try.prog 35 #[.int .i64 19] w (fun v w' => v = .int .i64 (1) ∧ Step Nope M w M w') := by
  have hT := Step.refl Nope hs
  refine fn_enter Try.func35 rfl (rs := [.tmp 2]) rfl rfl rfl rfl ?_
  refine cw_rs fun K1 hK1 => ?_
  -- region 0
  refine as_q rfl rfl (q_assign rfl) ?_
  refine as_nil (hK1 _ _ ?_)
  clear hK1 K1
  refine cw_seq fun K2 hK2 => ?_
  refine cw_rs fun K3 hK3 => ?_
  -- region 1
  refine as_q rfl rfl (q_move rfl) ?_
  refine as_nil (hK3 _ _ ?_)
  clear hK3 K3
  refine cw_block ?_
  refine cw_rs fun K4 hK4 => ?_
  -- region 2
  first | refine as_q rfl rfl (q_eqT rfl rfl (by omega)) ?_ | refine as_q rfl rfl (q_eqF rfl rfl (by omega)) ?_ | refine as_q rfl rfl (q_eq rfl rfl) ?_
  refine as_q rfl rfl (q_assign rfl) ?_
  refine as_nil (hK4 _ _ ?_)
  clear hK4 K4
  refine cw_false rfl ?_
  refine cw_seq fun K5 hK5 => ?_
  refine cw_rs fun K6 hK6 => ?_
  -- region 4
  first | refine as_q rfl rfl (q_eqT rfl rfl (by omega)) ?_ | refine as_q rfl rfl (q_eqF rfl rfl (by omega)) ?_ | refine as_q rfl rfl (q_eq rfl rfl) ?_
  refine as_q rfl rfl (q_assign rfl) ?_
  refine as_nil (hK6 _ _ ?_)
  clear hK6 K6
  refine cw_false rfl ?_
  refine cw_rs fun K7 hK7 => ?_
  -- region 5
  first | refine as_q rfl rfl (q_eqT rfl rfl (by omega)) ?_ | refine as_q rfl rfl (q_eqF rfl rfl (by omega)) ?_ | refine as_q rfl rfl (q_eq rfl rfl) ?_
  refine as_q rfl rfl (q_assign rfl) ?_
  refine as_nil (hK7 _ _ ?_)
  clear hK7 K7
  refine cw_false rfl ?_
  refine cw_rs fun K8 hK8 => ?_
  -- region 6
  first | refine as_q rfl rfl (q_eqT rfl rfl (by omega)) ?_ | refine as_q rfl rfl (q_eqF rfl rfl (by omega)) ?_ | refine as_q rfl rfl (q_eq rfl rfl) ?_
  refine as_q rfl rfl (q_assign rfl) ?_
  refine as_nil (hK8 _ _ ?_)
  clear hK8 K8
  refine cw_false rfl ?_
  refine cw_rs fun K9 hK9 => ?_
  -- region 7
  first | refine as_q rfl rfl (q_eqT rfl rfl (by omega)) ?_ | refine as_q rfl rfl (q_eqF rfl rfl (by omega)) ?_ | refine as_q rfl rfl (q_eq rfl rfl) ?_
  refine as_q rfl rfl (q_assign rfl) ?_
  refine as_nil (hK9 _ _ ?_)
  clear hK9 K9
  refine cw_false rfl ?_
  refine cw_rs fun K10 hK10 => ?_
  -- region 8
  first | refine as_q rfl rfl (q_eqT rfl rfl (by omega)) ?_ | refine as_q rfl rfl (q_eqF rfl rfl (by omega)) ?_ | refine as_q rfl rfl (q_eq rfl rfl) ?_
  refine as_q rfl rfl (q_assign rfl) ?_
  refine as_nil (hK10 _ _ ?_)
  clear hK10 K10
  refine cw_false rfl ?_
  refine cw_rs fun K11 hK11 => ?_
  -- region 9
  first | refine as_q rfl rfl (q_eqT rfl rfl (by omega)) ?_ | refine as_q rfl rfl (q_eqF rfl rfl (by omega)) ?_ | refine as_q rfl rfl (q_eq rfl rfl) ?_
  refine as_q rfl rfl (q_assign rfl) ?_
  refine as_nil (hK11 _ _ ?_)
  clear hK11 K11
  refine cw_false rfl ?_
  refine cw_rs fun K12 hK12 => ?_
  -- region 10
  first | refine as_q rfl rfl (q_eqT rfl rfl (by omega)) ?_ | refine as_q rfl rfl (q_eqF rfl rfl (by omega)) ?_ | refine as_q rfl rfl (q_eq rfl rfl) ?_
  refine as_q rfl rfl (q_assign rfl) ?_
  refine as_nil (hK12 _ _ ?_)
  clear hK12 K12
  refine cw_false rfl ?_
  refine cw_rs fun K13 hK13 => ?_
  -- region 11
  first | refine as_q rfl rfl (q_eqT rfl rfl (by omega)) ?_ | refine as_q rfl rfl (q_eqF rfl rfl (by omega)) ?_ | refine as_q rfl rfl (q_eq rfl rfl) ?_
  refine as_q rfl rfl (q_assign rfl) ?_
  refine as_nil (hK13 _ _ ?_)
  clear hK13 K13
  refine cw_true rfl ?_
  refine cw_skip ?_
  refine hK5 _ _ ?_
  clear hK5 K5
  refine cw_true rfl ?_
  refine cw_rs fun K14 hK14 => ?_
  -- region 13
  refine as_q rfl rfl (q_assign rfl) ?_
  refine as_nil (hK14 _ _ ?_)
  clear hK14 K14
  refine cw_ret ?_
  exact ⟨_, (res_tmp rfl res_nil), rfl, hT⟩

theorem rargs_20 {w : World} {M : Mem} (hs : Sat M w) :
    Does Try.prog 35 #[.int .i64 20] w (fun v w' => v = .int .i64 (3) ∧ Step Nope M w M w') := by
  have hT := Step.refl Nope hs
  refine fn_enter Try.func35 rfl (rs := [.tmp 2]) rfl rfl rfl rfl ?_
  refine cw_rs fun K1 hK1 => ?_
  -- region 0
  refine as_q rfl rfl (q_assign rfl) ?_
  refine as_nil (hK1 _ _ ?_)
  clear hK1 K1
  refine cw_seq fun K2 hK2 => ?_
  refine cw_rs fun K3 hK3 => ?_
  -- region 1
  refine as_q rfl rfl (q_move rfl) ?_
  refine as_nil (hK3 _ _ ?_)
  clear hK3 K3
  refine cw_block ?_
  refine cw_rs fun K4 hK4 => ?_
  -- region 2
  first | refine as_q rfl rfl (q_eqT rfl rfl (by omega)) ?_ | refine as_q rfl rfl (q_eqF rfl rfl (by omega)) ?_ | refine as_q rfl rfl (q_eq rfl rfl) ?_
  refine as_q rfl rfl (q_assign rfl) ?_
  refine as_nil (hK4 _ _ ?_)
  clear hK4 K4
  refine cw_false rfl ?_
  refine cw_seq fun K5 hK5 => ?_
  refine cw_rs fun K6 hK6 => ?_
  -- region 4
  first | refine as_q rfl rfl (q_eqT rfl rfl (by omega)) ?_ | refine as_q rfl rfl (q_eqF rfl rfl (by omega)) ?_ | refine as_q rfl rfl (q_eq rfl rfl) ?_
  refine as_q rfl rfl (q_assign rfl) ?_
  refine as_nil (hK6 _ _ ?_)
  clear hK6 K6
  refine cw_false rfl ?_
  refine cw_rs fun K7 hK7 => ?_
  -- region 5
  first | refine as_q rfl rfl (q_eqT rfl rfl (by omega)) ?_ | refine as_q rfl rfl (q_eqF rfl rfl (by omega)) ?_ | refine as_q rfl rfl (q_eq rfl rfl) ?_
  refine as_q rfl rfl (q_assign rfl) ?_
  refine as_nil (hK7 _ _ ?_)
  clear hK7 K7
  refine cw_false rfl ?_
  refine cw_rs fun K8 hK8 => ?_
  -- region 6
  first | refine as_q rfl rfl (q_eqT rfl rfl (by omega)) ?_ | refine as_q rfl rfl (q_eqF rfl rfl (by omega)) ?_ | refine as_q rfl rfl (q_eq rfl rfl) ?_
  refine as_q rfl rfl (q_assign rfl) ?_
  refine as_nil (hK8 _ _ ?_)
  clear hK8 K8
  refine cw_false rfl ?_
  refine cw_rs fun K9 hK9 => ?_
  -- region 7
  first | refine as_q rfl rfl (q_eqT rfl rfl (by omega)) ?_ | refine as_q rfl rfl (q_eqF rfl rfl (by omega)) ?_ | refine as_q rfl rfl (q_eq rfl rfl) ?_
  refine as_q rfl rfl (q_assign rfl) ?_
  refine as_nil (hK9 _ _ ?_)
  clear hK9 K9
  refine cw_false rfl ?_
  refine cw_rs fun K10 hK10 => ?_
  -- region 8
  first | refine as_q rfl rfl (q_eqT rfl rfl (by omega)) ?_ | refine as_q rfl rfl (q_eqF rfl rfl (by omega)) ?_ | refine as_q rfl rfl (q_eq rfl rfl) ?_
  refine as_q rfl rfl (q_assign rfl) ?_
  refine as_nil (hK10 _ _ ?_)
  clear hK10 K10
  refine cw_false rfl ?_
  refine cw_rs fun K11 hK11 => ?_
  -- region 9
  first | refine as_q rfl rfl (q_eqT rfl rfl (by omega)) ?_ | refine as_q rfl rfl (q_eqF rfl rfl (by omega)) ?_ | refine as_q rfl rfl (q_eq rfl rfl) ?_
  refine as_q rfl rfl (q_assign rfl) ?_
  refine as_nil (hK11 _ _ ?_)
  clear hK11 K11
  refine cw_false rfl ?_
  refine cw_rs fun K12 hK12 => ?_
  -- region 10
  first | refine as_q rfl rfl (q_eqT rfl rfl (by omega)) ?_ | refine as_q rfl rfl (q_eqF rfl rfl (by omega)) ?_ | refine as_q rfl rfl (q_eq rfl rfl) ?_
  refine as_q rfl rfl (q_assign rfl) ?_
  refine as_nil (hK12 _ _ ?_)
  clear hK12 K12
  refine cw_false rfl ?_
  refine cw_rs fun K13 hK13 => ?_
  -- region 11
  first | refine as_q rfl rfl (q_eqT rfl rfl (by omega)) ?_ | refine as_q rfl rfl (q_eqF rfl rfl (by omega)) ?_ | refine as_q rfl rfl (q_eq rfl rfl) ?_
  refine as_q rfl rfl (q_assign rfl) ?_
  refine as_nil (hK13 _ _ ?_)
  clear hK13 K13
  refine cw_false rfl ?_
  refine cw_region fun K14 hK14 => ?_
  -- region 12
  first | refine as_q rfl rfl (q_eqT rfl rfl (by omega)) ?_ | refine as_q rfl rfl (q_eqF rfl rfl (by omega)) ?_ | refine as_q rfl rfl (q_eq rfl rfl) ?_
  refine as_q rfl rfl (q_assign rfl) ?_
  refine as_nil (hK14 _ _ ?_)
  clear hK14 K14
  refine hK5 _ _ ?_
  clear hK5 K5
  refine cw_false rfl ?_
  refine cw_seq fun K15 hK15 => ?_
  refine cw_rs fun K16 hK16 => ?_
  -- region 14
  first | refine as_q rfl rfl (q_eqT rfl rfl (by omega)) ?_ | refine as_q rfl rfl (q_eqF rfl rfl (by omega)) ?_ | refine as_q rfl rfl (q_eq rfl rfl) ?_
  refine as_q rfl rfl (q_assign rfl) ?_
  refine as_nil (hK16 _ _ ?_)
  clear hK16 K16
  refine cw_false rfl ?_
  refine cw_rs fun K17 hK17 => ?_
  -- region 15
  first | refine as_q rfl rfl (q_eqT rfl rfl (by omega)) ?_ | refine as_q rfl rfl (q_eqF rfl rfl (by omega)) ?_ | refine as_q rfl rfl (q_eq rfl rfl) ?_
  refine as_q rfl rfl (q_assign rfl) ?_
  refine as_nil (hK17 _ _ ?_)
  clear hK17 K17
  refine cw_false rfl ?_
  refine cw_rs fun K18 hK18 => ?_
  -- region 16
  first | refine as_q rfl rfl (q_eqT rfl rfl (by omega)) ?_ | refine as_q rfl rfl (q_eqF rfl rfl (by omega)) ?_ | refine as_q rfl rfl (q_eq rfl rfl) ?_
  refine as_q rfl rfl (q_assign rfl) ?_
  refine as_nil (hK18 _ _ ?_)
  clear hK18 K18
  refine cw_false rfl ?_
  refine cw_rs fun K19 hK19 => ?_
  -- region 17
  first | refine as_q rfl rfl (q_eqT rfl rfl (by omega)) ?_ | refine as_q rfl rfl (q_eqF rfl rfl (by omega)) ?_ | refine as_q rfl rfl (q_eq rfl rfl) ?_
  refine as_q rfl rfl (q_assign rfl) ?_
  refine as_nil (hK19 _ _ ?_)
  clear hK19 K19
  refine cw_false rfl ?_
  refine cw_rs fun K20 hK20 => ?_
  -- region 18
  first | refine as_q rfl rfl (q_eqT rfl rfl (by omega)) ?_ | refine as_q rfl rfl (q_eqF rfl rfl (by omega)) ?_ | refine as_q rfl rfl (q_eq rfl rfl) ?_
  refine as_q rfl rfl (q_assign rfl) ?_
  refine as_nil (hK20 _ _ ?_)
  clear hK20 K20
  refine cw_false rfl ?_
  refine cw_rs fun K21 hK21 => ?_
  -- region 19
  first | refine as_q rfl rfl (q_eqT rfl rfl (by omega)) ?_ | refine as_q rfl rfl (q_eqF rfl rfl (by omega)) ?_ | refine as_q rfl rfl (q_eq rfl rfl) ?_
  refine as_q rfl rfl (q_assign rfl) ?_
  refine as_nil (hK21 _ _ ?_)
  clear hK21 K21
  refine cw_false rfl ?_
  refine cw_rs fun K22 hK22 => ?_
  -- region 20
  first | refine as_q rfl rfl (q_eqT rfl rfl (by omega)) ?_ | refine as_q rfl rfl (q_eqF rfl rfl (by omega)) ?_ | refine as_q rfl rfl (q_eq rfl rfl) ?_
  refine as_q rfl rfl (q_assign rfl) ?_
  refine as_nil (hK22 _ _ ?_)
  clear hK22 K22
  refine cw_false rfl ?_
  refine cw_region fun K23 hK23 => ?_
  -- region 21
  first | refine as_q rfl rfl (q_eqT rfl rfl (by omega)) ?_ | refine as_q rfl rfl (q_eqF rfl rfl (by omega)) ?_ | refine as_q rfl rfl (q_eq rfl rfl) ?_
  refine as_q rfl rfl (q_assign rfl) ?_
  refine as_nil (hK23 _ _ ?_)
  clear hK23 K23
  refine hK15 _ _ ?_
  clear hK15 K15
  refine cw_false rfl ?_
  refine cw_seq fun K24 hK24 => ?_
  refine cw_rs fun K25 hK25 => ?_
  -- region 23
  first | refine as_q rfl rfl (q_eqT rfl rfl (by omega)) ?_ | refine as_q rfl rfl (q_eqF rfl rfl (by omega)) ?_ | refine as_q rfl rfl (q_eq rfl rfl) ?_
  refine as_q rfl rfl (q_assign rfl) ?_
  refine as_nil (hK25 _ _ ?_)
  clear hK25 K25
  refine cw_false rfl ?_
  refine cw_rs fun K26 hK26 => ?_
  -- region 24
  first | refine as_q rfl rfl (q_eqT rfl rfl (by omega)) ?_ | refine as_q rfl rfl (q_eqF rfl rfl (by omega)) ?_ | refine as_q rfl rfl (q_eq rfl rfl) ?_
  refine as_q rfl rfl (q_assign rfl) ?_
  refine as_nil (hK26 _ _ ?_)
  clear hK26 K26
  refine cw_false rfl ?_
  refine cw_rs fun K27 hK27 => ?_
  -- region 25
  first | refine as_q rfl rfl (q_eqT rfl rfl (by omega)) ?_ | refine as_q rfl rfl (q_eqF rfl rfl (by omega)) ?_ | refine as_q rfl rfl (q_eq rfl rfl) ?_
  refine as_q rfl rfl (q_assign rfl) ?_
  refine as_nil (hK27 _ _ ?_)
  clear hK27 K27
  refine cw_false rfl ?_
  refine cw_region fun K28 hK28 => ?_
  -- region 26
  first | refine as_q rfl rfl (q_eqT rfl rfl (by omega)) ?_ | refine as_q rfl rfl (q_eqF rfl rfl (by omega)) ?_ | refine as_q rfl rfl (q_eq rfl rfl) ?_
  refine as_q rfl rfl (q_assign rfl) ?_
  refine as_nil (hK28 _ _ ?_)
  clear hK28 K28
  refine hK24 _ _ ?_
  clear hK24 K24
  refine cw_true rfl ?_
  refine cw_rs fun K29 hK29 => ?_
  -- region 27
  refine as_q rfl rfl (q_assign rfl) ?_
  refine as_nil (hK29 _ _ ?_)
  clear hK29 K29
  refine cw_ret ?_
  exact ⟨_, (res_tmp rfl res_nil), rfl, hT⟩

theorem rargs_21 {w : World} {M : Mem} (hs : Sat M w) :
    Does Try.prog 35 #[.int .i64 21] w (fun v w' => v = .int .i64 (1) ∧ Step Nope M w M w') := by
  have hT := Step.refl Nope hs
  refine fn_enter Try.func35 rfl (rs := [.tmp 2]) rfl rfl rfl rfl ?_
  refine cw_rs fun K1 hK1 => ?_
  -- region 0
  refine as_q rfl rfl (q_assign rfl) ?_
  refine as_nil (hK1 _ _ ?_)
  clear hK1 K1
  refine cw_seq fun K2 hK2 => ?_
  refine cw_rs fun K3 hK3 => ?_
  -- region 1
  refine as_q rfl rfl (q_move rfl) ?_
  refine as_nil (hK3 _ _ ?_)
  clear hK3 K3
  refine cw_block ?_
  refine cw_rs fun K4 hK4 => ?_
  -- region 2
  first | refine as_q rfl rfl (q_eqT rfl rfl (by omega)) ?_ | refine as_q rfl rfl (q_eqF rfl rfl (by omega)) ?_ | refine as_q rfl rfl (q_eq rfl rfl) ?_
  refine as_q rfl rfl (q_assign rfl) ?_
  refine as_nil (hK4 _ _ ?_)
  clear hK4 K4
  refine cw_false rfl ?_
  refine cw_seq fun K5 hK5 => ?_
  refine cw_rs fun K6 hK6 => ?_
  -- region 4
  first | refine as_q rfl rfl (q_eqT rfl rfl (by omega)) ?_ | refine as_q rfl rfl (q_eqF rfl rfl (by omega)) ?_ | refine as_q rfl rfl (q_eq rfl rfl) ?_
  refine as_q rfl rfl (q_assign rfl) ?_
  refine as_nil (hK6 _ _ ?_)
  clear hK6 K6
  refine cw_false rfl ?_
  refine cw_rs fun K7 hK7 => ?_
  -- region 5
  first | refine as_q rfl rfl (q_eqT rfl rfl (by omega)) ?_ | refine as_q rfl rfl (q_eqF rfl rfl (by omega)) ?_ | refine as_q rfl rfl (q_eq rfl rfl) ?_
  refine as_q rfl rfl (q_assign rfl) ?_
  refine as_nil (hK7 _ _ ?_)
  clear hK7 K7
  refine cw_false rfl ?_
  refine cw_rs fun K8 hK8 => ?_
  -- region 6
  first | refine as_q rfl rfl (q_eqT rfl rfl (by omega)) ?_ | refine as_q rfl rfl (q_eqF rfl rfl (by omega)) ?_ | refine as_q rfl rfl (q_eq rfl rfl) ?_
  refine as_q rfl rfl (q_assign rfl) ?_
  refine as_nil (hK8 _ _ ?_)
  clear hK8 K8
  refine cw_false rfl ?_
  refine cw_rs fun K9 hK9 => ?_
  -- region 7
  first | refine as_q rfl rfl (q_eqT rfl rfl (by omega)) ?_ | refine as_q rfl rfl (q_eqF rfl rfl (by omega)) ?_ | refine as_q rfl rfl (q_eq rfl rfl) ?_
  refine as_q rfl rfl (q_assign rfl) ?_
  refine as_nil (hK9 _ _ ?_)
  clear hK9 K9
  refine cw_false rfl ?_
  refine cw_rs fun K10 hK10 => ?_
  -- region 8
  first | refine as_q rfl rfl (q_eqT rfl rfl (by omega)) ?_ | refine as_q rfl rfl (q_eqF rfl rfl (by omega)) ?_ | refine as_q rfl rfl (q_eq rfl rfl) ?_
  refine as_q rfl rfl (q_assign rfl) ?_
  refine as_nil (hK10 _ _ ?_)
  clear hK10 K10
  refine cw_false rfl ?_
  refine cw_rs fun K11 hK11 => ?_
  -- region 9
  first | refine as_q rfl rfl (q_eqT rfl rfl (by omega)) ?_ | refine as_q rfl rfl (q_eqF rfl rfl (by omega)) ?_ | refine as_q rfl rfl (q_eq rfl rfl) ?_
  refine as_q rfl rfl (q_assign rfl) ?_
  refine as_nil (hK11 _ _ ?_)
  clear hK11 K11
  refine cw_false rfl ?_
  refine cw_rs fun K12 hK12 => ?_
  -- region 10
  first | refine as_q rfl rfl (q_eqT rfl rfl (by omega)) ?_ | refine as_q rfl rfl (q_eqF rfl rfl (by omega)) ?_ | refine as_q rfl rfl (q_eq rfl rfl) ?_
  refine as_q rfl rfl (q_assign rfl) ?_
  refine as_nil (hK12 _ _ ?_)
  clear hK12 K12
  refine cw_false rfl ?_
  refine cw_rs fun K13 hK13 => ?_
  -- region 11
  first | refine as_q rfl rfl (q_eqT rfl rfl (by omega)) ?_ | refine as_q rfl rfl (q_eqF rfl rfl (by omega)) ?_ | refine as_q rfl rfl (q_eq rfl rfl) ?_
  refine as_q rfl rfl (q_assign rfl) ?_
  refine as_nil (hK13 _ _ ?_)
  clear hK13 K13
  refine cw_false rfl ?_
  refine cw_region fun K14 hK14 => ?_
  -- region 12
  first | refine as_q rfl rfl (q_eqT rfl rfl (by omega)) ?_ | refine as_q rfl rfl (q_eqF rfl rfl (by omega)) ?_ | refine as_q rfl rfl (q_eq rfl rfl) ?_
  refine as_q rfl rfl (q_assign rfl) ?_
  refine as_nil (hK14 _ _ ?_)
  clear hK14 K14
  refine hK5 _ _ ?_
  clear hK5 K5
  refine cw_true rfl ?_
  refine cw_rs fun K15 hK15 => ?_
  -- region 13
  refine as_q rfl rfl (q_assign rfl) ?_
  refine as_nil (hK15 _ _ ?_)
  clear hK15 K15
  refine cw_ret ?_
  exact ⟨_, (res_tmp rfl res_nil), rfl, hT⟩

theorem rargs_22 {w : World} {M : Mem} (hs : Sat M w) :
    Does Try.prog 35 #[.int .i64 22] w (fun v w' => v = .int .i64 (2) ∧ Step Nope M w M w') := by
  have hT := Step.refl Nope hs
  refine fn_enter Try.func35 rfl (rs := [.tmp 2]) rfl rfl rfl rfl ?_
  refine cw_rs fun K1 hK1 => ?_
  -- region 0
  refine as_q rfl rfl (q_assign rfl) ?_
  refine as_nil (hK1 _ _ ?_)
  clear hK1 K1
  refine cw_seq fun K2 hK2 => ?_
  refine cw_rs fun K3 hK3 => ?_
  -- region 1
  refine as_q rfl rfl (q_move rfl) ?_
  refine as_nil (hK3 _ _ ?_)
  clear hK3 K3
  refine cw_block ?_
  refine cw_rs fun K4 hK4 => ?_
  -- region 2
  first | refine as_q rfl rfl (q_eqT rfl rfl (by omega)) ?_ | refine as_q rfl rfl (q_eqF rfl rfl (by omega)) ?_ | refine as_q rfl rfl (q_eq rfl rfl) ?_
  refine as_q rfl rfl (q_assign rfl) ?_
  refine as_nil (hK4 _ _ ?_)
  clear hK4 K4
  refine cw_false rfl ?_
  refine cw_seq fun K5 hK5 => ?_
  refine cw_rs fun K6 hK6 => ?_
  -- region 4
  first | refine as_q rfl rfl (q_eqT rfl rfl (by omega)) ?_ | refine as_q rfl rfl (q_eqF rfl rfl (by omega)) ?_ | refine as_q rfl rfl (q_eq rfl rfl) ?_
  refine as_q rfl rfl (q_assign rfl) ?_
  refine as_nil (hK6 _ _ ?_)
  clear hK6 K6
  refine cw_false rfl ?_
  refine cw_rs fun K7 hK7 => ?_
  -- region 5
  first | refine as_q rfl rfl (q_eqT rfl rfl (by omega)) ?_ | refine as_q rfl rfl (q_eqF rfl rfl (by omega)) ?_ | refine as_q rfl rfl (q_eq rfl rfl) ?_
  refine as_q rfl rfl (q_assign rfl) ?_
  refine as_nil (hK7 _ _ ?_)
  clear hK7 K7
  refine cw_false rfl ?_
  refine cw_rs fun K8 hK8 => ?_
  -- region 6
  first | refine as_q rfl rfl (q_eqT rfl rfl (by omega)) ?_ | refine as_q rfl rfl (q_eqF rfl rfl (by omega)) ?_ | refine as_q rfl rfl (q_eq rfl rfl) ?_
  refine as_q rfl rfl (q_assign rfl) ?_
  refine as_nil (hK8 _ _ ?_)
  clear hK8 K8
  refine cw_false rfl ?_
  refine cw_rs fun K9 hK9 => ?_
  -- region 7
  first | refine as_q rfl rfl (q_eqT rfl rfl (by omega)) ?_ | refine as_q rfl rfl (q_eqF rfl rfl (by omega)) ?_ | refine as_q rfl rfl (q_eq rfl rfl) ?_
  refine as_q rfl rfl (q_assign rfl) ?_
  refine as_nil (hK9 _ _ ?_)
  clear hK9 K9
  refine cw_false rfl ?_
  refine cw_rs fun K10 hK10 => ?_
  -- region 8
  first | refine as_q rfl rfl (q_eqT rfl rfl (by omega)) ?_ | refine as_q rfl rfl (q_eqF rfl rfl (by omega)) ?_ | refine as_q rfl rfl (q_eq rfl rfl) ?_
  refine as_q rfl rfl (q_assign rfl) ?_
  refine as_nil (hK10 _ _ ?_)
  clear hK10 K10
  refine cw_false rfl ?_
  refine cw_rs fun K11 hK11 => ?_
  -- region 9
  first | refine as_q rfl rfl (q_eqT rfl rfl (by omega)) ?_ | refine as_q rfl rfl (q_eqF rfl rfl (by omega)) ?_ | refine as_q rfl rfl (q_eq rfl rfl) ?_
  refine as_q rfl rfl (q_assign rfl) ?_
  refine as_nil (hK11 _ _ ?_)
  clear hK11 K11
  refine cw_false rfl ?_
  refine cw_rs fun K12 hK12 => ?_
  -- region 10
  first | refine as_q rfl rfl (q_eqT rfl rfl (by omega)) ?_ | refine as_q rfl rfl (q_eqF rfl rfl (by omega)) ?_ | refine as_q rfl rfl (q_eq rfl rfl) ?_
  refine as_q rfl rfl (q_assign rfl) ?_
  refine as_nil (hK12 _ _ ?_)
  clear hK12 K12
  refine cw_false rfl ?_
  refine cw_rs fun K13 hK13 => ?_
  -- region 11
  first | refine as_q rfl rfl (q_eqT rfl rfl (by omega)) ?_ | refine as_q rfl rfl (q_eqF rfl rfl (by omega)) ?_ | refine as_q rfl rfl (q_eq rfl rfl) ?_
  refine as_q rfl rfl (q_assign rfl) ?_
  refine as_nil (hK13 _ _ ?_)
  clear hK13 K13
  refine cw_false rfl ?_
  refine cw_region fun K14 hK14 => ?_
  -- region 12
  first | refine as_q rfl rfl (q_eqT rfl rfl (by omega)) ?_ | refine as_q rfl rfl (q_eqF rfl rfl (by omega)) ?_ | refine as_q rfl rfl (q_eq rfl rfl) ?_
  refine as_q rfl rfl (q_assign rfl) ?_
  refine as_nil (hK14 _ _ ?_)
  clear hK14 K14
  refine hK5 _ _ ?_
  clear hK5 K5
  refine cw_false rfl ?_
  refine cw_seq fun K15 hK15 => ?_
  refine cw_rs fun K16 hK16 => ?_
  -- region 14
  first | refine as_q rfl rfl (q_eqT rfl rfl (by omega)) ?_ | refine as_q rfl rfl (q_eqF rfl rfl (by omega)) ?_ | refine as_q rfl rfl (q_eq rfl rfl) ?_
  refine as_q rfl rfl (q_assign rfl) ?_
  refine as_nil (hK16 _ _ ?_)
  clear hK16 K16
  refine cw_false rfl ?_
  refine cw_rs fun K17 hK17 => ?_
  -- region 15
  first | refine as_q rfl rfl (q_eqT rfl rfl (by omega)) ?_ | refine as_q rfl rfl (q_eqF rfl rfl (by omega)) ?_ | refine as_q rfl rfl (q_eq rfl rfl) ?_
  refine as_q rfl rfl (q_assign rfl) ?_
  refine as_nil (hK17 _ _ ?_)
  clear hK17 K17
  refine cw_false rfl ?_
  refine cw_rs fun K18 hK18 => ?_
  -- region 16
  first | refine as_q rfl rfl (q_eqT rfl rfl (by omega)) ?_ | refine as_q rfl rfl (q_eqF rfl rfl (by omega)) ?_ | refine as_q rfl rfl (q_eq rfl rfl) ?_
  refine as_q rfl rfl (q_assign rfl) ?_
  refine as_nil (hK18 _ _ ?_)
  clear hK18 K18
  refine cw_false rfl ?_
  refine cw_rs fun K19 hK19 => ?_
  -- region 17
  first | refine as_q rfl rfl (q_eqT rfl rfl (by omega)) ?_ | refine as_q rfl rfl (q_eqF rfl rfl (by omega)) ?_ | refine as_q rfl rfl (q_eq rfl rfl) ?_
  refine as_q rfl rfl (q_assign rfl) ?_
  refine as_nil (hK19 _ _ ?_)
  clear hK19 K19
  refine cw_false rfl ?_
  refine cw_rs fun K20 hK20 => ?_
  -- region 18
  first | refine as_q rfl rfl (q_eqT rfl rfl (by omega)) ?_ | refine as_q rfl rfl (q_eqF rfl rfl (by omega)) ?_ | refine as_q rfl rfl (q_eq rfl rfl) ?_
  refine as_q rfl rfl (q_assign rfl) ?_
  refine as_nil (hK20 _ _ ?_)
  clear hK20 K20
  refine cw_false rfl ?_
  refine cw_rs fun K21 hK21 => ?_
  -- region 19
  first | refine as_q rfl rfl (q_eqT rfl rfl (by omega)) ?_ | refine as_q rfl rfl (q_eqF rfl rfl (by omega)) ?_ | refine as_q rfl rfl (q_eq rfl rfl) ?_
  refine as_q rfl rfl (q_assign rfl) ?_
  refine as_nil (hK21 _ _ ?_)
  clear hK21 K21
  refine cw_false rfl ?_
  refine cw_rs fun K22 hK22 => ?_
  -- region 20
  first | refine as_q rfl rfl (q_eqT rfl rfl (by omega)) ?_ | refine as_q rfl rfl (q_eqF rfl rfl (by omega)) ?_ | refine as_q rfl rfl (q_eq rfl rfl) ?_
  refine as_q rfl rfl (q_assign rfl) ?_
  refine as_nil (hK22 _ _ ?_)
  clear hK22 K22
  refine cw_false rfl ?_
  refine cw_region fun K23 hK23 => ?_
  -- region 21
  first | refine as_q rfl rfl (q_eqT rfl rfl (by omega)) ?_ | refine as_q rfl rfl (q_eqF rfl rfl (by omega)) ?_ | refine as_q rfl rfl (q_eq rfl rfl) ?_
  refine as_q rfl rfl (q_assign rfl) ?_
  refine as_nil (hK23 _ _ ?_)
  clear hK23 K23
  refine hK15 _ _ ?_
  clear hK15 K15
  refine cw_true rfl ?_
  refine cw_rs fun K24 hK24 => ?_
  -- region 22
  refine as_q rfl rfl (q_assign rfl) ?_
  refine as_nil (hK24 _ _ ?_)
  clear hK24 K24
  refine cw_ret ?_
  exact ⟨_, (res_tmp rfl res_nil), rfl, hT⟩

theorem rargs_out {w : World} {M : Mem} {c : Int} (hs : Sat M w) (h : c < 1 ∨ 22 < c) :
    Does Try.prog 35 #[.int .i64 c] w (fun v w' => v = .int .i64 (-1) ∧ Step Nope M w M w') := by
  have hT := Step.refl Nope hs
  refine fn_enter Try.func35 rfl (rs := [.tmp 2]) rfl rfl rfl rfl ?_
  refine cw_rs fun K1 hK1 => ?_
  -- region 0
  refine as_q rfl rfl (q_assign rfl) ?_
  refine as_nil (hK1 _ _ ?_)
  clear hK1 K1
  refine cw_seq fun K2 hK2 => ?_
  refine cw_rs fun K3 hK3 => ?_
  -- region 1
  refine as_q rfl rfl (q_move rfl) ?_
  refine as_nil (hK3 _ _ ?_)
  clear hK3 K3
  refine cw_block ?_
  refine cw_rs fun K4 hK4 => ?_
  -- region 2
  first | refine as_q rfl rfl (q_eqT rfl rfl (by omega)) ?_ | refine as_q rfl rfl (q_eqF rfl rfl (by omega)) ?_ | refine as_q rfl rfl (q_eq rfl rfl) ?_
  refine as_q rfl rfl (q_assign rfl) ?_
  refine as_nil (hK4 _ _ ?_)
  clear hK4 K4
  refine cw_false rfl ?_
  refine cw_seq fun K5 hK5 => ?_
  refine cw_rs fun K6 hK6 => ?_
  -- region 4
  first | refine as_q rfl rfl (q_eqT rfl rfl (by omega)) ?_ | refine as_q rfl rfl (q_eqF rfl rfl (by omega)) ?_ | refine as_q rfl rfl (q_eq rfl rfl) ?_
  refine as_q rfl rfl (q_assign rfl) ?_
  refine as_nil (hK6 _ _ ?_)
  clear hK6 K6
  refine cw_false rfl ?_
  refine cw_rs fun K7 hK7 => ?_
  -- region 5
  first | refine as_q rfl rfl (q_eqT rfl rfl (by omega)) ?_ | refine as_q rfl rfl (q_eqF rfl rfl (by omega)) ?_ | refine as_q rfl rfl (q_eq rfl rfl) ?_
  refine as_q rfl rfl (q_assign rfl) ?_
  refine as_nil (hK7 _ _ ?_)
  clear hK7 K7
  refine cw_false rfl ?_
  refine cw_rs fun K8 hK8 => ?_
  -- region 6
  first | refine as_q rfl rfl (q_eqT rfl rfl (by omega)) ?_ | refine as_q rfl rfl (q_eqF rfl rfl (by omega)) ?_ | refine as_q rfl rfl (q_eq rfl rfl) ?_
  refine as_q rfl rfl (q_assign rfl) ?_
  refine as_nil (hK8 _ _ ?_)
  clear hK8 K8
  refine cw_false rfl ?_
  refine cw_rs fun K9 hK9 => ?_
  -- region 7
  first | refine as_q rfl rfl (q_eqT rfl rfl (by omega)) ?_ | refine as_q rfl rfl (q_eqF rfl rfl (by omega)) ?_ | refine as_q rfl rfl (q_eq rfl rfl) ?_
  refine as_q rfl rfl (q_assign rfl) ?_
  refine as_nil (hK9 _ _ ?_)
  clear hK9 K9
  refine cw_false rfl ?_
  refine cw_rs fun K10 hK10 => ?_
  -- region 8
  first | refine as_q rfl rfl (q_eqT rfl rfl (by omega)) ?_ | refine as_q rfl rfl (q_eqF rfl rfl (by omega)) ?_ | refine as_q rfl rfl (q_eq rfl rfl) ?_
  refine as_q rfl rfl (q_assign rfl) ?_
  refine as_nil (hK10 _ _ ?_)
  clear hK10 K10
  refine cw_false rfl ?_
  refine cw_rs fun K11 hK11 => ?_
  -- region 9
  first | refine as_q rfl rfl (q_eqT rfl rfl (by omega)) ?_ | refine as_q rfl rfl (q_eqF rfl rfl (by omega)) ?_ | refine as_q rfl rfl (q_eq rfl rfl) ?_
  refine as_q rfl rfl (q_assign rfl) ?_
  refine as_nil (hK11 _ _ ?_)
  clear hK11 K11
  refine cw_false rfl ?_
  refine cw_rs fun K12 hK12 => ?_
  -- region 10
  first | refine as_q rfl rfl (q_eqT rfl rfl (by omega)) ?_ | refine as_q rfl rfl (q_eqF rfl rfl (by omega)) ?_ | refine as_q rfl rfl (q_eq rfl rfl) ?_
  refine as_q rfl rfl (q_assign rfl) ?_
  refine as_nil (hK12 _ _ ?_)
  clear hK12 K12
  refine cw_false rfl ?_
  refine cw_rs fun K13 hK13 => ?_
  -- region 11
  first | refine as_q rfl rfl (q_eqT rfl rfl (by omega)) ?_ | refine as_q rfl rfl (q_eqF rfl rfl (by omega)) ?_ | refine as_q rfl rfl (q_eq rfl rfl) ?_
  refine as_q rfl rfl (q_assign rfl) ?_
  refine as_nil (hK13 _ _ ?_)
  clear hK13 K13
  refine cw_false rfl ?_
  refine cw_region fun K14 hK14 => ?_
  -- region 12
  first | refine as_q rfl rfl (q_eqT rfl rfl (by omega)) ?_ | refine as_q rfl rfl (q_eqF rfl rfl (by omega)) ?_ | refine as_q rfl rfl (q_eq rfl rfl) ?_
  refine as_q rfl rfl (q_assign rfl) ?_
  refine as_nil (hK14 _ _ ?_)
  clear hK14 K14
  refine hK5 _ _ ?_
  clear hK5 K5
  refine cw_false rfl ?_
  refine cw_seq fun K15 hK15 => ?_
  refine cw_rs fun K16 hK16 => ?_
  -- region 14
  first | refine as_q rfl rfl (q_eqT rfl rfl (by omega)) ?_ | refine as_q rfl rfl (q_eqF rfl rfl (by omega)) ?_ | refine as_q rfl rfl (q_eq rfl rfl) ?_
  refine as_q rfl rfl (q_assign rfl) ?_
  refine as_nil (hK16 _ _ ?_)
  clear hK16 K16
  refine cw_false rfl ?_
  refine cw_rs fun K17 hK17 => ?_
  -- region 15
  first | refine as_q rfl rfl (q_eqT rfl rfl (by omega)) ?_ | refine as_q rfl rfl (q_eqF rfl rfl (by omega)) ?_ | refine as_q rfl rfl (q_eq rfl rfl) ?_
  refine as_q rfl rfl (q_assign rfl) ?_
  refine as_nil (hK17 _ _ ?_)
  clear hK17 K17
  refine cw_false rfl ?_
  refine cw_rs fun K18 hK18 => ?_
  -- region 16
  first | refine as_q rfl rfl (q_eqT rfl rfl (by omega)) ?_ | refine as_q rfl rfl (q_eqF rfl rfl (by omega)) ?_ | refine as_q rfl rfl (q_eq rfl rfl) ?_
  refine as_q rfl rfl (q_assign rfl) ?_
  refine as_nil (hK18 _ _ ?_)
  clear hK18 K18
  refine cw_false rfl ?_
  refine cw_rs fun K19 hK19 => ?_
  -- region 17
  first | refine as_q rfl rfl (q_eqT rfl rfl (by omega)) ?_ | refine as_q rfl rfl (q_eqF rfl rfl (by omega)) ?_ | refine as_q rfl rfl (q_eq rfl rfl) ?_
  refine as_q rfl rfl (q_assign rfl) ?_
  refine as_nil (hK19 _ _ ?_)
  clear hK19 K19
  refine cw_false rfl ?_
  refine cw_rs fun K20 hK20 => ?_
  -- region 18
  first | refine as_q rfl rfl (q_eqT rfl rfl (by omega)) ?_ | refine as_q rfl rfl (q_eqF rfl rfl (by omega)) ?_ | refine as_q rfl rfl (q_eq rfl rfl) ?_
  refine as_q rfl rfl (q_assign rfl) ?_
  refine as_nil (hK20 _ _ ?_)
  clear hK20 K20
  refine cw_false rfl ?_
  refine cw_rs fun K21 hK21 => ?_
  -- region 19
  first | refine as_q rfl rfl (q_eqT rfl rfl (by omega)) ?_ | refine as_q rfl rfl (q_eqF rfl rfl (by omega)) ?_ | refine as_q rfl rfl (q_eq rfl rfl) ?_
  refine as_q rfl rfl (q_assign rfl) ?_
  refine as_nil (hK21 _ _ ?_)
  clear hK21 K21
  refine cw_false rfl ?_
  refine cw_rs fun K22 hK22 => ?_
  -- region 20
  first | refine as_q rfl rfl (q_eqT rfl rfl (by omega)) ?_ | refine as_q rfl rfl (q_eqF rfl rfl (by omega)) ?_ | refine as_q rfl rfl (q_eq rfl rfl) ?_
  refine as_q rfl rfl (q_assign rfl) ?_
  refine as_nil (hK22 _ _ ?_)
  clear hK22 K22
  refine cw_false rfl ?_
  refine cw_region fun K23 hK23 => ?_
  -- region 21
  first | refine as_q rfl rfl (q_eqT rfl rfl (by omega)) ?_ | refine as_q rfl rfl (q_eqF rfl rfl (by omega)) ?_ | refine as_q rfl rfl (q_eq rfl rfl) ?_
  refine as_q rfl rfl (q_assign rfl) ?_
  refine as_nil (hK23 _ _ ?_)
  clear hK23 K23
  refine hK15 _ _ ?_
  clear hK15 K15
  refine cw_false rfl ?_
  refine cw_seq fun K24 hK24 => ?_
  refine cw_rs fun K25 hK25 => ?_
  -- region 23
  first | refine as_q rfl rfl (q_eqT rfl rfl (by omega)) ?_ | refine as_q rfl rfl (q_eqF rfl rfl (by omega)) ?_ | refine as_q rfl rfl (q_eq rfl rfl) ?_
  refine as_q rfl rfl (q_assign rfl) ?_
  refine as_nil (hK25 _ _ ?_)
  clear hK25 K25
  refine cw_false rfl ?_
  refine cw_rs fun K26 hK26 => ?_
  -- region 24
  first | refine as_q rfl rfl (q_eqT rfl rfl (by omega)) ?_ | refine as_q rfl rfl (q_eqF rfl rfl (by omega)) ?_ | refine as_q rfl rfl (q_eq rfl rfl) ?_
  refine as_q rfl rfl (q_assign rfl) ?_
  refine as_nil (hK26 _ _ ?_)
  clear hK26 K26
  refine cw_false rfl ?_
  refine cw_rs fun K27 hK27 => ?_
  -- region 25
  first | refine as_q rfl rfl (q_eqT rfl rfl (by omega)) ?_ | refine as_q rfl rfl (q_eqF rfl rfl (by omega)) ?_ | refine as_q rfl rfl (q_eq rfl rfl) ?_
  refine as_q rfl rfl (q_assign rfl) ?_
  refine as_nil (hK27 _ _ ?_)
  clear hK27 K27
  refine cw_false rfl ?_
  refine cw_region fun K28 hK28 => ?_
  -- region 26
  first | refine as_q rfl rfl (q_eqT rfl rfl (by omega)) ?_ | refine as_q rfl rfl (q_eqF rfl rfl (by omega)) ?_ | refine as_q rfl rfl (q_eq rfl rfl) ?_
  refine as_q rfl rfl (q_assign rfl) ?_
  refine as_nil (hK28 _ _ ?_)
  clear hK28 K28
  refine hK24 _ _ ?_
  clear hK24 K24
  refine cw_false rfl ?_
  refine cw_skip ?_
  refine hK2 _ _ ?_
  clear hK2 K2
  refine cw_rs fun K29 hK29 => ?_
  -- region 28
  refine as_q rfl rfl (q_assign rfl) ?_
  refine as_nil (hK29 _ _ ?_)
  clear hK29 K29
  refine cw_ret ?_
  exact ⟨_, (res_tmp rfl res_nil), rfl, hT⟩

theorem rargs {w : World} {M : Mem} {c : Int} (hs : Sat M w) :
    Does Try.prog 35 #[.int .i64 c] w (fun v w' => v = .int .i64 (argsOf c) ∧ Step Nope M w M w') := by
  by_cases h : c < 1 ∨ 22 < c
  · refine (rargs_out hs h).mono fun v w' hv => ⟨hv.1.trans ?_, hv.2⟩
    unfold argsOf
    rw [if_neg (by omega), if_neg (by omega), if_neg (by omega), if_neg (by omega)]
  · have h2 : c = 1 ∨ c = 2 ∨ c = 3 ∨ c = 4 ∨ c = 5 ∨ c = 6 ∨ c = 7 ∨ c = 8 ∨ c = 9 ∨ c = 10 ∨ c = 11 ∨ c = 12 ∨ c = 13 ∨ c = 14 ∨ c = 15 ∨ c = 16 ∨ c = 17 ∨ c = 18 ∨ c = 19 ∨ c = 20 ∨ c = 21 ∨ c = 22 := by omega
    rcases h2 with rfl | rfl | rfl | rfl | rfl | rfl | rfl | rfl | rfl | rfl | rfl | rfl | rfl | rfl | rfl | rfl | rfl | rfl | rfl | rfl | rfl | rfl
    · exact (rargs_1 hs).mono fun v w' hv => ⟨hv.1.trans (congrArg (Value.int .i64) (by decide)), hv.2⟩
    · exact (rargs_2 hs).mono fun v w' hv => ⟨hv.1.trans (congrArg (Value.int .i64) (by decide)), hv.2⟩
    · exact (rargs_3 hs).mono fun v w' hv => ⟨hv.1.trans (congrArg (Value.int .i64) (by decide)), hv.2⟩
    · exact (rargs_4 hs).mono fun v w' hv => ⟨hv.1.trans (congrArg (Value.int .i64) (by decide)), hv.2⟩
    · exact (rargs_5 hs).mono fun v w' hv => ⟨hv.1.trans (congrArg (Value.int .i64) (by decide)), hv.2⟩
    · exact (rargs_6 hs).mono fun v w' hv => ⟨hv.1.trans (congrArg (Value.int .i64) (by decide)), hv.2⟩
    · exact (rargs_7 hs).mono fun v w' hv => ⟨hv.1.trans (congrArg (Value.int .i64) (by decide)), hv.2⟩
    · exact (rargs_8 hs).mono fun v w' hv => ⟨hv.1.trans (congrArg (Value.int .i64) (by decide)), hv.2⟩
    · exact (rargs_9 hs).mono fun v w' hv => ⟨hv.1.trans (congrArg (Value.int .i64) (by decide)), hv.2⟩
    · exact (rargs_10 hs).mono fun v w' hv => ⟨hv.1.trans (congrArg (Value.int .i64) (by decide)), hv.2⟩
    · exact (rargs_11 hs).mono fun v w' hv => ⟨hv.1.trans (congrArg (Value.int .i64) (by decide)), hv.2⟩
    · exact (rargs_12 hs).mono fun v w' hv => ⟨hv.1.trans (congrArg (Value.int .i64) (by decide)), hv.2⟩
    · exact (rargs_13 hs).mono fun v w' hv => ⟨hv.1.trans (congrArg (Value.int .i64) (by decide)), hv.2⟩
    · exact (rargs_14 hs).mono fun v w' hv => ⟨hv.1.trans (congrArg (Value.int .i64) (by decide)), hv.2⟩
    · exact (rargs_15 hs).mono fun v w' hv => ⟨hv.1.trans (congrArg (Value.int .i64) (by decide)), hv.2⟩
    · exact (rargs_16 hs).mono fun v w' hv => ⟨hv.1.trans (congrArg (Value.int .i64) (by decide)), hv.2⟩
    · exact (rargs_17 hs).mono fun v w' hv => ⟨hv.1.trans (congrArg (Value.int .i64) (by decide)), hv.2⟩
    · exact (rargs_18 hs).mono fun v w' hv => ⟨hv.1.trans (congrArg (Value.int .i64) (by decide)), hv.2⟩
    · exact (rargs_19 hs).mono fun v w' hv => ⟨hv.1.trans (congrArg (Value.int .i64) (by decide)), hv.2⟩
    · exact (rargs_20 hs).mono fun v w' hv => ⟨hv.1.trans (congrArg (Value.int .i64) (by decide)), hv.2⟩
    · exact (rargs_21 hs).mono fun v w' hv => ⟨hv.1.trans (congrArg (Value.int .i64) (by decide)), hv.2⟩
    · exact (rargs_22 hs).mono fun v w' hv => ⟨hv.1.trans (congrArg (Value.int .i64) (by decide)), hv.2⟩

/-- What is wrong with an operation. -/
def rightOf (c : Int) (n : Nat) : Int := if c < 1 ∨ 22 < c then 20 else if argsOf c = n then 0 else 10
theorem argsOf_out {c : Int} (h : c < 1 ∨ 22 < c) : argsOf c = -1 := by
  unfold argsOf
  rw [if_neg (by omega), if_neg (by omega), if_neg (by omega), if_neg (by omega)]
theorem argsOf_in {c : Int} (h1 : 1 ≤ c) (h2 : c ≤ 22) : 0 ≤ argsOf c ∧ argsOf c ≤ 3 := by
  unfold argsOf
  split
  · omega
  · split
    · omega
    · split
      · omega
      · rw [if_pos (by omega)]; omega

theorem right_lo {w : World} {M : Mem} {c : Int} {n cap : Nat} {a : Option Addr} (hs : Sat M w) (h : c < 1) :
    Does Try.prog 36 #[.agg #[.int .i64 c, .slice a n cap]] w (fun v w' => v = .int .i64 (rightOf c n) ∧ Step Nope M w M w') := by
  have hT := Step.refl Nope hs
  refine fn_enter Try.func36 rfl (rs := [.tmp 2]) rfl rfl rfl rfl ?_
  refine cw_rs fun K1 hK1 => ?_
  -- region 0
  refine as_h rfl (h_boxO hs rfl rfl fun b1 w1 hs1 ho1 e1 => ?_)
  replace hT := hT.then hs1
  refine as_q rfl rfl (q_assign rfl) ?_
  refine as_nil (hK1 _ _ ?_)
  clear hK1 K1
  refine cw_rs fun K2 hK2 => ?_
  -- region 1
  refine as_q rfl rfl (q_fieldAddr (off := 0) (by kernel_rfl) rfl) ?_
  refine as_q rfl rfl (q_load1 (by kernel_rfl) rfl (by first | exact Blk.cell ho1.1 rfl | assumption)) ?_
  refine as_h rfl (h_call (by kernel_rfl) rfl ?_)
  refine (args_lo hs1.sat h).mono ?_
  rintro _ w2 ⟨rfl, hs2⟩
  replace ho1 := ho1.then hs2
  replace hT := hT.then hs2
  refine as_q rfl rfl (q_move rfl) ?_
  refine as_q rfl rfl (q_extract rfl rfl) ?_
  refine as_q rfl rfl (q_extract rfl rfl) ?_
  refine as_q rfl rfl (q_assign rfl) ?_
  refine as_q rfl rfl (q_assign rfl) ?_
  refine as_nil (hK2 _ _ ?_)
  clear hK2 K2
  refine cw_seq fun K3 hK3 => ?_
  refine cw_block ?_
  refine cw_rs fun K4 hK4 => ?_
  -- region 2
  refine as_q rfl rfl (q_move rfl) ?_
  refine as_q rfl rfl (q_not rfl) ?_
  refine as_q rfl rfl (q_assign rfl) ?_
  refine as_nil (hK4 _ _ ?_)
  clear hK4 K4
  refine cw_true rfl ?_
  refine cw_rs fun K5 hK5 => ?_
  -- region 3
  refine as_q rfl rfl (q_assign rfl) ?_
  refine as_nil (hK5 _ _ ?_)
  clear hK5 K5
  refine cw_ret ?_
  exact ⟨_, (res_tmp rfl res_nil), by rw [show rightOf c n = 20 from if_pos (Or.inl h)]; rfl, hT⟩

theorem right_hi {w : World} {M : Mem} {c : Int} {n cap : Nat} {a : Option Addr} (hs : Sat M w) (h : 22 < c) :
    Does Try.prog 36 #[.agg #[.int .i64 c, .slice a n cap]] w (fun v w' => v = .int .i64 (rightOf c n) ∧ Step Nope M w M w') := by
  have hT := Step.refl Nope hs
  refine fn_enter Try.func36 rfl (rs := [.tmp 2]) rfl rfl rfl rfl ?_
  refine cw_rs fun K1 hK1 => ?_
  -- region 0
  refine as_h rfl (h_boxO hs rfl rfl fun b1 w1 hs1 ho1 e1 => ?_)
  replace hT := hT.then hs1
  refine as_q rfl rfl (q_assign rfl) ?_
  refine as_nil (hK1 _ _ ?_)
  clear hK1 K1
  refine cw_rs fun K2 hK2 => ?_
  -- region 1
  refine as_q rfl rfl (q_fieldAddr (off := 0) (by kernel_rfl) rfl) ?_
  refine as_q rfl rfl (q_load1 (by kernel_rfl) rfl (by first | exact Blk.cell ho1.1 rfl | assumption)) ?_
  refine as_h rfl (h_call (by kernel_rfl) rfl ?_)
  refine (args_hi hs1.sat h).mono ?_
  rintro _ w2 ⟨rfl, hs2⟩
  replace ho1 := ho1.then hs2
  replace hT := hT.then hs2
  refine as_q rfl rfl (q_move rfl) ?_
  refine as_q rfl rfl (q_extract rfl rfl) ?_
  refine as_q rfl rfl (q_extract rfl rfl) ?_
  refine as_q rfl rfl (q_assign rfl) ?_
  refine as_q rfl rfl (q_assign rfl) ?_
  refine as_nil (hK2 _ _ ?_)
  clear hK2 K2
  refine cw_seq fun K3 hK3 => ?_
  refine cw_block ?_
  refine cw_rs fun K4 hK4 => ?_
  -- region 2
  refine as_q rfl rfl (q_move rfl) ?_
  refine as_q rfl rfl (q_not rfl) ?_
  refine as_q rfl rfl (q_assign rfl) ?_
  refine as_nil (hK4 _ _ ?_)
  clear hK4 K4
  refine cw_true rfl ?_
  refine cw_rs fun K5 hK5 => ?_
  -- region 3
  refine as_q rfl rfl (q_assign rfl) ?_
  refine as_nil (hK5 _ _ ?_)
  clear hK5 K5
  refine cw_ret ?_
  exact ⟨_, (res_tmp rfl res_nil), by rw [show rightOf c n = 20 from if_pos (Or.inr h)]; rfl, hT⟩

theorem right_eq {w : World} {M : Mem} {c : Int} {n cap : Nat} {a : Option Addr} (hs : Sat M w) (h1 : 1 ≤ c) (h2 : c ≤ 22) (h3 : argsOf c = n) :
    Does Try.prog 36 #[.agg #[.int .i64 c, .slice a n cap]] w (fun v w' => v = .int .i64 (rightOf c n) ∧ Step Nope M w M w') := by
  have hT := Step.refl Nope hs
  refine fn_enter Try.func36 rfl (rs := [.tmp 2]) rfl rfl rfl rfl ?_
  refine cw_rs fun K1 hK1 => ?_
  -- region 0
  refine as_h rfl (h_boxO hs rfl rfl fun b1 w1 hs1 ho1 e1 => ?_)
  replace hT := hT.then hs1
  refine as_q rfl rfl (q_assign rfl) ?_
  refine as_nil (hK1 _ _ ?_)
  clear hK1 K1
  refine cw_rs fun K2 hK2 => ?_
  -- region 1
  refine as_q rfl rfl (q_fieldAddr (off := 0) (by kernel_rfl) rfl) ?_
  refine as_q rfl rfl (q_load1 (by kernel_rfl) rfl (by first | exact Blk.cell ho1.1 rfl | assumption)) ?_
  refine as_h rfl (h_call (by kernel_rfl) rfl ?_)
  refine (args_in hs1.sat h1 h2).mono ?_
  rintro _ w2 ⟨rfl, hs2⟩
  replace ho1 := ho1.then hs2
  replace hT := hT.then hs2
  refine as_q rfl rfl (q_move rfl) ?_
  refine as_q rfl rfl (q_extract rfl rfl) ?_
  refine as_q rfl rfl (q_extract rfl rfl) ?_
  refine as_q rfl rfl (q_assign rfl) ?_
  refine as_q rfl rfl (q_assign rfl) ?_
  refine as_nil (hK2 _ _ ?_)
  clear hK2 K2
  refine cw_seq fun K3 hK3 => ?_
  refine cw_block ?_
  refine cw_rs fun K4 hK4 => ?_
  -- region 2
  refine as_q rfl rfl (q_move rfl) ?_
  refine as_q rfl rfl (q_not rfl) ?_
  refine as_q rfl rfl (q_assign rfl) ?_
  refine as_nil (hK4 _ _ ?_)
  clear hK4 K4
  refine cw_false rfl ?_
  refine cw_rs fun K5 hK5 => ?_
  -- region 4
  refine as_q rfl rfl (q_fieldAddr (off := 1) (by kernel_rfl) rfl) ?_
  refine as_q rfl rfl (q_load1 (by kernel_rfl) rfl (by first | exact Blk.cell ho1.1 rfl | assumption)) ?_
  refine as_q rfl rfl (q_len (by kernel_rfl) rfl _) ?_
  refine as_q rfl rfl (q_move rfl) ?_
  first | refine as_q rfl rfl (q_neT rfl rfl (by omega)) ?_ | refine as_q rfl rfl (q_neF rfl rfl (by omega)) ?_ | refine as_q rfl rfl (q_ne rfl rfl) ?_
  refine as_q rfl rfl (q_assign rfl) ?_
  refine as_nil (hK5 _ _ ?_)
  clear hK5 K5
  refine cw_false rfl ?_
  refine cw_skip ?_
  refine hK3 _ _ ?_
  clear hK3 K3
  refine cw_rs fun K6 hK6 => ?_
  -- region 6
  refine as_q rfl rfl (q_assign rfl) ?_
  refine as_nil (hK6 _ _ ?_)
  clear hK6 K6
  refine cw_ret ?_
  exact ⟨_, (res_tmp rfl res_nil), by rw [show rightOf c n = 0 from (if_neg (by omega)).trans (if_pos h3)]; rfl, hT⟩

theorem right_ne {w : World} {M : Mem} {c : Int} {n cap : Nat} {a : Option Addr} (hs : Sat M w) (h1 : 1 ≤ c) (h2 : c ≤ 22) (h3 : argsOf c ≠ n) :
    Does Try.prog 36 #[.agg #[.int .i64 c, .slice a n cap]] w (fun v w' => v = .int .i64 (rightOf c n) ∧ Step Nope M w M w') := by
  have hT := Step.refl Nope hs
  refine fn_enter Try.func36 rfl (rs := [.tmp 2]) rfl rfl rfl rfl ?_
  refine cw_rs fun K1 hK1 => ?_
  -- region 0
  refine as_h rfl (h_boxO hs rfl rfl fun b1 w1 hs1 ho1 e1 => ?_)
  replace hT := hT.then hs1
  refine as_q rfl rfl (q_assign rfl) ?_
  refine as_nil (hK1 _ _ ?_)
  clear hK1 K1
  refine cw_rs fun K2 hK2 => ?_
  -- region 1
  refine as_q rfl rfl (q_fieldAddr (off := 0) (by kernel_rfl) rfl) ?_
  refine as_q rfl rfl (q_load1 (by kernel_rfl) rfl (by first | exact Blk.cell ho1.1 rfl | assumption)) ?_
  refine as_h rfl (h_call (by kernel_rfl) rfl ?_)
  refine (args_in hs1.sat h1 h2).mono ?_
  rintro _ w2 ⟨rfl, hs2⟩
  replace ho1 := ho1.then hs2
  replace hT := hT.then hs2
  refine as_q rfl rfl (q_move rfl) ?_
  refine as_q rfl rfl (q_extract rfl rfl) ?_
  refine as_q rfl rfl (q_extract rfl rfl) ?_
  refine as_q rfl rfl (q_assign rfl) ?_
  refine as_q rfl rfl (q_assign rfl) ?_
  refine as_nil (hK2 _ _ ?_)
  clear hK2 K2
  refine cw_seq fun K3 hK3 => ?_
  refine cw_block ?_
  refine cw_rs fun K4 hK4 => ?_
  -- region 2
  refine as_q rfl rfl (q_move rfl) ?_
  refine as_q rfl rfl (q_not rfl) ?_
  refine as_q rfl rfl (q_assign rfl) ?_
  refine as_nil (hK4 _ _ ?_)
  clear hK4 K4
  refine cw_false rfl ?_
  refine cw_rs fun K5 hK5 => ?_
  -- region 4
  refine as_q rfl rfl (q_fieldAddr (off := 1) (by kernel_rfl) rfl) ?_
  refine as_q rfl rfl (q_load1 (by kernel_rfl) rfl (by first | exact Blk.cell ho1.1 rfl | assumption)) ?_
  refine as_q rfl rfl (q_len (by kernel_rfl) rfl _) ?_
  refine as_q rfl rfl (q_move rfl) ?_
  first | refine as_q rfl rfl (q_neT rfl rfl (by omega)) ?_ | refine as_q rfl rfl (q_neF rfl rfl (by omega)) ?_ | refine as_q rfl rfl (q_ne rfl rfl) ?_
  refine as_q rfl rfl (q_assign rfl) ?_
  refine as_nil (hK5 _ _ ?_)
  clear hK5 K5
  refine cw_true rfl ?_
  refine cw_rs fun K6 hK6 => ?_
  -- region 5
  refine as_q rfl rfl (q_assign rfl) ?_
  refine as_nil (hK6 _ _ ?_)
  clear hK6 K6
  refine cw_ret ?_
  exact ⟨_, (res_tmp rfl res_nil), by rw [show rightOf c n = 10 from (if_neg (by omega)).trans (if_neg h3)]; rfl, hT⟩

theorem rright_out {w : World} {M : Mem} {c : Int} {n cap : Nat} {a : Option Addr} (hs : Sat M w) (h : c < 1 ∨ 22 < c) :
    Does Try.prog 37 #[.agg #[.int .i64 c, .slice a n cap]] w (fun v w' => v = .int .i64 (rightOf c n) ∧ Step Nope M w M w') := by
  have hT := Step.refl Nope hs
  refine fn_enter Try.func37 rfl (rs := [.tmp 2]) rfl rfl rfl rfl ?_
  refine cw_rs fun K1 hK1 => ?_
  -- region 0
  refine as_h rfl (h_boxO hs rfl rfl fun b1 w1 hs1 ho1 e1 => ?_)
  replace hT := hT.then hs1
  refine as_q rfl rfl (q_assign rfl) ?_
  refine as_nil (hK1 _ _ ?_)
  clear hK1 K1
  refine cw_rs fun K2 hK2 => ?_
  -- region 1
  refine as_q rfl rfl (q_fieldAddr (off := 0) (by kernel_rfl) rfl) ?_
  refine as_q rfl rfl (q_load1 (by kernel_rfl) rfl (by first | exact Blk.cell ho1.1 rfl | assumption)) ?_
  refine as_h rfl (h_call (by kernel_rfl) rfl ?_)
  refine (rargs hs1.sat).mono ?_
  rintro _ w2 ⟨rfl, hs2⟩
  replace ho1 := ho1.then hs2
  replace hT := hT.then hs2
  refine as_q rfl rfl (q_assign rfl) ?_
  refine as_nil (hK2 _ _ ?_)
  clear hK2 K2
  refine cw_seq fun K3 hK3 => ?_
  refine cw_rs fun K4 hK4 => ?_
  have hao := argsOf_out h
  -- region 2
  refine as_q rfl rfl (q_move rfl) ?_
  first | refine as_q rfl rfl (q_ltT rfl rfl (by omega)) ?_ | refine as_q rfl rfl (q_ltF rfl rfl (by omega)) ?_ | refine as_q rfl rfl (q_lt rfl rfl) ?_
  refine as_nil (hK4 _ _ ?_)
  clear hK4 K4
  refine cw_true rfl ?_
  refine cw_rs fun K5 hK5 => ?_
  -- region 3
  refine as_q rfl rfl (q_assign rfl) ?_
  refine as_nil (hK5 _ _ ?_)
  clear hK5 K5
  refine cw_ret ?_
  exact ⟨_, (res_tmp rfl res_nil), by rw [show rightOf c n = 20 from if_pos h]; rfl, hT⟩

theorem rright_eq {w : World} {M : Mem} {c : Int} {n cap : Nat} {a : Option Addr} (hs : Sat M w) (h1 : 1 ≤ c) (h2 : c ≤ 22) (h3 : argsOf c = n) :
    Does Try.prog 37 #[.agg #[.int .i64 c, .slice a n cap]] w (fun v w' => v = .int .i64 (rightOf c n) ∧ Step Nope M w M w') := by
  have hT := Step.refl Nope hs
  refine fn_enter Try.func37 rfl (rs := [.tmp 2]) rfl rfl rfl rfl ?_
  refine cw_rs fun K1 hK1 => ?_
  -- region 0
  refine as_h rfl (h_boxO hs rfl rfl fun b1 w1 hs1 ho1 e1 => ?_)
  replace hT := hT.then hs1
  refine as_q rfl rfl (q_assign rfl) ?_
  refine as_nil (hK1 _ _ ?_)
  clear hK1 K1
  refine cw_rs fun K2 hK2 => ?_
  -- region 1
  refine as_q rfl rfl (q_fieldAddr (off := 0) (by kernel_rfl) rfl) ?_
  refine as_q rfl rfl (q_load1 (by kernel_rfl) rfl (by first | exact Blk.cell ho1.1 rfl | assumption)) ?_
  refine as_h rfl (h_call (by kernel_rfl) rfl ?_)
  refine (rargs hs1.sat).mono ?_
  rintro _ w2 ⟨rfl, hs2⟩
  replace ho1 := ho1.then hs2
  replace hT := hT.then hs2
  refine as_q rfl rfl (q_assign rfl) ?_
  refine as_nil (hK2 _ _ ?_)
  clear hK2 K2
  refine cw_seq fun K3 hK3 => ?_
  refine cw_rs fun K4 hK4 => ?_
  have hao := argsOf_in h1 h2
  -- region 2
  refine as_q rfl rfl (q_move rfl) ?_
  first | refine as_q rfl rfl (q_ltT rfl rfl (by omega)) ?_ | refine as_q rfl rfl (q_ltF rfl rfl (by omega)) ?_ | refine as_q rfl rfl (q_lt rfl rfl) ?_
  refine as_nil (hK4 _ _ ?_)
  clear hK4 K4
  refine cw_false rfl ?_
  refine cw_skip ?_
  refine hK3 _ _ ?_
  clear hK3 K3
  refine cw_seq fun K5 hK5 => ?_
  refine cw_rs fun K6 hK6 => ?_
  -- region 4
  refine as_q rfl rfl (q_move rfl) ?_
  refine as_q rfl rfl (q_fieldAddr (off := 1) (by kernel_rfl) rfl) ?_
  refine as_q rfl rfl (q_load1 (by kernel_rfl) rfl (by first | exact Blk.cell ho1.1 rfl | assumption)) ?_
  refine as_q rfl rfl (q_len (by kernel_rfl) rfl _) ?_
  first | refine as_q rfl rfl (q_neT rfl rfl (by omega)) ?_ | refine as_q rfl rfl (q_neF rfl rfl (by omega)) ?_ | refine as_q rfl rfl (q_ne rfl rfl) ?_
  refine as_nil (hK6 _ _ ?_)
  clear hK6 K6
  refine cw_false rfl ?_
  refine cw_skip ?_
  refine hK5 _ _ ?_
  clear hK5 K5
  refine cw_rs fun K7 hK7 => ?_
  -- region 6
  refine as_q rfl rfl (q_assign rfl) ?_
  refine as_nil (hK7 _ _ ?_)
  clear hK7 K7
  refine cw_ret ?_
  exact ⟨_, (res_tmp rfl res_nil), by rw [show rightOf c n = 0 from (if_neg (by omega)).trans (if_pos h3)]; rfl, hT⟩

theorem rright_ne {w : World} {M : Mem} {c : Int} {n cap : Nat} {a : Option Addr} (hs : Sat M w) (h1 : 1 ≤ c) (h2 : c ≤ 22) (h3 : argsOf c ≠ n) :
    Does Try.prog 37 #[.agg #[.int .i64 c, .slice a n cap]] w (fun v w' => v = .int .i64 (rightOf c n) ∧ Step Nope M w M w') := by
  have hT := Step.refl Nope hs
  refine fn_enter Try.func37 rfl (rs := [.tmp 2]) rfl rfl rfl rfl ?_
  refine cw_rs fun K1 hK1 => ?_
  -- region 0
  refine as_h rfl (h_boxO hs rfl rfl fun b1 w1 hs1 ho1 e1 => ?_)
  replace hT := hT.then hs1
  refine as_q rfl rfl (q_assign rfl) ?_
  refine as_nil (hK1 _ _ ?_)
  clear hK1 K1
  refine cw_rs fun K2 hK2 => ?_
  -- region 1
  refine as_q rfl rfl (q_fieldAddr (off := 0) (by kernel_rfl) rfl) ?_
  refine as_q rfl rfl (q_load1 (by kernel_rfl) rfl (by first | exact Blk.cell ho1.1 rfl | assumption)) ?_
  refine as_h rfl (h_call (by kernel_rfl) rfl ?_)
  refine (rargs hs1.sat).mono ?_
  rintro _ w2 ⟨rfl, hs2⟩
  replace ho1 := ho1.then hs2
  replace hT := hT.then hs2
  refine as_q rfl rfl (q_assign rfl) ?_
  refine as_nil (hK2 _ _ ?_)
  clear hK2 K2
  refine cw_seq fun K3 hK3 => ?_
  refine cw_rs fun K4 hK4 => ?_
  have hao := argsOf_in h1 h2
  -- region 2
  refine as_q rfl rfl (q_move rfl) ?_
  first | refine as_q rfl rfl (q_ltT rfl rfl (by omega)) ?_ | refine as_q rfl rfl (q_ltF rfl rfl (by omega)) ?_ | refine as_q rfl rfl (q_lt rfl rfl) ?_
  refine as_nil (hK4 _ _ ?_)
  clear hK4 K4
  refine cw_false rfl ?_
  refine cw_skip ?_
  refine hK3 _ _ ?_
  clear hK3 K3
  refine cw_seq fun K5 hK5 => ?_
  refine cw_rs fun K6 hK6 => ?_
  -- region 4
  refine as_q rfl rfl (q_move rfl) ?_
  refine as_q rfl rfl (q_fieldAddr (off := 1) (by kernel_rfl) rfl) ?_
  refine as_q rfl rfl (q_load1 (by kernel_rfl) rfl (by first | exact Blk.cell ho1.1 rfl | assumption)) ?_
  refine as_q rfl rfl (q_len (by kernel_rfl) rfl _) ?_
  first | refine as_q rfl rfl (q_neT rfl rfl (by omega)) ?_ | refine as_q rfl rfl (q_neF rfl rfl (by omega)) ?_ | refine as_q rfl rfl (q_ne rfl rfl) ?_
  refine as_nil (hK6 _ _ ?_)
  clear hK6 K6
  refine cw_true rfl ?_
  refine cw_rs fun K7 hK7 => ?_
  -- region 5
  refine as_q rfl rfl (q_assign rfl) ?_
  refine as_nil (hK7 _ _ ?_)
  clear hK7 K7
  refine cw_ret ?_
  exact ⟨_, (res_tmp rfl res_nil), by rw [show rightOf c n = 10 from (if_neg (by omega)).trans (if_neg h3)]; rfl, hT⟩

theorem right18 {w : World} {M : Mem} {c : Int} {n cap : Nat} {a : Option Addr} (hs : Sat M w)  :
    Does Try.prog 36 #[.agg #[.int .i64 c, .slice a n cap]] w (fun v w' => v = .int .i64 (rightOf c n) ∧ Step Nope M w M w') := by
  rcases Int.lt_or_le c 1 with h | h
  · exact right_lo hs h
  · rcases Int.lt_or_le 22 c with h2 | h2
    · exact right_hi hs h2
    · by_cases h3 : argsOf c = n
      · exact right_eq hs h h2 h3
      · exact right_ne hs h h2 h3
theorem rright18 {w : World} {M : Mem} {c : Int} {n cap : Nat} {a : Option Addr} (hs : Sat M w)  :
    Does Try.prog 37 #[.agg #[.int .i64 c, .slice a n cap]] w (fun v w' => v = .int .i64 (rightOf c n) ∧ Step Nope M w M w') := by
  by_cases h : c < 1 ∨ 22 < c
  · exact rright_out hs h
  · by_cases h3 : argsOf c = n
    · exact rright_eq hs (by omega) (by omega) h3
    · exact rright_ne hs (by omega) (by omega) h3

theorem build_ge (room : Int) : ∀ ops : List (Int × List Int), ops.length < (build room ops).length
  | [] => by simp [build]
  | o :: r => by
    have h := build_ge room r
    simp only [build, List.flatMap_cons, List.length_cons, List.length_append] at h ⊢
    omega

theorem build18 {w : World} {M : Mem} {room : Int} {k oc : Nat} {oa : Option Addr} {ts : List T3} (hs : Sat M w) (hr : RdM M 2 (.slice oa k oc) k (flat ts)) (ha : ArgsM M ts) (hlen : (build room (keyT ts)).length ≤ 100000) :
    Does Try.prog 30 #[.agg #[.int .i64 room, .slice oa k oc]] w (fun v w' => Step Nope M w M w' ∧ Buf w' M 2 1 v (build room (keyT ts)).length (i64s (build room (keyT ts))) ∧ ∀ g, v.ownBlock = some g → w.heap.size ≤ g) := by
  have hT := Step.refl Nope hs
  have hk : ts.length = k := by have := hr.1; rw [flat_length] at this; omega
  have hkl := keyT_length ts
  have hkb : k ≤ 100000 := by have h : k < (build room (keyT ts)).length := (by have := build_ge room (keyT ts); omega); omega
  refine fn_enter Try.func30 rfl (rs := [.tmp 2]) rfl rfl rfl rfl ?_
  refine cw_rs fun K1 hK1 => ?_
  -- region 0
  refine as_h rfl (h_boxO hs rfl rfl fun b1 w1 hs1 ho1 e1 => ?_)
  replace hT := hT.then hs1
  have hz1 := hs1.size
  have hl1 := ho1.1.lt
  refine as_q rfl rfl (q_assign rfl) ?_
  refine as_nil (hK1 _ _ ?_)
  clear hK1 K1
  refine cw_rs fun K2 hK2 => ?_
  -- region 1
  refine as_q rfl rfl (q_fieldAddr (off := 0) (by kernel_rfl) rfl) ?_
  refine as_q rfl rfl (q_load1 (by kernel_rfl) rfl (by first | exact Blk.cell ho1.1 rfl | assumption)) ?_
  refine as_h rfl (h_buildO (e := 2) (size := 1) (zs := [(.int .i64 0)]) (cs := [_]) (by kernel_rfl) (by kernel_rfl) (by kernel_rfl) rfl hs1.sat rfl rfl fun b2 w2 hs2 ho2 e2 => ?_)
  replace ho1 := ho1.then hs2
  replace hT := hT.then hs2
  have hz2 := hs2.size
  have hl2 := ho2.1.lt
  refine as_q rfl rfl (q_assign rfl) ?_
  refine as_nil (hK2 _ _ ?_)
  clear hK2 K2
  refine cw_seq fun K3 hK3 => ?_
  refine cw_rs fun K4 hK4 => ?_
  -- region 2
  refine as_q rfl rfl (q_fieldAddr (off := 1) (by kernel_rfl) rfl) ?_
  refine as_q rfl rfl (q_load1 (by kernel_rfl) rfl (by first | exact Blk.cell ho1.1 rfl | exact Blk.cell ho2.1 rfl | assumption)) ?_
  refine as_q rfl rfl (q_len (by kernel_rfl) rfl _) ?_
  refine as_q rfl rfl (q_move rfl) ?_
  refine as_nil (hK4 _ _ ?_)
  clear hK4 K4
  refine cw_block ?_
  refine cw_loop (fun mm l w1 => ∃ (i : Nat) (ov : Value), mm = k - i ∧ i ≤ k ∧ l = [(3, ov), (10, .slice oa k oc), (11, .int .i64 k), (12, .int .i64 i)] ∧ Step Nope M w M w1 ∧ Buf w1 M 2 1 ov (build room ((keyT ts).take i)).length (i64s (build room ((keyT ts).take i))) ∧ (∀ g, ov.ownBlock = some g → w.heap.size ≤ g)) (k) [(3, .slice (some ⟨b2, 0, none⟩) 1 1), (10, .slice oa k oc), (11, .int .i64 k), (12, .int .i64 (0 : Nat))] (.cons rfl (.cons rfl (.cons rfl (.cons rfl (.nil _))))) ?_ ?_
  · skip
    exact ⟨0, _, rfl, Nat.zero_le _, rfl, hT, Own.buf ho2 (n := 1) (size := 1) rfl (by decide), fun g hg => by have h : b2 = g := Option.some.inj hg; have := hT.size; have := hs1.size; omega⟩
  clear hT ho1 ho2
  rintro mm l w1 ⟨i, ov, rfl, hi, rfl, hT, hb, hf⟩
  refine cw_rs fun K5 hK5 => ?_
  -- region 3
  first | refine as_q rfl rfl (q_ltT rfl rfl (by omega)) ?_ | refine as_q rfl rfl (q_ltF rfl rfl (by omega)) ?_ | refine as_q rfl rfl (q_lt rfl rfl) ?_
  refine as_nil (hK5 _ _ ?_)
  clear hK5 K5
  refine cw_seq fun K6 hK6 => ?_
  refine cw_cond rfl (fun hc0 => ?_) (fun hc0 => ?_)
  · skip
    have hlt : i < k := by have := of_decide_eq_true hc0; omega
    obtain ⟨g, o, rfl⟩ := hr.there (by omega)
    obtain ⟨⟨tc, tz, tv⟩, hti⟩ : ∃ t, ts[i]? = some t := ⟨ts[i], by simp⟩
    have hta : RdM M 1 tv tz.length (i64s tz) := ha _ (List.mem_of_getElem? hti)
    obtain ⟨tva, tvc, rfl, _⟩ := hta.slice
    have htk := keyT_take hti
    have hbl : (build room ((keyT ts).take (i + 1))).length ≤ 100000 := Nat.le_trans (build_length_take _ _ _) hlen
    rw [htk, build_snoc] at hbl
    simp only [List.length_append, List.length_cons, List.length_nil] at hbl
    refine cw_skip ?_
    refine hK6 _ _ ?_
    clear hK6 K6
    refine cw_seq fun K7 hK7 => ?_
    refine cw_block ?_
    refine cw_rs fun K8 hK8 => ?_
    have hlt0 := hb.lt
    have hz0 := hT.size
    -- region 4
    refine as_q rfl rfl (q_indexAddr (e := 51) (size := 2) (by kernel_rfl) (by kernel_rfl) rfl rfl (by omega) (by omega)) ?_
    refine as_q rfl rfl (q_loadc (n := 2) (by kernel_rfl) rfl (hr.elem hT.sat rfl (flat_elem (j := (i : Int).toNat) (by simpa using hti)))) ?_
    refine as_h rfl (h_allocO (z := (.agg #[(.int .i64 0), (.slice none 0 0)])) hT.sat (by kernel_rfl) rfl fun b3 w3 hs3 ho3 e3 => ?_)
    replace hb := hb.then hs3
    replace hT := hT.then hs3
    have hz3 := hs3.size
    have hl3 := ho3.1.lt
    refine as_h0 (h_store hs3.sat ho3 rfl rfl rfl (by kernel_rfl) rfl rfl rfl fun w4 hs4 hn4 => ?_)
    replace hb := hb.step hs4 (fun g hg h => by have h : g = b3 := h; have := hlt0 g hg; omega)
    clear ho3; have ho3 := hn4; clear hn4
    replace hT := hT.own hs4 (by omega)
    have hz4 := hs4.size
    refine as_nil (hK8 _ _ ?_)
    clear hK8 K8
    refine cw_drawn (by kernel_rfl) (by kernel_rfl) (by kernel_rfl) rfl rfl fun K9 hK9 => ?_
    -- region 5
    have hs5 := Step.drew hs4.sat
    have hz5 := hs5.size
    replace hb := hb.then hs5
    replace ho3 := ho3.then hs5
    replace hT := hT.then hs5
    refine at_q (i := 0) (li := #[true, false, false, false, false, false, false, false, false, false, false, false]) rfl (by kernel_rfl) rfl (fun _ => (q_move rfl)) (by kernel_rfl) ?_
    refine at_q (i := 1) (li := #[true, true, false, false, false, false, false, false, false, false, false, false]) rfl (by kernel_rfl) rfl (fun _ => (q_fieldAddr (off := 0) (by kernel_rfl) rfl)) (by kernel_rfl) ?_
    refine at_l (i := 2) (li := #[true, true, true, false, false, false, false, false, false, false, false, false]) (cellIs _ _ _) rfl (by kernel_rfl) rfl (fun _ h => q_load1 (by kernel_rfl) rfl h) (by first | exact Blk.cell ho3.1 rfl | assumption) (by kernel_rfl) ?_
    refine at_q (i := 3) (li := #[true, true, true, true, false, false, false, false, false, false, false, false]) rfl (by kernel_rfl) rfl (fun _ => (q_fieldAddr (off := 1) (by kernel_rfl) rfl)) (by kernel_rfl) ?_
    refine at_l (i := 4) (li := #[true, true, true, true, true, false, false, false, false, false, false, false]) (cellIs _ _ _) rfl (by kernel_rfl) rfl (fun _ h => q_load1 (by kernel_rfl) rfl h) (by first | exact Blk.cell ho3.1 rfl | assumption) (by kernel_rfl) ?_
    refine at_q (i := 5) (li := #[true, true, true, true, true, true, false, false, false, false, false, false]) rfl (by kernel_rfl) rfl (fun _ => (q_len (by kernel_rfl) rfl _)) (by kernel_rfl) ?_
    refine at_q (i := 8) (li := #[true, true, true, true, true, true, false, false, true, false, false, false]) rfl (by kernel_rfl) rfl (fun _ => (q_fieldAddr (off := 1) (by kernel_rfl) rfl)) (by kernel_rfl) ?_
    refine at_l (i := 9) (li := #[true, true, true, true, true, true, false, false, true, true, false, false]) (cellIs _ _ _) rfl (by kernel_rfl) rfl (fun _ h => q_load1 (by kernel_rfl) rfl h) (by first | exact Blk.cell ho3.1 rfl | assumption) (by kernel_rfl) ?_
    refine at_h (i := 6) (li := #[true, true, true, true, true, true, true, false, true, true, false, false]) rfl (by kernel_rfl) rfl (keep_sift (bs := [false, false, true]) (by kernel_rfl)) (by kernel_rfl) (h_buildO (e := 2) (size := 1) (zs := [(.int .i64 0), (.int .i64 0)]) (cs := [_, _]) (by kernel_rfl) (by kernel_rfl) (by kernel_rfl) rfl hs5.sat rfl rfl fun b6 w6 hs6 ho6 e6 => ?_)
    replace hb := hb.then hs6
    replace ho3 := ho3.then hs6
    replace hT := hT.then hs6
    have hz6 := hs6.size
    have hl6 := ho6.1.lt
    refine ⟨(by repeat' first | exact trivial | exact Blk.cell ho3.1 rfl | exact Blk.cells ho3.1 rfl | exact Blk.cell ho6.1 rfl | exact Blk.cells ho6.1 rfl | assumption | refine all_keep ?_ | refine And.intro ?_ ?_), ?_⟩
    have hlt1 := hb.lt
    have hq7 := hT.size
    refine at_h (i := 7) (li := #[true, true, true, true, true, true, true, true, true, true, false, false]) rfl (by kernel_rfl) rfl (keep_sift (bs := [false, false]) (by kernel_rfl)) (by kernel_rfl) (h_append (e := 2) (size := 1) (bytes := 8) (by kernel_rfl) hs6.sat hb ((Own.buf ho6 (n := 2) (size := 1) rfl (by decide)).rd) rfl rfl (by simp [Value.oneCell']) (by omega) rfl fun hcv w7 hs7 hcb hco => ?_)
    replace ho3 := ho3.step hs7 (fun h => by have := hlt0 _ h; omega)
    clear ho6
    have hcf := floor_of hco hf hq7
    replace hT := hT.trans hs7 (fun k hk h => absurd (hf k h) (by omega))
    have hz7 := hs7.size
    refine ⟨(by repeat' first | exact trivial | exact Blk.cell ho3.1 rfl | exact Blk.cells ho3.1 rfl | assumption | refine all_keep ?_ | refine And.intro ?_ ?_), ?_⟩
    have hq8 := hT.size
    refine at_h (i := 10) (li := #[true, true, true, true, true, true, true, true, true, true, true, false]) rfl (by kernel_rfl) rfl (keep_sift (bs := [true, false]) (by kernel_rfl)) (by kernel_rfl) (h_append (e := 2) (size := 1) (bytes := 8) (by kernel_rfl) hs7.sat hcb (hta.rd hs7.sat) rfl rfl (i64s_one _) (by omega) rfl fun hdv w8 hs8 hdb hdo => ?_)
    replace ho3 := ho3.step hs8 (lt_of_app hco (fun h => by have := hlt0 _ h; omega) (by omega))
    have hdf := floor_of hdo hcf hq8
    replace hT := hT.trans hs8 (fun k hk h => absurd (hcf k h) (by omega))
    have hz8 := hs8.size
    refine ⟨(by repeat' first | exact trivial | exact Blk.cell ho3.1 rfl | exact Blk.cells ho3.1 rfl | assumption | refine all_keep ?_ | refine And.intro ?_ ?_), ?_⟩
    refine at_q (i := 11) (li := #[true, true, true, true, true, true, true, true, true, true, true, true]) rfl (by kernel_rfl) rfl (fun _ => (q_assign rfl)) (by kernel_rfl) ?_
    refine at_done (by kernel_rfl) (hK9 _ _ ?_)
    clear hK9 K9
    refine hK7 _ _ ?_
    clear hK7 K7
    refine cw_region fun K10 hK10 => ?_
    -- region 6
    refine as_q rfl rfl (q_addx rfl rfl (by omega) (by omega)) ?_
    refine as_q rfl rfl (q_move rfl) ?_
    refine as_nil (hK10 _ _ ?_)
    clear hK10 K10
    refine ⟨_, _, ?_, (.cons rfl (.cons rfl (.cons rfl (.cons rfl (.nil _))))), i + 1, _, rfl, by omega, rfl, hT, ?_, hdf⟩
    · omega
    · rw [htk, build_snoc, i64s_append, i64s_append]
      exact hdb.cast (by simp only [List.length_append, List.length_cons, List.length_nil]) rfl
  · skip
    have hge : i = k := by have := of_decide_eq_false hc0; omega
    refine cw_exit ?_
    refine hK3 _ _ ?_
    clear hK6 K6
    clear hK3 K3
    refine cw_rs fun K11 hK11 => ?_
    -- region 7
    refine as_q rfl rfl (q_move rfl) ?_
    refine as_q rfl rfl (q_assign rfl) ?_
    refine as_nil (hK11 _ _ ?_)
    clear hK11 K11
    refine cw_ret ?_
    exact ⟨_, (res_tmp rfl res_nil), hT, by rw [show (keyT ts).take i = keyT ts from by rw [hge, ← hk, ← hkl, List.take_length]] at hb; exact hb, hf⟩

theorem rbuild18 {w : World} {M : Mem} {room : Int} {k oc : Nat} {oa : Option Addr} {ts : List T3} (hs : Sat M w) (hr : RdM M 2 (.slice oa k oc) k (flat ts)) (ha : ArgsM M ts) (hlen : (build room (keyT ts)).length ≤ 100000) :
    Does Try.prog 31 #[.agg #[.int .i64 room, .slice oa k oc]] w (fun v w' => ∃ M', Step Nope M w M' w' ∧ RdM M' 1 v (build room (keyT ts)).length (i64s (build room (keyT ts)))) := by
  have hT := Step.refl Nope hs
  have hk : ts.length = k := by have := hr.1; rw [flat_length] at this; omega
  have hkl := keyT_length ts
  have hkb : k ≤ 100000 := by have h : k < (build room (keyT ts)).length := (by have := build_ge room (keyT ts); omega); omega
  refine fn_enter Try.func31 rfl (rs := [.tmp 2]) rfl rfl rfl rfl ?_
  refine cw_rs fun K1 hK1 => ?_
  -- region 0
  refine as_h rfl (h_boxM hs rfl rfl fun b1 M1 w1 hs1 hb1 e1 => ?_)
  replace hr := hr.mono hs1.le
  replace ha := ha.mono hs1.le
  replace hT := hT.then hs1
  have hz1 := hs1.size
  refine as_q rfl rfl (q_assign rfl) ?_
  refine as_nil (hK1 _ _ ?_)
  clear hK1 K1
  refine cw_rs fun K2 hK2 => ?_
  -- region 1
  refine as_q rfl rfl (q_fieldAddr (off := 0) (by kernel_rfl) rfl) ?_
  refine as_q rfl rfl (q_load1 (by kernel_rfl) rfl (by first | exact BlkR.cell (hs1.sat _ _ _ hb1) rfl | assumption)) ?_
  refine as_h rfl (h_buildO (e := 2) (size := 1) (zs := [(.int .i64 0)]) (cs := [_]) (by kernel_rfl) (by kernel_rfl) (by kernel_rfl) rfl hs1.sat rfl rfl fun b2 w2 hs2 ho2 e2 => ?_)
  replace hr := hr.mono hs2.le
  replace ha := ha.mono hs2.le
  replace hb1 := hs2.le _ _ hb1
  replace hT := hT.then hs2
  have hz2 := hs2.size
  have hl2 := ho2.1.lt
  refine as_q rfl rfl (q_assign rfl) ?_
  refine as_nil (hK2 _ _ ?_)
  clear hK2 K2
  refine cw_seq fun K3 hK3 => ?_
  refine cw_rs fun K4 hK4 => ?_
  -- region 2
  refine as_q rfl rfl (q_assign rfl) ?_
  refine as_nil (hK4 _ _ ?_)
  clear hK4 K4
  refine cw_block ?_
  refine cw_loop (fun mm l w1 => ∃ (i : Nat) (ov : Value), mm = k - i ∧ i ≤ k ∧ l = [(1, .pointer (some ⟨b1, 0, none⟩)), (3, ov), (4, .int .i64 i)] ∧ Step Nope M w M1 w1 ∧ Buf w1 M1 2 1 ov (build room ((keyT ts).take i)).length (i64s (build room ((keyT ts).take i))) ∧ (∀ g, ov.ownBlock = some g → w.heap.size ≤ g)) (k) [(1, .pointer (some ⟨b1, 0, none⟩)), (3, .slice (some ⟨b2, 0, none⟩) 1 1), (4, .int .i64 (0 : Nat))] (.cons rfl (.cons rfl (.cons rfl (.nil _)))) ?_ ?_
  · skip
    exact ⟨0, _, rfl, Nat.zero_le _, rfl, hT, Own.buf ho2 (n := 1) (size := 1) rfl (by decide), fun g hg => by have h : b2 = g := Option.some.inj hg; have := hT.size; have := hs1.size; omega⟩
  clear hT ho2
  rintro mm l w1 ⟨i, ov, rfl, hi, rfl, hT, hb, hf⟩
  refine cw_seq fun K5 hK5 => ?_
  refine cw_rs fun K6 hK6 => ?_
  -- region 3
  refine as_q rfl rfl (q_move rfl) ?_
  refine as_q rfl rfl (q_fieldAddr (off := 1) (by kernel_rfl) rfl) ?_
  refine as_q rfl rfl (q_load1 (by kernel_rfl) rfl (by first | exact BlkR.cell (hT.sat _ _ _ hb1) rfl | assumption)) ?_
  refine as_q rfl rfl (q_len (by kernel_rfl) rfl _) ?_
  first | refine as_q rfl rfl (q_ltT rfl rfl (by omega)) ?_ | refine as_q rfl rfl (q_ltF rfl rfl (by omega)) ?_ | refine as_q rfl rfl (q_lt rfl rfl) ?_
  refine as_nil (hK6 _ _ ?_)
  clear hK6 K6
  refine cw_cond rfl (fun hc0 => ?_) (fun hc0 => ?_)
  · skip
    have hlt : i < k := by have := of_decide_eq_true hc0; omega
    obtain ⟨g, o, rfl⟩ := hr.there (by omega)
    obtain ⟨⟨tc, tz, tv⟩, hti⟩ : ∃ t, ts[i]? = some t := ⟨ts[i], by simp⟩
    have hta : RdM M1 1 tv tz.length (i64s tz) := ha _ (List.mem_of_getElem? hti)
    obtain ⟨tva, tvc, rfl, _⟩ := hta.slice
    have htk := keyT_take hti
    have hbl : (build room ((keyT ts).take (i + 1))).length ≤ 100000 := Nat.le_trans (build_length_take _ _ _) hlen
    rw [htk, build_snoc] at hbl
    simp only [List.length_append, List.length_cons, List.length_nil] at hbl
    refine cw_skip ?_
    refine hK5 _ _ ?_
    clear hK5 K5
    refine cw_seq fun K7 hK7 => ?_
    refine cw_block ?_
    refine cw_rs fun K8 hK8 => ?_
    -- region 5
    refine as_q rfl rfl (q_move rfl) ?_
    refine as_q rfl rfl (q_fieldAddr (off := 1) (by kernel_rfl) rfl) ?_
    refine as_q rfl rfl (q_load1 (by kernel_rfl) rfl (by first | exact BlkR.cell (hT.sat _ _ _ hb1) rfl | assumption)) ?_
    refine as_q rfl rfl (q_move rfl) ?_
    refine as_q rfl rfl (q_indexAddr (e := 69) (size := 2) (by kernel_rfl) (by kernel_rfl) rfl rfl (by omega) (by omega)) ?_
    refine as_q rfl rfl (q_fieldAddr (off := 0) (by kernel_rfl) rfl) ?_
    refine as_q rfl rfl (q_load1 (by kernel_rfl) rfl ((hr.elem hT.sat rfl (flat_elem (j := (i : Int).toNat) (by simpa using hti))).2 0 _ rfl)) ?_
    refine as_h rfl (h_buildO (e := 2) (size := 1) (zs := [(.int .i64 0)]) (cs := [_]) (by kernel_rfl) (by kernel_rfl) (by kernel_rfl) rfl hT.sat rfl rfl fun b3 w3 hs3 ho3 e3 => ?_)
    replace hb1 := hs3.le _ _ hb1
    replace hr := hr.mono hs3.le
    replace ha := ha.mono hs3.le
    replace hb := hb.then hs3
    replace hT := hT.then hs3
    have hz3 := hs3.size
    have hl3 := ho3.1.lt
    have hlt1 := hb.lt
    have hq4 := hT.size
    refine as_h rfl (h_append (e := 2) (size := 1) (bytes := 8) (by kernel_rfl) hs3.sat hb ((Own.buf ho3 (n := 1) (size := 1) rfl (by decide)).rd) rfl rfl (by simp [Value.oneCell']) (by omega) rfl fun hcv w4 hs4 hcb hco => ?_)
    replace hb1 := hs4.le _ _ hb1
    replace hr := hr.mono hs4.le
    replace ha := ha.mono hs4.le
    clear ho3
    have hcf := floor_of hco hf hq4
    replace hT := hT.trans hs4 (fun k hk h => absurd (hf k h) (by omega))
    have hz4 := hs4.size
    refine as_q rfl rfl (q_assign rfl) ?_
    refine as_nil (hK8 _ _ ?_)
    clear hK8 K8
    refine cw_rs fun K9 hK9 => ?_
    -- region 6
    refine as_q rfl rfl (q_move rfl) ?_
    refine as_q rfl rfl (q_fieldAddr (off := 1) (by kernel_rfl) rfl) ?_
    refine as_q rfl rfl (q_load1 (by kernel_rfl) rfl (by first | exact BlkR.cell (hs4.sat _ _ _ hb1) rfl | assumption)) ?_
    refine as_q rfl rfl (q_move rfl) ?_
    refine as_q rfl rfl (q_indexAddr (e := 69) (size := 2) (by kernel_rfl) (by kernel_rfl) rfl rfl (by omega) (by omega)) ?_
    refine as_q rfl rfl (q_fieldAddr (off := 1) (by kernel_rfl) rfl) ?_
    refine as_q rfl rfl (q_load1 (by kernel_rfl) rfl ((hr.elem hT.sat rfl (flat_elem (j := (i : Int).toNat) (by simpa using hti))).2 1 _ rfl)) ?_
    refine as_q rfl rfl (q_len (by kernel_rfl) rfl _) ?_
    refine as_h rfl (h_buildO (e := 2) (size := 1) (zs := [(.int .i64 0)]) (cs := [_]) (by kernel_rfl) (by kernel_rfl) (by kernel_rfl) rfl hs4.sat rfl rfl fun b5 w5 hs5 ho5 e5 => ?_)
    replace hb1 := hs5.le _ _ hb1
    replace hr := hr.mono hs5.le
    replace ha := ha.mono hs5.le
    replace hcb := hcb.then hs5
    replace hT := hT.then hs5
    have hz5 := hs5.size
    have hl5 := ho5.1.lt
    have hlt1 := hcb.lt
    have hq6 := hT.size
    refine as_h rfl (h_append (e := 2) (size := 1) (bytes := 8) (by kernel_rfl) hs5.sat hcb ((Own.buf ho5 (n := 1) (size := 1) rfl (by decide)).rd) rfl rfl (by simp [Value.oneCell']) (by omega) rfl fun hdv w6 hs6 hdb hdo => ?_)
    replace hb1 := hs6.le _ _ hb1
    replace hr := hr.mono hs6.le
    replace ha := ha.mono hs6.le
    clear ho5
    have hdf := floor_of hdo hcf hq6
    replace hT := hT.trans hs6 (fun k hk h => absurd (hcf k h) (by omega))
    have hz6 := hs6.size
    refine as_q rfl rfl (q_assign rfl) ?_
    refine as_nil (hK9 _ _ ?_)
    clear hK9 K9
    refine cw_region fun K10 hK10 => ?_
    -- region 7
    refine as_q rfl rfl (q_move rfl) ?_
    refine as_q rfl rfl (q_fieldAddr (off := 1) (by kernel_rfl) rfl) ?_
    refine as_q rfl rfl (q_load1 (by kernel_rfl) rfl (by first | exact BlkR.cell (hs6.sat _ _ _ hb1) rfl | assumption)) ?_
    refine as_q rfl rfl (q_move rfl) ?_
    refine as_q rfl rfl (q_indexAddr (e := 69) (size := 2) (by kernel_rfl) (by kernel_rfl) rfl rfl (by omega) (by omega)) ?_
    refine as_q rfl rfl (q_fieldAddr (off := 1) (by kernel_rfl) rfl) ?_
    refine as_q rfl rfl (q_load1 (by kernel_rfl) rfl ((hr.elem hT.sat rfl (flat_elem (j := (i : Int).toNat) (by simpa using hti))).2 1 _ rfl)) ?_
    have hq7 := hT.size
    refine as_h rfl (h_append (e := 2) (size := 1) (bytes := 8) (by kernel_rfl) hs6.sat hdb (hta.rd hs6.sat) rfl rfl (i64s_one _) (by omega) rfl fun hev w7 hs7 heb heo => ?_)
    replace hb1 := hs7.le _ _ hb1
    replace hr := hr.mono hs7.le
    replace ha := ha.mono hs7.le
    have hef := floor_of heo hdf hq7
    replace hT := hT.trans hs7 (fun k hk h => absurd (hdf k h) (by omega))
    have hz7 := hs7.size
    refine as_q rfl rfl (q_assign rfl) ?_
    refine as_nil (hK10 _ _ ?_)
    clear hK10 K10
    refine hK7 _ _ ?_
    clear hK7 K7
    refine cw_region fun K11 hK11 => ?_
    -- region 4
    refine as_q rfl rfl (q_move rfl) ?_
    refine as_q rfl rfl (q_addx rfl rfl (by omega) (by omega)) ?_
    refine as_q rfl rfl (q_assign rfl) ?_
    refine as_nil (hK11 _ _ ?_)
    clear hK11 K11
    refine ⟨_, _, ?_, (.cons rfl (.cons rfl (.cons rfl (.nil _)))), i + 1, _, rfl, by omega, rfl, hT, ?_, hef⟩
    · omega
    · rw [htk, build_snoc, i64s_append, i64s_append]
      exact heb.cast (by simp only [List.length_append, List.length_cons, List.length_nil]) (by rw [List.append_assoc (i64s _)]; rfl)
  · skip
    have hge : i = k := by have := of_decide_eq_false hc0; omega
    refine cw_exit ?_
    refine hK3 _ _ ?_
    clear hK5 K5
    clear hK3 K3
    refine cw_rs fun K12 hK12 => ?_
    -- region 8
    refine as_q rfl rfl (q_move rfl) ?_
    refine as_q rfl rfl (q_assign rfl) ?_
    refine as_nil (hK12 _ _ ?_)
    clear hK12 K12
    refine cw_ret ?_
    rw [show (keyT ts).take i = keyT ts from by rw [hge, ← hk, ← hkl, List.take_length]] at hb
    obtain ⟨M9, h9, _, hr9, _⟩ := hT.freezeB hb hf
    exact ⟨_, (res_tmp rfl res_nil), M9, h9, hr9⟩

theorem plain18 {w : World} {M : Mem} {room : Int} {k oc : Nat} {oa : Option Addr} {ts : List T3} (hs : Sat M w) (hr : RdM M 2 (.slice oa k oc) k (flat ts)) (ha : ArgsM M ts) (hkb : k ≤ 100000) :
    Does Try.prog 32 #[.agg #[.int .i64 room, .slice oa k oc]] w (fun v w' => ∃ pv, v = .agg #[.int .i64 room, pv] ∧ ∃ M', Step Nope M w M' w' ∧ RdM M' 2 pv k (flat ts)) := by
  have hT := Step.refl Nope hs
  have hk : ts.length = k := by have := hr.1; rw [flat_length] at this; omega
  refine fn_enter Try.func32 rfl (rs := [.cell 2 59]) rfl rfl rfl rfl ?_
  refine cw_rs fun K1 hK1 => ?_
  -- region 0
  refine as_h rfl (h_boxM hs rfl rfl fun b1 M1 w1 hs1 hb1 e1 => ?_)
  replace hr := hr.mono hs1.le
  replace ha := ha.mono hs1.le
  replace hT := hT.then hs1
  have hz1 := hs1.size
  refine as_h rfl (h_allocO (z := (.agg #[(.int .i64 0), (.slice none 0 0)])) hs1.sat (by kernel_rfl) rfl fun b2 w2 hs2 ho2 e2 => ?_)
  replace hr := hr.mono hs2.le
  replace ha := ha.mono hs2.le
  replace hb1 := hs2.le _ _ hb1
  replace hT := hT.then hs2
  have hz2 := hs2.size
  have hl2 := ho2.1.lt
  refine as_nil (hK1 _ _ ?_)
  clear hK1 K1
  refine cw_rs fun K2 hK2 => ?_
  -- region 1
  refine as_q rfl rfl (q_fieldAddr (off := 0) (by kernel_rfl) rfl) ?_
  refine as_q rfl rfl (q_load1 (by kernel_rfl) rfl (by first | exact BlkR.cell (hs2.sat _ _ _ hb1) rfl | exact Blk.cell ho2.1 rfl | assumption)) ?_
  refine as_q rfl rfl (q_build (zs := [(.int .i64 0), (.slice none 0 0)]) (places := [(0, 1), (1, 1)]) (cs := [_, _]) (by kernel_rfl) (by kernel_rfl) rfl rfl) ?_
  refine as_h rfl (h_allocO (z := (.agg #[(.int .i64 0), (.slice none 0 0)])) hs2.sat (by kernel_rfl) rfl fun b3 w3 hs3 ho3 e3 => ?_)
  replace hr := hr.mono hs3.le
  replace ha := ha.mono hs3.le
  replace hb1 := hs3.le _ _ hb1
  replace ho2 := ho2.then hs3
  replace hT := hT.then hs3
  have hz3 := hs3.size
  have hl3 := ho3.1.lt
  refine as_h0 (h_store hs3.sat ho3 rfl rfl rfl (by kernel_rfl) rfl rfl rfl fun w4 hs4 hn4 => ?_)
  replace hr := hr.mono hs4.le
  replace ha := ha.mono hs4.le
  replace hb1 := hs4.le _ _ hb1
  replace ho2 := ho2.step hs4 (fun h => by have h : _ = _ := h; omega)
  clear ho3; have ho3 := hn4; clear hn4
  replace hT := hT.own hs4 (by omega)
  have hz4 := hs4.size
  refine as_nil (hK2 _ _ ?_)
  clear hK2 K2
  refine cw_seq fun K3 hK3 => ?_
  refine cw_rs fun K4 hK4 => ?_
  -- region 2
  refine as_q rfl rfl (q_assign rfl) ?_
  refine as_nil (hK4 _ _ ?_)
  clear hK4 K4
  refine cw_block ?_
  refine cw_loop (fun mm l w1 => ∃ (i : Nat) (pa : Option Addr) (pc : Nat), mm = k - i ∧ i ≤ k ∧ l = [(1, .pointer (some ⟨b1, 0, none⟩)), (2, .pointer (some ⟨b2, 0, none⟩)), (3, .pointer (some ⟨b3, 0, none⟩)), (4, .int .i64 i)] ∧ Step Nope M w M1 w1 ∧ Own w1 M1 b2 [.int .i64 0, .slice none 0 0] 59 ∧ Own w1 M1 b3 [.int .i64 room, .slice pa i pc] 59 ∧ Buf w1 M1 69 2 (.slice pa i pc) i (flat (ts.take i)) ∧ (∀ g, (Value.slice pa i pc).ownBlock = some g → w.heap.size ≤ g) ∧ (Value.slice pa i pc).ownBlock ≠ some b2 ∧ (Value.slice pa i pc).ownBlock ≠ some b3) (k) [(1, .pointer (some ⟨b1, 0, none⟩)), (2, .pointer (some ⟨b2, 0, none⟩)), (3, .pointer (some ⟨b3, 0, none⟩)), (4, .int .i64 (0 : Nat))] (.cons rfl (.cons rfl (.cons rfl (.cons rfl (.nil _))))) ?_ ?_
  · skip
    exact ⟨0, none, 0, rfl, Nat.zero_le _, rfl, hT, ho2, ho3, Buf.nil _ _ _ _, fun g hg => (by cases hg), by simp [Value.ownBlock], by simp [Value.ownBlock]⟩
  have hb23 : b2 ≠ b3 := by omega
  have hbw2 : w.heap.size ≤ b2 := by omega
  have hbw3 : w.heap.size ≤ b3 := by omega
  clear hT ho2 ho3
  rintro mm l w1 ⟨i, pa, pc, rfl, hi, rfl, hT, ho2, ho3, hb, hf, hp2, hp3⟩
  refine cw_seq fun K5 hK5 => ?_
  refine cw_rs fun K6 hK6 => ?_
  -- region 3
  refine as_q rfl rfl (q_move rfl) ?_
  refine as_q rfl rfl (q_fieldAddr (off := 1) (by kernel_rfl) rfl) ?_
  refine as_q rfl rfl (q_load1 (by kernel_rfl) rfl (by first | exact BlkR.cell (hT.sat _ _ _ hb1) rfl | exact Blk.cell ho2.1 rfl | exact Blk.cell ho3.1 rfl | assumption)) ?_
  refine as_q rfl rfl (q_len (by kernel_rfl) rfl _) ?_
  first | refine as_q rfl rfl (q_ltT rfl rfl (by omega)) ?_ | refine as_q rfl rfl (q_ltF rfl rfl (by omega)) ?_ | refine as_q rfl rfl (q_lt rfl rfl) ?_
  refine as_nil (hK6 _ _ ?_)
  clear hK6 K6
  refine cw_cond rfl (fun hc0 => ?_) (fun hc0 => ?_)
  · skip
    have hlt : i < k := by have := of_decide_eq_true hc0; omega
    obtain ⟨g, o, rfl⟩ := hr.there (by omega)
    obtain ⟨⟨tc, tz, tv⟩, hti⟩ : ∃ t, ts[i]? = some t := ⟨ts[i], by simp⟩
    have hta : RdM M1 1 tv tz.length (i64s tz) := ha _ (List.mem_of_getElem? hti)
    obtain ⟨tva, tvc, rfl, _⟩ := hta.slice
    refine cw_skip ?_
    refine hK5 _ _ ?_
    clear hK5 K5
    refine cw_seq fun K7 hK7 => ?_
    refine cw_block ?_
    refine cw_drawn (by kernel_rfl) (by kernel_rfl) (by kernel_rfl) rfl rfl fun K8 hK8 => ?_
    -- region 5
    have hs5 := Step.drew hT.sat
    have hz5 := hs5.size
    replace hb1 := hs5.le _ _ hb1
    replace hr := hr.mono hs5.le
    replace ha := ha.mono hs5.le
    replace ho2 := ho2.then hs5
    replace ho3 := ho3.then hs5
    replace hb := hb.then hs5
    replace hT := hT.then hs5
    refine at_q (i := 0) (li := #[true, false, false, false, false, false, false, false, false, false, false, false, false, false, false, false, false, false, false]) rfl (by kernel_rfl) rfl (fun _ => (q_fieldAddr (off := 1) (by kernel_rfl) rfl)) (by kernel_rfl) ?_
    refine at_l (i := 1) (li := #[true, true, false, false, false, false, false, false, false, false, false, false, false, false, false, false, false, false, false]) (cellIs _ _ _) rfl (by kernel_rfl) rfl (fun _ h => q_load1 (by kernel_rfl) rfl h) (by first | exact BlkR.cell (hs5.sat _ _ _ hb1) rfl | exact Blk.cell ho2.1 rfl | exact Blk.cell ho3.1 rfl | assumption) (by kernel_rfl) ?_
    refine at_q (i := 2) (li := #[true, true, true, false, false, false, false, false, false, false, false, false, false, false, false, false, false, false, false]) rfl (by kernel_rfl) rfl (fun _ => (q_fieldAddr (off := 1) (by kernel_rfl) rfl)) (by kernel_rfl) ?_
    refine at_l (i := 3) (li := #[true, true, true, true, false, false, false, false, false, false, false, false, false, false, false, false, false, false, false]) (cellIs _ _ _) rfl (by kernel_rfl) rfl (fun _ h => q_load1 (by kernel_rfl) rfl h) (by first | exact BlkR.cell (hs5.sat _ _ _ hb1) rfl | exact Blk.cell ho2.1 rfl | exact Blk.cell ho3.1 rfl | assumption) (by kernel_rfl) ?_
    refine at_q (i := 4) (li := #[true, true, true, true, true, false, false, false, false, false, false, false, false, false, false, false, false, false, false]) rfl (by kernel_rfl) rfl (fun _ => (q_move rfl)) (by kernel_rfl) ?_
    refine at_q (i := 5) (li := #[true, true, true, true, true, true, false, false, false, false, false, false, false, false, false, false, false, false, false]) rfl (by kernel_rfl) rfl (fun _ => (q_indexAddr (e := 51) (size := 2) (by kernel_rfl) (by kernel_rfl) rfl rfl (by omega) (by omega))) (by kernel_rfl) ?_
    refine at_q (i := 6) (li := #[true, true, true, true, true, true, true, false, false, false, false, false, false, false, false, false, false, false, false]) rfl (by kernel_rfl) rfl (fun _ => (q_fieldAddr (off := 0) (by kernel_rfl) rfl)) (by kernel_rfl) ?_
    refine at_l (i := 7) (li := #[true, true, true, true, true, true, true, true, false, false, false, false, false, false, false, false, false, false, false]) (cellIs _ _ _) rfl (by kernel_rfl) rfl (fun _ h => q_load1 (by kernel_rfl) rfl h) ((hr.elem hT.sat rfl (flat_elem (j := (i : Int).toNat) (by simpa using hti))).2 0 _ rfl) (by kernel_rfl) ?_
    refine at_q (i := 8) (li := #[true, true, true, true, true, true, true, true, true, false, false, false, false, false, false, false, false, false, false]) rfl (by kernel_rfl) rfl (fun _ => (q_fieldAddr (off := 1) (by kernel_rfl) rfl)) (by kernel_rfl) ?_
    refine at_l (i := 9) (li := #[true, true, true, true, true, true, true, true, true, true, false, false, false, false, false, false, false, false, false]) (cellIs _ _ _) rfl (by kernel_rfl) rfl (fun _ h => q_load1 (by kernel_rfl) rfl h) (by first | exact BlkR.cell (hs5.sat _ _ _ hb1) rfl | exact Blk.cell ho2.1 rfl | exact Blk.cell ho3.1 rfl | assumption) (by kernel_rfl) ?_
    refine at_q (i := 10) (li := #[true, true, true, true, true, true, true, true, true, true, true, false, false, false, false, false, false, false, false]) rfl (by kernel_rfl) rfl (fun _ => (q_move rfl)) (by kernel_rfl) ?_
    refine at_q (i := 11) (li := #[true, true, true, true, true, true, true, true, true, true, true, true, false, false, false, false, false, false, false]) rfl (by kernel_rfl) rfl (fun _ => (q_indexAddr (e := 51) (size := 2) (by kernel_rfl) (by kernel_rfl) rfl rfl (by omega) (by omega))) (by kernel_rfl) ?_
    refine at_q (i := 12) (li := #[true, true, true, true, true, true, true, true, true, true, true, true, true, false, false, false, false, false, false]) rfl (by kernel_rfl) rfl (fun _ => (q_fieldAddr (off := 1) (by kernel_rfl) rfl)) (by kernel_rfl) ?_
    refine at_l (i := 13) (li := #[true, true, true, true, true, true, true, true, true, true, true, true, true, true, false, false, false, false, false]) (cellIs _ _ _) rfl (by kernel_rfl) rfl (fun _ h => q_load1 (by kernel_rfl) rfl h) ((hr.elem hT.sat rfl (flat_elem (j := (i : Int).toNat) (by simpa using hti))).2 1 _ rfl) (by kernel_rfl) ?_
    refine at_q (i := 14) (li := #[true, true, true, true, true, true, true, true, true, true, true, true, true, true, true, false, false, false, false]) rfl (by kernel_rfl) rfl (fun _ => (q_build (zs := [(.int .i64 0), (.slice none 0 0)]) (places := [(0, 1), (1, 1)]) (cs := [_, _]) (by kernel_rfl) (by kernel_rfl) rfl rfl)) (by kernel_rfl) ?_
    refine at_h (i := 15) (li := #[true, true, true, true, true, true, true, true, true, true, true, true, true, true, true, true, false, false, false]) rfl (by kernel_rfl) rfl (keep_sift (bs := [false, false, false, false, false]) (by kernel_rfl)) (by kernel_rfl) (h_buildO (e := 69) (size := 2) (zs := [(.int .i64 0), (.slice none 0 0)]) (cs := [_, _]) (by kernel_rfl) (by kernel_rfl) (by kernel_rfl) rfl hs5.sat rfl rfl fun b6 w6 hs6 ho6 e6 => ?_)
    replace hb1 := hs6.le _ _ hb1
    replace hr := hr.mono hs6.le
    replace ha := ha.mono hs6.le
    replace ho2 := ho2.then hs6
    replace ho3 := ho3.then hs6
    replace hb := hb.then hs6
    replace hT := hT.then hs6
    have hz6 := hs6.size
    have hl6 := ho6.1.lt
    refine ⟨(by repeat' first | exact trivial | exact BlkR.cell (hs6.sat _ _ _ hb1) rfl | exact BlkR.cells (hs6.sat _ _ _ hb1) rfl | exact Blk.cell ho2.1 rfl | exact Blk.cells ho2.1 rfl | exact Blk.cell ho3.1 rfl | exact Blk.cells ho3.1 rfl | exact Blk.cell ho6.1 rfl | exact Blk.cells ho6.1 rfl | exact ((hr.elem hT.sat rfl (flat_elem (j := (i : Int).toNat) (by simpa using hti))).2 0 _ rfl) | exact ((hr.elem hT.sat rfl (flat_elem (j := (i : Int).toNat) (by simpa using hti))).2 1 _ rfl) | assumption | refine all_keep ?_ | refine And.intro ?_ ?_), ?_⟩
    have hl2 := ho2.1.lt
    have hl3 := ho3.1.lt
    have hq7 := hT.size
    refine at_h (i := 16) (li := #[true, true, true, true, true, true, true, true, true, true, true, true, true, true, true, true, true, false, false]) rfl (by kernel_rfl) rfl (keep_sift (bs := [false, false, false, false, true]) (by kernel_rfl)) (by kernel_rfl) (h_append (e := 69) (size := 2) (bytes := 32) (by kernel_rfl) hs6.sat hb ((Own.buf ho6 (n := 1) (size := 2) rfl (by decide)).rd) rfl rfl (by simp [Value.oneCell']) (by omega) rfl fun hcv w7 hs7 hcb hco => ?_)
    replace hb1 := hs7.le _ _ hb1
    replace hr := hr.mono hs7.le
    replace ha := ha.mono hs7.le
    replace ho2 := ho2.step hs7 hp2
    replace ho3 := ho3.step hs7 hp3
    clear ho6
    have hcf := floor_of hco hf hq7
    replace hT := hT.trans hs7 (fun k hk h => absurd (hf k h) (by omega))
    have hz7 := hs7.size
    have hc2 := lt_of_app hco hp2 (by omega)
    have hc3 := lt_of_app hco hp3 (by omega)
    obtain ⟨ca, cc, rfl, _⟩ := hcb.slice
    refine ⟨(by repeat' first | exact trivial | exact BlkR.cell (hs7.sat _ _ _ hb1) rfl | exact BlkR.cells (hs7.sat _ _ _ hb1) rfl | exact Blk.cell ho2.1 rfl | exact Blk.cells ho2.1 rfl | exact Blk.cell ho3.1 rfl | exact Blk.cells ho3.1 rfl | exact ((hr.elem hT.sat rfl (flat_elem (j := (i : Int).toNat) (by simpa using hti))).2 0 _ rfl) | exact ((hr.elem hT.sat rfl (flat_elem (j := (i : Int).toNat) (by simpa using hti))).2 1 _ rfl) | assumption | refine all_keep ?_ | refine And.intro ?_ ?_), ?_⟩
    refine at_q (i := 17) (li := #[true, true, true, true, true, true, true, true, true, true, true, true, true, true, true, true, true, true, false]) rfl (by kernel_rfl) rfl (fun _ => (q_fieldAddr (off := 1) (by kernel_rfl) rfl)) (by kernel_rfl) ?_
    refine at_h0 (i := 18) (li := #[true, true, true, true, true, true, true, true, true, true, true, true, true, true, true, true, true, true, true]) rfl (by kernel_rfl) (keep_sift (bs := [true, true, true, true]) (by kernel_rfl)) (by kernel_rfl) (h_store hs7.sat ho3 rfl rfl rfl (by kernel_rfl) rfl rfl rfl fun w8 hs8 hn8 => ?_)
    replace hb1 := hs8.le _ _ hb1
    replace hr := hr.mono hs8.le
    replace ha := ha.mono hs8.le
    replace ho2 := ho2.step hs8 (fun h => hb23 h)
    replace hcb := hcb.step hs8 (fun g hg h => by have h : g = b3 := h; subst h; exact hc3 hg)
    clear ho3; have ho3 := hn8; clear hn8
    replace hT := hT.own hs8 (by omega)
    have hz8 := hs8.size
    refine ⟨(by repeat' first | exact trivial | exact BlkR.cell (hs8.sat _ _ _ hb1) rfl | exact BlkR.cells (hs8.sat _ _ _ hb1) rfl | exact Blk.cell ho2.1 rfl | exact Blk.cells ho2.1 rfl | exact Blk.cell ho3.1 rfl | exact Blk.cells ho3.1 rfl | exact ((hr.elem hT.sat rfl (flat_elem (j := (i : Int).toNat) (by simpa using hti))).2 0 _ rfl) | exact ((hr.elem hT.sat rfl (flat_elem (j := (i : Int).toNat) (by simpa using hti))).2 1 _ rfl) | assumption | refine all_keep ?_ | refine And.intro ?_ ?_), ?_⟩
    refine at_done (by kernel_rfl) (hK8 _ _ ?_)
    clear hK8 K8
    refine hK7 _ _ ?_
    clear hK7 K7
    refine cw_region fun K9 hK9 => ?_
    -- region 4
    refine as_q rfl rfl (q_move rfl) ?_
    refine as_q rfl rfl (q_addx rfl rfl (by omega) (by omega)) ?_
    refine as_q rfl rfl (q_assign rfl) ?_
    refine as_nil (hK9 _ _ ?_)
    clear hK9 K9
    refine ⟨_, _, ?_, (.cons rfl (.cons rfl (.cons rfl (.cons rfl (.nil _))))), i + 1, _, _, rfl, by omega, rfl, hT, ho2, ho3, hcb.cast rfl (flat_take hti).symm, hcf, hc2, hc3⟩
    omega
  · skip
    have hge : i = k := by have := of_decide_eq_false hc0; omega
    refine cw_exit ?_
    refine hK3 _ _ ?_
    clear hK5 K5
    clear hK3 K3
    refine cw_rs fun K10 hK10 => ?_
    -- region 6
    refine as_q rfl rfl (q_loadc (n := 2) (by kernel_rfl) rfl (by first | exact BlkR.cells (hT.sat _ _ _ hb1) rfl | exact Blk.cells ho2.1 rfl | exact Blk.cells ho3.1 rfl | assumption)) ?_
    refine as_h0 (h_store hT.sat ho2 rfl rfl rfl (by kernel_rfl) rfl rfl rfl fun w9 hs9 hn9 => ?_)
    replace hb1 := hs9.le _ _ hb1
    replace hr := hr.mono hs9.le
    replace ha := ha.mono hs9.le
    replace ho3 := ho3.step hs9 (fun h => hb23 (Eq.symm h))
    replace hb := hb.step hs9 (fun g hg h => by have h : g = b2 := h; subst h; exact hp2 hg)
    clear ho2; have ho2 := hn9; clear hn9
    replace hT := hT.own hs9 (by omega)
    have hz9 := hs9.size
    refine as_nil (hK10 _ _ ?_)
    clear hK10 K10
    refine cw_ret ?_
    obtain ⟨M9, h9, _, hr9, _⟩ := hT.freezeB hb hf
    obtain rfl : i = k := hge
    exact ⟨_, (res_cell rfl (loadVar_n (n := 2) (by kernel_rfl) (by first | exact BlkR.cells (hs9.sat _ _ _ hb1) rfl | exact Blk.cells ho2.1 rfl | exact Blk.cells ho3.1 rfl | assumption)) res_nil), _, rfl, M9, h9, by rw [show ts.take i = ts from by rw [← hk, List.take_length]] at hr9; exact hr9⟩

theorem parse18 {w : World} {M : Mem} {v : Value} {n : Nat} {zs : List Int} (hs : Sat M w) (hn : n ≤ 100000) (hv : RdM M 1 v n (i64s zs)) :
    Does Try.prog 28 #[v] w (fun v w' => ∃ M', Step Nope M w M' w' ∧ PR M' v zs) := by
  have hT := Step.refl Nope hs
  have hl : zs.length = n := by have := hv.1; rw [i64s_length] at this; omega
  obtain ⟨a, c, rfl, hac0, _⟩ := hv.slice
  refine fn_enter Try.func28 rfl (rs := [.cell 2 49, .tmp 3]) rfl rfl rfl rfl ?_
  refine cw_rs fun K1 hK1 => ?_
  -- region 0
  refine as_h rfl (h_allocO (z := (.agg #[(.int .i64 0), (.slice none 0 0)])) hs (by kernel_rfl) rfl fun b2 w1 hs1 ho2 e2 => ?_)
  replace hv := hv.mono hs1.le
  replace hT := hT.then hs1
  have hz1 := hs1.size
  have hl2 := ho2.1.lt
  refine as_q rfl rfl (q_assign rfl) ?_
  refine as_nil (hK1 _ _ ?_)
  clear hK1 K1
  refine cw_seq fun K2 hK2 => ?_
  refine cw_rs fun K3 hK3 => ?_
  -- region 1
  refine as_q rfl rfl (q_move rfl) ?_
  refine as_q rfl rfl (q_len (by kernel_rfl) rfl _) ?_
  first | refine as_q rfl rfl (q_eqT rfl rfl (by omega)) ?_ | refine as_q rfl rfl (q_eqF rfl rfl (by omega)) ?_ | refine as_q rfl rfl (q_eq rfl rfl) ?_
  refine as_nil (hK3 _ _ ?_)
  clear hK3 K3
  refine cw_cond rfl (fun hc0 => ?_) (fun hc0 => ?_)
  · skip
    have hz0 : n = 0 := by simp at hc0; omega
    refine cw_rs fun K4 hK4 => ?_
    -- region 2
    refine as_q rfl rfl (q_build (zs := [(.int .i64 0), (.slice none 0 0)]) (places := [(0, 1), (1, 1)]) (cs := [_, _]) (by kernel_rfl) (by kernel_rfl) rfl rfl) ?_
    refine as_h0 (h_store hs1.sat ho2 rfl rfl rfl (by kernel_rfl) rfl rfl rfl fun w2 hs2 hn2 => ?_)
    replace hv := hv.mono hs2.le
    clear ho2; have ho2 := hn2; clear hn2
    replace hT := hT.own hs2 (by omega)
    have hz2 := hs2.size
    refine as_q rfl rfl (q_assign rfl) ?_
    refine as_nil (hK4 _ _ ?_)
    clear hK4 K4
    refine cw_ret ?_
    exact ⟨_, (res_cell rfl (loadVar_n (n := 2) (by kernel_rfl) (by first | exact Blk.cells ho2.1 rfl | assumption)) (res_tmp rfl res_nil)), _, hT, PR.err (by rw [List.eq_nil_of_length_eq_zero (by omega : zs.length = 0)]; rfl) (by decide)⟩
  · skip
    have hz0 : n ≠ 0 := by simp at hc0; omega
    obtain ⟨g, o, rfl⟩ := hv.there (by omega)
    obtain ⟨a0, r0, rfl⟩ : ∃ a r, zs = a :: r := by
      cases zs with
      | nil => simp at hl; omega
      | cons a r => exact ⟨a, r, rfl⟩
    have hl1 : r0.length + 1 = n := hl
    have hcase : a0 < 0 ∨ 64 < a0 ∨ (0 ≤ a0 ∧ a0 ≤ 64) := by omega
    rcases hcase with hac | hac | ⟨hac, hac2⟩
    · skip
      refine cw_skip ?_
      refine hK2 _ _ ?_
      clear hK2 K2
      refine cw_seq fun K5 hK5 => ?_
      refine cw_rs fun K6 hK6 => ?_
      -- region 3
      refine as_q rfl rfl (q_move rfl) ?_
      refine as_q rfl rfl (q_indexAddr (e := 2) (size := 1) (by kernel_rfl) (by kernel_rfl) rfl rfl (by omega) (by omega)) ?_
      refine as_q rfl rfl (q_load1 (by kernel_rfl) rfl (hv.cell hT.sat (u := .int .i64 a0) (by simp [i64s]))) ?_
      first | refine as_q rfl rfl (q_ltT rfl rfl (by omega)) ?_ | refine as_q rfl rfl (q_ltF rfl rfl (by omega)) ?_ | refine as_q rfl rfl (q_lt rfl rfl) ?_
      refine as_q rfl rfl (q_move rfl) ?_
      first | refine as_gskip rfl rfl rfl rfl rfl ?_ | refine as_gskipU rfl rfl rfl rfl ?_ | refine as_gh rfl rfl rfl rfl (h_q rfl (q_move rfl) ?_)
      first | refine as_gskip rfl rfl rfl rfl rfl ?_ | refine as_gskipU rfl rfl rfl rfl ?_ | refine as_gh rfl rfl rfl rfl (h_q rfl (q_indexAddr (e := 2) (size := 1) (by kernel_rfl) (by kernel_rfl) rfl rfl (by omega) (by omega)) ?_)
      first | refine as_gskip rfl rfl rfl rfl rfl ?_ | refine as_gskipU rfl rfl rfl rfl ?_ | refine as_gh rfl rfl rfl rfl (h_q rfl (q_load1 (by kernel_rfl) rfl (hv.cell hT.sat (u := .int .i64 a0) (by simp [i64s]))) ?_)
      first | refine as_gskip rfl rfl rfl rfl rfl ?_ | refine as_gskipU rfl rfl rfl rfl ?_ | refine as_gh rfl rfl rfl rfl (h_q rfl (q_gtT rfl rfl (by omega)) ?_) | refine as_gh rfl rfl rfl rfl (h_q rfl (q_gtF rfl rfl (by omega)) ?_) | refine as_gh rfl rfl rfl rfl (h_q rfl (q_gt rfl rfl) ?_)
      first | refine as_q rfl rfl (q_pick_t rfl rfl) ?_ | refine as_q rfl rfl (q_pick_f rfl rfl) ?_ | refine as_q rfl rfl (q_pick rfl rfl rfl) ?_
      refine as_nil (hK6 _ _ ?_)
      clear hK6 K6
      refine cw_true rfl ?_
      refine cw_rs fun K7 hK7 => ?_
      -- region 4
      refine as_q rfl rfl (q_build (zs := [(.int .i64 0), (.slice none 0 0)]) (places := [(0, 1), (1, 1)]) (cs := [_, _]) (by kernel_rfl) (by kernel_rfl) rfl rfl) ?_
      refine as_h0 (h_store hs1.sat ho2 rfl rfl rfl (by kernel_rfl) rfl rfl rfl fun w3 hs3 hn3 => ?_)
      replace hv := hv.mono hs3.le
      clear ho2; have ho2 := hn3; clear hn3
      replace hT := hT.own hs3 (by omega)
      have hz3 := hs3.size
      refine as_q rfl rfl (q_assign rfl) ?_
      refine as_nil (hK7 _ _ ?_)
      clear hK7 K7
      refine cw_ret ?_
      exact ⟨_, (res_cell rfl (loadVar_n (n := 2) (by kernel_rfl) (by first | exact Blk.cells ho2.1 rfl | assumption)) (res_tmp rfl res_nil)), _, hT, PR.err (if_pos (Or.inl hac)) (by decide)⟩
    · skip
      refine cw_skip ?_
      refine hK2 _ _ ?_
      clear hK2 K2
      refine cw_seq fun K8 hK8 => ?_
      refine cw_rs fun K9 hK9 => ?_
      -- region 3
      refine as_q rfl rfl (q_move rfl) ?_
      refine as_q rfl rfl (q_indexAddr (e := 2) (size := 1) (by kernel_rfl) (by kernel_rfl) rfl rfl (by omega) (by omega)) ?_
      refine as_q rfl rfl (q_load1 (by kernel_rfl) rfl (hv.cell hT.sat (u := .int .i64 a0) (by simp [i64s]))) ?_
      first | refine as_q rfl rfl (q_ltT rfl rfl (by omega)) ?_ | refine as_q rfl rfl (q_ltF rfl rfl (by omega)) ?_ | refine as_q rfl rfl (q_lt rfl rfl) ?_
      refine as_q rfl rfl (q_move rfl) ?_
      first | refine as_gskip rfl rfl rfl rfl rfl ?_ | refine as_gskipU rfl rfl rfl rfl ?_ | refine as_gh rfl rfl rfl rfl (h_q rfl (q_move rfl) ?_)
      first | refine as_gskip rfl rfl rfl rfl rfl ?_ | refine as_gskipU rfl rfl rfl rfl ?_ | refine as_gh rfl rfl rfl rfl (h_q rfl (q_indexAddr (e := 2) (size := 1) (by kernel_rfl) (by kernel_rfl) rfl rfl (by omega) (by omega)) ?_)
      first | refine as_gskip rfl rfl rfl rfl rfl ?_ | refine as_gskipU rfl rfl rfl rfl ?_ | refine as_gh rfl rfl rfl rfl (h_q rfl (q_load1 (by kernel_rfl) rfl (hv.cell hT.sat (u := .int .i64 a0) (by simp [i64s]))) ?_)
      first | refine as_gskip rfl rfl rfl rfl rfl ?_ | refine as_gskipU rfl rfl rfl rfl ?_ | refine as_gh rfl rfl rfl rfl (h_q rfl (q_gtT rfl rfl (by omega)) ?_) | refine as_gh rfl rfl rfl rfl (h_q rfl (q_gtF rfl rfl (by omega)) ?_) | refine as_gh rfl rfl rfl rfl (h_q rfl (q_gt rfl rfl) ?_)
      first | refine as_q rfl rfl (q_pick_t rfl rfl) ?_ | refine as_q rfl rfl (q_pick_f rfl rfl) ?_ | refine as_q rfl rfl (q_pick rfl rfl rfl) ?_
      refine as_nil (hK9 _ _ ?_)
      clear hK9 K9
      refine cw_true rfl ?_
      refine cw_rs fun K10 hK10 => ?_
      -- region 4
      refine as_q rfl rfl (q_build (zs := [(.int .i64 0), (.slice none 0 0)]) (places := [(0, 1), (1, 1)]) (cs := [_, _]) (by kernel_rfl) (by kernel_rfl) rfl rfl) ?_
      refine as_h0 (h_store hs1.sat ho2 rfl rfl rfl (by kernel_rfl) rfl rfl rfl fun w4 hs4 hn4 => ?_)
      replace hv := hv.mono hs4.le
      clear ho2; have ho2 := hn4; clear hn4
      replace hT := hT.own hs4 (by omega)
      have hz4 := hs4.size
      refine as_q rfl rfl (q_assign rfl) ?_
      refine as_nil (hK10 _ _ ?_)
      clear hK10 K10
      refine cw_ret ?_
      exact ⟨_, (res_cell rfl (loadVar_n (n := 2) (by kernel_rfl) (by first | exact Blk.cells ho2.1 rfl | assumption)) (res_tmp rfl res_nil)), _, hT, PR.err (if_pos (Or.inr hac)) (by decide)⟩
    · skip
      refine cw_skip ?_
      refine hK2 _ _ ?_
      clear hK2 K2
      refine cw_seq fun K11 hK11 => ?_
      refine cw_rs fun K12 hK12 => ?_
      -- region 3
      refine as_q rfl rfl (q_move rfl) ?_
      refine as_q rfl rfl (q_indexAddr (e := 2) (size := 1) (by kernel_rfl) (by kernel_rfl) rfl rfl (by omega) (by omega)) ?_
      refine as_q rfl rfl (q_load1 (by kernel_rfl) rfl (hv.cell hT.sat (u := .int .i64 a0) (by simp [i64s]))) ?_
      first | refine as_q rfl rfl (q_ltT rfl rfl (by omega)) ?_ | refine as_q rfl rfl (q_ltF rfl rfl (by omega)) ?_ | refine as_q rfl rfl (q_lt rfl rfl) ?_
      refine as_q rfl rfl (q_move rfl) ?_
      first | refine as_gskip rfl rfl rfl rfl rfl ?_ | refine as_gskipU rfl rfl rfl rfl ?_ | refine as_gh rfl rfl rfl rfl (h_q rfl (q_move rfl) ?_)
      first | refine as_gskip rfl rfl rfl rfl rfl ?_ | refine as_gskipU rfl rfl rfl rfl ?_ | refine as_gh rfl rfl rfl rfl (h_q rfl (q_indexAddr (e := 2) (size := 1) (by kernel_rfl) (by kernel_rfl) rfl rfl (by omega) (by omega)) ?_)
      first | refine as_gskip rfl rfl rfl rfl rfl ?_ | refine as_gskipU rfl rfl rfl rfl ?_ | refine as_gh rfl rfl rfl rfl (h_q rfl (q_load1 (by kernel_rfl) rfl (hv.cell hT.sat (u := .int .i64 a0) (by simp [i64s]))) ?_)
      first | refine as_gskip rfl rfl rfl rfl rfl ?_ | refine as_gskipU rfl rfl rfl rfl ?_ | refine as_gh rfl rfl rfl rfl (h_q rfl (q_gtT rfl rfl (by omega)) ?_) | refine as_gh rfl rfl rfl rfl (h_q rfl (q_gtF rfl rfl (by omega)) ?_) | refine as_gh rfl rfl rfl rfl (h_q rfl (q_gt rfl rfl) ?_)
      first | refine as_q rfl rfl (q_pick_t rfl rfl) ?_ | refine as_q rfl rfl (q_pick_f rfl rfl) ?_ | refine as_q rfl rfl (q_pick rfl rfl rfl) ?_
      refine as_nil (hK12 _ _ ?_)
      clear hK12 K12
      refine cw_false rfl ?_
      refine cw_skip ?_
      refine hK11 _ _ ?_
      clear hK11 K11
      refine cw_rs fun K13 hK13 => ?_
      -- region 5
      refine as_q rfl rfl (q_move rfl) ?_
      refine as_q rfl rfl (q_indexAddr (e := 2) (size := 1) (by kernel_rfl) (by kernel_rfl) rfl rfl (by omega) (by omega)) ?_
      refine as_q rfl rfl (q_load1 (by kernel_rfl) rfl (hv.cell hT.sat (u := .int .i64 a0) (by simp [i64s]))) ?_
      refine as_q rfl rfl (q_build (zs := [(.int .i64 0), (.slice none 0 0)]) (places := [(0, 1), (1, 1)]) (cs := [_, _]) (by kernel_rfl) (by kernel_rfl) rfl rfl) ?_
      refine as_h rfl (h_allocO (z := (.agg #[(.int .i64 0), (.slice none 0 0)])) hs1.sat (by kernel_rfl) rfl fun b4 w5 hs5 ho4 e4 => ?_)
      replace hv := hv.mono hs5.le
      replace ho2 := ho2.then hs5
      replace hT := hT.then hs5
      have hz5 := hs5.size
      have hl4 := ho4.1.lt
      refine as_h0 (h_store hs5.sat ho4 rfl rfl rfl (by kernel_rfl) rfl rfl rfl fun w6 hs6 hn6 => ?_)
      replace hv := hv.mono hs6.le
      replace ho2 := ho2.step hs6 (fun h => by have h : _ = _ := h; omega)
      clear ho4; have ho4 := hn6; clear hn6
      replace hT := hT.own hs6 (by omega)
      have hz6 := hs6.size
      refine as_nil (hK13 _ _ ?_)
      clear hK13 K13
      refine cw_seq fun K14 hK14 => ?_
      refine cw_rs fun K15 hK15 => ?_
      -- region 6
      refine as_q rfl rfl (q_move rfl) ?_
      refine as_q rfl rfl (q_slice (e := 2) (size := 1) (k' := .i64) (by kernel_rfl) (by kernel_rfl) rfl rfl rfl (by omega) (by omega) (by omega)) ?_
      refine as_q rfl rfl (q_assign rfl) ?_
      refine as_nil (hK15 _ _ ?_)
      clear hK15 K15
      refine cw_block ?_
      refine cw_loop (fun mm l w1 => ∃ (rs : List Int) (ts : List T3) (M1 : Mem) (pv rv : Value), mm = rs.length ∧ l = [(0, rv), (2, .pointer (some ⟨b2, 0, none⟩)), (4, .pointer (some ⟨b4, 0, none⟩))] ∧ Step Nope M w M1 w1 ∧ RdM M1 1 rv rs.length (i64s rs) ∧ Own w1 M1 b2 [.int .i64 0, .slice none 0 0] 49 ∧ Own w1 M1 b4 [.int .i64 a0, pv] 49 ∧ Buf w1 M1 51 2 pv ts.length (flat ts) ∧ ArgsM M1 ts ∧ ts.length ≤ 256 ∧ rs.length ≤ 100000 ∧ pGo [] r0 = pGo (keyT ts) rs ∧ (∀ g, pv.ownBlock = some g → w.heap.size ≤ g) ∧ pv.ownBlock ≠ some b2 ∧ pv.ownBlock ≠ some b4) (r0.length) [(0, _), (2, .pointer (some ⟨b2, 0, none⟩)), (4, .pointer (some ⟨b4, 0, none⟩))] (.cons rfl (.cons rfl (.cons rfl (.nil _)))) ?_ ?_
      · skip
        exact ⟨r0, [], _, _, _, rfl, rfl, hT, (rd_from hv 1 (by omega) (by omega)).cast rfl (by simp) (by simp), ho2, ho4, Buf.nil _ _ _ _, fun t ht => (by cases ht), by simp, by omega, rfl, fun g hg => (by cases hg), by simp [Value.ownBlock], by simp [Value.ownBlock]⟩
      have hb24 : b2 ≠ b4 := by omega
      have hbw2 : w.heap.size ≤ b2 := by omega
      have hbw4 : w.heap.size ≤ b4 := by omega
      clear hT ho2 ho4
      rintro mm l w1 ⟨rs, ts, M1, pv, rv, rfl, rfl, hT, hrs, ho2, ho4, hb, ha, ht256, hrl, hpg, hf, hp2, hp4⟩
      obtain ⟨ra, rc, rfl, hrc, _⟩ := hrs.slice
      obtain ⟨pa, pc, rfl, _⟩ := hb.slice
      refine cw_seq fun K16 hK16 => ?_
      refine cw_rs fun K17 hK17 => ?_
      -- region 7
      refine as_q rfl rfl (q_move rfl) ?_
      refine as_q rfl rfl (q_len (by kernel_rfl) rfl _) ?_
      first | refine as_q rfl rfl (q_gtT rfl rfl (by omega)) ?_ | refine as_q rfl rfl (q_gtF rfl rfl (by omega)) ?_ | refine as_q rfl rfl (q_gt rfl rfl) ?_
      refine as_nil (hK17 _ _ ?_)
      clear hK17 K17
      refine cw_cond rfl (fun hc2 => ?_) (fun hc2 => ?_)
      · skip
        have hlr : 0 < rs.length := by have := of_decide_eq_true hc2; omega
        obtain ⟨c0, hc0r⟩ : ∃ c, rs[0]? = some c := ⟨rs[0], by simp⟩
        obtain ⟨g2, o2, rfl⟩ := hrs.there (by omega)
        refine cw_skip ?_
        refine hK16 _ _ ?_
        clear hK16 K16
        refine cw_block ?_
        refine cw_seq fun K18 hK18 => ?_
        refine cw_block ?_
        refine cw_rs fun K19 hK19 => ?_
        -- region 8
        refine as_q rfl rfl (q_fieldAddr (off := 1) (by kernel_rfl) rfl) ?_
        refine as_q rfl rfl (q_load1 (by kernel_rfl) rfl (by first | exact Blk.cell ho2.1 rfl | exact Blk.cell ho4.1 rfl | assumption)) ?_
        refine as_q rfl rfl (q_len (by kernel_rfl) rfl _) ?_
        first | refine as_q rfl rfl (q_eqT rfl rfl (by omega)) ?_ | refine as_q rfl rfl (q_eqF rfl rfl (by omega)) ?_ | refine as_q rfl rfl (q_eq rfl rfl) ?_
        refine as_q rfl rfl (q_assign rfl) ?_
        refine as_nil (hK19 _ _ ?_)
        clear hK19 K19
        refine cw_cond rfl (fun hc3 => ?_) (fun hc3 => ?_)
        · skip
          have hL : ts.length = 256 := by simp at hc3; omega
          refine cw_rs fun K20 hK20 => ?_
          -- region 9
          refine as_q rfl rfl (q_build (zs := [(.int .i64 0), (.slice none 0 0)]) (places := [(0, 1), (1, 1)]) (cs := [_, _]) (by kernel_rfl) (by kernel_rfl) rfl rfl) ?_
          refine as_h0 (h_store hT.sat ho2 rfl rfl rfl (by kernel_rfl) rfl rfl rfl fun w7 hs7 hn7 => ?_)
          replace hrs := hrs.mono hs7.le
          replace ha := ha.mono hs7.le
          replace ho4 := ho4.step hs7 (fun h => hb24 (Eq.symm h))
          replace hb := hb.step hs7 (fun g hg h => by have h : g = b2 := h; subst h; exact hp2 hg)
          clear ho2; have ho2 := hn7; clear hn7
          replace hT := hT.own hs7 (by omega)
          have hz7 := hs7.size
          refine as_q rfl rfl (q_assign rfl) ?_
          refine as_nil (hK20 _ _ ?_)
          clear hK20 K20
          refine cw_ret ?_
          exact ⟨_, (res_cell rfl (loadVar_n (n := 2) (by kernel_rfl) (by first | exact Blk.cells ho2.1 rfl | exact Blk.cells ho4.1 rfl | assumption)) (res_tmp rfl res_nil)), _, hT, PR.err (by rw [parse_cons (by omega) (by omega), hpg, pGo_long (by rw [keyT_length]; exact hL) (by omega)]; rfl) (by decide)⟩
        · skip
          have hL : ts.length ≠ 256 := by simp at hc3; omega
          refine cw_rs fun K21 hK21 => ?_
          -- region 10
          refine as_q rfl rfl (q_move rfl) ?_
          refine as_q rfl rfl (q_len (by kernel_rfl) rfl _) ?_
          first | refine as_q rfl rfl (q_ltT rfl rfl (by omega)) ?_ | refine as_q rfl rfl (q_ltF rfl rfl (by omega)) ?_ | refine as_q rfl rfl (q_lt rfl rfl) ?_
          refine as_q rfl rfl (q_assign rfl) ?_
          refine as_nil (hK21 _ _ ?_)
          clear hK21 K21
          refine cw_cond rfl (fun hc4 => ?_) (fun hc4 => ?_)
          · skip
            have hl2 : rs.length = 1 := by have := of_decide_eq_true hc4; omega
            refine cw_rs fun K22 hK22 => ?_
            -- region 11
            refine as_q rfl rfl (q_build (zs := [(.int .i64 0), (.slice none 0 0)]) (places := [(0, 1), (1, 1)]) (cs := [_, _]) (by kernel_rfl) (by kernel_rfl) rfl rfl) ?_
            refine as_h0 (h_store hT.sat ho2 rfl rfl rfl (by kernel_rfl) rfl rfl rfl fun w8 hs8 hn8 => ?_)
            replace hrs := hrs.mono hs8.le
            replace ha := ha.mono hs8.le
            replace ho4 := ho4.step hs8 (fun h => hb24 (Eq.symm h))
            replace hb := hb.step hs8 (fun g hg h => by have h : g = b2 := h; subst h; exact hp2 hg)
            clear ho2; have ho2 := hn8; clear hn8
            replace hT := hT.own hs8 (by omega)
            have hz8 := hs8.size
            refine as_q rfl rfl (q_assign rfl) ?_
            refine as_nil (hK22 _ _ ?_)
            clear hK22 K22
            refine cw_ret ?_
            exact ⟨_, (res_cell rfl (loadVar_n (n := 2) (by kernel_rfl) (by first | exact Blk.cells ho2.1 rfl | exact Blk.cells ho4.1 rfl | assumption)) (res_tmp rfl res_nil)), _, hT, PR.err (by rw [parse_cons (by omega) (by omega), hpg, pGo_one (by rw [keyT_length]; exact hL) (by omega)]; rfl) (by decide)⟩
          · skip
            have hl2 : 2 ≤ rs.length := by have := of_decide_eq_false hc4; omega
            obtain ⟨n0, hn0⟩ : ∃ c, rs[1]? = some c := ⟨rs[1], by simp⟩
            have hcase : n0 < 0 ∨ 4 < n0 ∨ (0 ≤ n0 ∧ n0 ≤ 4) := by omega
            rcases hcase with hnc | hnc | ⟨hnc, hnc2⟩
            · skip
              refine cw_rs fun K23 hK23 => ?_
              -- region 12
              refine as_q rfl rfl (q_move rfl) ?_
              refine as_q rfl rfl (q_indexAddr (e := 2) (size := 1) (by kernel_rfl) (by kernel_rfl) rfl rfl (by omega) (by omega)) ?_
              refine as_q rfl rfl (q_load1 (by kernel_rfl) rfl (hrs.cell hT.sat (u := .int .i64 n0) (by simpa using i64s_get hn0))) ?_
              first | refine as_q rfl rfl (q_ltT rfl rfl (by omega)) ?_ | refine as_q rfl rfl (q_ltF rfl rfl (by omega)) ?_ | refine as_q rfl rfl (q_lt rfl rfl) ?_
              refine as_q rfl rfl (q_move rfl) ?_
              first | refine as_gskip rfl rfl rfl rfl rfl ?_ | refine as_gskipU rfl rfl rfl rfl ?_ | refine as_gh rfl rfl rfl rfl (h_q rfl (q_move rfl) ?_)
              first | refine as_gskip rfl rfl rfl rfl rfl ?_ | refine as_gskipU rfl rfl rfl rfl ?_ | refine as_gh rfl rfl rfl rfl (h_q rfl (q_indexAddr (e := 2) (size := 1) (by kernel_rfl) (by kernel_rfl) rfl rfl (by omega) (by omega)) ?_)
              first | refine as_gskip rfl rfl rfl rfl rfl ?_ | refine as_gskipU rfl rfl rfl rfl ?_ | refine as_gh rfl rfl rfl rfl (h_q rfl (q_load1 (by kernel_rfl) rfl (hrs.cell hT.sat (u := .int .i64 n0) (by simpa using i64s_get hn0))) ?_)
              first | refine as_gskip rfl rfl rfl rfl rfl ?_ | refine as_gskipU rfl rfl rfl rfl ?_ | refine as_gh rfl rfl rfl rfl (h_q rfl (q_gtT rfl rfl (by omega)) ?_) | refine as_gh rfl rfl rfl rfl (h_q rfl (q_gtF rfl rfl (by omega)) ?_) | refine as_gh rfl rfl rfl rfl (h_q rfl (q_gt rfl rfl) ?_)
              first | refine as_q rfl rfl (q_pick_t rfl rfl) ?_ | refine as_q rfl rfl (q_pick_f rfl rfl) ?_ | refine as_q rfl rfl (q_pick rfl rfl rfl) ?_
              refine as_q rfl rfl (q_assign rfl) ?_
              refine as_nil (hK23 _ _ ?_)
              clear hK23 K23
              refine cw_true rfl ?_
              refine cw_rs fun K24 hK24 => ?_
              -- region 13
              refine as_q rfl rfl (q_build (zs := [(.int .i64 0), (.slice none 0 0)]) (places := [(0, 1), (1, 1)]) (cs := [_, _]) (by kernel_rfl) (by kernel_rfl) rfl rfl) ?_
              refine as_h0 (h_store hT.sat ho2 rfl rfl rfl (by kernel_rfl) rfl rfl rfl fun w9 hs9 hn9 => ?_)
              replace hrs := hrs.mono hs9.le
              replace ha := ha.mono hs9.le
              replace ho4 := ho4.step hs9 (fun h => hb24 (Eq.symm h))
              replace hb := hb.step hs9 (fun g hg h => by have h : g = b2 := h; subst h; exact hp2 hg)
              clear ho2; have ho2 := hn9; clear hn9
              replace hT := hT.own hs9 (by omega)
              have hz9 := hs9.size
              refine as_q rfl rfl (q_assign rfl) ?_
              refine as_nil (hK24 _ _ ?_)
              clear hK24 K24
              refine cw_ret ?_
              exact ⟨_, (res_cell rfl (loadVar_n (n := 2) (by kernel_rfl) (by first | exact Blk.cells ho2.1 rfl | exact Blk.cells ho4.1 rfl | assumption)) (res_tmp rfl res_nil)), _, hT, PR.err (by rw [parse_cons (by omega) (by omega), hpg, pGo_form (by rw [keyT_length]; exact hL) hn0 (Or.inl hnc)]; rfl) (by decide)⟩
            · skip
              refine cw_rs fun K25 hK25 => ?_
              -- region 12
              refine as_q rfl rfl (q_move rfl) ?_
              refine as_q rfl rfl (q_indexAddr (e := 2) (size := 1) (by kernel_rfl) (by kernel_rfl) rfl rfl (by omega) (by omega)) ?_
              refine as_q rfl rfl (q_load1 (by kernel_rfl) rfl (hrs.cell hT.sat (u := .int .i64 n0) (by simpa using i64s_get hn0))) ?_
              first | refine as_q rfl rfl (q_ltT rfl rfl (by omega)) ?_ | refine as_q rfl rfl (q_ltF rfl rfl (by omega)) ?_ | refine as_q rfl rfl (q_lt rfl rfl) ?_
              refine as_q rfl rfl (q_move rfl) ?_
              first | refine as_gskip rfl rfl rfl rfl rfl ?_ | refine as_gskipU rfl rfl rfl rfl ?_ | refine as_gh rfl rfl rfl rfl (h_q rfl (q_move rfl) ?_)
              first | refine as_gskip rfl rfl rfl rfl rfl ?_ | refine as_gskipU rfl rfl rfl rfl ?_ | refine as_gh rfl rfl rfl rfl (h_q rfl (q_indexAddr (e := 2) (size := 1) (by kernel_rfl) (by kernel_rfl) rfl rfl (by omega) (by omega)) ?_)
              first | refine as_gskip rfl rfl rfl rfl rfl ?_ | refine as_gskipU rfl rfl rfl rfl ?_ | refine as_gh rfl rfl rfl rfl (h_q rfl (q_load1 (by kernel_rfl) rfl (hrs.cell hT.sat (u := .int .i64 n0) (by simpa using i64s_get hn0))) ?_)
              first | refine as_gskip rfl rfl rfl rfl rfl ?_ | refine as_gskipU rfl rfl rfl rfl ?_ | refine as_gh rfl rfl rfl rfl (h_q rfl (q_gtT rfl rfl (by omega)) ?_) | refine as_gh rfl rfl rfl rfl (h_q rfl (q_gtF rfl rfl (by omega)) ?_) | refine as_gh rfl rfl rfl rfl (h_q rfl (q_gt rfl rfl) ?_)
              first | refine as_q rfl rfl (q_pick_t rfl rfl) ?_ | refine as_q rfl rfl (q_pick_f rfl rfl) ?_ | refine as_q rfl rfl (q_pick rfl rfl rfl) ?_
              refine as_q rfl rfl (q_assign rfl) ?_
              refine as_nil (hK25 _ _ ?_)
              clear hK25 K25
              refine cw_true rfl ?_
              refine cw_rs fun K26 hK26 => ?_
              -- region 13
              refine as_q rfl rfl (q_build (zs := [(.int .i64 0), (.slice none 0 0)]) (places := [(0, 1), (1, 1)]) (cs := [_, _]) (by kernel_rfl) (by kernel_rfl) rfl rfl) ?_
              refine as_h0 (h_store hT.sat ho2 rfl rfl rfl (by kernel_rfl) rfl rfl rfl fun w10 hs10 hn10 => ?_)
              replace hrs := hrs.mono hs10.le
              replace ha := ha.mono hs10.le
              replace ho4 := ho4.step hs10 (fun h => hb24 (Eq.symm h))
              replace hb := hb.step hs10 (fun g hg h => by have h : g = b2 := h; subst h; exact hp2 hg)
              clear ho2; have ho2 := hn10; clear hn10
              replace hT := hT.own hs10 (by omega)
              have hz10 := hs10.size
              refine as_q rfl rfl (q_assign rfl) ?_
              refine as_nil (hK26 _ _ ?_)
              clear hK26 K26
              refine cw_ret ?_
              exact ⟨_, (res_cell rfl (loadVar_n (n := 2) (by kernel_rfl) (by first | exact Blk.cells ho2.1 rfl | exact Blk.cells ho4.1 rfl | assumption)) (res_tmp rfl res_nil)), _, hT, PR.err (by rw [parse_cons (by omega) (by omega), hpg, pGo_form (by rw [keyT_length]; exact hL) hn0 (Or.inr hnc)]; rfl) (by decide)⟩
            · skip
              refine cw_rs fun K27 hK27 => ?_
              -- region 12
              refine as_q rfl rfl (q_move rfl) ?_
              refine as_q rfl rfl (q_indexAddr (e := 2) (size := 1) (by kernel_rfl) (by kernel_rfl) rfl rfl (by omega) (by omega)) ?_
              refine as_q rfl rfl (q_load1 (by kernel_rfl) rfl (hrs.cell hT.sat (u := .int .i64 n0) (by simpa using i64s_get hn0))) ?_
              first | refine as_q rfl rfl (q_ltT rfl rfl (by omega)) ?_ | refine as_q rfl rfl (q_ltF rfl rfl (by omega)) ?_ | refine as_q rfl rfl (q_lt rfl rfl) ?_
              refine as_q rfl rfl (q_move rfl) ?_
              first | refine as_gskip rfl rfl rfl rfl rfl ?_ | refine as_gskipU rfl rfl rfl rfl ?_ | refine as_gh rfl rfl rfl rfl (h_q rfl (q_move rfl) ?_)
              first | refine as_gskip rfl rfl rfl rfl rfl ?_ | refine as_gskipU rfl rfl rfl rfl ?_ | refine as_gh rfl rfl rfl rfl (h_q rfl (q_indexAddr (e := 2) (size := 1) (by kernel_rfl) (by kernel_rfl) rfl rfl (by omega) (by omega)) ?_)
              first | refine as_gskip rfl rfl rfl rfl rfl ?_ | refine as_gskipU rfl rfl rfl rfl ?_ | refine as_gh rfl rfl rfl rfl (h_q rfl (q_load1 (by kernel_rfl) rfl (hrs.cell hT.sat (u := .int .i64 n0) (by simpa using i64s_get hn0))) ?_)
              first | refine as_gskip rfl rfl rfl rfl rfl ?_ | refine as_gskipU rfl rfl rfl rfl ?_ | refine as_gh rfl rfl rfl rfl (h_q rfl (q_gtT rfl rfl (by omega)) ?_) | refine as_gh rfl rfl rfl rfl (h_q rfl (q_gtF rfl rfl (by omega)) ?_) | refine as_gh rfl rfl rfl rfl (h_q rfl (q_gt rfl rfl) ?_)
              first | refine as_q rfl rfl (q_pick_t rfl rfl) ?_ | refine as_q rfl rfl (q_pick_f rfl rfl) ?_ | refine as_q rfl rfl (q_pick rfl rfl rfl) ?_
              refine as_q rfl rfl (q_assign rfl) ?_
              refine as_nil (hK27 _ _ ?_)
              clear hK27 K27
              refine cw_false rfl ?_
              refine cw_rs fun K28 hK28 => ?_
              -- region 14
              refine as_q rfl rfl (q_move rfl) ?_
              refine as_q rfl rfl (q_indexAddr (e := 2) (size := 1) (by kernel_rfl) (by kernel_rfl) rfl rfl (by omega) (by omega)) ?_
              refine as_q rfl rfl (q_load1 (by kernel_rfl) rfl (hrs.cell hT.sat (u := .int .i64 n0) (by simpa using i64s_get hn0))) ?_
              refine as_q rfl rfl (q_move rfl) ?_
              refine as_q rfl rfl (q_len (by kernel_rfl) rfl _) ?_
              refine as_q rfl rfl (q_subx rfl rfl (by omega) (by omega)) ?_
              first | refine as_q rfl rfl (q_gtT rfl rfl (by omega)) ?_ | refine as_q rfl rfl (q_gtF rfl rfl (by omega)) ?_ | refine as_q rfl rfl (q_gt rfl rfl) ?_
              refine as_q rfl rfl (q_assign rfl) ?_
              refine as_nil (hK28 _ _ ?_)
              clear hK28 K28
              refine cw_cond rfl (fun hc6 => ?_) (fun hc6 => ?_)
              · skip
                have hl3 : (rs.length : Int) < n0 + 2 := by have := of_decide_eq_true hc6; omega
                refine cw_rs fun K29 hK29 => ?_
                -- region 15
                refine as_q rfl rfl (q_build (zs := [(.int .i64 0), (.slice none 0 0)]) (places := [(0, 1), (1, 1)]) (cs := [_, _]) (by kernel_rfl) (by kernel_rfl) rfl rfl) ?_
                refine as_h0 (h_store hT.sat ho2 rfl rfl rfl (by kernel_rfl) rfl rfl rfl fun w11 hs11 hn11 => ?_)
                replace hrs := hrs.mono hs11.le
                replace ha := ha.mono hs11.le
                replace ho4 := ho4.step hs11 (fun h => hb24 (Eq.symm h))
                replace hb := hb.step hs11 (fun g hg h => by have h : g = b2 := h; subst h; exact hp2 hg)
                clear ho2; have ho2 := hn11; clear hn11
                replace hT := hT.own hs11 (by omega)
                have hz11 := hs11.size
                refine as_q rfl rfl (q_assign rfl) ?_
                refine as_nil (hK29 _ _ ?_)
                clear hK29 K29
                refine cw_ret ?_
                exact ⟨_, (res_cell rfl (loadVar_n (n := 2) (by kernel_rfl) (by first | exact Blk.cells ho2.1 rfl | exact Blk.cells ho4.1 rfl | assumption)) (res_tmp rfl res_nil)), _, hT, PR.err (by rw [parse_cons (by omega) (by omega), hpg, pGo_short (by rw [keyT_length]; exact hL) hn0 (by omega) (by omega)]; rfl) (by decide)⟩
              · skip
                have hl3 : n0 + 2 ≤ (rs.length : Int) := by have := of_decide_eq_false hc6; omega
                refine cw_skip ?_
                refine hK18 _ _ ?_
                clear hK18 K18
                refine cw_rs fun K30 hK30 => ?_
                -- region 16
                refine as_q rfl rfl (q_move rfl) ?_
                refine as_q rfl rfl (q_indexAddr (e := 2) (size := 1) (by kernel_rfl) (by kernel_rfl) rfl rfl (by omega) (by omega)) ?_
                refine as_q rfl rfl (q_load1 (by kernel_rfl) rfl (hrs.cell hT.sat (u := .int .i64 n0) (by simpa using i64s_get hn0))) ?_
                refine as_q rfl rfl (q_addx rfl rfl (by omega) (by omega)) ?_
                refine as_q rfl rfl (q_assign rfl) ?_
                refine as_nil (hK30 _ _ ?_)
                clear hK30 K30
                refine cw_rd (by kernel_rfl) (by kernel_rfl) (by kernel_rfl) rfl rfl fun K31 hK31 => ?_
                -- region 17
                have hs12 := Step.drew hT.sat
                have hz12 := hs12.size
                replace hrs := hrs.mono hs12.le
                replace ha := ha.mono hs12.le
                replace ho2 := ho2.then hs12
                replace ho4 := ho4.then hs12
                replace hb := hb.then hs12
                replace hT := hT.then hs12
                refine at_q (i := 0) (li := #[true, false, false, false, false, false, false, false, false, false, false, false, false, false]) rfl (by kernel_rfl) rfl (fun _ => (q_fieldAddr (off := 1) (by kernel_rfl) rfl)) (by kernel_rfl) ?_
                refine at_l (i := 1) (li := #[true, true, false, false, false, false, false, false, false, false, false, false, false, false]) (cellIs _ _ _) rfl (by kernel_rfl) rfl (fun _ h => q_load1 (by kernel_rfl) rfl h) (by first | exact Blk.cell ho2.1 rfl | exact Blk.cell ho4.1 rfl | assumption) (by kernel_rfl) ?_
                refine at_q (i := 2) (li := #[true, true, true, false, false, false, false, false, false, false, false, false, false, false]) rfl (by kernel_rfl) rfl (fun _ => (q_move rfl)) (by kernel_rfl) ?_
                refine at_q (i := 3) (li := #[true, true, true, true, false, false, false, false, false, false, false, false, false, false]) rfl (by kernel_rfl) rfl (fun _ => (q_indexAddr (e := 2) (size := 1) (by kernel_rfl) (by kernel_rfl) rfl rfl (by omega) (by omega))) (by kernel_rfl) ?_
                refine at_l (i := 4) (li := #[true, true, true, true, true, false, false, false, false, false, false, false, false, false]) (cellIs _ _ _) rfl (by kernel_rfl) rfl (fun _ h => q_load1 (by kernel_rfl) rfl h) (hrs.cell hT.sat (u := .int .i64 c0) (by simpa using i64s_get hc0r)) (by kernel_rfl) ?_
                refine at_q (i := 5) (li := #[true, true, true, true, true, true, false, false, false, false, false, false, false, false]) rfl (by kernel_rfl) rfl (fun _ => (q_move rfl)) (by kernel_rfl) ?_
                refine at_q (i := 6) (li := #[true, true, true, true, true, true, true, false, false, false, false, false, false, false]) rfl (by kernel_rfl) rfl (fun _ => (q_move rfl)) (by kernel_rfl) ?_
                refine at_q (i := 7) (li := #[true, true, true, true, true, true, true, true, false, false, false, false, false, false]) rfl (by kernel_rfl) rfl (fun _ => (q_slice (e := 2) (size := 1) (by kernel_rfl) (by kernel_rfl) rfl rfl rfl (by omega) (by omega) (by omega))) (by kernel_rfl) ?_
                have hlt0 := hb.lt
                have hm2 := ho2.1.lt
                have hm4 := ho4.1.lt
                have nofl : ∀ g, (Value.slice none 0 0).ownBlock = some g → w.heap.size ≤ g := fun g hg => by cases hg
                have hq13 := hT.size
                refine at_h (i := 8) (li := #[true, true, true, true, true, true, true, true, true, false, false, false, false, false]) rfl (by kernel_rfl) rfl (keep_sift (bs := [false, false]) (by kernel_rfl)) (by kernel_rfl) (h_append (e := 2) (size := 1) (bytes := 8) (by kernel_rfl) hs12.sat (Buf.nil _ _ 2 1) ((rd_sub hrs 2 (2 + n0) (by omega) (by omega) (by omega)).rd hs12.sat) rfl rfl (i64s_one _) (by have hb8 := List.length_take_le (2 + n0 : Int).toNat rs; simp only [List.length_take, List.length_drop]; omega) rfl fun hdv w13 hs13 hdb hdo => ?_)
                replace hrs := hrs.mono hs13.le
                replace ha := ha.mono hs13.le
                replace ho2 := ho2.step hs13 (by intro h; cases h)
                replace ho4 := ho4.step hs13 (by intro h; cases h)
                replace hb := hb.step hs13 (fun g hg h => by cases h)
                have hdf := floor_of hdo nofl hq13
                replace hT := hT.trans hs13 (fun k hk h => absurd (nofl k h) (by omega))
                have hz13 := hs13.size
                have hd2 := lt_of_app (B := b2) hdo (by intro h; cases h) (by omega)
                have hd4 := lt_of_app (B := b4) hdo (by intro h; cases h) (by omega)
                have hdb5 : ∀ g, (Value.slice pa ts.length pc).ownBlock = some g → hdv.ownBlock ≠ some g := fun g hg => lt_of_app hdo (by intro h; cases h) (by have := hlt0 g hg; omega)
                obtain ⟨M9, hT9, hle9, hr9, hoth9⟩ := hT.freezeB hdb hdf
                replace hr9 := hr9.cast rfl (Nat.zero_add _) (List.nil_append _)
                replace hrs := hrs.mono hle9
                replace ha := ha.mono hle9
                replace ho2 := ho2.of_same (hoth9 _ hd2)
                replace ho4 := ho4.of_same (hoth9 _ hd4)
                replace hb := hb.of_same (fun g hg => hoth9 g (hdb5 g hg))
                clear hT hdb; have hT := hT9
                obtain ⟨da, dc, rfl, _⟩ := hr9.slice
                refine ⟨(by repeat' first | exact trivial | exact Blk.cell ho2.1 rfl | exact Blk.cells ho2.1 rfl | exact Blk.cell ho4.1 rfl | exact Blk.cells ho4.1 rfl | exact (hrs.cell hT.sat (u := .int .i64 c0) (by simpa using i64s_get hc0r)) | assumption | refine all_keep ?_ | refine And.intro ?_ ?_), ?_⟩
                refine at_q (i := 9) (li := #[true, true, true, true, true, true, true, true, true, true, false, false, false, false]) rfl (by kernel_rfl) rfl (fun _ => (q_build (zs := [(.int .i64 0), (.slice none 0 0)]) (places := [(0, 1), (1, 1)]) (cs := [_, _]) (by kernel_rfl) (by kernel_rfl) rfl rfl)) (by kernel_rfl) ?_
                refine at_h (i := 10) (li := #[true, true, true, true, true, true, true, true, true, true, true, false, false, false]) rfl (by kernel_rfl) rfl (keep_sift (bs := [false, false]) (by kernel_rfl)) (by kernel_rfl) (h_buildO (e := 51) (size := 2) (zs := [(.int .i64 0), (.slice none 0 0)]) (cs := [_, _]) (by kernel_rfl) (by kernel_rfl) (by kernel_rfl) rfl hT.sat rfl rfl fun b5 w14 hs14 ho5 e5 => ?_)
                replace hrs := hrs.mono hs14.le
                replace ha := ha.mono hs14.le
                replace ho2 := ho2.then hs14
                replace ho4 := ho4.then hs14
                replace hb := hb.then hs14
                replace hr9 := hr9.mono hs14.le
                replace hT := hT.then hs14
                have hz14 := hs14.size
                have hl5 := ho5.1.lt
                refine ⟨(by repeat' first | exact trivial | exact Blk.cell ho2.1 rfl | exact Blk.cells ho2.1 rfl | exact Blk.cell ho4.1 rfl | exact Blk.cells ho4.1 rfl | exact Blk.cell ho5.1 rfl | exact Blk.cells ho5.1 rfl | exact (hrs.cell hT.sat (u := .int .i64 c0) (by simpa using i64s_get hc0r)) | assumption | refine all_keep ?_ | refine And.intro ?_ ?_), ?_⟩
                have hlt2 := hb.lt
                have hm2 := ho2.1.lt
                have hm4 := ho4.1.lt
                have hq15 := hT.size
                refine at_h (i := 11) (li := #[true, true, true, true, true, true, true, true, true, true, true, true, false, false]) rfl (by kernel_rfl) rfl (keep_sift (bs := [false, true]) (by kernel_rfl)) (by kernel_rfl) (h_append (e := 51) (size := 2) (bytes := 32) (by kernel_rfl) hs14.sat hb ((Own.buf ho5 (n := 1) (size := 2) rfl (by decide)).rd) rfl rfl (by simp [Value.oneCell']) (by omega) rfl fun hcv w15 hs15 hcb hco => ?_)
                replace hrs := hrs.mono hs15.le
                replace ha := ha.mono hs15.le
                replace ho2 := ho2.step hs15 hp2
                replace ho4 := ho4.step hs15 hp4
                replace hr9 := hr9.mono hs15.le
                clear ho5
                have hcf := floor_of hco hf hq15
                replace hT := hT.trans hs15 (fun k hk h => absurd (hf k h) (by omega))
                have hz15 := hs15.size
                have hc2 := lt_of_app hco hp2 (by omega)
                have hc4 := lt_of_app hco hp4 (by omega)
                obtain ⟨ca, cc, rfl, _⟩ := hcb.slice
                refine ⟨(by repeat' first | exact trivial | exact Blk.cell ho2.1 rfl | exact Blk.cells ho2.1 rfl | exact Blk.cell ho4.1 rfl | exact Blk.cells ho4.1 rfl | exact (hrs.cell hT.sat (u := .int .i64 c0) (by simpa using i64s_get hc0r)) | assumption | refine all_keep ?_ | refine And.intro ?_ ?_), ?_⟩
                refine at_q (i := 12) (li := #[true, true, true, true, true, true, true, true, true, true, true, true, true, false]) rfl (by kernel_rfl) rfl (fun _ => (q_fieldAddr (off := 1) (by kernel_rfl) rfl)) (by kernel_rfl) ?_
                refine at_h0 (i := 13) (li := #[true, true, true, true, true, true, true, true, true, true, true, true, true, true]) rfl (by kernel_rfl) (keep_sift (bs := [true]) (by kernel_rfl)) (by kernel_rfl) (h_store hs15.sat ho4 rfl rfl rfl (by kernel_rfl) rfl rfl rfl fun w16 hs16 hn16 => ?_)
                replace hrs := hrs.mono hs16.le
                replace ha := ha.mono hs16.le
                replace ho2 := ho2.step hs16 (fun h => hb24 h)
                replace hr9 := hr9.mono hs16.le
                replace hcb := hcb.step hs16 (fun g hg h => by have h : g = b4 := h; subst h; exact hc4 hg)
                clear ho4; have ho4 := hn16; clear hn16
                replace hT := hT.own hs16 (by omega)
                have hz16 := hs16.size
                refine ⟨(by repeat' first | exact trivial | exact Blk.cell ho2.1 rfl | exact Blk.cells ho2.1 rfl | exact Blk.cell ho4.1 rfl | exact Blk.cells ho4.1 rfl | exact (hrs.cell hT.sat (u := .int .i64 c0) (by simpa using i64s_get hc0r)) | assumption | refine all_keep ?_ | refine And.intro ?_ ?_), ?_⟩
                refine at_done (by kernel_rfl) (hK31 _ _ ?_)
                clear hK31 K31
                refine cw_region fun K32 hK32 => ?_
                -- region 18
                refine as_q rfl rfl (q_move rfl) ?_
                refine as_q rfl rfl (q_move rfl) ?_
                refine as_q rfl rfl (q_slice (e := 2) (size := 1) (k' := .i64) (by kernel_rfl) (by kernel_rfl) rfl rfl rfl (by omega) (by omega) (by omega)) ?_
                refine as_q rfl rfl (q_assign rfl) ?_
                refine as_nil (hK32 _ _ ?_)
                clear hK32 K32
                refine ⟨_, _, ?_, (.cons rfl (.cons rfl (.cons rfl (.nil _)))), rs.drop (2 + n0).toNat, ts ++ [(c0, ((rs.drop (2 : Int).toNat).take ((2 + n0 : Int).toNat - (2 : Int).toNat)), .slice da ((rs.drop (2 : Int).toNat).take ((2 + n0 : Int).toNat - (2 : Int).toNat)).length dc)], M9, _, _, rfl, rfl, hT, rd_from hrs (2 + n0) (by omega) (by omega), ho2, ho4, hcb.cast (by simp) (by rw [flat_append]), ?_, by simp; omega, by simp; omega, ?_, hcf, hc2, hc4⟩
                · simp; omega
                · intro t ht
                  rcases List.mem_append.1 ht with h | h
                  · exact ha t h
                  · obtain rfl := List.mem_singleton.1 h
                    exact hr9
                · rw [hpg, pGo_step (by rw [keyT_length]; exact hL) hc0r hn0 (by omega) (by omega)]
                  rw [show ((2 : Int).toNat) = 2 from rfl, show (2 + n0).toNat - 2 = n0.toNat from by omega]
                  simp [keyT]
      · skip
        have hlr : rs.length = 0 := by have := of_decide_eq_false hc2; omega
        refine cw_exit ?_
        refine hK14 _ _ ?_
        clear hK16 K16
        clear hK14 K14
        refine cw_rs fun K33 hK33 => ?_
        -- region 19
        refine as_q rfl rfl (q_loadc (n := 2) (by kernel_rfl) rfl (by first | exact Blk.cells ho2.1 rfl | exact Blk.cells ho4.1 rfl | assumption)) ?_
        refine as_h0 (h_store hT.sat ho2 rfl rfl rfl (by kernel_rfl) rfl rfl rfl fun w17 hs17 hn17 => ?_)
        replace hrs := hrs.mono hs17.le
        replace ha := ha.mono hs17.le
        replace ho4 := ho4.step hs17 (fun h => hb24 (Eq.symm h))
        replace hb := hb.step hs17 (fun g hg h => by have h : g = b2 := h; subst h; exact hp2 hg)
        clear ho2; have ho2 := hn17; clear hn17
        replace hT := hT.own hs17 (by omega)
        have hz17 := hs17.size
        refine as_q rfl rfl (q_assign rfl) ?_
        refine as_nil (hK33 _ _ ?_)
        clear hK33 K33
        refine cw_ret ?_
        obtain rfl : rs = [] := List.eq_nil_of_length_eq_zero (by omega)
        obtain ⟨M9, h9, hle9, hr9, _⟩ := hT.freezeB hb hf
        exact ⟨_, (res_cell rfl (loadVar_n (n := 2) (by kernel_rfl) (by first | exact Blk.cells ho2.1 rfl | exact Blk.cells ho4.1 rfl | assumption)) (res_tmp rfl res_nil)), M9, h9, a0, _, ts, 0, rfl, hr9, ha.mono hle9, .inl ⟨rfl, by rw [parse_cons (by omega) (by omega), hpg, pGo_nil]; rfl⟩⟩

theorem rparse18 {w : World} {M : Mem} {v : Value} {n : Nat} {zs : List Int} (hs : Sat M w) (hn : n ≤ 100000) (hv : RdM M 1 v n (i64s zs)) :
    Does Try.prog 33 #[v] w (fun v w' => ∃ M', Step Nope M w M' w' ∧ PR M' v zs) := by
  have hT := Step.refl Nope hs
  have hl : zs.length = n := by have := hv.1; rw [i64s_length] at this; omega
  obtain ⟨a, c, rfl, hac0, _⟩ := hv.slice
  refine fn_enter Try.func33 rfl (rs := [.cell 2 59, .tmp 3]) rfl rfl rfl rfl ?_
  refine cw_rs fun K1 hK1 => ?_
  -- region 0
  refine as_h rfl (h_allocO (z := (.agg #[(.int .i64 0), (.slice none 0 0)])) hs (by kernel_rfl) rfl fun b2 w1 hs1 ho2 e2 => ?_)
  replace hv := hv.mono hs1.le
  replace hT := hT.then hs1
  have hz1 := hs1.size
  have hl2 := ho2.1.lt
  refine as_q rfl rfl (q_assign rfl) ?_
  refine as_nil (hK1 _ _ ?_)
  clear hK1 K1
  refine cw_seq fun K2 hK2 => ?_
  refine cw_rs fun K3 hK3 => ?_
  -- region 1
  refine as_q rfl rfl (q_move rfl) ?_
  refine as_q rfl rfl (q_len (by kernel_rfl) rfl _) ?_
  first | refine as_q rfl rfl (q_eqT rfl rfl (by omega)) ?_ | refine as_q rfl rfl (q_eqF rfl rfl (by omega)) ?_ | refine as_q rfl rfl (q_eq rfl rfl) ?_
  refine as_nil (hK3 _ _ ?_)
  clear hK3 K3
  refine cw_cond rfl (fun hc0 => ?_) (fun hc0 => ?_)
  · skip
    have hz0 : n = 0 := by simp at hc0; omega
    refine cw_rs fun K4 hK4 => ?_
    -- region 2
    refine as_q rfl rfl (q_build (zs := [(.int .i64 0), (.slice none 0 0)]) (places := [(0, 1), (1, 1)]) (cs := [_, _]) (by kernel_rfl) (by kernel_rfl) rfl rfl) ?_
    refine as_h0 (h_store hs1.sat ho2 rfl rfl rfl (by kernel_rfl) rfl rfl rfl fun w2 hs2 hn2 => ?_)
    replace hv := hv.mono hs2.le
    clear ho2; have ho2 := hn2; clear hn2
    replace hT := hT.own hs2 (by omega)
    have hz2 := hs2.size
    refine as_q rfl rfl (q_assign rfl) ?_
    refine as_nil (hK4 _ _ ?_)
    clear hK4 K4
    refine cw_ret ?_
    exact ⟨_, (res_cell rfl (loadVar_n (n := 2) (by kernel_rfl) (by first | exact Blk.cells ho2.1 rfl | assumption)) (res_tmp rfl res_nil)), _, hT, PR.err (by rw [List.eq_nil_of_length_eq_zero (by omega : zs.length = 0)]; rfl) (by decide)⟩
  · skip
    have hz0 : n ≠ 0 := by simp at hc0; omega
    obtain ⟨g, o, rfl⟩ := hv.there (by omega)
    obtain ⟨a0, r0, hzr⟩ : ∃ a r, zs = a :: r := by
      cases zs with
      | nil => simp at hl; omega
      | cons a r => exact ⟨a, r, rfl⟩
    have ha0 : zs[0]? = some a0 := by rw [hzr]; rfl
    have hl1 : r0.length + 1 = n := by rw [hzr] at hl; exact hl
    have hcase : a0 < 0 ∨ 64 < a0 ∨ (0 ≤ a0 ∧ a0 ≤ 64) := by omega
    rcases hcase with hac | hac | ⟨hac, hac2⟩
    · skip
      refine cw_skip ?_
      refine hK2 _ _ ?_
      clear hK2 K2
      refine cw_seq fun K5 hK5 => ?_
      refine cw_rs fun K6 hK6 => ?_
      -- region 3
      refine as_q rfl rfl (q_move rfl) ?_
      refine as_q rfl rfl (q_indexAddr (e := 2) (size := 1) (by kernel_rfl) (by kernel_rfl) rfl rfl (by omega) (by omega)) ?_
      refine as_q rfl rfl (q_load1 (by kernel_rfl) rfl (hv.cell hT.sat (u := .int .i64 a0) (by simpa using i64s_get ha0))) ?_
      first | refine as_q rfl rfl (q_ltT rfl rfl (by omega)) ?_ | refine as_q rfl rfl (q_ltF rfl rfl (by omega)) ?_ | refine as_q rfl rfl (q_lt rfl rfl) ?_
      refine as_q rfl rfl (q_move rfl) ?_
      first | refine as_gskip rfl rfl rfl rfl rfl ?_ | refine as_gskipU rfl rfl rfl rfl ?_ | refine as_gh rfl rfl rfl rfl (h_q rfl (q_move rfl) ?_)
      first | refine as_gskip rfl rfl rfl rfl rfl ?_ | refine as_gskipU rfl rfl rfl rfl ?_ | refine as_gh rfl rfl rfl rfl (h_q rfl (q_indexAddr (e := 2) (size := 1) (by kernel_rfl) (by kernel_rfl) rfl rfl (by omega) (by omega)) ?_)
      first | refine as_gskip rfl rfl rfl rfl rfl ?_ | refine as_gskipU rfl rfl rfl rfl ?_ | refine as_gh rfl rfl rfl rfl (h_q rfl (q_load1 (by kernel_rfl) rfl (hv.cell hT.sat (u := .int .i64 a0) (by simpa using i64s_get ha0))) ?_)
      first | refine as_gskip rfl rfl rfl rfl rfl ?_ | refine as_gskipU rfl rfl rfl rfl ?_ | refine as_gh rfl rfl rfl rfl (h_q rfl (q_gtT rfl rfl (by omega)) ?_) | refine as_gh rfl rfl rfl rfl (h_q rfl (q_gtF rfl rfl (by omega)) ?_) | refine as_gh rfl rfl rfl rfl (h_q rfl (q_gt rfl rfl) ?_)
      first | refine as_q rfl rfl (q_pick_t rfl rfl) ?_ | refine as_q rfl rfl (q_pick_f rfl rfl) ?_ | refine as_q rfl rfl (q_pick rfl rfl rfl) ?_
      refine as_nil (hK6 _ _ ?_)
      clear hK6 K6
      refine cw_true rfl ?_
      refine cw_rs fun K7 hK7 => ?_
      -- region 4
      refine as_q rfl rfl (q_build (zs := [(.int .i64 0), (.slice none 0 0)]) (places := [(0, 1), (1, 1)]) (cs := [_, _]) (by kernel_rfl) (by kernel_rfl) rfl rfl) ?_
      refine as_h0 (h_store hs1.sat ho2 rfl rfl rfl (by kernel_rfl) rfl rfl rfl fun w3 hs3 hn3 => ?_)
      replace hv := hv.mono hs3.le
      clear ho2; have ho2 := hn3; clear hn3
      replace hT := hT.own hs3 (by omega)
      have hz3 := hs3.size
      refine as_q rfl rfl (q_assign rfl) ?_
      refine as_nil (hK7 _ _ ?_)
      clear hK7 K7
      refine cw_ret ?_
      exact ⟨_, (res_cell rfl (loadVar_n (n := 2) (by kernel_rfl) (by first | exact Blk.cells ho2.1 rfl | assumption)) (res_tmp rfl res_nil)), _, hT, PR.err (by rw [hzr]; exact if_pos (Or.inl hac)) (by decide)⟩
    · skip
      refine cw_skip ?_
      refine hK2 _ _ ?_
      clear hK2 K2
      refine cw_seq fun K8 hK8 => ?_
      refine cw_rs fun K9 hK9 => ?_
      -- region 3
      refine as_q rfl rfl (q_move rfl) ?_
      refine as_q rfl rfl (q_indexAddr (e := 2) (size := 1) (by kernel_rfl) (by kernel_rfl) rfl rfl (by omega) (by omega)) ?_
      refine as_q rfl rfl (q_load1 (by kernel_rfl) rfl (hv.cell hT.sat (u := .int .i64 a0) (by simpa using i64s_get ha0))) ?_
      first | refine as_q rfl rfl (q_ltT rfl rfl (by omega)) ?_ | refine as_q rfl rfl (q_ltF rfl rfl (by omega)) ?_ | refine as_q rfl rfl (q_lt rfl rfl) ?_
      refine as_q rfl rfl (q_move rfl) ?_
      first | refine as_gskip rfl rfl rfl rfl rfl ?_ | refine as_gskipU rfl rfl rfl rfl ?_ | refine as_gh rfl rfl rfl rfl (h_q rfl (q_move rfl) ?_)
      first | refine as_gskip rfl rfl rfl rfl rfl ?_ | refine as_gskipU rfl rfl rfl rfl ?_ | refine as_gh rfl rfl rfl rfl (h_q rfl (q_indexAddr (e := 2) (size := 1) (by kernel_rfl) (by kernel_rfl) rfl rfl (by omega) (by omega)) ?_)
      first | refine as_gskip rfl rfl rfl rfl rfl ?_ | refine as_gskipU rfl rfl rfl rfl ?_ | refine as_gh rfl rfl rfl rfl (h_q rfl (q_load1 (by kernel_rfl) rfl (hv.cell hT.sat (u := .int .i64 a0) (by simpa using i64s_get ha0))) ?_)
      first | refine as_gskip rfl rfl rfl rfl rfl ?_ | refine as_gskipU rfl rfl rfl rfl ?_ | refine as_gh rfl rfl rfl rfl (h_q rfl (q_gtT rfl rfl (by omega)) ?_) | refine as_gh rfl rfl rfl rfl (h_q rfl (q_gtF rfl rfl (by omega)) ?_) | refine as_gh rfl rfl rfl rfl (h_q rfl (q_gt rfl rfl) ?_)
      first | refine as_q rfl rfl (q_pick_t rfl rfl) ?_ | refine as_q rfl rfl (q_pick_f rfl rfl) ?_ | refine as_q rfl rfl (q_pick rfl rfl rfl) ?_
      refine as_nil (hK9 _ _ ?_)
      clear hK9 K9
      refine cw_true rfl ?_
      refine cw_rs fun K10 hK10 => ?_
      -- region 4
      refine as_q rfl rfl (q_build (zs := [(.int .i64 0), (.slice none 0 0)]) (places := [(0, 1), (1, 1)]) (cs := [_, _]) (by kernel_rfl) (by kernel_rfl) rfl rfl) ?_
      refine as_h0 (h_store hs1.sat ho2 rfl rfl rfl (by kernel_rfl) rfl rfl rfl fun w4 hs4 hn4 => ?_)
      replace hv := hv.mono hs4.le
      clear ho2; have ho2 := hn4; clear hn4
      replace hT := hT.own hs4 (by omega)
      have hz4 := hs4.size
      refine as_q rfl rfl (q_assign rfl) ?_
      refine as_nil (hK10 _ _ ?_)
      clear hK10 K10
      refine cw_ret ?_
      exact ⟨_, (res_cell rfl (loadVar_n (n := 2) (by kernel_rfl) (by first | exact Blk.cells ho2.1 rfl | assumption)) (res_tmp rfl res_nil)), _, hT, PR.err (by rw [hzr]; exact if_pos (Or.inr hac)) (by decide)⟩
    · skip
      refine cw_skip ?_
      refine hK2 _ _ ?_
      clear hK2 K2
      refine cw_seq fun K11 hK11 => ?_
      refine cw_rs fun K12 hK12 => ?_
      -- region 3
      refine as_q rfl rfl (q_move rfl) ?_
      refine as_q rfl rfl (q_indexAddr (e := 2) (size := 1) (by kernel_rfl) (by kernel_rfl) rfl rfl (by omega) (by omega)) ?_
      refine as_q rfl rfl (q_load1 (by kernel_rfl) rfl (hv.cell hT.sat (u := .int .i64 a0) (by simpa using i64s_get ha0))) ?_
      first | refine as_q rfl rfl (q_ltT rfl rfl (by omega)) ?_ | refine as_q rfl rfl (q_ltF rfl rfl (by omega)) ?_ | refine as_q rfl rfl (q_lt rfl rfl) ?_
      refine as_q rfl rfl (q_move rfl) ?_
      first | refine as_gskip rfl rfl rfl rfl rfl ?_ | refine as_gskipU rfl rfl rfl rfl ?_ | refine as_gh rfl rfl rfl rfl (h_q rfl (q_move rfl) ?_)
      first | refine as_gskip rfl rfl rfl rfl rfl ?_ | refine as_gskipU rfl rfl rfl rfl ?_ | refine as_gh rfl rfl rfl rfl (h_q rfl (q_indexAddr (e := 2) (size := 1) (by kernel_rfl) (by kernel_rfl) rfl rfl (by omega) (by omega)) ?_)
      first | refine as_gskip rfl rfl rfl rfl rfl ?_ | refine as_gskipU rfl rfl rfl rfl ?_ | refine as_gh rfl rfl rfl rfl (h_q rfl (q_load1 (by kernel_rfl) rfl (hv.cell hT.sat (u := .int .i64 a0) (by simpa using i64s_get ha0))) ?_)
      first | refine as_gskip rfl rfl rfl rfl rfl ?_ | refine as_gskipU rfl rfl rfl rfl ?_ | refine as_gh rfl rfl rfl rfl (h_q rfl (q_gtT rfl rfl (by omega)) ?_) | refine as_gh rfl rfl rfl rfl (h_q rfl (q_gtF rfl rfl (by omega)) ?_) | refine as_gh rfl rfl rfl rfl (h_q rfl (q_gt rfl rfl) ?_)
      first | refine as_q rfl rfl (q_pick_t rfl rfl) ?_ | refine as_q rfl rfl (q_pick_f rfl rfl) ?_ | refine as_q rfl rfl (q_pick rfl rfl rfl) ?_
      refine as_nil (hK12 _ _ ?_)
      clear hK12 K12
      refine cw_false rfl ?_
      refine cw_skip ?_
      refine hK11 _ _ ?_
      clear hK11 K11
      refine cw_rs fun K13 hK13 => ?_
      -- region 5
      refine as_q rfl rfl (q_move rfl) ?_
      refine as_q rfl rfl (q_indexAddr (e := 2) (size := 1) (by kernel_rfl) (by kernel_rfl) rfl rfl (by omega) (by omega)) ?_
      refine as_q rfl rfl (q_load1 (by kernel_rfl) rfl (hv.cell hT.sat (u := .int .i64 a0) (by simpa using i64s_get ha0))) ?_
      refine as_q rfl rfl (q_build (zs := [(.int .i64 0), (.slice none 0 0)]) (places := [(0, 1), (1, 1)]) (cs := [_, _]) (by kernel_rfl) (by kernel_rfl) rfl rfl) ?_
      refine as_h rfl (h_allocO (z := (.agg #[(.int .i64 0), (.slice none 0 0)])) hs1.sat (by kernel_rfl) rfl fun b4 w5 hs5 ho4 e4 => ?_)
      replace hv := hv.mono hs5.le
      replace ho2 := ho2.then hs5
      replace hT := hT.then hs5
      have hz5 := hs5.size
      have hl4 := ho4.1.lt
      refine as_h0 (h_store hs5.sat ho4 rfl rfl rfl (by kernel_rfl) rfl rfl rfl fun w6 hs6 hn6 => ?_)
      replace hv := hv.mono hs6.le
      replace ho2 := ho2.step hs6 (fun h => by have h : _ = _ := h; omega)
      clear ho4; have ho4 := hn6; clear hn6
      replace hT := hT.own hs6 (by omega)
      have hz6 := hs6.size
      refine as_nil (hK13 _ _ ?_)
      clear hK13 K13
      refine cw_rs fun K14 hK14 => ?_
      -- region 6
      refine as_q rfl rfl (q_assign rfl) ?_
      refine as_nil (hK14 _ _ ?_)
      clear hK14 K14
      refine cw_seq fun K15 hK15 => ?_
      refine cw_block ?_
      refine cw_loop (fun mm l w1 => ∃ (q : Int) (ts : List T3) (pv : Value), mm = n - q.toNat ∧ l = [(0, .slice (some ⟨g, o, none⟩) n c), (2, .pointer (some ⟨b2, 0, none⟩)), (4, .pointer (some ⟨b4, 0, none⟩)), (5, .int .i64 q)] ∧ 1 ≤ q ∧ q ≤ n ∧ Step Nope M w M w1 ∧ Own w1 M b2 [.int .i64 0, .slice none 0 0] 59 ∧ Own w1 M b4 [.int .i64 a0, pv] 59 ∧ Buf w1 M 69 2 pv ts.length (flat ts) ∧ ArgsM M ts ∧ ts.length ≤ 256 ∧ pGo [] r0 = pGo (keyT ts) (zs.drop q.toNat) ∧ (∀ g, pv.ownBlock = some g → w.heap.size ≤ g) ∧ pv.ownBlock ≠ some b2 ∧ pv.ownBlock ≠ some b4) (n - 1) [(0, .slice (some ⟨g, o, none⟩) n c), (2, .pointer (some ⟨b2, 0, none⟩)), (4, .pointer (some ⟨b4, 0, none⟩)), (5, .int .i64 1)] (.cons rfl (.cons rfl (.cons rfl (.cons rfl (.nil _))))) ?_ ?_
      · skip
        exact ⟨1, [], _, rfl, rfl, by omega, by omega, hT, ho2, ho4, Buf.nil _ _ _ _, fun t ht => (by cases ht), by simp, by rw [hzr]; rfl, fun g hg => (by cases hg), by simp [Value.ownBlock], by simp [Value.ownBlock]⟩
      have hb24 : b2 ≠ b4 := by omega
      have hbw2 : w.heap.size ≤ b2 := by omega
      have hbw4 : w.heap.size ≤ b4 := by omega
      clear hT ho2 ho4
      rintro mm l w1 ⟨q, ts, pv, rfl, rfl, hq1, hq2, hT, ho2, ho4, hb, ha, ht256, hpg, hf, hp2, hp4⟩
      obtain ⟨pa, pc, rfl, _⟩ := hb.slice
      refine cw_seq fun K16 hK16 => ?_
      refine cw_rs fun K17 hK17 => ?_
      -- region 7
      refine as_q rfl rfl (q_move rfl) ?_
      refine as_q rfl rfl (q_move rfl) ?_
      refine as_q rfl rfl (q_len (by kernel_rfl) rfl _) ?_
      first | refine as_q rfl rfl (q_ltT rfl rfl (by omega)) ?_ | refine as_q rfl rfl (q_ltF rfl rfl (by omega)) ?_ | refine as_q rfl rfl (q_lt rfl rfl) ?_
      refine as_nil (hK17 _ _ ?_)
      clear hK17 K17
      refine cw_cond rfl (fun hc2 => ?_) (fun hc2 => ?_)
      · skip
        have hlr : q < n := by have := of_decide_eq_true hc2; omega
        obtain ⟨c0, hc0r⟩ : ∃ c, zs[q.toNat]? = some c := ⟨zs[q.toNat], by simp⟩
        refine cw_skip ?_
        refine hK16 _ _ ?_
        clear hK16 K16
        refine cw_block ?_
        refine cw_seq fun K18 hK18 => ?_
        refine cw_rs fun K19 hK19 => ?_
        -- region 8
        refine as_q rfl rfl (q_fieldAddr (off := 1) (by kernel_rfl) rfl) ?_
        refine as_q rfl rfl (q_load1 (by kernel_rfl) rfl (by first | exact Blk.cell ho2.1 rfl | exact Blk.cell ho4.1 rfl | assumption)) ?_
        refine as_q rfl rfl (q_len (by kernel_rfl) rfl _) ?_
        first | refine as_q rfl rfl (q_eqT rfl rfl (by omega)) ?_ | refine as_q rfl rfl (q_eqF rfl rfl (by omega)) ?_ | refine as_q rfl rfl (q_eq rfl rfl) ?_
        refine as_nil (hK19 _ _ ?_)
        clear hK19 K19
        refine cw_cond rfl (fun hc3 => ?_) (fun hc3 => ?_)
        · skip
          have hL : ts.length = 256 := by simp at hc3; omega
          refine cw_rs fun K20 hK20 => ?_
          -- region 9
          refine as_q rfl rfl (q_build (zs := [(.int .i64 0), (.slice none 0 0)]) (places := [(0, 1), (1, 1)]) (cs := [_, _]) (by kernel_rfl) (by kernel_rfl) rfl rfl) ?_
          refine as_h0 (h_store hT.sat ho2 rfl rfl rfl (by kernel_rfl) rfl rfl rfl fun w7 hs7 hn7 => ?_)
          replace hv := hv.mono hs7.le
          replace ha := ha.mono hs7.le
          replace ho4 := ho4.step hs7 (fun h => hb24 (Eq.symm h))
          replace hb := hb.step hs7 (fun g hg h => by have h : g = b2 := h; subst h; exact hp2 hg)
          clear ho2; have ho2 := hn7; clear hn7
          replace hT := hT.own hs7 (by omega)
          have hz7 := hs7.size
          refine as_q rfl rfl (q_assign rfl) ?_
          refine as_nil (hK20 _ _ ?_)
          clear hK20 K20
          refine cw_ret ?_
          exact ⟨_, (res_cell rfl (loadVar_n (n := 2) (by kernel_rfl) (by first | exact Blk.cells ho2.1 rfl | exact Blk.cells ho4.1 rfl | assumption)) (res_tmp rfl res_nil)), _, hT, PR.err (by rw [hzr, parse_cons (by omega) (by omega), hpg, pGo_long (by rw [keyT_length]; exact hL) (by rw [List.length_drop]; omega)]; rfl) (by decide)⟩
        · skip
          have hL : ts.length ≠ 256 := by simp at hc3; omega
          refine cw_skip ?_
          refine hK18 _ _ ?_
          clear hK18 K18
          refine cw_seq fun K21 hK21 => ?_
          refine cw_rs fun K22 hK22 => ?_
          -- region 10
          refine as_q rfl rfl (q_move rfl) ?_
          refine as_q rfl rfl (q_addx rfl rfl (by omega) (by omega)) ?_
          refine as_q rfl rfl (q_move rfl) ?_
          refine as_q rfl rfl (q_len (by kernel_rfl) rfl _) ?_
          first | refine as_q rfl rfl (q_eqT rfl rfl (by omega)) ?_ | refine as_q rfl rfl (q_eqF rfl rfl (by omega)) ?_ | refine as_q rfl rfl (q_eq rfl rfl) ?_
          refine as_nil (hK22 _ _ ?_)
          clear hK22 K22
          refine cw_cond rfl (fun hc4 => ?_) (fun hc4 => ?_)
          · skip
            have hl2 : q + 1 = n := by simpa using hc4
            refine cw_rs fun K23 hK23 => ?_
            -- region 11
            refine as_q rfl rfl (q_build (zs := [(.int .i64 0), (.slice none 0 0)]) (places := [(0, 1), (1, 1)]) (cs := [_, _]) (by kernel_rfl) (by kernel_rfl) rfl rfl) ?_
            refine as_h0 (h_store hT.sat ho2 rfl rfl rfl (by kernel_rfl) rfl rfl rfl fun w8 hs8 hn8 => ?_)
            replace hv := hv.mono hs8.le
            replace ha := ha.mono hs8.le
            replace ho4 := ho4.step hs8 (fun h => hb24 (Eq.symm h))
            replace hb := hb.step hs8 (fun g hg h => by have h : g = b2 := h; subst h; exact hp2 hg)
            clear ho2; have ho2 := hn8; clear hn8
            replace hT := hT.own hs8 (by omega)
            have hz8 := hs8.size
            refine as_q rfl rfl (q_assign rfl) ?_
            refine as_nil (hK23 _ _ ?_)
            clear hK23 K23
            refine cw_ret ?_
            exact ⟨_, (res_cell rfl (loadVar_n (n := 2) (by kernel_rfl) (by first | exact Blk.cells ho2.1 rfl | exact Blk.cells ho4.1 rfl | assumption)) (res_tmp rfl res_nil)), _, hT, PR.err (by rw [hzr, parse_cons (by omega) (by omega), hpg, pGo_one (by rw [keyT_length]; exact hL) (by rw [List.length_drop]; omega)]; rfl) (by decide)⟩
          · skip
            have hl2 : q + 1 < n := by
              have h : q + 1 ≠ n := by simpa using hc4
              omega
            obtain ⟨n0, hn0⟩ : ∃ c, zs[q.toNat + 1]? = some c := ⟨zs[q.toNat + 1]'(by omega), by simp⟩
            have hcase : n0 < 0 ∨ 4 < n0 ∨ (0 ≤ n0 ∧ n0 ≤ 4) := by omega
            rcases hcase with hnc | hnc | ⟨hnc, hnc2⟩
            · skip
              refine cw_skip ?_
              refine hK21 _ _ ?_
              clear hK21 K21
              refine cw_rs fun K24 hK24 => ?_
              -- region 12
              refine as_q rfl rfl (q_move rfl) ?_
              refine as_q rfl rfl (q_move rfl) ?_
              refine as_q rfl rfl (q_addx rfl rfl (by omega) (by omega)) ?_
              refine as_q rfl rfl (q_indexAddr (e := 2) (size := 1) (by kernel_rfl) (by kernel_rfl) rfl rfl (by omega) (by omega)) ?_
              refine as_q rfl rfl (q_load1 (by kernel_rfl) rfl (hv.cell hT.sat (u := .int .i64 n0) (by rw [show (q + 1).toNat * 1 = q.toNat + 1 from by omega]; exact i64s_get hn0))) ?_
              refine as_q rfl rfl (q_assign rfl) ?_
              refine as_nil (hK24 _ _ ?_)
              clear hK24 K24
              refine cw_seq fun K25 hK25 => ?_
              refine cw_rs fun K26 hK26 => ?_
              -- region 13
              refine as_q rfl rfl (q_move rfl) ?_
              first | refine as_q rfl rfl (q_ltT rfl rfl (by omega)) ?_ | refine as_q rfl rfl (q_ltF rfl rfl (by omega)) ?_ | refine as_q rfl rfl (q_lt rfl rfl) ?_
              refine as_q rfl rfl (q_move rfl) ?_
              first | refine as_gskip rfl rfl rfl rfl rfl ?_ | refine as_gskipU rfl rfl rfl rfl ?_ | refine as_gh rfl rfl rfl rfl (h_q rfl (q_move rfl) ?_)
              first | refine as_gskip rfl rfl rfl rfl rfl ?_ | refine as_gskipU rfl rfl rfl rfl ?_ | refine as_gh rfl rfl rfl rfl (h_q rfl (q_gtT rfl rfl (by omega)) ?_) | refine as_gh rfl rfl rfl rfl (h_q rfl (q_gtF rfl rfl (by omega)) ?_) | refine as_gh rfl rfl rfl rfl (h_q rfl (q_gt rfl rfl) ?_)
              first | refine as_q rfl rfl (q_pick_t rfl rfl) ?_ | refine as_q rfl rfl (q_pick_f rfl rfl) ?_ | refine as_q rfl rfl (q_pick rfl rfl rfl) ?_
              refine as_nil (hK26 _ _ ?_)
              clear hK26 K26
              refine cw_true rfl ?_
              refine cw_rs fun K27 hK27 => ?_
              -- region 14
              refine as_q rfl rfl (q_build (zs := [(.int .i64 0), (.slice none 0 0)]) (places := [(0, 1), (1, 1)]) (cs := [_, _]) (by kernel_rfl) (by kernel_rfl) rfl rfl) ?_
              refine as_h0 (h_store hT.sat ho2 rfl rfl rfl (by kernel_rfl) rfl rfl rfl fun w9 hs9 hn9 => ?_)
              replace hv := hv.mono hs9.le
              replace ha := ha.mono hs9.le
              replace ho4 := ho4.step hs9 (fun h => hb24 (Eq.symm h))
              replace hb := hb.step hs9 (fun g hg h => by have h : g = b2 := h; subst h; exact hp2 hg)
              clear ho2; have ho2 := hn9; clear hn9
              replace hT := hT.own hs9 (by omega)
              have hz9 := hs9.size
              refine as_q rfl rfl (q_assign rfl) ?_
              refine as_nil (hK27 _ _ ?_)
              clear hK27 K27
              refine cw_ret ?_
              exact ⟨_, (res_cell rfl (loadVar_n (n := 2) (by kernel_rfl) (by first | exact Blk.cells ho2.1 rfl | exact Blk.cells ho4.1 rfl | assumption)) (res_tmp rfl res_nil)), _, hT, PR.err (by rw [hzr, parse_cons (by omega) (by omega), hpg, pGo_form (by rw [keyT_length]; exact hL) (by rw [List.getElem?_drop]; exact hn0) (Or.inl hnc)]; rfl) (by decide)⟩
            · skip
              refine cw_skip ?_
              refine hK21 _ _ ?_
              clear hK21 K21
              refine cw_rs fun K28 hK28 => ?_
              -- region 12
              refine as_q rfl rfl (q_move rfl) ?_
              refine as_q rfl rfl (q_move rfl) ?_
              refine as_q rfl rfl (q_addx rfl rfl (by omega) (by omega)) ?_
              refine as_q rfl rfl (q_indexAddr (e := 2) (size := 1) (by kernel_rfl) (by kernel_rfl) rfl rfl (by omega) (by omega)) ?_
              refine as_q rfl rfl (q_load1 (by kernel_rfl) rfl (hv.cell hT.sat (u := .int .i64 n0) (by rw [show (q + 1).toNat * 1 = q.toNat + 1 from by omega]; exact i64s_get hn0))) ?_
              refine as_q rfl rfl (q_assign rfl) ?_
              refine as_nil (hK28 _ _ ?_)
              clear hK28 K28
              refine cw_seq fun K29 hK29 => ?_
              refine cw_rs fun K30 hK30 => ?_
              -- region 13
              refine as_q rfl rfl (q_move rfl) ?_
              first | refine as_q rfl rfl (q_ltT rfl rfl (by omega)) ?_ | refine as_q rfl rfl (q_ltF rfl rfl (by omega)) ?_ | refine as_q rfl rfl (q_lt rfl rfl) ?_
              refine as_q rfl rfl (q_move rfl) ?_
              first | refine as_gskip rfl rfl rfl rfl rfl ?_ | refine as_gskipU rfl rfl rfl rfl ?_ | refine as_gh rfl rfl rfl rfl (h_q rfl (q_move rfl) ?_)
              first | refine as_gskip rfl rfl rfl rfl rfl ?_ | refine as_gskipU rfl rfl rfl rfl ?_ | refine as_gh rfl rfl rfl rfl (h_q rfl (q_gtT rfl rfl (by omega)) ?_) | refine as_gh rfl rfl rfl rfl (h_q rfl (q_gtF rfl rfl (by omega)) ?_) | refine as_gh rfl rfl rfl rfl (h_q rfl (q_gt rfl rfl) ?_)
              first | refine as_q rfl rfl (q_pick_t rfl rfl) ?_ | refine as_q rfl rfl (q_pick_f rfl rfl) ?_ | refine as_q rfl rfl (q_pick rfl rfl rfl) ?_
              refine as_nil (hK30 _ _ ?_)
              clear hK30 K30
              refine cw_true rfl ?_
              refine cw_rs fun K31 hK31 => ?_
              -- region 14
              refine as_q rfl rfl (q_build (zs := [(.int .i64 0), (.slice none 0 0)]) (places := [(0, 1), (1, 1)]) (cs := [_, _]) (by kernel_rfl) (by kernel_rfl) rfl rfl) ?_
              refine as_h0 (h_store hT.sat ho2 rfl rfl rfl (by kernel_rfl) rfl rfl rfl fun w10 hs10 hn10 => ?_)
              replace hv := hv.mono hs10.le
              replace ha := ha.mono hs10.le
              replace ho4 := ho4.step hs10 (fun h => hb24 (Eq.symm h))
              replace hb := hb.step hs10 (fun g hg h => by have h : g = b2 := h; subst h; exact hp2 hg)
              clear ho2; have ho2 := hn10; clear hn10
              replace hT := hT.own hs10 (by omega)
              have hz10 := hs10.size
              refine as_q rfl rfl (q_assign rfl) ?_
              refine as_nil (hK31 _ _ ?_)
              clear hK31 K31
              refine cw_ret ?_
              exact ⟨_, (res_cell rfl (loadVar_n (n := 2) (by kernel_rfl) (by first | exact Blk.cells ho2.1 rfl | exact Blk.cells ho4.1 rfl | assumption)) (res_tmp rfl res_nil)), _, hT, PR.err (by rw [hzr, parse_cons (by omega) (by omega), hpg, pGo_form (by rw [keyT_length]; exact hL) (by rw [List.getElem?_drop]; exact hn0) (Or.inr hnc)]; rfl) (by decide)⟩
            · skip
              refine cw_skip ?_
              refine hK21 _ _ ?_
              clear hK21 K21
              refine cw_rs fun K32 hK32 => ?_
              -- region 12
              refine as_q rfl rfl (q_move rfl) ?_
              refine as_q rfl rfl (q_move rfl) ?_
              refine as_q rfl rfl (q_addx rfl rfl (by omega) (by omega)) ?_
              refine as_q rfl rfl (q_indexAddr (e := 2) (size := 1) (by kernel_rfl) (by kernel_rfl) rfl rfl (by omega) (by omega)) ?_
              refine as_q rfl rfl (q_load1 (by kernel_rfl) rfl (hv.cell hT.sat (u := .int .i64 n0) (by rw [show (q + 1).toNat * 1 = q.toNat + 1 from by omega]; exact i64s_get hn0))) ?_
              refine as_q rfl rfl (q_assign rfl) ?_
              refine as_nil (hK32 _ _ ?_)
              clear hK32 K32
              refine cw_seq fun K33 hK33 => ?_
              refine cw_rs fun K34 hK34 => ?_
              -- region 13
              refine as_q rfl rfl (q_move rfl) ?_
              first | refine as_q rfl rfl (q_ltT rfl rfl (by omega)) ?_ | refine as_q rfl rfl (q_ltF rfl rfl (by omega)) ?_ | refine as_q rfl rfl (q_lt rfl rfl) ?_
              refine as_q rfl rfl (q_move rfl) ?_
              first | refine as_gskip rfl rfl rfl rfl rfl ?_ | refine as_gskipU rfl rfl rfl rfl ?_ | refine as_gh rfl rfl rfl rfl (h_q rfl (q_move rfl) ?_)
              first | refine as_gskip rfl rfl rfl rfl rfl ?_ | refine as_gskipU rfl rfl rfl rfl ?_ | refine as_gh rfl rfl rfl rfl (h_q rfl (q_gtT rfl rfl (by omega)) ?_) | refine as_gh rfl rfl rfl rfl (h_q rfl (q_gtF rfl rfl (by omega)) ?_) | refine as_gh rfl rfl rfl rfl (h_q rfl (q_gt rfl rfl) ?_)
              first | refine as_q rfl rfl (q_pick_t rfl rfl) ?_ | refine as_q rfl rfl (q_pick_f rfl rfl) ?_ | refine as_q rfl rfl (q_pick rfl rfl rfl) ?_
              refine as_nil (hK34 _ _ ?_)
              clear hK34 K34
              refine cw_false rfl ?_
              refine cw_skip ?_
              refine hK33 _ _ ?_
              clear hK33 K33
              refine cw_seq fun K35 hK35 => ?_
              refine cw_rs fun K36 hK36 => ?_
              -- region 15
              refine as_q rfl rfl (q_move rfl) ?_
              refine as_q rfl rfl (q_addx rfl rfl (by omega) (by omega)) ?_
              refine as_q rfl rfl (q_move rfl) ?_
              refine as_q rfl rfl (q_addx rfl rfl (by omega) (by omega)) ?_
              refine as_q rfl rfl (q_move rfl) ?_
              refine as_q rfl rfl (q_len (by kernel_rfl) rfl _) ?_
              first | refine as_q rfl rfl (q_gtT rfl rfl (by omega)) ?_ | refine as_q rfl rfl (q_gtF rfl rfl (by omega)) ?_ | refine as_q rfl rfl (q_gt rfl rfl) ?_
              refine as_nil (hK36 _ _ ?_)
              clear hK36 K36
              refine cw_cond rfl (fun hc6 => ?_) (fun hc6 => ?_)
              · skip
                have hl3 : (n : Int) < q + 2 + n0 := by have := of_decide_eq_true hc6; omega
                refine cw_rs fun K37 hK37 => ?_
                -- region 16
                refine as_q rfl rfl (q_build (zs := [(.int .i64 0), (.slice none 0 0)]) (places := [(0, 1), (1, 1)]) (cs := [_, _]) (by kernel_rfl) (by kernel_rfl) rfl rfl) ?_
                refine as_h0 (h_store hT.sat ho2 rfl rfl rfl (by kernel_rfl) rfl rfl rfl fun w11 hs11 hn11 => ?_)
                replace hv := hv.mono hs11.le
                replace ha := ha.mono hs11.le
                replace ho4 := ho4.step hs11 (fun h => hb24 (Eq.symm h))
                replace hb := hb.step hs11 (fun g hg h => by have h : g = b2 := h; subst h; exact hp2 hg)
                clear ho2; have ho2 := hn11; clear hn11
                replace hT := hT.own hs11 (by omega)
                have hz11 := hs11.size
                refine as_q rfl rfl (q_assign rfl) ?_
                refine as_nil (hK37 _ _ ?_)
                clear hK37 K37
                refine cw_ret ?_
                exact ⟨_, (res_cell rfl (loadVar_n (n := 2) (by kernel_rfl) (by first | exact Blk.cells ho2.1 rfl | exact Blk.cells ho4.1 rfl | assumption)) (res_tmp rfl res_nil)), _, hT, PR.err (by rw [hzr, parse_cons (by omega) (by omega), hpg, pGo_short (by rw [keyT_length]; exact hL) (by rw [List.getElem?_drop]; exact hn0) (by omega) (by rw [List.length_drop]; omega)]; rfl) (by decide)⟩
              · skip
                have hl3 : q + 2 + n0 ≤ n := by have := of_decide_eq_false hc6; omega
                refine cw_skip ?_
                refine hK35 _ _ ?_
                clear hK35 K35
                refine cw_rd (by kernel_rfl) (by kernel_rfl) (by kernel_rfl) rfl rfl fun K38 hK38 => ?_
                have hr9 := rd_sub hv (q + 2) (q + 2 + n0) (by omega) (by omega) (by omega)
                have hal : ((zs.drop (q + 2 : Int).toNat).take ((q + 2 + n0 : Int).toNat - (q + 2 : Int).toNat)).length = (q + 2 + n0 : Int).toNat - (q + 2 : Int).toNat := by rw [List.length_take, List.length_drop]; omega
                -- region 17
                have hs12 := Step.drew hT.sat
                have hz12 := hs12.size
                replace hv := hv.mono hs12.le
                replace ha := ha.mono hs12.le
                replace ho2 := ho2.then hs12
                replace ho4 := ho4.then hs12
                replace hb := hb.then hs12
                replace hT := hT.then hs12
                refine at_q (i := 0) (li := #[true, false, false, false, false, false, false, false, false, false, false, false, false, false, false, false, false, false, false]) rfl (by kernel_rfl) rfl (fun _ => (q_fieldAddr (off := 1) (by kernel_rfl) rfl)) (by kernel_rfl) ?_
                refine at_l (i := 1) (li := #[true, true, false, false, false, false, false, false, false, false, false, false, false, false, false, false, false, false, false]) (cellIs _ _ _) rfl (by kernel_rfl) rfl (fun _ h => q_load1 (by kernel_rfl) rfl h) (by first | exact Blk.cell ho2.1 rfl | exact Blk.cell ho4.1 rfl | assumption) (by kernel_rfl) ?_
                refine at_q (i := 2) (li := #[true, true, true, false, false, false, false, false, false, false, false, false, false, false, false, false, false, false, false]) rfl (by kernel_rfl) rfl (fun _ => (q_move rfl)) (by kernel_rfl) ?_
                refine at_q (i := 3) (li := #[true, true, true, true, false, false, false, false, false, false, false, false, false, false, false, false, false, false, false]) rfl (by kernel_rfl) rfl (fun _ => (q_move rfl)) (by kernel_rfl) ?_
                refine at_q (i := 4) (li := #[true, true, true, true, true, false, false, false, false, false, false, false, false, false, false, false, false, false, false]) rfl (by kernel_rfl) rfl (fun _ => (q_indexAddr (e := 2) (size := 1) (by kernel_rfl) (by kernel_rfl) rfl rfl (by omega) (by omega))) (by kernel_rfl) ?_
                refine at_l (i := 5) (li := #[true, true, true, true, true, true, false, false, false, false, false, false, false, false, false, false, false, false, false]) (cellIs _ _ _) rfl (by kernel_rfl) rfl (fun _ h => q_load1 (by kernel_rfl) rfl h) (hv.cell hT.sat (u := .int .i64 c0) (by simpa using i64s_get hc0r)) (by kernel_rfl) ?_
                refine at_q (i := 6) (li := #[true, true, true, true, true, true, true, false, false, false, false, false, false, false, false, false, false, false, false]) rfl (by kernel_rfl) rfl (fun _ => (q_move rfl)) (by kernel_rfl) ?_
                refine at_q (i := 7) (li := #[true, true, true, true, true, true, true, true, false, false, false, false, false, false, false, false, false, false, false]) rfl (by kernel_rfl) rfl (fun _ => (q_move rfl)) (by kernel_rfl) ?_
                refine at_q (i := 8) (li := #[true, true, true, true, true, true, true, true, true, false, false, false, false, false, false, false, false, false, false]) rfl (by kernel_rfl) rfl (fun _ => (q_addx rfl rfl (by omega) (by omega))) (by kernel_rfl) ?_
                refine at_q (i := 9) (li := #[true, true, true, true, true, true, true, true, true, true, false, false, false, false, false, false, false, false, false]) rfl (by kernel_rfl) rfl (fun _ => (q_move rfl)) (by kernel_rfl) ?_
                refine at_q (i := 10) (li := #[true, true, true, true, true, true, true, true, true, true, true, false, false, false, false, false, false, false, false]) rfl (by kernel_rfl) rfl (fun _ => (q_addx rfl rfl (by omega) (by omega))) (by kernel_rfl) ?_
                refine at_q (i := 11) (li := #[true, true, true, true, true, true, true, true, true, true, true, true, false, false, false, false, false, false, false]) rfl (by kernel_rfl) rfl (fun _ => (q_move rfl)) (by kernel_rfl) ?_
                refine at_q (i := 12) (li := #[true, true, true, true, true, true, true, true, true, true, true, true, true, false, false, false, false, false, false]) rfl (by kernel_rfl) rfl (fun _ => (q_addx rfl rfl (by omega) (by omega))) (by kernel_rfl) ?_
                refine at_q (i := 13) (li := #[true, true, true, true, true, true, true, true, true, true, true, true, true, true, false, false, false, false, false]) rfl (by kernel_rfl) rfl (fun _ => (q_slice (e := 2) (size := 1) (by kernel_rfl) (by kernel_rfl) rfl rfl rfl (by omega) (by omega) (by omega))) (by kernel_rfl) ?_
                refine at_q (i := 14) (li := #[true, true, true, true, true, true, true, true, true, true, true, true, true, true, true, false, false, false, false]) rfl (by kernel_rfl) rfl (fun _ => (q_build (zs := [(.int .i64 0), (.slice none 0 0)]) (places := [(0, 1), (1, 1)]) (cs := [_, _]) (by kernel_rfl) (by kernel_rfl) rfl rfl)) (by kernel_rfl) ?_
                refine at_h (i := 15) (li := #[true, true, true, true, true, true, true, true, true, true, true, true, true, true, true, true, false, false, false]) rfl (by kernel_rfl) rfl (keep_sift (bs := [false, false]) (by kernel_rfl)) (by kernel_rfl) (h_buildO (e := 69) (size := 2) (zs := [(.int .i64 0), (.slice none 0 0)]) (cs := [_, _]) (by kernel_rfl) (by kernel_rfl) (by kernel_rfl) rfl hs12.sat rfl rfl fun b5 w13 hs13 ho5 e5 => ?_)
                replace hv := hv.mono hs13.le
                replace ha := ha.mono hs13.le
                replace ho2 := ho2.then hs13
                replace ho4 := ho4.then hs13
                replace hb := hb.then hs13
                replace hT := hT.then hs13
                have hz13 := hs13.size
                have hl5 := ho5.1.lt
                refine ⟨(by repeat' first | exact trivial | exact Blk.cell ho2.1 rfl | exact Blk.cells ho2.1 rfl | exact Blk.cell ho4.1 rfl | exact Blk.cells ho4.1 rfl | exact Blk.cell ho5.1 rfl | exact Blk.cells ho5.1 rfl | exact (hv.cell hT.sat (u := .int .i64 c0) (by simpa using i64s_get hc0r)) | assumption | refine all_keep ?_ | refine And.intro ?_ ?_), ?_⟩
                have hlt2 := hb.lt
                have hm2 := ho2.1.lt
                have hm4 := ho4.1.lt
                have hq14 := hT.size
                refine at_h (i := 16) (li := #[true, true, true, true, true, true, true, true, true, true, true, true, true, true, true, true, true, false, false]) rfl (by kernel_rfl) rfl (keep_sift (bs := [false, true]) (by kernel_rfl)) (by kernel_rfl) (h_append (e := 69) (size := 2) (bytes := 32) (by kernel_rfl) hs13.sat hb ((Own.buf ho5 (n := 1) (size := 2) rfl (by decide)).rd) rfl rfl (by simp [Value.oneCell']) (by omega) rfl fun hcv w14 hs14 hcb hco => ?_)
                replace hv := hv.mono hs14.le
                replace ha := ha.mono hs14.le
                replace ho2 := ho2.step hs14 hp2
                replace ho4 := ho4.step hs14 hp4
                clear ho5
                have hcf := floor_of hco hf hq14
                replace hT := hT.trans hs14 (fun k hk h => absurd (hf k h) (by omega))
                have hz14 := hs14.size
                have hc2 := lt_of_app hco hp2 (by omega)
                have hc4 := lt_of_app hco hp4 (by omega)
                obtain ⟨ca, cc, rfl, _⟩ := hcb.slice
                refine ⟨(by repeat' first | exact trivial | exact Blk.cell ho2.1 rfl | exact Blk.cells ho2.1 rfl | exact Blk.cell ho4.1 rfl | exact Blk.cells ho4.1 rfl | exact (hv.cell hT.sat (u := .int .i64 c0) (by simpa using i64s_get hc0r)) | assumption | refine all_keep ?_ | refine And.intro ?_ ?_), ?_⟩
                refine at_q (i := 17) (li := #[true, true, true, true, true, true, true, true, true, true, true, true, true, true, true, true, true, true, false]) rfl (by kernel_rfl) rfl (fun _ => (q_fieldAddr (off := 1) (by kernel_rfl) rfl)) (by kernel_rfl) ?_
                refine at_h0 (i := 18) (li := #[true, true, true, true, true, true, true, true, true, true, true, true, true, true, true, true, true, true, true]) rfl (by kernel_rfl) (keep_sift (bs := [true]) (by kernel_rfl)) (by kernel_rfl) (h_store hs14.sat ho4 rfl rfl rfl (by kernel_rfl) rfl rfl rfl fun w15 hs15 hn15 => ?_)
                replace hv := hv.mono hs15.le
                replace ha := ha.mono hs15.le
                replace ho2 := ho2.step hs15 (fun h => hb24 h)
                replace hcb := hcb.step hs15 (fun g hg h => by have h : g = b4 := h; subst h; exact hc4 hg)
                clear ho4; have ho4 := hn15; clear hn15
                replace hT := hT.own hs15 (by omega)
                have hz15 := hs15.size
                refine ⟨(by repeat' first | exact trivial | exact Blk.cell ho2.1 rfl | exact Blk.cells ho2.1 rfl | exact Blk.cell ho4.1 rfl | exact Blk.cells ho4.1 rfl | exact (hv.cell hT.sat (u := .int .i64 c0) (by simpa using i64s_get hc0r)) | assumption | refine all_keep ?_ | refine And.intro ?_ ?_), ?_⟩
                refine at_done (by kernel_rfl) (hK38 _ _ ?_)
                clear hK38 K38
                refine cw_region fun K39 hK39 => ?_
                -- region 18
                refine as_q rfl rfl (q_move rfl) ?_
                refine as_q rfl rfl (q_addx rfl rfl (by omega) (by omega)) ?_
                refine as_q rfl rfl (q_move rfl) ?_
                refine as_q rfl rfl (q_addx rfl rfl (by omega) (by omega)) ?_
                refine as_q rfl rfl (q_assign rfl) ?_
                refine as_nil (hK39 _ _ ?_)
                clear hK39 K39
                refine ⟨_, _, ?_, (.cons rfl (.cons rfl (.cons rfl (.cons rfl (.nil _))))), q + 2 + n0, ts ++ [(c0, ((zs.drop (q + 2 : Int).toNat).take ((q + 2 + n0 : Int).toNat - (q + 2 : Int).toNat)), _)], _, rfl, rfl, by omega, by omega, hT, ho2, ho4, hcb.cast (by simp) (by rw [flat_append]), ?_, by simp; omega, ?_, hcf, hc2, hc4⟩
                · omega
                · intro t ht
                  rcases List.mem_append.1 ht with h | h
                  · exact ha t h
                  · obtain rfl := List.mem_singleton.1 h
                    exact hr9
                · rw [hpg, pGo_step (by rw [keyT_length]; exact hL) (by rw [List.getElem?_drop]; exact hc0r) (by rw [List.getElem?_drop]; exact hn0) (by omega) (by rw [List.length_drop]; omega)]
                  rw [List.drop_drop, List.drop_drop, show (q + 2 + n0).toNat - (q + 2).toNat = n0.toNat from by omega, show (q + 2).toNat = q.toNat + 2 from by omega, show (q + 2 + n0).toNat = q.toNat + (2 + n0).toNat from by omega]
                  simp [keyT]
      · skip
        have hlr : q = n := by have := of_decide_eq_false hc2; omega
        refine cw_exit ?_
        refine hK15 _ _ ?_
        clear hK16 K16
        clear hK15 K15
        refine cw_rs fun K40 hK40 => ?_
        -- region 19
        refine as_q rfl rfl (q_loadc (n := 2) (by kernel_rfl) rfl (by first | exact Blk.cells ho2.1 rfl | exact Blk.cells ho4.1 rfl | assumption)) ?_
        refine as_h0 (h_store hT.sat ho2 rfl rfl rfl (by kernel_rfl) rfl rfl rfl fun w16 hs16 hn16 => ?_)
        replace hv := hv.mono hs16.le
        replace ha := ha.mono hs16.le
        replace ho4 := ho4.step hs16 (fun h => hb24 (Eq.symm h))
        replace hb := hb.step hs16 (fun g hg h => by have h : g = b2 := h; subst h; exact hp2 hg)
        clear ho2; have ho2 := hn16; clear hn16
        replace hT := hT.own hs16 (by omega)
        have hz16 := hs16.size
        refine as_q rfl rfl (q_assign rfl) ?_
        refine as_nil (hK40 _ _ ?_)
        clear hK40 K40
        refine cw_ret ?_
        obtain ⟨M9, h9, hle9, hr9, _⟩ := hT.freezeB hb hf
        exact ⟨_, (res_cell rfl (loadVar_n (n := 2) (by kernel_rfl) (by first | exact Blk.cells ho2.1 rfl | exact Blk.cells ho4.1 rfl | assumption)) (res_tmp rfl res_nil)), M9, h9, a0, _, ts, 0, rfl, hr9, ha.mono hle9, .inl ⟨rfl, by rw [hzr, parse_cons (by omega) (by omega), hpg, List.drop_eq_nil_of_le (by omega), pGo_nil]; rfl⟩⟩

theorem awake18 {w : World} {M : Mem} (hs : Sat M w) :
    Does Try.prog 27 #[] w (fun v w' => v = .bool true ∧ Step Nope M w M w') := by
  have hT := Step.refl Nope hs
  refine fn_enter Try.func27 rfl (rs := [.tmp 0]) rfl rfl rfl rfl ?_
  refine cw_rs fun K1 hK1 => ?_
  -- region 0
  refine as_q rfl rfl (q_assign rfl) ?_
  refine as_nil (hK1 _ _ ?_)
  clear hK1 K1
  refine cw_rs fun K2 hK2 => ?_
  -- region 1
  refine as_h rfl (h_buildM (e := 2) (size := 1) (zs := [(.int .i64 0), (.int .i64 0), (.int .i64 0), (.int .i64 0)]) (cs := [_, _, _, _]) (by kernel_rfl) (by kernel_rfl) (by kernel_rfl) rfl hs rfl rfl rfl fun b1 M1 w1 hs1 hr1 e1 => ?_)
  replace hT := hT.then hs1
  have hz1 := hs1.size
  refine as_h rfl (h_call (by kernel_rfl) rfl ?_)
  refine (parse18 hs1.sat (by omega) (show RdM _ 1 _ 4 (i64s [5, 1, 1, 3]) from hr1)).mono ?_
  rintro v2 w2 ⟨M2, hs2, hp2⟩
  obtain ⟨ov, ts, rfl, hk, hov, hag⟩ := hp2.ok parse_ex1
  obtain ⟨tv, rfl⟩ := keyT_one hk
  replace hr1 := hr1.mono hs2.le
  replace hT := hT.then hs2
  have hz2 := hs2.size
  replace hov : RdM _ 2 ov 1 (flat [(1, [3], tv)]) := hov
  obtain ⟨oa, oc, rfl, _⟩ := hov.slice
  obtain ⟨og, oo, rfl⟩ := hov.there (by decide)
  have hta : RdM _ 1 tv 1 (i64s [3]) := hag _ (List.mem_singleton.2 rfl)
  obtain ⟨ta, tc, rfl, _⟩ := hta.slice
  obtain ⟨tg, to, rfl⟩ := hta.there (by decide)
  refine as_q rfl rfl (q_move rfl) ?_
  refine as_q rfl rfl (q_extract rfl rfl) ?_
  refine as_q rfl rfl (q_extract rfl rfl) ?_
  refine as_h rfl (h_allocO (z := (.agg #[(.int .i64 0), (.slice none 0 0)])) hs2.sat (by kernel_rfl) rfl fun b1 w3 hs3 ho1 e1 => ?_)
  replace hr1 := hr1.mono hs3.le
  replace hov := hov.mono hs3.le
  replace hag := hag.mono hs3.le
  replace hta := hta.mono hs3.le
  replace hT := hT.then hs3
  have hz3 := hs3.size
  have hl1 := ho1.1.lt
  refine as_h0 (h_store hs3.sat ho1 rfl rfl rfl (by kernel_rfl) rfl rfl rfl fun w4 hs4 hn4 => ?_)
  replace hr1 := hr1.mono hs4.le
  replace hov := hov.mono hs4.le
  replace hag := hag.mono hs4.le
  replace hta := hta.mono hs4.le
  clear ho1; have ho1 := hn4; clear hn4
  replace hT := hT.own hs4 (by omega)
  have hz4 := hs4.size
  refine as_q rfl rfl (q_assign rfl) ?_
  refine as_nil (hK2 _ _ ?_)
  clear hK2 K2
  refine cw_rs fun K3 hK3 => ?_
  -- region 2
  refine as_h rfl (h_buildM (e := 2) (size := 1) (zs := [(.int .i64 0), (.int .i64 0), (.int .i64 0)]) (cs := [_, _, _]) (by kernel_rfl) (by kernel_rfl) (by kernel_rfl) rfl hs4.sat rfl rfl rfl fun b2 M2 w5 hs5 hr2 e2 => ?_)
  replace hr1 := hr1.mono hs5.le
  replace hov := hov.mono hs5.le
  replace hag := hag.mono hs5.le
  replace hta := hta.mono hs5.le
  replace ho1 := ho1.then hs5
  replace hT := hT.then hs5
  have hz5 := hs5.size
  refine as_h rfl (h_call (by kernel_rfl) rfl ?_)
  refine (parse18 hs5.sat (by omega) (show RdM _ 1 _ 3 (i64s [5, 1, 1]) from hr2)).mono ?_
  rintro v6 w6 ⟨M6, hs6, hp6⟩
  obtain ⟨pa6, pc6, rfl, _⟩ := hp6.no parse_ex2
  replace hr1 := hr1.mono hs6.le
  replace hov := hov.mono hs6.le
  replace hag := hag.mono hs6.le
  replace hta := hta.mono hs6.le
  replace ho1 := ho1.then hs6
  replace hr2 := hr2.mono hs6.le
  replace hT := hT.then hs6
  have hz6 := hs6.size
  refine as_q rfl rfl (q_move rfl) ?_
  refine as_q rfl rfl (q_extract rfl rfl) ?_
  refine as_q rfl rfl (q_extract rfl rfl) ?_
  refine as_h rfl (h_allocO (z := (.agg #[(.int .i64 0), (.slice none 0 0)])) hs6.sat (by kernel_rfl) rfl fun b2 w7 hs7 ho2 e2 => ?_)
  replace hr1 := hr1.mono hs7.le
  replace hov := hov.mono hs7.le
  replace hag := hag.mono hs7.le
  replace hta := hta.mono hs7.le
  replace ho1 := ho1.then hs7
  replace hr2 := hr2.mono hs7.le
  replace hT := hT.then hs7
  have hz7 := hs7.size
  have hl2 := ho2.1.lt
  refine as_h0 (h_store hs7.sat ho2 rfl rfl rfl (by kernel_rfl) rfl rfl rfl fun w8 hs8 hn8 => ?_)
  replace hr1 := hr1.mono hs8.le
  replace hov := hov.mono hs8.le
  replace hag := hag.mono hs8.le
  replace hta := hta.mono hs8.le
  replace ho1 := ho1.step hs8 (fun h => by have h : _ = _ := h; omega)
  replace hr2 := hr2.mono hs8.le
  clear ho2; have ho2 := hn8; clear hn8
  replace hT := hT.own hs8 (by omega)
  have hz8 := hs8.size
  refine as_q rfl rfl (q_assign rfl) ?_
  refine as_nil (hK3 _ _ ?_)
  clear hK3 K3
  refine cw_rs fun K4 hK4 => ?_
  -- region 3
  refine as_h rfl (h_buildM (e := 2) (size := 1) (zs := [(.int .i64 0)]) (cs := [_]) (by kernel_rfl) (by kernel_rfl) (by kernel_rfl) rfl hs8.sat rfl rfl rfl fun b3 M3 w9 hs9 hr3 e3 => ?_)
  replace hr1 := hr1.mono hs9.le
  replace hov := hov.mono hs9.le
  replace hag := hag.mono hs9.le
  replace hta := hta.mono hs9.le
  replace ho1 := ho1.then hs9
  replace hr2 := hr2.mono hs9.le
  replace ho2 := ho2.then hs9
  replace hT := hT.then hs9
  have hz9 := hs9.size
  refine as_h rfl (h_call (by kernel_rfl) rfl ?_)
  refine (parse18 hs9.sat (by omega) (show RdM _ 1 _ 1 (i64s [65]) from hr3)).mono ?_
  rintro v10 w10 ⟨M10, hs10, hp10⟩
  obtain ⟨pa10, pc10, rfl, _⟩ := hp10.no parse_ex3
  replace hr1 := hr1.mono hs10.le
  replace hov := hov.mono hs10.le
  replace hag := hag.mono hs10.le
  replace hta := hta.mono hs10.le
  replace ho1 := ho1.then hs10
  replace hr2 := hr2.mono hs10.le
  replace ho2 := ho2.then hs10
  replace hr3 := hr3.mono hs10.le
  replace hT := hT.then hs10
  have hz10 := hs10.size
  refine as_q rfl rfl (q_move rfl) ?_
  refine as_q rfl rfl (q_extract rfl rfl) ?_
  refine as_q rfl rfl (q_extract rfl rfl) ?_
  refine as_h rfl (h_allocO (z := (.agg #[(.int .i64 0), (.slice none 0 0)])) hs10.sat (by kernel_rfl) rfl fun b3 w11 hs11 ho3 e3 => ?_)
  replace hr1 := hr1.mono hs11.le
  replace hov := hov.mono hs11.le
  replace hag := hag.mono hs11.le
  replace hta := hta.mono hs11.le
  replace ho1 := ho1.then hs11
  replace hr2 := hr2.mono hs11.le
  replace ho2 := ho2.then hs11
  replace hr3 := hr3.mono hs11.le
  replace hT := hT.then hs11
  have hz11 := hs11.size
  have hl3 := ho3.1.lt
  refine as_h0 (h_store hs11.sat ho3 rfl rfl rfl (by kernel_rfl) rfl rfl rfl fun w12 hs12 hn12 => ?_)
  replace hr1 := hr1.mono hs12.le
  replace hov := hov.mono hs12.le
  replace hag := hag.mono hs12.le
  replace hta := hta.mono hs12.le
  replace ho1 := ho1.step hs12 (fun h => by have h : _ = _ := h; omega)
  replace hr2 := hr2.mono hs12.le
  replace ho2 := ho2.step hs12 (fun h => by have h : _ = _ := h; omega)
  replace hr3 := hr3.mono hs12.le
  clear ho3; have ho3 := hn12; clear hn12
  replace hT := hT.own hs12 (by omega)
  have hz12 := hs12.size
  refine as_q rfl rfl (q_assign rfl) ?_
  refine as_nil (hK4 _ _ ?_)
  clear hK4 K4
  refine cw_rs fun K5 hK5 => ?_
  -- region 4
  refine as_h rfl (h_call (by kernel_rfl) rfl ?_)
  refine (args_in hs12.sat (by decide) (by decide)).mono ?_
  rintro _ w13 ⟨rfl, hs13⟩
  replace hr1 := hr1.mono hs13.le
  replace hov := hov.mono hs13.le
  replace hag := hag.mono hs13.le
  replace hta := hta.mono hs13.le
  replace ho1 := ho1.then hs13
  replace hr2 := hr2.mono hs13.le
  replace ho2 := ho2.then hs13
  replace hr3 := hr3.mono hs13.le
  replace ho3 := ho3.then hs13
  replace hT := hT.then hs13
  have hz13 := hs13.size
  refine as_q rfl rfl (q_move rfl) ?_
  refine as_q rfl rfl (q_extract rfl rfl) ?_
  refine as_q rfl rfl (q_extract rfl rfl) ?_
  refine as_q rfl rfl (q_assign rfl) ?_
  refine as_q rfl rfl (q_assign rfl) ?_
  refine as_nil (hK5 _ _ ?_)
  clear hK5 K5
  refine cw_rs fun K6 hK6 => ?_
  -- region 5
  refine as_q rfl rfl (q_move rfl) ?_
  first | refine as_q rfl rfl (q_eqT rfl rfl (by omega)) ?_ | refine as_q rfl rfl (q_eqF rfl rfl (by omega)) ?_ | refine as_q rfl rfl (q_eq rfl rfl) ?_
  refine as_q rfl rfl (q_move rfl) ?_
  first | refine as_gskip rfl rfl rfl rfl rfl ?_ | refine as_gskipU rfl rfl rfl rfl ?_ | refine as_gh rfl rfl rfl rfl (h_q rfl (q_fieldAddr (off := 0) (by kernel_rfl) rfl) ?_)
  first | refine as_gskip rfl rfl rfl rfl rfl ?_ | refine as_gskipU rfl rfl rfl rfl ?_ | refine as_gh rfl rfl rfl rfl (h_q rfl (q_load1 (by kernel_rfl) rfl (by first | exact Blk.cell ho1.1 rfl | exact Blk.cell ho2.1 rfl | exact Blk.cell ho3.1 rfl | assumption)) ?_)
  first | refine as_gskip rfl rfl rfl rfl rfl ?_ | refine as_gskipU rfl rfl rfl rfl ?_ | refine as_gh rfl rfl rfl rfl (h_q rfl (q_eqT rfl rfl (by omega)) ?_) | refine as_gh rfl rfl rfl rfl (h_q rfl (q_eqF rfl rfl (by omega)) ?_) | refine as_gh rfl rfl rfl rfl (h_q rfl (q_eq rfl rfl) ?_)
  first | refine as_q rfl rfl (q_pick_t rfl rfl) ?_ | refine as_q rfl rfl (q_pick_f rfl rfl) ?_ | refine as_q rfl rfl (q_pick rfl rfl rfl) ?_
  refine as_q rfl rfl (q_move rfl) ?_
  first | refine as_gskip rfl rfl rfl rfl rfl ?_ | refine as_gskipU rfl rfl rfl rfl ?_ | refine as_gh rfl rfl rfl rfl (h_q rfl (q_fieldAddr (off := 1) (by kernel_rfl) rfl) ?_)
  first | refine as_gskip rfl rfl rfl rfl rfl ?_ | refine as_gskipU rfl rfl rfl rfl ?_ | refine as_gh rfl rfl rfl rfl (h_q rfl (q_load1 (by kernel_rfl) rfl (by first | exact Blk.cell ho1.1 rfl | exact Blk.cell ho2.1 rfl | exact Blk.cell ho3.1 rfl | assumption)) ?_)
  first | refine as_gskip rfl rfl rfl rfl rfl ?_ | refine as_gskipU rfl rfl rfl rfl ?_ | refine as_gh rfl rfl rfl rfl (h_q rfl (q_len (by kernel_rfl) rfl _) ?_)
  first | refine as_gskip rfl rfl rfl rfl rfl ?_ | refine as_gskipU rfl rfl rfl rfl ?_ | refine as_gh rfl rfl rfl rfl (h_q rfl (q_eqT rfl rfl (by omega)) ?_) | refine as_gh rfl rfl rfl rfl (h_q rfl (q_eqF rfl rfl (by omega)) ?_) | refine as_gh rfl rfl rfl rfl (h_q rfl (q_eq rfl rfl) ?_)
  first | refine as_q rfl rfl (q_pick_t rfl rfl) ?_ | refine as_q rfl rfl (q_pick_f rfl rfl) ?_ | refine as_q rfl rfl (q_pick rfl rfl rfl) ?_
  refine as_q rfl rfl (q_move rfl) ?_
  first | refine as_gskip rfl rfl rfl rfl rfl ?_ | refine as_gskipU rfl rfl rfl rfl ?_ | refine as_gh rfl rfl rfl rfl (h_q rfl (q_fieldAddr (off := 1) (by kernel_rfl) rfl) ?_)
  first | refine as_gskip rfl rfl rfl rfl rfl ?_ | refine as_gskipU rfl rfl rfl rfl ?_ | refine as_gh rfl rfl rfl rfl (h_q rfl (q_load1 (by kernel_rfl) rfl (by first | exact Blk.cell ho1.1 rfl | exact Blk.cell ho2.1 rfl | exact Blk.cell ho3.1 rfl | assumption)) ?_)
  first | refine as_gskip rfl rfl rfl rfl rfl ?_ | refine as_gskipU rfl rfl rfl rfl ?_ | refine as_gh rfl rfl rfl rfl (h_q rfl (q_indexAddr (e := 51) (size := 2) (by kernel_rfl) (by kernel_rfl) rfl rfl (by omega) (by omega)) ?_)
  first | refine as_gskip rfl rfl rfl rfl rfl ?_ | refine as_gskipU rfl rfl rfl rfl ?_ | refine as_gh rfl rfl rfl rfl (h_q rfl (q_fieldAddr (off := 0) (by kernel_rfl) rfl) ?_)
  first | refine as_gskip rfl rfl rfl rfl rfl ?_ | refine as_gskipU rfl rfl rfl rfl ?_ | refine as_gh rfl rfl rfl rfl (h_q rfl (q_load1 (by kernel_rfl) rfl ((hov.elem (j := (0 : Int).toNat) hT.sat rfl (flat_elem (j := 0) rfl)).2 0 _ rfl)) ?_)
  first | refine as_gskip rfl rfl rfl rfl rfl ?_ | refine as_gskipU rfl rfl rfl rfl ?_ | refine as_gh rfl rfl rfl rfl (h_q rfl (q_eqT rfl rfl (by omega)) ?_) | refine as_gh rfl rfl rfl rfl (h_q rfl (q_eqF rfl rfl (by omega)) ?_) | refine as_gh rfl rfl rfl rfl (h_q rfl (q_eq rfl rfl) ?_)
  first | refine as_q rfl rfl (q_pick_t rfl rfl) ?_ | refine as_q rfl rfl (q_pick_f rfl rfl) ?_ | refine as_q rfl rfl (q_pick rfl rfl rfl) ?_
  refine as_q rfl rfl (q_move rfl) ?_
  first | refine as_gskip rfl rfl rfl rfl rfl ?_ | refine as_gskipU rfl rfl rfl rfl ?_ | refine as_gh rfl rfl rfl rfl (h_q rfl (q_fieldAddr (off := 1) (by kernel_rfl) rfl) ?_)
  first | refine as_gskip rfl rfl rfl rfl rfl ?_ | refine as_gskipU rfl rfl rfl rfl ?_ | refine as_gh rfl rfl rfl rfl (h_q rfl (q_load1 (by kernel_rfl) rfl (by first | exact Blk.cell ho1.1 rfl | exact Blk.cell ho2.1 rfl | exact Blk.cell ho3.1 rfl | assumption)) ?_)
  first | refine as_gskip rfl rfl rfl rfl rfl ?_ | refine as_gskipU rfl rfl rfl rfl ?_ | refine as_gh rfl rfl rfl rfl (h_q rfl (q_indexAddr (e := 51) (size := 2) (by kernel_rfl) (by kernel_rfl) rfl rfl (by omega) (by omega)) ?_)
  first | refine as_gskip rfl rfl rfl rfl rfl ?_ | refine as_gskipU rfl rfl rfl rfl ?_ | refine as_gh rfl rfl rfl rfl (h_q rfl (q_fieldAddr (off := 1) (by kernel_rfl) rfl) ?_)
  first | refine as_gskip rfl rfl rfl rfl rfl ?_ | refine as_gskipU rfl rfl rfl rfl ?_ | refine as_gh rfl rfl rfl rfl (h_q rfl (q_load1 (by kernel_rfl) rfl ((hov.elem (j := (0 : Int).toNat) hT.sat rfl (flat_elem (j := 0) rfl)).2 1 _ rfl)) ?_)
  first | refine as_gskip rfl rfl rfl rfl rfl ?_ | refine as_gskipU rfl rfl rfl rfl ?_ | refine as_gh rfl rfl rfl rfl (h_q rfl (q_len (by kernel_rfl) rfl _) ?_)
  first | refine as_gskip rfl rfl rfl rfl rfl ?_ | refine as_gskipU rfl rfl rfl rfl ?_ | refine as_gh rfl rfl rfl rfl (h_q rfl (q_eqT rfl rfl (by omega)) ?_) | refine as_gh rfl rfl rfl rfl (h_q rfl (q_eqF rfl rfl (by omega)) ?_) | refine as_gh rfl rfl rfl rfl (h_q rfl (q_eq rfl rfl) ?_)
  first | refine as_q rfl rfl (q_pick_t rfl rfl) ?_ | refine as_q rfl rfl (q_pick_f rfl rfl) ?_ | refine as_q rfl rfl (q_pick rfl rfl rfl) ?_
  refine as_q rfl rfl (q_move rfl) ?_
  first | refine as_gskip rfl rfl rfl rfl rfl ?_ | refine as_gskipU rfl rfl rfl rfl ?_ | refine as_gh rfl rfl rfl rfl (h_q rfl (q_fieldAddr (off := 1) (by kernel_rfl) rfl) ?_)
  first | refine as_gskip rfl rfl rfl rfl rfl ?_ | refine as_gskipU rfl rfl rfl rfl ?_ | refine as_gh rfl rfl rfl rfl (h_q rfl (q_load1 (by kernel_rfl) rfl (by first | exact Blk.cell ho1.1 rfl | exact Blk.cell ho2.1 rfl | exact Blk.cell ho3.1 rfl | assumption)) ?_)
  first | refine as_gskip rfl rfl rfl rfl rfl ?_ | refine as_gskipU rfl rfl rfl rfl ?_ | refine as_gh rfl rfl rfl rfl (h_q rfl (q_indexAddr (e := 51) (size := 2) (by kernel_rfl) (by kernel_rfl) rfl rfl (by omega) (by omega)) ?_)
  first | refine as_gskip rfl rfl rfl rfl rfl ?_ | refine as_gskipU rfl rfl rfl rfl ?_ | refine as_gh rfl rfl rfl rfl (h_q rfl (q_fieldAddr (off := 1) (by kernel_rfl) rfl) ?_)
  first | refine as_gskip rfl rfl rfl rfl rfl ?_ | refine as_gskipU rfl rfl rfl rfl ?_ | refine as_gh rfl rfl rfl rfl (h_q rfl (q_load1 (by kernel_rfl) rfl ((hov.elem (j := (0 : Int).toNat) hT.sat rfl (flat_elem (j := 0) rfl)).2 1 _ rfl)) ?_)
  first | refine as_gskip rfl rfl rfl rfl rfl ?_ | refine as_gskipU rfl rfl rfl rfl ?_ | refine as_gh rfl rfl rfl rfl (h_q rfl (q_indexAddr (e := 2) (size := 1) (by kernel_rfl) (by kernel_rfl) rfl rfl (by omega) (by omega)) ?_)
  first | refine as_gskip rfl rfl rfl rfl rfl ?_ | refine as_gskipU rfl rfl rfl rfl ?_ | refine as_gh rfl rfl rfl rfl (h_q rfl (q_load1 (by kernel_rfl) rfl (hta.cell hT.sat (u := .int .i64 3) rfl)) ?_)
  first | refine as_gskip rfl rfl rfl rfl rfl ?_ | refine as_gskipU rfl rfl rfl rfl ?_ | refine as_gh rfl rfl rfl rfl (h_q rfl (q_eqT rfl rfl (by omega)) ?_) | refine as_gh rfl rfl rfl rfl (h_q rfl (q_eqF rfl rfl (by omega)) ?_) | refine as_gh rfl rfl rfl rfl (h_q rfl (q_eq rfl rfl) ?_)
  first | refine as_q rfl rfl (q_pick_t rfl rfl) ?_ | refine as_q rfl rfl (q_pick_f rfl rfl) ?_ | refine as_q rfl rfl (q_pick rfl rfl rfl) ?_
  refine as_q rfl rfl (q_move rfl) ?_
  first | refine as_gskip rfl rfl rfl rfl rfl ?_ | refine as_gskipU rfl rfl rfl rfl ?_ | refine as_gh rfl rfl rfl rfl (h_q rfl (q_move rfl) ?_)
  first | refine as_gskip rfl rfl rfl rfl rfl ?_ | refine as_gskipU rfl rfl rfl rfl ?_ | refine as_gh rfl rfl rfl rfl (h_q rfl (q_eqT rfl rfl (by omega)) ?_) | refine as_gh rfl rfl rfl rfl (h_q rfl (q_eqF rfl rfl (by omega)) ?_) | refine as_gh rfl rfl rfl rfl (h_q rfl (q_eq rfl rfl) ?_)
  first | refine as_q rfl rfl (q_pick_t rfl rfl) ?_ | refine as_q rfl rfl (q_pick_f rfl rfl) ?_ | refine as_q rfl rfl (q_pick rfl rfl rfl) ?_
  refine as_q rfl rfl (q_move rfl) ?_
  first | refine as_gskip rfl rfl rfl rfl rfl ?_ | refine as_gskipU rfl rfl rfl rfl ?_ | refine as_gh rfl rfl rfl rfl (h_q rfl (q_move rfl) ?_)
  first | refine as_gskip rfl rfl rfl rfl rfl ?_ | refine as_gskipU rfl rfl rfl rfl ?_ | refine as_gh rfl rfl rfl rfl (h_q rfl (q_eqT rfl rfl (by omega)) ?_) | refine as_gh rfl rfl rfl rfl (h_q rfl (q_eqF rfl rfl (by omega)) ?_) | refine as_gh rfl rfl rfl rfl (h_q rfl (q_eq rfl rfl) ?_)
  first | refine as_q rfl rfl (q_pick_t rfl rfl) ?_ | refine as_q rfl rfl (q_pick_f rfl rfl) ?_ | refine as_q rfl rfl (q_pick rfl rfl rfl) ?_
  refine as_q rfl rfl (q_move rfl) ?_
  first | refine as_gskip rfl rfl rfl rfl rfl ?_ | refine as_gskipU rfl rfl rfl rfl ?_ | refine as_gh rfl rfl rfl rfl (h_q rfl (q_move rfl) ?_)
  first | refine as_gskip rfl rfl rfl rfl rfl ?_ | refine as_gskipU rfl rfl rfl rfl ?_ | refine as_gh rfl rfl rfl rfl (h_q rfl (q_eqT rfl rfl (by omega)) ?_) | refine as_gh rfl rfl rfl rfl (h_q rfl (q_eqF rfl rfl (by omega)) ?_) | refine as_gh rfl rfl rfl rfl (h_q rfl (q_eq rfl rfl) ?_)
  first | refine as_q rfl rfl (q_pick_t rfl rfl) ?_ | refine as_q rfl rfl (q_pick_f rfl rfl) ?_ | refine as_q rfl rfl (q_pick rfl rfl rfl) ?_
  refine as_q rfl rfl (q_move rfl) ?_
  first | refine as_gskip rfl rfl rfl rfl rfl ?_ | refine as_gskipU rfl rfl rfl rfl ?_ | refine as_gh rfl rfl rfl rfl (h_q rfl (q_move rfl) ?_)
  first | refine as_q rfl rfl (q_pick_t rfl rfl) ?_ | refine as_q rfl rfl (q_pick_f rfl rfl) ?_ | refine as_q rfl rfl (q_pick rfl rfl rfl) ?_
  refine as_q rfl rfl (q_move rfl) ?_
  first | refine as_gskip rfl rfl rfl rfl rfl ?_ | refine as_gskipU rfl rfl rfl rfl ?_ | refine as_gh rfl rfl rfl rfl (h_q rfl (q_loadc (n := 2) (by kernel_rfl) rfl (by first | exact Blk.cells ho1.1 rfl | exact Blk.cells ho2.1 rfl | exact Blk.cells ho3.1 rfl | assumption)) ?_)
  refine as_gh rfl rfl rfl rfl (h_call (by kernel_rfl) rfl ?_)
  refine (build18 (ts := [(1, [3], .slice (some ⟨tg, to, none⟩) 1 tc)]) (k := 1) hs13.sat hov hag (by simp [build, keyT])).frozen.mono ?_
  rintro v14 w14 ⟨M14, hs14, hbr⟩
  replace hr1 := hr1.mono hs14.le
  replace hov := hov.mono hs14.le
  replace hag := hag.mono hs14.le
  replace hta := hta.mono hs14.le
  replace ho1 := ho1.then hs14
  replace hr2 := hr2.mono hs14.le
  replace ho2 := ho2.then hs14
  replace hr3 := hr3.mono hs14.le
  replace ho3 := ho3.then hs14
  replace hT := hT.then hs14
  have hz14 := hs14.size
  refine as_gh rfl rfl rfl rfl (h_buildM (e := 2) (size := 1) (zs := [(.int .i64 0), (.int .i64 0), (.int .i64 0), (.int .i64 0)]) (cs := [_, _, _, _]) (by kernel_rfl) (by kernel_rfl) (by kernel_rfl) rfl hs14.sat rfl rfl rfl fun b4 M4 w15 hs15 hr4 e4 => ?_)
  replace hr1 := hr1.mono hs15.le
  replace hov := hov.mono hs15.le
  replace hag := hag.mono hs15.le
  replace hta := hta.mono hs15.le
  replace ho1 := ho1.then hs15
  replace hr2 := hr2.mono hs15.le
  replace ho2 := ho2.then hs15
  replace hr3 := hr3.mono hs15.le
  replace ho3 := ho3.then hs15
  replace hbr := hbr.mono hs15.le
  replace hT := hT.then hs15
  have hz15 := hs15.size
  refine as_gh rfl rfl rfl rfl (h_call (by kernel_rfl) rfl ?_)
  refine (same18 hs15.sat (by simp [build, keyT]) hbr (show RdM _ 1 _ 4 (i64s [5, 1, 1, 3]) from hr4)).mono ?_
  rintro v16 w16 ⟨hv16, hs16⟩
  obtain rfl : v16 = .bool true := hv16.trans (congrArg Value.bool (decide_eq_true rfl))
  replace hr1 := hr1.mono hs16.le
  replace hov := hov.mono hs16.le
  replace hag := hag.mono hs16.le
  replace hta := hta.mono hs16.le
  replace ho1 := ho1.then hs16
  replace hr2 := hr2.mono hs16.le
  replace ho2 := ho2.then hs16
  replace hr3 := hr3.mono hs16.le
  replace ho3 := ho3.then hs16
  replace hbr := hbr.mono hs16.le
  replace hr4 := hr4.mono hs16.le
  replace hT := hT.then hs16
  have hz16 := hs16.size
  first | refine as_q rfl rfl (q_pick_t rfl rfl) ?_ | refine as_q rfl rfl (q_pick_f rfl rfl) ?_ | refine as_q rfl rfl (q_pick rfl rfl rfl) ?_
  refine as_q rfl rfl (q_assign rfl) ?_
  refine as_nil (hK6 _ _ ?_)
  clear hK6 K6
  refine cw_ret ?_
  exact ⟨_, (res_tmp rfl res_nil), rfl, hT.forget⟩

end Go.Proofs.Ytcnocefclcoiiaa
