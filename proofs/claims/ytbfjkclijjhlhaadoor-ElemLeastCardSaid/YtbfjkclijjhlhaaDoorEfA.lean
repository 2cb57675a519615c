/- Elements: the least of two rows, part 1. -/
import Derived.Test.YtbfjkclijjhlhaaDoorEdA
namespace Go.Proofs.YtbfjkclijjhlhaaDoor
open Go Go.Eng
set_option maxHeartbeats 4000000 in
theorem elemLeast_walk {w : World} {M : Mem} {u v0 : Value} {n m : Nat} {xs ys : List El} (hs : Sat M w) (hg : Glob M) (hr : RdM M 2 u n (els xs)) (hr2 : RdM M 2 v0 m (els ys)) :
    Does Tryd.prog 7 #[u, v0] w (fun v w' => v = .bool true ∧ Step Nope M w M w') := by
  have hT := Step.refl Nope hs
  have hxl := (hr.rds w).els_len hs
  have hyl := (hr2.rds w).els_len hs
  obtain ⟨la, lc, rfl, hlc, _⟩ := hr.slice
  obtain ⟨lb, lc2, rfl, hlc2, _⟩ := hr2.slice
  refine fn_enter Tryd.func7 rfl (rs := [.tmp 4]) rfl rfl rfl rfl ?_
  refine cw_rs fun K1 hK1 => ?_
  -- region 0
  refine as_q rfl rfl (q_assign rfl) ?_
  refine as_nil (hK1 _ _ ?_)
  clear hK1 K1
  refine cw_rs fun K2 hK2 => ?_
  -- region 1
  refine as_h rfl (h_call (by kernel_rfl) rfl ?_)
  refine (awake01 hs hg).mono ?_
  rintro _ w1 ⟨rfl, hs1⟩
  replace hg := hg.mono hs1.le
  replace hr := hr.mono hs1.le
  replace hr2 := hr2.mono hs1.le
  replace hT := hT.then hs1
  have hz1 := hs1.size
  refine as_q rfl rfl (q_assign rfl) ?_
  refine as_nil (hK2 _ _ ?_)
  clear hK2 K2
  refine cw_seq fun K3 hK3 => ?_
  refine cw_rs fun K4 hK4 => ?_
  -- region 2
  refine as_q rfl rfl (q_move rfl) ?_
  refine as_q rfl rfl (q_not rfl) ?_
  refine as_nil (hK4 _ _ ?_)
  clear hK4 K4
  refine cw_false rfl ?_
  refine cw_skip ?_
  refine hK3 _ _ ?_
  clear hK3 K3
  refine cw_seq fun K5 hK5 => ?_
  have h60 : 60 < n ∨ n ≤ 60 := by omega
  rcases h60 with h60 | h60
  · skip
    refine cw_rs fun K6 hK6 => ?_
    -- region 4
    refine as_q rfl rfl (q_move rfl) ?_
    refine as_q rfl rfl (q_len (by kernel_rfl) rfl _) ?_
    first | refine as_q rfl rfl (q_gtT rfl rfl (by omega)) ?_ | refine as_q rfl rfl (q_gtF rfl rfl (by omega)) ?_ | refine as_q rfl rfl (q_gt rfl rfl) ?_
    refine as_q rfl rfl (q_move rfl) ?_
    first | refine as_gskip rfl rfl rfl rfl rfl ?_ | refine as_gskipU rfl rfl rfl rfl ?_ | refine as_gh rfl rfl rfl rfl (h_q rfl (q_move rfl) ?_)
    first | refine as_gskip rfl rfl rfl rfl rfl ?_ | refine as_gskipU rfl rfl rfl rfl ?_ | refine as_gh rfl rfl rfl rfl (h_q rfl (q_len (by kernel_rfl) rfl _) ?_)
    first | refine as_gskip rfl rfl rfl rfl rfl ?_ | refine as_gskipU rfl rfl rfl rfl ?_ | refine as_gh rfl rfl rfl rfl (h_q rfl (q_gt rfl rfl) ?_)
    first | refine as_q rfl rfl (q_pick_t rfl rfl) ?_ | refine as_q rfl rfl (q_pick_f rfl rfl) ?_ | refine as_q rfl rfl (q_pick rfl rfl rfl) ?_
    refine as_nil (hK6 _ _ ?_)
    clear hK6 K6
    refine cw_true rfl ?_
    refine cw_rs fun K7 hK7 => ?_
    -- region 5
    refine as_q rfl rfl (q_assign rfl) ?_
    refine as_nil (hK7 _ _ ?_)
    clear hK7 K7
    refine cw_ret ?_
    exact ⟨_, (res_tmp rfl res_nil), rfl, hT.forget⟩
  · skip
    refine cw_rs fun K8 hK8 => ?_
    -- region 4
    refine as_q rfl rfl (q_move rfl) ?_
    refine as_q rfl rfl (q_len (by kernel_rfl) rfl _) ?_
    first | refine as_q rfl rfl (q_gtT rfl rfl (by omega)) ?_ | refine as_q rfl rfl (q_gtF rfl rfl (by omega)) ?_ | refine as_q rfl rfl (q_gt rfl rfl) ?_
    refine as_q rfl rfl (q_move rfl) ?_
    first | refine as_gskip rfl rfl rfl rfl rfl ?_ | refine as_gskipU rfl rfl rfl rfl ?_ | refine as_gh rfl rfl rfl rfl (h_q rfl (q_move rfl) ?_)
    first | refine as_gskip rfl rfl rfl rfl rfl ?_ | refine as_gskipU rfl rfl rfl rfl ?_ | refine as_gh rfl rfl rfl rfl (h_q rfl (q_len (by kernel_rfl) rfl _) ?_)
    first | refine as_gskip rfl rfl rfl rfl rfl ?_ | refine as_gskipU rfl rfl rfl rfl ?_ | refine as_gh rfl rfl rfl rfl (h_q rfl (q_gt rfl rfl) ?_)
    first | refine as_q rfl rfl (q_pick_t rfl rfl) ?_ | refine as_q rfl rfl (q_pick_f rfl rfl) ?_ | refine as_q rfl rfl (q_pick rfl rfl rfl) ?_
    refine as_nil (hK8 _ _ ?_)
    clear hK8 K8
    refine cw_cond rfl (fun hc1 => ?_) (fun hc1 => ?_)
    · skip
      skip
      refine cw_rs fun K9 hK9 => ?_
      -- region 5
      refine as_q rfl rfl (q_assign rfl) ?_
      refine as_nil (hK9 _ _ ?_)
      clear hK9 K9
      refine cw_ret ?_
      exact ⟨_, (res_tmp rfl res_nil), rfl, hT.forget⟩
    · skip
      have h61 : m ≤ 60 := by have := of_decide_eq_false hc1; omega
      refine cw_skip ?_
      refine hK5 _ _ ?_
      clear hK5 K5
      refine cw_rs fun K10 hK10 => ?_
      -- region 6
      refine as_q rfl rfl (q_assign rfl) ?_
      refine as_nil (hK10 _ _ ?_)
      clear hK10 K10
      refine cw_rs fun K11 hK11 => ?_
      -- region 7
      refine as_q rfl rfl (q_move rfl) ?_
      refine as_q rfl rfl (q_move rfl) ?_
      have nofl : ∀ g, (Value.slice none 0 0).ownBlock = some g → w.heap.size ≤ g := fun g hg => by cases hg
      have hq2 := hT.size
      refine as_h rfl (h_append (e := 23) (size := 2) (bytes := 16) (by kernel_rfl) hs1.sat (Buf.nil _ _ 23 2) ((hr.rd hs1.sat)) rfl rfl (els_one _) (by omega) rfl fun hwv w2 hs2 hwb hwo => ?_)
      replace hg := hg.mono hs2.le
      replace hr := hr.mono hs2.le
      replace hr2 := hr2.mono hs2.le
      have hwf := floor_of hwo nofl hq2
      replace hT := hT.trans hs2 (fun k hk h => absurd (nofl k h) (by omega))
      have hz2 := hs2.size
      replace hwb := hwb.cast (Nat.zero_add _) (List.nil_append _)
      refine as_q rfl rfl (q_assign rfl) ?_
      refine as_nil (hK11 _ _ ?_)
      clear hK11 K11
      refine cw_rs fun K12 hK12 => ?_
      -- region 8
      refine as_q rfl rfl (q_move rfl) ?_
      refine as_q rfl rfl (q_move rfl) ?_
      have hq3 := hT.size
      refine as_h rfl (h_append (e := 23) (size := 2) (bytes := 16) (by kernel_rfl) hs2.sat hwb ((hr2.rd hs2.sat)) rfl rfl (els_one _) (by omega) rfl fun hzv w3 hs3 hzb hzo => ?_)
      replace hg := hg.mono hs3.le
      replace hr := hr.mono hs3.le
      replace hr2 := hr2.mono hs3.le
      have hzf := floor_of hzo hwf hq3
      replace hT := hT.trans hs3 (fun k hk h => absurd (hwf k h) (by omega))
      have hz3 := hs3.size
      replace hzb := hzb.cast rfl (els_append xs ys).symm
      obtain ⟨za, zc, rfl, _, _⟩ := hzb.slice
      refine as_q rfl rfl (q_assign rfl) ?_
      refine as_nil (hK12 _ _ ?_)
      clear hK12 K12
      refine cw_rs fun K13 hK13 => ?_
      -- region 9
      refine as_q rfl rfl (q_move rfl) ?_
      refine as_h rfl (h_call (by kernel_rfl) rfl ?_)
      refine (z_least hs3.sat (hr.rds _) (by omega)).mono ?_
      rintro _ w4 ⟨x, p, rfl, hx, hs4⟩
      replace hg := hg.mono hs4.le
      replace hr := hr.mono hs4.le
      replace hr2 := hr2.mono hs4.le
      replace hzb := hzb.then hs4
      replace hT := hT.then hs4
      have hz4 := hs4.size
      refine as_q rfl rfl (q_move rfl) ?_
      refine as_q rfl rfl (q_extract rfl rfl) ?_
      refine as_q rfl rfl (q_extract rfl rfl) ?_
      have lthzb := hzb.lt
      have hqa1 := hT.size
      refine as_h rfl (h_allocO (z := (.agg #[(.int .i64 0), (.int .i64 0)])) hs4.sat (by kernel_rfl) rfl fun b1 w5 hs5 ho1 e1 => ?_)
      replace hg := hg.mono hs5.le
      replace hr := hr.mono hs5.le
      replace hr2 := hr2.mono hs5.le
      replace hzb := hzb.then hs5
      replace hT := hT.then hs5
      have hz5 := hs5.size
      have hl1 := ho1.1.lt
      refine as_h0 (h_store hs5.sat ho1 rfl rfl rfl (by kernel_rfl) rfl rfl rfl fun w6 hs6 hn6 => ?_)
      replace hg := hg.mono hs6.le
      replace hr := hr.mono hs6.le
      replace hr2 := hr2.mono hs6.le
      replace hzb := hzb.step hs6 (fun g hg h => by have h : g = b1 := h; have := lthzb g hg; omega)
      clear ho1; have ho1 := hn6; clear hn6
      replace hT := hT.own hs6 (by omega)
      have hz6 := hs6.size
      refine as_q rfl rfl (q_assign rfl) ?_
      refine as_nil (hK13 _ _ ?_)
      clear hK13 K13
      refine cw_rs fun K14 hK14 => ?_
      -- region 10
      refine as_q rfl rfl (q_move rfl) ?_
      refine as_h rfl (h_call (by kernel_rfl) rfl ?_)
      refine (z_least hs6.sat (hr2.rds _) (by omega)).mono ?_
      rintro _ w7 ⟨y, q, rfl, hy, hs7⟩
      replace hg := hg.mono hs7.le
      replace hr := hr.mono hs7.le
      replace hr2 := hr2.mono hs7.le
      replace hzb := hzb.then hs7
      replace ho1 := ho1.then hs7
      replace hT := hT.then hs7
      have hz7 := hs7.size
      refine as_q rfl rfl (q_move rfl) ?_
      refine as_q rfl rfl (q_extract rfl rfl) ?_
      refine as_q rfl rfl (q_extract rfl rfl) ?_
      have lthzb := hzb.lt
      have hqa2 := hT.size
      refine as_h rfl (h_allocO (z := (.agg #[(.int .i64 0), (.int .i64 0)])) hs7.sat (by kernel_rfl) rfl fun b2 w8 hs8 ho2 e2 => ?_)
      replace hg := hg.mono hs8.le
      replace hr := hr.mono hs8.le
      replace hr2 := hr2.mono hs8.le
      replace hzb := hzb.then hs8
      replace ho1 := ho1.then hs8
      replace hT := hT.then hs8
      have hz8 := hs8.size
      have hl2 := ho2.1.lt
      refine as_h0 (h_store hs8.sat ho2 rfl rfl rfl (by kernel_rfl) rfl rfl rfl fun w9 hs9 hn9 => ?_)
      replace hg := hg.mono hs9.le
      replace hr := hr.mono hs9.le
      replace hr2 := hr2.mono hs9.le
      replace hzb := hzb.step hs9 (fun g hg h => by have h : g = b2 := h; have := lthzb g hg; omega)
      replace ho1 := ho1.step hs9 (fun h => by have h : _ = _ := h; omega)
      clear ho2; have ho2 := hn9; clear hn9
      replace hT := hT.own hs9 (by omega)
      have hz9 := hs9.size
      refine as_q rfl rfl (q_assign rfl) ?_
      refine as_nil (hK14 _ _ ?_)
      clear hK14 K14
      refine cw_rs fun K15 hK15 => ?_
      -- region 11
      refine as_q rfl rfl (q_move rfl) ?_
      refine as_h rfl (h_call (by kernel_rfl) rfl ?_)
      refine (z_least hs9.sat (hzb.rds) (by omega)).mono ?_
      rintro _ w10 ⟨z, r, rfl, hz, hs10⟩
      replace hg := hg.mono hs10.le
      replace hr := hr.mono hs10.le
      replace hr2 := hr2.mono hs10.le
      replace hzb := hzb.then hs10
      replace ho1 := ho1.then hs10
      replace ho2 := ho2.then hs10
      replace hT := hT.then hs10
      have hz10 := hs10.size
      refine as_q rfl rfl (q_move rfl) ?_
      refine as_q rfl rfl (q_extract rfl rfl) ?_
      refine as_q rfl rfl (q_extract rfl rfl) ?_
      have lthzb := hzb.lt
      have hqa3 := hT.size
      refine as_h rfl (h_allocO (z := (.agg #[(.int .i64 0), (.int .i64 0)])) hs10.sat (by kernel_rfl) rfl fun b3 w11 hs11 ho3 e3 => ?_)
      replace hg := hg.mono hs11.le
      replace hr := hr.mono hs11.le
      replace hr2 := hr2.mono hs11.le
      replace hzb := hzb.then hs11
      replace ho1 := ho1.then hs11
      replace ho2 := ho2.then hs11
      replace hT := hT.then hs11
      have hz11 := hs11.size
      have hl3 := ho3.1.lt
      refine as_h0 (h_store hs11.sat ho3 rfl rfl rfl (by kernel_rfl) rfl rfl rfl fun w12 hs12 hn12 => ?_)
      replace hg := hg.mono hs12.le
      replace hr := hr.mono hs12.le
      replace hr2 := hr2.mono hs12.le
      replace hzb := hzb.step hs12 (fun g hg h => by have h : g = b3 := h; have := lthzb g hg; omega)
      replace ho1 := ho1.step hs12 (fun h => by have h : _ = _ := h; omega)
      replace ho2 := ho2.step hs12 (fun h => by have h : _ = _ := h; omega)
      clear ho3; have ho3 := hn12; clear hn12
      replace hT := hT.own hs12 (by omega)
      have hz12 := hs12.size
      refine as_q rfl rfl (q_assign rfl) ?_
      refine as_nil (hK15 _ _ ?_)
      clear hK15 K15
      refine cw_rs fun K16 hK16 => ?_
      -- region 12
      refine as_q rfl rfl (q_move rfl) ?_
      refine as_q rfl rfl (q_len (by kernel_rfl) rfl _) ?_
      refine as_q rfl rfl (q_congr (q_eq rfl rfl) (v' := .bool (decide (n + m = 0))) (congrArg Value.bool (decide_eq_decide.2 (by omega)))) ?_
      refine as_q rfl rfl (q_assign rfl) ?_
      refine as_nil (hK16 _ _ ?_)
      clear hK16 K16
      refine cw_seq fun K17 hK17 => ?_
      refine cw_rs fun K18 hK18 => ?_
      -- region 13
      refine as_q rfl rfl (q_assign rfl) ?_
      refine as_nil (hK18 _ _ ?_)
      clear hK18 K18
      refine cw_block ?_
      refine cw_loop (fun mm l w1 => ∃ (i : Nat) (bb : Bool), mm = n + m - i ∧ i ≤ n + m ∧ (∀ j e, j < i → (xs ++ ys)[j]? = some e → e = z → bb = true) ∧ (n + m = 0 → bb = true) ∧ l = [(0, .slice la n lc), (1, .slice lb m lc2), (6, .slice za (n + m) zc), (7, .pointer (some ⟨b1, 0, none⟩)), (8, .bool p), (9, .pointer (some ⟨b2, 0, none⟩)), (10, .bool q), (11, .pointer (some ⟨b3, 0, none⟩)), (12, .bool r), (13, .bool bb), (14, .int .i64 i)] ∧ Step Nope M w M w1 ∧ Own w1 M b1 (elc x) 23 ∧ Own w1 M b2 (elc y) 23 ∧ Own w1 M b3 (elc z) 23 ∧ Buf w1 M 23 2 (.slice za (n + m) zc) (n + m) (els (xs ++ ys))) (n + m) [(0, .slice la n lc), (1, .slice lb m lc2), (6, .slice za (n + m) zc), (7, .pointer (some ⟨b1, 0, none⟩)), (8, .bool p), (9, .pointer (some ⟨b2, 0, none⟩)), (10, .bool q), (11, .pointer (some ⟨b3, 0, none⟩)), (12, .bool r), (13, .bool (decide (n + m = 0))), (14, .int .i64 (0 : Nat))] (.cons rfl (.cons rfl (.cons rfl (.cons rfl (.cons rfl (.cons rfl (.cons rfl (.cons rfl (.cons rfl (.cons rfl (.cons rfl (.nil _)))))))))))) ?_ ?_
      · skip
        exact ⟨0, _, rfl, Nat.zero_le _, fun j e hj => by omega, fun h => decide_eq_true h, rfl, hT, ho1, ho2, ho3, hzb⟩
      clear hT ho1 ho2 ho3 hzb
      rintro mm l w1 ⟨i, bb, rfl, hi, hin, hin0, rfl, hT, ho1, ho2, ho3, hzb⟩
      refine cw_seq fun K19 hK19 => ?_
      refine cw_rs fun K20 hK20 => ?_
      -- region 14
      refine as_q rfl rfl (q_move rfl) ?_
      refine as_q rfl rfl (q_move rfl) ?_
      refine as_q rfl rfl (q_len (by kernel_rfl) rfl _) ?_
      refine as_q rfl rfl (q_lt rfl rfl) ?_
      refine as_nil (hK20 _ _ ?_)
      clear hK20 K20
      refine cw_cond rfl (fun hc2 => ?_) (fun hc2 => ?_)
      · skip
        have hlt : i < n + m := by have := of_decide_eq_true hc2; omega
        obtain ⟨e, he⟩ : ∃ e, (xs ++ ys)[i]? = some e := ⟨(xs ++ ys)[i]'(by rw [List.length_append]; omega), List.getElem?_eq_getElem _⟩
        obtain ⟨zg, zo, rfl⟩ := hzb.rd.there (by omega)
        have hzmin : ∀ e ∈ xs ++ ys, ltE e z = false := by
          rcases hz with ⟨h, _⟩ | ⟨_, h, _⟩
          · rw [h] at he; cases he
          · exact h
        refine cw_skip ?_
        refine hK19 _ _ ?_
        clear hK19 K19
        refine cw_seq fun K21 hK21 => ?_
        refine cw_block ?_
        refine cw_cutS (fun l w1 => ∃ (bb2 : Bool), (bb = true → bb2 = true) ∧ (e = z → bb2 = true) ∧ l = [(0, .slice la n lc), (1, .slice lb m lc2), (6, .slice (some ⟨zg, zo, none⟩) (n + m) zc), (7, .pointer (some ⟨b1, 0, none⟩)), (8, .bool p), (9, .pointer (some ⟨b2, 0, none⟩)), (10, .bool q), (11, .pointer (some ⟨b3, 0, none⟩)), (12, .bool r), (13, .bool bb2), (14, .int .i64 i)] ∧ Step Nope M w M w1 ∧ Own w1 M b1 (elc x) 23 ∧ Own w1 M b2 (elc y) 23 ∧ Own w1 M b3 (elc z) 23 ∧ Buf w1 M 23 2 (.slice (some ⟨zg, zo, none⟩) (n + m) zc) (n + m) (els (xs ++ ys))) ?_ ?_
        · skip
          cases bb
          · skip
            refine cw_drawn (by kernel_rfl) (by kernel_rfl) (by kernel_rfl) rfl rfl fun K22 hK22 => ?_
            -- region 16
            have hs13 := Step.drew hT.sat
            have hz13 := hs13.size
            replace hg := hg.mono hs13.le
            replace hr := hr.mono hs13.le
            replace hr2 := hr2.mono hs13.le
            replace ho1 := ho1.then hs13
            replace ho2 := ho2.then hs13
            replace ho3 := ho3.then hs13
            replace hzb := hzb.then hs13
            replace hT := hT.then hs13
            refine at_q (i := 0) (li := #[true, false, false, false, false, false, false, false, false, false]) rfl (by kernel_rfl) rfl (fun _ => (q_move rfl)) (by kernel_rfl) ?_
            refine at_q (i := 1) (li := #[true, true, false, false, false, false, false, false, false, false]) rfl (by kernel_rfl) rfl (fun _ => (q_move rfl)) (by kernel_rfl) ?_
            first | refine at_gskip (i := 2) (li := #[true, true, true, false, false, false, false, false, false, false]) rfl (by kernel_rfl) rfl rfl rfl rfl rfl (by kernel_rfl) ?_ | refine at_gskipU (i := 2) (li := #[true, true, true, false, false, false, false, false, false, false]) rfl (by kernel_rfl) rfl rfl rfl rfl (by kernel_rfl) ?_ | refine at_gp (i := 2) (li := #[true, true, true, false, false, false, false, false, false, false]) rfl (by kernel_rfl) rfl rfl rfl rfl (fun _ => (q_move rfl)) (by kernel_rfl) ?_
            first | refine at_gskip (i := 3) (li := #[true, true, true, true, false, false, false, false, false, false]) rfl (by kernel_rfl) rfl rfl rfl rfl rfl (by kernel_rfl) ?_ | refine at_gskipU (i := 3) (li := #[true, true, true, true, false, false, false, false, false, false]) rfl (by kernel_rfl) rfl rfl rfl rfl (by kernel_rfl) ?_ | refine at_gp (i := 3) (li := #[true, true, true, true, false, false, false, false, false, false]) rfl (by kernel_rfl) rfl rfl rfl rfl (fun _ => (q_move rfl)) (by kernel_rfl) ?_
            first | refine at_gskip (i := 4) (li := #[true, true, true, true, true, false, false, false, false, false]) rfl (by kernel_rfl) rfl rfl rfl rfl rfl (by kernel_rfl) ?_ | refine at_gskipU (i := 4) (li := #[true, true, true, true, true, false, false, false, false, false]) rfl (by kernel_rfl) rfl rfl rfl rfl (by kernel_rfl) ?_ | refine at_gp (i := 4) (li := #[true, true, true, true, true, false, false, false, false, false]) rfl (by kernel_rfl) rfl rfl rfl rfl (fun _ => (q_indexAddr (e := 23) (size := 2) (by kernel_rfl) (by kernel_rfl) rfl rfl (by omega) (by omega))) (by kernel_rfl) ?_
            first | refine at_gskip (i := 5) (li := #[true, true, true, true, true, true, false, false, false, false]) rfl (by kernel_rfl) rfl rfl rfl rfl rfl (by kernel_rfl) ?_ | refine at_gskipU (i := 5) (li := #[true, true, true, true, true, true, false, false, false, false]) rfl (by kernel_rfl) rfl rfl rfl rfl (by kernel_rfl) ?_ | refine at_gq (i := 5) (li := #[true, true, true, true, true, true, false, false, false, false]) (cellsAre _ _ 2 _) rfl (by kernel_rfl) rfl rfl rfl rfl (fun _ h => q_loadc (n := 2) (by kernel_rfl) rfl h) ((hzb.rd).el (j := (i : Int).toNat) (by simpa using he)) (by kernel_rfl) ?_
            first | refine at_gskip (i := 6) (li := #[true, true, true, true, true, true, true, false, false, false]) rfl (by kernel_rfl) rfl rfl rfl rfl rfl (by kernel_rfl) ?_ | refine at_gskipU (i := 6) (li := #[true, true, true, true, true, true, true, false, false, false]) rfl (by kernel_rfl) rfl rfl rfl rfl (by kernel_rfl) ?_ | refine at_gq (i := 6) (li := #[true, true, true, true, true, true, true, false, false, false]) (cellsAre _ _ 2 _) rfl (by kernel_rfl) rfl rfl rfl rfl (fun _ h => q_loadc (n := 2) (by kernel_rfl) rfl h) (by first | exact Blk.cells ho1.1 rfl | exact Blk.cells ho2.1 rfl | exact Blk.cells ho3.1 rfl | assumption) (by kernel_rfl) ?_
            first | refine at_gskip (i := 7) (li := #[true, true, true, true, true, true, true, true, false, false]) rfl (by kernel_rfl) rfl rfl rfl rfl rfl (by kernel_rfl) ?_ | refine at_gskipU (i := 7) (li := #[true, true, true, true, true, true, true, true, false, false]) rfl (by kernel_rfl) rfl rfl rfl rfl (by kernel_rfl) ?_ | refine at_gp (i := 7) (li := #[true, true, true, true, true, true, true, true, false, false]) rfl (by kernel_rfl) rfl rfl rfl rfl (fun _ => (q_eqE (a := e) (b := z) (e := 2) (by kernel_rfl) (by kernel_rfl) (by kernel_rfl) (by kernel_rfl) (by kernel_rfl) (by kernel_rfl) rfl rfl)) (by kernel_rfl) ?_
            first | refine at_q (i := 8) (li := #[true, true, true, true, true, true, true, true, true, false]) rfl (by kernel_rfl) rfl (fun _ => (q_pick_t rfl rfl)) (by kernel_rfl) ?_ | refine at_q (i := 8) (li := #[true, true, true, true, true, true, true, true, true, false]) rfl (by kernel_rfl) rfl (fun _ => (q_pick_f rfl rfl)) (by kernel_rfl) ?_ | refine at_q (i := 8) (li := #[true, true, true, true, true, true, true, true, true, false]) rfl (by kernel_rfl) rfl (fun _ => (q_pick rfl rfl rfl)) (by kernel_rfl) ?_
            refine at_q (i := 9) (li := #[true, true, true, true, true, true, true, true, true, true]) rfl (by kernel_rfl) rfl (fun _ => (q_assign rfl)) (by kernel_rfl) ?_
            refine at_done (by kernel_rfl) (hK22 _ _ ?_)
            clear hK22 K22
            exact ⟨_, (.cons rfl (.cons rfl (.cons rfl (.cons rfl (.cons rfl (.cons rfl (.cons rfl (.cons rfl (.cons rfl (.cons rfl (.cons rfl (.nil _)))))))))))), _, (fun h => by cases h), (fun h => decide_eq_true h), rfl, hT, ho1, ho2, ho3, hzb⟩
          · skip
            refine cw_drawn (by kernel_rfl) (by kernel_rfl) (by kernel_rfl) rfl rfl fun K23 hK23 => ?_
            -- region 16
            have hs14 := Step.drew hT.sat
            have hz14 := hs14.size
            replace hg := hg.mono hs14.le
            replace hr := hr.mono hs14.le
            replace hr2 := hr2.mono hs14.le
            replace ho1 := ho1.then hs14
            replace ho2 := ho2.then hs14
            replace ho3 := ho3.then hs14
            replace hzb := hzb.then hs14
            replace hT := hT.then hs14
            refine at_q (i := 0) (li := #[true, false, false, false, false, false, false, false, false, false]) rfl (by kernel_rfl) rfl (fun _ => (q_move rfl)) (by kernel_rfl) ?_
            refine at_q (i := 1) (li := #[true, true, false, false, false, false, false, false, false, false]) rfl (by kernel_rfl) rfl (fun _ => (q_move rfl)) (by kernel_rfl) ?_
            first | refine at_gskip (i := 2) (li := #[true, true, true, false, false, false, false, false, false, false]) rfl (by kernel_rfl) rfl rfl rfl rfl rfl (by kernel_rfl) ?_ | refine at_gskipU (i := 2) (li := #[true, true, true, false, false, false, false, false, false, false]) rfl (by kernel_rfl) rfl rfl rfl rfl (by kernel_rfl) ?_ | refine at_gp (i := 2) (li := #[true, true, true, false, false, false, false, false, false, false]) rfl (by kernel_rfl) rfl rfl rfl rfl (fun _ => (q_move rfl)) (by kernel_rfl) ?_
            first | refine at_gskip (i := 3) (li := #[true, true, true, true, false, false, false, false, false, false]) rfl (by kernel_rfl) rfl rfl rfl rfl rfl (by kernel_rfl) ?_ | refine at_gskipU (i := 3) (li := #[true, true, true, true, false, false, false, false, false, false]) rfl (by kernel_rfl) rfl rfl rfl rfl (by kernel_rfl) ?_ | refine at_gp (i := 3) (li := #[true, true, true, true, false, false, false, false, false, false]) rfl (by kernel_rfl) rfl rfl rfl rfl (fun _ => (q_move rfl)) (by kernel_rfl) ?_
            first | refine at_gskip (i := 4) (li := #[true, true, true, true, true, false, false, false, false, false]) rfl (by kernel_rfl) rfl rfl rfl rfl rfl (by kernel_rfl) ?_ | refine at_gskipU (i := 4) (li := #[true, true, true, true, true, false, false, false, false, false]) rfl (by kernel_rfl) rfl rfl rfl rfl (by kernel_rfl) ?_ | refine at_gp (i := 4) (li := #[true, true, true, true, true, false, false, false, false, false]) rfl (by kernel_rfl) rfl rfl rfl rfl (fun _ => (q_indexAddr (e := 23) (size := 2) (by kernel_rfl) (by kernel_rfl) rfl rfl (by omega) (by omega))) (by kernel_rfl) ?_
            first | refine at_gskip (i := 5) (li := #[true, true, true, true, true, true, false, false, false, false]) rfl (by kernel_rfl) rfl rfl rfl rfl rfl (by kernel_rfl) ?_ | refine at_gskipU (i := 5) (li := #[true, true, true, true, true, true, false, false, false, false]) rfl (by kernel_rfl) rfl rfl rfl rfl (by kernel_rfl) ?_ | refine at_gq (i := 5) (li := #[true, true, true, true, true, true, false, false, false, false]) (cellsAre _ _ 2 _) rfl (by kernel_rfl) rfl rfl rfl rfl (fun _ h => q_loadc (n := 2) (by kernel_rfl) rfl h) ((hzb.rd).el (j := (i : Int).toNat) (by simpa using he)) (by kernel_rfl) ?_
            first | refine at_gskip (i := 6) (li := #[true, true, true, true, true, true, true, false, false, false]) rfl (by kernel_rfl) rfl rfl rfl rfl rfl (by kernel_rfl) ?_ | refine at_gskipU (i := 6) (li := #[true, true, true, true, true, true, true, false, false, false]) rfl (by kernel_rfl) rfl rfl rfl rfl (by kernel_rfl) ?_ | refine at_gq (i := 6) (li := #[true, true, true, true, true, true, true, false, false, false]) (cellsAre _ _ 2 _) rfl (by kernel_rfl) rfl rfl rfl rfl (fun _ h => q_loadc (n := 2) (by kernel_rfl) rfl h) (by first | exact Blk.cells ho1.1 rfl | exact Blk.cells ho2.1 rfl | exact Blk.cells ho3.1 rfl | assumption) (by kernel_rfl) ?_
            first | refine at_gskip (i := 7) (li := #[true, true, true, true, true, true, true, true, false, false]) rfl (by kernel_rfl) rfl rfl rfl rfl rfl (by kernel_rfl) ?_ | refine at_gskipU (i := 7) (li := #[true, true, true, true, true, true, true, true, false, false]) rfl (by kernel_rfl) rfl rfl rfl rfl (by kernel_rfl) ?_ | refine at_gp (i := 7) (li := #[true, true, true, true, true, true, true, true, false, false]) rfl (by kernel_rfl) rfl rfl rfl rfl (fun _ => (q_eqE (a := e) (b := z) (e := 2) (by kernel_rfl) (by kernel_rfl) (by kernel_rfl) (by kernel_rfl) (by kernel_rfl) (by kernel_rfl) rfl rfl)) (by kernel_rfl) ?_
            first | refine at_q (i := 8) (li := #[true, true, true, true, true, true, true, true, true, false]) rfl (by kernel_rfl) rfl (fun _ => (q_pick_t rfl rfl)) (by kernel_rfl) ?_ | refine at_q (i := 8) (li := #[true, true, true, true, true, true, true, true, true, false]) rfl (by kernel_rfl) rfl (fun _ => (q_pick_f rfl rfl)) (by kernel_rfl) ?_ | refine at_q (i := 8) (li := #[true, true, true, true, true, true, true, true, true, false]) rfl (by kernel_rfl) rfl (fun _ => (q_pick rfl rfl rfl)) (by kernel_rfl) ?_
            refine at_q (i := 9) (li := #[true, true, true, true, true, true, true, true, true, true]) rfl (by kernel_rfl) rfl (fun _ => (q_assign rfl)) (by kernel_rfl) ?_
            refine at_done (by kernel_rfl) (hK23 _ _ ?_)
            clear hK23 K23
            exact ⟨_, (.cons rfl (.cons rfl (.cons rfl (.cons rfl (.cons rfl (.cons rfl (.cons rfl (.cons rfl (.cons rfl (.cons rfl (.cons rfl (.nil _)))))))))))), _, fun h => rfl, fun h => rfl, rfl, hT, ho1, ho2, ho3, hzb⟩
        clear hT ho1 ho2 ho3 hzb
        rintro l w2 ⟨bb2, hb1, hb2, rfl, hT, ho1, ho2, ho3, hzb⟩
        refine cw_rd (by kernel_rfl) (by kernel_rfl) (by kernel_rfl) rfl rfl fun K24 hK24 => ?_
        -- region 17
        have hs15 := Step.drew hT.sat
        have hz15 := hs15.size
        replace hg := hg.mono hs15.le
        replace hr := hr.mono hs15.le
        replace hr2 := hr2.mono hs15.le
        replace ho1 := ho1.then hs15
        replace ho2 := ho2.then hs15
        replace ho3 := ho3.then hs15
        replace hzb := hzb.then hs15
        replace hT := hT.then hs15
        refine at_q (i := 0) (li := #[true, false, false, false, false, false]) rfl (by kernel_rfl) rfl (fun _ => (q_move rfl)) (by kernel_rfl) ?_
        refine at_q (i := 1) (li := #[true, true, false, false, false, false]) rfl (by kernel_rfl) rfl (fun _ => (q_move rfl)) (by kernel_rfl) ?_
        refine at_q (i := 2) (li := #[true, true, true, false, false, false]) rfl (by kernel_rfl) rfl (fun _ => (q_indexAddr (e := 23) (size := 2) (by kernel_rfl) (by kernel_rfl) rfl rfl (by omega) (by omega))) (by kernel_rfl) ?_
        refine at_l (i := 3) (li := #[true, true, true, true, false, false]) (cellsAre _ _ 2 _) rfl (by kernel_rfl) rfl (fun _ h => q_loadc (n := 2) (by kernel_rfl) rfl h) ((hzb.rd).el (j := (i : Int).toNat) (by simpa using he)) (by kernel_rfl) ?_
        refine at_l (i := 4) (li := #[true, true, true, true, true, false]) (cellsAre _ _ 2 _) rfl (by kernel_rfl) rfl (fun _ h => q_loadc (n := 2) (by kernel_rfl) rfl h) (by first | exact Blk.cells ho1.1 rfl | exact Blk.cells ho2.1 rfl | exact Blk.cells ho3.1 rfl | assumption) (by kernel_rfl) ?_
        refine at_h (i := 5) (li := #[true, true, true, true, true, true]) rfl (by kernel_rfl) rfl (keep_sift (bs := [true, true]) (by kernel_rfl)) (by kernel_rfl) (h_call (by kernel_rfl) rfl ?_)
        refine (z_less_is (a := e) (b := z) hs15.sat (hzmin e (List.mem_of_getElem? he))).mono ?_
        rintro _ w16 ⟨rfl, hs16⟩
        replace hg := hg.mono hs16.le
        replace hr := hr.mono hs16.le
        replace hr2 := hr2.mono hs16.le
        replace ho1 := ho1.then hs16
        replace ho2 := ho2.then hs16
        replace ho3 := ho3.then hs16
        replace hzb := hzb.then hs16
        replace hT := hT.then hs16
        have hz16 := hs16.size
        refine ⟨(by repeat' first | exact trivial | exact Blk.cell ho1.1 rfl | exact Blk.cells ho1.1 rfl | exact Blk.cell ho2.1 rfl | exact Blk.cells ho2.1 rfl | exact Blk.cell ho3.1 rfl | exact Blk.cells ho3.1 rfl | exact ((hzb.rd).el (j := (i : Int).toNat) (by simpa using he)) | assumption | refine all_keep ?_ | refine And.intro ?_ ?_), ?_⟩
        refine at_done (by kernel_rfl) (hK24 _ _ ?_)
        clear hK24 K24
        refine cw_false rfl ?_
        refine cw_skip ?_
        refine hK21 _ _ ?_
        clear hK21 K21
        refine cw_region fun K25 hK25 => ?_
        -- region 15
        refine as_q rfl rfl (q_move rfl) ?_
        refine as_q rfl rfl (q_addx rfl rfl (by omega) (by omega)) ?_
        refine as_q rfl rfl (q_assign rfl) ?_
        refine as_nil (hK25 _ _ ?_)
        clear hK25 K25
        refine ⟨_, _, ?_, (.cons rfl (.cons rfl (.cons rfl (.cons rfl (.cons rfl (.cons rfl (.cons rfl (.cons rfl (.cons rfl (.cons rfl (.cons rfl (.nil _)))))))))))), i + 1, bb2, rfl, by omega, fun j e2 hj he2 hez => ?_, fun h => by omega, rfl, hT, ho1, ho2, ho3, hzb⟩
        · omega
        · rcases Nat.lt_or_ge j i with h | h
          · exact hb1 (hin j e2 h he2 hez)
          · obtain rfl : j = i := by omega
            rw [he] at he2
            cases he2
            exact hb2 hez
      · skip
        have hge : i = n + m := by have := of_decide_eq_false hc2; omega
        refine cw_exit ?_
        refine hK17 _ _ ?_
        clear hK19 K19
        clear hK17 K17
        refine cw_seq fun K26 hK26 => ?_
        have lx : ∀ e ∈ xs, 0 < n := fun e he => by have := List.length_pos_of_mem he; omega
        have nx : xs = [] → n = 0 := fun h => by rw [h] at hxl; simpa using hxl.symm
        have ly : ∀ e ∈ ys, 0 < m := fun e he => by have := List.length_pos_of_mem he; omega
        have ny : ys = [] → m = 0 := fun h => by rw [h] at hyl; simpa using hyl.symm
        have lz : ∀ e ∈ xs ++ ys, 0 < n + m := fun e he => by have := List.length_pos_of_mem he; rw [List.length_append] at this; omega
        have nz : xs ++ ys = [] → n + m = 0 := fun h => by have := congrArg List.length h; rw [List.length_append] at this; simp only [List.length_nil] at this; omega
        have hbt : bb = true := by
          rcases hz with ⟨h, _⟩ | ⟨h, _⟩
          · exact hin0 (nz h)
          · obtain ⟨j, hj⟩ := List.getElem?_of_mem h
            exact hin j z (by have := (List.getElem?_eq_some_iff.1 hj).1; rw [List.length_append] at this; omega) hj rfl
        subst hbt
        have hc4 : (p = false ∧ q = false ∧ r = false ∧ n = 0 ∧ m = 0) ∨ (p = false ∧ q = true ∧ r = true ∧ n = 0 ∧ 0 < m) ∨ (p = true ∧ q = false ∧ r = true ∧ 0 < n ∧ m = 0) ∨ (p = true ∧ q = true ∧ r = true ∧ 0 < n ∧ 0 < m) := by
          rcases hx with ⟨h1, _, h2⟩ | ⟨h1, _, h2⟩ <;> rcases hy with ⟨h3, _, h4⟩ | ⟨h3, _, h4⟩ <;> rcases hz with ⟨h5, _, h6⟩ | ⟨h5, _, h6⟩ <;> first
            | exact .inl ⟨h2, h4, h6, nx h1, ny h3⟩
            | exact .inr (.inl ⟨h2, h4, h6, nx h1, ly _ h3⟩)
            | exact .inr (.inr (.inl ⟨h2, h4, h6, lx _ h1, ny h3⟩))
            | exact .inr (.inr (.inr ⟨h2, h4, h6, lx _ h1, ly _ h3⟩))
            | exact absurd (lz _ h5) (by have := nx h1; have := ny h3; omega)
            | exact absurd (nz h5) (by have := lx _ h1; omega)
            | exact absurd (nz h5) (by have := ly _ h3; omega)
        rcases hc4 with ⟨rfl, rfl, rfl, hn0, hm0⟩ | ⟨rfl, rfl, rfl, hn0, hm0⟩ | ⟨rfl, rfl, rfl, hn0, hm0⟩ | ⟨rfl, rfl, rfl, hn0, hm0⟩
        · skip
          refine cw_rs fun K27 hK27 => ?_
          -- region 19
          refine as_q rfl rfl (q_move rfl) ?_
          refine as_q rfl rfl (q_move rfl) ?_
          refine as_q rfl rfl (q_len (by kernel_rfl) rfl _) ?_
          first | refine as_q rfl rfl (q_gtT rfl rfl (by omega)) ?_ | refine as_q rfl rfl (q_gtF rfl rfl (by omega)) ?_ | refine as_q rfl rfl (q_gt rfl rfl) ?_
          refine as_q rfl rfl (q_neb (by kernel_rfl) rfl rfl) ?_
          refine as_q rfl rfl (q_move rfl) ?_
          first | refine as_gskip rfl rfl rfl rfl rfl ?_ | refine as_gskipU rfl rfl rfl rfl ?_ | refine as_gh rfl rfl rfl rfl (h_q rfl (q_move rfl) ?_)
          first | refine as_gskip rfl rfl rfl rfl rfl ?_ | refine as_gskipU rfl rfl rfl rfl ?_ | refine as_gh rfl rfl rfl rfl (h_q rfl (q_move rfl) ?_)
          first | refine as_gskip rfl rfl rfl rfl rfl ?_ | refine as_gskipU rfl rfl rfl rfl ?_ | refine as_gh rfl rfl rfl rfl (h_q rfl (q_len (by kernel_rfl) rfl _) ?_)
          first | refine as_gskip rfl rfl rfl rfl rfl ?_ | refine as_gskipU rfl rfl rfl rfl ?_ | refine as_gh rfl rfl rfl rfl (h_q rfl (q_gtT rfl rfl (by omega)) ?_) | refine as_gh rfl rfl rfl rfl (h_q rfl (q_gtF rfl rfl (by omega)) ?_) | refine as_gh rfl rfl rfl rfl (h_q rfl (q_gt rfl rfl) ?_)
          first | refine as_gskip rfl rfl rfl rfl rfl ?_ | refine as_gskipU rfl rfl rfl rfl ?_ | refine as_gh rfl rfl rfl rfl (h_q rfl (q_neb (by kernel_rfl) rfl rfl) ?_)
          first | refine as_q rfl rfl (q_pick_t rfl rfl) ?_ | refine as_q rfl rfl (q_pick_f rfl rfl) ?_ | refine as_q rfl rfl (q_pick rfl rfl rfl) ?_
          refine as_q rfl rfl (q_move rfl) ?_
          first | refine as_gskip rfl rfl rfl rfl rfl ?_ | refine as_gskipU rfl rfl rfl rfl ?_ | refine as_gh rfl rfl rfl rfl (h_q rfl (q_move rfl) ?_)
          first | refine as_gskip rfl rfl rfl rfl rfl ?_ | refine as_gskipU rfl rfl rfl rfl ?_ | refine as_gh rfl rfl rfl rfl (h_q rfl (q_move rfl) ?_)
          first | refine as_gskip rfl rfl rfl rfl rfl ?_ | refine as_gskipU rfl rfl rfl rfl ?_ | refine as_gh rfl rfl rfl rfl (h_q rfl (q_move rfl) ?_)
          first | refine as_gskip rfl rfl rfl rfl rfl ?_ | refine as_gskipU rfl rfl rfl rfl ?_ | refine as_gh rfl rfl rfl rfl (h_q rfl (q_move rfl) ?_)
          first | refine as_gskip rfl rfl rfl rfl rfl ?_ | refine as_gskipU rfl rfl rfl rfl ?_ | refine as_gh rfl rfl rfl rfl (h_q rfl (q_pick_t rfl rfl) ?_) | refine as_gh rfl rfl rfl rfl (h_q rfl (q_pick_f rfl rfl) ?_) | refine as_gh rfl rfl rfl rfl (h_q rfl (q_pick rfl rfl rfl) ?_)
          first | refine as_gskip rfl rfl rfl rfl rfl ?_ | refine as_gskipU rfl rfl rfl rfl ?_ | refine as_gh rfl rfl rfl rfl (h_q rfl (q_neb (by kernel_rfl) rfl rfl) ?_)
          first | refine as_q rfl rfl (q_pick_t rfl rfl) ?_ | refine as_q rfl rfl (q_pick_f rfl rfl) ?_ | refine as_q rfl rfl (q_pick rfl rfl rfl) ?_
          refine as_q rfl rfl (q_move rfl) ?_
          first | refine as_gskip rfl rfl rfl rfl rfl ?_ | refine as_gskipU rfl rfl rfl rfl ?_ | refine as_gh rfl rfl rfl rfl (h_q rfl (q_move rfl) ?_)
          first | refine as_gskip rfl rfl rfl rfl rfl ?_ | refine as_gskipU rfl rfl rfl rfl ?_ | refine as_gh rfl rfl rfl rfl (h_q rfl (q_not rfl) ?_)
          first | refine as_q rfl rfl (q_pick_t rfl rfl) ?_ | refine as_q rfl rfl (q_pick_f rfl rfl) ?_ | refine as_q rfl rfl (q_pick rfl rfl rfl) ?_
          refine as_nil (hK27 _ _ ?_)
          clear hK27 K27
          refine cw_false rfl ?_
          refine cw_skip ?_
          refine hK26 _ _ ?_
          clear hK26 K26
          skip
          · skip
            refine cw_rs fun K28 hK28 => ?_
            -- region 21
            refine as_q rfl rfl (q_move rfl) ?_
            refine as_q rfl rfl (q_not rfl) ?_
            refine as_q rfl rfl (q_move rfl) ?_
            first | refine as_gskip rfl rfl rfl rfl rfl ?_ | refine as_gskipU rfl rfl rfl rfl ?_ | refine as_gh rfl rfl rfl rfl (h_q rfl (q_move rfl) ?_)
            first | refine as_gskip rfl rfl rfl rfl rfl ?_ | refine as_gskipU rfl rfl rfl rfl ?_ | refine as_gh rfl rfl rfl rfl (h_q rfl (q_not rfl) ?_)
            first | refine as_q rfl rfl (q_pick_t rfl rfl) ?_ | refine as_q rfl rfl (q_pick_f rfl rfl) ?_ | refine as_q rfl rfl (q_pick rfl rfl rfl) ?_
            refine as_q rfl rfl (q_move rfl) ?_
            first | refine as_gskip rfl rfl rfl rfl rfl ?_ | refine as_gskipU rfl rfl rfl rfl ?_ | refine as_gh rfl rfl rfl rfl (h_q rfl (q_loadc (n := 2) (by kernel_rfl) rfl (by first | exact Blk.cells ho1.1 rfl | exact Blk.cells ho2.1 rfl | exact Blk.cells ho3.1 rfl | assumption)) ?_)
            first | refine as_gskip rfl rfl rfl rfl rfl ?_ | refine as_gskipU rfl rfl rfl rfl ?_ | refine as_gh rfl rfl rfl rfl (h_q rfl (q_loadc (n := 2) (by kernel_rfl) rfl (by first | exact Blk.cells ho1.1 rfl | exact Blk.cells ho2.1 rfl | exact Blk.cells ho3.1 rfl | assumption)) ?_)
            first | refine as_gskip rfl rfl rfl rfl rfl ?_ | refine as_gskipU rfl rfl rfl rfl ?_
            first | refine as_gskip rfl rfl rfl rfl rfl ?_ | refine as_gskipU rfl rfl rfl rfl ?_ | refine as_gh rfl rfl rfl rfl (h_q rfl (q_move rfl) ?_)
            first | refine as_gskip rfl rfl rfl rfl rfl ?_ | refine as_gskipU rfl rfl rfl rfl ?_ | refine as_gh rfl rfl rfl rfl (h_q rfl (q_loadc (n := 2) (by kernel_rfl) rfl (by first | exact Blk.cells ho1.1 rfl | exact Blk.cells ho2.1 rfl | exact Blk.cells ho3.1 rfl | assumption)) ?_)
            first | refine as_gskip rfl rfl rfl rfl rfl ?_ | refine as_gskipU rfl rfl rfl rfl ?_ | refine as_gh rfl rfl rfl rfl (h_q rfl (q_loadc (n := 2) (by kernel_rfl) rfl (by first | exact Blk.cells ho1.1 rfl | exact Blk.cells ho2.1 rfl | exact Blk.cells ho3.1 rfl | assumption)) ?_)
            first | refine as_gskip rfl rfl rfl rfl rfl ?_ | refine as_gskipU rfl rfl rfl rfl ?_
            first | refine as_gskip rfl rfl rfl rfl rfl ?_ | refine as_gskipU rfl rfl rfl rfl ?_ | refine as_gh rfl rfl rfl rfl (h_q rfl (q_not rfl) ?_)
            first | refine as_gskip rfl rfl rfl rfl rfl ?_ | refine as_gskipU rfl rfl rfl rfl ?_ | refine as_gh rfl rfl rfl rfl (h_q rfl (q_pick_t rfl rfl) ?_) | refine as_gh rfl rfl rfl rfl (h_q rfl (q_pick_f rfl rfl) ?_) | refine as_gh rfl rfl rfl rfl (h_q rfl (q_pick rfl rfl rfl) ?_)
            first | refine as_q rfl rfl (q_pick_t rfl rfl) ?_ | refine as_q rfl rfl (q_pick_f rfl rfl) ?_ | refine as_q rfl rfl (q_pick rfl rfl rfl) ?_
            refine as_q rfl rfl (q_move rfl) ?_
            first | refine as_gskip rfl rfl rfl rfl rfl ?_ | refine as_gskipU rfl rfl rfl rfl ?_ | refine as_gh rfl rfl rfl rfl (h_q rfl (q_loadc (n := 2) (by kernel_rfl) rfl (by first | exact Blk.cells ho1.1 rfl | exact Blk.cells ho2.1 rfl | exact Blk.cells ho3.1 rfl | assumption)) ?_)
            first | refine as_gskip rfl rfl rfl rfl rfl ?_ | refine as_gskipU rfl rfl rfl rfl ?_ | refine as_gh rfl rfl rfl rfl (h_q rfl (q_loadc (n := 2) (by kernel_rfl) rfl (by first | exact Blk.cells ho1.1 rfl | exact Blk.cells ho2.1 rfl | exact Blk.cells ho3.1 rfl | assumption)) ?_)
            first | refine as_gskip rfl rfl rfl rfl rfl ?_ | refine as_gskipU rfl rfl rfl rfl ?_
            first | refine as_gskip rfl rfl rfl rfl rfl ?_ | refine as_gskipU rfl rfl rfl rfl ?_ | refine as_gh rfl rfl rfl rfl (h_q rfl (q_move rfl) ?_)
            first | refine as_gskip rfl rfl rfl rfl rfl ?_ | refine as_gskipU rfl rfl rfl rfl ?_ | refine as_gh rfl rfl rfl rfl (h_q rfl (q_loadc (n := 2) (by kernel_rfl) rfl (by first | exact Blk.cells ho1.1 rfl | exact Blk.cells ho2.1 rfl | exact Blk.cells ho3.1 rfl | assumption)) ?_)
            first | refine as_gskip rfl rfl rfl rfl rfl ?_ | refine as_gskipU rfl rfl rfl rfl ?_ | refine as_gh rfl rfl rfl rfl (h_q rfl (q_loadc (n := 2) (by kernel_rfl) rfl (by first | exact Blk.cells ho1.1 rfl | exact Blk.cells ho2.1 rfl | exact Blk.cells ho3.1 rfl | assumption)) ?_)
            first | refine as_gskip rfl rfl rfl rfl rfl ?_ | refine as_gskipU rfl rfl rfl rfl ?_
            first | refine as_gskip rfl rfl rfl rfl rfl ?_ | refine as_gskipU rfl rfl rfl rfl ?_ | refine as_gh rfl rfl rfl rfl (h_q rfl (q_pick_t rfl rfl) ?_) | refine as_gh rfl rfl rfl rfl (h_q rfl (q_pick_f rfl rfl) ?_) | refine as_gh rfl rfl rfl rfl (h_q rfl (q_pick rfl rfl rfl) ?_)
            first | refine as_q rfl rfl (q_pick_t rfl rfl) ?_ | refine as_q rfl rfl (q_pick_f rfl rfl) ?_ | refine as_q rfl rfl (q_pick rfl rfl rfl) ?_
            refine as_q rfl rfl (q_assign rfl) ?_
            refine as_nil (hK28 _ _ ?_)
            clear hK28 K28
            refine cw_ret ?_
            exact ⟨_, (res_tmp rfl res_nil), rfl, hT.forget⟩
        · skip
          refine cw_rs fun K29 hK29 => ?_
          -- region 19
          refine as_q rfl rfl (q_move rfl) ?_
          refine as_q rfl rfl (q_move rfl) ?_
          refine as_q rfl rfl (q_len (by kernel_rfl) rfl _) ?_
          first | refine as_q rfl rfl (q_gtT rfl rfl (by omega)) ?_ | refine as_q rfl rfl (q_gtF rfl rfl (by omega)) ?_ | refine as_q rfl rfl (q_gt rfl rfl) ?_
          refine as_q rfl rfl (q_neb (by kernel_rfl) rfl rfl) ?_
          refine as_q rfl rfl (q_move rfl) ?_
          first | refine as_gskip rfl rfl rfl rfl rfl ?_ | refine as_gskipU rfl rfl rfl rfl ?_ | refine as_gh rfl rfl rfl rfl (h_q rfl (q_move rfl) ?_)
          first | refine as_gskip rfl rfl rfl rfl rfl ?_ | refine as_gskipU rfl rfl rfl rfl ?_ | refine as_gh rfl rfl rfl rfl (h_q rfl (q_move rfl) ?_)
          first | refine as_gskip rfl rfl rfl rfl rfl ?_ | refine as_gskipU rfl rfl rfl rfl ?_ | refine as_gh rfl rfl rfl rfl (h_q rfl (q_len (by kernel_rfl) rfl _) ?_)
          first | refine as_gskip rfl rfl rfl rfl rfl ?_ | refine as_gskipU rfl rfl rfl rfl ?_ | refine as_gh rfl rfl rfl rfl (h_q rfl (q_gtT rfl rfl (by omega)) ?_) | refine as_gh rfl rfl rfl rfl (h_q rfl (q_gtF rfl rfl (by omega)) ?_) | refine as_gh rfl rfl rfl rfl (h_q rfl (q_gt rfl rfl) ?_)
          first | refine as_gskip rfl rfl rfl rfl rfl ?_ | refine as_gskipU rfl rfl rfl rfl ?_ | refine as_gh rfl rfl rfl rfl (h_q rfl (q_neb (by kernel_rfl) rfl rfl) ?_)
          first | refine as_q rfl rfl (q_pick_t rfl rfl) ?_ | refine as_q rfl rfl (q_pick_f rfl rfl) ?_ | refine as_q rfl rfl (q_pick rfl rfl rfl) ?_
          refine as_q rfl rfl (q_move rfl) ?_
          first | refine as_gskip rfl rfl rfl rfl rfl ?_ | refine as_gskipU rfl rfl rfl rfl ?_ | refine as_gh rfl rfl rfl rfl (h_q rfl (q_move rfl) ?_)
          first | refine as_gskip rfl rfl rfl rfl rfl ?_ | refine as_gskipU rfl rfl rfl rfl ?_ | refine as_gh rfl rfl rfl rfl (h_q rfl (q_move rfl) ?_)
          first | refine as_gskip rfl rfl rfl rfl rfl ?_ | refine as_gskipU rfl rfl rfl rfl ?_ | refine as_gh rfl rfl rfl rfl (h_q rfl (q_move rfl) ?_)
          first | refine as_gskip rfl rfl rfl rfl rfl ?_ | refine as_gskipU rfl rfl rfl rfl ?_ | refine as_gh rfl rfl rfl rfl (h_q rfl (q_move rfl) ?_)
          first | refine as_gskip rfl rfl rfl rfl rfl ?_ | refine as_gskipU rfl rfl rfl rfl ?_ | refine as_gh rfl rfl rfl rfl (h_q rfl (q_pick_t rfl rfl) ?_) | refine as_gh rfl rfl rfl rfl (h_q rfl (q_pick_f rfl rfl) ?_) | refine as_gh rfl rfl rfl rfl (h_q rfl (q_pick rfl rfl rfl) ?_)
          first | refine as_gskip rfl rfl rfl rfl rfl ?_ | refine as_gskipU rfl rfl rfl rfl ?_ | refine as_gh rfl rfl rfl rfl (h_q rfl (q_neb (by kernel_rfl) rfl rfl) ?_)
          first | refine as_q rfl rfl (q_pick_t rfl rfl) ?_ | refine as_q rfl rfl (q_pick_f rfl rfl) ?_ | refine as_q rfl rfl (q_pick rfl rfl rfl) ?_
          refine as_q rfl rfl (q_move rfl) ?_
          first | refine as_gskip rfl rfl rfl rfl rfl ?_ | refine as_gskipU rfl rfl rfl rfl ?_ | refine as_gh rfl rfl rfl rfl (h_q rfl (q_move rfl) ?_)
          first | refine as_gskip rfl rfl rfl rfl rfl ?_ | refine as_gskipU rfl rfl rfl rfl ?_ | refine as_gh rfl rfl rfl rfl (h_q rfl (q_not rfl) ?_)
          first | refine as_q rfl rfl (q_pick_t rfl rfl) ?_ | refine as_q rfl rfl (q_pick_f rfl rfl) ?_ | refine as_q rfl rfl (q_pick rfl rfl rfl) ?_
          refine as_nil (hK29 _ _ ?_)
          clear hK29 K29
          refine cw_false rfl ?_
          refine cw_skip ?_
          refine hK26 _ _ ?_
          clear hK26 K26
          skip
          · skip
            refine cw_rs fun K30 hK30 => ?_
            -- region 21
            refine as_q rfl rfl (q_move rfl) ?_
            refine as_q rfl rfl (q_not rfl) ?_
            refine as_q rfl rfl (q_move rfl) ?_
            first | refine as_gskip rfl rfl rfl rfl rfl ?_ | refine as_gskipU rfl rfl rfl rfl ?_ | refine as_gh rfl rfl rfl rfl (h_q rfl (q_move rfl) ?_)
            first | refine as_gskip rfl rfl rfl rfl rfl ?_ | refine as_gskipU rfl rfl rfl rfl ?_ | refine as_gh rfl rfl rfl rfl (h_q rfl (q_not rfl) ?_)
            first | refine as_q rfl rfl (q_pick_t rfl rfl) ?_ | refine as_q rfl rfl (q_pick_f rfl rfl) ?_ | refine as_q rfl rfl (q_pick rfl rfl rfl) ?_
            refine as_q rfl rfl (q_move rfl) ?_
            first | refine as_gskip rfl rfl rfl rfl rfl ?_ | refine as_gskipU rfl rfl rfl rfl ?_ | refine as_gh rfl rfl rfl rfl (h_q rfl (q_loadc (n := 2) (by kernel_rfl) rfl (by first | exact Blk.cells ho1.1 rfl | exact Blk.cells ho2.1 rfl | exact Blk.cells ho3.1 rfl | assumption)) ?_)
            first | refine as_gskip rfl rfl rfl rfl rfl ?_ | refine as_gskipU rfl rfl rfl rfl ?_ | refine as_gh rfl rfl rfl rfl (h_q rfl (q_loadc (n := 2) (by kernel_rfl) rfl (by first | exact Blk.cells ho1.1 rfl | exact Blk.cells ho2.1 rfl | exact Blk.cells ho3.1 rfl | assumption)) ?_)
            first | refine as_gskip rfl rfl rfl rfl rfl ?_ | refine as_gskipU rfl rfl rfl rfl ?_
            first | refine as_gskip rfl rfl rfl rfl rfl ?_ | refine as_gskipU rfl rfl rfl rfl ?_ | refine as_gh rfl rfl rfl rfl (h_q rfl (q_move rfl) ?_)
            first | refine as_gskip rfl rfl rfl rfl rfl ?_ | refine as_gskipU rfl rfl rfl rfl ?_ | refine as_gh rfl rfl rfl rfl (h_q rfl (q_loadc (n := 2) (by kernel_rfl) rfl (by first | exact Blk.cells ho1.1 rfl | exact Blk.cells ho2.1 rfl | exact Blk.cells ho3.1 rfl | assumption)) ?_)
            first | refine as_gskip rfl rfl rfl rfl rfl ?_ | refine as_gskipU rfl rfl rfl rfl ?_ | refine as_gh rfl rfl rfl rfl (h_q rfl (q_loadc (n := 2) (by kernel_rfl) rfl (by first | exact Blk.cells ho1.1 rfl | exact Blk.cells ho2.1 rfl | exact Blk.cells ho3.1 rfl | assumption)) ?_)
            first | refine as_gskip rfl rfl rfl rfl rfl ?_ | refine as_gskipU rfl rfl rfl rfl ?_
            first | refine as_gskip rfl rfl rfl rfl rfl ?_ | refine as_gskipU rfl rfl rfl rfl ?_ | refine as_gh rfl rfl rfl rfl (h_q rfl (q_not rfl) ?_)
            first | refine as_gskip rfl rfl rfl rfl rfl ?_ | refine as_gskipU rfl rfl rfl rfl ?_ | refine as_gh rfl rfl rfl rfl (h_q rfl (q_pick_t rfl rfl) ?_) | refine as_gh rfl rfl rfl rfl (h_q rfl (q_pick_f rfl rfl) ?_) | refine as_gh rfl rfl rfl rfl (h_q rfl (q_pick rfl rfl rfl) ?_)
            first | refine as_q rfl rfl (q_pick_t rfl rfl) ?_ | refine as_q rfl rfl (q_pick_f rfl rfl) ?_ | refine as_q rfl rfl (q_pick rfl rfl rfl) ?_
            refine as_q rfl rfl (q_move rfl) ?_
            first | refine as_gskip rfl rfl rfl rfl rfl ?_ | refine as_gskipU rfl rfl rfl rfl ?_ | refine as_gh rfl rfl rfl rfl (h_q rfl (q_loadc (n := 2) (by kernel_rfl) rfl (by first | exact Blk.cells ho1.1 rfl | exact Blk.cells ho2.1 rfl | exact Blk.cells ho3.1 rfl | assumption)) ?_)
            first | refine as_gskip rfl rfl rfl rfl rfl ?_ | refine as_gskipU rfl rfl rfl rfl ?_ | refine as_gh rfl rfl rfl rfl (h_q rfl (q_loadc (n := 2) (by kernel_rfl) rfl (by first | exact Blk.cells ho1.1 rfl | exact Blk.cells ho2.1 rfl | exact Blk.cells ho3.1 rfl | assumption)) ?_)
            first | refine as_gskip rfl rfl rfl rfl rfl ?_ | refine as_gskipU rfl rfl rfl rfl ?_
            first | refine as_gskip rfl rfl rfl rfl rfl ?_ | refine as_gskipU rfl rfl rfl rfl ?_ | refine as_gh rfl rfl rfl rfl (h_q rfl (q_move rfl) ?_)
            first | refine as_gskip rfl rfl rfl rfl rfl ?_ | refine as_gskipU rfl rfl rfl rfl ?_ | refine as_gh rfl rfl rfl rfl (h_q rfl (q_loadc (n := 2) (by kernel_rfl) rfl (by first | exact Blk.cells ho1.1 rfl | exact Blk.cells ho2.1 rfl | exact Blk.cells ho3.1 rfl | assumption)) ?_)
            first | refine as_gskip rfl rfl rfl rfl rfl ?_ | refine as_gskipU rfl rfl rfl rfl ?_ | refine as_gh rfl rfl rfl rfl (h_q rfl (q_loadc (n := 2) (by kernel_rfl) rfl (by first | exact Blk.cells ho1.1 rfl | exact Blk.cells ho2.1 rfl | exact Blk.cells ho3.1 rfl | assumption)) ?_)
            first | refine as_gskip rfl rfl rfl rfl rfl ?_ | refine as_gskipU rfl rfl rfl rfl ?_
            first | refine as_gskip rfl rfl rfl rfl rfl ?_ | refine as_gskipU rfl rfl rfl rfl ?_ | refine as_gh rfl rfl rfl rfl (h_q rfl (q_pick_t rfl rfl) ?_) | refine as_gh rfl rfl rfl rfl (h_q rfl (q_pick_f rfl rfl) ?_) | refine as_gh rfl rfl rfl rfl (h_q rfl (q_pick rfl rfl rfl) ?_)
            first | refine as_q rfl rfl (q_pick_t rfl rfl) ?_ | refine as_q rfl rfl (q_pick_f rfl rfl) ?_ | refine as_q rfl rfl (q_pick rfl rfl rfl) ?_
            refine as_q rfl rfl (q_assign rfl) ?_
            refine as_nil (hK30 _ _ ?_)
            clear hK30 K30
            refine cw_ret ?_
            exact ⟨_, (res_tmp rfl res_nil), rfl, hT.forget⟩
        · skip
          refine cw_rs fun K31 hK31 => ?_
          -- region 19
          refine as_q rfl rfl (q_move rfl) ?_
          refine as_q rfl rfl (q_move rfl) ?_
          refine as_q rfl rfl (q_len (by kernel_rfl) rfl _) ?_
          first | refine as_q rfl rfl (q_gtT rfl rfl (by omega)) ?_ | refine as_q rfl rfl (q_gtF rfl rfl (by omega)) ?_ | refine as_q rfl rfl (q_gt rfl rfl) ?_
          refine as_q rfl rfl (q_neb (by kernel_rfl) rfl rfl) ?_
          refine as_q rfl rfl (q_move rfl) ?_
          first | refine as_gskip rfl rfl rfl rfl rfl ?_ | refine as_gskipU rfl rfl rfl rfl ?_ | refine as_gh rfl rfl rfl rfl (h_q rfl (q_move rfl) ?_)
          first | refine as_gskip rfl rfl rfl rfl rfl ?_ | refine as_gskipU rfl rfl rfl rfl ?_ | refine as_gh rfl rfl rfl rfl (h_q rfl (q_move rfl) ?_)
          first | refine as_gskip rfl rfl rfl rfl rfl ?_ | refine as_gskipU rfl rfl rfl rfl ?_ | refine as_gh rfl rfl rfl rfl (h_q rfl (q_len (by kernel_rfl) rfl _) ?_)
          first | refine as_gskip rfl rfl rfl rfl rfl ?_ | refine as_gskipU rfl rfl rfl rfl ?_ | refine as_gh rfl rfl rfl rfl (h_q rfl (q_gtT rfl rfl (by omega)) ?_) | refine as_gh rfl rfl rfl rfl (h_q rfl (q_gtF rfl rfl (by omega)) ?_) | refine as_gh rfl rfl rfl rfl (h_q rfl (q_gt rfl rfl) ?_)
          first | refine as_gskip rfl rfl rfl rfl rfl ?_ | refine as_gskipU rfl rfl rfl rfl ?_ | refine as_gh rfl rfl rfl rfl (h_q rfl (q_neb (by kernel_rfl) rfl rfl) ?_)
          first | refine as_q rfl rfl (q_pick_t rfl rfl) ?_ | refine as_q rfl rfl (q_pick_f rfl rfl) ?_ | refine as_q rfl rfl (q_pick rfl rfl rfl) ?_
          refine as_q rfl rfl (q_move rfl) ?_
          first | refine as_gskip rfl rfl rfl rfl rfl ?_ | refine as_gskipU rfl rfl rfl rfl ?_ | refine as_gh rfl rfl rfl rfl (h_q rfl (q_move rfl) ?_)
          first | refine as_gskip rfl rfl rfl rfl rfl ?_ | refine as_gskipU rfl rfl rfl rfl ?_ | refine as_gh rfl rfl rfl rfl (h_q rfl (q_move rfl) ?_)
          first | refine as_gskip rfl rfl rfl rfl rfl ?_ | refine as_gskipU rfl rfl rfl rfl ?_ | refine as_gh rfl rfl rfl rfl (h_q rfl (q_move rfl) ?_)
          first | refine as_gskip rfl rfl rfl rfl rfl ?_ | refine as_gskipU rfl rfl rfl rfl ?_ | refine as_gh rfl rfl rfl rfl (h_q rfl (q_move rfl) ?_)
          first | refine as_gskip rfl rfl rfl rfl rfl ?_ | refine as_gskipU rfl rfl rfl rfl ?_ | refine as_gh rfl rfl rfl rfl (h_q rfl (q_pick_t rfl rfl) ?_) | refine as_gh rfl rfl rfl rfl (h_q rfl (q_pick_f rfl rfl) ?_) | refine as_gh rfl rfl rfl rfl (h_q rfl (q_pick rfl rfl rfl) ?_)
          first | refine as_gskip rfl rfl rfl rfl rfl ?_ | refine as_gskipU rfl rfl rfl rfl ?_ | refine as_gh rfl rfl rfl rfl (h_q rfl (q_neb (by kernel_rfl) rfl rfl) ?_)
          first | refine as_q rfl rfl (q_pick_t rfl rfl) ?_ | refine as_q rfl rfl (q_pick_f rfl rfl) ?_ | refine as_q rfl rfl (q_pick rfl rfl rfl) ?_
          refine as_q rfl rfl (q_move rfl) ?_
          first | refine as_gskip rfl rfl rfl rfl rfl ?_ | refine as_gskipU rfl rfl rfl rfl ?_ | refine as_gh rfl rfl rfl rfl (h_q rfl (q_move rfl) ?_)
          first | refine as_gskip rfl rfl rfl rfl rfl ?_ | refine as_gskipU rfl rfl rfl rfl ?_ | refine as_gh rfl rfl rfl rfl (h_q rfl (q_not rfl) ?_)
          first | refine as_q rfl rfl (q_pick_t rfl rfl) ?_ | refine as_q rfl rfl (q_pick_f rfl rfl) ?_ | refine as_q rfl rfl (q_pick rfl rfl rfl) ?_
          refine as_nil (hK31 _ _ ?_)
          clear hK31 K31
          refine cw_false rfl ?_
          refine cw_skip ?_
          refine hK26 _ _ ?_
          clear hK26 K26
          skip
          · skip
            refine cw_rs fun K32 hK32 => ?_
            -- region 21
            refine as_q rfl rfl (q_move rfl) ?_
            refine as_q rfl rfl (q_not rfl) ?_
            refine as_q rfl rfl (q_move rfl) ?_
            first | refine as_gskip rfl rfl rfl rfl rfl ?_ | refine as_gskipU rfl rfl rfl rfl ?_ | refine as_gh rfl rfl rfl rfl (h_q rfl (q_move rfl) ?_)
            first | refine as_gskip rfl rfl rfl rfl rfl ?_ | refine as_gskipU rfl rfl rfl rfl ?_ | refine as_gh rfl rfl rfl rfl (h_q rfl (q_not rfl) ?_)
            first | refine as_q rfl rfl (q_pick_t rfl rfl) ?_ | refine as_q rfl rfl (q_pick_f rfl rfl) ?_ | refine as_q rfl rfl (q_pick rfl rfl rfl) ?_
            refine as_q rfl rfl (q_move rfl) ?_
            first | refine as_gskip rfl rfl rfl rfl rfl ?_ | refine as_gskipU rfl rfl rfl rfl ?_ | refine as_gh rfl rfl rfl rfl (h_q rfl (q_loadc (n := 2) (by kernel_rfl) rfl (by first | exact Blk.cells ho1.1 rfl | exact Blk.cells ho2.1 rfl | exact Blk.cells ho3.1 rfl | assumption)) ?_)
            first | refine as_gskip rfl rfl rfl rfl rfl ?_ | refine as_gskipU rfl rfl rfl rfl ?_ | refine as_gh rfl rfl rfl rfl (h_q rfl (q_loadc (n := 2) (by kernel_rfl) rfl (by first | exact Blk.cells ho1.1 rfl | exact Blk.cells ho2.1 rfl | exact Blk.cells ho3.1 rfl | assumption)) ?_)
            first | refine as_gskip rfl rfl rfl rfl rfl ?_ | refine as_gskipU rfl rfl rfl rfl ?_
            first | refine as_gskip rfl rfl rfl rfl rfl ?_ | refine as_gskipU rfl rfl rfl rfl ?_ | refine as_gh rfl rfl rfl rfl (h_q rfl (q_move rfl) ?_)
            first | refine as_gskip rfl rfl rfl rfl rfl ?_ | refine as_gskipU rfl rfl rfl rfl ?_ | refine as_gh rfl rfl rfl rfl (h_q rfl (q_loadc (n := 2) (by kernel_rfl) rfl (by first | exact Blk.cells ho1.1 rfl | exact Blk.cells ho2.1 rfl | exact Blk.cells ho3.1 rfl | assumption)) ?_)
            first | refine as_gskip rfl rfl rfl rfl rfl ?_ | refine as_gskipU rfl rfl rfl rfl ?_ | refine as_gh rfl rfl rfl rfl (h_q rfl (q_loadc (n := 2) (by kernel_rfl) rfl (by first | exact Blk.cells ho1.1 rfl | exact Blk.cells ho2.1 rfl | exact Blk.cells ho3.1 rfl | assumption)) ?_)
            first | refine as_gskip rfl rfl rfl rfl rfl ?_ | refine as_gskipU rfl rfl rfl rfl ?_
            first | refine as_gskip rfl rfl rfl rfl rfl ?_ | refine as_gskipU rfl rfl rfl rfl ?_ | refine as_gh rfl rfl rfl rfl (h_q rfl (q_not rfl) ?_)
            first | refine as_gskip rfl rfl rfl rfl rfl ?_ | refine as_gskipU rfl rfl rfl rfl ?_ | refine as_gh rfl rfl rfl rfl (h_q rfl (q_pick_t rfl rfl) ?_) | refine as_gh rfl rfl rfl rfl (h_q rfl (q_pick_f rfl rfl) ?_) | refine as_gh rfl rfl rfl rfl (h_q rfl (q_pick rfl rfl rfl) ?_)
            first | refine as_q rfl rfl (q_pick_t rfl rfl) ?_ | refine as_q rfl rfl (q_pick_f rfl rfl) ?_ | refine as_q rfl rfl (q_pick rfl rfl rfl) ?_
            refine as_q rfl rfl (q_move rfl) ?_
            first | refine as_gskip rfl rfl rfl rfl rfl ?_ | refine as_gskipU rfl rfl rfl rfl ?_ | refine as_gh rfl rfl rfl rfl (h_q rfl (q_loadc (n := 2) (by kernel_rfl) rfl (by first | exact Blk.cells ho1.1 rfl | exact Blk.cells ho2.1 rfl | exact Blk.cells ho3.1 rfl | assumption)) ?_)
            first | refine as_gskip rfl rfl rfl rfl rfl ?_ | refine as_gskipU rfl rfl rfl rfl ?_ | refine as_gh rfl rfl rfl rfl (h_q rfl (q_loadc (n := 2) (by kernel_rfl) rfl (by first | exact Blk.cells ho1.1 rfl | exact Blk.cells ho2.1 rfl | exact Blk.cells ho3.1 rfl | assumption)) ?_)
            first | refine as_gskip rfl rfl rfl rfl rfl ?_ | refine as_gskipU rfl rfl rfl rfl ?_
            first | refine as_gskip rfl rfl rfl rfl rfl ?_ | refine as_gskipU rfl rfl rfl rfl ?_ | refine as_gh rfl rfl rfl rfl (h_q rfl (q_move rfl) ?_)
            first | refine as_gskip rfl rfl rfl rfl rfl ?_ | refine as_gskipU rfl rfl rfl rfl ?_ | refine as_gh rfl rfl rfl rfl (h_q rfl (q_loadc (n := 2) (by kernel_rfl) rfl (by first | exact Blk.cells ho1.1 rfl | exact Blk.cells ho2.1 rfl | exact Blk.cells ho3.1 rfl | assumption)) ?_)
            first | refine as_gskip rfl rfl rfl rfl rfl ?_ | refine as_gskipU rfl rfl rfl rfl ?_ | refine as_gh rfl rfl rfl rfl (h_q rfl (q_loadc (n := 2) (by kernel_rfl) rfl (by first | exact Blk.cells ho1.1 rfl | exact Blk.cells ho2.1 rfl | exact Blk.cells ho3.1 rfl | assumption)) ?_)
            first | refine as_gskip rfl rfl rfl rfl rfl ?_ | refine as_gskipU rfl rfl rfl rfl ?_
            first | refine as_gskip rfl rfl rfl rfl rfl ?_ | refine as_gskipU rfl rfl rfl rfl ?_ | refine as_gh rfl rfl rfl rfl (h_q rfl (q_pick_t rfl rfl) ?_) | refine as_gh rfl rfl rfl rfl (h_q rfl (q_pick_f rfl rfl) ?_) | refine as_gh rfl rfl rfl rfl (h_q rfl (q_pick rfl rfl rfl) ?_)
            first | refine as_q rfl rfl (q_pick_t rfl rfl) ?_ | refine as_q rfl rfl (q_pick_f rfl rfl) ?_ | refine as_q rfl rfl (q_pick rfl rfl rfl) ?_
            refine as_q rfl rfl (q_assign rfl) ?_
            refine as_nil (hK32 _ _ ?_)
            clear hK32 K32
            refine cw_ret ?_
            exact ⟨_, (res_tmp rfl res_nil), rfl, hT.forget⟩
        · skip
          refine cw_rs fun K33 hK33 => ?_
          -- region 19
          refine as_q rfl rfl (q_move rfl) ?_
          refine as_q rfl rfl (q_move rfl) ?_
          refine as_q rfl rfl (q_len (by kernel_rfl) rfl _) ?_
          first | refine as_q rfl rfl (q_gtT rfl rfl (by omega)) ?_ | refine as_q rfl rfl (q_gtF rfl rfl (by omega)) ?_ | refine as_q rfl rfl (q_gt rfl rfl) ?_
          refine as_q rfl rfl (q_neb (by kernel_rfl) rfl rfl) ?_
          refine as_q rfl rfl (q_move rfl) ?_
          first | refine as_gskip rfl rfl rfl rfl rfl ?_ | refine as_gskipU rfl rfl rfl rfl ?_ | refine as_gh rfl rfl rfl rfl (h_q rfl (q_move rfl) ?_)
          first | refine as_gskip rfl rfl rfl rfl rfl ?_ | refine as_gskipU rfl rfl rfl rfl ?_ | refine as_gh rfl rfl rfl rfl (h_q rfl (q_move rfl) ?_)
          first | refine as_gskip rfl rfl rfl rfl rfl ?_ | refine as_gskipU rfl rfl rfl rfl ?_ | refine as_gh rfl rfl rfl rfl (h_q rfl (q_len (by kernel_rfl) rfl _) ?_)
          first | refine as_gskip rfl rfl rfl rfl rfl ?_ | refine as_gskipU rfl rfl rfl rfl ?_ | refine as_gh rfl rfl rfl rfl (h_q rfl (q_gtT rfl rfl (by omega)) ?_) | refine as_gh rfl rfl rfl rfl (h_q rfl (q_gtF rfl rfl (by omega)) ?_) | refine as_gh rfl rfl rfl rfl (h_q rfl (q_gt rfl rfl) ?_)
          first | refine as_gskip rfl rfl rfl rfl rfl ?_ | refine as_gskipU rfl rfl rfl rfl ?_ | refine as_gh rfl rfl rfl rfl (h_q rfl (q_neb (by kernel_rfl) rfl rfl) ?_)
          first | refine as_q rfl rfl (q_pick_t rfl rfl) ?_ | refine as_q rfl rfl (q_pick_f rfl rfl) ?_ | refine as_q rfl rfl (q_pick rfl rfl rfl) ?_
          refine as_q rfl rfl (q_move rfl) ?_
          first | refine as_gskip rfl rfl rfl rfl rfl ?_ | refine as_gskipU rfl rfl rfl rfl ?_ | refine as_gh rfl rfl rfl rfl (h_q rfl (q_move rfl) ?_)
          first | refine as_gskip rfl rfl rfl rfl rfl ?_ | refine as_gskipU rfl rfl rfl rfl ?_ | refine as_gh rfl rfl rfl rfl (h_q rfl (q_move rfl) ?_)
          first | refine as_gskip rfl rfl rfl rfl rfl ?_ | refine as_gskipU rfl rfl rfl rfl ?_ | refine as_gh rfl rfl rfl rfl (h_q rfl (q_move rfl) ?_)
          first | refine as_gskip rfl rfl rfl rfl rfl ?_ | refine as_gskipU rfl rfl rfl rfl ?_ | refine as_gh rfl rfl rfl rfl (h_q rfl (q_move rfl) ?_)
          first | refine as_gskip rfl rfl rfl rfl rfl ?_ | refine as_gskipU rfl rfl rfl rfl ?_ | refine as_gh rfl rfl rfl rfl (h_q rfl (q_pick_t rfl rfl) ?_) | refine as_gh rfl rfl rfl rfl (h_q rfl (q_pick_f rfl rfl) ?_) | refine as_gh rfl rfl rfl rfl (h_q rfl (q_pick rfl rfl rfl) ?_)
          first | refine as_gskip rfl rfl rfl rfl rfl ?_ | refine as_gskipU rfl rfl rfl rfl ?_ | refine as_gh rfl rfl rfl rfl (h_q rfl (q_neb (by kernel_rfl) rfl rfl) ?_)
          first | refine as_q rfl rfl (q_pick_t rfl rfl) ?_ | refine as_q rfl rfl (q_pick_f rfl rfl) ?_ | refine as_q rfl rfl (q_pick rfl rfl rfl) ?_
          refine as_q rfl rfl (q_move rfl) ?_
          first | refine as_gskip rfl rfl rfl rfl rfl ?_ | refine as_gskipU rfl rfl rfl rfl ?_ | refine as_gh rfl rfl rfl rfl (h_q rfl (q_move rfl) ?_)
          first | refine as_gskip rfl rfl rfl rfl rfl ?_ | refine as_gskipU rfl rfl rfl rfl ?_ | refine as_gh rfl rfl rfl rfl (h_q rfl (q_not rfl) ?_)
          first | refine as_q rfl rfl (q_pick_t rfl rfl) ?_ | refine as_q rfl rfl (q_pick_f rfl rfl) ?_ | refine as_q rfl rfl (q_pick rfl rfl rfl) ?_
          refine as_nil (hK33 _ _ ?_)
          clear hK33 K33
          refine cw_false rfl ?_
          refine cw_skip ?_
          refine hK26 _ _ ?_
          clear hK26 K26
          have hmz : ((ltE y x = false) ∧ z = x) ∨ ((ltE y x = true) ∧ z ≠ x ∧ z = y) := by
            obtain ⟨hx1, hx2, _⟩ : x ∈ xs ∧ (∀ z ∈ xs, ltE z x = false) ∧ true = true := by
              rcases hx with ⟨_, _, h⟩ | h
              · cases h
              · exact h
            obtain ⟨hy1, hy2, _⟩ : y ∈ ys ∧ (∀ z ∈ ys, ltE z y = false) ∧ true = true := by
              rcases hy with ⟨_, _, h⟩ | h
              · cases h
              · exact h
            obtain ⟨hz1, hz2, _⟩ : z ∈ xs ++ ys ∧ (∀ e ∈ xs ++ ys, ltE e z = false) ∧ true = true := by
              rcases hz with ⟨_, _, h⟩ | h
              · cases h
              · exact h
            have hxz := hz2 x (by simp [hx1])
            have hyz := hz2 y (by simp [hy1])
            cases hyx : ltE y x with
            | false =>
              refine .inl ⟨rfl, ltE_tot ?_ hxz⟩
              rcases List.mem_append.1 hz1 with h | h
              · exact hx2 z h
              · exact swoE.ntrans _ _ _ (hy2 z h) hyx
            | true =>
              have e : z = y := by
                refine ltE_tot ?_ hyz
                rcases List.mem_append.1 hz1 with h | h
                · have h3 := hx2 z h
                  rw [ltE_iff] at hyx
                  rw [ltE_not] at h3 ⊢
                  omega
                · exact hy2 z h
              refine .inr ⟨rfl, fun h => ?_, e⟩
              rw [← e, h, swoE.irrefl] at hyx
              cases hyx
          rcases hmz with ⟨hyx, hzx⟩ | ⟨hyx, hzx, hzy⟩
          · skip
            refine cw_rs fun K34 hK34 => ?_
            -- region 21
            refine as_q rfl rfl (q_move rfl) ?_
            refine as_q rfl rfl (q_not rfl) ?_
            refine as_q rfl rfl (q_move rfl) ?_
            first | refine as_gskip rfl rfl rfl rfl rfl ?_ | refine as_gskipU rfl rfl rfl rfl ?_ | refine as_gh rfl rfl rfl rfl (h_q rfl (q_move rfl) ?_)
            first | refine as_gskip rfl rfl rfl rfl rfl ?_ | refine as_gskipU rfl rfl rfl rfl ?_ | refine as_gh rfl rfl rfl rfl (h_q rfl (q_not rfl) ?_)
            first | refine as_q rfl rfl (q_pick_t rfl rfl) ?_ | refine as_q rfl rfl (q_pick_f rfl rfl) ?_ | refine as_q rfl rfl (q_pick rfl rfl rfl) ?_
            refine as_q rfl rfl (q_move rfl) ?_
            first | refine as_gskip rfl rfl rfl rfl rfl ?_ | refine as_gskipU rfl rfl rfl rfl ?_ | refine as_gh rfl rfl rfl rfl (h_q rfl (q_loadc (n := 2) (by kernel_rfl) rfl (by first | exact Blk.cells ho1.1 rfl | exact Blk.cells ho2.1 rfl | exact Blk.cells ho3.1 rfl | assumption)) ?_)
            first | refine as_gskip rfl rfl rfl rfl rfl ?_ | refine as_gskipU rfl rfl rfl rfl ?_ | refine as_gh rfl rfl rfl rfl (h_q rfl (q_loadc (n := 2) (by kernel_rfl) rfl (by first | exact Blk.cells ho1.1 rfl | exact Blk.cells ho2.1 rfl | exact Blk.cells ho3.1 rfl | assumption)) ?_)
            first | refine as_gskip rfl rfl rfl rfl rfl ?_ | refine as_gskipU rfl rfl rfl rfl ?_ | refine as_gh rfl rfl rfl rfl (h_q rfl (q_congr (q_eqE (a := z) (b := x) (e := 2) (by kernel_rfl) (by kernel_rfl) (by kernel_rfl) (by kernel_rfl) (by kernel_rfl) (by kernel_rfl) rfl rfl) (v' := .bool true) (by rw [decide_eq_true hzx])) ?_)
            first | refine as_gskip rfl rfl rfl rfl rfl ?_ | refine as_gskipU rfl rfl rfl rfl ?_ | refine as_gh rfl rfl rfl rfl (h_q rfl (q_move rfl) ?_)
            first | refine as_gskip rfl rfl rfl rfl rfl ?_ | refine as_gskipU rfl rfl rfl rfl ?_ | refine as_gh rfl rfl rfl rfl (h_q rfl (q_loadc (n := 2) (by kernel_rfl) rfl (by first | exact Blk.cells ho1.1 rfl | exact Blk.cells ho2.1 rfl | exact Blk.cells ho3.1 rfl | assumption)) ?_)
            first | refine as_gskip rfl rfl rfl rfl rfl ?_ | refine as_gskipU rfl rfl rfl rfl ?_ | refine as_gh rfl rfl rfl rfl (h_q rfl (q_loadc (n := 2) (by kernel_rfl) rfl (by first | exact Blk.cells ho1.1 rfl | exact Blk.cells ho2.1 rfl | exact Blk.cells ho3.1 rfl | assumption)) ?_)
            refine as_gh rfl rfl rfl rfl (h_call (by kernel_rfl) rfl ?_)
            refine (z_less_is (a := y) (b := x) hT.sat hyx).mono ?_
            rintro _ w17 ⟨rfl, hs17⟩
            replace hg := hg.mono hs17.le
            replace hr := hr.mono hs17.le
            replace hr2 := hr2.mono hs17.le
            replace ho1 := ho1.then hs17
            replace ho2 := ho2.then hs17
            replace ho3 := ho3.then hs17
            replace hzb := hzb.then hs17
            replace hT := hT.then hs17
            have hz17 := hs17.size
            first | refine as_gskip rfl rfl rfl rfl rfl ?_ | refine as_gskipU rfl rfl rfl rfl ?_ | refine as_gh rfl rfl rfl rfl (h_q rfl (q_not rfl) ?_)
            first | refine as_gskip rfl rfl rfl rfl rfl ?_ | refine as_gskipU rfl rfl rfl rfl ?_ | refine as_gh rfl rfl rfl rfl (h_q rfl (q_pick_t rfl rfl) ?_) | refine as_gh rfl rfl rfl rfl (h_q rfl (q_pick_f rfl rfl) ?_) | refine as_gh rfl rfl rfl rfl (h_q rfl (q_pick rfl rfl rfl) ?_)
            first | refine as_q rfl rfl (q_pick_t rfl rfl) ?_ | refine as_q rfl rfl (q_pick_f rfl rfl) ?_ | refine as_q rfl rfl (q_pick rfl rfl rfl) ?_
            refine as_q rfl rfl (q_move rfl) ?_
            first | refine as_gskip rfl rfl rfl rfl rfl ?_ | refine as_gskipU rfl rfl rfl rfl ?_ | refine as_gh rfl rfl rfl rfl (h_q rfl (q_loadc (n := 2) (by kernel_rfl) rfl (by first | exact Blk.cells ho1.1 rfl | exact Blk.cells ho2.1 rfl | exact Blk.cells ho3.1 rfl | assumption)) ?_)
            first | refine as_gskip rfl rfl rfl rfl rfl ?_ | refine as_gskipU rfl rfl rfl rfl ?_ | refine as_gh rfl rfl rfl rfl (h_q rfl (q_loadc (n := 2) (by kernel_rfl) rfl (by first | exact Blk.cells ho1.1 rfl | exact Blk.cells ho2.1 rfl | exact Blk.cells ho3.1 rfl | assumption)) ?_)
            first | refine as_gskip rfl rfl rfl rfl rfl ?_ | refine as_gskipU rfl rfl rfl rfl ?_
            first | refine as_gskip rfl rfl rfl rfl rfl ?_ | refine as_gskipU rfl rfl rfl rfl ?_ | refine as_gh rfl rfl rfl rfl (h_q rfl (q_move rfl) ?_)
            first | refine as_gskip rfl rfl rfl rfl rfl ?_ | refine as_gskipU rfl rfl rfl rfl ?_ | refine as_gh rfl rfl rfl rfl (h_q rfl (q_loadc (n := 2) (by kernel_rfl) rfl (by first | exact Blk.cells ho1.1 rfl | exact Blk.cells ho2.1 rfl | exact Blk.cells ho3.1 rfl | assumption)) ?_)
            first | refine as_gskip rfl rfl rfl rfl rfl ?_ | refine as_gskipU rfl rfl rfl rfl ?_ | refine as_gh rfl rfl rfl rfl (h_q rfl (q_loadc (n := 2) (by kernel_rfl) rfl (by first | exact Blk.cells ho1.1 rfl | exact Blk.cells ho2.1 rfl | exact Blk.cells ho3.1 rfl | assumption)) ?_)
            first | refine as_gskip rfl rfl rfl rfl rfl ?_ | refine as_gskipU rfl rfl rfl rfl ?_
            first | refine as_gskip rfl rfl rfl rfl rfl ?_ | refine as_gskipU rfl rfl rfl rfl ?_ | refine as_gh rfl rfl rfl rfl (h_q rfl (q_pick_t rfl rfl) ?_) | refine as_gh rfl rfl rfl rfl (h_q rfl (q_pick_f rfl rfl) ?_) | refine as_gh rfl rfl rfl rfl (h_q rfl (q_pick rfl rfl rfl) ?_)
            first | refine as_q rfl rfl (q_pick_t rfl rfl) ?_ | refine as_q rfl rfl (q_pick_f rfl rfl) ?_ | refine as_q rfl rfl (q_pick rfl rfl rfl) ?_
            refine as_q rfl rfl (q_assign rfl) ?_
            refine as_nil (hK34 _ _ ?_)
            clear hK34 K34
            refine cw_ret ?_
            exact ⟨_, (res_tmp rfl res_nil), rfl, hT.forget⟩
          · skip
            refine cw_rs fun K35 hK35 => ?_
            -- region 21
            refine as_q rfl rfl (q_move rfl) ?_
            refine as_q rfl rfl (q_not rfl) ?_
            refine as_q rfl rfl (q_move rfl) ?_
            first | refine as_gskip rfl rfl rfl rfl rfl ?_ | refine as_gskipU rfl rfl rfl rfl ?_ | refine as_gh rfl rfl rfl rfl (h_q rfl (q_move rfl) ?_)
            first | refine as_gskip rfl rfl rfl rfl rfl ?_ | refine as_gskipU rfl rfl rfl rfl ?_ | refine as_gh rfl rfl rfl rfl (h_q rfl (q_not rfl) ?_)
            first | refine as_q rfl rfl (q_pick_t rfl rfl) ?_ | refine as_q rfl rfl (q_pick_f rfl rfl) ?_ | refine as_q rfl rfl (q_pick rfl rfl rfl) ?_
            refine as_q rfl rfl (q_move rfl) ?_
            first | refine as_gskip rfl rfl rfl rfl rfl ?_ | refine as_gskipU rfl rfl rfl rfl ?_ | refine as_gh rfl rfl rfl rfl (h_q rfl (q_loadc (n := 2) (by kernel_rfl) rfl (by first | exact Blk.cells ho1.1 rfl | exact Blk.cells ho2.1 rfl | exact Blk.cells ho3.1 rfl | assumption)) ?_)
            first | refine as_gskip rfl rfl rfl rfl rfl ?_ | refine as_gskipU rfl rfl rfl rfl ?_ | refine as_gh rfl rfl rfl rfl (h_q rfl (q_loadc (n := 2) (by kernel_rfl) rfl (by first | exact Blk.cells ho1.1 rfl | exact Blk.cells ho2.1 rfl | exact Blk.cells ho3.1 rfl | assumption)) ?_)
            first | refine as_gskip rfl rfl rfl rfl rfl ?_ | refine as_gskipU rfl rfl rfl rfl ?_ | refine as_gh rfl rfl rfl rfl (h_q rfl (q_congr (q_eqE (a := z) (b := x) (e := 2) (by kernel_rfl) (by kernel_rfl) (by kernel_rfl) (by kernel_rfl) (by kernel_rfl) (by kernel_rfl) rfl rfl) (v' := .bool false) (by rw [decide_eq_false hzx])) ?_)
            first | refine as_gskip rfl rfl rfl rfl rfl ?_ | refine as_gskipU rfl rfl rfl rfl ?_ | refine as_gh rfl rfl rfl rfl (h_q rfl (q_move rfl) ?_)
            first | refine as_gskip rfl rfl rfl rfl rfl ?_ | refine as_gskipU rfl rfl rfl rfl ?_ | refine as_gh rfl rfl rfl rfl (h_q rfl (q_loadc (n := 2) (by kernel_rfl) rfl (by first | exact Blk.cells ho1.1 rfl | exact Blk.cells ho2.1 rfl | exact Blk.cells ho3.1 rfl | assumption)) ?_)
            first | refine as_gskip rfl rfl rfl rfl rfl ?_ | refine as_gskipU rfl rfl rfl rfl ?_ | refine as_gh rfl rfl rfl rfl (h_q rfl (q_loadc (n := 2) (by kernel_rfl) rfl (by first | exact Blk.cells ho1.1 rfl | exact Blk.cells ho2.1 rfl | exact Blk.cells ho3.1 rfl | assumption)) ?_)
            first | refine as_gskip rfl rfl rfl rfl rfl ?_ | refine as_gskipU rfl rfl rfl rfl ?_
            first | refine as_gskip rfl rfl rfl rfl rfl ?_ | refine as_gskipU rfl rfl rfl rfl ?_ | refine as_gh rfl rfl rfl rfl (h_q rfl (q_not rfl) ?_)
            first | refine as_gskip rfl rfl rfl rfl rfl ?_ | refine as_gskipU rfl rfl rfl rfl ?_ | refine as_gh rfl rfl rfl rfl (h_q rfl (q_pick_t rfl rfl) ?_) | refine as_gh rfl rfl rfl rfl (h_q rfl (q_pick_f rfl rfl) ?_) | refine as_gh rfl rfl rfl rfl (h_q rfl (q_pick rfl rfl rfl) ?_)
            first | refine as_q rfl rfl (q_pick_t rfl rfl) ?_ | refine as_q rfl rfl (q_pick_f rfl rfl) ?_ | refine as_q rfl rfl (q_pick rfl rfl rfl) ?_
            refine as_q rfl rfl (q_move rfl) ?_
            first | refine as_gskip rfl rfl rfl rfl rfl ?_ | refine as_gskipU rfl rfl rfl rfl ?_ | refine as_gh rfl rfl rfl rfl (h_q rfl (q_loadc (n := 2) (by kernel_rfl) rfl (by first | exact Blk.cells ho1.1 rfl | exact Blk.cells ho2.1 rfl | exact Blk.cells ho3.1 rfl | assumption)) ?_)
            first | refine as_gskip rfl rfl rfl rfl rfl ?_ | refine as_gskipU rfl rfl rfl rfl ?_ | refine as_gh rfl rfl rfl rfl (h_q rfl (q_loadc (n := 2) (by kernel_rfl) rfl (by first | exact Blk.cells ho1.1 rfl | exact Blk.cells ho2.1 rfl | exact Blk.cells ho3.1 rfl | assumption)) ?_)
            first | refine as_gskip rfl rfl rfl rfl rfl ?_ | refine as_gskipU rfl rfl rfl rfl ?_ | refine as_gh rfl rfl rfl rfl (h_q rfl (q_congr (q_eqE (a := z) (b := y) (e := 2) (by kernel_rfl) (by kernel_rfl) (by kernel_rfl) (by kernel_rfl) (by kernel_rfl) (by kernel_rfl) rfl rfl) (v' := .bool true) (by rw [decide_eq_true hzy])) ?_)
            first | refine as_gskip rfl rfl rfl rfl rfl ?_ | refine as_gskipU rfl rfl rfl rfl ?_ | refine as_gh rfl rfl rfl rfl (h_q rfl (q_move rfl) ?_)
            first | refine as_gskip rfl rfl rfl rfl rfl ?_ | refine as_gskipU rfl rfl rfl rfl ?_ | refine as_gh rfl rfl rfl rfl (h_q rfl (q_loadc (n := 2) (by kernel_rfl) rfl (by first | exact Blk.cells ho1.1 rfl | exact Blk.cells ho2.1 rfl | exact Blk.cells ho3.1 rfl | assumption)) ?_)
            first | refine as_gskip rfl rfl rfl rfl rfl ?_ | refine as_gskipU rfl rfl rfl rfl ?_ | refine as_gh rfl rfl rfl rfl (h_q rfl (q_loadc (n := 2) (by kernel_rfl) rfl (by first | exact Blk.cells ho1.1 rfl | exact Blk.cells ho2.1 rfl | exact Blk.cells ho3.1 rfl | assumption)) ?_)
            refine as_gh rfl rfl rfl rfl (h_call (by kernel_rfl) rfl ?_)
            refine (z_less_is (a := y) (b := x) hT.sat hyx).mono ?_
            rintro _ w18 ⟨rfl, hs18⟩
            replace hg := hg.mono hs18.le
            replace hr := hr.mono hs18.le
            replace hr2 := hr2.mono hs18.le
            replace ho1 := ho1.then hs18
            replace ho2 := ho2.then hs18
            replace ho3 := ho3.then hs18
            replace hzb := hzb.then hs18
            replace hT := hT.then hs18
            have hz18 := hs18.size
            first | refine as_gskip rfl rfl rfl rfl rfl ?_ | refine as_gskipU rfl rfl rfl rfl ?_ | refine as_gh rfl rfl rfl rfl (h_q rfl (q_pick_t rfl rfl) ?_) | refine as_gh rfl rfl rfl rfl (h_q rfl (q_pick_f rfl rfl) ?_) | refine as_gh rfl rfl rfl rfl (h_q rfl (q_pick rfl rfl rfl) ?_)
            first | refine as_q rfl rfl (q_pick_t rfl rfl) ?_ | refine as_q rfl rfl (q_pick_f rfl rfl) ?_ | refine as_q rfl rfl (q_pick rfl rfl rfl) ?_
            refine as_q rfl rfl (q_assign rfl) ?_
            refine as_nil (hK35 _ _ ?_)
            clear hK35 K35
            refine cw_ret ?_
            exact ⟨_, (res_tmp rfl res_nil), rfl, hT.forget⟩

end Go.Proofs.YtbfjkclijjhlhaaDoor
