/- The laws of a row that is put in order when it is asked for, second part, part 1. -/
import Derived.Test.YtcnocefclcoiiaaL04A
namespace Go.Proofs.Ytcnocefclcoiiaa
open Go Go.Eng
theorem lateFronts_walk {w : World} {M : Mem} {u : Value} {n : Nat} {xs : List El} {a b : Int} (hs : Sat M w) (hr : RdM M 2 u n (els xs)) :
    Does Try.prog 10 #[u, .int .i64 a, .int .i64 b] w (fun v w' => v = .bool true ∧ Step Nope M w M w') := by
  have hT := Step.refl Nope hs
  obtain ⟨la, lc, rfl, hlc, _⟩ := hr.slice
  refine fn_enter Try.func10 rfl (rs := [.tmp 6]) rfl rfl rfl rfl ?_
  refine cw_rs fun K1 hK1 => ?_
  -- region 0
  refine as_q rfl rfl (q_assign rfl) ?_
  refine as_nil (hK1 _ _ ?_)
  clear hK1 K1
  refine cw_rs fun K2 hK2 => ?_
  -- region 1
  refine as_h rfl (h_call (by kernel_rfl) rfl ?_)
  refine (awake04 hs).mono ?_
  rintro _ w1 ⟨rfl, hs1⟩
  replace hr := hr.mono hs1.le
  replace hT := hT.then hs1
  have hz1 := hs1.size
  refine as_q rfl rfl (q_assign rfl) ?_
  refine as_nil (hK2 _ _ ?_)
  clear hK2 K2
  refine cw_seq fun K3 hK3 => ?_
  refine cw_rs fun K4 hK4 => ?_
  -- region 2
  refine as_q rfl rfl (q_move rfl) ?_
  refine as_q rfl rfl (q_not rfl) ?_
  refine as_nil (hK4 _ _ ?_)
  clear hK4 K4
  refine cw_false rfl ?_
  refine cw_skip ?_
  refine hK3 _ _ ?_
  clear hK3 K3
  refine cw_seq fun K5 hK5 => ?_
  refine cw_rs fun K6 hK6 => ?_
  -- region 4
  refine as_q rfl rfl (q_move rfl) ?_
  refine as_q rfl rfl (q_len (by kernel_rfl) rfl _) ?_
  refine as_q rfl rfl (q_gt rfl rfl) ?_
  refine as_nil (hK6 _ _ ?_)
  clear hK6 K6
  refine cw_cond rfl (fun hc1 => ?_) (fun hc1 => ?_)
  · skip
    skip
    refine cw_rs fun K7 hK7 => ?_
    -- region 5
    refine as_q rfl rfl (q_assign rfl) ?_
    refine as_nil (hK7 _ _ ?_)
    clear hK7 K7
    refine cw_ret ?_
    exact ⟨_, (res_tmp rfl res_nil), rfl, hT.forget⟩
  · skip
    have h60 : n ≤ 60 := by have := of_decide_eq_false hc1; omega
    refine cw_skip ?_
    refine hK5 _ _ ?_
    clear hK5 K5
    refine cw_rs fun K8 hK8 => ?_
    -- region 6
    refine as_q rfl rfl (q_move rfl) ?_
    refine as_h rfl (h_call (by kernel_rfl) rfl ?_)
    have hTs := hT.size
    refine (late_of  hs1.sat (hr.rds _) (by omega)).mono ?_
    rintro _ w2 ⟨q, sv, rfl, hs2, hl, hq, hf⟩
    replace hr := hr.mono hs2.le
    replace hT := hT.then hs2
    have hz2 := hs2.size
    have hql := hl.1.1.lt
    have hqw : w.heap.size ≤ q := Nat.le_trans hTs hq
    have hn255 : n ≤ 255 := by omega
    refine as_q rfl rfl (q_assign rfl) ?_
    refine as_nil (hK8 _ _ ?_)
    clear hK8 K8
    refine cw_rs fun K9 hK9 => ?_
    -- region 7
    refine as_q rfl rfl (q_move rfl) ?_
    refine as_q rfl rfl (q_move rfl) ?_
    refine as_q rfl rfl (q_move rfl) ?_
    refine as_q rfl rfl (q_congr (q_min2 rfl rfl) (v' := .int .i64 (min a b)) (congrArg (Value.int .i64) (by repeat' split <;> omega))) ?_
    refine as_h rfl (h_call (by kernel_rfl) rfl ?_)
    refine (late_front (k := (min a b)) hs2.sat hn255 hl).mono ?_
    rintro pv w3 ⟨sv3, hs3, hl3, hp, hfp, hdp, hso3⟩
    replace hT := hT.own hs3 hqw
    have hqp : ∀ g, pv.ownBlock = some g → q ≠ g := fun g hg => by have := hfp g hg; omega
    clear hl; have hl := hl3; clear hl3
    obtain ⟨pa, pc, rfl, hpc, _⟩ := hp.slice
    have hql3 := hl.1.1.lt
    have hz3 := hs3.size
    refine as_q rfl rfl (q_assign rfl) ?_
    refine as_nil (hK9 _ _ ?_)
    clear hK9 K9
    refine cw_rs fun K10 hK10 => ?_
    -- region 8
    refine as_q rfl rfl (q_move rfl) ?_
    refine as_q rfl rfl (q_move rfl) ?_
    refine as_q rfl rfl (q_move rfl) ?_
    refine as_q rfl rfl (q_congr (q_max2 rfl rfl) (v' := .int .i64 (max a b)) (congrArg (Value.int .i64) (by repeat' split <;> omega))) ?_
    refine as_h rfl (h_call (by kernel_rfl) rfl ?_)
    refine (late_front (k := (max a b)) hs3.sat hn255 hl).mono ?_
    rintro rrv w4 ⟨sv4, hs4, hl4, hrr, hfrr, hdrr, hso4⟩
    replace hT := hT.own hs4 hqw
    have hqrr : ∀ g, rrv.ownBlock = some g → q ≠ g := fun g hg => by have := hfrr g hg; omega
    replace hp := hp.step hs4 (fun g hg h => hqp g hg (Eq.symm h))
    clear hl; have hl := hl4; clear hl4
    obtain ⟨rra, rrc, rfl, hrrc, _⟩ := hrr.slice
    have hql4 := hl.1.1.lt
    have hz4 := hs4.size
    refine as_q rfl rfl (q_assign rfl) ?_
    refine as_nil (hK10 _ _ ?_)
    clear hK10 K10
    refine cw_rs fun K11 hK11 => ?_
    -- region 9
    refine as_q rfl rfl (q_move rfl) ?_
    refine as_h rfl (h_call (by kernel_rfl) rfl ?_)
    refine (late_all hs4.sat hn255 hl).mono ?_
    rintro s_v w5 ⟨sv5, hs5, hl5, hs_, hfs_, hds_, hso5⟩
    replace hT := hT.own hs5 hqw
    have hqs_ : ∀ g, s_v.ownBlock = some g → q ≠ g := fun g hg => by have := hfs_ g hg; omega
    replace hp := hp.step hs5 (fun g hg h => hqp g hg (Eq.symm h))
    replace hrr := hrr.step hs5 (fun g hg h => hqrr g hg (Eq.symm h))
    clear hl; have hl := hl5; clear hl5
    obtain ⟨s_a, s_c, rfl, hs_c, _⟩ := hs_.slice
    have hz5 := hs5.size
    refine as_q rfl rfl (q_assign rfl) ?_
    refine as_nil (hK11 _ _ ?_)
    clear hK11 K11
    refine cw_seq fun K12 hK12 => ?_
    refine cw_rs fun K13 hK13 => ?_
    -- region 10
    refine as_q rfl rfl (q_move rfl) ?_
    refine as_q rfl rfl (q_len (by kernel_rfl) rfl _) ?_
    refine as_q rfl rfl (q_move rfl) ?_
    refine as_q rfl rfl (q_len (by kernel_rfl) rfl _) ?_
    first | refine as_q rfl rfl (q_gtT rfl rfl (by omega)) ?_ | refine as_q rfl rfl (q_gtF rfl rfl (by omega)) ?_ | refine as_q rfl rfl (q_gt rfl rfl) ?_
    refine as_q rfl rfl (q_move rfl) ?_
    first | refine as_gskip rfl rfl rfl rfl rfl ?_ | refine as_gskipU rfl rfl rfl rfl ?_ | refine as_gh rfl rfl rfl rfl (h_q rfl (q_move rfl) ?_)
    first | refine as_gskip rfl rfl rfl rfl rfl ?_ | refine as_gskipU rfl rfl rfl rfl ?_ | refine as_gh rfl rfl rfl rfl (h_q rfl (q_len (by kernel_rfl) rfl _) ?_)
    first | refine as_gskip rfl rfl rfl rfl rfl ?_ | refine as_gskipU rfl rfl rfl rfl ?_ | refine as_gh rfl rfl rfl rfl (h_q rfl (q_move rfl) ?_)
    first | refine as_gskip rfl rfl rfl rfl rfl ?_ | refine as_gskipU rfl rfl rfl rfl ?_ | refine as_gh rfl rfl rfl rfl (h_q rfl (q_len (by kernel_rfl) rfl _) ?_)
    first | refine as_gskip rfl rfl rfl rfl rfl ?_ | refine as_gskipU rfl rfl rfl rfl ?_ | refine as_gh rfl rfl rfl rfl (h_q rfl (q_gtT rfl rfl (by omega)) ?_) | refine as_gh rfl rfl rfl rfl (h_q rfl (q_gtF rfl rfl (by omega)) ?_) | refine as_gh rfl rfl rfl rfl (h_q rfl (q_gt rfl rfl) ?_)
    first | refine as_q rfl rfl (q_pick_t rfl rfl) ?_ | refine as_q rfl rfl (q_pick_f rfl rfl) ?_ | refine as_q rfl rfl (q_pick rfl rfl rfl) ?_
    refine as_q rfl rfl (q_move rfl) ?_
    first | refine as_gskip rfl rfl rfl rfl rfl ?_ | refine as_gskipU rfl rfl rfl rfl ?_ | refine as_gh rfl rfl rfl rfl (h_q rfl (q_move rfl) ?_)
    first | refine as_gskip rfl rfl rfl rfl rfl ?_ | refine as_gskipU rfl rfl rfl rfl ?_ | refine as_gh rfl rfl rfl rfl (h_q rfl (q_len (by kernel_rfl) rfl _) ?_)
    first | refine as_gskip rfl rfl rfl rfl rfl ?_ | refine as_gskipU rfl rfl rfl rfl ?_ | refine as_gh rfl rfl rfl rfl (h_q rfl (q_move rfl) ?_)
    first | refine as_gskip rfl rfl rfl rfl rfl ?_ | refine as_gskipU rfl rfl rfl rfl ?_ | refine as_gh rfl rfl rfl rfl (h_q rfl (q_len (by kernel_rfl) rfl _) ?_)
    first | refine as_gskip rfl rfl rfl rfl rfl ?_ | refine as_gskipU rfl rfl rfl rfl ?_ | refine as_gh rfl rfl rfl rfl (h_q rfl (q_neT rfl rfl (by omega)) ?_) | refine as_gh rfl rfl rfl rfl (h_q rfl (q_neF rfl rfl (by omega)) ?_) | refine as_gh rfl rfl rfl rfl (h_q rfl (q_ne rfl rfl) ?_)
    first | refine as_q rfl rfl (q_pick_t rfl rfl) ?_ | refine as_q rfl rfl (q_pick_f rfl rfl) ?_ | refine as_q rfl rfl (q_pick rfl rfl rfl) ?_
    refine as_q rfl rfl (q_move rfl) ?_
    first | refine as_gskip rfl rfl rfl rfl rfl ?_ | refine as_gskipU rfl rfl rfl rfl ?_ | refine as_gh rfl rfl rfl rfl (h_q rfl (q_move rfl) ?_)
    first | refine as_gskip rfl rfl rfl rfl rfl ?_ | refine as_gskipU rfl rfl rfl rfl ?_ | refine as_gh rfl rfl rfl rfl (h_q rfl (q_len (by kernel_rfl) rfl _) ?_)
    first | refine as_gskip rfl rfl rfl rfl rfl ?_ | refine as_gskipU rfl rfl rfl rfl ?_ | refine as_gh rfl rfl rfl rfl (h_q rfl (q_move rfl) ?_)
    first | refine as_gskip rfl rfl rfl rfl rfl ?_ | refine as_gskipU rfl rfl rfl rfl ?_ | refine as_gh rfl rfl rfl rfl (h_q rfl (q_move rfl) ?_)
    first | refine as_gskip rfl rfl rfl rfl rfl ?_ | refine as_gskipU rfl rfl rfl rfl ?_ | refine as_gh rfl rfl rfl rfl (h_q rfl (q_min2 rfl rfl) ?_)
    first | refine as_gskip rfl rfl rfl rfl rfl ?_ | refine as_gskipU rfl rfl rfl rfl ?_ | refine as_gh rfl rfl rfl rfl (h_q rfl (q_max2 rfl rfl) ?_)
    first | refine as_gskip rfl rfl rfl rfl rfl ?_ | refine as_gskipU rfl rfl rfl rfl ?_ | refine as_gh rfl rfl rfl rfl (h_q rfl (q_move rfl) ?_)
    first | refine as_gskip rfl rfl rfl rfl rfl ?_ | refine as_gskipU rfl rfl rfl rfl ?_ | refine as_gh rfl rfl rfl rfl (h_q rfl (q_len (by kernel_rfl) rfl _) ?_)
    first | refine as_gskip rfl rfl rfl rfl rfl ?_ | refine as_gskipU rfl rfl rfl rfl ?_ | refine as_gh rfl rfl rfl rfl (h_q rfl (q_min2 rfl rfl) ?_)
    first | refine as_gskip rfl rfl rfl rfl rfl ?_ | refine as_gskipU rfl rfl rfl rfl ?_ | refine as_gh rfl rfl rfl rfl (h_q rfl (q_neT rfl rfl (by omega)) ?_) | refine as_gh rfl rfl rfl rfl (h_q rfl (q_neF rfl rfl (by omega)) ?_) | refine as_gh rfl rfl rfl rfl (h_q rfl (q_ne rfl rfl) ?_)
    first | refine as_q rfl rfl (q_pick_t rfl rfl) ?_ | refine as_q rfl rfl (q_pick_f rfl rfl) ?_ | refine as_q rfl rfl (q_pick rfl rfl rfl) ?_
    refine as_nil (hK13 _ _ ?_)
    clear hK13 K13
    refine cw_false rfl ?_
    refine cw_skip ?_
    refine hK12 _ _ ?_
    clear hK12 K12
    refine cw_rs fun K14 hK14 => ?_
    -- region 12
    refine as_q rfl rfl (q_move rfl) ?_
    refine as_q rfl rfl (q_move rfl) ?_
    refine as_q rfl rfl (q_len (by kernel_rfl) rfl _) ?_
    refine as_q rfl rfl (q_slice (e := 76) (size := 2) (k := .i64) (by kernel_rfl) (by kernel_rfl) rfl rfl rfl (by omega) (by omega) (by omega)) ?_
    refine as_q rfl rfl (q_move rfl) ?_
    refine as_h rfl (h_call (by kernel_rfl) rfl ?_)
    refine (same_yes hs5.sat (by omega) (hrr.rds.front (((min (max (min a b) 0) (n : Int)).toNat : Nat) : Int) (by omega) (by omega)) (hp.rds) (by rw [List.take_take, Nat.min_eq_left (by omega)]; rfl)).mono ?_
    rintro _ w6 ⟨rfl, hs6⟩
    replace hr := hr.mono hs6.le
    replace hl := hl.then hs6
    replace hp := hp.then hs6
    replace hrr := hrr.then hs6
    replace hs_ := hs_.then hs6
    replace hT := hT.then hs6
    have hz6 := hs6.size
    refine as_q rfl rfl (q_move rfl) ?_
    first | refine as_gskip rfl rfl rfl rfl rfl ?_ | refine as_gskipU rfl rfl rfl rfl ?_ | refine as_gh rfl rfl rfl rfl (h_q rfl (q_move rfl) ?_)
    first | refine as_gskip rfl rfl rfl rfl rfl ?_ | refine as_gskipU rfl rfl rfl rfl ?_ | refine as_gh rfl rfl rfl rfl (h_q rfl (q_move rfl) ?_)
    first | refine as_gskip rfl rfl rfl rfl rfl ?_ | refine as_gskipU rfl rfl rfl rfl ?_ | refine as_gh rfl rfl rfl rfl (h_q rfl (q_len (by kernel_rfl) rfl _) ?_)
    first | refine as_gskip rfl rfl rfl rfl rfl ?_ | refine as_gskipU rfl rfl rfl rfl ?_ | refine as_gh rfl rfl rfl rfl (h_q rfl (q_slice (e := 76) (size := 2) (k := .i64) (by kernel_rfl) (by kernel_rfl) rfl rfl rfl (by omega) (by omega) (by omega)) ?_)
    first | refine as_gskip rfl rfl rfl rfl rfl ?_ | refine as_gskipU rfl rfl rfl rfl ?_ | refine as_gh rfl rfl rfl rfl (h_q rfl (q_move rfl) ?_)
    refine as_gh rfl rfl rfl rfl (h_call (by kernel_rfl) rfl ?_)
    refine (same_yes hs6.sat (by omega) (hs_.rds.front (((min (max (max a b) 0) (n : Int)).toNat : Nat) : Int) (by omega) (by omega)) (hrr.rds) (rfl)).mono ?_
    rintro _ w7 ⟨rfl, hs7⟩
    replace hr := hr.mono hs7.le
    replace hl := hl.then hs7
    replace hp := hp.then hs7
    replace hrr := hrr.then hs7
    replace hs_ := hs_.then hs7
    replace hT := hT.then hs7
    have hz7 := hs7.size
    first | refine as_q rfl rfl (q_pick_t rfl rfl) ?_ | refine as_q rfl rfl (q_pick_f rfl rfl) ?_ | refine as_q rfl rfl (q_pick rfl rfl rfl) ?_
    refine as_q rfl rfl (q_assign rfl) ?_
    refine as_nil (hK14 _ _ ?_)
    clear hK14 K14
    refine cw_ret ?_
    exact ⟨_, (res_tmp rfl res_nil), rfl, hT.forget⟩

end Go.Proofs.Ytcnocefclcoiiaa
