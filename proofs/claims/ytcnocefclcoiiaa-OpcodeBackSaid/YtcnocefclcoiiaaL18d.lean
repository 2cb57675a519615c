/- Scripts there and back: the walk of the law. -/
import Derived.Test.YtcnocefclcoiiaaL18
import Derived.Test.YtcnocefclcoiiaaScrB
namespace Go.Proofs.Ytcnocefclcoiiaa
open Go Go.Eng

theorem PR.ne {M : Mem} {v : Value} {zs : List Int} {e : Int} (h : PR M v zs) (hp : parse zs = .error e) : e ≠ 0 := by
  obtain ⟨_, _, _, e', _, _, _, ⟨rfl, h3⟩ | ⟨h4, h3, _⟩⟩ := h
  · rw [hp] at h3; cases h3
  · rw [hp] at h3; cases h3; exact h4

set_option maxHeartbeats 4000000 in
theorem backA {w0 : World} {M0 : Mem} {v : Value} {n oc : Nat} {zs : List Int} {room cut : Int} {oa : Option Addr} {ts : List T3} (hs : Sat M0 w0) (hv : RdM M0 1 v n (i64s zs)) (hr : RdM M0 2 (.slice oa ts.length oc) ts.length (flat ts)) (ha : ArgsM M0 ts) (h1 : 1600 < n) :
    Does Try.prog 6 #[v, .agg #[.int .i64 room, .slice oa ts.length oc], .int .u8 cut] w0 (fun v w' => v = .bool true ∧ Step Nope M0 w0 M0 w') := by
  have hT := Step.refl Nope hs
  obtain ⟨a, vc, rfl, hvc, _⟩ := hv.slice
  have hl : zs.length = n := by have := hv.1; rw [i64s_length] at this; omega
  refine fn_enter Try.func6 rfl (rs := [.tmp 6]) rfl rfl rfl rfl ?_
  refine cw_rs fun K1 hK1 => ?_
  -- region 0
  refine as_h rfl (h_boxM hs rfl rfl fun b1 M1 w1 hs1 hb1 e1 => ?_)
  replace hv := hv.mono hs1.le
  replace hr := hr.mono hs1.le
  replace ha := ha.mono hs1.le
  replace hT := hT.then hs1
  have hz1 := hs1.size
  refine as_q rfl rfl (q_assign rfl) ?_
  refine as_nil (hK1 _ _ ?_)
  clear hK1 K1
  refine cw_rs fun K2 hK2 => ?_
  -- region 1
  refine as_h rfl (h_call (by kernel_rfl) rfl ?_)
  refine (awake18 hs1.sat).mono ?_
  rintro _ w2 ⟨rfl, hs2⟩
  replace hv := hv.mono hs2.le
  replace hr := hr.mono hs2.le
  replace ha := ha.mono hs2.le
  replace hb1 := hs2.le _ _ hb1
  replace hT := hT.then hs2
  have hz2 := hs2.size
  refine as_q rfl rfl (q_assign rfl) ?_
  refine as_nil (hK2 _ _ ?_)
  clear hK2 K2
  refine cw_seq fun K3 hK3 => ?_
  refine cw_rs fun K4 hK4 => ?_
  -- region 2
  refine as_q rfl rfl (q_move rfl) ?_
  refine as_q rfl rfl (q_not rfl) ?_
  refine as_nil (hK4 _ _ ?_)
  clear hK4 K4
  refine cw_false rfl ?_
  refine cw_skip ?_
  refine hK3 _ _ ?_
  clear hK3 K3
  refine cw_seq fun K5 hK5 => ?_
  refine cw_rs fun K6 hK6 => ?_
  -- region 4
  refine as_q rfl rfl (q_move rfl) ?_
  refine as_q rfl rfl (q_len (by kernel_rfl) rfl _) ?_
  first | refine as_q rfl rfl (q_gtT rfl rfl (by omega)) ?_ | refine as_q rfl rfl (q_gtF rfl rfl (by omega)) ?_ | refine as_q rfl rfl (q_gt rfl rfl) ?_
  refine as_q rfl rfl (q_move rfl) ?_
  first | refine as_gskip rfl rfl rfl rfl rfl ?_ | refine as_gskipU rfl rfl rfl rfl ?_ | refine as_gh rfl rfl rfl rfl (h_q rfl (q_fieldAddr (off := 1) (by kernel_rfl) rfl) ?_)
  first | refine as_gskip rfl rfl rfl rfl rfl ?_ | refine as_gskipU rfl rfl rfl rfl ?_ | refine as_gh rfl rfl rfl rfl (h_q rfl (q_load1 (by kernel_rfl) rfl (by first | exact BlkR.cell (hs2.sat _ _ _ hb1) rfl | assumption)) ?_)
  first | refine as_gskip rfl rfl rfl rfl rfl ?_ | refine as_gskipU rfl rfl rfl rfl ?_ | refine as_gh rfl rfl rfl rfl (h_q rfl (q_len (by kernel_rfl) rfl _) ?_)
  first | refine as_gskip rfl rfl rfl rfl rfl ?_ | refine as_gskipU rfl rfl rfl rfl ?_ | refine as_gh rfl rfl rfl rfl (h_q rfl (q_gtT rfl rfl (by omega)) ?_) | refine as_gh rfl rfl rfl rfl (h_q rfl (q_gtF rfl rfl (by omega)) ?_) | refine as_gh rfl rfl rfl rfl (h_q rfl (q_gt rfl rfl) ?_)
  first | refine as_q rfl rfl (q_pick_t rfl rfl) ?_ | refine as_q rfl rfl (q_pick_f rfl rfl) ?_ | refine as_q rfl rfl (q_pick rfl rfl rfl) ?_
  refine as_q rfl rfl (q_move rfl) ?_
  first | refine as_gskip rfl rfl rfl rfl rfl ?_ | refine as_gskipU rfl rfl rfl rfl ?_ | refine as_gh rfl rfl rfl rfl (h_q rfl (q_fieldAddr (off := 0) (by kernel_rfl) rfl) ?_)
  first | refine as_gskip rfl rfl rfl rfl rfl ?_ | refine as_gskipU rfl rfl rfl rfl ?_ | refine as_gh rfl rfl rfl rfl (h_q rfl (q_load1 (by kernel_rfl) rfl (by first | exact BlkR.cell (hs2.sat _ _ _ hb1) rfl | assumption)) ?_)
  first | refine as_gskip rfl rfl rfl rfl rfl ?_ | refine as_gskipU rfl rfl rfl rfl ?_ | refine as_gh rfl rfl rfl rfl (h_q rfl (q_ltT rfl rfl (by omega)) ?_) | refine as_gh rfl rfl rfl rfl (h_q rfl (q_ltF rfl rfl (by omega)) ?_) | refine as_gh rfl rfl rfl rfl (h_q rfl (q_lt rfl rfl) ?_)
  first | refine as_q rfl rfl (q_pick_t rfl rfl) ?_ | refine as_q rfl rfl (q_pick_f rfl rfl) ?_ | refine as_q rfl rfl (q_pick rfl rfl rfl) ?_
  refine as_q rfl rfl (q_move rfl) ?_
  first | refine as_gskip rfl rfl rfl rfl rfl ?_ | refine as_gskipU rfl rfl rfl rfl ?_ | refine as_gh rfl rfl rfl rfl (h_q rfl (q_fieldAddr (off := 0) (by kernel_rfl) rfl) ?_)
  first | refine as_gskip rfl rfl rfl rfl rfl ?_ | refine as_gskipU rfl rfl rfl rfl ?_ | refine as_gh rfl rfl rfl rfl (h_q rfl (q_load1 (by kernel_rfl) rfl (by first | exact BlkR.cell (hs2.sat _ _ _ hb1) rfl | assumption)) ?_)
  first | refine as_gskip rfl rfl rfl rfl rfl ?_ | refine as_gskipU rfl rfl rfl rfl ?_ | refine as_gh rfl rfl rfl rfl (h_q rfl (q_gtT rfl rfl (by omega)) ?_) | refine as_gh rfl rfl rfl rfl (h_q rfl (q_gtF rfl rfl (by omega)) ?_) | refine as_gh rfl rfl rfl rfl (h_q rfl (q_gt rfl rfl) ?_)
  first | refine as_q rfl rfl (q_pick_t rfl rfl) ?_ | refine as_q rfl rfl (q_pick_f rfl rfl) ?_ | refine as_q rfl rfl (q_pick rfl rfl rfl) ?_
  refine as_nil (hK6 _ _ ?_)
  clear hK6 K6
  refine cw_true rfl ?_
  refine cw_rs fun K7 hK7 => ?_
  -- region 5
  refine as_q rfl rfl (q_assign rfl) ?_
  refine as_nil (hK7 _ _ ?_)
  clear hK7 K7
  refine cw_ret ?_
  exact ⟨_, (res_tmp rfl res_nil), rfl, hT.forget⟩

set_option maxHeartbeats 4000000 in
theorem backB {w0 : World} {M0 : Mem} {v : Value} {n oc : Nat} {zs : List Int} {room cut : Int} {oa : Option Addr} {ts : List T3} (hs : Sat M0 w0) (hv : RdM M0 1 v n (i64s zs)) (hr : RdM M0 2 (.slice oa ts.length oc) ts.length (flat ts)) (ha : ArgsM M0 ts) (h1 : n ≤ 1600) (h2 : 256 < ts.length) :
    Does Try.prog 6 #[v, .agg #[.int .i64 room, .slice oa ts.length oc], .int .u8 cut] w0 (fun v w' => v = .bool true ∧ Step Nope M0 w0 M0 w') := by
  have hT := Step.refl Nope hs
  obtain ⟨a, vc, rfl, hvc, _⟩ := hv.slice
  have hl : zs.length = n := by have := hv.1; rw [i64s_length] at this; omega
  refine fn_enter Try.func6 rfl (rs := [.tmp 6]) rfl rfl rfl rfl ?_
  refine cw_rs fun K1 hK1 => ?_
  -- region 0
  refine as_h rfl (h_boxM hs rfl rfl fun b1 M1 w1 hs1 hb1 e1 => ?_)
  replace hv := hv.mono hs1.le
  replace hr := hr.mono hs1.le
  replace ha := ha.mono hs1.le
  replace hT := hT.then hs1
  have hz1 := hs1.size
  refine as_q rfl rfl (q_assign rfl) ?_
  refine as_nil (hK1 _ _ ?_)
  clear hK1 K1
  refine cw_rs fun K2 hK2 => ?_
  -- region 1
  refine as_h rfl (h_call (by kernel_rfl) rfl ?_)
  refine (awake18 hs1.sat).mono ?_
  rintro _ w2 ⟨rfl, hs2⟩
  replace hv := hv.mono hs2.le
  replace hr := hr.mono hs2.le
  replace ha := ha.mono hs2.le
  replace hb1 := hs2.le _ _ hb1
  replace hT := hT.then hs2
  have hz2 := hs2.size
  refine as_q rfl rfl (q_assign rfl) ?_
  refine as_nil (hK2 _ _ ?_)
  clear hK2 K2
  refine cw_seq fun K3 hK3 => ?_
  refine cw_rs fun K4 hK4 => ?_
  -- region 2
  refine as_q rfl rfl (q_move rfl) ?_
  refine as_q rfl rfl (q_not rfl) ?_
  refine as_nil (hK4 _ _ ?_)
  clear hK4 K4
  refine cw_false rfl ?_
  refine cw_skip ?_
  refine hK3 _ _ ?_
  clear hK3 K3
  refine cw_seq fun K5 hK5 => ?_
  refine cw_rs fun K6 hK6 => ?_
  -- region 4
  refine as_q rfl rfl (q_move rfl) ?_
  refine as_q rfl rfl (q_len (by kernel_rfl) rfl _) ?_
  first | refine as_q rfl rfl (q_gtT rfl rfl (by omega)) ?_ | refine as_q rfl rfl (q_gtF rfl rfl (by omega)) ?_ | refine as_q rfl rfl (q_gt rfl rfl) ?_
  refine as_q rfl rfl (q_move rfl) ?_
  first | refine as_gskip rfl rfl rfl rfl rfl ?_ | refine as_gskipU rfl rfl rfl rfl ?_ | refine as_gh rfl rfl rfl rfl (h_q rfl (q_fieldAddr (off := 1) (by kernel_rfl) rfl) ?_)
  first | refine as_gskip rfl rfl rfl rfl rfl ?_ | refine as_gskipU rfl rfl rfl rfl ?_ | refine as_gh rfl rfl rfl rfl (h_q rfl (q_load1 (by kernel_rfl) rfl (by first | exact BlkR.cell (hs2.sat _ _ _ hb1) rfl | assumption)) ?_)
  first | refine as_gskip rfl rfl rfl rfl rfl ?_ | refine as_gskipU rfl rfl rfl rfl ?_ | refine as_gh rfl rfl rfl rfl (h_q rfl (q_len (by kernel_rfl) rfl _) ?_)
  first | refine as_gskip rfl rfl rfl rfl rfl ?_ | refine as_gskipU rfl rfl rfl rfl ?_ | refine as_gh rfl rfl rfl rfl (h_q rfl (q_gtT rfl rfl (by omega)) ?_) | refine as_gh rfl rfl rfl rfl (h_q rfl (q_gtF rfl rfl (by omega)) ?_) | refine as_gh rfl rfl rfl rfl (h_q rfl (q_gt rfl rfl) ?_)
  first | refine as_q rfl rfl (q_pick_t rfl rfl) ?_ | refine as_q rfl rfl (q_pick_f rfl rfl) ?_ | refine as_q rfl rfl (q_pick rfl rfl rfl) ?_
  refine as_q rfl rfl (q_move rfl) ?_
  first | refine as_gskip rfl rfl rfl rfl rfl ?_ | refine as_gskipU rfl rfl rfl rfl ?_ | refine as_gh rfl rfl rfl rfl (h_q rfl (q_fieldAddr (off := 0) (by kernel_rfl) rfl) ?_)
  first | refine as_gskip rfl rfl rfl rfl rfl ?_ | refine as_gskipU rfl rfl rfl rfl ?_ | refine as_gh rfl rfl rfl rfl (h_q rfl (q_load1 (by kernel_rfl) rfl (by first | exact BlkR.cell (hs2.sat _ _ _ hb1) rfl | assumption)) ?_)
  first | refine as_gskip rfl rfl rfl rfl rfl ?_ | refine as_gskipU rfl rfl rfl rfl ?_ | refine as_gh rfl rfl rfl rfl (h_q rfl (q_ltT rfl rfl (by omega)) ?_) | refine as_gh rfl rfl rfl rfl (h_q rfl (q_ltF rfl rfl (by omega)) ?_) | refine as_gh rfl rfl rfl rfl (h_q rfl (q_lt rfl rfl) ?_)
  first | refine as_q rfl rfl (q_pick_t rfl rfl) ?_ | refine as_q rfl rfl (q_pick_f rfl rfl) ?_ | refine as_q rfl rfl (q_pick rfl rfl rfl) ?_
  refine as_q rfl rfl (q_move rfl) ?_
  first | refine as_gskip rfl rfl rfl rfl rfl ?_ | refine as_gskipU rfl rfl rfl rfl ?_ | refine as_gh rfl rfl rfl rfl (h_q rfl (q_fieldAddr (off := 0) (by kernel_rfl) rfl) ?_)
  first | refine as_gskip rfl rfl rfl rfl rfl ?_ | refine as_gskipU rfl rfl rfl rfl ?_ | refine as_gh rfl rfl rfl rfl (h_q rfl (q_load1 (by kernel_rfl) rfl (by first | exact BlkR.cell (hs2.sat _ _ _ hb1) rfl | assumption)) ?_)
  first | refine as_gskip rfl rfl rfl rfl rfl ?_ | refine as_gskipU rfl rfl rfl rfl ?_ | refine as_gh rfl rfl rfl rfl (h_q rfl (q_gtT rfl rfl (by omega)) ?_) | refine as_gh rfl rfl rfl rfl (h_q rfl (q_gtF rfl rfl (by omega)) ?_) | refine as_gh rfl rfl rfl rfl (h_q rfl (q_gt rfl rfl) ?_)
  first | refine as_q rfl rfl (q_pick_t rfl rfl) ?_ | refine as_q rfl rfl (q_pick_f rfl rfl) ?_ | refine as_q rfl rfl (q_pick rfl rfl rfl) ?_
  refine as_nil (hK6 _ _ ?_)
  clear hK6 K6
  refine cw_true rfl ?_
  refine cw_rs fun K7 hK7 => ?_
  -- region 5
  refine as_q rfl rfl (q_assign rfl) ?_
  refine as_nil (hK7 _ _ ?_)
  clear hK7 K7
  refine cw_ret ?_
  exact ⟨_, (res_tmp rfl res_nil), rfl, hT.forget⟩

set_option maxHeartbeats 4000000 in
theorem backC {w0 : World} {M0 : Mem} {v : Value} {n oc : Nat} {zs : List Int} {room cut : Int} {oa : Option Addr} {ts : List T3} (hs : Sat M0 w0) (hv : RdM M0 1 v n (i64s zs)) (hr : RdM M0 2 (.slice oa ts.length oc) ts.length (flat ts)) (ha : ArgsM M0 ts) (h1 : n ≤ 1600) (h2 : ts.length ≤ 256) (h3 : room < 0) :
    Does Try.prog 6 #[v, .agg #[.int .i64 room, .slice oa ts.length oc], .int .u8 cut] w0 (fun v w' => v = .bool true ∧ Step Nope M0 w0 M0 w') := by
  have hT := Step.refl Nope hs
  obtain ⟨a, vc, rfl, hvc, _⟩ := hv.slice
  have hl : zs.length = n := by have := hv.1; rw [i64s_length] at this; omega
  refine fn_enter Try.func6 rfl (rs := [.tmp 6]) rfl rfl rfl rfl ?_
  refine cw_rs fun K1 hK1 => ?_
  -- region 0
  refine as_h rfl (h_boxM hs rfl rfl fun b1 M1 w1 hs1 hb1 e1 => ?_)
  replace hv := hv.mono hs1.le
  replace hr := hr.mono hs1.le
  replace ha := ha.mono hs1.le
  replace hT := hT.then hs1
  have hz1 := hs1.size
  refine as_q rfl rfl (q_assign rfl) ?_
  refine as_nil (hK1 _ _ ?_)
  clear hK1 K1
  refine cw_rs fun K2 hK2 => ?_
  -- region 1
  refine as_h rfl (h_call (by kernel_rfl) rfl ?_)
  refine (awake18 hs1.sat).mono ?_
  rintro _ w2 ⟨rfl, hs2⟩
  replace hv := hv.mono hs2.le
  replace hr := hr.mono hs2.le
  replace ha := ha.mono hs2.le
  replace hb1 := hs2.le _ _ hb1
  replace hT := hT.then hs2
  have hz2 := hs2.size
  refine as_q rfl rfl (q_assign rfl) ?_
  refine as_nil (hK2 _ _ ?_)
  clear hK2 K2
  refine cw_seq fun K3 hK3 => ?_
  refine cw_rs fun K4 hK4 => ?_
  -- region 2
  refine as_q rfl rfl (q_move rfl) ?_
  refine as_q rfl rfl (q_not rfl) ?_
  refine as_nil (hK4 _ _ ?_)
  clear hK4 K4
  refine cw_false rfl ?_
  refine cw_skip ?_
  refine hK3 _ _ ?_
  clear hK3 K3
  refine cw_seq fun K5 hK5 => ?_
  refine cw_rs fun K6 hK6 => ?_
  -- region 4
  refine as_q rfl rfl (q_move rfl) ?_
  refine as_q rfl rfl (q_len (by kernel_rfl) rfl _) ?_
  first | refine as_q rfl rfl (q_gtT rfl rfl (by omega)) ?_ | refine as_q rfl rfl (q_gtF rfl rfl (by omega)) ?_ | refine as_q rfl rfl (q_gt rfl rfl) ?_
  refine as_q rfl rfl (q_move rfl) ?_
  first | refine as_gskip rfl rfl rfl rfl rfl ?_ | refine as_gskipU rfl rfl rfl rfl ?_ | refine as_gh rfl rfl rfl rfl (h_q rfl (q_fieldAddr (off := 1) (by kernel_rfl) rfl) ?_)
  first | refine as_gskip rfl rfl rfl rfl rfl ?_ | refine as_gskipU rfl rfl rfl rfl ?_ | refine as_gh rfl rfl rfl rfl (h_q rfl (q_load1 (by kernel_rfl) rfl (by first | exact BlkR.cell (hs2.sat _ _ _ hb1) rfl | assumption)) ?_)
  first | refine as_gskip rfl rfl rfl rfl rfl ?_ | refine as_gskipU rfl rfl rfl rfl ?_ | refine as_gh rfl rfl rfl rfl (h_q rfl (q_len (by kernel_rfl) rfl _) ?_)
  first | refine as_gskip rfl rfl rfl rfl rfl ?_ | refine as_gskipU rfl rfl rfl rfl ?_ | refine as_gh rfl rfl rfl rfl (h_q rfl (q_gtT rfl rfl (by omega)) ?_) | refine as_gh rfl rfl rfl rfl (h_q rfl (q_gtF rfl rfl (by omega)) ?_) | refine as_gh rfl rfl rfl rfl (h_q rfl (q_gt rfl rfl) ?_)
  first | refine as_q rfl rfl (q_pick_t rfl rfl) ?_ | refine as_q rfl rfl (q_pick_f rfl rfl) ?_ | refine as_q rfl rfl (q_pick rfl rfl rfl) ?_
  refine as_q rfl rfl (q_move rfl) ?_
  first | refine as_gskip rfl rfl rfl rfl rfl ?_ | refine as_gskipU rfl rfl rfl rfl ?_ | refine as_gh rfl rfl rfl rfl (h_q rfl (q_fieldAddr (off := 0) (by kernel_rfl) rfl) ?_)
  first | refine as_gskip rfl rfl rfl rfl rfl ?_ | refine as_gskipU rfl rfl rfl rfl ?_ | refine as_gh rfl rfl rfl rfl (h_q rfl (q_load1 (by kernel_rfl) rfl (by first | exact BlkR.cell (hs2.sat _ _ _ hb1) rfl | assumption)) ?_)
  first | refine as_gskip rfl rfl rfl rfl rfl ?_ | refine as_gskipU rfl rfl rfl rfl ?_ | refine as_gh rfl rfl rfl rfl (h_q rfl (q_ltT rfl rfl (by omega)) ?_) | refine as_gh rfl rfl rfl rfl (h_q rfl (q_ltF rfl rfl (by omega)) ?_) | refine as_gh rfl rfl rfl rfl (h_q rfl (q_lt rfl rfl) ?_)
  first | refine as_q rfl rfl (q_pick_t rfl rfl) ?_ | refine as_q rfl rfl (q_pick_f rfl rfl) ?_ | refine as_q rfl rfl (q_pick rfl rfl rfl) ?_
  refine as_q rfl rfl (q_move rfl) ?_
  first | refine as_gskip rfl rfl rfl rfl rfl ?_ | refine as_gskipU rfl rfl rfl rfl ?_ | refine as_gh rfl rfl rfl rfl (h_q rfl (q_fieldAddr (off := 0) (by kernel_rfl) rfl) ?_)
  first | refine as_gskip rfl rfl rfl rfl rfl ?_ | refine as_gskipU rfl rfl rfl rfl ?_ | refine as_gh rfl rfl rfl rfl (h_q rfl (q_load1 (by kernel_rfl) rfl (by first | exact BlkR.cell (hs2.sat _ _ _ hb1) rfl | assumption)) ?_)
  first | refine as_gskip rfl rfl rfl rfl rfl ?_ | refine as_gskipU rfl rfl rfl rfl ?_ | refine as_gh rfl rfl rfl rfl (h_q rfl (q_gtT rfl rfl (by omega)) ?_) | refine as_gh rfl rfl rfl rfl (h_q rfl (q_gtF rfl rfl (by omega)) ?_) | refine as_gh rfl rfl rfl rfl (h_q rfl (q_gt rfl rfl) ?_)
  first | refine as_q rfl rfl (q_pick_t rfl rfl) ?_ | refine as_q rfl rfl (q_pick_f rfl rfl) ?_ | refine as_q rfl rfl (q_pick rfl rfl rfl) ?_
  refine as_nil (hK6 _ _ ?_)
  clear hK6 K6
  refine cw_true rfl ?_
  refine cw_rs fun K7 hK7 => ?_
  -- region 5
  refine as_q rfl rfl (q_assign rfl) ?_
  refine as_nil (hK7 _ _ ?_)
  clear hK7 K7
  refine cw_ret ?_
  exact ⟨_, (res_tmp rfl res_nil), rfl, hT.forget⟩

set_option maxHeartbeats 4000000 in
theorem backD {w0 : World} {M0 : Mem} {v : Value} {n oc : Nat} {zs : List Int} {room cut : Int} {oa : Option Addr} {ts : List T3} (hs : Sat M0 w0) (hv : RdM M0 1 v n (i64s zs)) (hr : RdM M0 2 (.slice oa ts.length oc) ts.length (flat ts)) (ha : ArgsM M0 ts) (h1 : n ≤ 1600) (h2 : ts.length ≤ 256) (h3 : 64 < room) :
    Does Try.prog 6 #[v, .agg #[.int .i64 room, .slice oa ts.length oc], .int .u8 cut] w0 (fun v w' => v = .bool true ∧ Step Nope M0 w0 M0 w') := by
  have hT := Step.refl Nope hs
  obtain ⟨a, vc, rfl, hvc, _⟩ := hv.slice
  have hl : zs.length = n := by have := hv.1; rw [i64s_length] at this; omega
  refine fn_enter Try.func6 rfl (rs := [.tmp 6]) rfl rfl rfl rfl ?_
  refine cw_rs fun K1 hK1 => ?_
  -- region 0
  refine as_h rfl (h_boxM hs rfl rfl fun b1 M1 w1 hs1 hb1 e1 => ?_)
  replace hv := hv.mono hs1.le
  replace hr := hr.mono hs1.le
  replace ha := ha.mono hs1.le
  replace hT := hT.then hs1
  have hz1 := hs1.size
  refine as_q rfl rfl (q_assign rfl) ?_
  refine as_nil (hK1 _ _ ?_)
  clear hK1 K1
  refine cw_rs fun K2 hK2 => ?_
  -- region 1
  refine as_h rfl (h_call (by kernel_rfl) rfl ?_)
  refine (awake18 hs1.sat).mono ?_
  rintro _ w2 ⟨rfl, hs2⟩
  replace hv := hv.mono hs2.le
  replace hr := hr.mono hs2.le
  replace ha := ha.mono hs2.le
  replace hb1 := hs2.le _ _ hb1
  replace hT := hT.then hs2
  have hz2 := hs2.size
  refine as_q rfl rfl (q_assign rfl) ?_
  refine as_nil (hK2 _ _ ?_)
  clear hK2 K2
  refine cw_seq fun K3 hK3 => ?_
  refine cw_rs fun K4 hK4 => ?_
  -- region 2
  refine as_q rfl rfl (q_move rfl) ?_
  refine as_q rfl rfl (q_not rfl) ?_
  refine as_nil (hK4 _ _ ?_)
  clear hK4 K4
  refine cw_false rfl ?_
  refine cw_skip ?_
  refine hK3 _ _ ?_
  clear hK3 K3
  refine cw_seq fun K5 hK5 => ?_
  refine cw_rs fun K6 hK6 => ?_
  -- region 4
  refine as_q rfl rfl (q_move rfl) ?_
  refine as_q rfl rfl (q_len (by kernel_rfl) rfl _) ?_
  first | refine as_q rfl rfl (q_gtT rfl rfl (by omega)) ?_ | refine as_q rfl rfl (q_gtF rfl rfl (by omega)) ?_ | refine as_q rfl rfl (q_gt rfl rfl) ?_
  refine as_q rfl rfl (q_move rfl) ?_
  first | refine as_gskip rfl rfl rfl rfl rfl ?_ | refine as_gskipU rfl rfl rfl rfl ?_ | refine as_gh rfl rfl rfl rfl (h_q rfl (q_fieldAddr (off := 1) (by kernel_rfl) rfl) ?_)
  first | refine as_gskip rfl rfl rfl rfl rfl ?_ | refine as_gskipU rfl rfl rfl rfl ?_ | refine as_gh rfl rfl rfl rfl (h_q rfl (q_load1 (by kernel_rfl) rfl (by first | exact BlkR.cell (hs2.sat _ _ _ hb1) rfl | assumption)) ?_)
  first | refine as_gskip rfl rfl rfl rfl rfl ?_ | refine as_gskipU rfl rfl rfl rfl ?_ | refine as_gh rfl rfl rfl rfl (h_q rfl (q_len (by kernel_rfl) rfl _) ?_)
  first | refine as_gskip rfl rfl rfl rfl rfl ?_ | refine as_gskipU rfl rfl rfl rfl ?_ | refine as_gh rfl rfl rfl rfl (h_q rfl (q_gtT rfl rfl (by omega)) ?_) | refine as_gh rfl rfl rfl rfl (h_q rfl (q_gtF rfl rfl (by omega)) ?_) | refine as_gh rfl rfl rfl rfl (h_q rfl (q_gt rfl rfl) ?_)
  first | refine as_q rfl rfl (q_pick_t rfl rfl) ?_ | refine as_q rfl rfl (q_pick_f rfl rfl) ?_ | refine as_q rfl rfl (q_pick rfl rfl rfl) ?_
  refine as_q rfl rfl (q_move rfl) ?_
  first | refine as_gskip rfl rfl rfl rfl rfl ?_ | refine as_gskipU rfl rfl rfl rfl ?_ | refine as_gh rfl rfl rfl rfl (h_q rfl (q_fieldAddr (off := 0) (by kernel_rfl) rfl) ?_)
  first | refine as_gskip rfl rfl rfl rfl rfl ?_ | refine as_gskipU rfl rfl rfl rfl ?_ | refine as_gh rfl rfl rfl rfl (h_q rfl (q_load1 (by kernel_rfl) rfl (by first | exact BlkR.cell (hs2.sat _ _ _ hb1) rfl | assumption)) ?_)
  first | refine as_gskip rfl rfl rfl rfl rfl ?_ | refine as_gskipU rfl rfl rfl rfl ?_ | refine as_gh rfl rfl rfl rfl (h_q rfl (q_ltT rfl rfl (by omega)) ?_) | refine as_gh rfl rfl rfl rfl (h_q rfl (q_ltF rfl rfl (by omega)) ?_) | refine as_gh rfl rfl rfl rfl (h_q rfl (q_lt rfl rfl) ?_)
  first | refine as_q rfl rfl (q_pick_t rfl rfl) ?_ | refine as_q rfl rfl (q_pick_f rfl rfl) ?_ | refine as_q rfl rfl (q_pick rfl rfl rfl) ?_
  refine as_q rfl rfl (q_move rfl) ?_
  first | refine as_gskip rfl rfl rfl rfl rfl ?_ | refine as_gskipU rfl rfl rfl rfl ?_ | refine as_gh rfl rfl rfl rfl (h_q rfl (q_fieldAddr (off := 0) (by kernel_rfl) rfl) ?_)
  first | refine as_gskip rfl rfl rfl rfl rfl ?_ | refine as_gskipU rfl rfl rfl rfl ?_ | refine as_gh rfl rfl rfl rfl (h_q rfl (q_load1 (by kernel_rfl) rfl (by first | exact BlkR.cell (hs2.sat _ _ _ hb1) rfl | assumption)) ?_)
  first | refine as_gskip rfl rfl rfl rfl rfl ?_ | refine as_gskipU rfl rfl rfl rfl ?_ | refine as_gh rfl rfl rfl rfl (h_q rfl (q_gtT rfl rfl (by omega)) ?_) | refine as_gh rfl rfl rfl rfl (h_q rfl (q_gtF rfl rfl (by omega)) ?_) | refine as_gh rfl rfl rfl rfl (h_q rfl (q_gt rfl rfl) ?_)
  first | refine as_q rfl rfl (q_pick_t rfl rfl) ?_ | refine as_q rfl rfl (q_pick_f rfl rfl) ?_ | refine as_q rfl rfl (q_pick rfl rfl rfl) ?_
  refine as_nil (hK6 _ _ ?_)
  clear hK6 K6
  refine cw_true rfl ?_
  refine cw_rs fun K7 hK7 => ?_
  -- region 5
  refine as_q rfl rfl (q_assign rfl) ?_
  refine as_nil (hK7 _ _ ?_)
  clear hK7 K7
  refine cw_ret ?_
  exact ⟨_, (res_tmp rfl res_nil), rfl, hT.forget⟩

set_option maxHeartbeats 4000000 in
theorem back_ok {w0 : World} {M0 : Mem} {v : Value} {n oc : Nat} {zs : List Int} {room cut : Int} {oa : Option Addr} {ts : List T3} (hs : Sat M0 w0) (hv : RdM M0 1 v n (i64s zs)) (hr : RdM M0 2 (.slice oa ts.length oc) ts.length (flat ts)) (ha : ArgsM M0 ts) (hcu0 : 0 ≤ cut) (hcu1 : cut ≤ 255) (h1 : n ≤ 1600) (h2 : ts.length ≤ 256) (h3 : 0 ≤ room) (h4 : room ≤ 64) {a9 : Int} {ops : List (Int × List Int)} (hpz : parse zs = .ok (a9, ops)) :
    Does Try.prog 6 #[v, .agg #[.int .i64 room, .slice oa ts.length oc], .int .u8 cut] w0 (fun v w' => v = .bool true ∧ Step Nope M0 w0 M0 w') := by
  have hT := Step.refl Nope hs
  obtain ⟨a, vc, rfl, hvc, _⟩ := hv.slice
  have hl : zs.length = n := by have := hv.1; rw [i64s_length] at this; omega
  have hbz : (build a9 ops).length = n := by rw [(parse_build hpz).1, hl]
  have hge9 := build_ge a9 ops
  refine fn_enter Try.func6 rfl (rs := [.tmp 6]) rfl rfl rfl rfl ?_
  refine cw_rs fun K1 hK1 => ?_
  -- region 0
  refine as_h rfl (h_boxM hs rfl rfl fun b1 M1 w1 hs1 hb1 e1 => ?_)
  replace hv := hv.mono hs1.le
  replace hr := hr.mono hs1.le
  replace ha := ha.mono hs1.le
  replace hT := hT.then hs1
  have hz1 := hs1.size
  refine as_q rfl rfl (q_assign rfl) ?_
  refine as_nil (hK1 _ _ ?_)
  clear hK1 K1
  refine cw_rs fun K2 hK2 => ?_
  -- region 1
  refine as_h rfl (h_call (by kernel_rfl) rfl ?_)
  refine (awake18 hs1.sat).mono ?_
  rintro _ w2 ⟨rfl, hs2⟩
  replace hv := hv.mono hs2.le
  replace hr := hr.mono hs2.le
  replace ha := ha.mono hs2.le
  replace hb1 := hs2.le _ _ hb1
  replace hT := hT.then hs2
  have hz2 := hs2.size
  refine as_q rfl rfl (q_assign rfl) ?_
  refine as_nil (hK2 _ _ ?_)
  clear hK2 K2
  refine cw_seq fun K3 hK3 => ?_
  refine cw_rs fun K4 hK4 => ?_
  -- region 2
  refine as_q rfl rfl (q_move rfl) ?_
  refine as_q rfl rfl (q_not rfl) ?_
  refine as_nil (hK4 _ _ ?_)
  clear hK4 K4
  refine cw_false rfl ?_
  refine cw_skip ?_
  refine hK3 _ _ ?_
  clear hK3 K3
  refine cw_seq fun K5 hK5 => ?_
  refine cw_rs fun K6 hK6 => ?_
  -- region 4
  refine as_q rfl rfl (q_move rfl) ?_
  refine as_q rfl rfl (q_len (by kernel_rfl) rfl _) ?_
  first | refine as_q rfl rfl (q_gtT rfl rfl (by omega)) ?_ | refine as_q rfl rfl (q_gtF rfl rfl (by omega)) ?_ | refine as_q rfl rfl (q_gt rfl rfl) ?_
  refine as_q rfl rfl (q_move rfl) ?_
  first | refine as_gskip rfl rfl rfl rfl rfl ?_ | refine as_gskipU rfl rfl rfl rfl ?_ | refine as_gh rfl rfl rfl rfl (h_q rfl (q_fieldAddr (off := 1) (by kernel_rfl) rfl) ?_)
  first | refine as_gskip rfl rfl rfl rfl rfl ?_ | refine as_gskipU rfl rfl rfl rfl ?_ | refine as_gh rfl rfl rfl rfl (h_q rfl (q_load1 (by kernel_rfl) rfl (by first | exact BlkR.cell (hs2.sat _ _ _ hb1) rfl | assumption)) ?_)
  first | refine as_gskip rfl rfl rfl rfl rfl ?_ | refine as_gskipU rfl rfl rfl rfl ?_ | refine as_gh rfl rfl rfl rfl (h_q rfl (q_len (by kernel_rfl) rfl _) ?_)
  first | refine as_gskip rfl rfl rfl rfl rfl ?_ | refine as_gskipU rfl rfl rfl rfl ?_ | refine as_gh rfl rfl rfl rfl (h_q rfl (q_gtT rfl rfl (by omega)) ?_) | refine as_gh rfl rfl rfl rfl (h_q rfl (q_gtF rfl rfl (by omega)) ?_) | refine as_gh rfl rfl rfl rfl (h_q rfl (q_gt rfl rfl) ?_)
  first | refine as_q rfl rfl (q_pick_t rfl rfl) ?_ | refine as_q rfl rfl (q_pick_f rfl rfl) ?_ | refine as_q rfl rfl (q_pick rfl rfl rfl) ?_
  refine as_q rfl rfl (q_move rfl) ?_
  first | refine as_gskip rfl rfl rfl rfl rfl ?_ | refine as_gskipU rfl rfl rfl rfl ?_ | refine as_gh rfl rfl rfl rfl (h_q rfl (q_fieldAddr (off := 0) (by kernel_rfl) rfl) ?_)
  first | refine as_gskip rfl rfl rfl rfl rfl ?_ | refine as_gskipU rfl rfl rfl rfl ?_ | refine as_gh rfl rfl rfl rfl (h_q rfl (q_load1 (by kernel_rfl) rfl (by first | exact BlkR.cell (hs2.sat _ _ _ hb1) rfl | assumption)) ?_)
  first | refine as_gskip rfl rfl rfl rfl rfl ?_ | refine as_gskipU rfl rfl rfl rfl ?_ | refine as_gh rfl rfl rfl rfl (h_q rfl (q_ltT rfl rfl (by omega)) ?_) | refine as_gh rfl rfl rfl rfl (h_q rfl (q_ltF rfl rfl (by omega)) ?_) | refine as_gh rfl rfl rfl rfl (h_q rfl (q_lt rfl rfl) ?_)
  first | refine as_q rfl rfl (q_pick_t rfl rfl) ?_ | refine as_q rfl rfl (q_pick_f rfl rfl) ?_ | refine as_q rfl rfl (q_pick rfl rfl rfl) ?_
  refine as_q rfl rfl (q_move rfl) ?_
  first | refine as_gskip rfl rfl rfl rfl rfl ?_ | refine as_gskipU rfl rfl rfl rfl ?_ | refine as_gh rfl rfl rfl rfl (h_q rfl (q_fieldAddr (off := 0) (by kernel_rfl) rfl) ?_)
  first | refine as_gskip rfl rfl rfl rfl rfl ?_ | refine as_gskipU rfl rfl rfl rfl ?_ | refine as_gh rfl rfl rfl rfl (h_q rfl (q_load1 (by kernel_rfl) rfl (by first | exact BlkR.cell (hs2.sat _ _ _ hb1) rfl | assumption)) ?_)
  first | refine as_gskip rfl rfl rfl rfl rfl ?_ | refine as_gskipU rfl rfl rfl rfl ?_ | refine as_gh rfl rfl rfl rfl (h_q rfl (q_gtT rfl rfl (by omega)) ?_) | refine as_gh rfl rfl rfl rfl (h_q rfl (q_gtF rfl rfl (by omega)) ?_) | refine as_gh rfl rfl rfl rfl (h_q rfl (q_gt rfl rfl) ?_)
  first | refine as_q rfl rfl (q_pick_t rfl rfl) ?_ | refine as_q rfl rfl (q_pick_f rfl rfl) ?_ | refine as_q rfl rfl (q_pick rfl rfl rfl) ?_
  refine as_nil (hK6 _ _ ?_)
  clear hK6 K6
  refine cw_false rfl ?_
  refine cw_skip ?_
  refine hK5 _ _ ?_
  clear hK5 K5
  refine cw_seq fun K7 hK7 => ?_
  refine cw_rs fun K8 hK8 => ?_
  -- region 6
  refine as_q rfl rfl (q_assign rfl) ?_
  refine as_nil (hK8 _ _ ?_)
  clear hK8 K8
  refine cw_block ?_
  refine cw_loop (fun mm l w1 => ∃ (i : Nat), mm = ts.length - i ∧ i ≤ ts.length ∧ (∀ j t, j < i → ts[j]? = some t → t.2.1.length ≤ 4) ∧ l = [(0, .slice a n vc), (2, .int .u8 cut), (4, .pointer (some ⟨b1, 0, none⟩)), (8, .int .i64 i)] ∧ Step Nope M0 w0 M1 w1) (ts.length) [(0, .slice a n vc), (2, .int .u8 cut), (4, .pointer (some ⟨b1, 0, none⟩)), (8, .int .i64 (0 : Nat))] (.cons rfl (.cons rfl (.cons rfl (.cons rfl (.nil _))))) ?_ ?_
  · skip
    exact ⟨0, rfl, Nat.zero_le _, fun j t hj => by omega, rfl, hT⟩
  clear hT
  rintro mm l w1 ⟨i, rfl, hi, hall, rfl, hT⟩
  refine cw_seq fun K9 hK9 => ?_
  refine cw_rs fun K10 hK10 => ?_
  -- region 7
  refine as_q rfl rfl (q_move rfl) ?_
  refine as_q rfl rfl (q_fieldAddr (off := 1) (by kernel_rfl) rfl) ?_
  refine as_q rfl rfl (q_load1 (by kernel_rfl) rfl (by first | exact BlkR.cell (hT.sat _ _ _ hb1) rfl | assumption)) ?_
  refine as_q rfl rfl (q_len (by kernel_rfl) rfl _) ?_
  first | refine as_q rfl rfl (q_ltT rfl rfl (by omega)) ?_ | refine as_q rfl rfl (q_ltF rfl rfl (by omega)) ?_ | refine as_q rfl rfl (q_lt rfl rfl) ?_
  refine as_nil (hK10 _ _ ?_)
  clear hK10 K10
  refine cw_cond rfl (fun hc2 => ?_) (fun hc2 => ?_)
  · skip
    have hlt : i < ts.length := by have := of_decide_eq_true hc2; omega
    obtain ⟨g, o, rfl⟩ := hr.there (by omega)
    obtain ⟨⟨tc, tz, tv⟩, hti⟩ : ∃ t, ts[i]? = some t := ⟨ts[i], by simp⟩
    have hta : RdM M1 1 tv tz.length (i64s tz) := ha _ (List.mem_of_getElem? hti)
    obtain ⟨tva, tvc, rfl, _⟩ := hta.slice
    refine cw_skip ?_
    refine hK9 _ _ ?_
    clear hK9 K9
    refine cw_seq fun K11 hK11 => ?_
    refine cw_block ?_
    refine cw_rs fun K12 hK12 => ?_
    -- region 9
    refine as_q rfl rfl (q_fieldAddr (off := 1) (by kernel_rfl) rfl) ?_
    refine as_q rfl rfl (q_load1 (by kernel_rfl) rfl (by first | exact BlkR.cell (hT.sat _ _ _ hb1) rfl | assumption)) ?_
    refine as_q rfl rfl (q_move rfl) ?_
    refine as_q rfl rfl (q_indexAddr (e := 51) (size := 2) (by kernel_rfl) (by kernel_rfl) rfl rfl (by omega) (by omega)) ?_
    refine as_q rfl rfl (q_fieldAddr (off := 1) (by kernel_rfl) rfl) ?_
    refine as_q rfl rfl (q_load1 (by kernel_rfl) rfl ((hr.elem hT.sat rfl (flat_elem (j := (i : Int).toNat) (by simpa using hti))).2 1 _ rfl)) ?_
    refine as_q rfl rfl (q_len (by kernel_rfl) rfl _) ?_
    first | refine as_q rfl rfl (q_gtT rfl rfl (by omega)) ?_ | refine as_q rfl rfl (q_gtF rfl rfl (by omega)) ?_ | refine as_q rfl rfl (q_gt rfl rfl) ?_
    refine as_nil (hK12 _ _ ?_)
    clear hK12 K12
    refine cw_cond rfl (fun hc3 => ?_) (fun hc3 => ?_)
    · skip
      refine cw_rs fun K13 hK13 => ?_
      -- region 10
      refine as_q rfl rfl (q_assign rfl) ?_
      refine as_nil (hK13 _ _ ?_)
      clear hK13 K13
      refine cw_ret ?_
      exact ⟨_, (res_tmp rfl res_nil), rfl, hT.forget⟩
    · skip
      have h20 : tz.length ≤ 4 := by have := of_decide_eq_false hc3; omega
      refine cw_skip ?_
      refine hK11 _ _ ?_
      clear hK11 K11
      refine cw_region fun K14 hK14 => ?_
      -- region 8
      refine as_q rfl rfl (q_move rfl) ?_
      refine as_q rfl rfl (q_addx rfl rfl (by omega) (by omega)) ?_
      refine as_q rfl rfl (q_assign rfl) ?_
      refine as_nil (hK14 _ _ ?_)
      clear hK14 K14
      refine ⟨_, _, ?_, (.cons rfl (.cons rfl (.cons rfl (.cons rfl (.nil _))))), i + 1, rfl, by omega, fun j t hj ht => ?_, rfl, hT⟩
      · omega
      · rcases Nat.lt_or_ge j i with h | h
        · exact hall j t h ht
        · obtain rfl : j = i := by omega
          rw [hti] at ht
          cases ht
          exact h20
  · skip
    have hge : i = ts.length := by have := of_decide_eq_false hc2; omega
    have hk4 : ∀ o ∈ keyT ts, o.2.length ≤ 4 := fun o ho => by
      obtain ⟨t, ht, rfl⟩ := List.mem_map.1 ho
      obtain ⟨j, hj⟩ := List.getElem?_of_mem ht
      exact hall j t (by have := (List.getElem?_eq_some_iff.1 hj).1; omega) hj
    have h20 : (build room (keyT ts)).length ≤ 1 + ts.length * 6 := by
      have h := build_le room 4 (keyT ts) hk4
      rw [keyT_length] at h
      exact h
    have hbp := build_ge room (keyT ts)
    obtain ⟨kk, hkk⟩ : ∃ k, cut.tmod ((build room (keyT ts)).length : Int) = k := ⟨_, rfl⟩
    have hkk0 : 0 ≤ kk := by rw [← hkk, Int.tmod_eq_emod_of_nonneg hcu0]; exact Int.emod_nonneg _ (by omega)
    have hkk1 : kk < (build room (keyT ts)).length := by rw [← hkk, Int.tmod_eq_emod_of_nonneg hcu0]; exact Int.emod_lt_of_pos _ (by omega)
    have hcut := parse_cut (k := kk.toNat) h3 h4 (by rw [keyT_length]; exact h2) hk4 (by omega)
    rw [keyT_length] at hcut
    refine cw_exit ?_
    refine hK7 _ _ ?_
    clear hK9 K9
    clear hK7 K7
    refine cw_rs fun K15 hK15 => ?_
    -- region 11
    refine as_q rfl rfl (q_move rfl) ?_
    refine as_h rfl (h_call (by kernel_rfl) rfl ?_)
    refine (parse18 hT.sat (by omega) hv).mono ?_
    rintro v3 w3 ⟨M3, hs3, hp3⟩
    obtain ⟨ov1, ts1, rfl, hk1, hov1, hag1⟩ := hp3.ok hpz
    have hkl1 : ts1.length = ops.length := by rw [← hk1, keyT_length]
    obtain ⟨oa1, oc1, rfl, _⟩ := hov1.slice
    replace hb1 := hs3.le _ _ hb1
    replace hv := hv.mono hs3.le
    replace hr := hr.mono hs3.le
    replace ha := ha.mono hs3.le
    replace hT := hT.then hs3
    have hz3 := hs3.size
    refine as_q rfl rfl (q_move rfl) ?_
    refine as_q rfl rfl (q_extract rfl rfl) ?_
    refine as_q rfl rfl (q_extract rfl rfl) ?_
    have hqa9 := hT.size
    refine as_h rfl (h_allocO (z := (.agg #[(.int .i64 0), (.slice none 0 0)])) hs3.sat (by kernel_rfl) rfl fun b9 w4 hs4 ho9 e9 => ?_)
    replace hb1 := hs4.le _ _ hb1
    replace hv := hv.mono hs4.le
    replace hr := hr.mono hs4.le
    replace ha := ha.mono hs4.le
    replace hov1 := hov1.mono hs4.le
    replace hag1 := hag1.mono hs4.le
    replace hT := hT.then hs4
    have hz4 := hs4.size
    have hl9 := ho9.1.lt
    refine as_h0 (h_store hs4.sat ho9 rfl rfl rfl (by kernel_rfl) rfl rfl rfl fun w5 hs5 hn5 => ?_)
    replace hb1 := hs5.le _ _ hb1
    replace hv := hv.mono hs5.le
    replace hr := hr.mono hs5.le
    replace ha := ha.mono hs5.le
    replace hov1 := hov1.mono hs5.le
    replace hag1 := hag1.mono hs5.le
    clear ho9; have ho9 := hn5; clear hn5
    replace hT := hT.own hs5 (by omega)
    have hz5 := hs5.size
    refine as_q rfl rfl (q_assign rfl) ?_
    refine as_nil (hK15 _ _ ?_)
    clear hK15 K15
    refine cw_seq fun K16 hK16 => ?_
    refine cw_rs fun K17 hK17 => ?_
    -- region 12
    refine as_q rfl rfl (q_move rfl) ?_
    first | refine as_q rfl rfl (q_eqT rfl rfl (by omega)) ?_ | refine as_q rfl rfl (q_eqF rfl rfl (by omega)) ?_ | refine as_q rfl rfl (q_eq rfl rfl) ?_
    refine as_q rfl rfl (q_move rfl) ?_
    first | refine as_gskip rfl rfl rfl rfl rfl ?_ | refine as_gskipU rfl rfl rfl rfl ?_ | refine as_gh rfl rfl rfl rfl (h_q rfl (q_loadc (n := 2) (by kernel_rfl) rfl (by first | exact BlkR.cells (hs5.sat _ _ _ hb1) rfl | exact Blk.cells ho9.1 rfl | assumption)) ?_)
    refine as_gh rfl rfl rfl rfl (h_call (by kernel_rfl) rfl ?_)
    refine (build18 (ts := ts1) hs5.sat hov1 hag1 (by rw [hk1]; omega)).frozen.mono ?_
    rintro v6 w6 ⟨M6, hs6, hbx⟩
    replace hb1 := hs6.le _ _ hb1
    replace hv := hv.mono hs6.le
    replace hr := hr.mono hs6.le
    replace ha := ha.mono hs6.le
    replace hov1 := hov1.mono hs6.le
    replace hag1 := hag1.mono hs6.le
    replace ho9 := ho9.then hs6
    replace hT := hT.then hs6
    have hz6 := hs6.size
    first | refine as_gskip rfl rfl rfl rfl rfl ?_ | refine as_gskipU rfl rfl rfl rfl ?_ | refine as_gh rfl rfl rfl rfl (h_q rfl (q_move rfl) ?_)
    refine as_gh rfl rfl rfl rfl (h_call (by kernel_rfl) rfl ?_)
    refine (same18 hs6.sat (by rw [hk1]; omega) hbx hv).mono ?_
    rintro v7 w7 ⟨hv7, hs7⟩
    obtain rfl : v7 = .bool true := hv7.trans (congrArg Value.bool (decide_eq_true (by rw [hk1]; exact (parse_build hpz).1)))
    replace hb1 := hs7.le _ _ hb1
    replace hv := hv.mono hs7.le
    replace hr := hr.mono hs7.le
    replace ha := ha.mono hs7.le
    replace hov1 := hov1.mono hs7.le
    replace hag1 := hag1.mono hs7.le
    replace ho9 := ho9.then hs7
    replace hbx := hbx.mono hs7.le
    replace hT := hT.then hs7
    have hz7 := hs7.size
    first | refine as_gskip rfl rfl rfl rfl rfl ?_ | refine as_gskipU rfl rfl rfl rfl ?_ | refine as_gh rfl rfl rfl rfl (h_q rfl (q_not rfl) ?_)
    first | refine as_q rfl rfl (q_pick_t rfl rfl) ?_ | refine as_q rfl rfl (q_pick_f rfl rfl) ?_ | refine as_q rfl rfl (q_pick rfl rfl rfl) ?_
    refine as_q rfl rfl (q_move rfl) ?_
    first | refine as_gskip rfl rfl rfl rfl rfl ?_ | refine as_gskipU rfl rfl rfl rfl ?_ | refine as_gh rfl rfl rfl rfl (h_q rfl (q_move rfl) ?_)
    first | refine as_gskip rfl rfl rfl rfl rfl ?_ | refine as_gskipU rfl rfl rfl rfl ?_ | refine as_gh rfl rfl rfl rfl (h_q rfl (q_neT rfl rfl (by omega)) ?_) | refine as_gh rfl rfl rfl rfl (h_q rfl (q_neF rfl rfl (by omega)) ?_) | refine as_gh rfl rfl rfl rfl (h_q rfl (q_ne rfl rfl) ?_)
    first | refine as_gskip rfl rfl rfl rfl rfl ?_ | refine as_gskipU rfl rfl rfl rfl ?_ | refine as_gh rfl rfl rfl rfl (h_q rfl (q_move rfl) ?_)
    first | refine as_gskip rfl rfl rfl rfl rfl ?_ | refine as_gskipU rfl rfl rfl rfl ?_ | refine as_gh rfl rfl rfl rfl (h_q rfl (q_fieldAddr (off := 1) (by kernel_rfl) rfl) ?_)
    first | refine as_gskip rfl rfl rfl rfl rfl ?_ | refine as_gskipU rfl rfl rfl rfl ?_ | refine as_gh rfl rfl rfl rfl (h_q rfl (q_load1 (by kernel_rfl) rfl (by first | exact BlkR.cell (hs7.sat _ _ _ hb1) rfl | exact Blk.cell ho9.1 rfl | assumption)) ?_)
    first | refine as_gskip rfl rfl rfl rfl rfl ?_ | refine as_gskipU rfl rfl rfl rfl ?_ | refine as_gh rfl rfl rfl rfl (h_q rfl (q_len (by kernel_rfl) rfl _) ?_)
    first | refine as_gskip rfl rfl rfl rfl rfl ?_ | refine as_gskipU rfl rfl rfl rfl ?_ | refine as_gh rfl rfl rfl rfl (h_q rfl (q_fieldAddr (off := 0) (by kernel_rfl) rfl) ?_)
    first | refine as_gskip rfl rfl rfl rfl rfl ?_ | refine as_gskipU rfl rfl rfl rfl ?_ | refine as_gh rfl rfl rfl rfl (h_q rfl (q_load1 (by kernel_rfl) rfl (by first | exact BlkR.cell (hs7.sat _ _ _ hb1) rfl | exact Blk.cell ho9.1 rfl | assumption)) ?_)
    first | refine as_gskip rfl rfl rfl rfl rfl ?_ | refine as_gskipU rfl rfl rfl rfl ?_ | refine as_gh rfl rfl rfl rfl (h_q rfl (q_addx rfl rfl (by omega) (by omega)) ?_)
    first | refine as_gskip rfl rfl rfl rfl rfl ?_ | refine as_gskipU rfl rfl rfl rfl ?_ | refine as_gh rfl rfl rfl rfl (h_q rfl (q_neT rfl rfl (by omega)) ?_) | refine as_gh rfl rfl rfl rfl (h_q rfl (q_neF rfl rfl (by omega)) ?_) | refine as_gh rfl rfl rfl rfl (h_q rfl (q_ne rfl rfl) ?_)
    first | refine as_gskip rfl rfl rfl rfl rfl ?_ | refine as_gskipU rfl rfl rfl rfl ?_ | refine as_gh rfl rfl rfl rfl (h_q rfl (q_pick_t rfl rfl) ?_) | refine as_gh rfl rfl rfl rfl (h_q rfl (q_pick_f rfl rfl) ?_) | refine as_gh rfl rfl rfl rfl (h_q rfl (q_pick rfl rfl rfl) ?_)
    first | refine as_q rfl rfl (q_pick_t rfl rfl) ?_ | refine as_q rfl rfl (q_pick_f rfl rfl) ?_ | refine as_q rfl rfl (q_pick rfl rfl rfl) ?_
    refine as_nil (hK17 _ _ ?_)
    clear hK17 K17
    refine cw_false rfl ?_
    refine cw_skip ?_
    refine hK16 _ _ ?_
    clear hK16 K16
    refine cw_rs fun K18 hK18 => ?_
    -- region 14
    refine as_q rfl rfl (q_loadc (n := 2) (by kernel_rfl) rfl (by first | exact BlkR.cells (hs7.sat _ _ _ hb1) rfl | exact Blk.cells ho9.1 rfl | assumption)) ?_
    refine as_h rfl (h_call (by kernel_rfl) rfl ?_)
    refine (build18 (ts := ts) hs7.sat hr ha (by omega)).frozen.mono ?_
    rintro v8 w8 ⟨M8, hs8, hbs⟩
    replace hb1 := hs8.le _ _ hb1
    replace hv := hv.mono hs8.le
    replace hr := hr.mono hs8.le
    replace ha := ha.mono hs8.le
    replace hov1 := hov1.mono hs8.le
    replace hag1 := hag1.mono hs8.le
    replace ho9 := ho9.then hs8
    replace hbx := hbx.mono hs8.le
    replace hT := hT.then hs8
    have hz8 := hs8.size
    obtain ⟨ba, bc, rfl, hbc, _⟩ := hbs.slice
    refine as_q rfl rfl (q_assign rfl) ?_
    refine as_nil (hK18 _ _ ?_)
    clear hK18 K18
    refine cw_rs fun K19 hK19 => ?_
    -- region 15
    refine as_q rfl rfl (q_move rfl) ?_
    refine as_h rfl (h_call (by kernel_rfl) rfl ?_)
    refine (parse18 hs8.sat (by omega) hbs).mono ?_
    rintro v9 w9 ⟨M9, hs9, hp9⟩
    obtain ⟨ov3, ts3, rfl, hk3, hov3, hag3⟩ := hp9.ok (parse_back h3 h4 (by rw [keyT_length]; exact h2) hk4)
    have hkl3 : ts3.length = ts.length := by rw [← keyT_length ts, ← hk3, keyT_length]
    obtain ⟨oa3, oc3, rfl, _⟩ := hov3.slice
    replace hb1 := hs9.le _ _ hb1
    replace hv := hv.mono hs9.le
    replace hr := hr.mono hs9.le
    replace ha := ha.mono hs9.le
    replace hov1 := hov1.mono hs9.le
    replace hag1 := hag1.mono hs9.le
    replace ho9 := ho9.then hs9
    replace hbx := hbx.mono hs9.le
    replace hbs := hbs.mono hs9.le
    replace hT := hT.then hs9
    have hz9 := hs9.size
    refine as_q rfl rfl (q_move rfl) ?_
    refine as_q rfl rfl (q_extract rfl rfl) ?_
    refine as_q rfl rfl (q_extract rfl rfl) ?_
    have hqa12 := hT.size
    refine as_h rfl (h_allocO (z := (.agg #[(.int .i64 0), (.slice none 0 0)])) hs9.sat (by kernel_rfl) rfl fun b12 w10 hs10 ho12 e12 => ?_)
    replace hb1 := hs10.le _ _ hb1
    replace hv := hv.mono hs10.le
    replace hr := hr.mono hs10.le
    replace ha := ha.mono hs10.le
    replace hov1 := hov1.mono hs10.le
    replace hag1 := hag1.mono hs10.le
    replace ho9 := ho9.then hs10
    replace hbx := hbx.mono hs10.le
    replace hbs := hbs.mono hs10.le
    replace hov3 := hov3.mono hs10.le
    replace hag3 := hag3.mono hs10.le
    replace hT := hT.then hs10
    have hz10 := hs10.size
    have hl12 := ho12.1.lt
    refine as_h0 (h_store hs10.sat ho12 rfl rfl rfl (by kernel_rfl) rfl rfl rfl fun w11 hs11 hn11 => ?_)
    replace hb1 := hs11.le _ _ hb1
    replace hv := hv.mono hs11.le
    replace hr := hr.mono hs11.le
    replace ha := ha.mono hs11.le
    replace hov1 := hov1.mono hs11.le
    replace hag1 := hag1.mono hs11.le
    replace ho9 := ho9.step hs11 (fun h => by have h : _ = _ := h; omega)
    replace hbx := hbx.mono hs11.le
    replace hbs := hbs.mono hs11.le
    replace hov3 := hov3.mono hs11.le
    replace hag3 := hag3.mono hs11.le
    clear ho12; have ho12 := hn11; clear hn11
    replace hT := hT.own hs11 (by omega)
    have hz11 := hs11.size
    refine as_q rfl rfl (q_assign rfl) ?_
    refine as_nil (hK19 _ _ ?_)
    clear hK19 K19
    refine cw_seq fun K20 hK20 => ?_
    refine cw_rs fun K21 hK21 => ?_
    -- region 16
    refine as_q rfl rfl (q_move rfl) ?_
    first | refine as_q rfl rfl (q_neT rfl rfl (by omega)) ?_ | refine as_q rfl rfl (q_neF rfl rfl (by omega)) ?_ | refine as_q rfl rfl (q_ne rfl rfl) ?_
    refine as_q rfl rfl (q_move rfl) ?_
    first | refine as_gskip rfl rfl rfl rfl rfl ?_ | refine as_gskipU rfl rfl rfl rfl ?_ | refine as_gh rfl rfl rfl rfl (h_q rfl (q_loadc (n := 2) (by kernel_rfl) rfl (by first | exact BlkR.cells (hs11.sat _ _ _ hb1) rfl | exact Blk.cells ho9.1 rfl | exact Blk.cells ho12.1 rfl | assumption)) ?_)
    refine as_gh rfl rfl rfl rfl (h_call (by kernel_rfl) rfl ?_)
    refine (plain18 (ts := ts3) hs11.sat hov3 hag3 (by omega)).mono ?_
    rintro _ w12 ⟨pv12, rfl, M12, hs12, hpl3⟩
    obtain ⟨pa12, pc12, rfl, _⟩ := hpl3.slice
    replace hb1 := hs12.le _ _ hb1
    replace hv := hv.mono hs12.le
    replace hr := hr.mono hs12.le
    replace ha := ha.mono hs12.le
    replace hov1 := hov1.mono hs12.le
    replace hag1 := hag1.mono hs12.le
    replace ho9 := ho9.then hs12
    replace hbx := hbx.mono hs12.le
    replace hbs := hbs.mono hs12.le
    replace hov3 := hov3.mono hs12.le
    replace hag3 := hag3.mono hs12.le
    replace ho12 := ho12.then hs12
    replace hT := hT.then hs12
    have hz12 := hs12.size
    refine as_gh rfl rfl rfl rfl (h_call (by kernel_rfl) rfl ?_)
    refine (rbuild18 (ts := ts3) hs12.sat hpl3 hag3 (by rw [hk3]; omega)).mono ?_
    rintro v13 w13 ⟨M13, hs13, hb3x⟩
    replace hb1 := hs13.le _ _ hb1
    replace hv := hv.mono hs13.le
    replace hr := hr.mono hs13.le
    replace ha := ha.mono hs13.le
    replace hov1 := hov1.mono hs13.le
    replace hag1 := hag1.mono hs13.le
    replace ho9 := ho9.then hs13
    replace hbx := hbx.mono hs13.le
    replace hbs := hbs.mono hs13.le
    replace hov3 := hov3.mono hs13.le
    replace hag3 := hag3.mono hs13.le
    replace ho12 := ho12.then hs13
    replace hpl3 := hpl3.mono hs13.le
    replace hT := hT.then hs13
    have hz13 := hs13.size
    first | refine as_gskip rfl rfl rfl rfl rfl ?_ | refine as_gskipU rfl rfl rfl rfl ?_ | refine as_gh rfl rfl rfl rfl (h_q rfl (q_move rfl) ?_)
    refine as_gh rfl rfl rfl rfl (h_call (by kernel_rfl) rfl ?_)
    refine (same18 hs13.sat (by rw [hk3]; omega) hb3x hbs).mono ?_
    rintro v14 w14 ⟨hv14, hs14⟩
    obtain rfl : v14 = .bool true := hv14.trans (congrArg Value.bool (decide_eq_true (by rw [hk3])))
    replace hb1 := hs14.le _ _ hb1
    replace hv := hv.mono hs14.le
    replace hr := hr.mono hs14.le
    replace ha := ha.mono hs14.le
    replace hov1 := hov1.mono hs14.le
    replace hag1 := hag1.mono hs14.le
    replace ho9 := ho9.then hs14
    replace hbx := hbx.mono hs14.le
    replace hbs := hbs.mono hs14.le
    replace hov3 := hov3.mono hs14.le
    replace hag3 := hag3.mono hs14.le
    replace ho12 := ho12.then hs14
    replace hpl3 := hpl3.mono hs14.le
    replace hb3x := hb3x.mono hs14.le
    replace hT := hT.then hs14
    have hz14 := hs14.size
    first | refine as_gskip rfl rfl rfl rfl rfl ?_ | refine as_gskipU rfl rfl rfl rfl ?_ | refine as_gh rfl rfl rfl rfl (h_q rfl (q_not rfl) ?_)
    first | refine as_q rfl rfl (q_pick_t rfl rfl) ?_ | refine as_q rfl rfl (q_pick_f rfl rfl) ?_ | refine as_q rfl rfl (q_pick rfl rfl rfl) ?_
    refine as_q rfl rfl (q_move rfl) ?_
    first | refine as_gskip rfl rfl rfl rfl rfl ?_ | refine as_gskipU rfl rfl rfl rfl ?_ | refine as_gh rfl rfl rfl rfl (h_q rfl (q_fieldAddr (off := 1) (by kernel_rfl) rfl) ?_)
    first | refine as_gskip rfl rfl rfl rfl rfl ?_ | refine as_gskipU rfl rfl rfl rfl ?_ | refine as_gh rfl rfl rfl rfl (h_q rfl (q_load1 (by kernel_rfl) rfl (by first | exact BlkR.cell (hs14.sat _ _ _ hb1) rfl | exact Blk.cell ho9.1 rfl | exact Blk.cell ho12.1 rfl | assumption)) ?_)
    first | refine as_gskip rfl rfl rfl rfl rfl ?_ | refine as_gskipU rfl rfl rfl rfl ?_ | refine as_gh rfl rfl rfl rfl (h_q rfl (q_len (by kernel_rfl) rfl _) ?_)
    first | refine as_gskip rfl rfl rfl rfl rfl ?_ | refine as_gskipU rfl rfl rfl rfl ?_ | refine as_gh rfl rfl rfl rfl (h_q rfl (q_fieldAddr (off := 1) (by kernel_rfl) rfl) ?_)
    first | refine as_gskip rfl rfl rfl rfl rfl ?_ | refine as_gskipU rfl rfl rfl rfl ?_ | refine as_gh rfl rfl rfl rfl (h_q rfl (q_load1 (by kernel_rfl) rfl (by first | exact BlkR.cell (hs14.sat _ _ _ hb1) rfl | exact Blk.cell ho9.1 rfl | exact Blk.cell ho12.1 rfl | assumption)) ?_)
    first | refine as_gskip rfl rfl rfl rfl rfl ?_ | refine as_gskipU rfl rfl rfl rfl ?_ | refine as_gh rfl rfl rfl rfl (h_q rfl (q_len (by kernel_rfl) rfl _) ?_)
    first | refine as_gskip rfl rfl rfl rfl rfl ?_ | refine as_gskipU rfl rfl rfl rfl ?_ | refine as_gh rfl rfl rfl rfl (h_q rfl (q_neT rfl rfl (by omega)) ?_) | refine as_gh rfl rfl rfl rfl (h_q rfl (q_neF rfl rfl (by omega)) ?_) | refine as_gh rfl rfl rfl rfl (h_q rfl (q_ne rfl rfl) ?_)
    first | refine as_q rfl rfl (q_pick_t rfl rfl) ?_ | refine as_q rfl rfl (q_pick_f rfl rfl) ?_ | refine as_q rfl rfl (q_pick rfl rfl rfl) ?_
    refine as_q rfl rfl (q_move rfl) ?_
    first | refine as_gskip rfl rfl rfl rfl rfl ?_ | refine as_gskipU rfl rfl rfl rfl ?_ | refine as_gh rfl rfl rfl rfl (h_q rfl (q_fieldAddr (off := 0) (by kernel_rfl) rfl) ?_)
    first | refine as_gskip rfl rfl rfl rfl rfl ?_ | refine as_gskipU rfl rfl rfl rfl ?_ | refine as_gh rfl rfl rfl rfl (h_q rfl (q_load1 (by kernel_rfl) rfl (by first | exact BlkR.cell (hs14.sat _ _ _ hb1) rfl | exact Blk.cell ho9.1 rfl | exact Blk.cell ho12.1 rfl | assumption)) ?_)
    first | refine as_gskip rfl rfl rfl rfl rfl ?_ | refine as_gskipU rfl rfl rfl rfl ?_ | refine as_gh rfl rfl rfl rfl (h_q rfl (q_fieldAddr (off := 0) (by kernel_rfl) rfl) ?_)
    first | refine as_gskip rfl rfl rfl rfl rfl ?_ | refine as_gskipU rfl rfl rfl rfl ?_ | refine as_gh rfl rfl rfl rfl (h_q rfl (q_load1 (by kernel_rfl) rfl (by first | exact BlkR.cell (hs14.sat _ _ _ hb1) rfl | exact Blk.cell ho9.1 rfl | exact Blk.cell ho12.1 rfl | assumption)) ?_)
    first | refine as_gskip rfl rfl rfl rfl rfl ?_ | refine as_gskipU rfl rfl rfl rfl ?_ | refine as_gh rfl rfl rfl rfl (h_q rfl (q_neT rfl rfl (by omega)) ?_) | refine as_gh rfl rfl rfl rfl (h_q rfl (q_neF rfl rfl (by omega)) ?_) | refine as_gh rfl rfl rfl rfl (h_q rfl (q_ne rfl rfl) ?_)
    first | refine as_q rfl rfl (q_pick_t rfl rfl) ?_ | refine as_q rfl rfl (q_pick_f rfl rfl) ?_ | refine as_q rfl rfl (q_pick rfl rfl rfl) ?_
    refine as_nil (hK21 _ _ ?_)
    clear hK21 K21
    refine cw_false rfl ?_
    rcases hcut with hcut | ⟨o2, hcut, hlo⟩
    · skip
      refine cw_skip ?_
      refine hK20 _ _ ?_
      clear hK20 K20
      refine cw_rs fun K22 hK22 => ?_
      -- region 18
      refine as_q rfl rfl (q_move rfl) ?_
      refine as_q rfl rfl (q_convx (by kernel_rfl) (by kernel_rfl) rfl (by first | exact wrap64_of (by omega) (by omega) | omega | (simp; omega))) ?_
      refine as_q rfl rfl (q_move rfl) ?_
      refine as_q rfl rfl (q_len (by kernel_rfl) rfl _) ?_
      refine as_q rfl rfl (q_congr (q_rem rfl rfl (by omega)) (v' := .int .i64 kk) (by rw [hkk])) ?_
      refine as_q rfl rfl (q_assign rfl) ?_
      refine as_nil (hK22 _ _ ?_)
      clear hK22 K22
      refine cw_rs fun K23 hK23 => ?_
      -- region 19
      refine as_q rfl rfl (q_move rfl) ?_
      refine as_q rfl rfl (q_move rfl) ?_
      refine as_q rfl rfl (q_slice (e := 2) (size := 1) (k := .i64) (by kernel_rfl) (by kernel_rfl) rfl rfl rfl (by omega) (by omega) (by omega)) ?_
      refine as_h rfl (h_call (by kernel_rfl) rfl ?_)
      have hcb := rd_sub hbs 0 kk (by omega) hkk0 (by omega)
      have hcl : (((build room (keyT ts)).drop (0 : Int).toNat).take (kk.toNat - (0 : Int).toNat)) = (build room (keyT ts)).take kk.toNat := by simp
      have hcn : ((build room (keyT ts)).take kk.toNat).length ≤ 100000 := by rw [List.length_take]; omega
      rw [hcl] at hcb
      refine (parse18 hs14.sat hcn hcb).mono ?_
      rintro v15 w15 ⟨M15, hs15, hp15⟩
      obtain ⟨oa4, oc4, rfl, hov4⟩ := hp15.no hcut
      replace hb1 := hs15.le _ _ hb1
      replace hv := hv.mono hs15.le
      replace hr := hr.mono hs15.le
      replace ha := ha.mono hs15.le
      replace hov1 := hov1.mono hs15.le
      replace hag1 := hag1.mono hs15.le
      replace ho9 := ho9.then hs15
      replace hbx := hbx.mono hs15.le
      replace hbs := hbs.mono hs15.le
      replace hov3 := hov3.mono hs15.le
      replace hag3 := hag3.mono hs15.le
      replace ho12 := ho12.then hs15
      replace hpl3 := hpl3.mono hs15.le
      replace hb3x := hb3x.mono hs15.le
      replace hT := hT.then hs15
      have hz15 := hs15.size
      refine as_q rfl rfl (q_move rfl) ?_
      refine as_q rfl rfl (q_extract rfl rfl) ?_
      refine as_q rfl rfl (q_extract rfl rfl) ?_
      have hqa15 := hT.size
      refine as_h rfl (h_allocO (z := (.agg #[(.int .i64 0), (.slice none 0 0)])) hs15.sat (by kernel_rfl) rfl fun b15 w16 hs16 ho15 e15 => ?_)
      replace hb1 := hs16.le _ _ hb1
      replace hv := hv.mono hs16.le
      replace hr := hr.mono hs16.le
      replace ha := ha.mono hs16.le
      replace hov1 := hov1.mono hs16.le
      replace hag1 := hag1.mono hs16.le
      replace ho9 := ho9.then hs16
      replace hbx := hbx.mono hs16.le
      replace hbs := hbs.mono hs16.le
      replace hov3 := hov3.mono hs16.le
      replace hag3 := hag3.mono hs16.le
      replace ho12 := ho12.then hs16
      replace hpl3 := hpl3.mono hs16.le
      replace hb3x := hb3x.mono hs16.le
      replace hT := hT.then hs16
      have hz16 := hs16.size
      have hl15 := ho15.1.lt
      refine as_h0 (h_store hs16.sat ho15 rfl rfl rfl (by kernel_rfl) rfl rfl rfl fun w17 hs17 hn17 => ?_)
      replace hb1 := hs17.le _ _ hb1
      replace hv := hv.mono hs17.le
      replace hr := hr.mono hs17.le
      replace ha := ha.mono hs17.le
      replace hov1 := hov1.mono hs17.le
      replace hag1 := hag1.mono hs17.le
      replace ho9 := ho9.step hs17 (fun h => by have h : _ = _ := h; omega)
      replace hbx := hbx.mono hs17.le
      replace hbs := hbs.mono hs17.le
      replace hov3 := hov3.mono hs17.le
      replace hag3 := hag3.mono hs17.le
      replace ho12 := ho12.step hs17 (fun h => by have h : _ = _ := h; omega)
      replace hpl3 := hpl3.mono hs17.le
      replace hb3x := hb3x.mono hs17.le
      clear ho15; have ho15 := hn17; clear hn17
      replace hT := hT.own hs17 (by omega)
      have hz17 := hs17.size
      refine as_q rfl rfl (q_assign rfl) ?_
      refine as_nil (hK23 _ _ ?_)
      clear hK23 K23
      refine cw_rs fun K24 hK24 => ?_
      -- region 20
      refine as_q rfl rfl (q_move rfl) ?_
      first | refine as_q rfl rfl (q_eqT rfl rfl (by omega)) ?_ | refine as_q rfl rfl (q_eqF rfl rfl (by omega)) ?_ | refine as_q rfl rfl (q_eq rfl rfl) ?_
      refine as_q rfl rfl (q_move rfl) ?_
      first | refine as_gskip rfl rfl rfl rfl rfl ?_ | refine as_gskipU rfl rfl rfl rfl ?_ | refine as_gh rfl rfl rfl rfl (h_q rfl (q_move rfl) ?_)
      first | refine as_gskip rfl rfl rfl rfl rfl ?_ | refine as_gskipU rfl rfl rfl rfl ?_ | refine as_gh rfl rfl rfl rfl (h_q rfl (q_eqT rfl rfl (by omega)) ?_) | refine as_gh rfl rfl rfl rfl (h_q rfl (q_eqF rfl rfl (by omega)) ?_) | refine as_gh rfl rfl rfl rfl (h_q rfl (q_eq rfl rfl) ?_)
      first | refine as_gskip rfl rfl rfl rfl rfl ?_ | refine as_gskipU rfl rfl rfl rfl ?_ | refine as_gh rfl rfl rfl rfl (h_q rfl (q_move rfl) ?_)
      first | refine as_gskip rfl rfl rfl rfl rfl ?_ | refine as_gskipU rfl rfl rfl rfl ?_ | refine as_gh rfl rfl rfl rfl (h_q rfl (q_fieldAddr (off := 1) (by kernel_rfl) rfl) ?_)
      first | refine as_gskip rfl rfl rfl rfl rfl ?_ | refine as_gskipU rfl rfl rfl rfl ?_ | refine as_gh rfl rfl rfl rfl (h_q rfl (q_load1 (by kernel_rfl) rfl (by first | exact BlkR.cell (hs17.sat _ _ _ hb1) rfl | exact Blk.cell ho9.1 rfl | exact Blk.cell ho12.1 rfl | exact Blk.cell ho15.1 rfl | assumption)) ?_)
      first | refine as_gskip rfl rfl rfl rfl rfl ?_ | refine as_gskipU rfl rfl rfl rfl ?_ | refine as_gh rfl rfl rfl rfl (h_q rfl (q_len (by kernel_rfl) rfl _) ?_)
      first | refine as_gskip rfl rfl rfl rfl rfl ?_ | refine as_gskipU rfl rfl rfl rfl ?_ | refine as_gh rfl rfl rfl rfl (h_q rfl (q_fieldAddr (off := 1) (by kernel_rfl) rfl) ?_)
      first | refine as_gskip rfl rfl rfl rfl rfl ?_ | refine as_gskipU rfl rfl rfl rfl ?_ | refine as_gh rfl rfl rfl rfl (h_q rfl (q_load1 (by kernel_rfl) rfl (by first | exact BlkR.cell (hs17.sat _ _ _ hb1) rfl | exact Blk.cell ho9.1 rfl | exact Blk.cell ho12.1 rfl | exact Blk.cell ho15.1 rfl | assumption)) ?_)
      first | refine as_gskip rfl rfl rfl rfl rfl ?_ | refine as_gskipU rfl rfl rfl rfl ?_ | refine as_gh rfl rfl rfl rfl (h_q rfl (q_len (by kernel_rfl) rfl _) ?_)
      first | refine as_gskip rfl rfl rfl rfl rfl ?_ | refine as_gskipU rfl rfl rfl rfl ?_ | refine as_gh rfl rfl rfl rfl (h_q rfl (q_ltT rfl rfl (by omega)) ?_) | refine as_gh rfl rfl rfl rfl (h_q rfl (q_ltF rfl rfl (by omega)) ?_) | refine as_gh rfl rfl rfl rfl (h_q rfl (q_lt rfl rfl) ?_)
      first | refine as_gskip rfl rfl rfl rfl rfl ?_ | refine as_gskipU rfl rfl rfl rfl ?_ | refine as_gh rfl rfl rfl rfl (h_q rfl (q_pick_t rfl rfl) ?_) | refine as_gh rfl rfl rfl rfl (h_q rfl (q_pick_f rfl rfl) ?_) | refine as_gh rfl rfl rfl rfl (h_q rfl (q_pick rfl rfl rfl) ?_)
      first | refine as_q rfl rfl (q_pick_t rfl rfl) ?_ | refine as_q rfl rfl (q_pick_f rfl rfl) ?_ | refine as_q rfl rfl (q_pick rfl rfl rfl) ?_
      refine as_q rfl rfl (q_assign rfl) ?_
      refine as_nil (hK24 _ _ ?_)
      clear hK24 K24
      refine cw_ret ?_
      exact ⟨_, (res_tmp rfl res_nil), rfl, hT.forget⟩
    · skip
      refine cw_skip ?_
      refine hK20 _ _ ?_
      clear hK20 K20
      refine cw_rs fun K25 hK25 => ?_
      -- region 18
      refine as_q rfl rfl (q_move rfl) ?_
      refine as_q rfl rfl (q_convx (by kernel_rfl) (by kernel_rfl) rfl (by first | exact wrap64_of (by omega) (by omega) | omega | (simp; omega))) ?_
      refine as_q rfl rfl (q_move rfl) ?_
      refine as_q rfl rfl (q_len (by kernel_rfl) rfl _) ?_
      refine as_q rfl rfl (q_congr (q_rem rfl rfl (by omega)) (v' := .int .i64 kk) (by rw [hkk])) ?_
      refine as_q rfl rfl (q_assign rfl) ?_
      refine as_nil (hK25 _ _ ?_)
      clear hK25 K25
      refine cw_rs fun K26 hK26 => ?_
      -- region 19
      refine as_q rfl rfl (q_move rfl) ?_
      refine as_q rfl rfl (q_move rfl) ?_
      refine as_q rfl rfl (q_slice (e := 2) (size := 1) (k := .i64) (by kernel_rfl) (by kernel_rfl) rfl rfl rfl (by omega) (by omega) (by omega)) ?_
      refine as_h rfl (h_call (by kernel_rfl) rfl ?_)
      have hcb := rd_sub hbs 0 kk (by omega) hkk0 (by omega)
      have hcl : (((build room (keyT ts)).drop (0 : Int).toNat).take (kk.toNat - (0 : Int).toNat)) = (build room (keyT ts)).take kk.toNat := by simp
      have hcn : ((build room (keyT ts)).take kk.toNat).length ≤ 100000 := by rw [List.length_take]; omega
      rw [hcl] at hcb
      refine (parse18 hs14.sat hcn hcb).mono ?_
      rintro v18 w18 ⟨M18, hs18, hp18⟩
      obtain ⟨ov4, ts4, rfl, hk4x, hov4, hag4⟩ := hp18.ok hcut
      have hkl4 : ts4.length = o2.length := by rw [← hk4x, keyT_length]
      obtain ⟨oa4, oc4, rfl, _⟩ := hov4.slice
      replace hb1 := hs18.le _ _ hb1
      replace hv := hv.mono hs18.le
      replace hr := hr.mono hs18.le
      replace ha := ha.mono hs18.le
      replace hov1 := hov1.mono hs18.le
      replace hag1 := hag1.mono hs18.le
      replace ho9 := ho9.then hs18
      replace hbx := hbx.mono hs18.le
      replace hbs := hbs.mono hs18.le
      replace hov3 := hov3.mono hs18.le
      replace hag3 := hag3.mono hs18.le
      replace ho12 := ho12.then hs18
      replace hpl3 := hpl3.mono hs18.le
      replace hb3x := hb3x.mono hs18.le
      replace hT := hT.then hs18
      have hz18 := hs18.size
      refine as_q rfl rfl (q_move rfl) ?_
      refine as_q rfl rfl (q_extract rfl rfl) ?_
      refine as_q rfl rfl (q_extract rfl rfl) ?_
      have hqa15 := hT.size
      refine as_h rfl (h_allocO (z := (.agg #[(.int .i64 0), (.slice none 0 0)])) hs18.sat (by kernel_rfl) rfl fun b15 w19 hs19 ho15 e15 => ?_)
      replace hb1 := hs19.le _ _ hb1
      replace hv := hv.mono hs19.le
      replace hr := hr.mono hs19.le
      replace ha := ha.mono hs19.le
      replace hov1 := hov1.mono hs19.le
      replace hag1 := hag1.mono hs19.le
      replace ho9 := ho9.then hs19
      replace hbx := hbx.mono hs19.le
      replace hbs := hbs.mono hs19.le
      replace hov3 := hov3.mono hs19.le
      replace hag3 := hag3.mono hs19.le
      replace ho12 := ho12.then hs19
      replace hpl3 := hpl3.mono hs19.le
      replace hb3x := hb3x.mono hs19.le
      replace hT := hT.then hs19
      have hz19 := hs19.size
      have hl15 := ho15.1.lt
      refine as_h0 (h_store hs19.sat ho15 rfl rfl rfl (by kernel_rfl) rfl rfl rfl fun w20 hs20 hn20 => ?_)
      replace hb1 := hs20.le _ _ hb1
      replace hv := hv.mono hs20.le
      replace hr := hr.mono hs20.le
      replace ha := ha.mono hs20.le
      replace hov1 := hov1.mono hs20.le
      replace hag1 := hag1.mono hs20.le
      replace ho9 := ho9.step hs20 (fun h => by have h : _ = _ := h; omega)
      replace hbx := hbx.mono hs20.le
      replace hbs := hbs.mono hs20.le
      replace hov3 := hov3.mono hs20.le
      replace hag3 := hag3.mono hs20.le
      replace ho12 := ho12.step hs20 (fun h => by have h : _ = _ := h; omega)
      replace hpl3 := hpl3.mono hs20.le
      replace hb3x := hb3x.mono hs20.le
      clear ho15; have ho15 := hn20; clear hn20
      replace hT := hT.own hs20 (by omega)
      have hz20 := hs20.size
      refine as_q rfl rfl (q_assign rfl) ?_
      refine as_nil (hK26 _ _ ?_)
      clear hK26 K26
      refine cw_rs fun K27 hK27 => ?_
      -- region 20
      refine as_q rfl rfl (q_move rfl) ?_
      first | refine as_q rfl rfl (q_eqT rfl rfl (by omega)) ?_ | refine as_q rfl rfl (q_eqF rfl rfl (by omega)) ?_ | refine as_q rfl rfl (q_eq rfl rfl) ?_
      refine as_q rfl rfl (q_move rfl) ?_
      first | refine as_gskip rfl rfl rfl rfl rfl ?_ | refine as_gskipU rfl rfl rfl rfl ?_ | refine as_gh rfl rfl rfl rfl (h_q rfl (q_move rfl) ?_)
      first | refine as_gskip rfl rfl rfl rfl rfl ?_ | refine as_gskipU rfl rfl rfl rfl ?_ | refine as_gh rfl rfl rfl rfl (h_q rfl (q_eqT rfl rfl (by omega)) ?_) | refine as_gh rfl rfl rfl rfl (h_q rfl (q_eqF rfl rfl (by omega)) ?_) | refine as_gh rfl rfl rfl rfl (h_q rfl (q_eq rfl rfl) ?_)
      first | refine as_gskip rfl rfl rfl rfl rfl ?_ | refine as_gskipU rfl rfl rfl rfl ?_ | refine as_gh rfl rfl rfl rfl (h_q rfl (q_move rfl) ?_)
      first | refine as_gskip rfl rfl rfl rfl rfl ?_ | refine as_gskipU rfl rfl rfl rfl ?_ | refine as_gh rfl rfl rfl rfl (h_q rfl (q_fieldAddr (off := 1) (by kernel_rfl) rfl) ?_)
      first | refine as_gskip rfl rfl rfl rfl rfl ?_ | refine as_gskipU rfl rfl rfl rfl ?_ | refine as_gh rfl rfl rfl rfl (h_q rfl (q_load1 (by kernel_rfl) rfl (by first | exact BlkR.cell (hs20.sat _ _ _ hb1) rfl | exact Blk.cell ho9.1 rfl | exact Blk.cell ho12.1 rfl | exact Blk.cell ho15.1 rfl | assumption)) ?_)
      first | refine as_gskip rfl rfl rfl rfl rfl ?_ | refine as_gskipU rfl rfl rfl rfl ?_ | refine as_gh rfl rfl rfl rfl (h_q rfl (q_len (by kernel_rfl) rfl _) ?_)
      first | refine as_gskip rfl rfl rfl rfl rfl ?_ | refine as_gskipU rfl rfl rfl rfl ?_ | refine as_gh rfl rfl rfl rfl (h_q rfl (q_fieldAddr (off := 1) (by kernel_rfl) rfl) ?_)
      first | refine as_gskip rfl rfl rfl rfl rfl ?_ | refine as_gskipU rfl rfl rfl rfl ?_ | refine as_gh rfl rfl rfl rfl (h_q rfl (q_load1 (by kernel_rfl) rfl (by first | exact BlkR.cell (hs20.sat _ _ _ hb1) rfl | exact Blk.cell ho9.1 rfl | exact Blk.cell ho12.1 rfl | exact Blk.cell ho15.1 rfl | assumption)) ?_)
      first | refine as_gskip rfl rfl rfl rfl rfl ?_ | refine as_gskipU rfl rfl rfl rfl ?_ | refine as_gh rfl rfl rfl rfl (h_q rfl (q_len (by kernel_rfl) rfl _) ?_)
      first | refine as_gskip rfl rfl rfl rfl rfl ?_ | refine as_gskipU rfl rfl rfl rfl ?_ | refine as_gh rfl rfl rfl rfl (h_q rfl (q_ltT rfl rfl (by omega)) ?_) | refine as_gh rfl rfl rfl rfl (h_q rfl (q_ltF rfl rfl (by omega)) ?_) | refine as_gh rfl rfl rfl rfl (h_q rfl (q_lt rfl rfl) ?_)
      first | refine as_gskip rfl rfl rfl rfl rfl ?_ | refine as_gskipU rfl rfl rfl rfl ?_ | refine as_gh rfl rfl rfl rfl (h_q rfl (q_pick_t rfl rfl) ?_) | refine as_gh rfl rfl rfl rfl (h_q rfl (q_pick_f rfl rfl) ?_) | refine as_gh rfl rfl rfl rfl (h_q rfl (q_pick rfl rfl rfl) ?_)
      first | refine as_q rfl rfl (q_pick_t rfl rfl) ?_ | refine as_q rfl rfl (q_pick_f rfl rfl) ?_ | refine as_q rfl rfl (q_pick rfl rfl rfl) ?_
      refine as_q rfl rfl (q_assign rfl) ?_
      refine as_nil (hK27 _ _ ?_)
      clear hK27 K27
      refine cw_ret ?_
      exact ⟨_, (res_tmp rfl res_nil), rfl, hT.forget⟩

set_option maxHeartbeats 4000000 in
theorem back_err {w0 : World} {M0 : Mem} {v : Value} {n oc : Nat} {zs : List Int} {room cut : Int} {oa : Option Addr} {ts : List T3} (hs : Sat M0 w0) (hv : RdM M0 1 v n (i64s zs)) (hr : RdM M0 2 (.slice oa ts.length oc) ts.length (flat ts)) (ha : ArgsM M0 ts) (hcu0 : 0 ≤ cut) (hcu1 : cut ≤ 255) (h1 : n ≤ 1600) (h2 : ts.length ≤ 256) (h3 : 0 ≤ room) (h4 : room ≤ 64) {e9 : Int} (hpz : parse zs = .error e9) :
    Does Try.prog 6 #[v, .agg #[.int .i64 room, .slice oa ts.length oc], .int .u8 cut] w0 (fun v w' => v = .bool true ∧ Step Nope M0 w0 M0 w') := by
  have hT := Step.refl Nope hs
  obtain ⟨a, vc, rfl, hvc, _⟩ := hv.slice
  have hl : zs.length = n := by have := hv.1; rw [i64s_length] at this; omega
  refine fn_enter Try.func6 rfl (rs := [.tmp 6]) rfl rfl rfl rfl ?_
  refine cw_rs fun K1 hK1 => ?_
  -- region 0
  refine as_h rfl (h_boxM hs rfl rfl fun b1 M1 w1 hs1 hb1 e1 => ?_)
  replace hv := hv.mono hs1.le
  replace hr := hr.mono hs1.le
  replace ha := ha.mono hs1.le
  replace hT := hT.then hs1
  have hz1 := hs1.size
  refine as_q rfl rfl (q_assign rfl) ?_
  refine as_nil (hK1 _ _ ?_)
  clear hK1 K1
  refine cw_rs fun K2 hK2 => ?_
  -- region 1
  refine as_h rfl (h_call (by kernel_rfl) rfl ?_)
  refine (awake18 hs1.sat).mono ?_
  rintro _ w2 ⟨rfl, hs2⟩
  replace hv := hv.mono hs2.le
  replace hr := hr.mono hs2.le
  replace ha := ha.mono hs2.le
  replace hb1 := hs2.le _ _ hb1
  replace hT := hT.then hs2
  have hz2 := hs2.size
  refine as_q rfl rfl (q_assign rfl) ?_
  refine as_nil (hK2 _ _ ?_)
  clear hK2 K2
  refine cw_seq fun K3 hK3 => ?_
  refine cw_rs fun K4 hK4 => ?_
  -- region 2
  refine as_q rfl rfl (q_move rfl) ?_
  refine as_q rfl rfl (q_not rfl) ?_
  refine as_nil (hK4 _ _ ?_)
  clear hK4 K4
  refine cw_false rfl ?_
  refine cw_skip ?_
  refine hK3 _ _ ?_
  clear hK3 K3
  refine cw_seq fun K5 hK5 => ?_
  refine cw_rs fun K6 hK6 => ?_
  -- region 4
  refine as_q rfl rfl (q_move rfl) ?_
  refine as_q rfl rfl (q_len (by kernel_rfl) rfl _) ?_
  first | refine as_q rfl rfl (q_gtT rfl rfl (by omega)) ?_ | refine as_q rfl rfl (q_gtF rfl rfl (by omega)) ?_ | refine as_q rfl rfl (q_gt rfl rfl) ?_
  refine as_q rfl rfl (q_move rfl) ?_
  first | refine as_gskip rfl rfl rfl rfl rfl ?_ | refine as_gskipU rfl rfl rfl rfl ?_ | refine as_gh rfl rfl rfl rfl (h_q rfl (q_fieldAddr (off := 1) (by kernel_rfl) rfl) ?_)
  first | refine as_gskip rfl rfl rfl rfl rfl ?_ | refine as_gskipU rfl rfl rfl rfl ?_ | refine as_gh rfl rfl rfl rfl (h_q rfl (q_load1 (by kernel_rfl) rfl (by first | exact BlkR.cell (hs2.sat _ _ _ hb1) rfl | assumption)) ?_)
  first | refine as_gskip rfl rfl rfl rfl rfl ?_ | refine as_gskipU rfl rfl rfl rfl ?_ | refine as_gh rfl rfl rfl rfl (h_q rfl (q_len (by kernel_rfl) rfl _) ?_)
  first | refine as_gskip rfl rfl rfl rfl rfl ?_ | refine as_gskipU rfl rfl rfl rfl ?_ | refine as_gh rfl rfl rfl rfl (h_q rfl (q_gtT rfl rfl (by omega)) ?_) | refine as_gh rfl rfl rfl rfl (h_q rfl (q_gtF rfl rfl (by omega)) ?_) | refine as_gh rfl rfl rfl rfl (h_q rfl (q_gt rfl rfl) ?_)
  first | refine as_q rfl rfl (q_pick_t rfl rfl) ?_ | refine as_q rfl rfl (q_pick_f rfl rfl) ?_ | refine as_q rfl rfl (q_pick rfl rfl rfl) ?_
  refine as_q rfl rfl (q_move rfl) ?_
  first | refine as_gskip rfl rfl rfl rfl rfl ?_ | refine as_gskipU rfl rfl rfl rfl ?_ | refine as_gh rfl rfl rfl rfl (h_q rfl (q_fieldAddr (off := 0) (by kernel_rfl) rfl) ?_)
  first | refine as_gskip rfl rfl rfl rfl rfl ?_ | refine as_gskipU rfl rfl rfl rfl ?_ | refine as_gh rfl rfl rfl rfl (h_q rfl (q_load1 (by kernel_rfl) rfl (by first | exact BlkR.cell (hs2.sat _ _ _ hb1) rfl | assumption)) ?_)
  first | refine as_gskip rfl rfl rfl rfl rfl ?_ | refine as_gskipU rfl rfl rfl rfl ?_ | refine as_gh rfl rfl rfl rfl (h_q rfl (q_ltT rfl rfl (by omega)) ?_) | refine as_gh rfl rfl rfl rfl (h_q rfl (q_ltF rfl rfl (by omega)) ?_) | refine as_gh rfl rfl rfl rfl (h_q rfl (q_lt rfl rfl) ?_)
  first | refine as_q rfl rfl (q_pick_t rfl rfl) ?_ | refine as_q rfl rfl (q_pick_f rfl rfl) ?_ | refine as_q rfl rfl (q_pick rfl rfl rfl) ?_
  refine as_q rfl rfl (q_move rfl) ?_
  first | refine as_gskip rfl rfl rfl rfl rfl ?_ | refine as_gskipU rfl rfl rfl rfl ?_ | refine as_gh rfl rfl rfl rfl (h_q rfl (q_fieldAddr (off := 0) (by kernel_rfl) rfl) ?_)
  first | refine as_gskip rfl rfl rfl rfl rfl ?_ | refine as_gskipU rfl rfl rfl rfl ?_ | refine as_gh rfl rfl rfl rfl (h_q rfl (q_load1 (by kernel_rfl) rfl (by first | exact BlkR.cell (hs2.sat _ _ _ hb1) rfl | assumption)) ?_)
  first | refine as_gskip rfl rfl rfl rfl rfl ?_ | refine as_gskipU rfl rfl rfl rfl ?_ | refine as_gh rfl rfl rfl rfl (h_q rfl (q_gtT rfl rfl (by omega)) ?_) | refine as_gh rfl rfl rfl rfl (h_q rfl (q_gtF rfl rfl (by omega)) ?_) | refine as_gh rfl rfl rfl rfl (h_q rfl (q_gt rfl rfl) ?_)
  first | refine as_q rfl rfl (q_pick_t rfl rfl) ?_ | refine as_q rfl rfl (q_pick_f rfl rfl) ?_ | refine as_q rfl rfl (q_pick rfl rfl rfl) ?_
  refine as_nil (hK6 _ _ ?_)
  clear hK6 K6
  refine cw_false rfl ?_
  refine cw_skip ?_
  refine hK5 _ _ ?_
  clear hK5 K5
  refine cw_seq fun K7 hK7 => ?_
  refine cw_rs fun K8 hK8 => ?_
  -- region 6
  refine as_q rfl rfl (q_assign rfl) ?_
  refine as_nil (hK8 _ _ ?_)
  clear hK8 K8
  refine cw_block ?_
  refine cw_loop (fun mm l w1 => ∃ (i : Nat), mm = ts.length - i ∧ i ≤ ts.length ∧ (∀ j t, j < i → ts[j]? = some t → t.2.1.length ≤ 4) ∧ l = [(0, .slice a n vc), (2, .int .u8 cut), (4, .pointer (some ⟨b1, 0, none⟩)), (8, .int .i64 i)] ∧ Step Nope M0 w0 M1 w1) (ts.length) [(0, .slice a n vc), (2, .int .u8 cut), (4, .pointer (some ⟨b1, 0, none⟩)), (8, .int .i64 (0 : Nat))] (.cons rfl (.cons rfl (.cons rfl (.cons rfl (.nil _))))) ?_ ?_
  · skip
    exact ⟨0, rfl, Nat.zero_le _, fun j t hj => by omega, rfl, hT⟩
  clear hT
  rintro mm l w1 ⟨i, rfl, hi, hall, rfl, hT⟩
  refine cw_seq fun K9 hK9 => ?_
  refine cw_rs fun K10 hK10 => ?_
  -- region 7
  refine as_q rfl rfl (q_move rfl) ?_
  refine as_q rfl rfl (q_fieldAddr (off := 1) (by kernel_rfl) rfl) ?_
  refine as_q rfl rfl (q_load1 (by kernel_rfl) rfl (by first | exact BlkR.cell (hT.sat _ _ _ hb1) rfl | assumption)) ?_
  refine as_q rfl rfl (q_len (by kernel_rfl) rfl _) ?_
  first | refine as_q rfl rfl (q_ltT rfl rfl (by omega)) ?_ | refine as_q rfl rfl (q_ltF rfl rfl (by omega)) ?_ | refine as_q rfl rfl (q_lt rfl rfl) ?_
  refine as_nil (hK10 _ _ ?_)
  clear hK10 K10
  refine cw_cond rfl (fun hc2 => ?_) (fun hc2 => ?_)
  · skip
    have hlt : i < ts.length := by have := of_decide_eq_true hc2; omega
    obtain ⟨g, o, rfl⟩ := hr.there (by omega)
    obtain ⟨⟨tc, tz, tv⟩, hti⟩ : ∃ t, ts[i]? = some t := ⟨ts[i], by simp⟩
    have hta : RdM M1 1 tv tz.length (i64s tz) := ha _ (List.mem_of_getElem? hti)
    obtain ⟨tva, tvc, rfl, _⟩ := hta.slice
    refine cw_skip ?_
    refine hK9 _ _ ?_
    clear hK9 K9
    refine cw_seq fun K11 hK11 => ?_
    refine cw_block ?_
    refine cw_rs fun K12 hK12 => ?_
    -- region 9
    refine as_q rfl rfl (q_fieldAddr (off := 1) (by kernel_rfl) rfl) ?_
    refine as_q rfl rfl (q_load1 (by kernel_rfl) rfl (by first | exact BlkR.cell (hT.sat _ _ _ hb1) rfl | assumption)) ?_
    refine as_q rfl rfl (q_move rfl) ?_
    refine as_q rfl rfl (q_indexAddr (e := 51) (size := 2) (by kernel_rfl) (by kernel_rfl) rfl rfl (by omega) (by omega)) ?_
    refine as_q rfl rfl (q_fieldAddr (off := 1) (by kernel_rfl) rfl) ?_
    refine as_q rfl rfl (q_load1 (by kernel_rfl) rfl ((hr.elem hT.sat rfl (flat_elem (j := (i : Int).toNat) (by simpa using hti))).2 1 _ rfl)) ?_
    refine as_q rfl rfl (q_len (by kernel_rfl) rfl _) ?_
    first | refine as_q rfl rfl (q_gtT rfl rfl (by omega)) ?_ | refine as_q rfl rfl (q_gtF rfl rfl (by omega)) ?_ | refine as_q rfl rfl (q_gt rfl rfl) ?_
    refine as_nil (hK12 _ _ ?_)
    clear hK12 K12
    refine cw_cond rfl (fun hc3 => ?_) (fun hc3 => ?_)
    · skip
      refine cw_rs fun K13 hK13 => ?_
      -- region 10
      refine as_q rfl rfl (q_assign rfl) ?_
      refine as_nil (hK13 _ _ ?_)
      clear hK13 K13
      refine cw_ret ?_
      exact ⟨_, (res_tmp rfl res_nil), rfl, hT.forget⟩
    · skip
      have h20 : tz.length ≤ 4 := by have := of_decide_eq_false hc3; omega
      refine cw_skip ?_
      refine hK11 _ _ ?_
      clear hK11 K11
      refine cw_region fun K14 hK14 => ?_
      -- region 8
      refine as_q rfl rfl (q_move rfl) ?_
      refine as_q rfl rfl (q_addx rfl rfl (by omega) (by omega)) ?_
      refine as_q rfl rfl (q_assign rfl) ?_
      refine as_nil (hK14 _ _ ?_)
      clear hK14 K14
      refine ⟨_, _, ?_, (.cons rfl (.cons rfl (.cons rfl (.cons rfl (.nil _))))), i + 1, rfl, by omega, fun j t hj ht => ?_, rfl, hT⟩
      · omega
      · rcases Nat.lt_or_ge j i with h | h
        · exact hall j t h ht
        · obtain rfl : j = i := by omega
          rw [hti] at ht
          cases ht
          exact h20
  · skip
    have hge : i = ts.length := by have := of_decide_eq_false hc2; omega
    have hk4 : ∀ o ∈ keyT ts, o.2.length ≤ 4 := fun o ho => by
      obtain ⟨t, ht, rfl⟩ := List.mem_map.1 ho
      obtain ⟨j, hj⟩ := List.getElem?_of_mem ht
      exact hall j t (by have := (List.getElem?_eq_some_iff.1 hj).1; omega) hj
    have h20 : (build room (keyT ts)).length ≤ 1 + ts.length * 6 := by
      have h := build_le room 4 (keyT ts) hk4
      rw [keyT_length] at h
      exact h
    have hbp := build_ge room (keyT ts)
    obtain ⟨kk, hkk⟩ : ∃ k, cut.tmod ((build room (keyT ts)).length : Int) = k := ⟨_, rfl⟩
    have hkk0 : 0 ≤ kk := by rw [← hkk, Int.tmod_eq_emod_of_nonneg hcu0]; exact Int.emod_nonneg _ (by omega)
    have hkk1 : kk < (build room (keyT ts)).length := by rw [← hkk, Int.tmod_eq_emod_of_nonneg hcu0]; exact Int.emod_lt_of_pos _ (by omega)
    have hcut := parse_cut (k := kk.toNat) h3 h4 (by rw [keyT_length]; exact h2) hk4 (by omega)
    rw [keyT_length] at hcut
    refine cw_exit ?_
    refine hK7 _ _ ?_
    clear hK9 K9
    clear hK7 K7
    refine cw_rs fun K15 hK15 => ?_
    -- region 11
    refine as_q rfl rfl (q_move rfl) ?_
    refine as_h rfl (h_call (by kernel_rfl) rfl ?_)
    refine (parse18 hT.sat (by omega) hv).mono ?_
    rintro v3 w3 ⟨M3, hs3, hp3⟩
    have hne9 := hp3.ne hpz
    obtain ⟨oa1, oc1, rfl, hov1⟩ := hp3.no hpz
    replace hb1 := hs3.le _ _ hb1
    replace hv := hv.mono hs3.le
    replace hr := hr.mono hs3.le
    replace ha := ha.mono hs3.le
    replace hT := hT.then hs3
    have hz3 := hs3.size
    refine as_q rfl rfl (q_move rfl) ?_
    refine as_q rfl rfl (q_extract rfl rfl) ?_
    refine as_q rfl rfl (q_extract rfl rfl) ?_
    have hqa9 := hT.size
    refine as_h rfl (h_allocO (z := (.agg #[(.int .i64 0), (.slice none 0 0)])) hs3.sat (by kernel_rfl) rfl fun b9 w4 hs4 ho9 e9 => ?_)
    replace hb1 := hs4.le _ _ hb1
    replace hv := hv.mono hs4.le
    replace hr := hr.mono hs4.le
    replace ha := ha.mono hs4.le
    replace hov1 := hov1.mono hs4.le
    replace hT := hT.then hs4
    have hz4 := hs4.size
    have hl9 := ho9.1.lt
    refine as_h0 (h_store hs4.sat ho9 rfl rfl rfl (by kernel_rfl) rfl rfl rfl fun w5 hs5 hn5 => ?_)
    replace hb1 := hs5.le _ _ hb1
    replace hv := hv.mono hs5.le
    replace hr := hr.mono hs5.le
    replace ha := ha.mono hs5.le
    replace hov1 := hov1.mono hs5.le
    clear ho9; have ho9 := hn5; clear hn5
    replace hT := hT.own hs5 (by omega)
    have hz5 := hs5.size
    refine as_q rfl rfl (q_assign rfl) ?_
    refine as_nil (hK15 _ _ ?_)
    clear hK15 K15
    refine cw_seq fun K16 hK16 => ?_
    refine cw_rs fun K17 hK17 => ?_
    -- region 12
    refine as_q rfl rfl (q_move rfl) ?_
    first | refine as_q rfl rfl (q_eqT rfl rfl (by omega)) ?_ | refine as_q rfl rfl (q_eqF rfl rfl (by omega)) ?_ | refine as_q rfl rfl (q_eq rfl rfl) ?_
    refine as_q rfl rfl (q_move rfl) ?_
    first | refine as_gskip rfl rfl rfl rfl rfl ?_ | refine as_gskipU rfl rfl rfl rfl ?_ | refine as_gh rfl rfl rfl rfl (h_q rfl (q_loadc (n := 2) (by kernel_rfl) rfl (by first | exact BlkR.cells (hs5.sat _ _ _ hb1) rfl | exact Blk.cells ho9.1 rfl | assumption)) ?_)
    first | refine as_gskip rfl rfl rfl rfl rfl ?_ | refine as_gskipU rfl rfl rfl rfl ?_
    first | refine as_gskip rfl rfl rfl rfl rfl ?_ | refine as_gskipU rfl rfl rfl rfl ?_ | refine as_gh rfl rfl rfl rfl (h_q rfl (q_move rfl) ?_)
    first | refine as_gskip rfl rfl rfl rfl rfl ?_ | refine as_gskipU rfl rfl rfl rfl ?_
    first | refine as_gskip rfl rfl rfl rfl rfl ?_ | refine as_gskipU rfl rfl rfl rfl ?_ | refine as_gh rfl rfl rfl rfl (h_q rfl (q_not rfl) ?_)
    first | refine as_q rfl rfl (q_pick_t rfl rfl) ?_ | refine as_q rfl rfl (q_pick_f rfl rfl) ?_ | refine as_q rfl rfl (q_pick rfl rfl rfl) ?_
    refine as_q rfl rfl (q_move rfl) ?_
    first | refine as_gskip rfl rfl rfl rfl rfl ?_ | refine as_gskipU rfl rfl rfl rfl ?_ | refine as_gh rfl rfl rfl rfl (h_q rfl (q_move rfl) ?_)
    first | refine as_gskip rfl rfl rfl rfl rfl ?_ | refine as_gskipU rfl rfl rfl rfl ?_ | refine as_gh rfl rfl rfl rfl (h_q rfl (q_neT rfl rfl (by omega)) ?_) | refine as_gh rfl rfl rfl rfl (h_q rfl (q_neF rfl rfl (by omega)) ?_) | refine as_gh rfl rfl rfl rfl (h_q rfl (q_ne rfl rfl) ?_)
    first | refine as_gskip rfl rfl rfl rfl rfl ?_ | refine as_gskipU rfl rfl rfl rfl ?_ | refine as_gh rfl rfl rfl rfl (h_q rfl (q_move rfl) ?_)
    first | refine as_gskip rfl rfl rfl rfl rfl ?_ | refine as_gskipU rfl rfl rfl rfl ?_ | refine as_gh rfl rfl rfl rfl (h_q rfl (q_fieldAddr (off := 1) (by kernel_rfl) rfl) ?_)
    first | refine as_gskip rfl rfl rfl rfl rfl ?_ | refine as_gskipU rfl rfl rfl rfl ?_ | refine as_gh rfl rfl rfl rfl (h_q rfl (q_load1 (by kernel_rfl) rfl (by first | exact BlkR.cell (hs5.sat _ _ _ hb1) rfl | exact Blk.cell ho9.1 rfl | assumption)) ?_)
    first | refine as_gskip rfl rfl rfl rfl rfl ?_ | refine as_gskipU rfl rfl rfl rfl ?_ | refine as_gh rfl rfl rfl rfl (h_q rfl (q_len (by kernel_rfl) rfl _) ?_)
    first | refine as_gskip rfl rfl rfl rfl rfl ?_ | refine as_gskipU rfl rfl rfl rfl ?_ | refine as_gh rfl rfl rfl rfl (h_q rfl (q_fieldAddr (off := 0) (by kernel_rfl) rfl) ?_)
    first | refine as_gskip rfl rfl rfl rfl rfl ?_ | refine as_gskipU rfl rfl rfl rfl ?_ | refine as_gh rfl rfl rfl rfl (h_q rfl (q_load1 (by kernel_rfl) rfl (by first | exact BlkR.cell (hs5.sat _ _ _ hb1) rfl | exact Blk.cell ho9.1 rfl | assumption)) ?_)
    first | refine as_gskip rfl rfl rfl rfl rfl ?_ | refine as_gskipU rfl rfl rfl rfl ?_ | refine as_gh rfl rfl rfl rfl (h_q rfl (q_addx rfl rfl (by omega) (by omega)) ?_)
    first | refine as_gskip rfl rfl rfl rfl rfl ?_ | refine as_gskipU rfl rfl rfl rfl ?_ | refine as_gh rfl rfl rfl rfl (h_q rfl (q_neT rfl rfl (by omega)) ?_) | refine as_gh rfl rfl rfl rfl (h_q rfl (q_neF rfl rfl (by omega)) ?_) | refine as_gh rfl rfl rfl rfl (h_q rfl (q_ne rfl rfl) ?_)
    first | refine as_gskip rfl rfl rfl rfl rfl ?_ | refine as_gskipU rfl rfl rfl rfl ?_ | refine as_gh rfl rfl rfl rfl (h_q rfl (q_pick_t rfl rfl) ?_) | refine as_gh rfl rfl rfl rfl (h_q rfl (q_pick_f rfl rfl) ?_) | refine as_gh rfl rfl rfl rfl (h_q rfl (q_pick rfl rfl rfl) ?_)
    first | refine as_q rfl rfl (q_pick_t rfl rfl) ?_ | refine as_q rfl rfl (q_pick_f rfl rfl) ?_ | refine as_q rfl rfl (q_pick rfl rfl rfl) ?_
    refine as_nil (hK17 _ _ ?_)
    clear hK17 K17
    refine cw_false rfl ?_
    refine cw_skip ?_
    refine hK16 _ _ ?_
    clear hK16 K16
    refine cw_rs fun K18 hK18 => ?_
    -- region 14
    refine as_q rfl rfl (q_loadc (n := 2) (by kernel_rfl) rfl (by first | exact BlkR.cells (hs5.sat _ _ _ hb1) rfl | exact Blk.cells ho9.1 rfl | assumption)) ?_
    refine as_h rfl (h_call (by kernel_rfl) rfl ?_)
    refine (build18 (ts := ts) hs5.sat hr ha (by omega)).frozen.mono ?_
    rintro v6 w6 ⟨M6, hs6, hbs⟩
    replace hb1 := hs6.le _ _ hb1
    replace hv := hv.mono hs6.le
    replace hr := hr.mono hs6.le
    replace ha := ha.mono hs6.le
    replace hov1 := hov1.mono hs6.le
    replace ho9 := ho9.then hs6
    replace hT := hT.then hs6
    have hz6 := hs6.size
    obtain ⟨ba, bc, rfl, hbc, _⟩ := hbs.slice
    refine as_q rfl rfl (q_assign rfl) ?_
    refine as_nil (hK18 _ _ ?_)
    clear hK18 K18
    refine cw_rs fun K19 hK19 => ?_
    -- region 15
    refine as_q rfl rfl (q_move rfl) ?_
    refine as_h rfl (h_call (by kernel_rfl) rfl ?_)
    refine (parse18 hs6.sat (by omega) hbs).mono ?_
    rintro v7 w7 ⟨M7, hs7, hp7⟩
    obtain ⟨ov3, ts3, rfl, hk3, hov3, hag3⟩ := hp7.ok (parse_back h3 h4 (by rw [keyT_length]; exact h2) hk4)
    have hkl3 : ts3.length = ts.length := by rw [← keyT_length ts, ← hk3, keyT_length]
    obtain ⟨oa3, oc3, rfl, _⟩ := hov3.slice
    replace hb1 := hs7.le _ _ hb1
    replace hv := hv.mono hs7.le
    replace hr := hr.mono hs7.le
    replace ha := ha.mono hs7.le
    replace hov1 := hov1.mono hs7.le
    replace ho9 := ho9.then hs7
    replace hbs := hbs.mono hs7.le
    replace hT := hT.then hs7
    have hz7 := hs7.size
    refine as_q rfl rfl (q_move rfl) ?_
    refine as_q rfl rfl (q_extract rfl rfl) ?_
    refine as_q rfl rfl (q_extract rfl rfl) ?_
    have hqa12 := hT.size
    refine as_h rfl (h_allocO (z := (.agg #[(.int .i64 0), (.slice none 0 0)])) hs7.sat (by kernel_rfl) rfl fun b12 w8 hs8 ho12 e12 => ?_)
    replace hb1 := hs8.le _ _ hb1
    replace hv := hv.mono hs8.le
    replace hr := hr.mono hs8.le
    replace ha := ha.mono hs8.le
    replace hov1 := hov1.mono hs8.le
    replace ho9 := ho9.then hs8
    replace hbs := hbs.mono hs8.le
    replace hov3 := hov3.mono hs8.le
    replace hag3 := hag3.mono hs8.le
    replace hT := hT.then hs8
    have hz8 := hs8.size
    have hl12 := ho12.1.lt
    refine as_h0 (h_store hs8.sat ho12 rfl rfl rfl (by kernel_rfl) rfl rfl rfl fun w9 hs9 hn9 => ?_)
    replace hb1 := hs9.le _ _ hb1
    replace hv := hv.mono hs9.le
    replace hr := hr.mono hs9.le
    replace ha := ha.mono hs9.le
    replace hov1 := hov1.mono hs9.le
    replace ho9 := ho9.step hs9 (fun h => by have h : _ = _ := h; omega)
    replace hbs := hbs.mono hs9.le
    replace hov3 := hov3.mono hs9.le
    replace hag3 := hag3.mono hs9.le
    clear ho12; have ho12 := hn9; clear hn9
    replace hT := hT.own hs9 (by omega)
    have hz9 := hs9.size
    refine as_q rfl rfl (q_assign rfl) ?_
    refine as_nil (hK19 _ _ ?_)
    clear hK19 K19
    refine cw_seq fun K20 hK20 => ?_
    refine cw_rs fun K21 hK21 => ?_
    -- region 16
    refine as_q rfl rfl (q_move rfl) ?_
    first | refine as_q rfl rfl (q_neT rfl rfl (by omega)) ?_ | refine as_q rfl rfl (q_neF rfl rfl (by omega)) ?_ | refine as_q rfl rfl (q_ne rfl rfl) ?_
    refine as_q rfl rfl (q_move rfl) ?_
    first | refine as_gskip rfl rfl rfl rfl rfl ?_ | refine as_gskipU rfl rfl rfl rfl ?_ | refine as_gh rfl rfl rfl rfl (h_q rfl (q_loadc (n := 2) (by kernel_rfl) rfl (by first | exact BlkR.cells (hs9.sat _ _ _ hb1) rfl | exact Blk.cells ho9.1 rfl | exact Blk.cells ho12.1 rfl | assumption)) ?_)
    refine as_gh rfl rfl rfl rfl (h_call (by kernel_rfl) rfl ?_)
    refine (plain18 (ts := ts3) hs9.sat hov3 hag3 (by omega)).mono ?_
    rintro _ w10 ⟨pv10, rfl, M10, hs10, hpl3⟩
    obtain ⟨pa10, pc10, rfl, _⟩ := hpl3.slice
    replace hb1 := hs10.le _ _ hb1
    replace hv := hv.mono hs10.le
    replace hr := hr.mono hs10.le
    replace ha := ha.mono hs10.le
    replace hov1 := hov1.mono hs10.le
    replace ho9 := ho9.then hs10
    replace hbs := hbs.mono hs10.le
    replace hov3 := hov3.mono hs10.le
    replace hag3 := hag3.mono hs10.le
    replace ho12 := ho12.then hs10
    replace hT := hT.then hs10
    have hz10 := hs10.size
    refine as_gh rfl rfl rfl rfl (h_call (by kernel_rfl) rfl ?_)
    refine (rbuild18 (ts := ts3) hs10.sat hpl3 hag3 (by rw [hk3]; omega)).mono ?_
    rintro v11 w11 ⟨M11, hs11, hb3x⟩
    replace hb1 := hs11.le _ _ hb1
    replace hv := hv.mono hs11.le
    replace hr := hr.mono hs11.le
    replace ha := ha.mono hs11.le
    replace hov1 := hov1.mono hs11.le
    replace ho9 := ho9.then hs11
    replace hbs := hbs.mono hs11.le
    replace hov3 := hov3.mono hs11.le
    replace hag3 := hag3.mono hs11.le
    replace ho12 := ho12.then hs11
    replace hpl3 := hpl3.mono hs11.le
    replace hT := hT.then hs11
    have hz11 := hs11.size
    first | refine as_gskip rfl rfl rfl rfl rfl ?_ | refine as_gskipU rfl rfl rfl rfl ?_ | refine as_gh rfl rfl rfl rfl (h_q rfl (q_move rfl) ?_)
    refine as_gh rfl rfl rfl rfl (h_call (by kernel_rfl) rfl ?_)
    refine (same18 hs11.sat (by rw [hk3]; omega) hb3x hbs).mono ?_
    rintro v12 w12 ⟨hv12, hs12⟩
    obtain rfl : v12 = .bool true := hv12.trans (congrArg Value.bool (decide_eq_true (by rw [hk3])))
    replace hb1 := hs12.le _ _ hb1
    replace hv := hv.mono hs12.le
    replace hr := hr.mono hs12.le
    replace ha := ha.mono hs12.le
    replace hov1 := hov1.mono hs12.le
    replace ho9 := ho9.then hs12
    replace hbs := hbs.mono hs12.le
    replace hov3 := hov3.mono hs12.le
    replace hag3 := hag3.mono hs12.le
    replace ho12 := ho12.then hs12
    replace hpl3 := hpl3.mono hs12.le
    replace hb3x := hb3x.mono hs12.le
    replace hT := hT.then hs12
    have hz12 := hs12.size
    first | refine as_gskip rfl rfl rfl rfl rfl ?_ | refine as_gskipU rfl rfl rfl rfl ?_ | refine as_gh rfl rfl rfl rfl (h_q rfl (q_not rfl) ?_)
    first | refine as_q rfl rfl (q_pick_t rfl rfl) ?_ | refine as_q rfl rfl (q_pick_f rfl rfl) ?_ | refine as_q rfl rfl (q_pick rfl rfl rfl) ?_
    refine as_q rfl rfl (q_move rfl) ?_
    first | refine as_gskip rfl rfl rfl rfl rfl ?_ | refine as_gskipU rfl rfl rfl rfl ?_ | refine as_gh rfl rfl rfl rfl (h_q rfl (q_fieldAddr (off := 1) (by kernel_rfl) rfl) ?_)
    first | refine as_gskip rfl rfl rfl rfl rfl ?_ | refine as_gskipU rfl rfl rfl rfl ?_ | refine as_gh rfl rfl rfl rfl (h_q rfl (q_load1 (by kernel_rfl) rfl (by first | exact BlkR.cell (hs12.sat _ _ _ hb1) rfl | exact Blk.cell ho9.1 rfl | exact Blk.cell ho12.1 rfl | assumption)) ?_)
    first | refine as_gskip rfl rfl rfl rfl rfl ?_ | refine as_gskipU rfl rfl rfl rfl ?_ | refine as_gh rfl rfl rfl rfl (h_q rfl (q_len (by kernel_rfl) rfl _) ?_)
    first | refine as_gskip rfl rfl rfl rfl rfl ?_ | refine as_gskipU rfl rfl rfl rfl ?_ | refine as_gh rfl rfl rfl rfl (h_q rfl (q_fieldAddr (off := 1) (by kernel_rfl) rfl) ?_)
    first | refine as_gskip rfl rfl rfl rfl rfl ?_ | refine as_gskipU rfl rfl rfl rfl ?_ | refine as_gh rfl rfl rfl rfl (h_q rfl (q_load1 (by kernel_rfl) rfl (by first | exact BlkR.cell (hs12.sat _ _ _ hb1) rfl | exact Blk.cell ho9.1 rfl | exact Blk.cell ho12.1 rfl | assumption)) ?_)
    first | refine as_gskip rfl rfl rfl rfl rfl ?_ | refine as_gskipU rfl rfl rfl rfl ?_ | refine as_gh rfl rfl rfl rfl (h_q rfl (q_len (by kernel_rfl) rfl _) ?_)
    first | refine as_gskip rfl rfl rfl rfl rfl ?_ | refine as_gskipU rfl rfl rfl rfl ?_ | refine as_gh rfl rfl rfl rfl (h_q rfl (q_neT rfl rfl (by omega)) ?_) | refine as_gh rfl rfl rfl rfl (h_q rfl (q_neF rfl rfl (by omega)) ?_) | refine as_gh rfl rfl rfl rfl (h_q rfl (q_ne rfl rfl) ?_)
    first | refine as_q rfl rfl (q_pick_t rfl rfl) ?_ | refine as_q rfl rfl (q_pick_f rfl rfl) ?_ | refine as_q rfl rfl (q_pick rfl rfl rfl) ?_
    refine as_q rfl rfl (q_move rfl) ?_
    first | refine as_gskip rfl rfl rfl rfl rfl ?_ | refine as_gskipU rfl rfl rfl rfl ?_ | refine as_gh rfl rfl rfl rfl (h_q rfl (q_fieldAddr (off := 0) (by kernel_rfl) rfl) ?_)
    first | refine as_gskip rfl rfl rfl rfl rfl ?_ | refine as_gskipU rfl rfl rfl rfl ?_ | refine as_gh rfl rfl rfl rfl (h_q rfl (q_load1 (by kernel_rfl) rfl (by first | exact BlkR.cell (hs12.sat _ _ _ hb1) rfl | exact Blk.cell ho9.1 rfl | exact Blk.cell ho12.1 rfl | assumption)) ?_)
    first | refine as_gskip rfl rfl rfl rfl rfl ?_ | refine as_gskipU rfl rfl rfl rfl ?_ | refine as_gh rfl rfl rfl rfl (h_q rfl (q_fieldAddr (off := 0) (by kernel_rfl) rfl) ?_)
    first | refine as_gskip rfl rfl rfl rfl rfl ?_ | refine as_gskipU rfl rfl rfl rfl ?_ | refine as_gh rfl rfl rfl rfl (h_q rfl (q_load1 (by kernel_rfl) rfl (by first | exact BlkR.cell (hs12.sat _ _ _ hb1) rfl | exact Blk.cell ho9.1 rfl | exact Blk.cell ho12.1 rfl | assumption)) ?_)
    first | refine as_gskip rfl rfl rfl rfl rfl ?_ | refine as_gskipU rfl rfl rfl rfl ?_ | refine as_gh rfl rfl rfl rfl (h_q rfl (q_neT rfl rfl (by omega)) ?_) | refine as_gh rfl rfl rfl rfl (h_q rfl (q_neF rfl rfl (by omega)) ?_) | refine as_gh rfl rfl rfl rfl (h_q rfl (q_ne rfl rfl) ?_)
    first | refine as_q rfl rfl (q_pick_t rfl rfl) ?_ | refine as_q rfl rfl (q_pick_f rfl rfl) ?_ | refine as_q rfl rfl (q_pick rfl rfl rfl) ?_
    refine as_nil (hK21 _ _ ?_)
    clear hK21 K21
    refine cw_false rfl ?_
    rcases hcut with hcut | ⟨o2, hcut, hlo⟩
    · skip
      refine cw_skip ?_
      refine hK20 _ _ ?_
      clear hK20 K20
      refine cw_rs fun K22 hK22 => ?_
      -- region 18
      refine as_q rfl rfl (q_move rfl) ?_
      refine as_q rfl rfl (q_convx (by kernel_rfl) (by kernel_rfl) rfl (by first | exact wrap64_of (by omega) (by omega) | omega | (simp; omega))) ?_
      refine as_q rfl rfl (q_move rfl) ?_
      refine as_q rfl rfl (q_len (by kernel_rfl) rfl _) ?_
      refine as_q rfl rfl (q_congr (q_rem rfl rfl (by omega)) (v' := .int .i64 kk) (by rw [hkk])) ?_
      refine as_q rfl rfl (q_assign rfl) ?_
      refine as_nil (hK22 _ _ ?_)
      clear hK22 K22
      refine cw_rs fun K23 hK23 => ?_
      -- region 19
      refine as_q rfl rfl (q_move rfl) ?_
      refine as_q rfl rfl (q_move rfl) ?_
      refine as_q rfl rfl (q_slice (e := 2) (size := 1) (k := .i64) (by kernel_rfl) (by kernel_rfl) rfl rfl rfl (by omega) (by omega) (by omega)) ?_
      refine as_h rfl (h_call (by kernel_rfl) rfl ?_)
      have hcb := rd_sub hbs 0 kk (by omega) hkk0 (by omega)
      have hcl : (((build room (keyT ts)).drop (0 : Int).toNat).take (kk.toNat - (0 : Int).toNat)) = (build room (keyT ts)).take kk.toNat := by simp
      have hcn : ((build room (keyT ts)).take kk.toNat).length ≤ 100000 := by rw [List.length_take]; omega
      rw [hcl] at hcb
      refine (parse18 hs12.sat hcn hcb).mono ?_
      rintro v13 w13 ⟨M13, hs13, hp13⟩
      obtain ⟨oa4, oc4, rfl, hov4⟩ := hp13.no hcut
      replace hb1 := hs13.le _ _ hb1
      replace hv := hv.mono hs13.le
      replace hr := hr.mono hs13.le
      replace ha := ha.mono hs13.le
      replace hov1 := hov1.mono hs13.le
      replace ho9 := ho9.then hs13
      replace hbs := hbs.mono hs13.le
      replace hov3 := hov3.mono hs13.le
      replace hag3 := hag3.mono hs13.le
      replace ho12 := ho12.then hs13
      replace hpl3 := hpl3.mono hs13.le
      replace hb3x := hb3x.mono hs13.le
      replace hT := hT.then hs13
      have hz13 := hs13.size
      refine as_q rfl rfl (q_move rfl) ?_
      refine as_q rfl rfl (q_extract rfl rfl) ?_
      refine as_q rfl rfl (q_extract rfl rfl) ?_
      have hqa15 := hT.size
      refine as_h rfl (h_allocO (z := (.agg #[(.int .i64 0), (.slice none 0 0)])) hs13.sat (by kernel_rfl) rfl fun b15 w14 hs14 ho15 e15 => ?_)
      replace hb1 := hs14.le _ _ hb1
      replace hv := hv.mono hs14.le
      replace hr := hr.mono hs14.le
      replace ha := ha.mono hs14.le
      replace hov1 := hov1.mono hs14.le
      replace ho9 := ho9.then hs14
      replace hbs := hbs.mono hs14.le
      replace hov3 := hov3.mono hs14.le
      replace hag3 := hag3.mono hs14.le
      replace ho12 := ho12.then hs14
      replace hpl3 := hpl3.mono hs14.le
      replace hb3x := hb3x.mono hs14.le
      replace hT := hT.then hs14
      have hz14 := hs14.size
      have hl15 := ho15.1.lt
      refine as_h0 (h_store hs14.sat ho15 rfl rfl rfl (by kernel_rfl) rfl rfl rfl fun w15 hs15 hn15 => ?_)
      replace hb1 := hs15.le _ _ hb1
      replace hv := hv.mono hs15.le
      replace hr := hr.mono hs15.le
      replace ha := ha.mono hs15.le
      replace hov1 := hov1.mono hs15.le
      replace ho9 := ho9.step hs15 (fun h => by have h : _ = _ := h; omega)
      replace hbs := hbs.mono hs15.le
      replace hov3 := hov3.mono hs15.le
      replace hag3 := hag3.mono hs15.le
      replace ho12 := ho12.step hs15 (fun h => by have h : _ = _ := h; omega)
      replace hpl3 := hpl3.mono hs15.le
      replace hb3x := hb3x.mono hs15.le
      clear ho15; have ho15 := hn15; clear hn15
      replace hT := hT.own hs15 (by omega)
      have hz15 := hs15.size
      refine as_q rfl rfl (q_assign rfl) ?_
      refine as_nil (hK23 _ _ ?_)
      clear hK23 K23
      refine cw_rs fun K24 hK24 => ?_
      -- region 20
      refine as_q rfl rfl (q_move rfl) ?_
      first | refine as_q rfl rfl (q_eqT rfl rfl (by omega)) ?_ | refine as_q rfl rfl (q_eqF rfl rfl (by omega)) ?_ | refine as_q rfl rfl (q_eq rfl rfl) ?_
      refine as_q rfl rfl (q_move rfl) ?_
      first | refine as_gskip rfl rfl rfl rfl rfl ?_ | refine as_gskipU rfl rfl rfl rfl ?_ | refine as_gh rfl rfl rfl rfl (h_q rfl (q_move rfl) ?_)
      first | refine as_gskip rfl rfl rfl rfl rfl ?_ | refine as_gskipU rfl rfl rfl rfl ?_ | refine as_gh rfl rfl rfl rfl (h_q rfl (q_eqT rfl rfl (by omega)) ?_) | refine as_gh rfl rfl rfl rfl (h_q rfl (q_eqF rfl rfl (by omega)) ?_) | refine as_gh rfl rfl rfl rfl (h_q rfl (q_eq rfl rfl) ?_)
      first | refine as_gskip rfl rfl rfl rfl rfl ?_ | refine as_gskipU rfl rfl rfl rfl ?_ | refine as_gh rfl rfl rfl rfl (h_q rfl (q_move rfl) ?_)
      first | refine as_gskip rfl rfl rfl rfl rfl ?_ | refine as_gskipU rfl rfl rfl rfl ?_ | refine as_gh rfl rfl rfl rfl (h_q rfl (q_fieldAddr (off := 1) (by kernel_rfl) rfl) ?_)
      first | refine as_gskip rfl rfl rfl rfl rfl ?_ | refine as_gskipU rfl rfl rfl rfl ?_ | refine as_gh rfl rfl rfl rfl (h_q rfl (q_load1 (by kernel_rfl) rfl (by first | exact BlkR.cell (hs15.sat _ _ _ hb1) rfl | exact Blk.cell ho9.1 rfl | exact Blk.cell ho12.1 rfl | exact Blk.cell ho15.1 rfl | assumption)) ?_)
      first | refine as_gskip rfl rfl rfl rfl rfl ?_ | refine as_gskipU rfl rfl rfl rfl ?_ | refine as_gh rfl rfl rfl rfl (h_q rfl (q_len (by kernel_rfl) rfl _) ?_)
      first | refine as_gskip rfl rfl rfl rfl rfl ?_ | refine as_gskipU rfl rfl rfl rfl ?_ | refine as_gh rfl rfl rfl rfl (h_q rfl (q_fieldAddr (off := 1) (by kernel_rfl) rfl) ?_)
      first | refine as_gskip rfl rfl rfl rfl rfl ?_ | refine as_gskipU rfl rfl rfl rfl ?_ | refine as_gh rfl rfl rfl rfl (h_q rfl (q_load1 (by kernel_rfl) rfl (by first | exact BlkR.cell (hs15.sat _ _ _ hb1) rfl | exact Blk.cell ho9.1 rfl | exact Blk.cell ho12.1 rfl | exact Blk.cell ho15.1 rfl | assumption)) ?_)
      first | refine as_gskip rfl rfl rfl rfl rfl ?_ | refine as_gskipU rfl rfl rfl rfl ?_ | refine as_gh rfl rfl rfl rfl (h_q rfl (q_len (by kernel_rfl) rfl _) ?_)
      first | refine as_gskip rfl rfl rfl rfl rfl ?_ | refine as_gskipU rfl rfl rfl rfl ?_ | refine as_gh rfl rfl rfl rfl (h_q rfl (q_ltT rfl rfl (by omega)) ?_) | refine as_gh rfl rfl rfl rfl (h_q rfl (q_ltF rfl rfl (by omega)) ?_) | refine as_gh rfl rfl rfl rfl (h_q rfl (q_lt rfl rfl) ?_)
      first | refine as_gskip rfl rfl rfl rfl rfl ?_ | refine as_gskipU rfl rfl rfl rfl ?_ | refine as_gh rfl rfl rfl rfl (h_q rfl (q_pick_t rfl rfl) ?_) | refine as_gh rfl rfl rfl rfl (h_q rfl (q_pick_f rfl rfl) ?_) | refine as_gh rfl rfl rfl rfl (h_q rfl (q_pick rfl rfl rfl) ?_)
      first | refine as_q rfl rfl (q_pick_t rfl rfl) ?_ | refine as_q rfl rfl (q_pick_f rfl rfl) ?_ | refine as_q rfl rfl (q_pick rfl rfl rfl) ?_
      refine as_q rfl rfl (q_assign rfl) ?_
      refine as_nil (hK24 _ _ ?_)
      clear hK24 K24
      refine cw_ret ?_
      exact ⟨_, (res_tmp rfl res_nil), rfl, hT.forget⟩
    · skip
      refine cw_skip ?_
      refine hK20 _ _ ?_
      clear hK20 K20
      refine cw_rs fun K25 hK25 => ?_
      -- region 18
      refine as_q rfl rfl (q_move rfl) ?_
      refine as_q rfl rfl (q_convx (by kernel_rfl) (by kernel_rfl) rfl (by first | exact wrap64_of (by omega) (by omega) | omega | (simp; omega))) ?_
      refine as_q rfl rfl (q_move rfl) ?_
      refine as_q rfl rfl (q_len (by kernel_rfl) rfl _) ?_
      refine as_q rfl rfl (q_congr (q_rem rfl rfl (by omega)) (v' := .int .i64 kk) (by rw [hkk])) ?_
      refine as_q rfl rfl (q_assign rfl) ?_
      refine as_nil (hK25 _ _ ?_)
      clear hK25 K25
      refine cw_rs fun K26 hK26 => ?_
      -- region 19
      refine as_q rfl rfl (q_move rfl) ?_
      refine as_q rfl rfl (q_move rfl) ?_
      refine as_q rfl rfl (q_slice (e := 2) (size := 1) (k := .i64) (by kernel_rfl) (by kernel_rfl) rfl rfl rfl (by omega) (by omega) (by omega)) ?_
      refine as_h rfl (h_call (by kernel_rfl) rfl ?_)
      have hcb := rd_sub hbs 0 kk (by omega) hkk0 (by omega)
      have hcl : (((build room (keyT ts)).drop (0 : Int).toNat).take (kk.toNat - (0 : Int).toNat)) = (build room (keyT ts)).take kk.toNat := by simp
      have hcn : ((build room (keyT ts)).take kk.toNat).length ≤ 100000 := by rw [List.length_take]; omega
      rw [hcl] at hcb
      refine (parse18 hs12.sat hcn hcb).mono ?_
      rintro v16 w16 ⟨M16, hs16, hp16⟩
      obtain ⟨ov4, ts4, rfl, hk4x, hov4, hag4⟩ := hp16.ok hcut
      have hkl4 : ts4.length = o2.length := by rw [← hk4x, keyT_length]
      obtain ⟨oa4, oc4, rfl, _⟩ := hov4.slice
      replace hb1 := hs16.le _ _ hb1
      replace hv := hv.mono hs16.le
      replace hr := hr.mono hs16.le
      replace ha := ha.mono hs16.le
      replace hov1 := hov1.mono hs16.le
      replace ho9 := ho9.then hs16
      replace hbs := hbs.mono hs16.le
      replace hov3 := hov3.mono hs16.le
      replace hag3 := hag3.mono hs16.le
      replace ho12 := ho12.then hs16
      replace hpl3 := hpl3.mono hs16.le
      replace hb3x := hb3x.mono hs16.le
      replace hT := hT.then hs16
      have hz16 := hs16.size
      refine as_q rfl rfl (q_move rfl) ?_
      refine as_q rfl rfl (q_extract rfl rfl) ?_
      refine as_q rfl rfl (q_extract rfl rfl) ?_
      have hqa15 := hT.size
      refine as_h rfl (h_allocO (z := (.agg #[(.int .i64 0), (.slice none 0 0)])) hs16.sat (by kernel_rfl) rfl fun b15 w17 hs17 ho15 e15 => ?_)
      replace hb1 := hs17.le _ _ hb1
      replace hv := hv.mono hs17.le
      replace hr := hr.mono hs17.le
      replace ha := ha.mono hs17.le
      replace hov1 := hov1.mono hs17.le
      replace ho9 := ho9.then hs17
      replace hbs := hbs.mono hs17.le
      replace hov3 := hov3.mono hs17.le
      replace hag3 := hag3.mono hs17.le
      replace ho12 := ho12.then hs17
      replace hpl3 := hpl3.mono hs17.le
      replace hb3x := hb3x.mono hs17.le
      replace hT := hT.then hs17
      have hz17 := hs17.size
      have hl15 := ho15.1.lt
      refine as_h0 (h_store hs17.sat ho15 rfl rfl rfl (by kernel_rfl) rfl rfl rfl fun w18 hs18 hn18 => ?_)
      replace hb1 := hs18.le _ _ hb1
      replace hv := hv.mono hs18.le
      replace hr := hr.mono hs18.le
      replace ha := ha.mono hs18.le
      replace hov1 := hov1.mono hs18.le
      replace ho9 := ho9.step hs18 (fun h => by have h : _ = _ := h; omega)
      replace hbs := hbs.mono hs18.le
      replace hov3 := hov3.mono hs18.le
      replace hag3 := hag3.mono hs18.le
      replace ho12 := ho12.step hs18 (fun h => by have h : _ = _ := h; omega)
      replace hpl3 := hpl3.mono hs18.le
      replace hb3x := hb3x.mono hs18.le
      clear ho15; have ho15 := hn18; clear hn18
      replace hT := hT.own hs18 (by omega)
      have hz18 := hs18.size
      refine as_q rfl rfl (q_assign rfl) ?_
      refine as_nil (hK26 _ _ ?_)
      clear hK26 K26
      refine cw_rs fun K27 hK27 => ?_
      -- region 20
      refine as_q rfl rfl (q_move rfl) ?_
      first | refine as_q rfl rfl (q_eqT rfl rfl (by omega)) ?_ | refine as_q rfl rfl (q_eqF rfl rfl (by omega)) ?_ | refine as_q rfl rfl (q_eq rfl rfl) ?_
      refine as_q rfl rfl (q_move rfl) ?_
      first | refine as_gskip rfl rfl rfl rfl rfl ?_ | refine as_gskipU rfl rfl rfl rfl ?_ | refine as_gh rfl rfl rfl rfl (h_q rfl (q_move rfl) ?_)
      first | refine as_gskip rfl rfl rfl rfl rfl ?_ | refine as_gskipU rfl rfl rfl rfl ?_ | refine as_gh rfl rfl rfl rfl (h_q rfl (q_eqT rfl rfl (by omega)) ?_) | refine as_gh rfl rfl rfl rfl (h_q rfl (q_eqF rfl rfl (by omega)) ?_) | refine as_gh rfl rfl rfl rfl (h_q rfl (q_eq rfl rfl) ?_)
      first | refine as_gskip rfl rfl rfl rfl rfl ?_ | refine as_gskipU rfl rfl rfl rfl ?_ | refine as_gh rfl rfl rfl rfl (h_q rfl (q_move rfl) ?_)
      first | refine as_gskip rfl rfl rfl rfl rfl ?_ | refine as_gskipU rfl rfl rfl rfl ?_ | refine as_gh rfl rfl rfl rfl (h_q rfl (q_fieldAddr (off := 1) (by kernel_rfl) rfl) ?_)
      first | refine as_gskip rfl rfl rfl rfl rfl ?_ | refine as_gskipU rfl rfl rfl rfl ?_ | refine as_gh rfl rfl rfl rfl (h_q rfl (q_load1 (by kernel_rfl) rfl (by first | exact BlkR.cell (hs18.sat _ _ _ hb1) rfl | exact Blk.cell ho9.1 rfl | exact Blk.cell ho12.1 rfl | exact Blk.cell ho15.1 rfl | assumption)) ?_)
      first | refine as_gskip rfl rfl rfl rfl rfl ?_ | refine as_gskipU rfl rfl rfl rfl ?_ | refine as_gh rfl rfl rfl rfl (h_q rfl (q_len (by kernel_rfl) rfl _) ?_)
      first | refine as_gskip rfl rfl rfl rfl rfl ?_ | refine as_gskipU rfl rfl rfl rfl ?_ | refine as_gh rfl rfl rfl rfl (h_q rfl (q_fieldAddr (off := 1) (by kernel_rfl) rfl) ?_)
      first | refine as_gskip rfl rfl rfl rfl rfl ?_ | refine as_gskipU rfl rfl rfl rfl ?_ | refine as_gh rfl rfl rfl rfl (h_q rfl (q_load1 (by kernel_rfl) rfl (by first | exact BlkR.cell (hs18.sat _ _ _ hb1) rfl | exact Blk.cell ho9.1 rfl | exact Blk.cell ho12.1 rfl | exact Blk.cell ho15.1 rfl | assumption)) ?_)
      first | refine as_gskip rfl rfl rfl rfl rfl ?_ | refine as_gskipU rfl rfl rfl rfl ?_ | refine as_gh rfl rfl rfl rfl (h_q rfl (q_len (by kernel_rfl) rfl _) ?_)
      first | refine as_gskip rfl rfl rfl rfl rfl ?_ | refine as_gskipU rfl rfl rfl rfl ?_ | refine as_gh rfl rfl rfl rfl (h_q rfl (q_ltT rfl rfl (by omega)) ?_) | refine as_gh rfl rfl rfl rfl (h_q rfl (q_ltF rfl rfl (by omega)) ?_) | refine as_gh rfl rfl rfl rfl (h_q rfl (q_lt rfl rfl) ?_)
      first | refine as_gskip rfl rfl rfl rfl rfl ?_ | refine as_gskipU rfl rfl rfl rfl ?_ | refine as_gh rfl rfl rfl rfl (h_q rfl (q_pick_t rfl rfl) ?_) | refine as_gh rfl rfl rfl rfl (h_q rfl (q_pick_f rfl rfl) ?_) | refine as_gh rfl rfl rfl rfl (h_q rfl (q_pick rfl rfl rfl) ?_)
      first | refine as_q rfl rfl (q_pick_t rfl rfl) ?_ | refine as_q rfl rfl (q_pick_f rfl rfl) ?_ | refine as_q rfl rfl (q_pick rfl rfl rfl) ?_
      refine as_q rfl rfl (q_assign rfl) ?_
      refine as_nil (hK27 _ _ ?_)
      clear hK27 K27
      refine cw_ret ?_
      exact ⟨_, (res_tmp rfl res_nil), rfl, hT.forget⟩

theorem opcodeBack_walk {w0 : World} {M0 : Mem} {v : Value} {n oc : Nat} {zs : List Int} {room cut : Int} {oa : Option Addr} {ts : List T3} (hs : Sat M0 w0) (hv : RdM M0 1 v n (i64s zs)) (hr : RdM M0 2 (.slice oa ts.length oc) ts.length (flat ts)) (ha : ArgsM M0 ts) (hcu0 : 0 ≤ cut) (hcu1 : cut ≤ 255)  :
    Does Try.prog 6 #[v, .agg #[.int .i64 room, .slice oa ts.length oc], .int .u8 cut] w0 (fun v w' => v = .bool true ∧ Step Nope M0 w0 M0 w') := by
  rcases Nat.lt_or_ge 1600 n with h1 | h1
  · exact backA hs hv hr ha h1
  rcases Nat.lt_or_ge 256 ts.length with h2 | h2
  · exact backB hs hv hr ha h1 h2
  rcases Int.lt_or_le room 0 with h3 | h3
  · exact backC hs hv hr ha h1 h2 h3
  rcases Int.lt_or_le 64 room with h4 | h4
  · exact backD hs hv hr ha h1 h2 h4
  cases hpz : parse zs with
  | error e => exact back_err hs hv hr ha hcu0 hcu1 h1 h2 h3 h4 hpz
  | ok x => exact back_ok hs hv hr ha hcu0 hcu1 h1 h2 h3 h4 (hpz : parse zs = .ok (x.1, x.2))

end Go.Proofs.Ytcnocefclcoiiaa
