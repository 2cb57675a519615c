/- The laws of a row that is put in order when it is asked for, third part, part 1. -/
import Derived.Test.YtcnocefclcoiiaaL04bA
namespace Go.Proofs.Ytcnocefclcoiiaa
open Go Go.Eng
theorem lateOne_walk {w : World} {M : Mem} {u : Value} {n : Nat} {xs : List El} {k : Int} (hs : Sat M w) (hr : RdM M 2 u n (els xs)) :
    Does Try.prog 11 #[u, .int .i64 k] w (fun v w' => v = .bool true ∧ Step Nope M w M w') := by
  have hT := Step.refl Nope hs
  obtain ⟨la, lc, rfl, hlc, _⟩ := hr.slice
  refine fn_enter Try.func11 rfl (rs := [.tmp 4]) rfl rfl rfl rfl ?_
  refine cw_rs fun K1 hK1 => ?_
  -- region 0
  refine as_q rfl rfl (q_assign rfl) ?_
  refine as_nil (hK1 _ _ ?_)
  clear hK1 K1
  refine cw_rs fun K2 hK2 => ?_
  -- region 1
  refine as_h rfl (h_call (by kernel_rfl) rfl ?_)
  refine (awake04 hs).mono ?_
  rintro _ w1 ⟨rfl, hs1⟩
  replace hr := hr.mono hs1.le
  replace hT := hT.then hs1
  have hz1 := hs1.size
  refine as_q rfl rfl (q_assign rfl) ?_
  refine as_nil (hK2 _ _ ?_)
  clear hK2 K2
  refine cw_seq fun K3 hK3 => ?_
  refine cw_rs fun K4 hK4 => ?_
  -- region 2
  refine as_q rfl rfl (q_move rfl) ?_
  refine as_q rfl rfl (q_not rfl) ?_
  refine as_nil (hK4 _ _ ?_)
  clear hK4 K4
  refine cw_false rfl ?_
  refine cw_skip ?_
  refine hK3 _ _ ?_
  clear hK3 K3
  refine cw_seq fun K5 hK5 => ?_
  refine cw_rs fun K6 hK6 => ?_
  -- region 4
  refine as_q rfl rfl (q_move rfl) ?_
  refine as_q rfl rfl (q_len (by kernel_rfl) rfl _) ?_
  refine as_q rfl rfl (q_gt rfl rfl) ?_
  refine as_nil (hK6 _ _ ?_)
  clear hK6 K6
  refine cw_cond rfl (fun hc1 => ?_) (fun hc1 => ?_)
  · skip
    skip
    refine cw_rs fun K7 hK7 => ?_
    -- region 5
    refine as_q rfl rfl (q_assign rfl) ?_
    refine as_nil (hK7 _ _ ?_)
    clear hK7 K7
    refine cw_ret ?_
    exact ⟨_, (res_tmp rfl res_nil), rfl, hT.forget⟩
  · skip
    have h60 : n ≤ 60 := by have := of_decide_eq_false hc1; omega
    refine cw_skip ?_
    refine hK5 _ _ ?_
    clear hK5 K5
    refine cw_rs fun K8 hK8 => ?_
    -- region 6
    refine as_q rfl rfl (q_move rfl) ?_
    refine as_h rfl (h_call (by kernel_rfl) rfl ?_)
    have hTs := hT.size
    refine (late_of  hs1.sat (hr.rds _) (by omega)).mono ?_
    rintro _ w2 ⟨qa, sva, rfl, hs2, hla, hqa, hfa⟩
    replace hr := hr.mono hs2.le
    replace hT := hT.then hs2
    have hz2 := hs2.size
    have hqla := hla.1.1.lt
    have hqwa : w.heap.size ≤ qa := Nat.le_trans hTs hqa
    have hn255 : n ≤ 255 := by omega
    have hsva := hla.2.1.lt
    refine as_q rfl rfl (q_assign rfl) ?_
    refine as_nil (hK8 _ _ ?_)
    clear hK8 K8
    refine cw_rs fun K9 hK9 => ?_
    -- region 7
    refine as_q rfl rfl (q_move rfl) ?_
    refine as_h rfl (h_call (by kernel_rfl) rfl ?_)
    have hTs2 := hT.size
    refine (late_of  hs2.sat (hr.rds _) (by omega)).mono ?_
    rintro _ w3 ⟨qb, svb, rfl, hs3, hlb, hqb, hfb⟩
    replace hr := hr.mono hs3.le
    replace hla := hla.then hs3
    replace hT := hT.then hs3
    have hz3 := hs3.size
    have hqlb := hlb.1.1.lt
    have hqwb : w.heap.size ≤ qb := Nat.le_trans hTs2 hqb
    refine as_q rfl rfl (q_assign rfl) ?_
    refine as_nil (hK9 _ _ ?_)
    clear hK9 K9
    refine cw_rs fun K10 hK10 => ?_
    -- region 8
    refine as_q rfl rfl (q_move rfl) ?_
    refine as_q rfl rfl (q_move rfl) ?_
    refine as_h rfl (h_call (by kernel_rfl) rfl ?_)
    refine (late_front (k := k) hs3.sat hn255 hla).mono ?_
    rintro xv w4 ⟨sva2, hs4, hl4, hx, hfx, hdx, hso⟩
    replace hT := hT.own hs4 hqwa
    replace hlb := hlb.step hs4 (fun h => by have h : qb = qa := h; omega) (fun g hg h => by have h : g = qa := h; have := hfb g hg; omega)
    clear hla; have hla := hl4; clear hl4
    obtain ⟨xa, xc, rfl, hxc, _⟩ := hx.slice
    have hz4 := hs4.size
    refine as_q rfl rfl (q_assign rfl) ?_
    refine as_nil (hK10 _ _ ?_)
    clear hK10 K10
    refine cw_seq fun K11 hK11 => ?_
    refine cw_rs fun K12 hK12 => ?_
    -- region 9
    refine as_q rfl rfl (q_move rfl) ?_
    refine as_h rfl (h_call (by kernel_rfl) rfl ?_)
    refine (late_done1 hs4.sat hla).mono ?_
    rintro _ w5 ⟨rfl, hs5⟩
    replace hr := hr.mono hs5.le
    replace hla := hla.then hs5
    replace hlb := hlb.then hs5
    replace hx := hx.then hs5
    replace hT := hT.then hs5
    have hz5 := hs5.size
    first | refine as_q rfl rfl (q_neT rfl rfl (by omega)) ?_ | refine as_q rfl rfl (q_neF rfl rfl (by omega)) ?_ | refine as_q rfl rfl (q_ne rfl rfl) ?_
    refine as_q rfl rfl (q_move rfl) ?_
    first | refine as_gskip rfl rfl rfl rfl rfl ?_ | refine as_gskipU rfl rfl rfl rfl ?_ | refine as_gh rfl rfl rfl rfl (h_q rfl (q_move rfl) ?_)
    refine as_gh rfl rfl rfl rfl (h_call (by kernel_rfl) rfl ?_)
    refine (late_done0 hs5.sat hlb).mono ?_
    rintro _ w6 ⟨rfl, hs6⟩
    replace hr := hr.mono hs6.le
    replace hla := hla.then hs6
    replace hlb := hlb.then hs6
    replace hx := hx.then hs6
    replace hT := hT.then hs6
    have hz6 := hs6.size
    first | refine as_gskip rfl rfl rfl rfl rfl ?_ | refine as_gskipU rfl rfl rfl rfl ?_ | refine as_gh rfl rfl rfl rfl (h_q rfl (q_neT rfl rfl (by omega)) ?_) | refine as_gh rfl rfl rfl rfl (h_q rfl (q_neF rfl rfl (by omega)) ?_) | refine as_gh rfl rfl rfl rfl (h_q rfl (q_ne rfl rfl) ?_)
    first | refine as_q rfl rfl (q_pick_t rfl rfl) ?_ | refine as_q rfl rfl (q_pick_f rfl rfl) ?_ | refine as_q rfl rfl (q_pick rfl rfl rfl) ?_
    refine as_q rfl rfl (q_move rfl) ?_
    first | refine as_gskip rfl rfl rfl rfl rfl ?_ | refine as_gskipU rfl rfl rfl rfl ?_ | refine as_gh rfl rfl rfl rfl (h_q rfl (q_move rfl) ?_)
    first | refine as_gskip rfl rfl rfl rfl rfl ?_ | refine as_gskipU rfl rfl rfl rfl ?_ | refine as_gh rfl rfl rfl rfl (h_q rfl (q_len (by kernel_rfl) rfl _) ?_)
    first | refine as_gskip rfl rfl rfl rfl rfl ?_ | refine as_gskipU rfl rfl rfl rfl ?_ | refine as_gh rfl rfl rfl rfl (h_q rfl (q_move rfl) ?_)
    first | refine as_gskip rfl rfl rfl rfl rfl ?_ | refine as_gskipU rfl rfl rfl rfl ?_ | refine as_gh rfl rfl rfl rfl (h_q rfl (q_max2 rfl rfl) ?_)
    first | refine as_gskip rfl rfl rfl rfl rfl ?_ | refine as_gskipU rfl rfl rfl rfl ?_ | refine as_gh rfl rfl rfl rfl (h_q rfl (q_move rfl) ?_)
    first | refine as_gskip rfl rfl rfl rfl rfl ?_ | refine as_gskipU rfl rfl rfl rfl ?_ | refine as_gh rfl rfl rfl rfl (h_q rfl (q_len (by kernel_rfl) rfl _) ?_)
    first | refine as_gskip rfl rfl rfl rfl rfl ?_ | refine as_gskipU rfl rfl rfl rfl ?_ | refine as_gh rfl rfl rfl rfl (h_q rfl (q_min2 rfl rfl) ?_)
    first | refine as_gskip rfl rfl rfl rfl rfl ?_ | refine as_gskipU rfl rfl rfl rfl ?_ | refine as_gh rfl rfl rfl rfl (h_q rfl (q_neT rfl rfl (by omega)) ?_) | refine as_gh rfl rfl rfl rfl (h_q rfl (q_neF rfl rfl (by omega)) ?_) | refine as_gh rfl rfl rfl rfl (h_q rfl (q_ne rfl rfl) ?_)
    first | refine as_q rfl rfl (q_pick_t rfl rfl) ?_ | refine as_q rfl rfl (q_pick_f rfl rfl) ?_ | refine as_q rfl rfl (q_pick rfl rfl rfl) ?_
    refine as_nil (hK12 _ _ ?_)
    clear hK12 K12
    refine cw_false rfl ?_
    refine cw_skip ?_
    refine hK11 _ _ ?_
    clear hK11 K11
    refine cw_rs fun K13 hK13 => ?_
    -- region 11
    refine as_q rfl rfl (q_move rfl) ?_
    refine as_h rfl (h_call (by kernel_rfl) rfl ?_)
    refine (late_all hs6.sat hn255 hlb).mono ?_
    rintro yv w7 ⟨svb2, hs7, hl7, hy, hfy, hdy, _⟩
    replace hT := hT.own hs7 hqwb
    replace hla := hla.step hs7 (fun h => by have h : qa = qb := h; omega) (fun g hg h => by
      have h : g = qb := h
      rcases hso with rfl | hso
      · have := hsva g hg; omega
      · have := hso g hg; omega)
    replace hx := hx.step hs7 (fun g hg h => by have h : g = qb := h; have := hfx g hg; omega)
    clear hlb; have hlb := hl7; clear hl7
    obtain ⟨ya, yc, rfl, hyc, _⟩ := hy.slice
    have hz7 := hs7.size
    refine as_q rfl rfl (q_assign rfl) ?_
    refine as_nil (hK13 _ _ ?_)
    clear hK13 K13
    refine cw_rs fun K14 hK14 => ?_
    -- region 12
    refine as_q rfl rfl (q_move rfl) ?_
    refine as_h rfl (h_call (by kernel_rfl) rfl ?_)
    refine (late_done1 hs7.sat hlb).mono ?_
    rintro _ w8 ⟨rfl, hs8⟩
    replace hr := hr.mono hs8.le
    replace hla := hla.then hs8
    replace hlb := hlb.then hs8
    replace hx := hx.then hs8
    replace hy := hy.then hs8
    replace hT := hT.then hs8
    have hz8 := hs8.size
    first | refine as_q rfl rfl (q_eqT rfl rfl (by omega)) ?_ | refine as_q rfl rfl (q_eqF rfl rfl (by omega)) ?_ | refine as_q rfl rfl (q_eq rfl rfl) ?_
    refine as_q rfl rfl (q_move rfl) ?_
    first | refine as_gskip rfl rfl rfl rfl rfl ?_ | refine as_gskipU rfl rfl rfl rfl ?_ | refine as_gh rfl rfl rfl rfl (h_q rfl (q_move rfl) ?_)
    refine as_gh rfl rfl rfl rfl (h_call (by kernel_rfl) rfl ?_)
    refine (late_done1 hs8.sat hla).mono ?_
    rintro _ w9 ⟨rfl, hs9⟩
    replace hr := hr.mono hs9.le
    replace hla := hla.then hs9
    replace hlb := hlb.then hs9
    replace hx := hx.then hs9
    replace hy := hy.then hs9
    replace hT := hT.then hs9
    have hz9 := hs9.size
    first | refine as_gskip rfl rfl rfl rfl rfl ?_ | refine as_gskipU rfl rfl rfl rfl ?_ | refine as_gh rfl rfl rfl rfl (h_q rfl (q_eqT rfl rfl (by omega)) ?_) | refine as_gh rfl rfl rfl rfl (h_q rfl (q_eqF rfl rfl (by omega)) ?_) | refine as_gh rfl rfl rfl rfl (h_q rfl (q_eq rfl rfl) ?_)
    first | refine as_q rfl rfl (q_pick_t rfl rfl) ?_ | refine as_q rfl rfl (q_pick_f rfl rfl) ?_ | refine as_q rfl rfl (q_pick rfl rfl rfl) ?_
    refine as_q rfl rfl (q_move rfl) ?_
    first | refine as_gskip rfl rfl rfl rfl rfl ?_ | refine as_gskipU rfl rfl rfl rfl ?_ | refine as_gh rfl rfl rfl rfl (h_q rfl (q_move rfl) ?_)
    first | refine as_gskip rfl rfl rfl rfl rfl ?_ | refine as_gskipU rfl rfl rfl rfl ?_ | refine as_gh rfl rfl rfl rfl (h_q rfl (q_move rfl) ?_)
    refine as_gh rfl rfl rfl rfl (h_call (by kernel_rfl) rfl ?_)
    refine (ref_sort hs9.sat hr (by omega)).mono ?_
    rintro rv w10 ⟨M2, hs10, hrv⟩
    replace hr := hr.mono hs10.le
    replace hla := hla.then hs10
    replace hlb := hlb.then hs10
    replace hx := hx.then hs10
    replace hy := hy.then hs10
    replace hT := hT.then hs10
    have hz10 := hs10.size
    refine as_gh rfl rfl rfl rfl (h_call (by kernel_rfl) rfl ?_)
    refine (same_yes hs10.sat (by omega) (hy.rds) ((hrv.rds _)) (rfl)).mono ?_
    rintro _ w11 ⟨rfl, hs11⟩
    replace hr := hr.mono hs11.le
    replace hla := hla.then hs11
    replace hlb := hlb.then hs11
    replace hx := hx.then hs11
    replace hy := hy.then hs11
    replace hrv := hrv.mono hs11.le
    replace hT := hT.then hs11
    have hz11 := hs11.size
    first | refine as_q rfl rfl (q_pick_t rfl rfl) ?_ | refine as_q rfl rfl (q_pick_f rfl rfl) ?_ | refine as_q rfl rfl (q_pick rfl rfl rfl) ?_
    refine as_q rfl rfl (q_move rfl) ?_
    first | refine as_gskip rfl rfl rfl rfl rfl ?_ | refine as_gskipU rfl rfl rfl rfl ?_ | refine as_gh rfl rfl rfl rfl (h_q rfl (q_move rfl) ?_)
    first | refine as_gskip rfl rfl rfl rfl rfl ?_ | refine as_gskipU rfl rfl rfl rfl ?_ | refine as_gh rfl rfl rfl rfl (h_q rfl (q_move rfl) ?_)
    first | refine as_gskip rfl rfl rfl rfl rfl ?_ | refine as_gskipU rfl rfl rfl rfl ?_ | refine as_gh rfl rfl rfl rfl (h_q rfl (q_len (by kernel_rfl) rfl _) ?_)
    first | refine as_gskip rfl rfl rfl rfl rfl ?_ | refine as_gskipU rfl rfl rfl rfl ?_ | refine as_gh rfl rfl rfl rfl (h_q rfl (q_slice (e := 76) (size := 2) (k := .i64) (by kernel_rfl) (by kernel_rfl) rfl rfl rfl (by omega) (by omega) (by omega)) ?_)
    first | refine as_gskip rfl rfl rfl rfl rfl ?_ | refine as_gskipU rfl rfl rfl rfl ?_ | refine as_gh rfl rfl rfl rfl (h_q rfl (q_move rfl) ?_)
    refine as_gh rfl rfl rfl rfl (h_call (by kernel_rfl) rfl ?_)
    refine (same_yes hs11.sat (by omega) (hy.rds.front (((min (max k 0) (n : Int)).toNat : Nat) : Int) (by omega) (by omega)) (hx.rds) (rfl)).mono ?_
    rintro _ w12 ⟨rfl, hs12⟩
    replace hr := hr.mono hs12.le
    replace hla := hla.then hs12
    replace hlb := hlb.then hs12
    replace hx := hx.then hs12
    replace hy := hy.then hs12
    replace hrv := hrv.mono hs12.le
    replace hT := hT.then hs12
    have hz12 := hs12.size
    first | refine as_q rfl rfl (q_pick_t rfl rfl) ?_ | refine as_q rfl rfl (q_pick_f rfl rfl) ?_ | refine as_q rfl rfl (q_pick rfl rfl rfl) ?_
    refine as_q rfl rfl (q_assign rfl) ?_
    refine as_nil (hK14 _ _ ?_)
    clear hK14 K14
    refine cw_ret ?_
    exact ⟨_, (res_tmp rfl res_nil), rfl, hT.forget⟩

end Go.Proofs.Ytcnocefclcoiiaa
