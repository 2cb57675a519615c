/- What scripts tell: the walk of the law, second part. -/
import Derived.Test.YtcnocefclcoiiaaL18e
namespace Go.Proofs.Ytcnocefclcoiiaa
open Go Go.Eng

set_option maxHeartbeats 4000000 in
theorem tells_err {w0 : World} {M0 : Mem} {v : Value} {n n2 oc c2 : Nat} {zs : List Int} {room c : Int} {oa a2 : Option Addr} {ts : List T3} (hs : Sat M0 w0) (hv : RdM M0 1 v n (i64s zs)) (hr : RdM M0 2 (.slice oa ts.length oc) ts.length (flat ts)) (ha : ArgsM M0 ts) (h1 : n ≤ 1600) (h2 : ts.length ≤ 300) (h3 : n2 ≤ 20) {e9 : Int} (hpz : parse zs = .error e9) :
    Does Try.prog 7 #[v, .agg #[.int .i64 room, .slice oa ts.length oc], .agg #[.int .i64 c, .slice a2 n2 c2]] w0 (fun v w' => v = .bool true ∧ Step Nope M0 w0 M0 w') := by
  have hT := Step.refl Nope hs
  obtain ⟨a, vc, rfl, hvc, _⟩ := hv.slice
  have hl : zs.length = n := by have := hv.1; rw [i64s_length] at this; omega
  refine fn_enter Try.func7 rfl (rs := [.tmp 6]) rfl rfl rfl rfl ?_
  refine cw_rs fun K1 hK1 => ?_
  -- region 0
  refine as_h rfl (h_boxM hs rfl rfl fun b1 M1 w1 hs1 hb1 e1 => ?_)
  replace hv := hv.mono hs1.le
  replace hr := hr.mono hs1.le
  replace ha := ha.mono hs1.le
  replace hT := hT.then hs1
  have hz1 := hs1.size
  refine as_h rfl (h_boxM hs1.sat rfl rfl fun b2 M2 w2 hs2 hb2 e2 => ?_)
  replace hv := hv.mono hs2.le
  replace hr := hr.mono hs2.le
  replace ha := ha.mono hs2.le
  replace hb1 := hs2.le _ _ hb1
  replace hT := hT.then hs2
  have hz2 := hs2.size
  refine as_q rfl rfl (q_assign rfl) ?_
  refine as_nil (hK1 _ _ ?_)
  clear hK1 K1
  refine cw_rs fun K2 hK2 => ?_
  -- region 1
  refine as_h rfl (h_call (by kernel_rfl) rfl ?_)
  refine (awake18 hs2.sat).mono ?_
  rintro _ w3 ⟨rfl, hs3⟩
  replace hv := hv.mono hs3.le
  replace hr := hr.mono hs3.le
  replace ha := ha.mono hs3.le
  replace hb1 := hs3.le _ _ hb1
  replace hb2 := hs3.le _ _ hb2
  replace hT := hT.then hs3
  have hz3 := hs3.size
  refine as_q rfl rfl (q_assign rfl) ?_
  refine as_nil (hK2 _ _ ?_)
  clear hK2 K2
  refine cw_seq fun K3 hK3 => ?_
  refine cw_rs fun K4 hK4 => ?_
  -- region 2
  refine as_q rfl rfl (q_move rfl) ?_
  refine as_q rfl rfl (q_not rfl) ?_
  refine as_nil (hK4 _ _ ?_)
  clear hK4 K4
  refine cw_false rfl ?_
  refine cw_skip ?_
  refine hK3 _ _ ?_
  clear hK3 K3
  refine cw_seq fun K5 hK5 => ?_
  refine cw_rs fun K6 hK6 => ?_
  -- region 4
  refine as_q rfl rfl (q_move rfl) ?_
  refine as_q rfl rfl (q_len (by kernel_rfl) rfl _) ?_
  first | refine as_q rfl rfl (q_gtT rfl rfl (by omega)) ?_ | refine as_q rfl rfl (q_gtF rfl rfl (by omega)) ?_ | refine as_q rfl rfl (q_gt rfl rfl) ?_
  refine as_q rfl rfl (q_move rfl) ?_
  first | refine as_gskip rfl rfl rfl rfl rfl ?_ | refine as_gskipU rfl rfl rfl rfl ?_ | refine as_gh rfl rfl rfl rfl (h_q rfl (q_fieldAddr (off := 1) (by kernel_rfl) rfl) ?_)
  first | refine as_gskip rfl rfl rfl rfl rfl ?_ | refine as_gskipU rfl rfl rfl rfl ?_ | refine as_gh rfl rfl rfl rfl (h_q rfl (q_load1 (by kernel_rfl) rfl (by first | exact BlkR.cell (hs3.sat _ _ _ hb1) rfl | exact BlkR.cell (hs3.sat _ _ _ hb2) rfl | assumption)) ?_)
  first | refine as_gskip rfl rfl rfl rfl rfl ?_ | refine as_gskipU rfl rfl rfl rfl ?_ | refine as_gh rfl rfl rfl rfl (h_q rfl (q_len (by kernel_rfl) rfl _) ?_)
  first | refine as_gskip rfl rfl rfl rfl rfl ?_ | refine as_gskipU rfl rfl rfl rfl ?_ | refine as_gh rfl rfl rfl rfl (h_q rfl (q_gtT rfl rfl (by omega)) ?_) | refine as_gh rfl rfl rfl rfl (h_q rfl (q_gtF rfl rfl (by omega)) ?_) | refine as_gh rfl rfl rfl rfl (h_q rfl (q_gt rfl rfl) ?_)
  first | refine as_q rfl rfl (q_pick_t rfl rfl) ?_ | refine as_q rfl rfl (q_pick_f rfl rfl) ?_ | refine as_q rfl rfl (q_pick rfl rfl rfl) ?_
  refine as_q rfl rfl (q_move rfl) ?_
  first | refine as_gskip rfl rfl rfl rfl rfl ?_ | refine as_gskipU rfl rfl rfl rfl ?_ | refine as_gh rfl rfl rfl rfl (h_q rfl (q_fieldAddr (off := 1) (by kernel_rfl) rfl) ?_)
  first | refine as_gskip rfl rfl rfl rfl rfl ?_ | refine as_gskipU rfl rfl rfl rfl ?_ | refine as_gh rfl rfl rfl rfl (h_q rfl (q_load1 (by kernel_rfl) rfl (by first | exact BlkR.cell (hs3.sat _ _ _ hb1) rfl | exact BlkR.cell (hs3.sat _ _ _ hb2) rfl | assumption)) ?_)
  first | refine as_gskip rfl rfl rfl rfl rfl ?_ | refine as_gskipU rfl rfl rfl rfl ?_ | refine as_gh rfl rfl rfl rfl (h_q rfl (q_len (by kernel_rfl) rfl _) ?_)
  first | refine as_gskip rfl rfl rfl rfl rfl ?_ | refine as_gskipU rfl rfl rfl rfl ?_ | refine as_gh rfl rfl rfl rfl (h_q rfl (q_gtT rfl rfl (by omega)) ?_) | refine as_gh rfl rfl rfl rfl (h_q rfl (q_gtF rfl rfl (by omega)) ?_) | refine as_gh rfl rfl rfl rfl (h_q rfl (q_gt rfl rfl) ?_)
  first | refine as_q rfl rfl (q_pick_t rfl rfl) ?_ | refine as_q rfl rfl (q_pick_f rfl rfl) ?_ | refine as_q rfl rfl (q_pick rfl rfl rfl) ?_
  refine as_nil (hK6 _ _ ?_)
  clear hK6 K6
  refine cw_false rfl ?_
  refine cw_skip ?_
  refine hK5 _ _ ?_
  clear hK5 K5
  refine cw_seq fun K7 hK7 => ?_
  refine cw_rs fun K8 hK8 => ?_
  -- region 6
  refine as_q rfl rfl (q_assign rfl) ?_
  refine as_nil (hK8 _ _ ?_)
  clear hK8 K8
  refine cw_block ?_
  refine cw_loop (fun mm l w1 => ∃ (i : Nat), mm = ts.length - i ∧ i ≤ ts.length ∧ (∀ j t, j < i → ts[j]? = some t → t.2.1.length ≤ 20) ∧ l = [(0, .slice a n vc), (4, .pointer (some ⟨b1, 0, none⟩)), (5, .pointer (some ⟨b2, 0, none⟩)), (8, .int .i64 i)] ∧ Step Nope M0 w0 M2 w1) (ts.length) [(0, .slice a n vc), (4, .pointer (some ⟨b1, 0, none⟩)), (5, .pointer (some ⟨b2, 0, none⟩)), (8, .int .i64 (0 : Nat))] (.cons rfl (.cons rfl (.cons rfl (.cons rfl (.nil _))))) ?_ ?_
  · skip
    exact ⟨0, rfl, Nat.zero_le _, fun j t hj => by omega, rfl, hT⟩
  clear hT
  rintro mm l w1 ⟨i, rfl, hi, hall, rfl, hT⟩
  refine cw_seq fun K9 hK9 => ?_
  refine cw_rs fun K10 hK10 => ?_
  -- region 7
  refine as_q rfl rfl (q_move rfl) ?_
  refine as_q rfl rfl (q_fieldAddr (off := 1) (by kernel_rfl) rfl) ?_
  refine as_q rfl rfl (q_load1 (by kernel_rfl) rfl (by first | exact BlkR.cell (hT.sat _ _ _ hb1) rfl | exact BlkR.cell (hT.sat _ _ _ hb2) rfl | assumption)) ?_
  refine as_q rfl rfl (q_len (by kernel_rfl) rfl _) ?_
  first | refine as_q rfl rfl (q_ltT rfl rfl (by omega)) ?_ | refine as_q rfl rfl (q_ltF rfl rfl (by omega)) ?_ | refine as_q rfl rfl (q_lt rfl rfl) ?_
  refine as_nil (hK10 _ _ ?_)
  clear hK10 K10
  refine cw_cond rfl (fun hc2 => ?_) (fun hc2 => ?_)
  · skip
    have hlt : i < ts.length := by have := of_decide_eq_true hc2; omega
    obtain ⟨g, o, rfl⟩ := hr.there (by omega)
    obtain ⟨⟨tc, tz, tv⟩, hti⟩ : ∃ t, ts[i]? = some t := ⟨ts[i], by simp⟩
    have hta : RdM M2 1 tv tz.length (i64s tz) := ha _ (List.mem_of_getElem? hti)
    obtain ⟨tva, tvc, rfl, _⟩ := hta.slice
    refine cw_skip ?_
    refine hK9 _ _ ?_
    clear hK9 K9
    refine cw_seq fun K11 hK11 => ?_
    refine cw_block ?_
    refine cw_rs fun K12 hK12 => ?_
    -- region 9
    refine as_q rfl rfl (q_fieldAddr (off := 1) (by kernel_rfl) rfl) ?_
    refine as_q rfl rfl (q_load1 (by kernel_rfl) rfl (by first | exact BlkR.cell (hT.sat _ _ _ hb1) rfl | exact BlkR.cell (hT.sat _ _ _ hb2) rfl | assumption)) ?_
    refine as_q rfl rfl (q_move rfl) ?_
    refine as_q rfl rfl (q_indexAddr (e := 51) (size := 2) (by kernel_rfl) (by kernel_rfl) rfl rfl (by omega) (by omega)) ?_
    refine as_q rfl rfl (q_fieldAddr (off := 1) (by kernel_rfl) rfl) ?_
    refine as_q rfl rfl (q_load1 (by kernel_rfl) rfl ((hr.elem hT.sat rfl (flat_elem (j := (i : Int).toNat) (by simpa using hti))).2 1 _ rfl)) ?_
    refine as_q rfl rfl (q_len (by kernel_rfl) rfl _) ?_
    first | refine as_q rfl rfl (q_gtT rfl rfl (by omega)) ?_ | refine as_q rfl rfl (q_gtF rfl rfl (by omega)) ?_ | refine as_q rfl rfl (q_gt rfl rfl) ?_
    refine as_nil (hK12 _ _ ?_)
    clear hK12 K12
    refine cw_cond rfl (fun hc3 => ?_) (fun hc3 => ?_)
    · skip
      refine cw_rs fun K13 hK13 => ?_
      -- region 10
      refine as_q rfl rfl (q_assign rfl) ?_
      refine as_nil (hK13 _ _ ?_)
      clear hK13 K13
      refine cw_ret ?_
      exact ⟨_, (res_tmp rfl res_nil), rfl, hT.forget⟩
    · skip
      have h20 : tz.length ≤ 20 := by have := of_decide_eq_false hc3; omega
      refine cw_skip ?_
      refine hK11 _ _ ?_
      clear hK11 K11
      refine cw_region fun K14 hK14 => ?_
      -- region 8
      refine as_q rfl rfl (q_move rfl) ?_
      refine as_q rfl rfl (q_addx rfl rfl (by omega) (by omega)) ?_
      refine as_q rfl rfl (q_assign rfl) ?_
      refine as_nil (hK14 _ _ ?_)
      clear hK14 K14
      refine ⟨_, _, ?_, (.cons rfl (.cons rfl (.cons rfl (.cons rfl (.nil _))))), i + 1, rfl, by omega, fun j t hj ht => ?_, rfl, hT⟩
      · omega
      · rcases Nat.lt_or_ge j i with h | h
        · exact hall j t h ht
        · obtain rfl : j = i := by omega
          rw [hti] at ht
          cases ht
          exact h20
  · skip
    have hge : i = ts.length := by have := of_decide_eq_false hc2; omega
    have h20 : (build room (keyT ts)).length ≤ 1 + ts.length * 22 := by
      have h := build_le room 20 (keyT ts) (fun o ho => by
        obtain ⟨t, ht, rfl⟩ := List.mem_map.1 ho
        obtain ⟨j, hj⟩ := List.getElem?_of_mem ht
        exact hall j t (by have := (List.getElem?_eq_some_iff.1 hj).1; omega) hj)
      rw [keyT_length] at h
      exact h
    have hcc : c < 1 ∨ 22 < c ∨ (1 ≤ c ∧ c ≤ 22) := by omega
    rcases hcc with hc | hc | ⟨hc1, hc2⟩
    · skip
      have hao := argsOf_out (c := c) (Or.inl hc)
      refine cw_exit ?_
      refine hK7 _ _ ?_
      clear hK9 K9
      clear hK7 K7
      refine cw_rs fun K15 hK15 => ?_
      -- region 11
      refine as_q rfl rfl (q_move rfl) ?_
      refine as_h rfl (h_call (by kernel_rfl) rfl ?_)
      refine (parse18 hT.sat (by omega) hv).mono ?_
      rintro v4 w4 ⟨M4, hs4, hp4⟩
      obtain ⟨oa1, oc1, rfl, hov1⟩ := hp4.no hpz
      replace hb1 := hs4.le _ _ hb1
      replace hb2 := hs4.le _ _ hb2
      replace hv := hv.mono hs4.le
      replace hr := hr.mono hs4.le
      replace ha := ha.mono hs4.le
      replace hT := hT.then hs4
      have hz4 := hs4.size
      refine as_q rfl rfl (q_move rfl) ?_
      refine as_q rfl rfl (q_extract rfl rfl) ?_
      refine as_q rfl rfl (q_extract rfl rfl) ?_
      have hqa9 := hT.size
      refine as_h rfl (h_allocO (z := (.agg #[(.int .i64 0), (.slice none 0 0)])) hs4.sat (by kernel_rfl) rfl fun b9 w5 hs5 ho9 e9 => ?_)
      replace hb1 := hs5.le _ _ hb1
      replace hb2 := hs5.le _ _ hb2
      replace hv := hv.mono hs5.le
      replace hr := hr.mono hs5.le
      replace ha := ha.mono hs5.le
      replace hov1 := hov1.mono hs5.le
      replace hT := hT.then hs5
      have hz5 := hs5.size
      have hl9 := ho9.1.lt
      refine as_h0 (h_store hs5.sat ho9 rfl rfl rfl (by kernel_rfl) rfl rfl rfl fun w6 hs6 hn6 => ?_)
      replace hb1 := hs6.le _ _ hb1
      replace hb2 := hs6.le _ _ hb2
      replace hv := hv.mono hs6.le
      replace hr := hr.mono hs6.le
      replace ha := ha.mono hs6.le
      replace hov1 := hov1.mono hs6.le
      clear ho9; have ho9 := hn6; clear hn6
      replace hT := hT.own hs6 (by omega)
      have hz6 := hs6.size
      refine as_q rfl rfl (q_assign rfl) ?_
      refine as_nil (hK15 _ _ ?_)
      clear hK15 K15
      refine cw_rs fun K16 hK16 => ?_
      -- region 12
      refine as_q rfl rfl (q_move rfl) ?_
      refine as_h rfl (h_call (by kernel_rfl) rfl ?_)
      refine (rparse18 hs6.sat (by omega) hv).mono ?_
      rintro v7 w7 ⟨M7, hs7, hp7⟩
      obtain ⟨oa2, oc2, rfl, hov2⟩ := hp7.no hpz
      replace hb1 := hs7.le _ _ hb1
      replace hb2 := hs7.le _ _ hb2
      replace hv := hv.mono hs7.le
      replace hr := hr.mono hs7.le
      replace ha := ha.mono hs7.le
      replace hov1 := hov1.mono hs7.le
      replace ho9 := ho9.then hs7
      replace hT := hT.then hs7
      have hz7 := hs7.size
      refine as_q rfl rfl (q_move rfl) ?_
      refine as_q rfl rfl (q_extract rfl rfl) ?_
      refine as_q rfl rfl (q_extract rfl rfl) ?_
      have hqa11 := hT.size
      refine as_h rfl (h_allocO (z := (.agg #[(.int .i64 0), (.slice none 0 0)])) hs7.sat (by kernel_rfl) rfl fun b11 w8 hs8 ho11 e11 => ?_)
      replace hb1 := hs8.le _ _ hb1
      replace hb2 := hs8.le _ _ hb2
      replace hv := hv.mono hs8.le
      replace hr := hr.mono hs8.le
      replace ha := ha.mono hs8.le
      replace hov1 := hov1.mono hs8.le
      replace ho9 := ho9.then hs8
      replace hov2 := hov2.mono hs8.le
      replace hT := hT.then hs8
      have hz8 := hs8.size
      have hl11 := ho11.1.lt
      refine as_h0 (h_store hs8.sat ho11 rfl rfl rfl (by kernel_rfl) rfl rfl rfl fun w9 hs9 hn9 => ?_)
      replace hb1 := hs9.le _ _ hb1
      replace hb2 := hs9.le _ _ hb2
      replace hv := hv.mono hs9.le
      replace hr := hr.mono hs9.le
      replace ha := ha.mono hs9.le
      replace hov1 := hov1.mono hs9.le
      replace ho9 := ho9.step hs9 (fun h => by have h : _ = _ := h; omega)
      replace hov2 := hov2.mono hs9.le
      clear ho11; have ho11 := hn9; clear hn9
      replace hT := hT.own hs9 (by omega)
      have hz9 := hs9.size
      refine as_q rfl rfl (q_assign rfl) ?_
      refine as_nil (hK16 _ _ ?_)
      clear hK16 K16
      refine cw_rs fun K17 hK17 => ?_
      -- region 13
      refine as_q rfl rfl (q_fieldAddr (off := 0) (by kernel_rfl) rfl) ?_
      refine as_q rfl rfl (q_load1 (by kernel_rfl) rfl (by first | exact BlkR.cell (hs9.sat _ _ _ hb1) rfl | exact BlkR.cell (hs9.sat _ _ _ hb2) rfl | exact Blk.cell ho9.1 rfl | exact Blk.cell ho11.1 rfl | assumption)) ?_
      refine as_h rfl (h_call (by kernel_rfl) rfl ?_)
      refine (args_lo hs9.sat hc).mono ?_
      rintro _ w10 ⟨rfl, hs10⟩
      replace hb1 := hs10.le _ _ hb1
      replace hb2 := hs10.le _ _ hb2
      replace hv := hv.mono hs10.le
      replace hr := hr.mono hs10.le
      replace ha := ha.mono hs10.le
      replace hov1 := hov1.mono hs10.le
      replace ho9 := ho9.then hs10
      replace hov2 := hov2.mono hs10.le
      replace ho11 := ho11.then hs10
      replace hT := hT.then hs10
      have hz10 := hs10.size
      refine as_q rfl rfl (q_move rfl) ?_
      refine as_q rfl rfl (q_extract rfl rfl) ?_
      refine as_q rfl rfl (q_extract rfl rfl) ?_
      refine as_q rfl rfl (q_assign rfl) ?_
      refine as_q rfl rfl (q_assign rfl) ?_
      refine as_nil (hK17 _ _ ?_)
      clear hK17 K17
      refine cw_rs fun K18 hK18 => ?_
      -- region 14
      refine as_q rfl rfl (q_fieldAddr (off := 0) (by kernel_rfl) rfl) ?_
      refine as_q rfl rfl (q_load1 (by kernel_rfl) rfl (by first | exact BlkR.cell (hs10.sat _ _ _ hb1) rfl | exact BlkR.cell (hs10.sat _ _ _ hb2) rfl | exact Blk.cell ho9.1 rfl | exact Blk.cell ho11.1 rfl | assumption)) ?_
      refine as_h rfl (h_call (by kernel_rfl) rfl ?_)
      refine (rargs hs10.sat).mono ?_
      rintro v11 w11 ⟨hv11, hs11⟩
      obtain rfl : v11 = .int .i64 (-1) := hv11.trans (by rw [hao])
      replace hb1 := hs11.le _ _ hb1
      replace hb2 := hs11.le _ _ hb2
      replace hv := hv.mono hs11.le
      replace hr := hr.mono hs11.le
      replace ha := ha.mono hs11.le
      replace hov1 := hov1.mono hs11.le
      replace ho9 := ho9.then hs11
      replace hov2 := hov2.mono hs11.le
      replace ho11 := ho11.then hs11
      replace hT := hT.then hs11
      have hz11 := hs11.size
      refine as_q rfl rfl (q_assign rfl) ?_
      refine as_nil (hK18 _ _ ?_)
      clear hK18 K18
      refine cw_seq fun K19 hK19 => ?_
      refine cw_rd (by kernel_rfl) (by kernel_rfl) (by kernel_rfl) rfl rfl fun K20 hK20 => ?_
      -- region 15
      have hs12 := Step.drew hs11.sat
      have hz12 := hs12.size
      replace hb1 := hs12.le _ _ hb1
      replace hb2 := hs12.le _ _ hb2
      replace hv := hv.mono hs12.le
      replace hr := hr.mono hs12.le
      replace ha := ha.mono hs12.le
      replace hov1 := hov1.mono hs12.le
      replace ho9 := ho9.then hs12
      replace hov2 := hov2.mono hs12.le
      replace ho11 := ho11.then hs12
      replace hT := hT.then hs12
      refine at_q (i := 0) (li := #[true, false, false, false, false, false, false, false, false, false, false, false, false, false, false, false, false, false, false, false, false]) rfl (by kernel_rfl) rfl (fun _ => (q_move rfl)) (by kernel_rfl) ?_
      refine at_q (i := 1) (li := #[true, true, false, false, false, false, false, false, false, false, false, false, false, false, false, false, false, false, false, false, false]) rfl (by kernel_rfl) rfl (fun _ => (q_move rfl)) (by kernel_rfl) ?_
      first | refine at_q (i := 2) (li := #[true, true, true, false, false, false, false, false, false, false, false, false, false, false, false, false, false, false, false, false, false]) rfl (by kernel_rfl) rfl (fun _ => (q_neT rfl rfl (by omega))) (by kernel_rfl) ?_ | refine at_q (i := 2) (li := #[true, true, true, false, false, false, false, false, false, false, false, false, false, false, false, false, false, false, false, false, false]) rfl (by kernel_rfl) rfl (fun _ => (q_neF rfl rfl (by omega))) (by kernel_rfl) ?_ | refine at_q (i := 2) (li := #[true, true, true, false, false, false, false, false, false, false, false, false, false, false, false, false, false, false, false, false, false]) rfl (by kernel_rfl) rfl (fun _ => (q_ne rfl rfl)) (by kernel_rfl) ?_
      refine at_q (i := 3) (li := #[true, true, true, true, false, false, false, false, false, false, false, false, false, false, false, false, false, false, false, false, false]) rfl (by kernel_rfl) rfl (fun _ => (q_move rfl)) (by kernel_rfl) ?_
      first | refine at_gskip (i := 4) (li := #[true, true, true, true, true, false, false, false, false, false, false, false, false, false, false, false, false, false, false, false, false]) rfl (by kernel_rfl) rfl rfl rfl rfl rfl (by kernel_rfl) ?_ | refine at_gskipU (i := 4) (li := #[true, true, true, true, true, false, false, false, false, false, false, false, false, false, false, false, false, false, false, false, false]) rfl (by kernel_rfl) rfl rfl rfl rfl (by kernel_rfl) ?_ | refine at_gq (i := 4) (li := #[true, true, true, true, true, false, false, false, false, false, false, false, false, false, false, false, false, false, false, false, false]) (cellsAre _ _ 2 _) rfl (by kernel_rfl) rfl rfl rfl rfl (fun _ h => q_loadc (n := 2) (by kernel_rfl) rfl h) (by first | exact BlkR.cells (hs12.sat _ _ _ hb1) rfl | exact BlkR.cells (hs12.sat _ _ _ hb2) rfl | exact Blk.cells ho9.1 rfl | exact Blk.cells ho11.1 rfl | assumption) (by kernel_rfl) ?_
      first | refine at_gskip (i := 7) (li := #[true, true, true, true, true, false, false, true, false, false, false, false, false, false, false, false, false, false, false, false, false]) rfl (by kernel_rfl) rfl rfl rfl rfl rfl (by kernel_rfl) ?_ | refine at_gskipU (i := 7) (li := #[true, true, true, true, true, false, false, true, false, false, false, false, false, false, false, false, false, false, false, false, false]) rfl (by kernel_rfl) rfl rfl rfl rfl (by kernel_rfl) ?_ | refine at_gq (i := 7) (li := #[true, true, true, true, true, false, false, true, false, false, false, false, false, false, false, false, false, false, false, false, false]) (cellsAre _ _ 2 _) rfl (by kernel_rfl) rfl rfl rfl rfl (fun _ h => q_loadc (n := 2) (by kernel_rfl) rfl h) (by first | exact BlkR.cells (hs12.sat _ _ _ hb1) rfl | exact BlkR.cells (hs12.sat _ _ _ hb2) rfl | exact Blk.cells ho9.1 rfl | exact Blk.cells ho11.1 rfl | assumption) (by kernel_rfl) ?_
      refine at_gh (i := 5) (li := #[true, true, true, true, true, true, false, true, false, false, false, false, false, false, false, false, false, false, false, false, false]) rfl (by kernel_rfl) rfl rfl rfl rfl rfl (by kernel_rfl) (h_call (by kernel_rfl) rfl ?_)
      refine (plain18 (ts := []) hs12.sat hov1 (fun t ht => by cases ht) (by omega)).mono ?_
      rintro _ w13 ⟨pv13, rfl, M13, hs13, hpl1⟩
      obtain ⟨pa13, pc13, rfl, _⟩ := hpl1.slice
      replace hb1 := hs13.le _ _ hb1
      replace hb2 := hs13.le _ _ hb2
      replace hv := hv.mono hs13.le
      replace hr := hr.mono hs13.le
      replace ha := ha.mono hs13.le
      replace hov1 := hov1.mono hs13.le
      replace ho9 := ho9.then hs13
      replace hov2 := hov2.mono hs13.le
      replace ho11 := ho11.then hs13
      replace hT := hT.then hs13
      have hz13 := hs13.size
      refine ⟨(by repeat' first | exact trivial | exact BlkR.cell (hs13.sat _ _ _ hb1) rfl | exact BlkR.cells (hs13.sat _ _ _ hb1) rfl | exact BlkR.cell (hs13.sat _ _ _ hb2) rfl | exact BlkR.cells (hs13.sat _ _ _ hb2) rfl | exact Blk.cell ho9.1 rfl | exact Blk.cells ho9.1 rfl | exact Blk.cell ho11.1 rfl | exact Blk.cells ho11.1 rfl | assumption | refine all_keep ?_ | refine And.intro ?_ ?_), ?_⟩
      refine at_gh (i := 6) (li := #[true, true, true, true, true, true, true, true, false, false, false, false, false, false, false, false, false, false, false, false, false]) rfl (by kernel_rfl) rfl rfl rfl rfl rfl (by kernel_rfl) (h_call (by kernel_rfl) rfl ?_)
      refine (rbuild18 (ts := []) hs13.sat hpl1 (fun t ht => by cases ht) (by simp [build, keyT])).mono ?_
      rintro v14 w14 ⟨M14, hs14, hb1x⟩
      replace hb1 := hs14.le _ _ hb1
      replace hb2 := hs14.le _ _ hb2
      replace hv := hv.mono hs14.le
      replace hr := hr.mono hs14.le
      replace ha := ha.mono hs14.le
      replace hov1 := hov1.mono hs14.le
      replace ho9 := ho9.then hs14
      replace hov2 := hov2.mono hs14.le
      replace ho11 := ho11.then hs14
      replace hpl1 := hpl1.mono hs14.le
      replace hT := hT.then hs14
      have hz14 := hs14.size
      refine ⟨(by repeat' first | exact trivial | exact BlkR.cell (hs14.sat _ _ _ hb1) rfl | exact BlkR.cells (hs14.sat _ _ _ hb1) rfl | exact BlkR.cell (hs14.sat _ _ _ hb2) rfl | exact BlkR.cells (hs14.sat _ _ _ hb2) rfl | exact Blk.cell ho9.1 rfl | exact Blk.cells ho9.1 rfl | exact Blk.cell ho11.1 rfl | exact Blk.cells ho11.1 rfl | assumption | refine all_keep ?_ | refine And.intro ?_ ?_), ?_⟩
      refine at_gh (i := 8) (li := #[true, true, true, true, true, true, true, true, true, false, false, false, false, false, false, false, false, false, false, false, false]) rfl (by kernel_rfl) rfl rfl rfl rfl rfl (by kernel_rfl) (h_call (by kernel_rfl) rfl ?_)
      refine (rbuild18 (ts := []) hs14.sat hov2 (fun t ht => by cases ht) (by simp [build, keyT])).mono ?_
      rintro v15 w15 ⟨M15, hs15, hb2x⟩
      replace hb1 := hs15.le _ _ hb1
      replace hb2 := hs15.le _ _ hb2
      replace hv := hv.mono hs15.le
      replace hr := hr.mono hs15.le
      replace ha := ha.mono hs15.le
      replace hov1 := hov1.mono hs15.le
      replace ho9 := ho9.then hs15
      replace hov2 := hov2.mono hs15.le
      replace ho11 := ho11.then hs15
      replace hpl1 := hpl1.mono hs15.le
      replace hb1x := hb1x.mono hs15.le
      replace hT := hT.then hs15
      have hz15 := hs15.size
      refine ⟨(by repeat' first | exact trivial | exact BlkR.cell (hs15.sat _ _ _ hb1) rfl | exact BlkR.cells (hs15.sat _ _ _ hb1) rfl | exact BlkR.cell (hs15.sat _ _ _ hb2) rfl | exact BlkR.cells (hs15.sat _ _ _ hb2) rfl | exact Blk.cell ho9.1 rfl | exact Blk.cells ho9.1 rfl | exact Blk.cell ho11.1 rfl | exact Blk.cells ho11.1 rfl | assumption | refine all_keep ?_ | refine And.intro ?_ ?_), ?_⟩
      refine at_gh (i := 9) (li := #[true, true, true, true, true, true, true, true, true, true, false, false, false, false, false, false, false, false, false, false, false]) rfl (by kernel_rfl) rfl rfl rfl rfl rfl (by kernel_rfl) (h_call (by kernel_rfl) rfl ?_)
      refine (same18 hs15.sat (by simp [build, keyT]) hb1x hb2x).mono ?_
      rintro v16 w16 ⟨hv16, hs16⟩
      obtain rfl : v16 = .bool true := hv16.trans (congrArg Value.bool (decide_eq_true rfl))
      replace hb1 := hs16.le _ _ hb1
      replace hb2 := hs16.le _ _ hb2
      replace hv := hv.mono hs16.le
      replace hr := hr.mono hs16.le
      replace ha := ha.mono hs16.le
      replace hov1 := hov1.mono hs16.le
      replace ho9 := ho9.then hs16
      replace hov2 := hov2.mono hs16.le
      replace ho11 := ho11.then hs16
      replace hpl1 := hpl1.mono hs16.le
      replace hb1x := hb1x.mono hs16.le
      replace hb2x := hb2x.mono hs16.le
      replace hT := hT.then hs16
      have hz16 := hs16.size
      refine ⟨(by repeat' first | exact trivial | exact BlkR.cell (hs16.sat _ _ _ hb1) rfl | exact BlkR.cells (hs16.sat _ _ _ hb1) rfl | exact BlkR.cell (hs16.sat _ _ _ hb2) rfl | exact BlkR.cells (hs16.sat _ _ _ hb2) rfl | exact Blk.cell ho9.1 rfl | exact Blk.cells ho9.1 rfl | exact Blk.cell ho11.1 rfl | exact Blk.cells ho11.1 rfl | assumption | refine all_keep ?_ | refine And.intro ?_ ?_), ?_⟩
      first | refine at_gskip (i := 10) (li := #[true, true, true, true, true, true, true, true, true, true, true, false, false, false, false, false, false, false, false, false, false]) rfl (by kernel_rfl) rfl rfl rfl rfl rfl (by kernel_rfl) ?_ | refine at_gskipU (i := 10) (li := #[true, true, true, true, true, true, true, true, true, true, true, false, false, false, false, false, false, false, false, false, false]) rfl (by kernel_rfl) rfl rfl rfl rfl (by kernel_rfl) ?_ | refine at_gp (i := 10) (li := #[true, true, true, true, true, true, true, true, true, true, true, false, false, false, false, false, false, false, false, false, false]) rfl (by kernel_rfl) rfl rfl rfl rfl (fun _ => (q_not rfl)) (by kernel_rfl) ?_
      first | refine at_q (i := 11) (li := #[true, true, true, true, true, true, true, true, true, true, true, true, false, false, false, false, false, false, false, false, false]) rfl (by kernel_rfl) rfl (fun _ => (q_pick_t rfl rfl)) (by kernel_rfl) ?_ | refine at_q (i := 11) (li := #[true, true, true, true, true, true, true, true, true, true, true, true, false, false, false, false, false, false, false, false, false]) rfl (by kernel_rfl) rfl (fun _ => (q_pick_f rfl rfl)) (by kernel_rfl) ?_ | refine at_q (i := 11) (li := #[true, true, true, true, true, true, true, true, true, true, true, true, false, false, false, false, false, false, false, false, false]) rfl (by kernel_rfl) rfl (fun _ => (q_pick rfl rfl rfl)) (by kernel_rfl) ?_
      refine at_q (i := 12) (li := #[true, true, true, true, true, true, true, true, true, true, true, true, true, false, false, false, false, false, false, false, false]) rfl (by kernel_rfl) rfl (fun _ => (q_move rfl)) (by kernel_rfl) ?_
      first | refine at_gskip (i := 13) (li := #[true, true, true, true, true, true, true, true, true, true, true, true, true, true, false, false, false, false, false, false, false]) rfl (by kernel_rfl) rfl rfl rfl rfl rfl (by kernel_rfl) ?_ | refine at_gskipU (i := 13) (li := #[true, true, true, true, true, true, true, true, true, true, true, true, true, true, false, false, false, false, false, false, false]) rfl (by kernel_rfl) rfl rfl rfl rfl (by kernel_rfl) ?_ | refine at_gp (i := 13) (li := #[true, true, true, true, true, true, true, true, true, true, true, true, true, true, false, false, false, false, false, false, false]) rfl (by kernel_rfl) rfl rfl rfl rfl (fun _ => (q_fieldAddr (off := 1) (by kernel_rfl) rfl)) (by kernel_rfl) ?_
      first | refine at_gskip (i := 14) (li := #[true, true, true, true, true, true, true, true, true, true, true, true, true, true, true, false, false, false, false, false, false]) rfl (by kernel_rfl) rfl rfl rfl rfl rfl (by kernel_rfl) ?_ | refine at_gskipU (i := 14) (li := #[true, true, true, true, true, true, true, true, true, true, true, true, true, true, true, false, false, false, false, false, false]) rfl (by kernel_rfl) rfl rfl rfl rfl (by kernel_rfl) ?_ | refine at_gq (i := 14) (li := #[true, true, true, true, true, true, true, true, true, true, true, true, true, true, true, false, false, false, false, false, false]) (cellIs _ _ _) rfl (by kernel_rfl) rfl rfl rfl rfl (fun _ h => q_load1 (by kernel_rfl) rfl h) (by first | exact BlkR.cell (hs16.sat _ _ _ hb1) rfl | exact BlkR.cell (hs16.sat _ _ _ hb2) rfl | exact Blk.cell ho9.1 rfl | exact Blk.cell ho11.1 rfl | assumption) (by kernel_rfl) ?_
      first | refine at_gskip (i := 15) (li := #[true, true, true, true, true, true, true, true, true, true, true, true, true, true, true, true, false, false, false, false, false]) rfl (by kernel_rfl) rfl rfl rfl rfl rfl (by kernel_rfl) ?_ | refine at_gskipU (i := 15) (li := #[true, true, true, true, true, true, true, true, true, true, true, true, true, true, true, true, false, false, false, false, false]) rfl (by kernel_rfl) rfl rfl rfl rfl (by kernel_rfl) ?_ | refine at_gp (i := 15) (li := #[true, true, true, true, true, true, true, true, true, true, true, true, true, true, true, true, false, false, false, false, false]) rfl (by kernel_rfl) rfl rfl rfl rfl (fun _ => (q_len (by kernel_rfl) rfl _)) (by kernel_rfl) ?_
      first | refine at_gskip (i := 16) (li := #[true, true, true, true, true, true, true, true, true, true, true, true, true, true, true, true, true, false, false, false, false]) rfl (by kernel_rfl) rfl rfl rfl rfl rfl (by kernel_rfl) ?_ | refine at_gskipU (i := 16) (li := #[true, true, true, true, true, true, true, true, true, true, true, true, true, true, true, true, true, false, false, false, false]) rfl (by kernel_rfl) rfl rfl rfl rfl (by kernel_rfl) ?_ | refine at_gp (i := 16) (li := #[true, true, true, true, true, true, true, true, true, true, true, true, true, true, true, true, true, false, false, false, false]) rfl (by kernel_rfl) rfl rfl rfl rfl (fun _ => (q_fieldAddr (off := 1) (by kernel_rfl) rfl)) (by kernel_rfl) ?_
      first | refine at_gskip (i := 17) (li := #[true, true, true, true, true, true, true, true, true, true, true, true, true, true, true, true, true, true, false, false, false]) rfl (by kernel_rfl) rfl rfl rfl rfl rfl (by kernel_rfl) ?_ | refine at_gskipU (i := 17) (li := #[true, true, true, true, true, true, true, true, true, true, true, true, true, true, true, true, true, true, false, false, false]) rfl (by kernel_rfl) rfl rfl rfl rfl (by kernel_rfl) ?_ | refine at_gq (i := 17) (li := #[true, true, true, true, true, true, true, true, true, true, true, true, true, true, true, true, true, true, false, false, false]) (cellIs _ _ _) rfl (by kernel_rfl) rfl rfl rfl rfl (fun _ h => q_load1 (by kernel_rfl) rfl h) (by first | exact BlkR.cell (hs16.sat _ _ _ hb1) rfl | exact BlkR.cell (hs16.sat _ _ _ hb2) rfl | exact Blk.cell ho9.1 rfl | exact Blk.cell ho11.1 rfl | assumption) (by kernel_rfl) ?_
      first | refine at_gskip (i := 18) (li := #[true, true, true, true, true, true, true, true, true, true, true, true, true, true, true, true, true, true, true, false, false]) rfl (by kernel_rfl) rfl rfl rfl rfl rfl (by kernel_rfl) ?_ | refine at_gskipU (i := 18) (li := #[true, true, true, true, true, true, true, true, true, true, true, true, true, true, true, true, true, true, true, false, false]) rfl (by kernel_rfl) rfl rfl rfl rfl (by kernel_rfl) ?_ | refine at_gp (i := 18) (li := #[true, true, true, true, true, true, true, true, true, true, true, true, true, true, true, true, true, true, true, false, false]) rfl (by kernel_rfl) rfl rfl rfl rfl (fun _ => (q_len (by kernel_rfl) rfl _)) (by kernel_rfl) ?_
      first | refine at_gskip (i := 19) (li := #[true, true, true, true, true, true, true, true, true, true, true, true, true, true, true, true, true, true, true, true, false]) rfl (by kernel_rfl) rfl rfl rfl rfl rfl (by kernel_rfl) ?_ | refine at_gskipU (i := 19) (li := #[true, true, true, true, true, true, true, true, true, true, true, true, true, true, true, true, true, true, true, true, false]) rfl (by kernel_rfl) rfl rfl rfl rfl (by kernel_rfl) ?_ | refine at_gp (i := 19) (li := #[true, true, true, true, true, true, true, true, true, true, true, true, true, true, true, true, true, true, true, true, false]) rfl (by kernel_rfl) rfl rfl rfl rfl (fun _ => (q_neT rfl rfl (by omega))) (by kernel_rfl) ?_ | refine at_gp (i := 19) (li := #[true, true, true, true, true, true, true, true, true, true, true, true, true, true, true, true, true, true, true, true, false]) rfl (by kernel_rfl) rfl rfl rfl rfl (fun _ => (q_neF rfl rfl (by omega))) (by kernel_rfl) ?_ | refine at_gp (i := 19) (li := #[true, true, true, true, true, true, true, true, true, true, true, true, true, true, true, true, true, true, true, true, false]) rfl (by kernel_rfl) rfl rfl rfl rfl (fun _ => (q_ne rfl rfl)) (by kernel_rfl) ?_
      first | refine at_q (i := 20) (li := #[true, true, true, true, true, true, true, true, true, true, true, true, true, true, true, true, true, true, true, true, true]) rfl (by kernel_rfl) rfl (fun _ => (q_pick_t rfl rfl)) (by kernel_rfl) ?_ | refine at_q (i := 20) (li := #[true, true, true, true, true, true, true, true, true, true, true, true, true, true, true, true, true, true, true, true, true]) rfl (by kernel_rfl) rfl (fun _ => (q_pick_f rfl rfl)) (by kernel_rfl) ?_ | refine at_q (i := 20) (li := #[true, true, true, true, true, true, true, true, true, true, true, true, true, true, true, true, true, true, true, true, true]) rfl (by kernel_rfl) rfl (fun _ => (q_pick rfl rfl rfl)) (by kernel_rfl) ?_
      refine at_done (by kernel_rfl) (hK20 _ _ ?_)
      clear hK20 K20
      refine cw_false rfl ?_
      refine cw_skip ?_
      refine hK19 _ _ ?_
      clear hK19 K19
      refine cw_rd (by kernel_rfl) (by kernel_rfl) (by kernel_rfl) rfl rfl fun K21 hK21 => ?_
      -- region 17
      have hs17 := Step.drew hs16.sat
      have hz17 := hs17.size
      replace hb1 := hs17.le _ _ hb1
      replace hb2 := hs17.le _ _ hb2
      replace hv := hv.mono hs17.le
      replace hr := hr.mono hs17.le
      replace ha := ha.mono hs17.le
      replace hov1 := hov1.mono hs17.le
      replace ho9 := ho9.then hs17
      replace hov2 := hov2.mono hs17.le
      replace ho11 := ho11.then hs17
      replace hpl1 := hpl1.mono hs17.le
      replace hb1x := hb1x.mono hs17.le
      replace hb2x := hb2x.mono hs17.le
      replace hT := hT.then hs17
      refine at_l (i := 0) (li := #[true, false, false, false, false, false, false, false, false, false, false, false, false, false, false, false, false, false, false, false, false, false, false, false, false, false, false, false, false, false]) (cellsAre _ _ 2 _) rfl (by kernel_rfl) rfl (fun _ h => q_loadc (n := 2) (by kernel_rfl) rfl h) (by first | exact BlkR.cells (hs17.sat _ _ _ hb1) rfl | exact BlkR.cells (hs17.sat _ _ _ hb2) rfl | exact Blk.cells ho9.1 rfl | exact Blk.cells ho11.1 rfl | assumption) (by kernel_rfl) ?_
      refine at_l (i := 2) (li := #[true, false, true, false, false, false, false, false, false, false, false, false, false, false, false, false, false, false, false, false, false, false, false, false, false, false, false, false, false, false]) (cellsAre _ _ 2 _) rfl (by kernel_rfl) rfl (fun _ h => q_loadc (n := 2) (by kernel_rfl) rfl h) (by first | exact BlkR.cells (hs17.sat _ _ _ hb1) rfl | exact BlkR.cells (hs17.sat _ _ _ hb2) rfl | exact Blk.cells ho9.1 rfl | exact Blk.cells ho11.1 rfl | assumption) (by kernel_rfl) ?_
      refine at_h (i := 1) (li := #[true, true, true, false, false, false, false, false, false, false, false, false, false, false, false, false, false, false, false, false, false, false, false, false, false, false, false, false, false, false]) rfl (by kernel_rfl) rfl (keep_sift (bs := [false, true]) (by kernel_rfl)) (by kernel_rfl) (h_call (by kernel_rfl) rfl ?_)
      refine (build18 (ts := ts) hs17.sat hr ha (by omega)).frozen.mono ?_
      rintro v18 w18 ⟨M18, hs18, hbs⟩
      replace hb1 := hs18.le _ _ hb1
      replace hb2 := hs18.le _ _ hb2
      replace hv := hv.mono hs18.le
      replace hr := hr.mono hs18.le
      replace ha := ha.mono hs18.le
      replace hov1 := hov1.mono hs18.le
      replace ho9 := ho9.then hs18
      replace hov2 := hov2.mono hs18.le
      replace ho11 := ho11.then hs18
      replace hpl1 := hpl1.mono hs18.le
      replace hb1x := hb1x.mono hs18.le
      replace hb2x := hb2x.mono hs18.le
      replace hT := hT.then hs18
      have hz18 := hs18.size
      refine ⟨(by repeat' first | exact trivial | exact BlkR.cell (hs18.sat _ _ _ hb1) rfl | exact BlkR.cells (hs18.sat _ _ _ hb1) rfl | exact BlkR.cell (hs18.sat _ _ _ hb2) rfl | exact BlkR.cells (hs18.sat _ _ _ hb2) rfl | exact Blk.cell ho9.1 rfl | exact Blk.cells ho9.1 rfl | exact Blk.cell ho11.1 rfl | exact Blk.cells ho11.1 rfl | assumption | refine all_keep ?_ | refine And.intro ?_ ?_), ?_⟩
      refine at_h (i := 3) (li := #[true, true, true, true, false, false, false, false, false, false, false, false, false, false, false, false, false, false, false, false, false, false, false, false, false, false, false, false, false, false]) rfl (by kernel_rfl) rfl (keep_sift (bs := [true]) (by kernel_rfl)) (by kernel_rfl) (h_call (by kernel_rfl) rfl ?_)
      refine (plain18 (ts := ts) hs18.sat hr ha (by omega)).mono ?_
      rintro _ w19 ⟨pv19, rfl, M19, hs19, hpl2⟩
      obtain ⟨pa19, pc19, rfl, _⟩ := hpl2.slice
      replace hb1 := hs19.le _ _ hb1
      replace hb2 := hs19.le _ _ hb2
      replace hv := hv.mono hs19.le
      replace hr := hr.mono hs19.le
      replace ha := ha.mono hs19.le
      replace hov1 := hov1.mono hs19.le
      replace ho9 := ho9.then hs19
      replace hov2 := hov2.mono hs19.le
      replace ho11 := ho11.then hs19
      replace hpl1 := hpl1.mono hs19.le
      replace hb1x := hb1x.mono hs19.le
      replace hb2x := hb2x.mono hs19.le
      replace hbs := hbs.mono hs19.le
      replace hT := hT.then hs19
      have hz19 := hs19.size
      refine ⟨(by repeat' first | exact trivial | exact BlkR.cell (hs19.sat _ _ _ hb1) rfl | exact BlkR.cells (hs19.sat _ _ _ hb1) rfl | exact BlkR.cell (hs19.sat _ _ _ hb2) rfl | exact BlkR.cells (hs19.sat _ _ _ hb2) rfl | exact Blk.cell ho9.1 rfl | exact Blk.cells ho9.1 rfl | exact Blk.cell ho11.1 rfl | exact Blk.cells ho11.1 rfl | assumption | refine all_keep ?_ | refine And.intro ?_ ?_), ?_⟩
      refine at_h (i := 4) (li := #[true, true, true, true, true, false, false, false, false, false, false, false, false, false, false, false, false, false, false, false, false, false, false, false, false, false, false, false, false, false]) rfl (by kernel_rfl) rfl rfl (by kernel_rfl) (h_call (by kernel_rfl) rfl ?_)
      refine (rbuild18 (ts := ts) hs19.sat hpl2 ha (by omega)).mono ?_
      rintro v20 w20 ⟨M20, hs20, hb3x⟩
      replace hb1 := hs20.le _ _ hb1
      replace hb2 := hs20.le _ _ hb2
      replace hv := hv.mono hs20.le
      replace hr := hr.mono hs20.le
      replace ha := ha.mono hs20.le
      replace hov1 := hov1.mono hs20.le
      replace ho9 := ho9.then hs20
      replace hov2 := hov2.mono hs20.le
      replace ho11 := ho11.then hs20
      replace hpl1 := hpl1.mono hs20.le
      replace hb1x := hb1x.mono hs20.le
      replace hb2x := hb2x.mono hs20.le
      replace hbs := hbs.mono hs20.le
      replace hpl2 := hpl2.mono hs20.le
      replace hT := hT.then hs20
      have hz20 := hs20.size
      refine ⟨(by repeat' first | exact trivial | exact BlkR.cell (hs20.sat _ _ _ hb1) rfl | exact BlkR.cells (hs20.sat _ _ _ hb1) rfl | exact BlkR.cell (hs20.sat _ _ _ hb2) rfl | exact BlkR.cells (hs20.sat _ _ _ hb2) rfl | exact Blk.cell ho9.1 rfl | exact Blk.cells ho9.1 rfl | exact Blk.cell ho11.1 rfl | exact Blk.cells ho11.1 rfl | assumption | refine all_keep ?_ | refine And.intro ?_ ?_), ?_⟩
      refine at_h (i := 5) (li := #[true, true, true, true, true, true, false, false, false, false, false, false, false, false, false, false, false, false, false, false, false, false, false, false, false, false, false, false, false, false]) rfl (by kernel_rfl) rfl rfl (by kernel_rfl) (h_call (by kernel_rfl) rfl ?_)
      refine (same18 hs20.sat (by omega) hbs hb3x).mono ?_
      rintro v21 w21 ⟨hv21, hs21⟩
      obtain rfl : v21 = .bool true := hv21.trans (congrArg Value.bool (decide_eq_true rfl))
      replace hb1 := hs21.le _ _ hb1
      replace hb2 := hs21.le _ _ hb2
      replace hv := hv.mono hs21.le
      replace hr := hr.mono hs21.le
      replace ha := ha.mono hs21.le
      replace hov1 := hov1.mono hs21.le
      replace ho9 := ho9.then hs21
      replace hov2 := hov2.mono hs21.le
      replace ho11 := ho11.then hs21
      replace hpl1 := hpl1.mono hs21.le
      replace hb1x := hb1x.mono hs21.le
      replace hb2x := hb2x.mono hs21.le
      replace hbs := hbs.mono hs21.le
      replace hpl2 := hpl2.mono hs21.le
      replace hb3x := hb3x.mono hs21.le
      replace hT := hT.then hs21
      have hz21 := hs21.size
      refine ⟨(by repeat' first | exact trivial | exact BlkR.cell (hs21.sat _ _ _ hb1) rfl | exact BlkR.cells (hs21.sat _ _ _ hb1) rfl | exact BlkR.cell (hs21.sat _ _ _ hb2) rfl | exact BlkR.cells (hs21.sat _ _ _ hb2) rfl | exact Blk.cell ho9.1 rfl | exact Blk.cells ho9.1 rfl | exact Blk.cell ho11.1 rfl | exact Blk.cells ho11.1 rfl | assumption | refine all_keep ?_ | refine And.intro ?_ ?_), ?_⟩
      refine at_q (i := 6) (li := #[true, true, true, true, true, true, true, false, false, false, false, false, false, false, false, false, false, false, false, false, false, false, false, false, false, false, false, false, false, false]) rfl (by kernel_rfl) rfl (fun _ => (q_move rfl)) (by kernel_rfl) ?_
      first | refine at_gskip (i := 7) (li := #[true, true, true, true, true, true, true, true, false, false, false, false, false, false, false, false, false, false, false, false, false, false, false, false, false, false, false, false, false, false]) rfl (by kernel_rfl) rfl rfl rfl rfl rfl (by kernel_rfl) ?_ | refine at_gskipU (i := 7) (li := #[true, true, true, true, true, true, true, true, false, false, false, false, false, false, false, false, false, false, false, false, false, false, false, false, false, false, false, false, false, false]) rfl (by kernel_rfl) rfl rfl rfl rfl (by kernel_rfl) ?_ | refine at_gp (i := 7) (li := #[true, true, true, true, true, true, true, true, false, false, false, false, false, false, false, false, false, false, false, false, false, false, false, false, false, false, false, false, false, false]) rfl (by kernel_rfl) rfl rfl rfl rfl (fun _ => (q_move rfl)) (by kernel_rfl) ?_
      first | refine at_gskip (i := 8) (li := #[true, true, true, true, true, true, true, true, true, false, false, false, false, false, false, false, false, false, false, false, false, false, false, false, false, false, false, false, false, false]) rfl (by kernel_rfl) rfl rfl rfl rfl rfl (by kernel_rfl) ?_ | refine at_gskipU (i := 8) (li := #[true, true, true, true, true, true, true, true, true, false, false, false, false, false, false, false, false, false, false, false, false, false, false, false, false, false, false, false, false, false]) rfl (by kernel_rfl) rfl rfl rfl rfl (by kernel_rfl) ?_ | refine at_gp (i := 8) (li := #[true, true, true, true, true, true, true, true, true, false, false, false, false, false, false, false, false, false, false, false, false, false, false, false, false, false, false, false, false, false]) rfl (by kernel_rfl) rfl rfl rfl rfl (fun _ => (q_move rfl)) (by kernel_rfl) ?_
      first | refine at_gskip (i := 9) (li := #[true, true, true, true, true, true, true, true, true, true, false, false, false, false, false, false, false, false, false, false, false, false, false, false, false, false, false, false, false, false]) rfl (by kernel_rfl) rfl rfl rfl rfl rfl (by kernel_rfl) ?_ | refine at_gskipU (i := 9) (li := #[true, true, true, true, true, true, true, true, true, true, false, false, false, false, false, false, false, false, false, false, false, false, false, false, false, false, false, false, false, false]) rfl (by kernel_rfl) rfl rfl rfl rfl (by kernel_rfl) ?_ | refine at_gp (i := 9) (li := #[true, true, true, true, true, true, true, true, true, true, false, false, false, false, false, false, false, false, false, false, false, false, false, false, false, false, false, false, false, false]) rfl (by kernel_rfl) rfl rfl rfl rfl (fun _ => (q_geT rfl rfl (by omega))) (by kernel_rfl) ?_ | refine at_gp (i := 9) (li := #[true, true, true, true, true, true, true, true, true, true, false, false, false, false, false, false, false, false, false, false, false, false, false, false, false, false, false, false, false, false]) rfl (by kernel_rfl) rfl rfl rfl rfl (fun _ => (q_geF rfl rfl (by omega))) (by kernel_rfl) ?_ | refine at_gp (i := 9) (li := #[true, true, true, true, true, true, true, true, true, true, false, false, false, false, false, false, false, false, false, false, false, false, false, false, false, false, false, false, false, false]) rfl (by kernel_rfl) rfl rfl rfl rfl (fun _ => (q_ge rfl rfl)) (by kernel_rfl) ?_
      first | refine at_gskip (i := 10) (li := #[true, true, true, true, true, true, true, true, true, true, true, false, false, false, false, false, false, false, false, false, false, false, false, false, false, false, false, false, false, false]) rfl (by kernel_rfl) rfl rfl rfl rfl rfl (by kernel_rfl) ?_ | refine at_gskipU (i := 10) (li := #[true, true, true, true, true, true, true, true, true, true, true, false, false, false, false, false, false, false, false, false, false, false, false, false, false, false, false, false, false, false]) rfl (by kernel_rfl) rfl rfl rfl rfl (by kernel_rfl) ?_ | refine at_gp (i := 10) (li := #[true, true, true, true, true, true, true, true, true, true, true, false, false, false, false, false, false, false, false, false, false, false, false, false, false, false, false, false, false, false]) rfl (by kernel_rfl) rfl rfl rfl rfl (fun _ => (q_eqb (by kernel_rfl) rfl rfl)) (by kernel_rfl) ?_
      first | refine at_q (i := 11) (li := #[true, true, true, true, true, true, true, true, true, true, true, true, false, false, false, false, false, false, false, false, false, false, false, false, false, false, false, false, false, false]) rfl (by kernel_rfl) rfl (fun _ => (q_pick_t rfl rfl)) (by kernel_rfl) ?_ | refine at_q (i := 11) (li := #[true, true, true, true, true, true, true, true, true, true, true, true, false, false, false, false, false, false, false, false, false, false, false, false, false, false, false, false, false, false]) rfl (by kernel_rfl) rfl (fun _ => (q_pick_f rfl rfl)) (by kernel_rfl) ?_ | refine at_q (i := 11) (li := #[true, true, true, true, true, true, true, true, true, true, true, true, false, false, false, false, false, false, false, false, false, false, false, false, false, false, false, false, false, false]) rfl (by kernel_rfl) rfl (fun _ => (q_pick rfl rfl rfl)) (by kernel_rfl) ?_
      refine at_q (i := 12) (li := #[true, true, true, true, true, true, true, true, true, true, true, true, true, false, false, false, false, false, false, false, false, false, false, false, false, false, false, false, false, false]) rfl (by kernel_rfl) rfl (fun _ => (q_move rfl)) (by kernel_rfl) ?_
      first | refine at_gskip (i := 13) (li := #[true, true, true, true, true, true, true, true, true, true, true, true, true, true, false, false, false, false, false, false, false, false, false, false, false, false, false, false, false, false]) rfl (by kernel_rfl) rfl rfl rfl rfl rfl (by kernel_rfl) ?_ | refine at_gskipU (i := 13) (li := #[true, true, true, true, true, true, true, true, true, true, true, true, true, true, false, false, false, false, false, false, false, false, false, false, false, false, false, false, false, false]) rfl (by kernel_rfl) rfl rfl rfl rfl (by kernel_rfl) ?_ | refine at_gp (i := 13) (li := #[true, true, true, true, true, true, true, true, true, true, true, true, true, true, false, false, false, false, false, false, false, false, false, false, false, false, false, false, false, false]) rfl (by kernel_rfl) rfl rfl rfl rfl (fun _ => (q_move rfl)) (by kernel_rfl) ?_
      first | refine at_gskip (i := 14) (li := #[true, true, true, true, true, true, true, true, true, true, true, true, true, true, true, false, false, false, false, false, false, false, false, false, false, false, false, false, false, false]) rfl (by kernel_rfl) rfl rfl rfl rfl rfl (by kernel_rfl) ?_ | refine at_gskipU (i := 14) (li := #[true, true, true, true, true, true, true, true, true, true, true, true, true, true, true, false, false, false, false, false, false, false, false, false, false, false, false, false, false, false]) rfl (by kernel_rfl) rfl rfl rfl rfl (by kernel_rfl) ?_ | refine at_gp (i := 14) (li := #[true, true, true, true, true, true, true, true, true, true, true, true, true, true, true, false, false, false, false, false, false, false, false, false, false, false, false, false, false, false]) rfl (by kernel_rfl) rfl rfl rfl rfl (fun _ => (q_move rfl)) (by kernel_rfl) ?_
      first | refine at_gskip (i := 15) (li := #[true, true, true, true, true, true, true, true, true, true, true, true, true, true, true, true, false, false, false, false, false, false, false, false, false, false, false, false, false, false]) rfl (by kernel_rfl) rfl rfl rfl rfl rfl (by kernel_rfl) ?_ | refine at_gskipU (i := 15) (li := #[true, true, true, true, true, true, true, true, true, true, true, true, true, true, true, true, false, false, false, false, false, false, false, false, false, false, false, false, false, false]) rfl (by kernel_rfl) rfl rfl rfl rfl (by kernel_rfl) ?_ | refine at_gp (i := 15) (li := #[true, true, true, true, true, true, true, true, true, true, true, true, true, true, true, true, false, false, false, false, false, false, false, false, false, false, false, false, false, false]) rfl (by kernel_rfl) rfl rfl rfl rfl (fun _ => (q_congr (q_max2 rfl rfl) (v' := .int .i64 0) (by first | rw [if_neg (by omega)] | rw [if_pos (by omega)] | rfl))) (by kernel_rfl) ?_
      first | refine at_gskip (i := 16) (li := #[true, true, true, true, true, true, true, true, true, true, true, true, true, true, true, true, true, false, false, false, false, false, false, false, false, false, false, false, false, false]) rfl (by kernel_rfl) rfl rfl rfl rfl rfl (by kernel_rfl) ?_ | refine at_gskipU (i := 16) (li := #[true, true, true, true, true, true, true, true, true, true, true, true, true, true, true, true, true, false, false, false, false, false, false, false, false, false, false, false, false, false]) rfl (by kernel_rfl) rfl rfl rfl rfl (by kernel_rfl) ?_ | refine at_gp (i := 16) (li := #[true, true, true, true, true, true, true, true, true, true, true, true, true, true, true, true, true, false, false, false, false, false, false, false, false, false, false, false, false, false]) rfl (by kernel_rfl) rfl rfl rfl rfl (fun _ => (q_eqT rfl rfl (by omega))) (by kernel_rfl) ?_ | refine at_gp (i := 16) (li := #[true, true, true, true, true, true, true, true, true, true, true, true, true, true, true, true, true, false, false, false, false, false, false, false, false, false, false, false, false, false]) rfl (by kernel_rfl) rfl rfl rfl rfl (fun _ => (q_eqF rfl rfl (by omega))) (by kernel_rfl) ?_ | refine at_gp (i := 16) (li := #[true, true, true, true, true, true, true, true, true, true, true, true, true, true, true, true, true, false, false, false, false, false, false, false, false, false, false, false, false, false]) rfl (by kernel_rfl) rfl rfl rfl rfl (fun _ => (q_eq rfl rfl)) (by kernel_rfl) ?_
      first | refine at_q (i := 17) (li := #[true, true, true, true, true, true, true, true, true, true, true, true, true, true, true, true, true, true, false, false, false, false, false, false, false, false, false, false, false, false]) rfl (by kernel_rfl) rfl (fun _ => (q_pick_t rfl rfl)) (by kernel_rfl) ?_ | refine at_q (i := 17) (li := #[true, true, true, true, true, true, true, true, true, true, true, true, true, true, true, true, true, true, false, false, false, false, false, false, false, false, false, false, false, false]) rfl (by kernel_rfl) rfl (fun _ => (q_pick_f rfl rfl)) (by kernel_rfl) ?_ | refine at_q (i := 17) (li := #[true, true, true, true, true, true, true, true, true, true, true, true, true, true, true, true, true, true, false, false, false, false, false, false, false, false, false, false, false, false]) rfl (by kernel_rfl) rfl (fun _ => (q_pick rfl rfl rfl)) (by kernel_rfl) ?_
      refine at_q (i := 18) (li := #[true, true, true, true, true, true, true, true, true, true, true, true, true, true, true, true, true, true, true, false, false, false, false, false, false, false, false, false, false, false]) rfl (by kernel_rfl) rfl (fun _ => (q_move rfl)) (by kernel_rfl) ?_
      first | refine at_gskip (i := 19) (li := #[true, true, true, true, true, true, true, true, true, true, true, true, true, true, true, true, true, true, true, true, false, false, false, false, false, false, false, false, false, false]) rfl (by kernel_rfl) rfl rfl rfl rfl rfl (by kernel_rfl) ?_ | refine at_gskipU (i := 19) (li := #[true, true, true, true, true, true, true, true, true, true, true, true, true, true, true, true, true, true, true, true, false, false, false, false, false, false, false, false, false, false]) rfl (by kernel_rfl) rfl rfl rfl rfl (by kernel_rfl) ?_ | refine at_gq (i := 19) (li := #[true, true, true, true, true, true, true, true, true, true, true, true, true, true, true, true, true, true, true, true, false, false, false, false, false, false, false, false, false, false]) (cellsAre _ _ 2 _) rfl (by kernel_rfl) rfl rfl rfl rfl (fun _ h => q_loadc (n := 2) (by kernel_rfl) rfl h) (by first | exact BlkR.cells (hs21.sat _ _ _ hb1) rfl | exact BlkR.cells (hs21.sat _ _ _ hb2) rfl | exact Blk.cells ho9.1 rfl | exact Blk.cells ho11.1 rfl | assumption) (by kernel_rfl) ?_
      first | refine at_gskip (i := 21) (li := #[true, true, true, true, true, true, true, true, true, true, true, true, true, true, true, true, true, true, true, true, false, true, false, false, false, false, false, false, false, false]) rfl (by kernel_rfl) rfl rfl rfl rfl rfl (by kernel_rfl) ?_ | refine at_gskipU (i := 21) (li := #[true, true, true, true, true, true, true, true, true, true, true, true, true, true, true, true, true, true, true, true, false, true, false, false, false, false, false, false, false, false]) rfl (by kernel_rfl) rfl rfl rfl rfl (by kernel_rfl) ?_ | refine at_gp (i := 21) (li := #[true, true, true, true, true, true, true, true, true, true, true, true, true, true, true, true, true, true, true, true, false, true, false, false, false, false, false, false, false, false]) rfl (by kernel_rfl) rfl rfl rfl rfl (fun _ => (q_fieldAddr (off := 0) (by kernel_rfl) rfl)) (by kernel_rfl) ?_
      first | refine at_gskip (i := 22) (li := #[true, true, true, true, true, true, true, true, true, true, true, true, true, true, true, true, true, true, true, true, false, true, true, false, false, false, false, false, false, false]) rfl (by kernel_rfl) rfl rfl rfl rfl rfl (by kernel_rfl) ?_ | refine at_gskipU (i := 22) (li := #[true, true, true, true, true, true, true, true, true, true, true, true, true, true, true, true, true, true, true, true, false, true, true, false, false, false, false, false, false, false]) rfl (by kernel_rfl) rfl rfl rfl rfl (by kernel_rfl) ?_ | refine at_gq (i := 22) (li := #[true, true, true, true, true, true, true, true, true, true, true, true, true, true, true, true, true, true, true, true, false, true, true, false, false, false, false, false, false, false]) (cellIs _ _ _) rfl (by kernel_rfl) rfl rfl rfl rfl (fun _ h => q_load1 (by kernel_rfl) rfl h) (by first | exact BlkR.cell (hs21.sat _ _ _ hb1) rfl | exact BlkR.cell (hs21.sat _ _ _ hb2) rfl | exact Blk.cell ho9.1 rfl | exact Blk.cell ho11.1 rfl | assumption) (by kernel_rfl) ?_
      first | refine at_gskip (i := 23) (li := #[true, true, true, true, true, true, true, true, true, true, true, true, true, true, true, true, true, true, true, true, false, true, true, true, false, false, false, false, false, false]) rfl (by kernel_rfl) rfl rfl rfl rfl rfl (by kernel_rfl) ?_ | refine at_gskipU (i := 23) (li := #[true, true, true, true, true, true, true, true, true, true, true, true, true, true, true, true, true, true, true, true, false, true, true, true, false, false, false, false, false, false]) rfl (by kernel_rfl) rfl rfl rfl rfl (by kernel_rfl) ?_ | refine at_gp (i := 23) (li := #[true, true, true, true, true, true, true, true, true, true, true, true, true, true, true, true, true, true, true, true, false, true, true, true, false, false, false, false, false, false]) rfl (by kernel_rfl) rfl rfl rfl rfl (fun _ => (q_fieldAddr (off := 1) (by kernel_rfl) rfl)) (by kernel_rfl) ?_
      first | refine at_gskip (i := 24) (li := #[true, true, true, true, true, true, true, true, true, true, true, true, true, true, true, true, true, true, true, true, false, true, true, true, true, false, false, false, false, false]) rfl (by kernel_rfl) rfl rfl rfl rfl rfl (by kernel_rfl) ?_ | refine at_gskipU (i := 24) (li := #[true, true, true, true, true, true, true, true, true, true, true, true, true, true, true, true, true, true, true, true, false, true, true, true, true, false, false, false, false, false]) rfl (by kernel_rfl) rfl rfl rfl rfl (by kernel_rfl) ?_ | refine at_gq (i := 24) (li := #[true, true, true, true, true, true, true, true, true, true, true, true, true, true, true, true, true, true, true, true, false, true, true, true, true, false, false, false, false, false]) (cellIs _ _ _) rfl (by kernel_rfl) rfl rfl rfl rfl (fun _ h => q_load1 (by kernel_rfl) rfl h) (by first | exact BlkR.cell (hs21.sat _ _ _ hb1) rfl | exact BlkR.cell (hs21.sat _ _ _ hb2) rfl | exact Blk.cell ho9.1 rfl | exact Blk.cell ho11.1 rfl | assumption) (by kernel_rfl) ?_
      first | refine at_gskip (i := 25) (li := #[true, true, true, true, true, true, true, true, true, true, true, true, true, true, true, true, true, true, true, true, false, true, true, true, true, true, false, false, false, false]) rfl (by kernel_rfl) rfl rfl rfl rfl rfl (by kernel_rfl) ?_ | refine at_gskipU (i := 25) (li := #[true, true, true, true, true, true, true, true, true, true, true, true, true, true, true, true, true, true, true, true, false, true, true, true, true, true, false, false, false, false]) rfl (by kernel_rfl) rfl rfl rfl rfl (by kernel_rfl) ?_ | refine at_gp (i := 25) (li := #[true, true, true, true, true, true, true, true, true, true, true, true, true, true, true, true, true, true, true, true, false, true, true, true, true, true, false, false, false, false]) rfl (by kernel_rfl) rfl rfl rfl rfl (fun _ => (q_build (zs := [(.int .i64 0), (.slice none 0 0)]) (places := [(0, 1), (1, 1)]) (cs := [_, _]) (by kernel_rfl) (by kernel_rfl) rfl rfl)) (by kernel_rfl) ?_
      refine at_gh (i := 20) (li := #[true, true, true, true, true, true, true, true, true, true, true, true, true, true, true, true, true, true, true, true, true, true, true, true, true, true, false, false, false, false]) rfl (by kernel_rfl) rfl rfl rfl rfl rfl (by kernel_rfl) (h_call (by kernel_rfl) rfl ?_)
      refine (right18 hs21.sat).mono ?_
      rintro _ w22 ⟨rfl, hs22⟩
      replace hb1 := hs22.le _ _ hb1
      replace hb2 := hs22.le _ _ hb2
      replace hv := hv.mono hs22.le
      replace hr := hr.mono hs22.le
      replace ha := ha.mono hs22.le
      replace hov1 := hov1.mono hs22.le
      replace ho9 := ho9.then hs22
      replace hov2 := hov2.mono hs22.le
      replace ho11 := ho11.then hs22
      replace hpl1 := hpl1.mono hs22.le
      replace hb1x := hb1x.mono hs22.le
      replace hb2x := hb2x.mono hs22.le
      replace hbs := hbs.mono hs22.le
      replace hpl2 := hpl2.mono hs22.le
      replace hb3x := hb3x.mono hs22.le
      replace hT := hT.then hs22
      have hz22 := hs22.size
      refine ⟨(by repeat' first | exact trivial | exact BlkR.cell (hs22.sat _ _ _ hb1) rfl | exact BlkR.cells (hs22.sat _ _ _ hb1) rfl | exact BlkR.cell (hs22.sat _ _ _ hb2) rfl | exact BlkR.cells (hs22.sat _ _ _ hb2) rfl | exact Blk.cell ho9.1 rfl | exact Blk.cells ho9.1 rfl | exact Blk.cell ho11.1 rfl | exact Blk.cells ho11.1 rfl | assumption | refine all_keep ?_ | refine And.intro ?_ ?_), ?_⟩
      refine at_gh (i := 26) (li := #[true, true, true, true, true, true, true, true, true, true, true, true, true, true, true, true, true, true, true, true, true, true, true, true, true, true, true, false, false, false]) rfl (by kernel_rfl) rfl rfl rfl rfl rfl (by kernel_rfl) (h_call (by kernel_rfl) rfl ?_)
      refine (rright18 hs22.sat).mono ?_
      rintro _ w23 ⟨rfl, hs23⟩
      replace hb1 := hs23.le _ _ hb1
      replace hb2 := hs23.le _ _ hb2
      replace hv := hv.mono hs23.le
      replace hr := hr.mono hs23.le
      replace ha := ha.mono hs23.le
      replace hov1 := hov1.mono hs23.le
      replace ho9 := ho9.then hs23
      replace hov2 := hov2.mono hs23.le
      replace ho11 := ho11.then hs23
      replace hpl1 := hpl1.mono hs23.le
      replace hb1x := hb1x.mono hs23.le
      replace hb2x := hb2x.mono hs23.le
      replace hbs := hbs.mono hs23.le
      replace hpl2 := hpl2.mono hs23.le
      replace hb3x := hb3x.mono hs23.le
      replace hT := hT.then hs23
      have hz23 := hs23.size
      refine ⟨(by repeat' first | exact trivial | exact BlkR.cell (hs23.sat _ _ _ hb1) rfl | exact BlkR.cells (hs23.sat _ _ _ hb1) rfl | exact BlkR.cell (hs23.sat _ _ _ hb2) rfl | exact BlkR.cells (hs23.sat _ _ _ hb2) rfl | exact Blk.cell ho9.1 rfl | exact Blk.cells ho9.1 rfl | exact Blk.cell ho11.1 rfl | exact Blk.cells ho11.1 rfl | assumption | refine all_keep ?_ | refine And.intro ?_ ?_), ?_⟩
      first | refine at_gskip (i := 27) (li := #[true, true, true, true, true, true, true, true, true, true, true, true, true, true, true, true, true, true, true, true, true, true, true, true, true, true, true, true, false, false]) rfl (by kernel_rfl) rfl rfl rfl rfl rfl (by kernel_rfl) ?_ | refine at_gskipU (i := 27) (li := #[true, true, true, true, true, true, true, true, true, true, true, true, true, true, true, true, true, true, true, true, true, true, true, true, true, true, true, true, false, false]) rfl (by kernel_rfl) rfl rfl rfl rfl (by kernel_rfl) ?_ | refine at_gp (i := 27) (li := #[true, true, true, true, true, true, true, true, true, true, true, true, true, true, true, true, true, true, true, true, true, true, true, true, true, true, true, true, false, false]) rfl (by kernel_rfl) rfl rfl rfl rfl (fun _ => (q_eqT rfl rfl (by omega))) (by kernel_rfl) ?_ | refine at_gp (i := 27) (li := #[true, true, true, true, true, true, true, true, true, true, true, true, true, true, true, true, true, true, true, true, true, true, true, true, true, true, true, true, false, false]) rfl (by kernel_rfl) rfl rfl rfl rfl (fun _ => (q_eqF rfl rfl (by omega))) (by kernel_rfl) ?_ | refine at_gp (i := 27) (li := #[true, true, true, true, true, true, true, true, true, true, true, true, true, true, true, true, true, true, true, true, true, true, true, true, true, true, true, true, false, false]) rfl (by kernel_rfl) rfl rfl rfl rfl (fun _ => (q_eq rfl rfl)) (by kernel_rfl) ?_
      first | refine at_q (i := 28) (li := #[true, true, true, true, true, true, true, true, true, true, true, true, true, true, true, true, true, true, true, true, true, true, true, true, true, true, true, true, true, false]) rfl (by kernel_rfl) rfl (fun _ => (q_pick_t rfl rfl)) (by kernel_rfl) ?_ | refine at_q (i := 28) (li := #[true, true, true, true, true, true, true, true, true, true, true, true, true, true, true, true, true, true, true, true, true, true, true, true, true, true, true, true, true, false]) rfl (by kernel_rfl) rfl (fun _ => (q_pick_f rfl rfl)) (by kernel_rfl) ?_ | refine at_q (i := 28) (li := #[true, true, true, true, true, true, true, true, true, true, true, true, true, true, true, true, true, true, true, true, true, true, true, true, true, true, true, true, true, false]) rfl (by kernel_rfl) rfl (fun _ => (q_pick rfl rfl rfl)) (by kernel_rfl) ?_
      refine at_q (i := 29) (li := #[true, true, true, true, true, true, true, true, true, true, true, true, true, true, true, true, true, true, true, true, true, true, true, true, true, true, true, true, true, true]) rfl (by kernel_rfl) rfl (fun _ => (q_assign rfl)) (by kernel_rfl) ?_
      refine at_done (by kernel_rfl) (hK21 _ _ ?_)
      clear hK21 K21
      refine cw_ret ?_
      exact ⟨_, (res_tmp rfl res_nil), rfl, hT.forget⟩
    · skip
      have hao := argsOf_out (c := c) (Or.inr hc)
      refine cw_exit ?_
      refine hK7 _ _ ?_
      clear hK9 K9
      clear hK7 K7
      refine cw_rs fun K22 hK22 => ?_
      -- region 11
      refine as_q rfl rfl (q_move rfl) ?_
      refine as_h rfl (h_call (by kernel_rfl) rfl ?_)
      refine (parse18 hT.sat (by omega) hv).mono ?_
      rintro v24 w24 ⟨M24, hs24, hp24⟩
      obtain ⟨oa1, oc1, rfl, hov1⟩ := hp24.no hpz
      replace hb1 := hs24.le _ _ hb1
      replace hb2 := hs24.le _ _ hb2
      replace hv := hv.mono hs24.le
      replace hr := hr.mono hs24.le
      replace ha := ha.mono hs24.le
      replace hT := hT.then hs24
      have hz24 := hs24.size
      refine as_q rfl rfl (q_move rfl) ?_
      refine as_q rfl rfl (q_extract rfl rfl) ?_
      refine as_q rfl rfl (q_extract rfl rfl) ?_
      have hqa9 := hT.size
      refine as_h rfl (h_allocO (z := (.agg #[(.int .i64 0), (.slice none 0 0)])) hs24.sat (by kernel_rfl) rfl fun b9 w25 hs25 ho9 e9 => ?_)
      replace hb1 := hs25.le _ _ hb1
      replace hb2 := hs25.le _ _ hb2
      replace hv := hv.mono hs25.le
      replace hr := hr.mono hs25.le
      replace ha := ha.mono hs25.le
      replace hov1 := hov1.mono hs25.le
      replace hT := hT.then hs25
      have hz25 := hs25.size
      have hl9 := ho9.1.lt
      refine as_h0 (h_store hs25.sat ho9 rfl rfl rfl (by kernel_rfl) rfl rfl rfl fun w26 hs26 hn26 => ?_)
      replace hb1 := hs26.le _ _ hb1
      replace hb2 := hs26.le _ _ hb2
      replace hv := hv.mono hs26.le
      replace hr := hr.mono hs26.le
      replace ha := ha.mono hs26.le
      replace hov1 := hov1.mono hs26.le
      clear ho9; have ho9 := hn26; clear hn26
      replace hT := hT.own hs26 (by omega)
      have hz26 := hs26.size
      refine as_q rfl rfl (q_assign rfl) ?_
      refine as_nil (hK22 _ _ ?_)
      clear hK22 K22
      refine cw_rs fun K23 hK23 => ?_
      -- region 12
      refine as_q rfl rfl (q_move rfl) ?_
      refine as_h rfl (h_call (by kernel_rfl) rfl ?_)
      refine (rparse18 hs26.sat (by omega) hv).mono ?_
      rintro v27 w27 ⟨M27, hs27, hp27⟩
      obtain ⟨oa2, oc2, rfl, hov2⟩ := hp27.no hpz
      replace hb1 := hs27.le _ _ hb1
      replace hb2 := hs27.le _ _ hb2
      replace hv := hv.mono hs27.le
      replace hr := hr.mono hs27.le
      replace ha := ha.mono hs27.le
      replace hov1 := hov1.mono hs27.le
      replace ho9 := ho9.then hs27
      replace hT := hT.then hs27
      have hz27 := hs27.size
      refine as_q rfl rfl (q_move rfl) ?_
      refine as_q rfl rfl (q_extract rfl rfl) ?_
      refine as_q rfl rfl (q_extract rfl rfl) ?_
      have hqa11 := hT.size
      refine as_h rfl (h_allocO (z := (.agg #[(.int .i64 0), (.slice none 0 0)])) hs27.sat (by kernel_rfl) rfl fun b11 w28 hs28 ho11 e11 => ?_)
      replace hb1 := hs28.le _ _ hb1
      replace hb2 := hs28.le _ _ hb2
      replace hv := hv.mono hs28.le
      replace hr := hr.mono hs28.le
      replace ha := ha.mono hs28.le
      replace hov1 := hov1.mono hs28.le
      replace ho9 := ho9.then hs28
      replace hov2 := hov2.mono hs28.le
      replace hT := hT.then hs28
      have hz28 := hs28.size
      have hl11 := ho11.1.lt
      refine as_h0 (h_store hs28.sat ho11 rfl rfl rfl (by kernel_rfl) rfl rfl rfl fun w29 hs29 hn29 => ?_)
      replace hb1 := hs29.le _ _ hb1
      replace hb2 := hs29.le _ _ hb2
      replace hv := hv.mono hs29.le
      replace hr := hr.mono hs29.le
      replace ha := ha.mono hs29.le
      replace hov1 := hov1.mono hs29.le
      replace ho9 := ho9.step hs29 (fun h => by have h : _ = _ := h; omega)
      replace hov2 := hov2.mono hs29.le
      clear ho11; have ho11 := hn29; clear hn29
      replace hT := hT.own hs29 (by omega)
      have hz29 := hs29.size
      refine as_q rfl rfl (q_assign rfl) ?_
      refine as_nil (hK23 _ _ ?_)
      clear hK23 K23
      refine cw_rs fun K24 hK24 => ?_
      -- region 13
      refine as_q rfl rfl (q_fieldAddr (off := 0) (by kernel_rfl) rfl) ?_
      refine as_q rfl rfl (q_load1 (by kernel_rfl) rfl (by first | exact BlkR.cell (hs29.sat _ _ _ hb1) rfl | exact BlkR.cell (hs29.sat _ _ _ hb2) rfl | exact Blk.cell ho9.1 rfl | exact Blk.cell ho11.1 rfl | assumption)) ?_
      refine as_h rfl (h_call (by kernel_rfl) rfl ?_)
      refine (args_hi hs29.sat hc).mono ?_
      rintro _ w30 ⟨rfl, hs30⟩
      replace hb1 := hs30.le _ _ hb1
      replace hb2 := hs30.le _ _ hb2
      replace hv := hv.mono hs30.le
      replace hr := hr.mono hs30.le
      replace ha := ha.mono hs30.le
      replace hov1 := hov1.mono hs30.le
      replace ho9 := ho9.then hs30
      replace hov2 := hov2.mono hs30.le
      replace ho11 := ho11.then hs30
      replace hT := hT.then hs30
      have hz30 := hs30.size
      refine as_q rfl rfl (q_move rfl) ?_
      refine as_q rfl rfl (q_extract rfl rfl) ?_
      refine as_q rfl rfl (q_extract rfl rfl) ?_
      refine as_q rfl rfl (q_assign rfl) ?_
      refine as_q rfl rfl (q_assign rfl) ?_
      refine as_nil (hK24 _ _ ?_)
      clear hK24 K24
      refine cw_rs fun K25 hK25 => ?_
      -- region 14
      refine as_q rfl rfl (q_fieldAddr (off := 0) (by kernel_rfl) rfl) ?_
      refine as_q rfl rfl (q_load1 (by kernel_rfl) rfl (by first | exact BlkR.cell (hs30.sat _ _ _ hb1) rfl | exact BlkR.cell (hs30.sat _ _ _ hb2) rfl | exact Blk.cell ho9.1 rfl | exact Blk.cell ho11.1 rfl | assumption)) ?_
      refine as_h rfl (h_call (by kernel_rfl) rfl ?_)
      refine (rargs hs30.sat).mono ?_
      rintro v31 w31 ⟨hv31, hs31⟩
      obtain rfl : v31 = .int .i64 (-1) := hv31.trans (by rw [hao])
      replace hb1 := hs31.le _ _ hb1
      replace hb2 := hs31.le _ _ hb2
      replace hv := hv.mono hs31.le
      replace hr := hr.mono hs31.le
      replace ha := ha.mono hs31.le
      replace hov1 := hov1.mono hs31.le
      replace ho9 := ho9.then hs31
      replace hov2 := hov2.mono hs31.le
      replace ho11 := ho11.then hs31
      replace hT := hT.then hs31
      have hz31 := hs31.size
      refine as_q rfl rfl (q_assign rfl) ?_
      refine as_nil (hK25 _ _ ?_)
      clear hK25 K25
      refine cw_seq fun K26 hK26 => ?_
      refine cw_rd (by kernel_rfl) (by kernel_rfl) (by kernel_rfl) rfl rfl fun K27 hK27 => ?_
      -- region 15
      have hs32 := Step.drew hs31.sat
      have hz32 := hs32.size
      replace hb1 := hs32.le _ _ hb1
      replace hb2 := hs32.le _ _ hb2
      replace hv := hv.mono hs32.le
      replace hr := hr.mono hs32.le
      replace ha := ha.mono hs32.le
      replace hov1 := hov1.mono hs32.le
      replace ho9 := ho9.then hs32
      replace hov2 := hov2.mono hs32.le
      replace ho11 := ho11.then hs32
      replace hT := hT.then hs32
      refine at_q (i := 0) (li := #[true, false, false, false, false, false, false, false, false, false, false, false, false, false, false, false, false, false, false, false, false]) rfl (by kernel_rfl) rfl (fun _ => (q_move rfl)) (by kernel_rfl) ?_
      refine at_q (i := 1) (li := #[true, true, false, false, false, false, false, false, false, false, false, false, false, false, false, false, false, false, false, false, false]) rfl (by kernel_rfl) rfl (fun _ => (q_move rfl)) (by kernel_rfl) ?_
      first | refine at_q (i := 2) (li := #[true, true, true, false, false, false, false, false, false, false, false, false, false, false, false, false, false, false, false, false, false]) rfl (by kernel_rfl) rfl (fun _ => (q_neT rfl rfl (by omega))) (by kernel_rfl) ?_ | refine at_q (i := 2) (li := #[true, true, true, false, false, false, false, false, false, false, false, false, false, false, false, false, false, false, false, false, false]) rfl (by kernel_rfl) rfl (fun _ => (q_neF rfl rfl (by omega))) (by kernel_rfl) ?_ | refine at_q (i := 2) (li := #[true, true, true, false, false, false, false, false, false, false, false, false, false, false, false, false, false, false, false, false, false]) rfl (by kernel_rfl) rfl (fun _ => (q_ne rfl rfl)) (by kernel_rfl) ?_
      refine at_q (i := 3) (li := #[true, true, true, true, false, false, false, false, false, false, false, false, false, false, false, false, false, false, false, false, false]) rfl (by kernel_rfl) rfl (fun _ => (q_move rfl)) (by kernel_rfl) ?_
      first | refine at_gskip (i := 4) (li := #[true, true, true, true, true, false, false, false, false, false, false, false, false, false, false, false, false, false, false, false, false]) rfl (by kernel_rfl) rfl rfl rfl rfl rfl (by kernel_rfl) ?_ | refine at_gskipU (i := 4) (li := #[true, true, true, true, true, false, false, false, false, false, false, false, false, false, false, false, false, false, false, false, false]) rfl (by kernel_rfl) rfl rfl rfl rfl (by kernel_rfl) ?_ | refine at_gq (i := 4) (li := #[true, true, true, true, true, false, false, false, false, false, false, false, false, false, false, false, false, false, false, false, false]) (cellsAre _ _ 2 _) rfl (by kernel_rfl) rfl rfl rfl rfl (fun _ h => q_loadc (n := 2) (by kernel_rfl) rfl h) (by first | exact BlkR.cells (hs32.sat _ _ _ hb1) rfl | exact BlkR.cells (hs32.sat _ _ _ hb2) rfl | exact Blk.cells ho9.1 rfl | exact Blk.cells ho11.1 rfl | assumption) (by kernel_rfl) ?_
      first | refine at_gskip (i := 7) (li := #[true, true, true, true, true, false, false, true, false, false, false, false, false, false, false, false, false, false, false, false, false]) rfl (by kernel_rfl) rfl rfl rfl rfl rfl (by kernel_rfl) ?_ | refine at_gskipU (i := 7) (li := #[true, true, true, true, true, false, false, true, false, false, false, false, false, false, false, false, false, false, false, false, false]) rfl (by kernel_rfl) rfl rfl rfl rfl (by kernel_rfl) ?_ | refine at_gq (i := 7) (li := #[true, true, true, true, true, false, false, true, false, false, false, false, false, false, false, false, false, false, false, false, false]) (cellsAre _ _ 2 _) rfl (by kernel_rfl) rfl rfl rfl rfl (fun _ h => q_loadc (n := 2) (by kernel_rfl) rfl h) (by first | exact BlkR.cells (hs32.sat _ _ _ hb1) rfl | exact BlkR.cells (hs32.sat _ _ _ hb2) rfl | exact Blk.cells ho9.1 rfl | exact Blk.cells ho11.1 rfl | assumption) (by kernel_rfl) ?_
      refine at_gh (i := 5) (li := #[true, true, true, true, true, true, false, true, false, false, false, false, false, false, false, false, false, false, false, false, false]) rfl (by kernel_rfl) rfl rfl rfl rfl rfl (by kernel_rfl) (h_call (by kernel_rfl) rfl ?_)
      refine (plain18 (ts := []) hs32.sat hov1 (fun t ht => by cases ht) (by omega)).mono ?_
      rintro _ w33 ⟨pv33, rfl, M33, hs33, hpl1⟩
      obtain ⟨pa33, pc33, rfl, _⟩ := hpl1.slice
      replace hb1 := hs33.le _ _ hb1
      replace hb2 := hs33.le _ _ hb2
      replace hv := hv.mono hs33.le
      replace hr := hr.mono hs33.le
      replace ha := ha.mono hs33.le
      replace hov1 := hov1.mono hs33.le
      replace ho9 := ho9.then hs33
      replace hov2 := hov2.mono hs33.le
      replace ho11 := ho11.then hs33
      replace hT := hT.then hs33
      have hz33 := hs33.size
      refine ⟨(by repeat' first | exact trivial | exact BlkR.cell (hs33.sat _ _ _ hb1) rfl | exact BlkR.cells (hs33.sat _ _ _ hb1) rfl | exact BlkR.cell (hs33.sat _ _ _ hb2) rfl | exact BlkR.cells (hs33.sat _ _ _ hb2) rfl | exact Blk.cell ho9.1 rfl | exact Blk.cells ho9.1 rfl | exact Blk.cell ho11.1 rfl | exact Blk.cells ho11.1 rfl | assumption | refine all_keep ?_ | refine And.intro ?_ ?_), ?_⟩
      refine at_gh (i := 6) (li := #[true, true, true, true, true, true, true, true, false, false, false, false, false, false, false, false, false, false, false, false, false]) rfl (by kernel_rfl) rfl rfl rfl rfl rfl (by kernel_rfl) (h_call (by kernel_rfl) rfl ?_)
      refine (rbuild18 (ts := []) hs33.sat hpl1 (fun t ht => by cases ht) (by simp [build, keyT])).mono ?_
      rintro v34 w34 ⟨M34, hs34, hb1x⟩
      replace hb1 := hs34.le _ _ hb1
      replace hb2 := hs34.le _ _ hb2
      replace hv := hv.mono hs34.le
      replace hr := hr.mono hs34.le
      replace ha := ha.mono hs34.le
      replace hov1 := hov1.mono hs34.le
      replace ho9 := ho9.then hs34
      replace hov2 := hov2.mono hs34.le
      replace ho11 := ho11.then hs34
      replace hpl1 := hpl1.mono hs34.le
      replace hT := hT.then hs34
      have hz34 := hs34.size
      refine ⟨(by repeat' first | exact trivial | exact BlkR.cell (hs34.sat _ _ _ hb1) rfl | exact BlkR.cells (hs34.sat _ _ _ hb1) rfl | exact BlkR.cell (hs34.sat _ _ _ hb2) rfl | exact BlkR.cells (hs34.sat _ _ _ hb2) rfl | exact Blk.cell ho9.1 rfl | exact Blk.cells ho9.1 rfl | exact Blk.cell ho11.1 rfl | exact Blk.cells ho11.1 rfl | assumption | refine all_keep ?_ | refine And.intro ?_ ?_), ?_⟩
      refine at_gh (i := 8) (li := #[true, true, true, true, true, true, true, true, true, false, false, false, false, false, false, false, false, false, false, false, false]) rfl (by kernel_rfl) rfl rfl rfl rfl rfl (by kernel_rfl) (h_call (by kernel_rfl) rfl ?_)
      refine (rbuild18 (ts := []) hs34.sat hov2 (fun t ht => by cases ht) (by simp [build, keyT])).mono ?_
      rintro v35 w35 ⟨M35, hs35, hb2x⟩
      replace hb1 := hs35.le _ _ hb1
      replace hb2 := hs35.le _ _ hb2
      replace hv := hv.mono hs35.le
      replace hr := hr.mono hs35.le
      replace ha := ha.mono hs35.le
      replace hov1 := hov1.mono hs35.le
      replace ho9 := ho9.then hs35
      replace hov2 := hov2.mono hs35.le
      replace ho11 := ho11.then hs35
      replace hpl1 := hpl1.mono hs35.le
      replace hb1x := hb1x.mono hs35.le
      replace hT := hT.then hs35
      have hz35 := hs35.size
      refine ⟨(by repeat' first | exact trivial | exact BlkR.cell (hs35.sat _ _ _ hb1) rfl | exact BlkR.cells (hs35.sat _ _ _ hb1) rfl | exact BlkR.cell (hs35.sat _ _ _ hb2) rfl | exact BlkR.cells (hs35.sat _ _ _ hb2) rfl | exact Blk.cell ho9.1 rfl | exact Blk.cells ho9.1 rfl | exact Blk.cell ho11.1 rfl | exact Blk.cells ho11.1 rfl | assumption | refine all_keep ?_ | refine And.intro ?_ ?_), ?_⟩
      refine at_gh (i := 9) (li := #[true, true, true, true, true, true, true, true, true, true, false, false, false, false, false, false, false, false, false, false, false]) rfl (by kernel_rfl) rfl rfl rfl rfl rfl (by kernel_rfl) (h_call (by kernel_rfl) rfl ?_)
      refine (same18 hs35.sat (by simp [build, keyT]) hb1x hb2x).mono ?_
      rintro v36 w36 ⟨hv36, hs36⟩
      obtain rfl : v36 = .bool true := hv36.trans (congrArg Value.bool (decide_eq_true rfl))
      replace hb1 := hs36.le _ _ hb1
      replace hb2 := hs36.le _ _ hb2
      replace hv := hv.mono hs36.le
      replace hr := hr.mono hs36.le
      replace ha := ha.mono hs36.le
      replace hov1 := hov1.mono hs36.le
      replace ho9 := ho9.then hs36
      replace hov2 := hov2.mono hs36.le
      replace ho11 := ho11.then hs36
      replace hpl1 := hpl1.mono hs36.le
      replace hb1x := hb1x.mono hs36.le
      replace hb2x := hb2x.mono hs36.le
      replace hT := hT.then hs36
      have hz36 := hs36.size
      refine ⟨(by repeat' first | exact trivial | exact BlkR.cell (hs36.sat _ _ _ hb1) rfl | exact BlkR.cells (hs36.sat _ _ _ hb1) rfl | exact BlkR.cell (hs36.sat _ _ _ hb2) rfl | exact BlkR.cells (hs36.sat _ _ _ hb2) rfl | exact Blk.cell ho9.1 rfl | exact Blk.cells ho9.1 rfl | exact Blk.cell ho11.1 rfl | exact Blk.cells ho11.1 rfl | assumption | refine all_keep ?_ | refine And.intro ?_ ?_), ?_⟩
      first | refine at_gskip (i := 10) (li := #[true, true, true, true, true, true, true, true, true, true, true, false, false, false, false, false, false, false, false, false, false]) rfl (by kernel_rfl) rfl rfl rfl rfl rfl (by kernel_rfl) ?_ | refine at_gskipU (i := 10) (li := #[true, true, true, true, true, true, true, true, true, true, true, false, false, false, false, false, false, false, false, false, false]) rfl (by kernel_rfl) rfl rfl rfl rfl (by kernel_rfl) ?_ | refine at_gp (i := 10) (li := #[true, true, true, true, true, true, true, true, true, true, true, false, false, false, false, false, false, false, false, false, false]) rfl (by kernel_rfl) rfl rfl rfl rfl (fun _ => (q_not rfl)) (by kernel_rfl) ?_
      first | refine at_q (i := 11) (li := #[true, true, true, true, true, true, true, true, true, true, true, true, false, false, false, false, false, false, false, false, false]) rfl (by kernel_rfl) rfl (fun _ => (q_pick_t rfl rfl)) (by kernel_rfl) ?_ | refine at_q (i := 11) (li := #[true, true, true, true, true, true, true, true, true, true, true, true, false, false, false, false, false, false, false, false, false]) rfl (by kernel_rfl) rfl (fun _ => (q_pick_f rfl rfl)) (by kernel_rfl) ?_ | refine at_q (i := 11) (li := #[true, true, true, true, true, true, true, true, true, true, true, true, false, false, false, false, false, false, false, false, false]) rfl (by kernel_rfl) rfl (fun _ => (q_pick rfl rfl rfl)) (by kernel_rfl) ?_
      refine at_q (i := 12) (li := #[true, true, true, true, true, true, true, true, true, true, true, true, true, false, false, false, false, false, false, false, false]) rfl (by kernel_rfl) rfl (fun _ => (q_move rfl)) (by kernel_rfl) ?_
      first | refine at_gskip (i := 13) (li := #[true, true, true, true, true, true, true, true, true, true, true, true, true, true, false, false, false, false, false, false, false]) rfl (by kernel_rfl) rfl rfl rfl rfl rfl (by kernel_rfl) ?_ | refine at_gskipU (i := 13) (li := #[true, true, true, true, true, true, true, true, true, true, true, true, true, true, false, false, false, false, false, false, false]) rfl (by kernel_rfl) rfl rfl rfl rfl (by kernel_rfl) ?_ | refine at_gp (i := 13) (li := #[true, true, true, true, true, true, true, true, true, true, true, true, true, true, false, false, false, false, false, false, false]) rfl (by kernel_rfl) rfl rfl rfl rfl (fun _ => (q_fieldAddr (off := 1) (by kernel_rfl) rfl)) (by kernel_rfl) ?_
      first | refine at_gskip (i := 14) (li := #[true, true, true, true, true, true, true, true, true, true, true, true, true, true, true, false, false, false, false, false, false]) rfl (by kernel_rfl) rfl rfl rfl rfl rfl (by kernel_rfl) ?_ | refine at_gskipU (i := 14) (li := #[true, true, true, true, true, true, true, true, true, true, true, true, true, true, true, false, false, false, false, false, false]) rfl (by kernel_rfl) rfl rfl rfl rfl (by kernel_rfl) ?_ | refine at_gq (i := 14) (li := #[true, true, true, true, true, true, true, true, true, true, true, true, true, true, true, false, false, false, false, false, false]) (cellIs _ _ _) rfl (by kernel_rfl) rfl rfl rfl rfl (fun _ h => q_load1 (by kernel_rfl) rfl h) (by first | exact BlkR.cell (hs36.sat _ _ _ hb1) rfl | exact BlkR.cell (hs36.sat _ _ _ hb2) rfl | exact Blk.cell ho9.1 rfl | exact Blk.cell ho11.1 rfl | assumption) (by kernel_rfl) ?_
      first | refine at_gskip (i := 15) (li := #[true, true, true, true, true, true, true, true, true, true, true, true, true, true, true, true, false, false, false, false, false]) rfl (by kernel_rfl) rfl rfl rfl rfl rfl (by kernel_rfl) ?_ | refine at_gskipU (i := 15) (li := #[true, true, true, true, true, true, true, true, true, true, true, true, true, true, true, true, false, false, false, false, false]) rfl (by kernel_rfl) rfl rfl rfl rfl (by kernel_rfl) ?_ | refine at_gp (i := 15) (li := #[true, true, true, true, true, true, true, true, true, true, true, true, true, true, true, true, false, false, false, false, false]) rfl (by kernel_rfl) rfl rfl rfl rfl (fun _ => (q_len (by kernel_rfl) rfl _)) (by kernel_rfl) ?_
      first | refine at_gskip (i := 16) (li := #[true, true, true, true, true, true, true, true, true, true, true, true, true, true, true, true, true, false, false, false, false]) rfl (by kernel_rfl) rfl rfl rfl rfl rfl (by kernel_rfl) ?_ | refine at_gskipU (i := 16) (li := #[true, true, true, true, true, true, true, true, true, true, true, true, true, true, true, true, true, false, false, false, false]) rfl (by kernel_rfl) rfl rfl rfl rfl (by kernel_rfl) ?_ | refine at_gp (i := 16) (li := #[true, true, true, true, true, true, true, true, true, true, true, true, true, true, true, true, true, false, false, false, false]) rfl (by kernel_rfl) rfl rfl rfl rfl (fun _ => (q_fieldAddr (off := 1) (by kernel_rfl) rfl)) (by kernel_rfl) ?_
      first | refine at_gskip (i := 17) (li := #[true, true, true, true, true, true, true, true, true, true, true, true, true, true, true, true, true, true, false, false, false]) rfl (by kernel_rfl) rfl rfl rfl rfl rfl (by kernel_rfl) ?_ | refine at_gskipU (i := 17) (li := #[true, true, true, true, true, true, true, true, true, true, true, true, true, true, true, true, true, true, false, false, false]) rfl (by kernel_rfl) rfl rfl rfl rfl (by kernel_rfl) ?_ | refine at_gq (i := 17) (li := #[true, true, true, true, true, true, true, true, true, true, true, true, true, true, true, true, true, true, false, false, false]) (cellIs _ _ _) rfl (by kernel_rfl) rfl rfl rfl rfl (fun _ h => q_load1 (by kernel_rfl) rfl h) (by first | exact BlkR.cell (hs36.sat _ _ _ hb1) rfl | exact BlkR.cell (hs36.sat _ _ _ hb2) rfl | exact Blk.cell ho9.1 rfl | exact Blk.cell ho11.1 rfl | assumption) (by kernel_rfl) ?_
      first | refine at_gskip (i := 18) (li := #[true, true, true, true, true, true, true, true, true, true, true, true, true, true, true, true, true, true, true, false, false]) rfl (by kernel_rfl) rfl rfl rfl rfl rfl (by kernel_rfl) ?_ | refine at_gskipU (i := 18) (li := #[true, true, true, true, true, true, true, true, true, true, true, true, true, true, true, true, true, true, true, false, false]) rfl (by kernel_rfl) rfl rfl rfl rfl (by kernel_rfl) ?_ | refine at_gp (i := 18) (li := #[true, true, true, true, true, true, true, true, true, true, true, true, true, true, true, true, true, true, true, false, false]) rfl (by kernel_rfl) rfl rfl rfl rfl (fun _ => (q_len (by kernel_rfl) rfl _)) (by kernel_rfl) ?_
      first | refine at_gskip (i := 19) (li := #[true, true, true, true, true, true, true, true, true, true, true, true, true, true, true, true, true, true, true, true, false]) rfl (by kernel_rfl) rfl rfl rfl rfl rfl (by kernel_rfl) ?_ | refine at_gskipU (i := 19) (li := #[true, true, true, true, true, true, true, true, true, true, true, true, true, true, true, true, true, true, true, true, false]) rfl (by kernel_rfl) rfl rfl rfl rfl (by kernel_rfl) ?_ | refine at_gp (i := 19) (li := #[true, true, true, true, true, true, true, true, true, true, true, true, true, true, true, true, true, true, true, true, false]) rfl (by kernel_rfl) rfl rfl rfl rfl (fun _ => (q_neT rfl rfl (by omega))) (by kernel_rfl) ?_ | refine at_gp (i := 19) (li := #[true, true, true, true, true, true, true, true, true, true, true, true, true, true, true, true, true, true, true, true, false]) rfl (by kernel_rfl) rfl rfl rfl rfl (fun _ => (q_neF rfl rfl (by omega))) (by kernel_rfl) ?_ | refine at_gp (i := 19) (li := #[true, true, true, true, true, true, true, true, true, true, true, true, true, true, true, true, true, true, true, true, false]) rfl (by kernel_rfl) rfl rfl rfl rfl (fun _ => (q_ne rfl rfl)) (by kernel_rfl) ?_
      first | refine at_q (i := 20) (li := #[true, true, true, true, true, true, true, true, true, true, true, true, true, true, true, true, true, true, true, true, true]) rfl (by kernel_rfl) rfl (fun _ => (q_pick_t rfl rfl)) (by kernel_rfl) ?_ | refine at_q (i := 20) (li := #[true, true, true, true, true, true, true, true, true, true, true, true, true, true, true, true, true, true, true, true, true]) rfl (by kernel_rfl) rfl (fun _ => (q_pick_f rfl rfl)) (by kernel_rfl) ?_ | refine at_q (i := 20) (li := #[true, true, true, true, true, true, true, true, true, true, true, true, true, true, true, true, true, true, true, true, true]) rfl (by kernel_rfl) rfl (fun _ => (q_pick rfl rfl rfl)) (by kernel_rfl) ?_
      refine at_done (by kernel_rfl) (hK27 _ _ ?_)
      clear hK27 K27
      refine cw_false rfl ?_
      refine cw_skip ?_
      refine hK26 _ _ ?_
      clear hK26 K26
      refine cw_rd (by kernel_rfl) (by kernel_rfl) (by kernel_rfl) rfl rfl fun K28 hK28 => ?_
      -- region 17
      have hs37 := Step.drew hs36.sat
      have hz37 := hs37.size
      replace hb1 := hs37.le _ _ hb1
      replace hb2 := hs37.le _ _ hb2
      replace hv := hv.mono hs37.le
      replace hr := hr.mono hs37.le
      replace ha := ha.mono hs37.le
      replace hov1 := hov1.mono hs37.le
      replace ho9 := ho9.then hs37
      replace hov2 := hov2.mono hs37.le
      replace ho11 := ho11.then hs37
      replace hpl1 := hpl1.mono hs37.le
      replace hb1x := hb1x.mono hs37.le
      replace hb2x := hb2x.mono hs37.le
      replace hT := hT.then hs37
      refine at_l (i := 0) (li := #[true, false, false, false, false, false, false, false, false, false, false, false, false, false, false, false, false, false, false, false, false, false, false, false, false, false, false, false, false, false]) (cellsAre _ _ 2 _) rfl (by kernel_rfl) rfl (fun _ h => q_loadc (n := 2) (by kernel_rfl) rfl h) (by first | exact BlkR.cells (hs37.sat _ _ _ hb1) rfl | exact BlkR.cells (hs37.sat _ _ _ hb2) rfl | exact Blk.cells ho9.1 rfl | exact Blk.cells ho11.1 rfl | assumption) (by kernel_rfl) ?_
      refine at_l (i := 2) (li := #[true, false, true, false, false, false, false, false, false, false, false, false, false, false, false, false, false, false, false, false, false, false, false, false, false, false, false, false, false, false]) (cellsAre _ _ 2 _) rfl (by kernel_rfl) rfl (fun _ h => q_loadc (n := 2) (by kernel_rfl) rfl h) (by first | exact BlkR.cells (hs37.sat _ _ _ hb1) rfl | exact BlkR.cells (hs37.sat _ _ _ hb2) rfl | exact Blk.cells ho9.1 rfl | exact Blk.cells ho11.1 rfl | assumption) (by kernel_rfl) ?_
      refine at_h (i := 1) (li := #[true, true, true, false, false, false, false, false, false, false, false, false, false, false, false, false, false, false, false, false, false, false, false, false, false, false, false, false, false, false]) rfl (by kernel_rfl) rfl (keep_sift (bs := [false, true]) (by kernel_rfl)) (by kernel_rfl) (h_call (by kernel_rfl) rfl ?_)
      refine (build18 (ts := ts) hs37.sat hr ha (by omega)).frozen.mono ?_
      rintro v38 w38 ⟨M38, hs38, hbs⟩
      replace hb1 := hs38.le _ _ hb1
      replace hb2 := hs38.le _ _ hb2
      replace hv := hv.mono hs38.le
      replace hr := hr.mono hs38.le
      replace ha := ha.mono hs38.le
      replace hov1 := hov1.mono hs38.le
      replace ho9 := ho9.then hs38
      replace hov2 := hov2.mono hs38.le
      replace ho11 := ho11.then hs38
      replace hpl1 := hpl1.mono hs38.le
      replace hb1x := hb1x.mono hs38.le
      replace hb2x := hb2x.mono hs38.le
      replace hT := hT.then hs38
      have hz38 := hs38.size
      refine ⟨(by repeat' first | exact trivial | exact BlkR.cell (hs38.sat _ _ _ hb1) rfl | exact BlkR.cells (hs38.sat _ _ _ hb1) rfl | exact BlkR.cell (hs38.sat _ _ _ hb2) rfl | exact BlkR.cells (hs38.sat _ _ _ hb2) rfl | exact Blk.cell ho9.1 rfl | exact Blk.cells ho9.1 rfl | exact Blk.cell ho11.1 rfl | exact Blk.cells ho11.1 rfl | assumption | refine all_keep ?_ | refine And.intro ?_ ?_), ?_⟩
      refine at_h (i := 3) (li := #[true, true, true, true, false, false, false, false, false, false, false, false, false, false, false, false, false, false, false, false, false, false, false, false, false, false, false, false, false, false]) rfl (by kernel_rfl) rfl (keep_sift (bs := [true]) (by kernel_rfl)) (by kernel_rfl) (h_call (by kernel_rfl) rfl ?_)
      refine (plain18 (ts := ts) hs38.sat hr ha (by omega)).mono ?_
      rintro _ w39 ⟨pv39, rfl, M39, hs39, hpl2⟩
      obtain ⟨pa39, pc39, rfl, _⟩ := hpl2.slice
      replace hb1 := hs39.le _ _ hb1
      replace hb2 := hs39.le _ _ hb2
      replace hv := hv.mono hs39.le
      replace hr := hr.mono hs39.le
      replace ha := ha.mono hs39.le
      replace hov1 := hov1.mono hs39.le
      replace ho9 := ho9.then hs39
      replace hov2 := hov2.mono hs39.le
      replace ho11 := ho11.then hs39
      replace hpl1 := hpl1.mono hs39.le
      replace hb1x := hb1x.mono hs39.le
      replace hb2x := hb2x.mono hs39.le
      replace hbs := hbs.mono hs39.le
      replace hT := hT.then hs39
      have hz39 := hs39.size
      refine ⟨(by repeat' first | exact trivial | exact BlkR.cell (hs39.sat _ _ _ hb1) rfl | exact BlkR.cells (hs39.sat _ _ _ hb1) rfl | exact BlkR.cell (hs39.sat _ _ _ hb2) rfl | exact BlkR.cells (hs39.sat _ _ _ hb2) rfl | exact Blk.cell ho9.1 rfl | exact Blk.cells ho9.1 rfl | exact Blk.cell ho11.1 rfl | exact Blk.cells ho11.1 rfl | assumption | refine all_keep ?_ | refine And.intro ?_ ?_), ?_⟩
      refine at_h (i := 4) (li := #[true, true, true, true, true, false, false, false, false, false, false, false, false, false, false, false, false, false, false, false, false, false, false, false, false, false, false, false, false, false]) rfl (by kernel_rfl) rfl rfl (by kernel_rfl) (h_call (by kernel_rfl) rfl ?_)
      refine (rbuild18 (ts := ts) hs39.sat hpl2 ha (by omega)).mono ?_
      rintro v40 w40 ⟨M40, hs40, hb3x⟩
      replace hb1 := hs40.le _ _ hb1
      replace hb2 := hs40.le _ _ hb2
      replace hv := hv.mono hs40.le
      replace hr := hr.mono hs40.le
      replace ha := ha.mono hs40.le
      replace hov1 := hov1.mono hs40.le
      replace ho9 := ho9.then hs40
      replace hov2 := hov2.mono hs40.le
      replace ho11 := ho11.then hs40
      replace hpl1 := hpl1.mono hs40.le
      replace hb1x := hb1x.mono hs40.le
      replace hb2x := hb2x.mono hs40.le
      replace hbs := hbs.mono hs40.le
      replace hpl2 := hpl2.mono hs40.le
      replace hT := hT.then hs40
      have hz40 := hs40.size
      refine ⟨(by repeat' first | exact trivial | exact BlkR.cell (hs40.sat _ _ _ hb1) rfl | exact BlkR.cells (hs40.sat _ _ _ hb1) rfl | exact BlkR.cell (hs40.sat _ _ _ hb2) rfl | exact BlkR.cells (hs40.sat _ _ _ hb2) rfl | exact Blk.cell ho9.1 rfl | exact Blk.cells ho9.1 rfl | exact Blk.cell ho11.1 rfl | exact Blk.cells ho11.1 rfl | assumption | refine all_keep ?_ | refine And.intro ?_ ?_), ?_⟩
      refine at_h (i := 5) (li := #[true, true, true, true, true, true, false, false, false, false, false, false, false, false, false, false, false, false, false, false, false, false, false, false, false, false, false, false, false, false]) rfl (by kernel_rfl) rfl rfl (by kernel_rfl) (h_call (by kernel_rfl) rfl ?_)
      refine (same18 hs40.sat (by omega) hbs hb3x).mono ?_
      rintro v41 w41 ⟨hv41, hs41⟩
      obtain rfl : v41 = .bool true := hv41.trans (congrArg Value.bool (decide_eq_true rfl))
      replace hb1 := hs41.le _ _ hb1
      replace hb2 := hs41.le _ _ hb2
      replace hv := hv.mono hs41.le
      replace hr := hr.mono hs41.le
      replace ha := ha.mono hs41.le
      replace hov1 := hov1.mono hs41.le
      replace ho9 := ho9.then hs41
      replace hov2 := hov2.mono hs41.le
      replace ho11 := ho11.then hs41
      replace hpl1 := hpl1.mono hs41.le
      replace hb1x := hb1x.mono hs41.le
      replace hb2x := hb2x.mono hs41.le
      replace hbs := hbs.mono hs41.le
      replace hpl2 := hpl2.mono hs41.le
      replace hb3x := hb3x.mono hs41.le
      replace hT := hT.then hs41
      have hz41 := hs41.size
      refine ⟨(by repeat' first | exact trivial | exact BlkR.cell (hs41.sat _ _ _ hb1) rfl | exact BlkR.cells (hs41.sat _ _ _ hb1) rfl | exact BlkR.cell (hs41.sat _ _ _ hb2) rfl | exact BlkR.cells (hs41.sat _ _ _ hb2) rfl | exact Blk.cell ho9.1 rfl | exact Blk.cells ho9.1 rfl | exact Blk.cell ho11.1 rfl | exact Blk.cells ho11.1 rfl | assumption | refine all_keep ?_ | refine And.intro ?_ ?_), ?_⟩
      refine at_q (i := 6) (li := #[true, true, true, true, true, true, true, false, false, false, false, false, false, false, false, false, false, false, false, false, false, false, false, false, false, false, false, false, false, false]) rfl (by kernel_rfl) rfl (fun _ => (q_move rfl)) (by kernel_rfl) ?_
      first | refine at_gskip (i := 7) (li := #[true, true, true, true, true, true, true, true, false, false, false, false, false, false, false, false, false, false, false, false, false, false, false, false, false, false, false, false, false, false]) rfl (by kernel_rfl) rfl rfl rfl rfl rfl (by kernel_rfl) ?_ | refine at_gskipU (i := 7) (li := #[true, true, true, true, true, true, true, true, false, false, false, false, false, false, false, false, false, false, false, false, false, false, false, false, false, false, false, false, false, false]) rfl (by kernel_rfl) rfl rfl rfl rfl (by kernel_rfl) ?_ | refine at_gp (i := 7) (li := #[true, true, true, true, true, true, true, true, false, false, false, false, false, false, false, false, false, false, false, false, false, false, false, false, false, false, false, false, false, false]) rfl (by kernel_rfl) rfl rfl rfl rfl (fun _ => (q_move rfl)) (by kernel_rfl) ?_
      first | refine at_gskip (i := 8) (li := #[true, true, true, true, true, true, true, true, true, false, false, false, false, false, false, false, false, false, false, false, false, false, false, false, false, false, false, false, false, false]) rfl (by kernel_rfl) rfl rfl rfl rfl rfl (by kernel_rfl) ?_ | refine at_gskipU (i := 8) (li := #[true, true, true, true, true, true, true, true, true, false, false, false, false, false, false, false, false, false, false, false, false, false, false, false, false, false, false, false, false, false]) rfl (by kernel_rfl) rfl rfl rfl rfl (by kernel_rfl) ?_ | refine at_gp (i := 8) (li := #[true, true, true, true, true, true, true, true, true, false, false, false, false, false, false, false, false, false, false, false, false, false, false, false, false, false, false, false, false, false]) rfl (by kernel_rfl) rfl rfl rfl rfl (fun _ => (q_move rfl)) (by kernel_rfl) ?_
      first | refine at_gskip (i := 9) (li := #[true, true, true, true, true, true, true, true, true, true, false, false, false, false, false, false, false, false, false, false, false, false, false, false, false, false, false, false, false, false]) rfl (by kernel_rfl) rfl rfl rfl rfl rfl (by kernel_rfl) ?_ | refine at_gskipU (i := 9) (li := #[true, true, true, true, true, true, true, true, true, true, false, false, false, false, false, false, false, false, false, false, false, false, false, false, false, false, false, false, false, false]) rfl (by kernel_rfl) rfl rfl rfl rfl (by kernel_rfl) ?_ | refine at_gp (i := 9) (li := #[true, true, true, true, true, true, true, true, true, true, false, false, false, false, false, false, false, false, false, false, false, false, false, false, false, false, false, false, false, false]) rfl (by kernel_rfl) rfl rfl rfl rfl (fun _ => (q_geT rfl rfl (by omega))) (by kernel_rfl) ?_ | refine at_gp (i := 9) (li := #[true, true, true, true, true, true, true, true, true, true, false, false, false, false, false, false, false, false, false, false, false, false, false, false, false, false, false, false, false, false]) rfl (by kernel_rfl) rfl rfl rfl rfl (fun _ => (q_geF rfl rfl (by omega))) (by kernel_rfl) ?_ | refine at_gp (i := 9) (li := #[true, true, true, true, true, true, true, true, true, true, false, false, false, false, false, false, false, false, false, false, false, false, false, false, false, false, false, false, false, false]) rfl (by kernel_rfl) rfl rfl rfl rfl (fun _ => (q_ge rfl rfl)) (by kernel_rfl) ?_
      first | refine at_gskip (i := 10) (li := #[true, true, true, true, true, true, true, true, true, true, true, false, false, false, false, false, false, false, false, false, false, false, false, false, false, false, false, false, false, false]) rfl (by kernel_rfl) rfl rfl rfl rfl rfl (by kernel_rfl) ?_ | refine at_gskipU (i := 10) (li := #[true, true, true, true, true, true, true, true, true, true, true, false, false, false, false, false, false, false, false, false, false, false, false, false, false, false, false, false, false, false]) rfl (by kernel_rfl) rfl rfl rfl rfl (by kernel_rfl) ?_ | refine at_gp (i := 10) (li := #[true, true, true, true, true, true, true, true, true, true, true, false, false, false, false, false, false, false, false, false, false, false, false, false, false, false, false, false, false, false]) rfl (by kernel_rfl) rfl rfl rfl rfl (fun _ => (q_eqb (by kernel_rfl) rfl rfl)) (by kernel_rfl) ?_
      first | refine at_q (i := 11) (li := #[true, true, true, true, true, true, true, true, true, true, true, true, false, false, false, false, false, false, false, false, false, false, false, false, false, false, false, false, false, false]) rfl (by kernel_rfl) rfl (fun _ => (q_pick_t rfl rfl)) (by kernel_rfl) ?_ | refine at_q (i := 11) (li := #[true, true, true, true, true, true, true, true, true, true, true, true, false, false, false, false, false, false, false, false, false, false, false, false, false, false, false, false, false, false]) rfl (by kernel_rfl) rfl (fun _ => (q_pick_f rfl rfl)) (by kernel_rfl) ?_ | refine at_q (i := 11) (li := #[true, true, true, true, true, true, true, true, true, true, true, true, false, false, false, false, false, false, false, false, false, false, false, false, false, false, false, false, false, false]) rfl (by kernel_rfl) rfl (fun _ => (q_pick rfl rfl rfl)) (by kernel_rfl) ?_
      refine at_q (i := 12) (li := #[true, true, true, true, true, true, true, true, true, true, true, true, true, false, false, false, false, false, false, false, false, false, false, false, false, false, false, false, false, false]) rfl (by kernel_rfl) rfl (fun _ => (q_move rfl)) (by kernel_rfl) ?_
      first | refine at_gskip (i := 13) (li := #[true, true, true, true, true, true, true, true, true, true, true, true, true, true, false, false, false, false, false, false, false, false, false, false, false, false, false, false, false, false]) rfl (by kernel_rfl) rfl rfl rfl rfl rfl (by kernel_rfl) ?_ | refine at_gskipU (i := 13) (li := #[true, true, true, true, true, true, true, true, true, true, true, true, true, true, false, false, false, false, false, false, false, false, false, false, false, false, false, false, false, false]) rfl (by kernel_rfl) rfl rfl rfl rfl (by kernel_rfl) ?_ | refine at_gp (i := 13) (li := #[true, true, true, true, true, true, true, true, true, true, true, true, true, true, false, false, false, false, false, false, false, false, false, false, false, false, false, false, false, false]) rfl (by kernel_rfl) rfl rfl rfl rfl (fun _ => (q_move rfl)) (by kernel_rfl) ?_
      first | refine at_gskip (i := 14) (li := #[true, true, true, true, true, true, true, true, true, true, true, true, true, true, true, false, false, false, false, false, false, false, false, false, false, false, false, false, false, false]) rfl (by kernel_rfl) rfl rfl rfl rfl rfl (by kernel_rfl) ?_ | refine at_gskipU (i := 14) (li := #[true, true, true, true, true, true, true, true, true, true, true, true, true, true, true, false, false, false, false, false, false, false, false, false, false, false, false, false, false, false]) rfl (by kernel_rfl) rfl rfl rfl rfl (by kernel_rfl) ?_ | refine at_gp (i := 14) (li := #[true, true, true, true, true, true, true, true, true, true, true, true, true, true, true, false, false, false, false, false, false, false, false, false, false, false, false, false, false, false]) rfl (by kernel_rfl) rfl rfl rfl rfl (fun _ => (q_move rfl)) (by kernel_rfl) ?_
      first | refine at_gskip (i := 15) (li := #[true, true, true, true, true, true, true, true, true, true, true, true, true, true, true, true, false, false, false, false, false, false, false, false, false, false, false, false, false, false]) rfl (by kernel_rfl) rfl rfl rfl rfl rfl (by kernel_rfl) ?_ | refine at_gskipU (i := 15) (li := #[true, true, true, true, true, true, true, true, true, true, true, true, true, true, true, true, false, false, false, false, false, false, false, false, false, false, false, false, false, false]) rfl (by kernel_rfl) rfl rfl rfl rfl (by kernel_rfl) ?_ | refine at_gp (i := 15) (li := #[true, true, true, true, true, true, true, true, true, true, true, true, true, true, true, true, false, false, false, false, false, false, false, false, false, false, false, false, false, false]) rfl (by kernel_rfl) rfl rfl rfl rfl (fun _ => (q_congr (q_max2 rfl rfl) (v' := .int .i64 0) (by first | rw [if_neg (by omega)] | rw [if_pos (by omega)] | rfl))) (by kernel_rfl) ?_
      first | refine at_gskip (i := 16) (li := #[true, true, true, true, true, true, true, true, true, true, true, true, true, true, true, true, true, false, false, false, false, false, false, false, false, false, false, false, false, false]) rfl (by kernel_rfl) rfl rfl rfl rfl rfl (by kernel_rfl) ?_ | refine at_gskipU (i := 16) (li := #[true, true, true, true, true, true, true, true, true, true, true, true, true, true, true, true, true, false, false, false, false, false, false, false, false, false, false, false, false, false]) rfl (by kernel_rfl) rfl rfl rfl rfl (by kernel_rfl) ?_ | refine at_gp (i := 16) (li := #[true, true, true, true, true, true, true, true, true, true, true, true, true, true, true, true, true, false, false, false, false, false, false, false, false, false, false, false, false, false]) rfl (by kernel_rfl) rfl rfl rfl rfl (fun _ => (q_eqT rfl rfl (by omega))) (by kernel_rfl) ?_ | refine at_gp (i := 16) (li := #[true, true, true, true, true, true, true, true, true, true, true, true, true, true, true, true, true, false, false, false, false, false, false, false, false, false, false, false, false, false]) rfl (by kernel_rfl) rfl rfl rfl rfl (fun _ => (q_eqF rfl rfl (by omega))) (by kernel_rfl) ?_ | refine at_gp (i := 16) (li := #[true, true, true, true, true, true, true, true, true, true, true, true, true, true, true, true, true, false, false, false, false, false, false, false, false, false, false, false, false, false]) rfl (by kernel_rfl) rfl rfl rfl rfl (fun _ => (q_eq rfl rfl)) (by kernel_rfl) ?_
      first | refine at_q (i := 17) (li := #[true, true, true, true, true, true, true, true, true, true, true, true, true, true, true, true, true, true, false, false, false, false, false, false, false, false, false, false, false, false]) rfl (by kernel_rfl) rfl (fun _ => (q_pick_t rfl rfl)) (by kernel_rfl) ?_ | refine at_q (i := 17) (li := #[true, true, true, true, true, true, true, true, true, true, true, true, true, true, true, true, true, true, false, false, false, false, false, false, false, false, false, false, false, false]) rfl (by kernel_rfl) rfl (fun _ => (q_pick_f rfl rfl)) (by kernel_rfl) ?_ | refine at_q (i := 17) (li := #[true, true, true, true, true, true, true, true, true, true, true, true, true, true, true, true, true, true, false, false, false, false, false, false, false, false, false, false, false, false]) rfl (by kernel_rfl) rfl (fun _ => (q_pick rfl rfl rfl)) (by kernel_rfl) ?_
      refine at_q (i := 18) (li := #[true, true, true, true, true, true, true, true, true, true, true, true, true, true, true, true, true, true, true, false, false, false, false, false, false, false, false, false, false, false]) rfl (by kernel_rfl) rfl (fun _ => (q_move rfl)) (by kernel_rfl) ?_
      first | refine at_gskip (i := 19) (li := #[true, true, true, true, true, true, true, true, true, true, true, true, true, true, true, true, true, true, true, true, false, false, false, false, false, false, false, false, false, false]) rfl (by kernel_rfl) rfl rfl rfl rfl rfl (by kernel_rfl) ?_ | refine at_gskipU (i := 19) (li := #[true, true, true, true, true, true, true, true, true, true, true, true, true, true, true, true, true, true, true, true, false, false, false, false, false, false, false, false, false, false]) rfl (by kernel_rfl) rfl rfl rfl rfl (by kernel_rfl) ?_ | refine at_gq (i := 19) (li := #[true, true, true, true, true, true, true, true, true, true, true, true, true, true, true, true, true, true, true, true, false, false, false, false, false, false, false, false, false, false]) (cellsAre _ _ 2 _) rfl (by kernel_rfl) rfl rfl rfl rfl (fun _ h => q_loadc (n := 2) (by kernel_rfl) rfl h) (by first | exact BlkR.cells (hs41.sat _ _ _ hb1) rfl | exact BlkR.cells (hs41.sat _ _ _ hb2) rfl | exact Blk.cells ho9.1 rfl | exact Blk.cells ho11.1 rfl | assumption) (by kernel_rfl) ?_
      first | refine at_gskip (i := 21) (li := #[true, true, true, true, true, true, true, true, true, true, true, true, true, true, true, true, true, true, true, true, false, true, false, false, false, false, false, false, false, false]) rfl (by kernel_rfl) rfl rfl rfl rfl rfl (by kernel_rfl) ?_ | refine at_gskipU (i := 21) (li := #[true, true, true, true, true, true, true, true, true, true, true, true, true, true, true, true, true, true, true, true, false, true, false, false, false, false, false, false, false, false]) rfl (by kernel_rfl) rfl rfl rfl rfl (by kernel_rfl) ?_ | refine at_gp (i := 21) (li := #[true, true, true, true, true, true, true, true, true, true, true, true, true, true, true, true, true, true, true, true, false, true, false, false, false, false, false, false, false, false]) rfl (by kernel_rfl) rfl rfl rfl rfl (fun _ => (q_fieldAddr (off := 0) (by kernel_rfl) rfl)) (by kernel_rfl) ?_
      first | refine at_gskip (i := 22) (li := #[true, true, true, true, true, true, true, true, true, true, true, true, true, true, true, true, true, true, true, true, false, true, true, false, false, false, false, false, false, false]) rfl (by kernel_rfl) rfl rfl rfl rfl rfl (by kernel_rfl) ?_ | refine at_gskipU (i := 22) (li := #[true, true, true, true, true, true, true, true, true, true, true, true, true, true, true, true, true, true, true, true, false, true, true, false, false, false, false, false, false, false]) rfl (by kernel_rfl) rfl rfl rfl rfl (by kernel_rfl) ?_ | refine at_gq (i := 22) (li := #[true, true, true, true, true, true, true, true, true, true, true, true, true, true, true, true, true, true, true, true, false, true, true, false, false, false, false, false, false, false]) (cellIs _ _ _) rfl (by kernel_rfl) rfl rfl rfl rfl (fun _ h => q_load1 (by kernel_rfl) rfl h) (by first | exact BlkR.cell (hs41.sat _ _ _ hb1) rfl | exact BlkR.cell (hs41.sat _ _ _ hb2) rfl | exact Blk.cell ho9.1 rfl | exact Blk.cell ho11.1 rfl | assumption) (by kernel_rfl) ?_
      first | refine at_gskip (i := 23) (li := #[true, true, true, true, true, true, true, true, true, true, true, true, true, true, true, true, true, true, true, true, false, true, true, true, false, false, false, false, false, false]) rfl (by kernel_rfl) rfl rfl rfl rfl rfl (by kernel_rfl) ?_ | refine at_gskipU (i := 23) (li := #[true, true, true, true, true, true, true, true, true, true, true, true, true, true, true, true, true, true, true, true, false, true, true, true, false, false, false, false, false, false]) rfl (by kernel_rfl) rfl rfl rfl rfl (by kernel_rfl) ?_ | refine at_gp (i := 23) (li := #[true, true, true, true, true, true, true, true, true, true, true, true, true, true, true, true, true, true, true, true, false, true, true, true, false, false, false, false, false, false]) rfl (by kernel_rfl) rfl rfl rfl rfl (fun _ => (q_fieldAddr (off := 1) (by kernel_rfl) rfl)) (by kernel_rfl) ?_
      first | refine at_gskip (i := 24) (li := #[true, true, true, true, true, true, true, true, true, true, true, true, true, true, true, true, true, true, true, true, false, true, true, true, true, false, false, false, false, false]) rfl (by kernel_rfl) rfl rfl rfl rfl rfl (by kernel_rfl) ?_ | refine at_gskipU (i := 24) (li := #[true, true, true, true, true, true, true, true, true, true, true, true, true, true, true, true, true, true, true, true, false, true, true, true, true, false, false, false, false, false]) rfl (by kernel_rfl) rfl rfl rfl rfl (by kernel_rfl) ?_ | refine at_gq (i := 24) (li := #[true, true, true, true, true, true, true, true, true, true, true, true, true, true, true, true, true, true, true, true, false, true, true, true, true, false, false, false, false, false]) (cellIs _ _ _) rfl (by kernel_rfl) rfl rfl rfl rfl (fun _ h => q_load1 (by kernel_rfl) rfl h) (by first | exact BlkR.cell (hs41.sat _ _ _ hb1) rfl | exact BlkR.cell (hs41.sat _ _ _ hb2) rfl | exact Blk.cell ho9.1 rfl | exact Blk.cell ho11.1 rfl | assumption) (by kernel_rfl) ?_
      first | refine at_gskip (i := 25) (li := #[true, true, true, true, true, true, true, true, true, true, true, true, true, true, true, true, true, true, true, true, false, true, true, true, true, true, false, false, false, false]) rfl (by kernel_rfl) rfl rfl rfl rfl rfl (by kernel_rfl) ?_ | refine at_gskipU (i := 25) (li := #[true, true, true, true, true, true, true, true, true, true, true, true, true, true, true, true, true, true, true, true, false, true, true, true, true, true, false, false, false, false]) rfl (by kernel_rfl) rfl rfl rfl rfl (by kernel_rfl) ?_ | refine at_gp (i := 25) (li := #[true, true, true, true, true, true, true, true, true, true, true, true, true, true, true, true, true, true, true, true, false, true, true, true, true, true, false, false, false, false]) rfl (by kernel_rfl) rfl rfl rfl rfl (fun _ => (q_build (zs := [(.int .i64 0), (.slice none 0 0)]) (places := [(0, 1), (1, 1)]) (cs := [_, _]) (by kernel_rfl) (by kernel_rfl) rfl rfl)) (by kernel_rfl) ?_
      refine at_gh (i := 20) (li := #[true, true, true, true, true, true, true, true, true, true, true, true, true, true, true, true, true, true, true, true, true, true, true, true, true, true, false, false, false, false]) rfl (by kernel_rfl) rfl rfl rfl rfl rfl (by kernel_rfl) (h_call (by kernel_rfl) rfl ?_)
      refine (right18 hs41.sat).mono ?_
      rintro _ w42 ⟨rfl, hs42⟩
      replace hb1 := hs42.le _ _ hb1
      replace hb2 := hs42.le _ _ hb2
      replace hv := hv.mono hs42.le
      replace hr := hr.mono hs42.le
      replace ha := ha.mono hs42.le
      replace hov1 := hov1.mono hs42.le
      replace ho9 := ho9.then hs42
      replace hov2 := hov2.mono hs42.le
      replace ho11 := ho11.then hs42
      replace hpl1 := hpl1.mono hs42.le
      replace hb1x := hb1x.mono hs42.le
      replace hb2x := hb2x.mono hs42.le
      replace hbs := hbs.mono hs42.le
      replace hpl2 := hpl2.mono hs42.le
      replace hb3x := hb3x.mono hs42.le
      replace hT := hT.then hs42
      have hz42 := hs42.size
      refine ⟨(by repeat' first | exact trivial | exact BlkR.cell (hs42.sat _ _ _ hb1) rfl | exact BlkR.cells (hs42.sat _ _ _ hb1) rfl | exact BlkR.cell (hs42.sat _ _ _ hb2) rfl | exact BlkR.cells (hs42.sat _ _ _ hb2) rfl | exact Blk.cell ho9.1 rfl | exact Blk.cells ho9.1 rfl | exact Blk.cell ho11.1 rfl | exact Blk.cells ho11.1 rfl | assumption | refine all_keep ?_ | refine And.intro ?_ ?_), ?_⟩
      refine at_gh (i := 26) (li := #[true, true, true, true, true, true, true, true, true, true, true, true, true, true, true, true, true, true, true, true, true, true, true, true, true, true, true, false, false, false]) rfl (by kernel_rfl) rfl rfl rfl rfl rfl (by kernel_rfl) (h_call (by kernel_rfl) rfl ?_)
      refine (rright18 hs42.sat).mono ?_
      rintro _ w43 ⟨rfl, hs43⟩
      replace hb1 := hs43.le _ _ hb1
      replace hb2 := hs43.le _ _ hb2
      replace hv := hv.mono hs43.le
      replace hr := hr.mono hs43.le
      replace ha := ha.mono hs43.le
      replace hov1 := hov1.mono hs43.le
      replace ho9 := ho9.then hs43
      replace hov2 := hov2.mono hs43.le
      replace ho11 := ho11.then hs43
      replace hpl1 := hpl1.mono hs43.le
      replace hb1x := hb1x.mono hs43.le
      replace hb2x := hb2x.mono hs43.le
      replace hbs := hbs.mono hs43.le
      replace hpl2 := hpl2.mono hs43.le
      replace hb3x := hb3x.mono hs43.le
      replace hT := hT.then hs43
      have hz43 := hs43.size
      refine ⟨(by repeat' first | exact trivial | exact BlkR.cell (hs43.sat _ _ _ hb1) rfl | exact BlkR.cells (hs43.sat _ _ _ hb1) rfl | exact BlkR.cell (hs43.sat _ _ _ hb2) rfl | exact BlkR.cells (hs43.sat _ _ _ hb2) rfl | exact Blk.cell ho9.1 rfl | exact Blk.cells ho9.1 rfl | exact Blk.cell ho11.1 rfl | exact Blk.cells ho11.1 rfl | assumption | refine all_keep ?_ | refine And.intro ?_ ?_), ?_⟩
      first | refine at_gskip (i := 27) (li := #[true, true, true, true, true, true, true, true, true, true, true, true, true, true, true, true, true, true, true, true, true, true, true, true, true, true, true, true, false, false]) rfl (by kernel_rfl) rfl rfl rfl rfl rfl (by kernel_rfl) ?_ | refine at_gskipU (i := 27) (li := #[true, true, true, true, true, true, true, true, true, true, true, true, true, true, true, true, true, true, true, true, true, true, true, true, true, true, true, true, false, false]) rfl (by kernel_rfl) rfl rfl rfl rfl (by kernel_rfl) ?_ | refine at_gp (i := 27) (li := #[true, true, true, true, true, true, true, true, true, true, true, true, true, true, true, true, true, true, true, true, true, true, true, true, true, true, true, true, false, false]) rfl (by kernel_rfl) rfl rfl rfl rfl (fun _ => (q_eqT rfl rfl (by omega))) (by kernel_rfl) ?_ | refine at_gp (i := 27) (li := #[true, true, true, true, true, true, true, true, true, true, true, true, true, true, true, true, true, true, true, true, true, true, true, true, true, true, true, true, false, false]) rfl (by kernel_rfl) rfl rfl rfl rfl (fun _ => (q_eqF rfl rfl (by omega))) (by kernel_rfl) ?_ | refine at_gp (i := 27) (li := #[true, true, true, true, true, true, true, true, true, true, true, true, true, true, true, true, true, true, true, true, true, true, true, true, true, true, true, true, false, false]) rfl (by kernel_rfl) rfl rfl rfl rfl (fun _ => (q_eq rfl rfl)) (by kernel_rfl) ?_
      first | refine at_q (i := 28) (li := #[true, true, true, true, true, true, true, true, true, true, true, true, true, true, true, true, true, true, true, true, true, true, true, true, true, true, true, true, true, false]) rfl (by kernel_rfl) rfl (fun _ => (q_pick_t rfl rfl)) (by kernel_rfl) ?_ | refine at_q (i := 28) (li := #[true, true, true, true, true, true, true, true, true, true, true, true, true, true, true, true, true, true, true, true, true, true, true, true, true, true, true, true, true, false]) rfl (by kernel_rfl) rfl (fun _ => (q_pick_f rfl rfl)) (by kernel_rfl) ?_ | refine at_q (i := 28) (li := #[true, true, true, true, true, true, true, true, true, true, true, true, true, true, true, true, true, true, true, true, true, true, true, true, true, true, true, true, true, false]) rfl (by kernel_rfl) rfl (fun _ => (q_pick rfl rfl rfl)) (by kernel_rfl) ?_
      refine at_q (i := 29) (li := #[true, true, true, true, true, true, true, true, true, true, true, true, true, true, true, true, true, true, true, true, true, true, true, true, true, true, true, true, true, true]) rfl (by kernel_rfl) rfl (fun _ => (q_assign rfl)) (by kernel_rfl) ?_
      refine at_done (by kernel_rfl) (hK28 _ _ ?_)
      clear hK28 K28
      refine cw_ret ?_
      exact ⟨_, (res_tmp rfl res_nil), rfl, hT.forget⟩
    · skip
      have hao := argsOf_in hc1 hc2
      refine cw_exit ?_
      refine hK7 _ _ ?_
      clear hK9 K9
      clear hK7 K7
      refine cw_rs fun K29 hK29 => ?_
      -- region 11
      refine as_q rfl rfl (q_move rfl) ?_
      refine as_h rfl (h_call (by kernel_rfl) rfl ?_)
      refine (parse18 hT.sat (by omega) hv).mono ?_
      rintro v44 w44 ⟨M44, hs44, hp44⟩
      obtain ⟨oa1, oc1, rfl, hov1⟩ := hp44.no hpz
      replace hb1 := hs44.le _ _ hb1
      replace hb2 := hs44.le _ _ hb2
      replace hv := hv.mono hs44.le
      replace hr := hr.mono hs44.le
      replace ha := ha.mono hs44.le
      replace hT := hT.then hs44
      have hz44 := hs44.size
      refine as_q rfl rfl (q_move rfl) ?_
      refine as_q rfl rfl (q_extract rfl rfl) ?_
      refine as_q rfl rfl (q_extract rfl rfl) ?_
      have hqa9 := hT.size
      refine as_h rfl (h_allocO (z := (.agg #[(.int .i64 0), (.slice none 0 0)])) hs44.sat (by kernel_rfl) rfl fun b9 w45 hs45 ho9 e9 => ?_)
      replace hb1 := hs45.le _ _ hb1
      replace hb2 := hs45.le _ _ hb2
      replace hv := hv.mono hs45.le
      replace hr := hr.mono hs45.le
      replace ha := ha.mono hs45.le
      replace hov1 := hov1.mono hs45.le
      replace hT := hT.then hs45
      have hz45 := hs45.size
      have hl9 := ho9.1.lt
      refine as_h0 (h_store hs45.sat ho9 rfl rfl rfl (by kernel_rfl) rfl rfl rfl fun w46 hs46 hn46 => ?_)
      replace hb1 := hs46.le _ _ hb1
      replace hb2 := hs46.le _ _ hb2
      replace hv := hv.mono hs46.le
      replace hr := hr.mono hs46.le
      replace ha := ha.mono hs46.le
      replace hov1 := hov1.mono hs46.le
      clear ho9; have ho9 := hn46; clear hn46
      replace hT := hT.own hs46 (by omega)
      have hz46 := hs46.size
      refine as_q rfl rfl (q_assign rfl) ?_
      refine as_nil (hK29 _ _ ?_)
      clear hK29 K29
      refine cw_rs fun K30 hK30 => ?_
      -- region 12
      refine as_q rfl rfl (q_move rfl) ?_
      refine as_h rfl (h_call (by kernel_rfl) rfl ?_)
      refine (rparse18 hs46.sat (by omega) hv).mono ?_
      rintro v47 w47 ⟨M47, hs47, hp47⟩
      obtain ⟨oa2, oc2, rfl, hov2⟩ := hp47.no hpz
      replace hb1 := hs47.le _ _ hb1
      replace hb2 := hs47.le _ _ hb2
      replace hv := hv.mono hs47.le
      replace hr := hr.mono hs47.le
      replace ha := ha.mono hs47.le
      replace hov1 := hov1.mono hs47.le
      replace ho9 := ho9.then hs47
      replace hT := hT.then hs47
      have hz47 := hs47.size
      refine as_q rfl rfl (q_move rfl) ?_
      refine as_q rfl rfl (q_extract rfl rfl) ?_
      refine as_q rfl rfl (q_extract rfl rfl) ?_
      have hqa11 := hT.size
      refine as_h rfl (h_allocO (z := (.agg #[(.int .i64 0), (.slice none 0 0)])) hs47.sat (by kernel_rfl) rfl fun b11 w48 hs48 ho11 e11 => ?_)
      replace hb1 := hs48.le _ _ hb1
      replace hb2 := hs48.le _ _ hb2
      replace hv := hv.mono hs48.le
      replace hr := hr.mono hs48.le
      replace ha := ha.mono hs48.le
      replace hov1 := hov1.mono hs48.le
      replace ho9 := ho9.then hs48
      replace hov2 := hov2.mono hs48.le
      replace hT := hT.then hs48
      have hz48 := hs48.size
      have hl11 := ho11.1.lt
      refine as_h0 (h_store hs48.sat ho11 rfl rfl rfl (by kernel_rfl) rfl rfl rfl fun w49 hs49 hn49 => ?_)
      replace hb1 := hs49.le _ _ hb1
      replace hb2 := hs49.le _ _ hb2
      replace hv := hv.mono hs49.le
      replace hr := hr.mono hs49.le
      replace ha := ha.mono hs49.le
      replace hov1 := hov1.mono hs49.le
      replace ho9 := ho9.step hs49 (fun h => by have h : _ = _ := h; omega)
      replace hov2 := hov2.mono hs49.le
      clear ho11; have ho11 := hn49; clear hn49
      replace hT := hT.own hs49 (by omega)
      have hz49 := hs49.size
      refine as_q rfl rfl (q_assign rfl) ?_
      refine as_nil (hK30 _ _ ?_)
      clear hK30 K30
      refine cw_rs fun K31 hK31 => ?_
      -- region 13
      refine as_q rfl rfl (q_fieldAddr (off := 0) (by kernel_rfl) rfl) ?_
      refine as_q rfl rfl (q_load1 (by kernel_rfl) rfl (by first | exact BlkR.cell (hs49.sat _ _ _ hb1) rfl | exact BlkR.cell (hs49.sat _ _ _ hb2) rfl | exact Blk.cell ho9.1 rfl | exact Blk.cell ho11.1 rfl | assumption)) ?_
      refine as_h rfl (h_call (by kernel_rfl) rfl ?_)
      refine (args_in hs49.sat hc1 hc2).mono ?_
      rintro _ w50 ⟨rfl, hs50⟩
      replace hb1 := hs50.le _ _ hb1
      replace hb2 := hs50.le _ _ hb2
      replace hv := hv.mono hs50.le
      replace hr := hr.mono hs50.le
      replace ha := ha.mono hs50.le
      replace hov1 := hov1.mono hs50.le
      replace ho9 := ho9.then hs50
      replace hov2 := hov2.mono hs50.le
      replace ho11 := ho11.then hs50
      replace hT := hT.then hs50
      have hz50 := hs50.size
      refine as_q rfl rfl (q_move rfl) ?_
      refine as_q rfl rfl (q_extract rfl rfl) ?_
      refine as_q rfl rfl (q_extract rfl rfl) ?_
      refine as_q rfl rfl (q_assign rfl) ?_
      refine as_q rfl rfl (q_assign rfl) ?_
      refine as_nil (hK31 _ _ ?_)
      clear hK31 K31
      refine cw_rs fun K32 hK32 => ?_
      -- region 14
      refine as_q rfl rfl (q_fieldAddr (off := 0) (by kernel_rfl) rfl) ?_
      refine as_q rfl rfl (q_load1 (by kernel_rfl) rfl (by first | exact BlkR.cell (hs50.sat _ _ _ hb1) rfl | exact BlkR.cell (hs50.sat _ _ _ hb2) rfl | exact Blk.cell ho9.1 rfl | exact Blk.cell ho11.1 rfl | assumption)) ?_
      refine as_h rfl (h_call (by kernel_rfl) rfl ?_)
      refine (rargs hs50.sat).mono ?_
      rintro v51 w51 ⟨hv51, hs51⟩
      obtain rfl : v51 = .int .i64 (argsOf c) := hv51
      replace hb1 := hs51.le _ _ hb1
      replace hb2 := hs51.le _ _ hb2
      replace hv := hv.mono hs51.le
      replace hr := hr.mono hs51.le
      replace ha := ha.mono hs51.le
      replace hov1 := hov1.mono hs51.le
      replace ho9 := ho9.then hs51
      replace hov2 := hov2.mono hs51.le
      replace ho11 := ho11.then hs51
      replace hT := hT.then hs51
      have hz51 := hs51.size
      refine as_q rfl rfl (q_assign rfl) ?_
      refine as_nil (hK32 _ _ ?_)
      clear hK32 K32
      refine cw_seq fun K33 hK33 => ?_
      refine cw_rd (by kernel_rfl) (by kernel_rfl) (by kernel_rfl) rfl rfl fun K34 hK34 => ?_
      -- region 15
      have hs52 := Step.drew hs51.sat
      have hz52 := hs52.size
      replace hb1 := hs52.le _ _ hb1
      replace hb2 := hs52.le _ _ hb2
      replace hv := hv.mono hs52.le
      replace hr := hr.mono hs52.le
      replace ha := ha.mono hs52.le
      replace hov1 := hov1.mono hs52.le
      replace ho9 := ho9.then hs52
      replace hov2 := hov2.mono hs52.le
      replace ho11 := ho11.then hs52
      replace hT := hT.then hs52
      refine at_q (i := 0) (li := #[true, false, false, false, false, false, false, false, false, false, false, false, false, false, false, false, false, false, false, false, false]) rfl (by kernel_rfl) rfl (fun _ => (q_move rfl)) (by kernel_rfl) ?_
      refine at_q (i := 1) (li := #[true, true, false, false, false, false, false, false, false, false, false, false, false, false, false, false, false, false, false, false, false]) rfl (by kernel_rfl) rfl (fun _ => (q_move rfl)) (by kernel_rfl) ?_
      first | refine at_q (i := 2) (li := #[true, true, true, false, false, false, false, false, false, false, false, false, false, false, false, false, false, false, false, false, false]) rfl (by kernel_rfl) rfl (fun _ => (q_neT rfl rfl (by omega))) (by kernel_rfl) ?_ | refine at_q (i := 2) (li := #[true, true, true, false, false, false, false, false, false, false, false, false, false, false, false, false, false, false, false, false, false]) rfl (by kernel_rfl) rfl (fun _ => (q_neF rfl rfl (by omega))) (by kernel_rfl) ?_ | refine at_q (i := 2) (li := #[true, true, true, false, false, false, false, false, false, false, false, false, false, false, false, false, false, false, false, false, false]) rfl (by kernel_rfl) rfl (fun _ => (q_ne rfl rfl)) (by kernel_rfl) ?_
      refine at_q (i := 3) (li := #[true, true, true, true, false, false, false, false, false, false, false, false, false, false, false, false, false, false, false, false, false]) rfl (by kernel_rfl) rfl (fun _ => (q_move rfl)) (by kernel_rfl) ?_
      first | refine at_gskip (i := 4) (li := #[true, true, true, true, true, false, false, false, false, false, false, false, false, false, false, false, false, false, false, false, false]) rfl (by kernel_rfl) rfl rfl rfl rfl rfl (by kernel_rfl) ?_ | refine at_gskipU (i := 4) (li := #[true, true, true, true, true, false, false, false, false, false, false, false, false, false, false, false, false, false, false, false, false]) rfl (by kernel_rfl) rfl rfl rfl rfl (by kernel_rfl) ?_ | refine at_gq (i := 4) (li := #[true, true, true, true, true, false, false, false, false, false, false, false, false, false, false, false, false, false, false, false, false]) (cellsAre _ _ 2 _) rfl (by kernel_rfl) rfl rfl rfl rfl (fun _ h => q_loadc (n := 2) (by kernel_rfl) rfl h) (by first | exact BlkR.cells (hs52.sat _ _ _ hb1) rfl | exact BlkR.cells (hs52.sat _ _ _ hb2) rfl | exact Blk.cells ho9.1 rfl | exact Blk.cells ho11.1 rfl | assumption) (by kernel_rfl) ?_
      first | refine at_gskip (i := 7) (li := #[true, true, true, true, true, false, false, true, false, false, false, false, false, false, false, false, false, false, false, false, false]) rfl (by kernel_rfl) rfl rfl rfl rfl rfl (by kernel_rfl) ?_ | refine at_gskipU (i := 7) (li := #[true, true, true, true, true, false, false, true, false, false, false, false, false, false, false, false, false, false, false, false, false]) rfl (by kernel_rfl) rfl rfl rfl rfl (by kernel_rfl) ?_ | refine at_gq (i := 7) (li := #[true, true, true, true, true, false, false, true, false, false, false, false, false, false, false, false, false, false, false, false, false]) (cellsAre _ _ 2 _) rfl (by kernel_rfl) rfl rfl rfl rfl (fun _ h => q_loadc (n := 2) (by kernel_rfl) rfl h) (by first | exact BlkR.cells (hs52.sat _ _ _ hb1) rfl | exact BlkR.cells (hs52.sat _ _ _ hb2) rfl | exact Blk.cells ho9.1 rfl | exact Blk.cells ho11.1 rfl | assumption) (by kernel_rfl) ?_
      refine at_gh (i := 5) (li := #[true, true, true, true, true, true, false, true, false, false, false, false, false, false, false, false, false, false, false, false, false]) rfl (by kernel_rfl) rfl rfl rfl rfl rfl (by kernel_rfl) (h_call (by kernel_rfl) rfl ?_)
      refine (plain18 (ts := []) hs52.sat hov1 (fun t ht => by cases ht) (by omega)).mono ?_
      rintro _ w53 ⟨pv53, rfl, M53, hs53, hpl1⟩
      obtain ⟨pa53, pc53, rfl, _⟩ := hpl1.slice
      replace hb1 := hs53.le _ _ hb1
      replace hb2 := hs53.le _ _ hb2
      replace hv := hv.mono hs53.le
      replace hr := hr.mono hs53.le
      replace ha := ha.mono hs53.le
      replace hov1 := hov1.mono hs53.le
      replace ho9 := ho9.then hs53
      replace hov2 := hov2.mono hs53.le
      replace ho11 := ho11.then hs53
      replace hT := hT.then hs53
      have hz53 := hs53.size
      refine ⟨(by repeat' first | exact trivial | exact BlkR.cell (hs53.sat _ _ _ hb1) rfl | exact BlkR.cells (hs53.sat _ _ _ hb1) rfl | exact BlkR.cell (hs53.sat _ _ _ hb2) rfl | exact BlkR.cells (hs53.sat _ _ _ hb2) rfl | exact Blk.cell ho9.1 rfl | exact Blk.cells ho9.1 rfl | exact Blk.cell ho11.1 rfl | exact Blk.cells ho11.1 rfl | assumption | refine all_keep ?_ | refine And.intro ?_ ?_), ?_⟩
      refine at_gh (i := 6) (li := #[true, true, true, true, true, true, true, true, false, false, false, false, false, false, false, false, false, false, false, false, false]) rfl (by kernel_rfl) rfl rfl rfl rfl rfl (by kernel_rfl) (h_call (by kernel_rfl) rfl ?_)
      refine (rbuild18 (ts := []) hs53.sat hpl1 (fun t ht => by cases ht) (by simp [build, keyT])).mono ?_
      rintro v54 w54 ⟨M54, hs54, hb1x⟩
      replace hb1 := hs54.le _ _ hb1
      replace hb2 := hs54.le _ _ hb2
      replace hv := hv.mono hs54.le
      replace hr := hr.mono hs54.le
      replace ha := ha.mono hs54.le
      replace hov1 := hov1.mono hs54.le
      replace ho9 := ho9.then hs54
      replace hov2 := hov2.mono hs54.le
      replace ho11 := ho11.then hs54
      replace hpl1 := hpl1.mono hs54.le
      replace hT := hT.then hs54
      have hz54 := hs54.size
      refine ⟨(by repeat' first | exact trivial | exact BlkR.cell (hs54.sat _ _ _ hb1) rfl | exact BlkR.cells (hs54.sat _ _ _ hb1) rfl | exact BlkR.cell (hs54.sat _ _ _ hb2) rfl | exact BlkR.cells (hs54.sat _ _ _ hb2) rfl | exact Blk.cell ho9.1 rfl | exact Blk.cells ho9.1 rfl | exact Blk.cell ho11.1 rfl | exact Blk.cells ho11.1 rfl | assumption | refine all_keep ?_ | refine And.intro ?_ ?_), ?_⟩
      refine at_gh (i := 8) (li := #[true, true, true, true, true, true, true, true, true, false, false, false, false, false, false, false, false, false, false, false, false]) rfl (by kernel_rfl) rfl rfl rfl rfl rfl (by kernel_rfl) (h_call (by kernel_rfl) rfl ?_)
      refine (rbuild18 (ts := []) hs54.sat hov2 (fun t ht => by cases ht) (by simp [build, keyT])).mono ?_
      rintro v55 w55 ⟨M55, hs55, hb2x⟩
      replace hb1 := hs55.le _ _ hb1
      replace hb2 := hs55.le _ _ hb2
      replace hv := hv.mono hs55.le
      replace hr := hr.mono hs55.le
      replace ha := ha.mono hs55.le
      replace hov1 := hov1.mono hs55.le
      replace ho9 := ho9.then hs55
      replace hov2 := hov2.mono hs55.le
      replace ho11 := ho11.then hs55
      replace hpl1 := hpl1.mono hs55.le
      replace hb1x := hb1x.mono hs55.le
      replace hT := hT.then hs55
      have hz55 := hs55.size
      refine ⟨(by repeat' first | exact trivial | exact BlkR.cell (hs55.sat _ _ _ hb1) rfl | exact BlkR.cells (hs55.sat _ _ _ hb1) rfl | exact BlkR.cell (hs55.sat _ _ _ hb2) rfl | exact BlkR.cells (hs55.sat _ _ _ hb2) rfl | exact Blk.cell ho9.1 rfl | exact Blk.cells ho9.1 rfl | exact Blk.cell ho11.1 rfl | exact Blk.cells ho11.1 rfl | assumption | refine all_keep ?_ | refine And.intro ?_ ?_), ?_⟩
      refine at_gh (i := 9) (li := #[true, true, true, true, true, true, true, true, true, true, false, false, false, false, false, false, false, false, false, false, false]) rfl (by kernel_rfl) rfl rfl rfl rfl rfl (by kernel_rfl) (h_call (by kernel_rfl) rfl ?_)
      refine (same18 hs55.sat (by simp [build, keyT]) hb1x hb2x).mono ?_
      rintro v56 w56 ⟨hv56, hs56⟩
      obtain rfl : v56 = .bool true := hv56.trans (congrArg Value.bool (decide_eq_true rfl))
      replace hb1 := hs56.le _ _ hb1
      replace hb2 := hs56.le _ _ hb2
      replace hv := hv.mono hs56.le
      replace hr := hr.mono hs56.le
      replace ha := ha.mono hs56.le
      replace hov1 := hov1.mono hs56.le
      replace ho9 := ho9.then hs56
      replace hov2 := hov2.mono hs56.le
      replace ho11 := ho11.then hs56
      replace hpl1 := hpl1.mono hs56.le
      replace hb1x := hb1x.mono hs56.le
      replace hb2x := hb2x.mono hs56.le
      replace hT := hT.then hs56
      have hz56 := hs56.size
      refine ⟨(by repeat' first | exact trivial | exact BlkR.cell (hs56.sat _ _ _ hb1) rfl | exact BlkR.cells (hs56.sat _ _ _ hb1) rfl | exact BlkR.cell (hs56.sat _ _ _ hb2) rfl | exact BlkR.cells (hs56.sat _ _ _ hb2) rfl | exact Blk.cell ho9.1 rfl | exact Blk.cells ho9.1 rfl | exact Blk.cell ho11.1 rfl | exact Blk.cells ho11.1 rfl | assumption | refine all_keep ?_ | refine And.intro ?_ ?_), ?_⟩
      first | refine at_gskip (i := 10) (li := #[true, true, true, true, true, true, true, true, true, true, true, false, false, false, false, false, false, false, false, false, false]) rfl (by kernel_rfl) rfl rfl rfl rfl rfl (by kernel_rfl) ?_ | refine at_gskipU (i := 10) (li := #[true, true, true, true, true, true, true, true, true, true, true, false, false, false, false, false, false, false, false, false, false]) rfl (by kernel_rfl) rfl rfl rfl rfl (by kernel_rfl) ?_ | refine at_gp (i := 10) (li := #[true, true, true, true, true, true, true, true, true, true, true, false, false, false, false, false, false, false, false, false, false]) rfl (by kernel_rfl) rfl rfl rfl rfl (fun _ => (q_not rfl)) (by kernel_rfl) ?_
      first | refine at_q (i := 11) (li := #[true, true, true, true, true, true, true, true, true, true, true, true, false, false, false, false, false, false, false, false, false]) rfl (by kernel_rfl) rfl (fun _ => (q_pick_t rfl rfl)) (by kernel_rfl) ?_ | refine at_q (i := 11) (li := #[true, true, true, true, true, true, true, true, true, true, true, true, false, false, false, false, false, false, false, false, false]) rfl (by kernel_rfl) rfl (fun _ => (q_pick_f rfl rfl)) (by kernel_rfl) ?_ | refine at_q (i := 11) (li := #[true, true, true, true, true, true, true, true, true, true, true, true, false, false, false, false, false, false, false, false, false]) rfl (by kernel_rfl) rfl (fun _ => (q_pick rfl rfl rfl)) (by kernel_rfl) ?_
      refine at_q (i := 12) (li := #[true, true, true, true, true, true, true, true, true, true, true, true, true, false, false, false, false, false, false, false, false]) rfl (by kernel_rfl) rfl (fun _ => (q_move rfl)) (by kernel_rfl) ?_
      first | refine at_gskip (i := 13) (li := #[true, true, true, true, true, true, true, true, true, true, true, true, true, true, false, false, false, false, false, false, false]) rfl (by kernel_rfl) rfl rfl rfl rfl rfl (by kernel_rfl) ?_ | refine at_gskipU (i := 13) (li := #[true, true, true, true, true, true, true, true, true, true, true, true, true, true, false, false, false, false, false, false, false]) rfl (by kernel_rfl) rfl rfl rfl rfl (by kernel_rfl) ?_ | refine at_gp (i := 13) (li := #[true, true, true, true, true, true, true, true, true, true, true, true, true, true, false, false, false, false, false, false, false]) rfl (by kernel_rfl) rfl rfl rfl rfl (fun _ => (q_fieldAddr (off := 1) (by kernel_rfl) rfl)) (by kernel_rfl) ?_
      first | refine at_gskip (i := 14) (li := #[true, true, true, true, true, true, true, true, true, true, true, true, true, true, true, false, false, false, false, false, false]) rfl (by kernel_rfl) rfl rfl rfl rfl rfl (by kernel_rfl) ?_ | refine at_gskipU (i := 14) (li := #[true, true, true, true, true, true, true, true, true, true, true, true, true, true, true, false, false, false, false, false, false]) rfl (by kernel_rfl) rfl rfl rfl rfl (by kernel_rfl) ?_ | refine at_gq (i := 14) (li := #[true, true, true, true, true, true, true, true, true, true, true, true, true, true, true, false, false, false, false, false, false]) (cellIs _ _ _) rfl (by kernel_rfl) rfl rfl rfl rfl (fun _ h => q_load1 (by kernel_rfl) rfl h) (by first | exact BlkR.cell (hs56.sat _ _ _ hb1) rfl | exact BlkR.cell (hs56.sat _ _ _ hb2) rfl | exact Blk.cell ho9.1 rfl | exact Blk.cell ho11.1 rfl | assumption) (by kernel_rfl) ?_
      first | refine at_gskip (i := 15) (li := #[true, true, true, true, true, true, true, true, true, true, true, true, true, true, true, true, false, false, false, false, false]) rfl (by kernel_rfl) rfl rfl rfl rfl rfl (by kernel_rfl) ?_ | refine at_gskipU (i := 15) (li := #[true, true, true, true, true, true, true, true, true, true, true, true, true, true, true, true, false, false, false, false, false]) rfl (by kernel_rfl) rfl rfl rfl rfl (by kernel_rfl) ?_ | refine at_gp (i := 15) (li := #[true, true, true, true, true, true, true, true, true, true, true, true, true, true, true, true, false, false, false, false, false]) rfl (by kernel_rfl) rfl rfl rfl rfl (fun _ => (q_len (by kernel_rfl) rfl _)) (by kernel_rfl) ?_
      first | refine at_gskip (i := 16) (li := #[true, true, true, true, true, true, true, true, true, true, true, true, true, true, true, true, true, false, false, false, false]) rfl (by kernel_rfl) rfl rfl rfl rfl rfl (by kernel_rfl) ?_ | refine at_gskipU (i := 16) (li := #[true, true, true, true, true, true, true, true, true, true, true, true, true, true, true, true, true, false, false, false, false]) rfl (by kernel_rfl) rfl rfl rfl rfl (by kernel_rfl) ?_ | refine at_gp (i := 16) (li := #[true, true, true, true, true, true, true, true, true, true, true, true, true, true, true, true, true, false, false, false, false]) rfl (by kernel_rfl) rfl rfl rfl rfl (fun _ => (q_fieldAddr (off := 1) (by kernel_rfl) rfl)) (by kernel_rfl) ?_
      first | refine at_gskip (i := 17) (li := #[true, true, true, true, true, true, true, true, true, true, true, true, true, true, true, true, true, true, false, false, false]) rfl (by kernel_rfl) rfl rfl rfl rfl rfl (by kernel_rfl) ?_ | refine at_gskipU (i := 17) (li := #[true, true, true, true, true, true, true, true, true, true, true, true, true, true, true, true, true, true, false, false, false]) rfl (by kernel_rfl) rfl rfl rfl rfl (by kernel_rfl) ?_ | refine at_gq (i := 17) (li := #[true, true, true, true, true, true, true, true, true, true, true, true, true, true, true, true, true, true, false, false, false]) (cellIs _ _ _) rfl (by kernel_rfl) rfl rfl rfl rfl (fun _ h => q_load1 (by kernel_rfl) rfl h) (by first | exact BlkR.cell (hs56.sat _ _ _ hb1) rfl | exact BlkR.cell (hs56.sat _ _ _ hb2) rfl | exact Blk.cell ho9.1 rfl | exact Blk.cell ho11.1 rfl | assumption) (by kernel_rfl) ?_
      first | refine at_gskip (i := 18) (li := #[true, true, true, true, true, true, true, true, true, true, true, true, true, true, true, true, true, true, true, false, false]) rfl (by kernel_rfl) rfl rfl rfl rfl rfl (by kernel_rfl) ?_ | refine at_gskipU (i := 18) (li := #[true, true, true, true, true, true, true, true, true, true, true, true, true, true, true, true, true, true, true, false, false]) rfl (by kernel_rfl) rfl rfl rfl rfl (by kernel_rfl) ?_ | refine at_gp (i := 18) (li := #[true, true, true, true, true, true, true, true, true, true, true, true, true, true, true, true, true, true, true, false, false]) rfl (by kernel_rfl) rfl rfl rfl rfl (fun _ => (q_len (by kernel_rfl) rfl _)) (by kernel_rfl) ?_
      first | refine at_gskip (i := 19) (li := #[true, true, true, true, true, true, true, true, true, true, true, true, true, true, true, true, true, true, true, true, false]) rfl (by kernel_rfl) rfl rfl rfl rfl rfl (by kernel_rfl) ?_ | refine at_gskipU (i := 19) (li := #[true, true, true, true, true, true, true, true, true, true, true, true, true, true, true, true, true, true, true, true, false]) rfl (by kernel_rfl) rfl rfl rfl rfl (by kernel_rfl) ?_ | refine at_gp (i := 19) (li := #[true, true, true, true, true, true, true, true, true, true, true, true, true, true, true, true, true, true, true, true, false]) rfl (by kernel_rfl) rfl rfl rfl rfl (fun _ => (q_neT rfl rfl (by omega))) (by kernel_rfl) ?_ | refine at_gp (i := 19) (li := #[true, true, true, true, true, true, true, true, true, true, true, true, true, true, true, true, true, true, true, true, false]) rfl (by kernel_rfl) rfl rfl rfl rfl (fun _ => (q_neF rfl rfl (by omega))) (by kernel_rfl) ?_ | refine at_gp (i := 19) (li := #[true, true, true, true, true, true, true, true, true, true, true, true, true, true, true, true, true, true, true, true, false]) rfl (by kernel_rfl) rfl rfl rfl rfl (fun _ => (q_ne rfl rfl)) (by kernel_rfl) ?_
      first | refine at_q (i := 20) (li := #[true, true, true, true, true, true, true, true, true, true, true, true, true, true, true, true, true, true, true, true, true]) rfl (by kernel_rfl) rfl (fun _ => (q_pick_t rfl rfl)) (by kernel_rfl) ?_ | refine at_q (i := 20) (li := #[true, true, true, true, true, true, true, true, true, true, true, true, true, true, true, true, true, true, true, true, true]) rfl (by kernel_rfl) rfl (fun _ => (q_pick_f rfl rfl)) (by kernel_rfl) ?_ | refine at_q (i := 20) (li := #[true, true, true, true, true, true, true, true, true, true, true, true, true, true, true, true, true, true, true, true, true]) rfl (by kernel_rfl) rfl (fun _ => (q_pick rfl rfl rfl)) (by kernel_rfl) ?_
      refine at_done (by kernel_rfl) (hK34 _ _ ?_)
      clear hK34 K34
      refine cw_false rfl ?_
      refine cw_skip ?_
      refine hK33 _ _ ?_
      clear hK33 K33
      refine cw_rd (by kernel_rfl) (by kernel_rfl) (by kernel_rfl) rfl rfl fun K35 hK35 => ?_
      -- region 17
      have hs57 := Step.drew hs56.sat
      have hz57 := hs57.size
      replace hb1 := hs57.le _ _ hb1
      replace hb2 := hs57.le _ _ hb2
      replace hv := hv.mono hs57.le
      replace hr := hr.mono hs57.le
      replace ha := ha.mono hs57.le
      replace hov1 := hov1.mono hs57.le
      replace ho9 := ho9.then hs57
      replace hov2 := hov2.mono hs57.le
      replace ho11 := ho11.then hs57
      replace hpl1 := hpl1.mono hs57.le
      replace hb1x := hb1x.mono hs57.le
      replace hb2x := hb2x.mono hs57.le
      replace hT := hT.then hs57
      refine at_l (i := 0) (li := #[true, false, false, false, false, false, false, false, false, false, false, false, false, false, false, false, false, false, false, false, false, false, false, false, false, false, false, false, false, false]) (cellsAre _ _ 2 _) rfl (by kernel_rfl) rfl (fun _ h => q_loadc (n := 2) (by kernel_rfl) rfl h) (by first | exact BlkR.cells (hs57.sat _ _ _ hb1) rfl | exact BlkR.cells (hs57.sat _ _ _ hb2) rfl | exact Blk.cells ho9.1 rfl | exact Blk.cells ho11.1 rfl | assumption) (by kernel_rfl) ?_
      refine at_l (i := 2) (li := #[true, false, true, false, false, false, false, false, false, false, false, false, false, false, false, false, false, false, false, false, false, false, false, false, false, false, false, false, false, false]) (cellsAre _ _ 2 _) rfl (by kernel_rfl) rfl (fun _ h => q_loadc (n := 2) (by kernel_rfl) rfl h) (by first | exact BlkR.cells (hs57.sat _ _ _ hb1) rfl | exact BlkR.cells (hs57.sat _ _ _ hb2) rfl | exact Blk.cells ho9.1 rfl | exact Blk.cells ho11.1 rfl | assumption) (by kernel_rfl) ?_
      refine at_h (i := 1) (li := #[true, true, true, false, false, false, false, false, false, false, false, false, false, false, false, false, false, false, false, false, false, false, false, false, false, false, false, false, false, false]) rfl (by kernel_rfl) rfl (keep_sift (bs := [false, true]) (by kernel_rfl)) (by kernel_rfl) (h_call (by kernel_rfl) rfl ?_)
      refine (build18 (ts := ts) hs57.sat hr ha (by omega)).frozen.mono ?_
      rintro v58 w58 ⟨M58, hs58, hbs⟩
      replace hb1 := hs58.le _ _ hb1
      replace hb2 := hs58.le _ _ hb2
      replace hv := hv.mono hs58.le
      replace hr := hr.mono hs58.le
      replace ha := ha.mono hs58.le
      replace hov1 := hov1.mono hs58.le
      replace ho9 := ho9.then hs58
      replace hov2 := hov2.mono hs58.le
      replace ho11 := ho11.then hs58
      replace hpl1 := hpl1.mono hs58.le
      replace hb1x := hb1x.mono hs58.le
      replace hb2x := hb2x.mono hs58.le
      replace hT := hT.then hs58
      have hz58 := hs58.size
      refine ⟨(by repeat' first | exact trivial | exact BlkR.cell (hs58.sat _ _ _ hb1) rfl | exact BlkR.cells (hs58.sat _ _ _ hb1) rfl | exact BlkR.cell (hs58.sat _ _ _ hb2) rfl | exact BlkR.cells (hs58.sat _ _ _ hb2) rfl | exact Blk.cell ho9.1 rfl | exact Blk.cells ho9.1 rfl | exact Blk.cell ho11.1 rfl | exact Blk.cells ho11.1 rfl | assumption | refine all_keep ?_ | refine And.intro ?_ ?_), ?_⟩
      refine at_h (i := 3) (li := #[true, true, true, true, false, false, false, false, false, false, false, false, false, false, false, false, false, false, false, false, false, false, false, false, false, false, false, false, false, false]) rfl (by kernel_rfl) rfl (keep_sift (bs := [true]) (by kernel_rfl)) (by kernel_rfl) (h_call (by kernel_rfl) rfl ?_)
      refine (plain18 (ts := ts) hs58.sat hr ha (by omega)).mono ?_
      rintro _ w59 ⟨pv59, rfl, M59, hs59, hpl2⟩
      obtain ⟨pa59, pc59, rfl, _⟩ := hpl2.slice
      replace hb1 := hs59.le _ _ hb1
      replace hb2 := hs59.le _ _ hb2
      replace hv := hv.mono hs59.le
      replace hr := hr.mono hs59.le
      replace ha := ha.mono hs59.le
      replace hov1 := hov1.mono hs59.le
      replace ho9 := ho9.then hs59
      replace hov2 := hov2.mono hs59.le
      replace ho11 := ho11.then hs59
      replace hpl1 := hpl1.mono hs59.le
      replace hb1x := hb1x.mono hs59.le
      replace hb2x := hb2x.mono hs59.le
      replace hbs := hbs.mono hs59.le
      replace hT := hT.then hs59
      have hz59 := hs59.size
      refine ⟨(by repeat' first | exact trivial | exact BlkR.cell (hs59.sat _ _ _ hb1) rfl | exact BlkR.cells (hs59.sat _ _ _ hb1) rfl | exact BlkR.cell (hs59.sat _ _ _ hb2) rfl | exact BlkR.cells (hs59.sat _ _ _ hb2) rfl | exact Blk.cell ho9.1 rfl | exact Blk.cells ho9.1 rfl | exact Blk.cell ho11.1 rfl | exact Blk.cells ho11.1 rfl | assumption | refine all_keep ?_ | refine And.intro ?_ ?_), ?_⟩
      refine at_h (i := 4) (li := #[true, true, true, true, true, false, false, false, false, false, false, false, false, false, false, false, false, false, false, false, false, false, false, false, false, false, false, false, false, false]) rfl (by kernel_rfl) rfl rfl (by kernel_rfl) (h_call (by kernel_rfl) rfl ?_)
      refine (rbuild18 (ts := ts) hs59.sat hpl2 ha (by omega)).mono ?_
      rintro v60 w60 ⟨M60, hs60, hb3x⟩
      replace hb1 := hs60.le _ _ hb1
      replace hb2 := hs60.le _ _ hb2
      replace hv := hv.mono hs60.le
      replace hr := hr.mono hs60.le
      replace ha := ha.mono hs60.le
      replace hov1 := hov1.mono hs60.le
      replace ho9 := ho9.then hs60
      replace hov2 := hov2.mono hs60.le
      replace ho11 := ho11.then hs60
      replace hpl1 := hpl1.mono hs60.le
      replace hb1x := hb1x.mono hs60.le
      replace hb2x := hb2x.mono hs60.le
      replace hbs := hbs.mono hs60.le
      replace hpl2 := hpl2.mono hs60.le
      replace hT := hT.then hs60
      have hz60 := hs60.size
      refine ⟨(by repeat' first | exact trivial | exact BlkR.cell (hs60.sat _ _ _ hb1) rfl | exact BlkR.cells (hs60.sat _ _ _ hb1) rfl | exact BlkR.cell (hs60.sat _ _ _ hb2) rfl | exact BlkR.cells (hs60.sat _ _ _ hb2) rfl | exact Blk.cell ho9.1 rfl | exact Blk.cells ho9.1 rfl | exact Blk.cell ho11.1 rfl | exact Blk.cells ho11.1 rfl | assumption | refine all_keep ?_ | refine And.intro ?_ ?_), ?_⟩
      refine at_h (i := 5) (li := #[true, true, true, true, true, true, false, false, false, false, false, false, false, false, false, false, false, false, false, false, false, false, false, false, false, false, false, false, false, false]) rfl (by kernel_rfl) rfl rfl (by kernel_rfl) (h_call (by kernel_rfl) rfl ?_)
      refine (same18 hs60.sat (by omega) hbs hb3x).mono ?_
      rintro v61 w61 ⟨hv61, hs61⟩
      obtain rfl : v61 = .bool true := hv61.trans (congrArg Value.bool (decide_eq_true rfl))
      replace hb1 := hs61.le _ _ hb1
      replace hb2 := hs61.le _ _ hb2
      replace hv := hv.mono hs61.le
      replace hr := hr.mono hs61.le
      replace ha := ha.mono hs61.le
      replace hov1 := hov1.mono hs61.le
      replace ho9 := ho9.then hs61
      replace hov2 := hov2.mono hs61.le
      replace ho11 := ho11.then hs61
      replace hpl1 := hpl1.mono hs61.le
      replace hb1x := hb1x.mono hs61.le
      replace hb2x := hb2x.mono hs61.le
      replace hbs := hbs.mono hs61.le
      replace hpl2 := hpl2.mono hs61.le
      replace hb3x := hb3x.mono hs61.le
      replace hT := hT.then hs61
      have hz61 := hs61.size
      refine ⟨(by repeat' first | exact trivial | exact BlkR.cell (hs61.sat _ _ _ hb1) rfl | exact BlkR.cells (hs61.sat _ _ _ hb1) rfl | exact BlkR.cell (hs61.sat _ _ _ hb2) rfl | exact BlkR.cells (hs61.sat _ _ _ hb2) rfl | exact Blk.cell ho9.1 rfl | exact Blk.cells ho9.1 rfl | exact Blk.cell ho11.1 rfl | exact Blk.cells ho11.1 rfl | assumption | refine all_keep ?_ | refine And.intro ?_ ?_), ?_⟩
      refine at_q (i := 6) (li := #[true, true, true, true, true, true, true, false, false, false, false, false, false, false, false, false, false, false, false, false, false, false, false, false, false, false, false, false, false, false]) rfl (by kernel_rfl) rfl (fun _ => (q_move rfl)) (by kernel_rfl) ?_
      first | refine at_gskip (i := 7) (li := #[true, true, true, true, true, true, true, true, false, false, false, false, false, false, false, false, false, false, false, false, false, false, false, false, false, false, false, false, false, false]) rfl (by kernel_rfl) rfl rfl rfl rfl rfl (by kernel_rfl) ?_ | refine at_gskipU (i := 7) (li := #[true, true, true, true, true, true, true, true, false, false, false, false, false, false, false, false, false, false, false, false, false, false, false, false, false, false, false, false, false, false]) rfl (by kernel_rfl) rfl rfl rfl rfl (by kernel_rfl) ?_ | refine at_gp (i := 7) (li := #[true, true, true, true, true, true, true, true, false, false, false, false, false, false, false, false, false, false, false, false, false, false, false, false, false, false, false, false, false, false]) rfl (by kernel_rfl) rfl rfl rfl rfl (fun _ => (q_move rfl)) (by kernel_rfl) ?_
      first | refine at_gskip (i := 8) (li := #[true, true, true, true, true, true, true, true, true, false, false, false, false, false, false, false, false, false, false, false, false, false, false, false, false, false, false, false, false, false]) rfl (by kernel_rfl) rfl rfl rfl rfl rfl (by kernel_rfl) ?_ | refine at_gskipU (i := 8) (li := #[true, true, true, true, true, true, true, true, true, false, false, false, false, false, false, false, false, false, false, false, false, false, false, false, false, false, false, false, false, false]) rfl (by kernel_rfl) rfl rfl rfl rfl (by kernel_rfl) ?_ | refine at_gp (i := 8) (li := #[true, true, true, true, true, true, true, true, true, false, false, false, false, false, false, false, false, false, false, false, false, false, false, false, false, false, false, false, false, false]) rfl (by kernel_rfl) rfl rfl rfl rfl (fun _ => (q_move rfl)) (by kernel_rfl) ?_
      first | refine at_gskip (i := 9) (li := #[true, true, true, true, true, true, true, true, true, true, false, false, false, false, false, false, false, false, false, false, false, false, false, false, false, false, false, false, false, false]) rfl (by kernel_rfl) rfl rfl rfl rfl rfl (by kernel_rfl) ?_ | refine at_gskipU (i := 9) (li := #[true, true, true, true, true, true, true, true, true, true, false, false, false, false, false, false, false, false, false, false, false, false, false, false, false, false, false, false, false, false]) rfl (by kernel_rfl) rfl rfl rfl rfl (by kernel_rfl) ?_ | refine at_gp (i := 9) (li := #[true, true, true, true, true, true, true, true, true, true, false, false, false, false, false, false, false, false, false, false, false, false, false, false, false, false, false, false, false, false]) rfl (by kernel_rfl) rfl rfl rfl rfl (fun _ => (q_geT rfl rfl (by omega))) (by kernel_rfl) ?_ | refine at_gp (i := 9) (li := #[true, true, true, true, true, true, true, true, true, true, false, false, false, false, false, false, false, false, false, false, false, false, false, false, false, false, false, false, false, false]) rfl (by kernel_rfl) rfl rfl rfl rfl (fun _ => (q_geF rfl rfl (by omega))) (by kernel_rfl) ?_ | refine at_gp (i := 9) (li := #[true, true, true, true, true, true, true, true, true, true, false, false, false, false, false, false, false, false, false, false, false, false, false, false, false, false, false, false, false, false]) rfl (by kernel_rfl) rfl rfl rfl rfl (fun _ => (q_ge rfl rfl)) (by kernel_rfl) ?_
      first | refine at_gskip (i := 10) (li := #[true, true, true, true, true, true, true, true, true, true, true, false, false, false, false, false, false, false, false, false, false, false, false, false, false, false, false, false, false, false]) rfl (by kernel_rfl) rfl rfl rfl rfl rfl (by kernel_rfl) ?_ | refine at_gskipU (i := 10) (li := #[true, true, true, true, true, true, true, true, true, true, true, false, false, false, false, false, false, false, false, false, false, false, false, false, false, false, false, false, false, false]) rfl (by kernel_rfl) rfl rfl rfl rfl (by kernel_rfl) ?_ | refine at_gp (i := 10) (li := #[true, true, true, true, true, true, true, true, true, true, true, false, false, false, false, false, false, false, false, false, false, false, false, false, false, false, false, false, false, false]) rfl (by kernel_rfl) rfl rfl rfl rfl (fun _ => (q_eqb (by kernel_rfl) rfl rfl)) (by kernel_rfl) ?_
      first | refine at_q (i := 11) (li := #[true, true, true, true, true, true, true, true, true, true, true, true, false, false, false, false, false, false, false, false, false, false, false, false, false, false, false, false, false, false]) rfl (by kernel_rfl) rfl (fun _ => (q_pick_t rfl rfl)) (by kernel_rfl) ?_ | refine at_q (i := 11) (li := #[true, true, true, true, true, true, true, true, true, true, true, true, false, false, false, false, false, false, false, false, false, false, false, false, false, false, false, false, false, false]) rfl (by kernel_rfl) rfl (fun _ => (q_pick_f rfl rfl)) (by kernel_rfl) ?_ | refine at_q (i := 11) (li := #[true, true, true, true, true, true, true, true, true, true, true, true, false, false, false, false, false, false, false, false, false, false, false, false, false, false, false, false, false, false]) rfl (by kernel_rfl) rfl (fun _ => (q_pick rfl rfl rfl)) (by kernel_rfl) ?_
      refine at_q (i := 12) (li := #[true, true, true, true, true, true, true, true, true, true, true, true, true, false, false, false, false, false, false, false, false, false, false, false, false, false, false, false, false, false]) rfl (by kernel_rfl) rfl (fun _ => (q_move rfl)) (by kernel_rfl) ?_
      first | refine at_gskip (i := 13) (li := #[true, true, true, true, true, true, true, true, true, true, true, true, true, true, false, false, false, false, false, false, false, false, false, false, false, false, false, false, false, false]) rfl (by kernel_rfl) rfl rfl rfl rfl rfl (by kernel_rfl) ?_ | refine at_gskipU (i := 13) (li := #[true, true, true, true, true, true, true, true, true, true, true, true, true, true, false, false, false, false, false, false, false, false, false, false, false, false, false, false, false, false]) rfl (by kernel_rfl) rfl rfl rfl rfl (by kernel_rfl) ?_ | refine at_gp (i := 13) (li := #[true, true, true, true, true, true, true, true, true, true, true, true, true, true, false, false, false, false, false, false, false, false, false, false, false, false, false, false, false, false]) rfl (by kernel_rfl) rfl rfl rfl rfl (fun _ => (q_move rfl)) (by kernel_rfl) ?_
      first | refine at_gskip (i := 14) (li := #[true, true, true, true, true, true, true, true, true, true, true, true, true, true, true, false, false, false, false, false, false, false, false, false, false, false, false, false, false, false]) rfl (by kernel_rfl) rfl rfl rfl rfl rfl (by kernel_rfl) ?_ | refine at_gskipU (i := 14) (li := #[true, true, true, true, true, true, true, true, true, true, true, true, true, true, true, false, false, false, false, false, false, false, false, false, false, false, false, false, false, false]) rfl (by kernel_rfl) rfl rfl rfl rfl (by kernel_rfl) ?_ | refine at_gp (i := 14) (li := #[true, true, true, true, true, true, true, true, true, true, true, true, true, true, true, false, false, false, false, false, false, false, false, false, false, false, false, false, false, false]) rfl (by kernel_rfl) rfl rfl rfl rfl (fun _ => (q_move rfl)) (by kernel_rfl) ?_
      first | refine at_gskip (i := 15) (li := #[true, true, true, true, true, true, true, true, true, true, true, true, true, true, true, true, false, false, false, false, false, false, false, false, false, false, false, false, false, false]) rfl (by kernel_rfl) rfl rfl rfl rfl rfl (by kernel_rfl) ?_ | refine at_gskipU (i := 15) (li := #[true, true, true, true, true, true, true, true, true, true, true, true, true, true, true, true, false, false, false, false, false, false, false, false, false, false, false, false, false, false]) rfl (by kernel_rfl) rfl rfl rfl rfl (by kernel_rfl) ?_ | refine at_gp (i := 15) (li := #[true, true, true, true, true, true, true, true, true, true, true, true, true, true, true, true, false, false, false, false, false, false, false, false, false, false, false, false, false, false]) rfl (by kernel_rfl) rfl rfl rfl rfl (fun _ => (q_congr (q_max2 rfl rfl) (v' := .int .i64 (argsOf c)) (by first | rw [if_neg (by omega)] | rw [if_pos (by omega)] | rfl))) (by kernel_rfl) ?_
      first | refine at_gskip (i := 16) (li := #[true, true, true, true, true, true, true, true, true, true, true, true, true, true, true, true, true, false, false, false, false, false, false, false, false, false, false, false, false, false]) rfl (by kernel_rfl) rfl rfl rfl rfl rfl (by kernel_rfl) ?_ | refine at_gskipU (i := 16) (li := #[true, true, true, true, true, true, true, true, true, true, true, true, true, true, true, true, true, false, false, false, false, false, false, false, false, false, false, false, false, false]) rfl (by kernel_rfl) rfl rfl rfl rfl (by kernel_rfl) ?_ | refine at_gp (i := 16) (li := #[true, true, true, true, true, true, true, true, true, true, true, true, true, true, true, true, true, false, false, false, false, false, false, false, false, false, false, false, false, false]) rfl (by kernel_rfl) rfl rfl rfl rfl (fun _ => (q_eqT rfl rfl (by omega))) (by kernel_rfl) ?_ | refine at_gp (i := 16) (li := #[true, true, true, true, true, true, true, true, true, true, true, true, true, true, true, true, true, false, false, false, false, false, false, false, false, false, false, false, false, false]) rfl (by kernel_rfl) rfl rfl rfl rfl (fun _ => (q_eqF rfl rfl (by omega))) (by kernel_rfl) ?_ | refine at_gp (i := 16) (li := #[true, true, true, true, true, true, true, true, true, true, true, true, true, true, true, true, true, false, false, false, false, false, false, false, false, false, false, false, false, false]) rfl (by kernel_rfl) rfl rfl rfl rfl (fun _ => (q_eq rfl rfl)) (by kernel_rfl) ?_
      first | refine at_q (i := 17) (li := #[true, true, true, true, true, true, true, true, true, true, true, true, true, true, true, true, true, true, false, false, false, false, false, false, false, false, false, false, false, false]) rfl (by kernel_rfl) rfl (fun _ => (q_pick_t rfl rfl)) (by kernel_rfl) ?_ | refine at_q (i := 17) (li := #[true, true, true, true, true, true, true, true, true, true, true, true, true, true, true, true, true, true, false, false, false, false, false, false, false, false, false, false, false, false]) rfl (by kernel_rfl) rfl (fun _ => (q_pick_f rfl rfl)) (by kernel_rfl) ?_ | refine at_q (i := 17) (li := #[true, true, true, true, true, true, true, true, true, true, true, true, true, true, true, true, true, true, false, false, false, false, false, false, false, false, false, false, false, false]) rfl (by kernel_rfl) rfl (fun _ => (q_pick rfl rfl rfl)) (by kernel_rfl) ?_
      refine at_q (i := 18) (li := #[true, true, true, true, true, true, true, true, true, true, true, true, true, true, true, true, true, true, true, false, false, false, false, false, false, false, false, false, false, false]) rfl (by kernel_rfl) rfl (fun _ => (q_move rfl)) (by kernel_rfl) ?_
      first | refine at_gskip (i := 19) (li := #[true, true, true, true, true, true, true, true, true, true, true, true, true, true, true, true, true, true, true, true, false, false, false, false, false, false, false, false, false, false]) rfl (by kernel_rfl) rfl rfl rfl rfl rfl (by kernel_rfl) ?_ | refine at_gskipU (i := 19) (li := #[true, true, true, true, true, true, true, true, true, true, true, true, true, true, true, true, true, true, true, true, false, false, false, false, false, false, false, false, false, false]) rfl (by kernel_rfl) rfl rfl rfl rfl (by kernel_rfl) ?_ | refine at_gq (i := 19) (li := #[true, true, true, true, true, true, true, true, true, true, true, true, true, true, true, true, true, true, true, true, false, false, false, false, false, false, false, false, false, false]) (cellsAre _ _ 2 _) rfl (by kernel_rfl) rfl rfl rfl rfl (fun _ h => q_loadc (n := 2) (by kernel_rfl) rfl h) (by first | exact BlkR.cells (hs61.sat _ _ _ hb1) rfl | exact BlkR.cells (hs61.sat _ _ _ hb2) rfl | exact Blk.cells ho9.1 rfl | exact Blk.cells ho11.1 rfl | assumption) (by kernel_rfl) ?_
      first | refine at_gskip (i := 21) (li := #[true, true, true, true, true, true, true, true, true, true, true, true, true, true, true, true, true, true, true, true, false, true, false, false, false, false, false, false, false, false]) rfl (by kernel_rfl) rfl rfl rfl rfl rfl (by kernel_rfl) ?_ | refine at_gskipU (i := 21) (li := #[true, true, true, true, true, true, true, true, true, true, true, true, true, true, true, true, true, true, true, true, false, true, false, false, false, false, false, false, false, false]) rfl (by kernel_rfl) rfl rfl rfl rfl (by kernel_rfl) ?_ | refine at_gp (i := 21) (li := #[true, true, true, true, true, true, true, true, true, true, true, true, true, true, true, true, true, true, true, true, false, true, false, false, false, false, false, false, false, false]) rfl (by kernel_rfl) rfl rfl rfl rfl (fun _ => (q_fieldAddr (off := 0) (by kernel_rfl) rfl)) (by kernel_rfl) ?_
      first | refine at_gskip (i := 22) (li := #[true, true, true, true, true, true, true, true, true, true, true, true, true, true, true, true, true, true, true, true, false, true, true, false, false, false, false, false, false, false]) rfl (by kernel_rfl) rfl rfl rfl rfl rfl (by kernel_rfl) ?_ | refine at_gskipU (i := 22) (li := #[true, true, true, true, true, true, true, true, true, true, true, true, true, true, true, true, true, true, true, true, false, true, true, false, false, false, false, false, false, false]) rfl (by kernel_rfl) rfl rfl rfl rfl (by kernel_rfl) ?_ | refine at_gq (i := 22) (li := #[true, true, true, true, true, true, true, true, true, true, true, true, true, true, true, true, true, true, true, true, false, true, true, false, false, false, false, false, false, false]) (cellIs _ _ _) rfl (by kernel_rfl) rfl rfl rfl rfl (fun _ h => q_load1 (by kernel_rfl) rfl h) (by first | exact BlkR.cell (hs61.sat _ _ _ hb1) rfl | exact BlkR.cell (hs61.sat _ _ _ hb2) rfl | exact Blk.cell ho9.1 rfl | exact Blk.cell ho11.1 rfl | assumption) (by kernel_rfl) ?_
      first | refine at_gskip (i := 23) (li := #[true, true, true, true, true, true, true, true, true, true, true, true, true, true, true, true, true, true, true, true, false, true, true, true, false, false, false, false, false, false]) rfl (by kernel_rfl) rfl rfl rfl rfl rfl (by kernel_rfl) ?_ | refine at_gskipU (i := 23) (li := #[true, true, true, true, true, true, true, true, true, true, true, true, true, true, true, true, true, true, true, true, false, true, true, true, false, false, false, false, false, false]) rfl (by kernel_rfl) rfl rfl rfl rfl (by kernel_rfl) ?_ | refine at_gp (i := 23) (li := #[true, true, true, true, true, true, true, true, true, true, true, true, true, true, true, true, true, true, true, true, false, true, true, true, false, false, false, false, false, false]) rfl (by kernel_rfl) rfl rfl rfl rfl (fun _ => (q_fieldAddr (off := 1) (by kernel_rfl) rfl)) (by kernel_rfl) ?_
      first | refine at_gskip (i := 24) (li := #[true, true, true, true, true, true, true, true, true, true, true, true, true, true, true, true, true, true, true, true, false, true, true, true, true, false, false, false, false, false]) rfl (by kernel_rfl) rfl rfl rfl rfl rfl (by kernel_rfl) ?_ | refine at_gskipU (i := 24) (li := #[true, true, true, true, true, true, true, true, true, true, true, true, true, true, true, true, true, true, true, true, false, true, true, true, true, false, false, false, false, false]) rfl (by kernel_rfl) rfl rfl rfl rfl (by kernel_rfl) ?_ | refine at_gq (i := 24) (li := #[true, true, true, true, true, true, true, true, true, true, true, true, true, true, true, true, true, true, true, true, false, true, true, true, true, false, false, false, false, false]) (cellIs _ _ _) rfl (by kernel_rfl) rfl rfl rfl rfl (fun _ h => q_load1 (by kernel_rfl) rfl h) (by first | exact BlkR.cell (hs61.sat _ _ _ hb1) rfl | exact BlkR.cell (hs61.sat _ _ _ hb2) rfl | exact Blk.cell ho9.1 rfl | exact Blk.cell ho11.1 rfl | assumption) (by kernel_rfl) ?_
      first | refine at_gskip (i := 25) (li := #[true, true, true, true, true, true, true, true, true, true, true, true, true, true, true, true, true, true, true, true, false, true, true, true, true, true, false, false, false, false]) rfl (by kernel_rfl) rfl rfl rfl rfl rfl (by kernel_rfl) ?_ | refine at_gskipU (i := 25) (li := #[true, true, true, true, true, true, true, true, true, true, true, true, true, true, true, true, true, true, true, true, false, true, true, true, true, true, false, false, false, false]) rfl (by kernel_rfl) rfl rfl rfl rfl (by kernel_rfl) ?_ | refine at_gp (i := 25) (li := #[true, true, true, true, true, true, true, true, true, true, true, true, true, true, true, true, true, true, true, true, false, true, true, true, true, true, false, false, false, false]) rfl (by kernel_rfl) rfl rfl rfl rfl (fun _ => (q_build (zs := [(.int .i64 0), (.slice none 0 0)]) (places := [(0, 1), (1, 1)]) (cs := [_, _]) (by kernel_rfl) (by kernel_rfl) rfl rfl)) (by kernel_rfl) ?_
      refine at_gh (i := 20) (li := #[true, true, true, true, true, true, true, true, true, true, true, true, true, true, true, true, true, true, true, true, true, true, true, true, true, true, false, false, false, false]) rfl (by kernel_rfl) rfl rfl rfl rfl rfl (by kernel_rfl) (h_call (by kernel_rfl) rfl ?_)
      refine (right18 hs61.sat).mono ?_
      rintro _ w62 ⟨rfl, hs62⟩
      replace hb1 := hs62.le _ _ hb1
      replace hb2 := hs62.le _ _ hb2
      replace hv := hv.mono hs62.le
      replace hr := hr.mono hs62.le
      replace ha := ha.mono hs62.le
      replace hov1 := hov1.mono hs62.le
      replace ho9 := ho9.then hs62
      replace hov2 := hov2.mono hs62.le
      replace ho11 := ho11.then hs62
      replace hpl1 := hpl1.mono hs62.le
      replace hb1x := hb1x.mono hs62.le
      replace hb2x := hb2x.mono hs62.le
      replace hbs := hbs.mono hs62.le
      replace hpl2 := hpl2.mono hs62.le
      replace hb3x := hb3x.mono hs62.le
      replace hT := hT.then hs62
      have hz62 := hs62.size
      refine ⟨(by repeat' first | exact trivial | exact BlkR.cell (hs62.sat _ _ _ hb1) rfl | exact BlkR.cells (hs62.sat _ _ _ hb1) rfl | exact BlkR.cell (hs62.sat _ _ _ hb2) rfl | exact BlkR.cells (hs62.sat _ _ _ hb2) rfl | exact Blk.cell ho9.1 rfl | exact Blk.cells ho9.1 rfl | exact Blk.cell ho11.1 rfl | exact Blk.cells ho11.1 rfl | assumption | refine all_keep ?_ | refine And.intro ?_ ?_), ?_⟩
      refine at_gh (i := 26) (li := #[true, true, true, true, true, true, true, true, true, true, true, true, true, true, true, true, true, true, true, true, true, true, true, true, true, true, true, false, false, false]) rfl (by kernel_rfl) rfl rfl rfl rfl rfl (by kernel_rfl) (h_call (by kernel_rfl) rfl ?_)
      refine (rright18 hs62.sat).mono ?_
      rintro _ w63 ⟨rfl, hs63⟩
      replace hb1 := hs63.le _ _ hb1
      replace hb2 := hs63.le _ _ hb2
      replace hv := hv.mono hs63.le
      replace hr := hr.mono hs63.le
      replace ha := ha.mono hs63.le
      replace hov1 := hov1.mono hs63.le
      replace ho9 := ho9.then hs63
      replace hov2 := hov2.mono hs63.le
      replace ho11 := ho11.then hs63
      replace hpl1 := hpl1.mono hs63.le
      replace hb1x := hb1x.mono hs63.le
      replace hb2x := hb2x.mono hs63.le
      replace hbs := hbs.mono hs63.le
      replace hpl2 := hpl2.mono hs63.le
      replace hb3x := hb3x.mono hs63.le
      replace hT := hT.then hs63
      have hz63 := hs63.size
      refine ⟨(by repeat' first | exact trivial | exact BlkR.cell (hs63.sat _ _ _ hb1) rfl | exact BlkR.cells (hs63.sat _ _ _ hb1) rfl | exact BlkR.cell (hs63.sat _ _ _ hb2) rfl | exact BlkR.cells (hs63.sat _ _ _ hb2) rfl | exact Blk.cell ho9.1 rfl | exact Blk.cells ho9.1 rfl | exact Blk.cell ho11.1 rfl | exact Blk.cells ho11.1 rfl | assumption | refine all_keep ?_ | refine And.intro ?_ ?_), ?_⟩
      first | refine at_gskip (i := 27) (li := #[true, true, true, true, true, true, true, true, true, true, true, true, true, true, true, true, true, true, true, true, true, true, true, true, true, true, true, true, false, false]) rfl (by kernel_rfl) rfl rfl rfl rfl rfl (by kernel_rfl) ?_ | refine at_gskipU (i := 27) (li := #[true, true, true, true, true, true, true, true, true, true, true, true, true, true, true, true, true, true, true, true, true, true, true, true, true, true, true, true, false, false]) rfl (by kernel_rfl) rfl rfl rfl rfl (by kernel_rfl) ?_ | refine at_gp (i := 27) (li := #[true, true, true, true, true, true, true, true, true, true, true, true, true, true, true, true, true, true, true, true, true, true, true, true, true, true, true, true, false, false]) rfl (by kernel_rfl) rfl rfl rfl rfl (fun _ => (q_eqT rfl rfl (by omega))) (by kernel_rfl) ?_ | refine at_gp (i := 27) (li := #[true, true, true, true, true, true, true, true, true, true, true, true, true, true, true, true, true, true, true, true, true, true, true, true, true, true, true, true, false, false]) rfl (by kernel_rfl) rfl rfl rfl rfl (fun _ => (q_eqF rfl rfl (by omega))) (by kernel_rfl) ?_ | refine at_gp (i := 27) (li := #[true, true, true, true, true, true, true, true, true, true, true, true, true, true, true, true, true, true, true, true, true, true, true, true, true, true, true, true, false, false]) rfl (by kernel_rfl) rfl rfl rfl rfl (fun _ => (q_eq rfl rfl)) (by kernel_rfl) ?_
      first | refine at_q (i := 28) (li := #[true, true, true, true, true, true, true, true, true, true, true, true, true, true, true, true, true, true, true, true, true, true, true, true, true, true, true, true, true, false]) rfl (by kernel_rfl) rfl (fun _ => (q_pick_t rfl rfl)) (by kernel_rfl) ?_ | refine at_q (i := 28) (li := #[true, true, true, true, true, true, true, true, true, true, true, true, true, true, true, true, true, true, true, true, true, true, true, true, true, true, true, true, true, false]) rfl (by kernel_rfl) rfl (fun _ => (q_pick_f rfl rfl)) (by kernel_rfl) ?_ | refine at_q (i := 28) (li := #[true, true, true, true, true, true, true, true, true, true, true, true, true, true, true, true, true, true, true, true, true, true, true, true, true, true, true, true, true, false]) rfl (by kernel_rfl) rfl (fun _ => (q_pick rfl rfl rfl)) (by kernel_rfl) ?_
      refine at_q (i := 29) (li := #[true, true, true, true, true, true, true, true, true, true, true, true, true, true, true, true, true, true, true, true, true, true, true, true, true, true, true, true, true, true]) rfl (by kernel_rfl) rfl (fun _ => (q_assign rfl)) (by kernel_rfl) ?_
      refine at_done (by kernel_rfl) (hK35 _ _ ?_)
      clear hK35 K35
      refine cw_ret ?_
      exact ⟨_, (res_tmp rfl res_nil), rfl, hT.forget⟩

theorem opcodeTells_walk {w0 : World} {M0 : Mem} {v : Value} {n n2 oc c2 : Nat} {zs : List Int} {room c : Int} {oa a2 : Option Addr} {ts : List T3} (hs : Sat M0 w0) (hv : RdM M0 1 v n (i64s zs)) (hr : RdM M0 2 (.slice oa ts.length oc) ts.length (flat ts)) (ha : ArgsM M0 ts)  :
    Does Try.prog 7 #[v, .agg #[.int .i64 room, .slice oa ts.length oc], .agg #[.int .i64 c, .slice a2 n2 c2]] w0 (fun v w' => v = .bool true ∧ Step Nope M0 w0 M0 w') := by
  rcases Nat.lt_or_ge 1600 n with h1 | h1
  · exact tellsA hs hv hr ha h1
  rcases Nat.lt_or_ge 300 ts.length with h2 | h2
  · exact tellsB hs hv hr ha h1 h2
  rcases Nat.lt_or_ge 20 n2 with h3 | h3
  · exact tellsC hs hv hr ha h1 h2 h3
  cases hpz : parse zs with
  | error e => exact tells_err hs hv hr ha h1 h2 h3 hpz
  | ok x => exact tells_ok hs hv hr ha h1 h2 h3 (hpz : parse zs = .ok (x.1, x.2))

end Go.Proofs.Ytcnocefclcoiiaa
