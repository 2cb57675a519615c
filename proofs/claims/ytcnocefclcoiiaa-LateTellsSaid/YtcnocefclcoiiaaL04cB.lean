/- The laws of a row that is put in order when it is asked for, third part, part 2. -/
import Derived.Test.YtcnocefclcoiiaaL04cA
namespace Go.Proofs.Ytcnocefclcoiiaa
open Go Go.Eng
set_option maxHeartbeats 1000000 in
theorem lateTells_walk {w : World} {M : Mem} {u ua : Value} {n m : Nat} {xs : List El} {zs : List Int} (hs : Sat M w) (hr : RdM M 2 u n (els xs)) (ha : RdM M 1 ua m (zs.map (Value.int .i64))) :
    Does Try.prog 9 #[u, ua] w (fun v w' => v = .bool true ∧ Step Nope M w M w') := by
  have hT := Step.refl Nope hs
  have hzl : zs.length = m := by have := ha.1; rw [List.length_map] at this; omega
  obtain ⟨la, lc, rfl, hlc, _⟩ := hr.slice
  obtain ⟨aa, ac, rfl, hac, _⟩ := ha.slice
  refine fn_enter Try.func9 rfl (rs := [.tmp 4]) rfl rfl rfl rfl ?_
  refine cw_rs fun K1 hK1 => ?_
  -- region 0
  refine as_q rfl rfl (q_assign rfl) ?_
  refine as_nil (hK1 _ _ ?_)
  clear hK1 K1
  refine cw_rs fun K2 hK2 => ?_
  -- region 1
  refine as_h rfl (h_call (by kernel_rfl) rfl ?_)
  refine (awake04 hs).mono ?_
  rintro _ w1 ⟨rfl, hs1⟩
  replace hr := hr.mono hs1.le
  replace ha := ha.mono hs1.le
  replace hT := hT.then hs1
  refine as_q rfl rfl (q_assign rfl) ?_
  refine as_nil (hK2 _ _ ?_)
  clear hK2 K2
  refine cw_seq fun K3 hK3 => ?_
  refine cw_rs fun K4 hK4 => ?_
  -- region 2
  refine as_q rfl rfl (q_move rfl) ?_
  refine as_q rfl rfl (q_not rfl) ?_
  refine as_nil (hK4 _ _ ?_)
  clear hK4 K4
  refine cw_false rfl ?_
  refine cw_skip ?_
  refine hK3 _ _ ?_
  clear hK3 K3
  refine cw_seq fun K5 hK5 => ?_
  have h60 : 60 < n ∨ n ≤ 60 := by omega
  rcases h60 with h60 | h60
  · skip
    refine cw_rs fun K6 hK6 => ?_
    -- region 4
    refine as_q rfl rfl (q_move rfl) ?_
    refine as_q rfl rfl (q_len (by kernel_rfl) rfl _) ?_
    first | refine as_q rfl rfl (q_gtT rfl rfl (by omega)) ?_ | refine as_q rfl rfl (q_gtF rfl rfl (by omega)) ?_ | refine as_q rfl rfl (q_gt rfl rfl) ?_
    refine as_q rfl rfl (q_move rfl) ?_
    first | refine as_gskip rfl rfl rfl rfl rfl ?_ | refine as_gskipU rfl rfl rfl rfl ?_ | refine as_gh rfl rfl rfl rfl (h_q rfl (q_move rfl) ?_)
    first | refine as_gskip rfl rfl rfl rfl rfl ?_ | refine as_gskipU rfl rfl rfl rfl ?_ | refine as_gh rfl rfl rfl rfl (h_q rfl (q_len (by kernel_rfl) rfl _) ?_)
    first | refine as_gskip rfl rfl rfl rfl rfl ?_ | refine as_gskipU rfl rfl rfl rfl ?_ | refine as_gh rfl rfl rfl rfl (h_q rfl (q_gt rfl rfl) ?_)
    first | refine as_q rfl rfl (q_pick_t rfl rfl) ?_ | refine as_q rfl rfl (q_pick_f rfl rfl) ?_ | refine as_q rfl rfl (q_pick rfl rfl rfl) ?_
    refine as_nil (hK6 _ _ ?_)
    clear hK6 K6
    refine cw_true rfl ?_
    refine cw_rs fun K7 hK7 => ?_
    -- region 5
    refine as_q rfl rfl (q_assign rfl) ?_
    refine as_nil (hK7 _ _ ?_)
    clear hK7 K7
    refine cw_ret ?_
    exact ⟨_, (res_tmp rfl res_nil), rfl, hT.forget⟩
  · skip
    refine cw_rs fun K8 hK8 => ?_
    -- region 4
    refine as_q rfl rfl (q_move rfl) ?_
    refine as_q rfl rfl (q_len (by kernel_rfl) rfl _) ?_
    first | refine as_q rfl rfl (q_gtT rfl rfl (by omega)) ?_ | refine as_q rfl rfl (q_gtF rfl rfl (by omega)) ?_ | refine as_q rfl rfl (q_gt rfl rfl) ?_
    refine as_q rfl rfl (q_move rfl) ?_
    first | refine as_gskip rfl rfl rfl rfl rfl ?_ | refine as_gskipU rfl rfl rfl rfl ?_ | refine as_gh rfl rfl rfl rfl (h_q rfl (q_move rfl) ?_)
    first | refine as_gskip rfl rfl rfl rfl rfl ?_ | refine as_gskipU rfl rfl rfl rfl ?_ | refine as_gh rfl rfl rfl rfl (h_q rfl (q_len (by kernel_rfl) rfl _) ?_)
    first | refine as_gskip rfl rfl rfl rfl rfl ?_ | refine as_gskipU rfl rfl rfl rfl ?_ | refine as_gh rfl rfl rfl rfl (h_q rfl (q_gt rfl rfl) ?_)
    first | refine as_q rfl rfl (q_pick_t rfl rfl) ?_ | refine as_q rfl rfl (q_pick_f rfl rfl) ?_ | refine as_q rfl rfl (q_pick rfl rfl rfl) ?_
    refine as_nil (hK8 _ _ ?_)
    clear hK8 K8
    refine cw_cond rfl (fun hc1 => ?_) (fun hc1 => ?_)
    · skip
      skip
      refine cw_rs fun K9 hK9 => ?_
      -- region 5
      refine as_q rfl rfl (q_assign rfl) ?_
      refine as_nil (hK9 _ _ ?_)
      clear hK9 K9
      refine cw_ret ?_
      exact ⟨_, (res_tmp rfl res_nil), rfl, hT.forget⟩
    · skip
      have h20 : m ≤ 20 := by have := of_decide_eq_false hc1; omega
      have hn255 : n ≤ 255 := by omega
      refine cw_skip ?_
      refine hK5 _ _ ?_
      clear hK5 K5
      refine cw_rs fun K10 hK10 => ?_
      -- region 6
      refine as_q rfl rfl (q_assign rfl) ?_
      refine as_nil (hK10 _ _ ?_)
      clear hK10 K10
      refine cw_rs fun K11 hK11 => ?_
      -- region 7
      refine as_q rfl rfl (q_move rfl) ?_
      refine as_q rfl rfl (q_move rfl) ?_
      have nofl : ∀ g, (Value.slice none 0 0).ownBlock = some g → w.heap.size ≤ g := fun g hg => by cases hg
      have hq2 := hT.size
      refine as_h rfl (h_append (e := 76) (size := 2) (bytes := 16) (by kernel_rfl) hs1.sat (Buf.nil _ _ 76 2) ((hr.rd hs1.sat)) rfl rfl (els_one _) (by omega) rfl fun hbv w2 hs2 hbb hbo => ?_)
      replace hr := hr.mono hs2.le
      replace ha := ha.mono hs2.le
      have hbf := floor_of hbo nofl hq2
      replace hT := hT.trans hs2 (fun k hk h => absurd (nofl k h) (by omega))
      replace hbb := hbb.cast (Nat.zero_add _) (List.nil_append _)
      obtain ⟨oa, oc, rfl, _⟩ := hbb.slice
      have hbl := hbb.lt
      refine as_q rfl rfl (q_assign rfl) ?_
      refine as_nil (hK11 _ _ ?_)
      clear hK11 K11
      refine cw_rs fun K12 hK12 => ?_
      -- region 8
      refine as_q rfl rfl (q_move rfl) ?_
      refine as_h rfl (h_call (by kernel_rfl) rfl ?_)
      have hTs := hT.size
      refine (late_of  hs2.sat hbb.rds (by omega)).mono ?_
      rintro _ w3 ⟨q, sv, rfl, hs3, hl, hq, hf⟩
      replace hr := hr.mono hs3.le
      replace ha := ha.mono hs3.le
      replace hbb := hbb.then hs3
      replace hT := hT.then hs3
      have hql := hl.1.1.lt
      have hqw : w.heap.size ≤ q := Nat.le_trans hTs hq
      have hoq : ∀ g, (Value.slice oa n oc).ownBlock = some g → g < q := fun g hg => by have := hbl g hg; omega
      have hos : ∀ g k, (Value.slice oa n oc).ownBlock = some g → sv.ownBlock = some k → g < k := fun g k hg hk => by have h1 := hbl g hg; have h2 := hf k hk; omega
      refine as_q rfl rfl (q_assign rfl) ?_
      refine as_nil (hK12 _ _ ?_)
      clear hK12 K12
      refine cw_seq fun K13 hK13 => ?_
      refine cw_rs fun K14 hK14 => ?_
      -- region 9
      refine as_q rfl rfl (q_assign rfl) ?_
      refine as_nil (hK14 _ _ ?_)
      clear hK14 K14
      refine cw_block ?_
      refine cw_loop (fun mm l w1 => ∃ (i : Nat) (ys : List El), mm = n - i ∧ i ≤ n ∧ l = [(0, .slice la n lc), (1, .slice aa m ac), (7, .pointer (some ⟨q, 0, none⟩)), (6, .slice oa n oc), (8, .int .i64 i)] ∧ Step Nope M w M w1 ∧ Buf w1 M 76 2 (.slice oa n oc) n (els ys) ∧ LateOf w1 M q sv n xs false) (n) [(0, .slice la n lc), (1, .slice aa m ac), (7, .pointer (some ⟨q, 0, none⟩)), (6, .slice oa n oc), (8, .int .i64 (0 : Nat))] (.cons rfl (.cons rfl (.cons rfl (.cons rfl (.cons rfl (.nil _)))))) ?_ ?_
      · skip
        exact ⟨0, xs, rfl, Nat.zero_le _, rfl, hT, hbb, hl⟩
      clear hT hbb hl
      rintro mm l w1 ⟨i, ys, rfl, hi, rfl, hT, hb, hl⟩
      refine cw_seq fun K15 hK15 => ?_
      refine cw_rs fun K16 hK16 => ?_
      -- region 10
      refine as_q rfl rfl (q_move rfl) ?_
      refine as_q rfl rfl (q_move rfl) ?_
      refine as_q rfl rfl (q_len (by kernel_rfl) rfl _) ?_
      refine as_q rfl rfl (q_lt rfl rfl) ?_
      refine as_nil (hK16 _ _ ?_)
      clear hK16 K16
      refine cw_cond rfl (fun hc2 => ?_) (fun hc2 => ?_)
      · skip
        have hlt : i < n := by have := of_decide_eq_true hc2; omega
        obtain ⟨g, hd⟩ : ∃ g, oa = some ⟨g, 0, none⟩ ∧ ElRow 76 w1 M g n oc ys.toArray := by
          rcases hb.cases with ⟨_, h, _⟩ | ⟨g, cap, h, hd⟩
          · omega
          · cases h; exact ⟨g, rfl, hd⟩
        obtain ⟨rfl, hd⟩ := hd
        refine cw_skip ?_
        refine hK15 _ _ ?_
        clear hK15 K15
        refine cw_seq fun K17 hK17 => ?_
        refine cw_block ?_
        refine cw_region fun K18 hK18 => ?_
        -- region 12
        refine as_q rfl rfl (q_move rfl) ?_
        refine as_q rfl rfl (q_move rfl) ?_
        refine as_q rfl rfl (q_indexAddr (e := 76) (size := 2) (by kernel_rfl) (by kernel_rfl) rfl rfl (by omega) (by omega)) ?_
        refine as_q rfl rfl (q_fieldAddr (off := 0) (by kernel_rfl) rfl) ?_
        refine as_q rfl rfl (q_load1 (by kernel_rfl) rfl (hd.fst hlt)) ?_
        refine as_q rfl rfl (q_add rfl rfl) ?_
        refine as_q rfl rfl (q_indexAddr (e := 76) (size := 2) (by kernel_rfl) (by kernel_rfl) rfl rfl (by omega) (by omega)) ?_
        refine as_q rfl rfl (q_fieldAddr (off := 0) (by kernel_rfl) rfl) ?_
        refine as_h0 (h_storeFst (i := i) hT.sat hd rfl rfl (by kernel_rfl) hlt fun w4 hs4 hd4 => ?_)
        replace hT := hT.own hs4 (hbf g rfl)
        replace hl := hl.step hs4 (fun h => by have h : q = g := h; have := hoq g rfl; omega) (fun k hk h => by have h : k = g := h; have := hos g k rfl hk; omega)
        refine as_nil (hK18 _ _ ?_)
        clear hK18 K18
        refine hK17 _ _ ?_
        clear hK17 K17
        refine cw_region fun K19 hK19 => ?_
        -- region 11
        refine as_q rfl rfl (q_move rfl) ?_
        refine as_q rfl rfl (q_addx rfl rfl (by omega) (by omega)) ?_
        refine as_q rfl rfl (q_assign rfl) ?_
        refine as_nil (hK19 _ _ ?_)
        clear hK19 K19
        refine ⟨_, _, ?_, (.cons rfl (.cons rfl (.cons rfl (.cons rfl (.cons rfl (.nil _)))))), i + 1, _, rfl, by omega, rfl, hT, hd4, hl⟩
        omega
      · skip
        skip
        refine cw_exit ?_
        refine hK13 _ _ ?_
        clear hK15 K15
        clear hK13 K13
        refine cw_seq fun K20 hK20 => ?_
        refine cw_rs fun K21 hK21 => ?_
        -- region 13
        refine as_q rfl rfl (q_move rfl) ?_
        refine as_h rfl (h_call (by kernel_rfl) rfl ?_)
        refine (late_done0 hT.sat hl).mono ?_
        rintro _ w5 ⟨rfl, hs5⟩
        replace hr := hr.mono hs5.le
        replace ha := ha.mono hs5.le
        replace hb := hb.then hs5
        replace hl := hl.then hs5
        replace hT := hT.then hs5
        first | refine as_q rfl rfl (q_neT rfl rfl (by omega)) ?_ | refine as_q rfl rfl (q_neF rfl rfl (by omega)) ?_ | refine as_q rfl rfl (q_ne rfl rfl) ?_
        refine as_nil (hK21 _ _ ?_)
        clear hK21 K21
        refine cw_false rfl ?_
        refine cw_skip ?_
        refine hK20 _ _ ?_
        clear hK20 K20
        refine cw_seq fun K22 hK22 => ?_
        refine cw_rs fun K23 hK23 => ?_
        -- region 15
        refine as_q rfl rfl (q_assign rfl) ?_
        refine as_nil (hK23 _ _ ?_)
        clear hK23 K23
        refine cw_block ?_
        refine cw_loop (fun mm l w1 => ∃ (i : Nat) (sv1 : Value) (dn : Bool) (M1 : Mem), mm = m - i ∧ i ≤ m ∧ l = [(0, .slice la n lc), (1, .slice aa m ac), (7, .pointer (some ⟨q, 0, none⟩)), (9, .int .i64 i)] ∧ Step Nope M w M1 w1 ∧ LateOf w1 M1 q sv1 n xs dn) (m) [(0, .slice la n lc), (1, .slice aa m ac), (7, .pointer (some ⟨q, 0, none⟩)), (9, .int .i64 (0 : Nat))] (.cons rfl (.cons rfl (.cons rfl (.cons rfl (.nil _))))) ?_ ?_
        · skip
          exact ⟨0, sv, false, M, rfl, Nat.zero_le _, rfl, hT, hl⟩
        clear hT hl hb
        rintro mm l w1 ⟨i, sv1, dn, M1, rfl, hi, rfl, hT, hl⟩
        replace hr := hr.mono hT.le
        replace ha := ha.mono hT.le
        refine cw_seq fun K24 hK24 => ?_
        refine cw_rs fun K25 hK25 => ?_
        -- region 16
        refine as_q rfl rfl (q_move rfl) ?_
        refine as_q rfl rfl (q_move rfl) ?_
        refine as_q rfl rfl (q_len (by kernel_rfl) rfl _) ?_
        refine as_q rfl rfl (q_lt rfl rfl) ?_
        refine as_nil (hK25 _ _ ?_)
        clear hK25 K25
        refine cw_cond rfl (fun hc4 => ?_) (fun hc4 => ?_)
        · skip
          have hlt : i < m := by have := of_decide_eq_true hc4; omega
          obtain ⟨z, hz⟩ : ∃ z, zs[i]? = some z := ⟨zs[i], by simp⟩
          obtain ⟨ag, ao, rfl⟩ := ha.there (by omega)
          refine cw_skip ?_
          refine hK24 _ _ ?_
          clear hK24 K24
          refine cw_seq fun K26 hK26 => ?_
          refine cw_block ?_
          refine cw_rs fun K27 hK27 => ?_
          -- region 18
          refine as_q rfl rfl (q_assign rfl) ?_
          refine as_nil (hK27 _ _ ?_)
          clear hK27 K27
          refine cw_rs fun K28 hK28 => ?_
          -- region 19
          refine as_q rfl rfl (q_assign rfl) ?_
          refine as_nil (hK28 _ _ ?_)
          clear hK28 K28
          refine cw_cutS (fun l w2 => ∃ (j : Nat) (ga va : Option Addr) (gc vc : Nat) (M2 : Mem) (sv2 : Value) (ys : List El), j ≤ n ∧ l = [(0, .slice la n lc), (1, .slice (some ⟨ag, ao, none⟩) m ac), (7, .pointer (some ⟨q, 0, none⟩)), (9, .int .i64 i), (10, .slice ga j gc), (11, .slice va j vc)] ∧ Step Nope M w M2 w2 ∧ LateOf w2 M2 q sv2 n xs true ∧ Buf w2 M2 76 2 (.slice ga j gc) j (els ys) ∧ RdM M2 2 (.slice va j vc) j (els ys) ∧ (∀ g, (Value.slice ga j gc).ownBlock = some g → w.heap.size ≤ g) ∧ (∀ g, (Value.slice ga j gc).ownBlock = some g → g ≠ q) ∧ (∀ g, (Value.slice ga j gc).ownBlock = some g → sv2.ownBlock ≠ some g)) ?_ ?_
          · skip
            refine cw_rs fun K29 hK29 => ?_
            -- region 20
            refine as_q rfl rfl (q_move rfl) ?_
            refine as_q rfl rfl (q_move rfl) ?_
            refine as_q rfl rfl (q_indexAddr (e := 3) (size := 1) (by kernel_rfl) (by kernel_rfl) rfl rfl (by omega) (by omega)) ?_
            refine as_q rfl rfl (q_load1 (by kernel_rfl) rfl (ha.cell hT.sat (u := .int .i64 z) (by simp [hz]))) ?_
            refine as_q rfl rfl (q_eq rfl rfl) ?_
            refine as_nil (hK29 _ _ ?_)
            clear hK29 K29
            refine cw_cond rfl (fun hc5 => ?_) (fun hc5 => ?_)
            · skip
              skip
              refine cw_rs fun K30 hK30 => ?_
              -- region 21
              refine as_q rfl rfl (q_move rfl) ?_
              refine as_h rfl (h_call (by kernel_rfl) rfl ?_)
              have hTz := hT.size
              have hqlt := hl.1.1.lt
              refine (late_all hT.sat hn255 hl).mono ?_
              rintro gv w6 ⟨sv2, hs6, hl6, hg, hgf0, hgd, _⟩
              replace hT := hT.own hs6 hqw
              clear hl; have hl := hl6; clear hl6
              obtain ⟨ga, gc, rfl, _, _⟩ := hg.slice
              have hgf : ∀ g, (Value.slice ga _ gc).ownBlock = some g → w.heap.size ≤ g := fun g h => by have := hgf0 g h; omega
              have hgq : ∀ g, (Value.slice ga _ gc).ownBlock = some g → g ≠ q := fun g h => by have := hgf0 g h; omega
              refine as_q rfl rfl (q_assign rfl) ?_
              refine as_nil (hK30 _ _ ?_)
              clear hK30 K30
              refine cw_region fun K31 hK31 => ?_
              -- region 22
              refine as_q rfl rfl (q_move rfl) ?_
              refine as_h rfl (h_call (by kernel_rfl) rfl ?_)
              refine (ref_sort hs6.sat hr (by omega)).mono ?_
              rintro vv w7 ⟨M2, hs7, hv⟩
              replace hr := hr.mono hs7.le
              replace ha := ha.mono hs7.le
              replace hl := hl.then hs7
              replace hg := hg.then hs7
              replace hT := hT.then hs7
              obtain ⟨va, vc, rfl, _, _⟩ := hv.slice
              refine as_q rfl rfl (q_assign rfl) ?_
              refine as_nil (hK31 _ _ ?_)
              clear hK31 K31
              exact ⟨_, (.cons rfl (.cons rfl (.cons rfl (.cons rfl (.cons rfl (.cons rfl (.nil _))))))), _, _, _, _, _, _, _, _, by omega, rfl, hT, hl, hg, hv, hgf, hgq, hgd⟩
            · skip
              skip
              refine cw_rs fun K32 hK32 => ?_
              -- region 23
              refine as_q rfl rfl (q_move rfl) ?_
              refine as_q rfl rfl (q_move rfl) ?_
              refine as_q rfl rfl (q_move rfl) ?_
              refine as_q rfl rfl (q_indexAddr (e := 3) (size := 1) (by kernel_rfl) (by kernel_rfl) rfl rfl (by omega) (by omega)) ?_
              refine as_q rfl rfl (q_load1 (by kernel_rfl) rfl (ha.cell hT.sat (u := .int .i64 z) (by simp [hz]))) ?_
              refine as_h rfl (h_call (by kernel_rfl) rfl ?_)
              have hTz := hT.size
              have hqlt := hl.1.1.lt
              refine (late_front hT.sat hn255 hl).mono ?_
              rintro gv w8 ⟨sv2, hs8, hl8, hg, hgf0, hgd, _⟩
              replace hT := hT.own hs8 hqw
              clear hl; have hl := hl8; clear hl8
              obtain ⟨ga, gc, rfl, _, _⟩ := hg.slice
              have hgf : ∀ g, (Value.slice ga _ gc).ownBlock = some g → w.heap.size ≤ g := fun g h => by have := hgf0 g h; omega
              have hgq : ∀ g, (Value.slice ga _ gc).ownBlock = some g → g ≠ q := fun g h => by have := hgf0 g h; omega
              refine as_q rfl rfl (q_assign rfl) ?_
              refine as_nil (hK32 _ _ ?_)
              clear hK32 K32
              refine cw_region fun K33 hK33 => ?_
              -- region 24
              refine as_q rfl rfl (q_move rfl) ?_
              refine as_q rfl rfl (q_move rfl) ?_
              refine as_q rfl rfl (q_move rfl) ?_
              refine as_q rfl rfl (q_indexAddr (e := 3) (size := 1) (by kernel_rfl) (by kernel_rfl) rfl rfl (by omega) (by omega)) ?_
              refine as_q rfl rfl (q_load1 (by kernel_rfl) rfl (ha.cell hT.sat (u := .int .i64 z) (by simp [hz]))) ?_
              refine as_h rfl (h_call (by kernel_rfl) rfl ?_)
              refine (ref_front hs8.sat hr (by omega)).mono ?_
              rintro vv w9 ⟨M2, hs9, hv⟩
              replace hr := hr.mono hs9.le
              replace ha := ha.mono hs9.le
              replace hl := hl.then hs9
              replace hg := hg.then hs9
              replace hT := hT.then hs9
              obtain ⟨va, vc, rfl, _, _⟩ := hv.slice
              refine as_q rfl rfl (q_assign rfl) ?_
              refine as_nil (hK33 _ _ ?_)
              clear hK33 K33
              exact ⟨_, (.cons rfl (.cons rfl (.cons rfl (.cons rfl (.cons rfl (.cons rfl (.nil _))))))), _, _, _, _, _, _, _, _, by omega, rfl, hT, hl, hg, hv, hgf, hgq, hgd⟩
          clear hT hl
          rintro l w2 ⟨j, ga, va, gc, vc, M2, sv2, ys, hjn, rfl, hT, hl, hg, hv, hgf, hgq, hgd⟩
          refine cw_seq fun K34 hK34 => ?_
          refine cw_rs fun K35 hK35 => ?_
          -- region 25
          refine as_q rfl rfl (q_move rfl) ?_
          refine as_q rfl rfl (q_move rfl) ?_
          refine as_h rfl (h_call (by kernel_rfl) rfl ?_)
          refine (same_yes hT.sat (by omega) (hg.rds) ((hv.rds _)) (rfl)).mono ?_
          rintro _ w10 ⟨rfl, hs10⟩
          replace hl := hl.then hs10
          replace hg := hg.then hs10
          replace hv := hv.mono hs10.le
          replace hT := hT.then hs10
          refine as_q rfl rfl (q_not rfl) ?_
          refine as_q rfl rfl (q_move rfl) ?_
          first | refine as_gskip rfl rfl rfl rfl rfl ?_ | refine as_gskipU rfl rfl rfl rfl ?_ | refine as_gh rfl rfl rfl rfl (h_q rfl (q_move rfl) ?_)
          refine as_gh rfl rfl rfl rfl (h_call (by kernel_rfl) rfl ?_)
          refine (late_done1 hs10.sat hl).mono ?_
          rintro _ w11 ⟨rfl, hs11⟩
          replace hl := hl.then hs11
          replace hg := hg.then hs11
          replace hv := hv.mono hs11.le
          replace hT := hT.then hs11
          first | refine as_gskip rfl rfl rfl rfl rfl ?_ | refine as_gskipU rfl rfl rfl rfl ?_ | refine as_gh rfl rfl rfl rfl (h_q rfl (q_neT rfl rfl (by omega)) ?_) | refine as_gh rfl rfl rfl rfl (h_q rfl (q_neF rfl rfl (by omega)) ?_) | refine as_gh rfl rfl rfl rfl (h_q rfl (q_ne rfl rfl) ?_)
          first | refine as_q rfl rfl (q_pick_t rfl rfl) ?_ | refine as_q rfl rfl (q_pick_f rfl rfl) ?_ | refine as_q rfl rfl (q_pick rfl rfl rfl) ?_
          refine as_nil (hK35 _ _ ?_)
          clear hK35 K35
          refine cw_false rfl ?_
          refine cw_skip ?_
          refine hK34 _ _ ?_
          clear hK34 K34
          refine cw_rs fun K36 hK36 => ?_
          -- region 27
          refine as_q rfl rfl (q_assign rfl) ?_
          refine as_nil (hK36 _ _ ?_)
          clear hK36 K36
          refine cw_block ?_
          refine cw_loop (fun mm l w1 => ∃ (k : Nat) (gs : List El), mm = j - k ∧ k ≤ j ∧ l = [(0, .slice la n lc), (1, .slice (some ⟨ag, ao, none⟩) m ac), (7, .pointer (some ⟨q, 0, none⟩)), (9, .int .i64 i), (10, .slice ga j gc), (12, .int .i64 k)] ∧ Step Nope M w M2 w1 ∧ Buf w1 M2 76 2 (.slice ga j gc) j (els gs) ∧ LateOf w1 M2 q sv2 n xs true) (j) [(0, .slice la n lc), (1, .slice (some ⟨ag, ao, none⟩) m ac), (7, .pointer (some ⟨q, 0, none⟩)), (9, .int .i64 i), (10, .slice ga j gc), (12, .int .i64 (0 : Nat))] (.cons rfl (.cons rfl (.cons rfl (.cons rfl (.cons rfl (.cons rfl (.nil _))))))) ?_ ?_
          · skip
            exact ⟨0, _, rfl, Nat.zero_le _, rfl, hT, hg, hl⟩
          clear hT hg hl
          rintro mm l w1 ⟨k, gs, rfl, hk, rfl, hT, hb, hl⟩
          refine cw_seq fun K37 hK37 => ?_
          refine cw_rs fun K38 hK38 => ?_
          -- region 28
          refine as_q rfl rfl (q_move rfl) ?_
          refine as_q rfl rfl (q_move rfl) ?_
          refine as_q rfl rfl (q_len (by kernel_rfl) rfl _) ?_
          refine as_q rfl rfl (q_lt rfl rfl) ?_
          refine as_nil (hK38 _ _ ?_)
          clear hK38 K38
          refine cw_cond rfl (fun hc7 => ?_) (fun hc7 => ?_)
          · skip
            have hklt : k < j := by have := of_decide_eq_true hc7; omega
            obtain ⟨g, hd⟩ : ∃ g, ga = some ⟨g, 0, none⟩ ∧ ElRow 76 w1 M2 g j gc gs.toArray := by
              rcases hb.cases with ⟨_, h, _⟩ | ⟨g, cap, h, hd⟩
              · omega
              · cases h; exact ⟨g, rfl, hd⟩
            obtain ⟨rfl, hd⟩ := hd
            refine cw_skip ?_
            refine hK37 _ _ ?_
            clear hK37 K37
            refine cw_seq fun K39 hK39 => ?_
            refine cw_block ?_
            refine cw_region fun K40 hK40 => ?_
            -- region 30
            refine as_q rfl rfl (q_move rfl) ?_
            refine as_q rfl rfl (q_move rfl) ?_
            refine as_q rfl rfl (q_indexAddr (e := 76) (size := 2) (by kernel_rfl) (by kernel_rfl) rfl rfl (by omega) (by omega)) ?_
            refine as_q rfl rfl (q_fieldAddr (off := 1) (by kernel_rfl) rfl) ?_
            refine as_q rfl rfl (q_load1 (by kernel_rfl) rfl (hd.snd hklt)) ?_
            refine as_q rfl rfl (q_add rfl rfl) ?_
            refine as_q rfl rfl (q_indexAddr (e := 76) (size := 2) (by kernel_rfl) (by kernel_rfl) rfl rfl (by omega) (by omega)) ?_
            refine as_q rfl rfl (q_fieldAddr (off := 1) (by kernel_rfl) rfl) ?_
            refine as_h0 (h_storeSnd (i := k) hT.sat hd rfl rfl (by kernel_rfl) hklt fun w12 hs12 hd12 => ?_)
            replace hT := hT.own hs12 (hgf g rfl)
            replace hl := hl.step hs12 (fun h => by have h : q = g := h; exact hgq g rfl (Eq.symm h)) (fun k2 hk h => by have h : k2 = g := h; subst h; exact hgd k2 rfl hk)
            refine as_nil (hK40 _ _ ?_)
            clear hK40 K40
            refine hK39 _ _ ?_
            clear hK39 K39
            refine cw_region fun K41 hK41 => ?_
            -- region 29
            refine as_q rfl rfl (q_move rfl) ?_
            refine as_q rfl rfl (q_addx rfl rfl (by omega) (by omega)) ?_
            refine as_q rfl rfl (q_assign rfl) ?_
            refine as_nil (hK41 _ _ ?_)
            clear hK41 K41
            refine ⟨_, _, ?_, (.cons rfl (.cons rfl (.cons rfl (.cons rfl (.cons rfl (.cons rfl (.nil _))))))), k + 1, _, rfl, by omega, rfl, hT, hd12, hl⟩
            omega
          · skip
            skip
            refine cw_exit ?_
            refine hK26 _ _ ?_
            clear hK37 K37
            clear hK26 K26
            refine cw_region fun K42 hK42 => ?_
            -- region 17
            refine as_q rfl rfl (q_move rfl) ?_
            refine as_q rfl rfl (q_addx rfl rfl (by omega) (by omega)) ?_
            refine as_q rfl rfl (q_assign rfl) ?_
            refine as_nil (hK42 _ _ ?_)
            clear hK42 K42
            refine ⟨_, _, ?_, (.cons rfl (.cons rfl (.cons rfl (.cons rfl (.nil _))))), i + 1, sv2, true, M2, rfl, by omega, rfl, hT, hl⟩
            omega
        · skip
          skip
          refine cw_exit ?_
          refine hK22 _ _ ?_
          clear hK24 K24
          clear hK22 K22
          refine cw_rs fun K43 hK43 => ?_
          -- region 31
          refine as_q rfl rfl (q_assign rfl) ?_
          refine as_nil (hK43 _ _ ?_)
          clear hK43 K43
          refine cw_rs fun K44 hK44 => ?_
          -- region 32
          refine as_q rfl rfl (q_move rfl) ?_
          refine as_h rfl (h_call (by kernel_rfl) rfl ?_)
          refine (late_all_nil hT.sat).mono ?_
          rintro _ w13 ⟨rfl, hs13⟩
          replace hr := hr.mono hs13.le
          replace ha := ha.mono hs13.le
          replace hl := hl.then hs13
          replace hT := hT.then hs13
          refine as_q rfl rfl (q_len (by kernel_rfl) rfl _) ?_
          refine as_q rfl rfl (q_move rfl) ?_
          refine as_h rfl (h_call (by kernel_rfl) rfl ?_)
          refine (late_front_nil hs13.sat).mono ?_
          rintro _ w14 ⟨⟨na, nc, rfl⟩, hs14⟩
          replace hr := hr.mono hs14.le
          replace ha := ha.mono hs14.le
          replace hl := hl.then hs14
          replace hT := hT.then hs14
          refine as_q rfl rfl (q_len (by kernel_rfl) rfl _) ?_
          refine as_q rfl rfl (q_addx rfl rfl (by omega) (by omega)) ?_
          refine as_q rfl rfl (q_move rfl) ?_
          refine as_h rfl (h_call (by kernel_rfl) rfl ?_)
          refine (late_done_nil hs14.sat).mono ?_
          rintro _ w15 ⟨rfl, hs15⟩
          replace hr := hr.mono hs15.le
          replace ha := ha.mono hs15.le
          replace hl := hl.then hs15
          replace hT := hT.then hs15
          refine as_q rfl rfl (q_addx rfl rfl (by omega) (by omega)) ?_
          first | refine as_q rfl rfl (q_eqT rfl rfl (by omega)) ?_ | refine as_q rfl rfl (q_eqF rfl rfl (by omega)) ?_ | refine as_q rfl rfl (q_eq rfl rfl) ?_
          refine as_q rfl rfl (q_assign rfl) ?_
          refine as_nil (hK44 _ _ ?_)
          clear hK44 K44
          refine cw_ret ?_
          exact ⟨_, (res_tmp rfl res_nil), rfl, hT.forget⟩

end Go.Proofs.Ytcnocefclcoiiaa
