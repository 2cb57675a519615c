/- The laws of scripts as numbers: their walks. -/
import Derived.Test.YtcnocefclcoiiaaL18
namespace Go.Proofs.Ytcnocefclcoiiaa
open Go Go.Eng

set_option maxHeartbeats 2000000 in
theorem opcodeArgs_walk {w0 : World} {M0 : Mem} {c n room : Int} (hs : Sat M0 w0) (hn0 : 0 ≤ n) (hn1 : n ≤ 255) (hr0 : 0 ≤ room) :
    Does Try.prog 8 #[.int .i64 c, .int .u8 n, .int .u8 room] w0 (fun v w' => v = .bool true ∧ Step Nope M0 w0 M0 w') := by
  have hT := Step.refl Nope hs
  obtain ⟨k, hk⟩ : ∃ k, n.tmod 7 = k := ⟨_, rfl⟩
  obtain ⟨rm, hrm⟩ : ∃ k, room.tmod 65 = k := ⟨_, rfl⟩
  have hk0 : 0 ≤ k := by rw [← hk, Int.tmod_eq_emod_of_nonneg hn0]; omega
  have hk6 : k ≤ 6 := by rw [← hk, Int.tmod_eq_emod_of_nonneg hn0]; omega
  have hrm0 : 0 ≤ rm := by rw [← hrm, Int.tmod_eq_emod_of_nonneg hr0]; omega
  have hrm1 : rm ≤ 64 := by rw [← hrm, Int.tmod_eq_emod_of_nonneg hr0]; omega
  have hcases : (c < 1 ∧ k ≤ 4) ∨ (c < 1 ∧ 4 < k) ∨ (22 < c ∧ k ≤ 4) ∨ (22 < c ∧ 4 < k) ∨ (1 ≤ c ∧ c ≤ 22 ∧ (argsOf c = k ∧ 0 ≤ argsOf c ∧ argsOf c ≤ 3) ∧ k ≤ 4) ∨ (1 ≤ c ∧ c ≤ 22 ∧ (argsOf c ≠ k ∧ 0 ≤ argsOf c ∧ argsOf c ≤ 3) ∧ k ≤ 4) ∨ (1 ≤ c ∧ c ≤ 22 ∧ (argsOf c ≠ k ∧ 0 ≤ argsOf c ∧ argsOf c ≤ 3) ∧ 4 < k) := by
    by_cases h : c < 1
    · omega
    · by_cases h2 : 22 < c
      · omega
      · have := argsOf_in (c := c) (by omega) (by omega); omega
  refine fn_enter Try.func8 rfl (rs := [.tmp 6]) rfl rfl rfl rfl ?_
  refine cw_rs fun K1 hK1 => ?_
  -- region 0
  refine as_q rfl rfl (q_assign rfl) ?_
  refine as_nil (hK1 _ _ ?_)
  clear hK1 K1
  refine cw_rs fun K2 hK2 => ?_
  -- region 1
  refine as_h rfl (h_call (by kernel_rfl) rfl ?_)
  refine (awake18 hs).mono ?_
  rintro _ w1 ⟨rfl, hs1⟩
  replace hT := hT.then hs1
  have hz1 := hs1.size
  refine as_q rfl rfl (q_assign rfl) ?_
  refine as_nil (hK2 _ _ ?_)
  clear hK2 K2
  refine cw_seq fun K3 hK3 => ?_
  refine cw_rs fun K4 hK4 => ?_
  -- region 2
  refine as_q rfl rfl (q_move rfl) ?_
  refine as_q rfl rfl (q_not rfl) ?_
  refine as_nil (hK4 _ _ ?_)
  clear hK4 K4
  refine cw_false rfl ?_
  rcases hcases with ⟨hc, hk4⟩ | ⟨hc, hk4⟩ | ⟨hc, hk4⟩ | ⟨hc, hk4⟩ | ⟨hc1, hc2, hck, hk4⟩ | ⟨hc1, hc2, hck, hk4⟩ | ⟨hc1, hc2, hck, hk4⟩
  · skip
    refine cw_skip ?_
    refine hK3 _ _ ?_
    clear hK3 K3
    refine cw_rs fun K5 hK5 => ?_
    -- region 4
    refine as_q rfl rfl (q_move rfl) ?_
    refine as_q rfl rfl (q_convx (by kernel_rfl) (by kernel_rfl) rfl (by first | exact wrap64_of (by omega) (by omega) | omega | (simp; omega))) ?_
    refine as_q rfl rfl (q_congr (q_rem rfl rfl (by omega)) (v' := .int .i64 k) (by rw [hk])) ?_
    refine as_q rfl rfl (q_assign rfl) ?_
    refine as_nil (hK5 _ _ ?_)
    clear hK5 K5
    refine cw_rs fun K6 hK6 => ?_
    -- region 5
    refine as_q rfl rfl (q_move rfl) ?_
    refine as_q rfl rfl (q_move rfl) ?_
    refine as_h rfl (h_makeM (e := 2) (size := 1) (bytes := 8) (z := .int .i64 0) (by kernel_rfl) (by kernel_rfl) hs1.sat rfl rfl (by omega) (by omega) (by omega) fun bm Mm w2 hs2 hm em => ?_)
    replace hT := hT.then hs2
    have hz2 := hs2.size
    replace hm : RdM _ 1 _ k.toNat (i64s (List.replicate k.toNat 0)) := hm.cast rfl rfl (by rw [Nat.mul_one]; exact (madeCells_one _ _).trans (by simp [i64s]))
    refine as_q rfl rfl (q_build (zs := [(.int .i64 0), (.slice none 0 0)]) (places := [(0, 1), (1, 1)]) (cs := [_, _]) (by kernel_rfl) (by kernel_rfl) rfl rfl) ?_
    refine as_h rfl (h_allocO (z := (.agg #[(.int .i64 0), (.slice none 0 0)])) hs2.sat (by kernel_rfl) rfl fun b9 w3 hs3 ho9 e9 => ?_)
    replace hm := hm.mono hs3.le
    replace hT := hT.then hs3
    have hz3 := hs3.size
    have hl9 := ho9.1.lt
    refine as_h0 (h_store hs3.sat ho9 rfl rfl rfl (by kernel_rfl) rfl rfl rfl fun w4 hs4 hn4 => ?_)
    replace hm := hm.mono hs4.le
    clear ho9; have ho9 := hn4; clear hn4
    replace hT := hT.own hs4 (by omega)
    have hz4 := hs4.size
    refine as_nil (hK6 _ _ ?_)
    clear hK6 K6
    refine cw_rs fun K7 hK7 => ?_
    -- region 6
    refine as_q rfl rfl (q_move rfl) ?_
    refine as_h rfl (h_call (by kernel_rfl) rfl ?_)
    refine (args_lo hs4.sat hc).mono ?_
    rintro _ w5 ⟨rfl, hs5⟩
    replace hm := hm.mono hs5.le
    replace ho9 := ho9.then hs5
    replace hT := hT.then hs5
    have hz5 := hs5.size
    refine as_q rfl rfl (q_move rfl) ?_
    refine as_q rfl rfl (q_extract rfl rfl) ?_
    refine as_q rfl rfl (q_extract rfl rfl) ?_
    refine as_q rfl rfl (q_assign rfl) ?_
    refine as_q rfl rfl (q_assign rfl) ?_
    refine as_nil (hK7 _ _ ?_)
    clear hK7 K7
    refine cw_rs fun K8 hK8 => ?_
    -- region 7
    refine as_q rfl rfl (q_assign rfl) ?_
    refine as_nil (hK8 _ _ ?_)
    clear hK8 K8
    refine cw_seq fun K9 hK9 => ?_
    refine cw_rs fun K10 hK10 => ?_
    -- region 8
    refine as_q rfl rfl (q_move rfl) ?_
    refine as_q rfl rfl (q_not rfl) ?_
    refine as_nil (hK10 _ _ ?_)
    clear hK10 K10
    refine cw_true rfl ?_
    refine cw_region fun K11 hK11 => ?_
    -- region 9
    refine as_q rfl rfl (q_assign rfl) ?_
    refine as_nil (hK11 _ _ ?_)
    clear hK11 K11
    refine hK9 _ _ ?_
    clear hK9 K9
    refine cw_rs fun K12 hK12 => ?_
    -- region 12
    refine as_q rfl rfl (q_move rfl) ?_
    refine as_q rfl rfl (q_congr (q_rem rfl rfl (by omega)) (v' := .int .u8 rm) (by rw [hrm])) ?_
    refine as_q rfl rfl (q_convx (by kernel_rfl) (by kernel_rfl) rfl (by first | exact wrap64_of (by omega) (by omega) | omega | (simp; omega))) ?_
    refine as_q rfl rfl (q_move rfl) ?_
    refine as_q rfl rfl (q_move rfl) ?_
    refine as_h rfl (h_buildO (e := 2) (size := 1) (zs := [(.int .i64 0), (.int .i64 0), (.int .i64 0)]) (cs := [_, _, _]) (by kernel_rfl) (by kernel_rfl) (by kernel_rfl) rfl hs5.sat rfl rfl fun bl w6 hs6 hol el => ?_)
    replace hm := hm.mono hs6.le
    replace ho9 := ho9.then hs6
    replace hT := hT.then hs6
    have hz6 := hs6.size
    have hll := hol.1.lt
    refine as_q rfl rfl (q_assign rfl) ?_
    refine as_nil (hK12 _ _ ?_)
    clear hK12 K12
    refine cw_rs fun K13 hK13 => ?_
    -- region 13
    refine as_q rfl rfl (q_move rfl) ?_
    refine as_q rfl rfl (q_fieldAddr (off := 1) (by kernel_rfl) rfl) ?_
    refine as_q rfl rfl (q_load1 (by kernel_rfl) rfl (by first | exact Blk.cell ho9.1 rfl | exact Blk.cell hol.1 rfl | assumption)) ?_
    have nofl : ∀ g, (Value.slice (some ⟨bl, 0, none⟩) 3 3).ownBlock = some g → w0.heap.size ≤ g := fun g hg => by have h : bl = g := Option.some.inj hg; have := hT.size; omega
    have hm9 := ho9.1.lt
    have hq7 := hT.size
    refine as_h rfl (h_append (e := 2) (size := 1) (bytes := 8) (by kernel_rfl) hs6.sat (Own.buf hol (n := 3) (size := 1) rfl (by decide)) (hm.rd hs6.sat) rfl rfl (i64s_one _) (by omega) rfl fun hdv w7 hs7 hdb hdo => ?_)
    replace hm := hm.mono hs7.le
    replace ho9 := ho9.step hs7 (fun h => by have h : bl = b9 := Option.some.inj h; omega)
    clear hol
    have hdf := floor_of hdo nofl hq7
    replace hT := hT.trans hs7 (fun k hk h => absurd (nofl k h) (by omega))
    have hz7 := hs7.size
    have hd9 := lt_of_app (B := b9) hdo (fun h => by have h : bl = b9 := Option.some.inj h; omega) (by omega)
    obtain ⟨Mn, hTn, hlen, hnum, hothn⟩ := hT.freezeB hdb hdf
    replace hnum : RdM Mn 1 hdv (3 + k.toNat) (i64s (rm :: c :: k :: List.replicate k.toNat 0)) := hnum
    replace ho9 := ho9.of_same (hothn _ hd9)
    clear hT hdb; have hT := hTn
    refine as_q rfl rfl (q_assign rfl) ?_
    refine as_nil (hK13 _ _ ?_)
    clear hK13 K13
    refine cw_rs fun K14 hK14 => ?_
    -- region 14
    refine as_q rfl rfl (q_move rfl) ?_
    refine as_h rfl (h_call (by kernel_rfl) rfl ?_)
    refine (parse18 hT.sat (by omega) hnum).mono ?_
    rintro v8 w8 ⟨M8, hs8, hp8⟩
    obtain ⟨ov, ts, rfl, hkk, hov, hag⟩ := hp8.ok (parse_one hrm0 hrm1 hk0 hk4)
    obtain ⟨tv, rfl⟩ := keyT_one hkk
    replace ho9 := ho9.then hs8
    replace hnum := hnum.mono hs8.le
    replace hT := hT.then hs8
    have hz8 := hs8.size
    replace hov : RdM _ 2 ov 1 (flat [(c, List.replicate k.toNat 0, tv)]) := hov
    obtain ⟨oa, oc, rfl, _⟩ := hov.slice
    obtain ⟨og, oo, rfl⟩ := hov.there (by decide)
    have hta : RdM _ 1 tv (List.replicate k.toNat (0 : Int)).length (i64s (List.replicate k.toNat 0)) := hag _ (List.mem_singleton.2 rfl)
    rw [List.length_replicate] at hta
    obtain ⟨ta, tc, rfl, _⟩ := hta.slice
    refine as_q rfl rfl (q_move rfl) ?_
    refine as_q rfl rfl (q_extract rfl rfl) ?_
    refine as_q rfl rfl (q_extract rfl rfl) ?_
    refine as_h rfl (h_allocO (z := (.agg #[(.int .i64 0), (.slice none 0 0)])) hs8.sat (by kernel_rfl) rfl fun b14 w9 hs9 ho14 e14 => ?_)
    replace ho9 := ho9.then hs9
    replace hnum := hnum.mono hs9.le
    replace hov := hov.mono hs9.le
    replace hag := hag.mono hs9.le
    replace hta := hta.mono hs9.le
    replace hT := hT.then hs9
    have hz9 := hs9.size
    have hl14 := ho14.1.lt
    refine as_h0 (h_store hs9.sat ho14 rfl rfl rfl (by kernel_rfl) rfl rfl rfl fun w10 hs10 hn10 => ?_)
    replace ho9 := ho9.step hs10 (fun h => by have h : _ = _ := h; omega)
    replace hnum := hnum.mono hs10.le
    replace hov := hov.mono hs10.le
    replace hag := hag.mono hs10.le
    replace hta := hta.mono hs10.le
    clear ho14; have ho14 := hn10; clear hn10
    replace hT := hT.own hs10 (by omega)
    have hz10 := hs10.size
    refine as_q rfl rfl (q_assign rfl) ?_
    refine as_nil (hK14 _ _ ?_)
    clear hK14 K14
    refine cw_seq fun K15 hK15 => ?_
    refine cw_rs fun K16 hK16 => ?_
    -- region 15
    refine as_q rfl rfl (q_loadc (n := 2) (by kernel_rfl) rfl (by first | exact Blk.cells ho9.1 rfl | exact Blk.cells ho14.1 rfl | assumption)) ?_
    refine as_h rfl (h_call (by kernel_rfl) rfl ?_)
    refine (right18 hs10.sat).mono ?_
    rintro v11 w11 ⟨hv11, hs11⟩
    obtain rfl : v11 = .int .i64 20 := hv11.trans (by rw [show rightOf c k.toNat = 20 from if_pos (Or.inl hc)])
    replace ho9 := ho9.then hs11
    replace hnum := hnum.mono hs11.le
    replace hov := hov.mono hs11.le
    replace hag := hag.mono hs11.le
    replace hta := hta.mono hs11.le
    replace ho14 := ho14.then hs11
    replace hT := hT.then hs11
    have hz11 := hs11.size
    refine as_q rfl rfl (q_move rfl) ?_
    first | refine as_q rfl rfl (q_neT rfl rfl (by omega)) ?_ | refine as_q rfl rfl (q_neF rfl rfl (by omega)) ?_ | refine as_q rfl rfl (q_ne rfl rfl) ?_
    refine as_q rfl rfl (q_move rfl) ?_
    first | refine as_gskip rfl rfl rfl rfl rfl ?_ | refine as_gskipU rfl rfl rfl rfl ?_ | refine as_gh rfl rfl rfl rfl (h_q rfl (q_move rfl) ?_)
    first | refine as_gskip rfl rfl rfl rfl rfl ?_ | refine as_gskipU rfl rfl rfl rfl ?_ | refine as_gh rfl rfl rfl rfl (h_q rfl (q_move rfl) ?_)
    first | refine as_gskip rfl rfl rfl rfl rfl ?_ | refine as_gskipU rfl rfl rfl rfl ?_ | refine as_gh rfl rfl rfl rfl (h_q rfl (q_geT rfl rfl (by omega)) ?_) | refine as_gh rfl rfl rfl rfl (h_q rfl (q_geF rfl rfl (by omega)) ?_) | refine as_gh rfl rfl rfl rfl (h_q rfl (q_ge rfl rfl) ?_)
    first | refine as_gskip rfl rfl rfl rfl rfl ?_ | refine as_gskipU rfl rfl rfl rfl ?_ | refine as_gh rfl rfl rfl rfl (h_q rfl (q_move rfl) ?_)
    first | refine as_gskip rfl rfl rfl rfl rfl ?_ | refine as_gskipU rfl rfl rfl rfl ?_ | refine as_gh rfl rfl rfl rfl (h_q rfl (q_move rfl) ?_)
    first | refine as_gskip rfl rfl rfl rfl rfl ?_ | refine as_gskipU rfl rfl rfl rfl ?_ | refine as_gh rfl rfl rfl rfl (h_q rfl (q_leT rfl rfl (by omega)) ?_) | refine as_gh rfl rfl rfl rfl (h_q rfl (q_leF rfl rfl (by omega)) ?_) | refine as_gh rfl rfl rfl rfl (h_q rfl (q_le rfl rfl) ?_)
    first | refine as_gskip rfl rfl rfl rfl rfl ?_ | refine as_gskipU rfl rfl rfl rfl ?_ | refine as_gh rfl rfl rfl rfl (h_q rfl (q_pick_t rfl rfl) ?_) | refine as_gh rfl rfl rfl rfl (h_q rfl (q_pick_f rfl rfl) ?_) | refine as_gh rfl rfl rfl rfl (h_q rfl (q_pick rfl rfl rfl) ?_)
    first | refine as_gskip rfl rfl rfl rfl rfl ?_ | refine as_gskipU rfl rfl rfl rfl ?_ | refine as_gh rfl rfl rfl rfl (h_q rfl (q_neb (by kernel_rfl) rfl rfl) ?_)
    first | refine as_q rfl rfl (q_pick_t rfl rfl) ?_ | refine as_q rfl rfl (q_pick_f rfl rfl) ?_ | refine as_q rfl rfl (q_pick rfl rfl rfl) ?_
    refine as_q rfl rfl (q_move rfl) ?_
    first | refine as_gskip rfl rfl rfl rfl rfl ?_ | refine as_gskipU rfl rfl rfl rfl ?_ | refine as_gh rfl rfl rfl rfl (h_q rfl (q_move rfl) ?_)
    first | refine as_gskip rfl rfl rfl rfl rfl ?_ | refine as_gskipU rfl rfl rfl rfl ?_ | refine as_gh rfl rfl rfl rfl (h_q rfl (q_gtT rfl rfl (by omega)) ?_) | refine as_gh rfl rfl rfl rfl (h_q rfl (q_gtF rfl rfl (by omega)) ?_) | refine as_gh rfl rfl rfl rfl (h_q rfl (q_gt rfl rfl) ?_)
    first | refine as_q rfl rfl (q_pick_t rfl rfl) ?_ | refine as_q rfl rfl (q_pick_f rfl rfl) ?_ | refine as_q rfl rfl (q_pick rfl rfl rfl) ?_
    refine as_nil (hK16 _ _ ?_)
    clear hK16 K16
    refine cw_false rfl ?_
    refine cw_skip ?_
    refine hK15 _ _ ?_
    clear hK15 K15
    refine cw_seq fun K17 hK17 => ?_
    refine cw_rs fun K18 hK18 => ?_
    -- region 17
    refine as_q rfl rfl (q_move rfl) ?_
    first | refine as_q rfl rfl (q_gtT rfl rfl (by omega)) ?_ | refine as_q rfl rfl (q_gtF rfl rfl (by omega)) ?_ | refine as_q rfl rfl (q_gt rfl rfl) ?_
    refine as_nil (hK18 _ _ ?_)
    clear hK18 K18
    refine cw_false rfl ?_
    refine cw_skip ?_
    refine hK17 _ _ ?_
    clear hK17 K17
    refine cw_rs fun K19 hK19 => ?_
    -- region 19
    refine as_q rfl rfl (q_move rfl) ?_
    first | refine as_q rfl rfl (q_eqT rfl rfl (by omega)) ?_ | refine as_q rfl rfl (q_eqF rfl rfl (by omega)) ?_ | refine as_q rfl rfl (q_eq rfl rfl) ?_
    refine as_q rfl rfl (q_move rfl) ?_
    first | refine as_gskip rfl rfl rfl rfl rfl ?_ | refine as_gskipU rfl rfl rfl rfl ?_ | refine as_gh rfl rfl rfl rfl (h_q rfl (q_fieldAddr (off := 0) (by kernel_rfl) rfl) ?_)
    first | refine as_gskip rfl rfl rfl rfl rfl ?_ | refine as_gskipU rfl rfl rfl rfl ?_ | refine as_gh rfl rfl rfl rfl (h_q rfl (q_load1 (by kernel_rfl) rfl (by first | exact Blk.cell ho9.1 rfl | exact Blk.cell ho14.1 rfl | assumption)) ?_)
    first | refine as_gskip rfl rfl rfl rfl rfl ?_ | refine as_gskipU rfl rfl rfl rfl ?_ | refine as_gh rfl rfl rfl rfl (h_q rfl (q_move rfl) ?_)
    first | refine as_gskip rfl rfl rfl rfl rfl ?_ | refine as_gskipU rfl rfl rfl rfl ?_ | refine as_gh rfl rfl rfl rfl (h_q rfl (q_congr (q_rem rfl rfl (by omega)) (v' := .int .u8 rm) (by rw [hrm])) ?_)
    first | refine as_gskip rfl rfl rfl rfl rfl ?_ | refine as_gskipU rfl rfl rfl rfl ?_ | refine as_gh rfl rfl rfl rfl (h_q rfl (q_convx (by kernel_rfl) (by kernel_rfl) rfl (by first | exact wrap64_of (by omega) (by omega) | omega | (simp; omega))) ?_)
    first | refine as_gskip rfl rfl rfl rfl rfl ?_ | refine as_gskipU rfl rfl rfl rfl ?_ | refine as_gh rfl rfl rfl rfl (h_q rfl (q_eqT rfl rfl (by omega)) ?_) | refine as_gh rfl rfl rfl rfl (h_q rfl (q_eqF rfl rfl (by omega)) ?_) | refine as_gh rfl rfl rfl rfl (h_q rfl (q_eq rfl rfl) ?_)
    first | refine as_q rfl rfl (q_pick_t rfl rfl) ?_ | refine as_q rfl rfl (q_pick_f rfl rfl) ?_ | refine as_q rfl rfl (q_pick rfl rfl rfl) ?_
    refine as_q rfl rfl (q_move rfl) ?_
    first | refine as_gskip rfl rfl rfl rfl rfl ?_ | refine as_gskipU rfl rfl rfl rfl ?_ | refine as_gh rfl rfl rfl rfl (h_q rfl (q_fieldAddr (off := 1) (by kernel_rfl) rfl) ?_)
    first | refine as_gskip rfl rfl rfl rfl rfl ?_ | refine as_gskipU rfl rfl rfl rfl ?_ | refine as_gh rfl rfl rfl rfl (h_q rfl (q_load1 (by kernel_rfl) rfl (by first | exact Blk.cell ho9.1 rfl | exact Blk.cell ho14.1 rfl | assumption)) ?_)
    first | refine as_gskip rfl rfl rfl rfl rfl ?_ | refine as_gskipU rfl rfl rfl rfl ?_ | refine as_gh rfl rfl rfl rfl (h_q rfl (q_len (by kernel_rfl) rfl _) ?_)
    first | refine as_gskip rfl rfl rfl rfl rfl ?_ | refine as_gskipU rfl rfl rfl rfl ?_ | refine as_gh rfl rfl rfl rfl (h_q rfl (q_eqT rfl rfl (by omega)) ?_) | refine as_gh rfl rfl rfl rfl (h_q rfl (q_eqF rfl rfl (by omega)) ?_) | refine as_gh rfl rfl rfl rfl (h_q rfl (q_eq rfl rfl) ?_)
    first | refine as_q rfl rfl (q_pick_t rfl rfl) ?_ | refine as_q rfl rfl (q_pick_f rfl rfl) ?_ | refine as_q rfl rfl (q_pick rfl rfl rfl) ?_
    refine as_q rfl rfl (q_move rfl) ?_
    first | refine as_gskip rfl rfl rfl rfl rfl ?_ | refine as_gskipU rfl rfl rfl rfl ?_ | refine as_gh rfl rfl rfl rfl (h_q rfl (q_fieldAddr (off := 1) (by kernel_rfl) rfl) ?_)
    first | refine as_gskip rfl rfl rfl rfl rfl ?_ | refine as_gskipU rfl rfl rfl rfl ?_ | refine as_gh rfl rfl rfl rfl (h_q rfl (q_load1 (by kernel_rfl) rfl (by first | exact Blk.cell ho9.1 rfl | exact Blk.cell ho14.1 rfl | assumption)) ?_)
    first | refine as_gskip rfl rfl rfl rfl rfl ?_ | refine as_gskipU rfl rfl rfl rfl ?_ | refine as_gh rfl rfl rfl rfl (h_q rfl (q_indexAddr (e := 51) (size := 2) (by kernel_rfl) (by kernel_rfl) rfl rfl (by omega) (by omega)) ?_)
    first | refine as_gskip rfl rfl rfl rfl rfl ?_ | refine as_gskipU rfl rfl rfl rfl ?_ | refine as_gh rfl rfl rfl rfl (h_q rfl (q_fieldAddr (off := 0) (by kernel_rfl) rfl) ?_)
    first | refine as_gskip rfl rfl rfl rfl rfl ?_ | refine as_gskipU rfl rfl rfl rfl ?_ | refine as_gh rfl rfl rfl rfl (h_q rfl (q_load1 (by kernel_rfl) rfl ((hov.elem (j := (0 : Int).toNat) hT.sat rfl (flat_elem (j := 0) rfl)).2 0 _ rfl)) ?_)
    first | refine as_gskip rfl rfl rfl rfl rfl ?_ | refine as_gskipU rfl rfl rfl rfl ?_ | refine as_gh rfl rfl rfl rfl (h_q rfl (q_move rfl) ?_)
    first | refine as_gskip rfl rfl rfl rfl rfl ?_ | refine as_gskipU rfl rfl rfl rfl ?_ | refine as_gh rfl rfl rfl rfl (h_q rfl (q_eqT rfl rfl (by omega)) ?_) | refine as_gh rfl rfl rfl rfl (h_q rfl (q_eqF rfl rfl (by omega)) ?_) | refine as_gh rfl rfl rfl rfl (h_q rfl (q_eq rfl rfl) ?_)
    first | refine as_q rfl rfl (q_pick_t rfl rfl) ?_ | refine as_q rfl rfl (q_pick_f rfl rfl) ?_ | refine as_q rfl rfl (q_pick rfl rfl rfl) ?_
    refine as_q rfl rfl (q_move rfl) ?_
    first | refine as_gskip rfl rfl rfl rfl rfl ?_ | refine as_gskipU rfl rfl rfl rfl ?_ | refine as_gh rfl rfl rfl rfl (h_q rfl (q_fieldAddr (off := 1) (by kernel_rfl) rfl) ?_)
    first | refine as_gskip rfl rfl rfl rfl rfl ?_ | refine as_gskipU rfl rfl rfl rfl ?_ | refine as_gh rfl rfl rfl rfl (h_q rfl (q_load1 (by kernel_rfl) rfl (by first | exact Blk.cell ho9.1 rfl | exact Blk.cell ho14.1 rfl | assumption)) ?_)
    first | refine as_gskip rfl rfl rfl rfl rfl ?_ | refine as_gskipU rfl rfl rfl rfl ?_ | refine as_gh rfl rfl rfl rfl (h_q rfl (q_indexAddr (e := 51) (size := 2) (by kernel_rfl) (by kernel_rfl) rfl rfl (by omega) (by omega)) ?_)
    first | refine as_gskip rfl rfl rfl rfl rfl ?_ | refine as_gskipU rfl rfl rfl rfl ?_ | refine as_gh rfl rfl rfl rfl (h_q rfl (q_fieldAddr (off := 1) (by kernel_rfl) rfl) ?_)
    first | refine as_gskip rfl rfl rfl rfl rfl ?_ | refine as_gskipU rfl rfl rfl rfl ?_ | refine as_gh rfl rfl rfl rfl (h_q rfl (q_load1 (by kernel_rfl) rfl ((hov.elem (j := (0 : Int).toNat) hT.sat rfl (flat_elem (j := 0) rfl)).2 1 _ rfl)) ?_)
    first | refine as_gskip rfl rfl rfl rfl rfl ?_ | refine as_gskipU rfl rfl rfl rfl ?_ | refine as_gh rfl rfl rfl rfl (h_q rfl (q_len (by kernel_rfl) rfl _) ?_)
    first | refine as_gskip rfl rfl rfl rfl rfl ?_ | refine as_gskipU rfl rfl rfl rfl ?_ | refine as_gh rfl rfl rfl rfl (h_q rfl (q_move rfl) ?_)
    first | refine as_gskip rfl rfl rfl rfl rfl ?_ | refine as_gskipU rfl rfl rfl rfl ?_ | refine as_gh rfl rfl rfl rfl (h_q rfl (q_eqT rfl rfl (by omega)) ?_) | refine as_gh rfl rfl rfl rfl (h_q rfl (q_eqF rfl rfl (by omega)) ?_) | refine as_gh rfl rfl rfl rfl (h_q rfl (q_eq rfl rfl) ?_)
    first | refine as_q rfl rfl (q_pick_t rfl rfl) ?_ | refine as_q rfl rfl (q_pick_f rfl rfl) ?_ | refine as_q rfl rfl (q_pick rfl rfl rfl) ?_
    refine as_q rfl rfl (q_assign rfl) ?_
    refine as_nil (hK19 _ _ ?_)
    clear hK19 K19
    refine cw_ret ?_
    exact ⟨_, (res_tmp rfl res_nil), rfl, hT.forget⟩
  · skip
    refine cw_skip ?_
    refine hK3 _ _ ?_
    clear hK3 K3
    refine cw_rs fun K20 hK20 => ?_
    -- region 4
    refine as_q rfl rfl (q_move rfl) ?_
    refine as_q rfl rfl (q_convx (by kernel_rfl) (by kernel_rfl) rfl (by first | exact wrap64_of (by omega) (by omega) | omega | (simp; omega))) ?_
    refine as_q rfl rfl (q_congr (q_rem rfl rfl (by omega)) (v' := .int .i64 k) (by rw [hk])) ?_
    refine as_q rfl rfl (q_assign rfl) ?_
    refine as_nil (hK20 _ _ ?_)
    clear hK20 K20
    refine cw_rs fun K21 hK21 => ?_
    -- region 5
    refine as_q rfl rfl (q_move rfl) ?_
    refine as_q rfl rfl (q_move rfl) ?_
    refine as_h rfl (h_makeM (e := 2) (size := 1) (bytes := 8) (z := .int .i64 0) (by kernel_rfl) (by kernel_rfl) hs1.sat rfl rfl (by omega) (by omega) (by omega) fun bm Mm w12 hs12 hm em => ?_)
    replace hT := hT.then hs12
    have hz12 := hs12.size
    replace hm : RdM _ 1 _ k.toNat (i64s (List.replicate k.toNat 0)) := hm.cast rfl rfl (by rw [Nat.mul_one]; exact (madeCells_one _ _).trans (by simp [i64s]))
    refine as_q rfl rfl (q_build (zs := [(.int .i64 0), (.slice none 0 0)]) (places := [(0, 1), (1, 1)]) (cs := [_, _]) (by kernel_rfl) (by kernel_rfl) rfl rfl) ?_
    refine as_h rfl (h_allocO (z := (.agg #[(.int .i64 0), (.slice none 0 0)])) hs12.sat (by kernel_rfl) rfl fun b9 w13 hs13 ho9 e9 => ?_)
    replace hm := hm.mono hs13.le
    replace hT := hT.then hs13
    have hz13 := hs13.size
    have hl9 := ho9.1.lt
    refine as_h0 (h_store hs13.sat ho9 rfl rfl rfl (by kernel_rfl) rfl rfl rfl fun w14 hs14 hn14 => ?_)
    replace hm := hm.mono hs14.le
    clear ho9; have ho9 := hn14; clear hn14
    replace hT := hT.own hs14 (by omega)
    have hz14 := hs14.size
    refine as_nil (hK21 _ _ ?_)
    clear hK21 K21
    refine cw_rs fun K22 hK22 => ?_
    -- region 6
    refine as_q rfl rfl (q_move rfl) ?_
    refine as_h rfl (h_call (by kernel_rfl) rfl ?_)
    refine (args_lo hs14.sat hc).mono ?_
    rintro _ w15 ⟨rfl, hs15⟩
    replace hm := hm.mono hs15.le
    replace ho9 := ho9.then hs15
    replace hT := hT.then hs15
    have hz15 := hs15.size
    refine as_q rfl rfl (q_move rfl) ?_
    refine as_q rfl rfl (q_extract rfl rfl) ?_
    refine as_q rfl rfl (q_extract rfl rfl) ?_
    refine as_q rfl rfl (q_assign rfl) ?_
    refine as_q rfl rfl (q_assign rfl) ?_
    refine as_nil (hK22 _ _ ?_)
    clear hK22 K22
    refine cw_rs fun K23 hK23 => ?_
    -- region 7
    refine as_q rfl rfl (q_assign rfl) ?_
    refine as_nil (hK23 _ _ ?_)
    clear hK23 K23
    refine cw_seq fun K24 hK24 => ?_
    refine cw_rs fun K25 hK25 => ?_
    -- region 8
    refine as_q rfl rfl (q_move rfl) ?_
    refine as_q rfl rfl (q_not rfl) ?_
    refine as_nil (hK25 _ _ ?_)
    clear hK25 K25
    refine cw_true rfl ?_
    refine cw_region fun K26 hK26 => ?_
    -- region 9
    refine as_q rfl rfl (q_assign rfl) ?_
    refine as_nil (hK26 _ _ ?_)
    clear hK26 K26
    refine hK24 _ _ ?_
    clear hK24 K24
    refine cw_rs fun K27 hK27 => ?_
    -- region 12
    refine as_q rfl rfl (q_move rfl) ?_
    refine as_q rfl rfl (q_congr (q_rem rfl rfl (by omega)) (v' := .int .u8 rm) (by rw [hrm])) ?_
    refine as_q rfl rfl (q_convx (by kernel_rfl) (by kernel_rfl) rfl (by first | exact wrap64_of (by omega) (by omega) | omega | (simp; omega))) ?_
    refine as_q rfl rfl (q_move rfl) ?_
    refine as_q rfl rfl (q_move rfl) ?_
    refine as_h rfl (h_buildO (e := 2) (size := 1) (zs := [(.int .i64 0), (.int .i64 0), (.int .i64 0)]) (cs := [_, _, _]) (by kernel_rfl) (by kernel_rfl) (by kernel_rfl) rfl hs15.sat rfl rfl fun bl w16 hs16 hol el => ?_)
    replace hm := hm.mono hs16.le
    replace ho9 := ho9.then hs16
    replace hT := hT.then hs16
    have hz16 := hs16.size
    have hll := hol.1.lt
    refine as_q rfl rfl (q_assign rfl) ?_
    refine as_nil (hK27 _ _ ?_)
    clear hK27 K27
    refine cw_rs fun K28 hK28 => ?_
    -- region 13
    refine as_q rfl rfl (q_move rfl) ?_
    refine as_q rfl rfl (q_fieldAddr (off := 1) (by kernel_rfl) rfl) ?_
    refine as_q rfl rfl (q_load1 (by kernel_rfl) rfl (by first | exact Blk.cell ho9.1 rfl | exact Blk.cell hol.1 rfl | assumption)) ?_
    have nofl : ∀ g, (Value.slice (some ⟨bl, 0, none⟩) 3 3).ownBlock = some g → w0.heap.size ≤ g := fun g hg => by have h : bl = g := Option.some.inj hg; have := hT.size; omega
    have hm9 := ho9.1.lt
    have hq17 := hT.size
    refine as_h rfl (h_append (e := 2) (size := 1) (bytes := 8) (by kernel_rfl) hs16.sat (Own.buf hol (n := 3) (size := 1) rfl (by decide)) (hm.rd hs16.sat) rfl rfl (i64s_one _) (by omega) rfl fun hdv w17 hs17 hdb hdo => ?_)
    replace hm := hm.mono hs17.le
    replace ho9 := ho9.step hs17 (fun h => by have h : bl = b9 := Option.some.inj h; omega)
    clear hol
    have hdf := floor_of hdo nofl hq17
    replace hT := hT.trans hs17 (fun k hk h => absurd (nofl k h) (by omega))
    have hz17 := hs17.size
    have hd9 := lt_of_app (B := b9) hdo (fun h => by have h : bl = b9 := Option.some.inj h; omega) (by omega)
    obtain ⟨Mn, hTn, hlen, hnum, hothn⟩ := hT.freezeB hdb hdf
    replace hnum : RdM Mn 1 hdv (3 + k.toNat) (i64s (rm :: c :: k :: List.replicate k.toNat 0)) := hnum
    replace ho9 := ho9.of_same (hothn _ hd9)
    clear hT hdb; have hT := hTn
    refine as_q rfl rfl (q_assign rfl) ?_
    refine as_nil (hK28 _ _ ?_)
    clear hK28 K28
    refine cw_rs fun K29 hK29 => ?_
    -- region 14
    refine as_q rfl rfl (q_move rfl) ?_
    refine as_h rfl (h_call (by kernel_rfl) rfl ?_)
    refine (parse18 hT.sat (by omega) hnum).mono ?_
    rintro v18 w18 ⟨M18, hs18, hp18⟩
    obtain ⟨pa, pc, rfl, _⟩ := hp18.no (parse_many hrm0 hrm1 hk4)
    replace ho9 := ho9.then hs18
    replace hnum := hnum.mono hs18.le
    replace hT := hT.then hs18
    have hz18 := hs18.size
    refine as_q rfl rfl (q_move rfl) ?_
    refine as_q rfl rfl (q_extract rfl rfl) ?_
    refine as_q rfl rfl (q_extract rfl rfl) ?_
    refine as_h rfl (h_allocO (z := (.agg #[(.int .i64 0), (.slice none 0 0)])) hs18.sat (by kernel_rfl) rfl fun b14 w19 hs19 ho14 e14 => ?_)
    replace ho9 := ho9.then hs19
    replace hnum := hnum.mono hs19.le
    replace hT := hT.then hs19
    have hz19 := hs19.size
    have hl14 := ho14.1.lt
    refine as_h0 (h_store hs19.sat ho14 rfl rfl rfl (by kernel_rfl) rfl rfl rfl fun w20 hs20 hn20 => ?_)
    replace ho9 := ho9.step hs20 (fun h => by have h : _ = _ := h; omega)
    replace hnum := hnum.mono hs20.le
    clear ho14; have ho14 := hn20; clear hn20
    replace hT := hT.own hs20 (by omega)
    have hz20 := hs20.size
    refine as_q rfl rfl (q_assign rfl) ?_
    refine as_nil (hK29 _ _ ?_)
    clear hK29 K29
    refine cw_seq fun K30 hK30 => ?_
    refine cw_rs fun K31 hK31 => ?_
    -- region 15
    refine as_q rfl rfl (q_loadc (n := 2) (by kernel_rfl) rfl (by first | exact Blk.cells ho9.1 rfl | exact Blk.cells ho14.1 rfl | assumption)) ?_
    refine as_h rfl (h_call (by kernel_rfl) rfl ?_)
    refine (right18 hs20.sat).mono ?_
    rintro v21 w21 ⟨hv21, hs21⟩
    obtain rfl : v21 = .int .i64 20 := hv21.trans (by rw [show rightOf c k.toNat = 20 from if_pos (Or.inl hc)])
    replace ho9 := ho9.then hs21
    replace hnum := hnum.mono hs21.le
    replace ho14 := ho14.then hs21
    replace hT := hT.then hs21
    have hz21 := hs21.size
    refine as_q rfl rfl (q_move rfl) ?_
    first | refine as_q rfl rfl (q_neT rfl rfl (by omega)) ?_ | refine as_q rfl rfl (q_neF rfl rfl (by omega)) ?_ | refine as_q rfl rfl (q_ne rfl rfl) ?_
    refine as_q rfl rfl (q_move rfl) ?_
    first | refine as_gskip rfl rfl rfl rfl rfl ?_ | refine as_gskipU rfl rfl rfl rfl ?_ | refine as_gh rfl rfl rfl rfl (h_q rfl (q_move rfl) ?_)
    first | refine as_gskip rfl rfl rfl rfl rfl ?_ | refine as_gskipU rfl rfl rfl rfl ?_ | refine as_gh rfl rfl rfl rfl (h_q rfl (q_move rfl) ?_)
    first | refine as_gskip rfl rfl rfl rfl rfl ?_ | refine as_gskipU rfl rfl rfl rfl ?_ | refine as_gh rfl rfl rfl rfl (h_q rfl (q_geT rfl rfl (by omega)) ?_) | refine as_gh rfl rfl rfl rfl (h_q rfl (q_geF rfl rfl (by omega)) ?_) | refine as_gh rfl rfl rfl rfl (h_q rfl (q_ge rfl rfl) ?_)
    first | refine as_gskip rfl rfl rfl rfl rfl ?_ | refine as_gskipU rfl rfl rfl rfl ?_ | refine as_gh rfl rfl rfl rfl (h_q rfl (q_move rfl) ?_)
    first | refine as_gskip rfl rfl rfl rfl rfl ?_ | refine as_gskipU rfl rfl rfl rfl ?_ | refine as_gh rfl rfl rfl rfl (h_q rfl (q_move rfl) ?_)
    first | refine as_gskip rfl rfl rfl rfl rfl ?_ | refine as_gskipU rfl rfl rfl rfl ?_ | refine as_gh rfl rfl rfl rfl (h_q rfl (q_leT rfl rfl (by omega)) ?_) | refine as_gh rfl rfl rfl rfl (h_q rfl (q_leF rfl rfl (by omega)) ?_) | refine as_gh rfl rfl rfl rfl (h_q rfl (q_le rfl rfl) ?_)
    first | refine as_gskip rfl rfl rfl rfl rfl ?_ | refine as_gskipU rfl rfl rfl rfl ?_ | refine as_gh rfl rfl rfl rfl (h_q rfl (q_pick_t rfl rfl) ?_) | refine as_gh rfl rfl rfl rfl (h_q rfl (q_pick_f rfl rfl) ?_) | refine as_gh rfl rfl rfl rfl (h_q rfl (q_pick rfl rfl rfl) ?_)
    first | refine as_gskip rfl rfl rfl rfl rfl ?_ | refine as_gskipU rfl rfl rfl rfl ?_ | refine as_gh rfl rfl rfl rfl (h_q rfl (q_neb (by kernel_rfl) rfl rfl) ?_)
    first | refine as_q rfl rfl (q_pick_t rfl rfl) ?_ | refine as_q rfl rfl (q_pick_f rfl rfl) ?_ | refine as_q rfl rfl (q_pick rfl rfl rfl) ?_
    refine as_q rfl rfl (q_move rfl) ?_
    first | refine as_gskip rfl rfl rfl rfl rfl ?_ | refine as_gskipU rfl rfl rfl rfl ?_ | refine as_gh rfl rfl rfl rfl (h_q rfl (q_move rfl) ?_)
    first | refine as_gskip rfl rfl rfl rfl rfl ?_ | refine as_gskipU rfl rfl rfl rfl ?_ | refine as_gh rfl rfl rfl rfl (h_q rfl (q_gtT rfl rfl (by omega)) ?_) | refine as_gh rfl rfl rfl rfl (h_q rfl (q_gtF rfl rfl (by omega)) ?_) | refine as_gh rfl rfl rfl rfl (h_q rfl (q_gt rfl rfl) ?_)
    first | refine as_q rfl rfl (q_pick_t rfl rfl) ?_ | refine as_q rfl rfl (q_pick_f rfl rfl) ?_ | refine as_q rfl rfl (q_pick rfl rfl rfl) ?_
    refine as_nil (hK31 _ _ ?_)
    clear hK31 K31
    refine cw_false rfl ?_
    refine cw_skip ?_
    refine hK30 _ _ ?_
    clear hK30 K30
    refine cw_seq fun K32 hK32 => ?_
    refine cw_rs fun K33 hK33 => ?_
    -- region 17
    refine as_q rfl rfl (q_move rfl) ?_
    first | refine as_q rfl rfl (q_gtT rfl rfl (by omega)) ?_ | refine as_q rfl rfl (q_gtF rfl rfl (by omega)) ?_ | refine as_q rfl rfl (q_gt rfl rfl) ?_
    refine as_nil (hK33 _ _ ?_)
    clear hK33 K33
    refine cw_true rfl ?_
    refine cw_rs fun K34 hK34 => ?_
    -- region 18
    refine as_q rfl rfl (q_move rfl) ?_
    first | refine as_q rfl rfl (q_eqT rfl rfl (by omega)) ?_ | refine as_q rfl rfl (q_eqF rfl rfl (by omega)) ?_ | refine as_q rfl rfl (q_eq rfl rfl) ?_
    refine as_q rfl rfl (q_assign rfl) ?_
    refine as_nil (hK34 _ _ ?_)
    clear hK34 K34
    refine cw_ret ?_
    exact ⟨_, (res_tmp rfl res_nil), rfl, hT.forget⟩
  · skip
    refine cw_skip ?_
    refine hK3 _ _ ?_
    clear hK3 K3
    refine cw_rs fun K35 hK35 => ?_
    -- region 4
    refine as_q rfl rfl (q_move rfl) ?_
    refine as_q rfl rfl (q_convx (by kernel_rfl) (by kernel_rfl) rfl (by first | exact wrap64_of (by omega) (by omega) | omega | (simp; omega))) ?_
    refine as_q rfl rfl (q_congr (q_rem rfl rfl (by omega)) (v' := .int .i64 k) (by rw [hk])) ?_
    refine as_q rfl rfl (q_assign rfl) ?_
    refine as_nil (hK35 _ _ ?_)
    clear hK35 K35
    refine cw_rs fun K36 hK36 => ?_
    -- region 5
    refine as_q rfl rfl (q_move rfl) ?_
    refine as_q rfl rfl (q_move rfl) ?_
    refine as_h rfl (h_makeM (e := 2) (size := 1) (bytes := 8) (z := .int .i64 0) (by kernel_rfl) (by kernel_rfl) hs1.sat rfl rfl (by omega) (by omega) (by omega) fun bm Mm w22 hs22 hm em => ?_)
    replace hT := hT.then hs22
    have hz22 := hs22.size
    replace hm : RdM _ 1 _ k.toNat (i64s (List.replicate k.toNat 0)) := hm.cast rfl rfl (by rw [Nat.mul_one]; exact (madeCells_one _ _).trans (by simp [i64s]))
    refine as_q rfl rfl (q_build (zs := [(.int .i64 0), (.slice none 0 0)]) (places := [(0, 1), (1, 1)]) (cs := [_, _]) (by kernel_rfl) (by kernel_rfl) rfl rfl) ?_
    refine as_h rfl (h_allocO (z := (.agg #[(.int .i64 0), (.slice none 0 0)])) hs22.sat (by kernel_rfl) rfl fun b9 w23 hs23 ho9 e9 => ?_)
    replace hm := hm.mono hs23.le
    replace hT := hT.then hs23
    have hz23 := hs23.size
    have hl9 := ho9.1.lt
    refine as_h0 (h_store hs23.sat ho9 rfl rfl rfl (by kernel_rfl) rfl rfl rfl fun w24 hs24 hn24 => ?_)
    replace hm := hm.mono hs24.le
    clear ho9; have ho9 := hn24; clear hn24
    replace hT := hT.own hs24 (by omega)
    have hz24 := hs24.size
    refine as_nil (hK36 _ _ ?_)
    clear hK36 K36
    refine cw_rs fun K37 hK37 => ?_
    -- region 6
    refine as_q rfl rfl (q_move rfl) ?_
    refine as_h rfl (h_call (by kernel_rfl) rfl ?_)
    refine (args_hi hs24.sat hc).mono ?_
    rintro _ w25 ⟨rfl, hs25⟩
    replace hm := hm.mono hs25.le
    replace ho9 := ho9.then hs25
    replace hT := hT.then hs25
    have hz25 := hs25.size
    refine as_q rfl rfl (q_move rfl) ?_
    refine as_q rfl rfl (q_extract rfl rfl) ?_
    refine as_q rfl rfl (q_extract rfl rfl) ?_
    refine as_q rfl rfl (q_assign rfl) ?_
    refine as_q rfl rfl (q_assign rfl) ?_
    refine as_nil (hK37 _ _ ?_)
    clear hK37 K37
    refine cw_rs fun K38 hK38 => ?_
    -- region 7
    refine as_q rfl rfl (q_assign rfl) ?_
    refine as_nil (hK38 _ _ ?_)
    clear hK38 K38
    refine cw_seq fun K39 hK39 => ?_
    refine cw_rs fun K40 hK40 => ?_
    -- region 8
    refine as_q rfl rfl (q_move rfl) ?_
    refine as_q rfl rfl (q_not rfl) ?_
    refine as_nil (hK40 _ _ ?_)
    clear hK40 K40
    refine cw_true rfl ?_
    refine cw_region fun K41 hK41 => ?_
    -- region 9
    refine as_q rfl rfl (q_assign rfl) ?_
    refine as_nil (hK41 _ _ ?_)
    clear hK41 K41
    refine hK39 _ _ ?_
    clear hK39 K39
    refine cw_rs fun K42 hK42 => ?_
    -- region 12
    refine as_q rfl rfl (q_move rfl) ?_
    refine as_q rfl rfl (q_congr (q_rem rfl rfl (by omega)) (v' := .int .u8 rm) (by rw [hrm])) ?_
    refine as_q rfl rfl (q_convx (by kernel_rfl) (by kernel_rfl) rfl (by first | exact wrap64_of (by omega) (by omega) | omega | (simp; omega))) ?_
    refine as_q rfl rfl (q_move rfl) ?_
    refine as_q rfl rfl (q_move rfl) ?_
    refine as_h rfl (h_buildO (e := 2) (size := 1) (zs := [(.int .i64 0), (.int .i64 0), (.int .i64 0)]) (cs := [_, _, _]) (by kernel_rfl) (by kernel_rfl) (by kernel_rfl) rfl hs25.sat rfl rfl fun bl w26 hs26 hol el => ?_)
    replace hm := hm.mono hs26.le
    replace ho9 := ho9.then hs26
    replace hT := hT.then hs26
    have hz26 := hs26.size
    have hll := hol.1.lt
    refine as_q rfl rfl (q_assign rfl) ?_
    refine as_nil (hK42 _ _ ?_)
    clear hK42 K42
    refine cw_rs fun K43 hK43 => ?_
    -- region 13
    refine as_q rfl rfl (q_move rfl) ?_
    refine as_q rfl rfl (q_fieldAddr (off := 1) (by kernel_rfl) rfl) ?_
    refine as_q rfl rfl (q_load1 (by kernel_rfl) rfl (by first | exact Blk.cell ho9.1 rfl | exact Blk.cell hol.1 rfl | assumption)) ?_
    have nofl : ∀ g, (Value.slice (some ⟨bl, 0, none⟩) 3 3).ownBlock = some g → w0.heap.size ≤ g := fun g hg => by have h : bl = g := Option.some.inj hg; have := hT.size; omega
    have hm9 := ho9.1.lt
    have hq27 := hT.size
    refine as_h rfl (h_append (e := 2) (size := 1) (bytes := 8) (by kernel_rfl) hs26.sat (Own.buf hol (n := 3) (size := 1) rfl (by decide)) (hm.rd hs26.sat) rfl rfl (i64s_one _) (by omega) rfl fun hdv w27 hs27 hdb hdo => ?_)
    replace hm := hm.mono hs27.le
    replace ho9 := ho9.step hs27 (fun h => by have h : bl = b9 := Option.some.inj h; omega)
    clear hol
    have hdf := floor_of hdo nofl hq27
    replace hT := hT.trans hs27 (fun k hk h => absurd (nofl k h) (by omega))
    have hz27 := hs27.size
    have hd9 := lt_of_app (B := b9) hdo (fun h => by have h : bl = b9 := Option.some.inj h; omega) (by omega)
    obtain ⟨Mn, hTn, hlen, hnum, hothn⟩ := hT.freezeB hdb hdf
    replace hnum : RdM Mn 1 hdv (3 + k.toNat) (i64s (rm :: c :: k :: List.replicate k.toNat 0)) := hnum
    replace ho9 := ho9.of_same (hothn _ hd9)
    clear hT hdb; have hT := hTn
    refine as_q rfl rfl (q_assign rfl) ?_
    refine as_nil (hK43 _ _ ?_)
    clear hK43 K43
    refine cw_rs fun K44 hK44 => ?_
    -- region 14
    refine as_q rfl rfl (q_move rfl) ?_
    refine as_h rfl (h_call (by kernel_rfl) rfl ?_)
    refine (parse18 hT.sat (by omega) hnum).mono ?_
    rintro v28 w28 ⟨M28, hs28, hp28⟩
    obtain ⟨ov, ts, rfl, hkk, hov, hag⟩ := hp28.ok (parse_one hrm0 hrm1 hk0 hk4)
    obtain ⟨tv, rfl⟩ := keyT_one hkk
    replace ho9 := ho9.then hs28
    replace hnum := hnum.mono hs28.le
    replace hT := hT.then hs28
    have hz28 := hs28.size
    replace hov : RdM _ 2 ov 1 (flat [(c, List.replicate k.toNat 0, tv)]) := hov
    obtain ⟨oa, oc, rfl, _⟩ := hov.slice
    obtain ⟨og, oo, rfl⟩ := hov.there (by decide)
    have hta : RdM _ 1 tv (List.replicate k.toNat (0 : Int)).length (i64s (List.replicate k.toNat 0)) := hag _ (List.mem_singleton.2 rfl)
    rw [List.length_replicate] at hta
    obtain ⟨ta, tc, rfl, _⟩ := hta.slice
    refine as_q rfl rfl (q_move rfl) ?_
    refine as_q rfl rfl (q_extract rfl rfl) ?_
    refine as_q rfl rfl (q_extract rfl rfl) ?_
    refine as_h rfl (h_allocO (z := (.agg #[(.int .i64 0), (.slice none 0 0)])) hs28.sat (by kernel_rfl) rfl fun b14 w29 hs29 ho14 e14 => ?_)
    replace ho9 := ho9.then hs29
    replace hnum := hnum.mono hs29.le
    replace hov := hov.mono hs29.le
    replace hag := hag.mono hs29.le
    replace hta := hta.mono hs29.le
    replace hT := hT.then hs29
    have hz29 := hs29.size
    have hl14 := ho14.1.lt
    refine as_h0 (h_store hs29.sat ho14 rfl rfl rfl (by kernel_rfl) rfl rfl rfl fun w30 hs30 hn30 => ?_)
    replace ho9 := ho9.step hs30 (fun h => by have h : _ = _ := h; omega)
    replace hnum := hnum.mono hs30.le
    replace hov := hov.mono hs30.le
    replace hag := hag.mono hs30.le
    replace hta := hta.mono hs30.le
    clear ho14; have ho14 := hn30; clear hn30
    replace hT := hT.own hs30 (by omega)
    have hz30 := hs30.size
    refine as_q rfl rfl (q_assign rfl) ?_
    refine as_nil (hK44 _ _ ?_)
    clear hK44 K44
    refine cw_seq fun K45 hK45 => ?_
    refine cw_rs fun K46 hK46 => ?_
    -- region 15
    refine as_q rfl rfl (q_loadc (n := 2) (by kernel_rfl) rfl (by first | exact Blk.cells ho9.1 rfl | exact Blk.cells ho14.1 rfl | assumption)) ?_
    refine as_h rfl (h_call (by kernel_rfl) rfl ?_)
    refine (right18 hs30.sat).mono ?_
    rintro v31 w31 ⟨hv31, hs31⟩
    obtain rfl : v31 = .int .i64 20 := hv31.trans (by rw [show rightOf c k.toNat = 20 from if_pos (Or.inr hc)])
    replace ho9 := ho9.then hs31
    replace hnum := hnum.mono hs31.le
    replace hov := hov.mono hs31.le
    replace hag := hag.mono hs31.le
    replace hta := hta.mono hs31.le
    replace ho14 := ho14.then hs31
    replace hT := hT.then hs31
    have hz31 := hs31.size
    refine as_q rfl rfl (q_move rfl) ?_
    first | refine as_q rfl rfl (q_neT rfl rfl (by omega)) ?_ | refine as_q rfl rfl (q_neF rfl rfl (by omega)) ?_ | refine as_q rfl rfl (q_ne rfl rfl) ?_
    refine as_q rfl rfl (q_move rfl) ?_
    first | refine as_gskip rfl rfl rfl rfl rfl ?_ | refine as_gskipU rfl rfl rfl rfl ?_ | refine as_gh rfl rfl rfl rfl (h_q rfl (q_move rfl) ?_)
    first | refine as_gskip rfl rfl rfl rfl rfl ?_ | refine as_gskipU rfl rfl rfl rfl ?_ | refine as_gh rfl rfl rfl rfl (h_q rfl (q_move rfl) ?_)
    first | refine as_gskip rfl rfl rfl rfl rfl ?_ | refine as_gskipU rfl rfl rfl rfl ?_ | refine as_gh rfl rfl rfl rfl (h_q rfl (q_geT rfl rfl (by omega)) ?_) | refine as_gh rfl rfl rfl rfl (h_q rfl (q_geF rfl rfl (by omega)) ?_) | refine as_gh rfl rfl rfl rfl (h_q rfl (q_ge rfl rfl) ?_)
    first | refine as_gskip rfl rfl rfl rfl rfl ?_ | refine as_gskipU rfl rfl rfl rfl ?_ | refine as_gh rfl rfl rfl rfl (h_q rfl (q_move rfl) ?_)
    first | refine as_gskip rfl rfl rfl rfl rfl ?_ | refine as_gskipU rfl rfl rfl rfl ?_ | refine as_gh rfl rfl rfl rfl (h_q rfl (q_move rfl) ?_)
    first | refine as_gskip rfl rfl rfl rfl rfl ?_ | refine as_gskipU rfl rfl rfl rfl ?_ | refine as_gh rfl rfl rfl rfl (h_q rfl (q_leT rfl rfl (by omega)) ?_) | refine as_gh rfl rfl rfl rfl (h_q rfl (q_leF rfl rfl (by omega)) ?_) | refine as_gh rfl rfl rfl rfl (h_q rfl (q_le rfl rfl) ?_)
    first | refine as_gskip rfl rfl rfl rfl rfl ?_ | refine as_gskipU rfl rfl rfl rfl ?_ | refine as_gh rfl rfl rfl rfl (h_q rfl (q_pick_t rfl rfl) ?_) | refine as_gh rfl rfl rfl rfl (h_q rfl (q_pick_f rfl rfl) ?_) | refine as_gh rfl rfl rfl rfl (h_q rfl (q_pick rfl rfl rfl) ?_)
    first | refine as_gskip rfl rfl rfl rfl rfl ?_ | refine as_gskipU rfl rfl rfl rfl ?_ | refine as_gh rfl rfl rfl rfl (h_q rfl (q_neb (by kernel_rfl) rfl rfl) ?_)
    first | refine as_q rfl rfl (q_pick_t rfl rfl) ?_ | refine as_q rfl rfl (q_pick_f rfl rfl) ?_ | refine as_q rfl rfl (q_pick rfl rfl rfl) ?_
    refine as_q rfl rfl (q_move rfl) ?_
    first | refine as_gskip rfl rfl rfl rfl rfl ?_ | refine as_gskipU rfl rfl rfl rfl ?_ | refine as_gh rfl rfl rfl rfl (h_q rfl (q_move rfl) ?_)
    first | refine as_gskip rfl rfl rfl rfl rfl ?_ | refine as_gskipU rfl rfl rfl rfl ?_ | refine as_gh rfl rfl rfl rfl (h_q rfl (q_gtT rfl rfl (by omega)) ?_) | refine as_gh rfl rfl rfl rfl (h_q rfl (q_gtF rfl rfl (by omega)) ?_) | refine as_gh rfl rfl rfl rfl (h_q rfl (q_gt rfl rfl) ?_)
    first | refine as_q rfl rfl (q_pick_t rfl rfl) ?_ | refine as_q rfl rfl (q_pick_f rfl rfl) ?_ | refine as_q rfl rfl (q_pick rfl rfl rfl) ?_
    refine as_nil (hK46 _ _ ?_)
    clear hK46 K46
    refine cw_false rfl ?_
    refine cw_skip ?_
    refine hK45 _ _ ?_
    clear hK45 K45
    refine cw_seq fun K47 hK47 => ?_
    refine cw_rs fun K48 hK48 => ?_
    -- region 17
    refine as_q rfl rfl (q_move rfl) ?_
    first | refine as_q rfl rfl (q_gtT rfl rfl (by omega)) ?_ | refine as_q rfl rfl (q_gtF rfl rfl (by omega)) ?_ | refine as_q rfl rfl (q_gt rfl rfl) ?_
    refine as_nil (hK48 _ _ ?_)
    clear hK48 K48
    refine cw_false rfl ?_
    refine cw_skip ?_
    refine hK47 _ _ ?_
    clear hK47 K47
    refine cw_rs fun K49 hK49 => ?_
    -- region 19
    refine as_q rfl rfl (q_move rfl) ?_
    first | refine as_q rfl rfl (q_eqT rfl rfl (by omega)) ?_ | refine as_q rfl rfl (q_eqF rfl rfl (by omega)) ?_ | refine as_q rfl rfl (q_eq rfl rfl) ?_
    refine as_q rfl rfl (q_move rfl) ?_
    first | refine as_gskip rfl rfl rfl rfl rfl ?_ | refine as_gskipU rfl rfl rfl rfl ?_ | refine as_gh rfl rfl rfl rfl (h_q rfl (q_fieldAddr (off := 0) (by kernel_rfl) rfl) ?_)
    first | refine as_gskip rfl rfl rfl rfl rfl ?_ | refine as_gskipU rfl rfl rfl rfl ?_ | refine as_gh rfl rfl rfl rfl (h_q rfl (q_load1 (by kernel_rfl) rfl (by first | exact Blk.cell ho9.1 rfl | exact Blk.cell ho14.1 rfl | assumption)) ?_)
    first | refine as_gskip rfl rfl rfl rfl rfl ?_ | refine as_gskipU rfl rfl rfl rfl ?_ | refine as_gh rfl rfl rfl rfl (h_q rfl (q_move rfl) ?_)
    first | refine as_gskip rfl rfl rfl rfl rfl ?_ | refine as_gskipU rfl rfl rfl rfl ?_ | refine as_gh rfl rfl rfl rfl (h_q rfl (q_congr (q_rem rfl rfl (by omega)) (v' := .int .u8 rm) (by rw [hrm])) ?_)
    first | refine as_gskip rfl rfl rfl rfl rfl ?_ | refine as_gskipU rfl rfl rfl rfl ?_ | refine as_gh rfl rfl rfl rfl (h_q rfl (q_convx (by kernel_rfl) (by kernel_rfl) rfl (by first | exact wrap64_of (by omega) (by omega) | omega | (simp; omega))) ?_)
    first | refine as_gskip rfl rfl rfl rfl rfl ?_ | refine as_gskipU rfl rfl rfl rfl ?_ | refine as_gh rfl rfl rfl rfl (h_q rfl (q_eqT rfl rfl (by omega)) ?_) | refine as_gh rfl rfl rfl rfl (h_q rfl (q_eqF rfl rfl (by omega)) ?_) | refine as_gh rfl rfl rfl rfl (h_q rfl (q_eq rfl rfl) ?_)
    first | refine as_q rfl rfl (q_pick_t rfl rfl) ?_ | refine as_q rfl rfl (q_pick_f rfl rfl) ?_ | refine as_q rfl rfl (q_pick rfl rfl rfl) ?_
    refine as_q rfl rfl (q_move rfl) ?_
    first | refine as_gskip rfl rfl rfl rfl rfl ?_ | refine as_gskipU rfl rfl rfl rfl ?_ | refine as_gh rfl rfl rfl rfl (h_q rfl (q_fieldAddr (off := 1) (by kernel_rfl) rfl) ?_)
    first | refine as_gskip rfl rfl rfl rfl rfl ?_ | refine as_gskipU rfl rfl rfl rfl ?_ | refine as_gh rfl rfl rfl rfl (h_q rfl (q_load1 (by kernel_rfl) rfl (by first | exact Blk.cell ho9.1 rfl | exact Blk.cell ho14.1 rfl | assumption)) ?_)
    first | refine as_gskip rfl rfl rfl rfl rfl ?_ | refine as_gskipU rfl rfl rfl rfl ?_ | refine as_gh rfl rfl rfl rfl (h_q rfl (q_len (by kernel_rfl) rfl _) ?_)
    first | refine as_gskip rfl rfl rfl rfl rfl ?_ | refine as_gskipU rfl rfl rfl rfl ?_ | refine as_gh rfl rfl rfl rfl (h_q rfl (q_eqT rfl rfl (by omega)) ?_) | refine as_gh rfl rfl rfl rfl (h_q rfl (q_eqF rfl rfl (by omega)) ?_) | refine as_gh rfl rfl rfl rfl (h_q rfl (q_eq rfl rfl) ?_)
    first | refine as_q rfl rfl (q_pick_t rfl rfl) ?_ | refine as_q rfl rfl (q_pick_f rfl rfl) ?_ | refine as_q rfl rfl (q_pick rfl rfl rfl) ?_
    refine as_q rfl rfl (q_move rfl) ?_
    first | refine as_gskip rfl rfl rfl rfl rfl ?_ | refine as_gskipU rfl rfl rfl rfl ?_ | refine as_gh rfl rfl rfl rfl (h_q rfl (q_fieldAddr (off := 1) (by kernel_rfl) rfl) ?_)
    first | refine as_gskip rfl rfl rfl rfl rfl ?_ | refine as_gskipU rfl rfl rfl rfl ?_ | refine as_gh rfl rfl rfl rfl (h_q rfl (q_load1 (by kernel_rfl) rfl (by first | exact Blk.cell ho9.1 rfl | exact Blk.cell ho14.1 rfl | assumption)) ?_)
    first | refine as_gskip rfl rfl rfl rfl rfl ?_ | refine as_gskipU rfl rfl rfl rfl ?_ | refine as_gh rfl rfl rfl rfl (h_q rfl (q_indexAddr (e := 51) (size := 2) (by kernel_rfl) (by kernel_rfl) rfl rfl (by omega) (by omega)) ?_)
    first | refine as_gskip rfl rfl rfl rfl rfl ?_ | refine as_gskipU rfl rfl rfl rfl ?_ | refine as_gh rfl rfl rfl rfl (h_q rfl (q_fieldAddr (off := 0) (by kernel_rfl) rfl) ?_)
    first | refine as_gskip rfl rfl rfl rfl rfl ?_ | refine as_gskipU rfl rfl rfl rfl ?_ | refine as_gh rfl rfl rfl rfl (h_q rfl (q_load1 (by kernel_rfl) rfl ((hov.elem (j := (0 : Int).toNat) hT.sat rfl (flat_elem (j := 0) rfl)).2 0 _ rfl)) ?_)
    first | refine as_gskip rfl rfl rfl rfl rfl ?_ | refine as_gskipU rfl rfl rfl rfl ?_ | refine as_gh rfl rfl rfl rfl (h_q rfl (q_move rfl) ?_)
    first | refine as_gskip rfl rfl rfl rfl rfl ?_ | refine as_gskipU rfl rfl rfl rfl ?_ | refine as_gh rfl rfl rfl rfl (h_q rfl (q_eqT rfl rfl (by omega)) ?_) | refine as_gh rfl rfl rfl rfl (h_q rfl (q_eqF rfl rfl (by omega)) ?_) | refine as_gh rfl rfl rfl rfl (h_q rfl (q_eq rfl rfl) ?_)
    first | refine as_q rfl rfl (q_pick_t rfl rfl) ?_ | refine as_q rfl rfl (q_pick_f rfl rfl) ?_ | refine as_q rfl rfl (q_pick rfl rfl rfl) ?_
    refine as_q rfl rfl (q_move rfl) ?_
    first | refine as_gskip rfl rfl rfl rfl rfl ?_ | refine as_gskipU rfl rfl rfl rfl ?_ | refine as_gh rfl rfl rfl rfl (h_q rfl (q_fieldAddr (off := 1) (by kernel_rfl) rfl) ?_)
    first | refine as_gskip rfl rfl rfl rfl rfl ?_ | refine as_gskipU rfl rfl rfl rfl ?_ | refine as_gh rfl rfl rfl rfl (h_q rfl (q_load1 (by kernel_rfl) rfl (by first | exact Blk.cell ho9.1 rfl | exact Blk.cell ho14.1 rfl | assumption)) ?_)
    first | refine as_gskip rfl rfl rfl rfl rfl ?_ | refine as_gskipU rfl rfl rfl rfl ?_ | refine as_gh rfl rfl rfl rfl (h_q rfl (q_indexAddr (e := 51) (size := 2) (by kernel_rfl) (by kernel_rfl) rfl rfl (by omega) (by omega)) ?_)
    first | refine as_gskip rfl rfl rfl rfl rfl ?_ | refine as_gskipU rfl rfl rfl rfl ?_ | refine as_gh rfl rfl rfl rfl (h_q rfl (q_fieldAddr (off := 1) (by kernel_rfl) rfl) ?_)
    first | refine as_gskip rfl rfl rfl rfl rfl ?_ | refine as_gskipU rfl rfl rfl rfl ?_ | refine as_gh rfl rfl rfl rfl (h_q rfl (q_load1 (by kernel_rfl) rfl ((hov.elem (j := (0 : Int).toNat) hT.sat rfl (flat_elem (j := 0) rfl)).2 1 _ rfl)) ?_)
    first | refine as_gskip rfl rfl rfl rfl rfl ?_ | refine as_gskipU rfl rfl rfl rfl ?_ | refine as_gh rfl rfl rfl rfl (h_q rfl (q_len (by kernel_rfl) rfl _) ?_)
    first | refine as_gskip rfl rfl rfl rfl rfl ?_ | refine as_gskipU rfl rfl rfl rfl ?_ | refine as_gh rfl rfl rfl rfl (h_q rfl (q_move rfl) ?_)
    first | refine as_gskip rfl rfl rfl rfl rfl ?_ | refine as_gskipU rfl rfl rfl rfl ?_ | refine as_gh rfl rfl rfl rfl (h_q rfl (q_eqT rfl rfl (by omega)) ?_) | refine as_gh rfl rfl rfl rfl (h_q rfl (q_eqF rfl rfl (by omega)) ?_) | refine as_gh rfl rfl rfl rfl (h_q rfl (q_eq rfl rfl) ?_)
    first | refine as_q rfl rfl (q_pick_t rfl rfl) ?_ | refine as_q rfl rfl (q_pick_f rfl rfl) ?_ | refine as_q rfl rfl (q_pick rfl rfl rfl) ?_
    refine as_q rfl rfl (q_assign rfl) ?_
    refine as_nil (hK49 _ _ ?_)
    clear hK49 K49
    refine cw_ret ?_
    exact ⟨_, (res_tmp rfl res_nil), rfl, hT.forget⟩
  · skip
    refine cw_skip ?_
    refine hK3 _ _ ?_
    clear hK3 K3
    refine cw_rs fun K50 hK50 => ?_
    -- region 4
    refine as_q rfl rfl (q_move rfl) ?_
    refine as_q rfl rfl (q_convx (by kernel_rfl) (by kernel_rfl) rfl (by first | exact wrap64_of (by omega) (by omega) | omega | (simp; omega))) ?_
    refine as_q rfl rfl (q_congr (q_rem rfl rfl (by omega)) (v' := .int .i64 k) (by rw [hk])) ?_
    refine as_q rfl rfl (q_assign rfl) ?_
    refine as_nil (hK50 _ _ ?_)
    clear hK50 K50
    refine cw_rs fun K51 hK51 => ?_
    -- region 5
    refine as_q rfl rfl (q_move rfl) ?_
    refine as_q rfl rfl (q_move rfl) ?_
    refine as_h rfl (h_makeM (e := 2) (size := 1) (bytes := 8) (z := .int .i64 0) (by kernel_rfl) (by kernel_rfl) hs1.sat rfl rfl (by omega) (by omega) (by omega) fun bm Mm w32 hs32 hm em => ?_)
    replace hT := hT.then hs32
    have hz32 := hs32.size
    replace hm : RdM _ 1 _ k.toNat (i64s (List.replicate k.toNat 0)) := hm.cast rfl rfl (by rw [Nat.mul_one]; exact (madeCells_one _ _).trans (by simp [i64s]))
    refine as_q rfl rfl (q_build (zs := [(.int .i64 0), (.slice none 0 0)]) (places := [(0, 1), (1, 1)]) (cs := [_, _]) (by kernel_rfl) (by kernel_rfl) rfl rfl) ?_
    refine as_h rfl (h_allocO (z := (.agg #[(.int .i64 0), (.slice none 0 0)])) hs32.sat (by kernel_rfl) rfl fun b9 w33 hs33 ho9 e9 => ?_)
    replace hm := hm.mono hs33.le
    replace hT := hT.then hs33
    have hz33 := hs33.size
    have hl9 := ho9.1.lt
    refine as_h0 (h_store hs33.sat ho9 rfl rfl rfl (by kernel_rfl) rfl rfl rfl fun w34 hs34 hn34 => ?_)
    replace hm := hm.mono hs34.le
    clear ho9; have ho9 := hn34; clear hn34
    replace hT := hT.own hs34 (by omega)
    have hz34 := hs34.size
    refine as_nil (hK51 _ _ ?_)
    clear hK51 K51
    refine cw_rs fun K52 hK52 => ?_
    -- region 6
    refine as_q rfl rfl (q_move rfl) ?_
    refine as_h rfl (h_call (by kernel_rfl) rfl ?_)
    refine (args_hi hs34.sat hc).mono ?_
    rintro _ w35 ⟨rfl, hs35⟩
    replace hm := hm.mono hs35.le
    replace ho9 := ho9.then hs35
    replace hT := hT.then hs35
    have hz35 := hs35.size
    refine as_q rfl rfl (q_move rfl) ?_
    refine as_q rfl rfl (q_extract rfl rfl) ?_
    refine as_q rfl rfl (q_extract rfl rfl) ?_
    refine as_q rfl rfl (q_assign rfl) ?_
    refine as_q rfl rfl (q_assign rfl) ?_
    refine as_nil (hK52 _ _ ?_)
    clear hK52 K52
    refine cw_rs fun K53 hK53 => ?_
    -- region 7
    refine as_q rfl rfl (q_assign rfl) ?_
    refine as_nil (hK53 _ _ ?_)
    clear hK53 K53
    refine cw_seq fun K54 hK54 => ?_
    refine cw_rs fun K55 hK55 => ?_
    -- region 8
    refine as_q rfl rfl (q_move rfl) ?_
    refine as_q rfl rfl (q_not rfl) ?_
    refine as_nil (hK55 _ _ ?_)
    clear hK55 K55
    refine cw_true rfl ?_
    refine cw_region fun K56 hK56 => ?_
    -- region 9
    refine as_q rfl rfl (q_assign rfl) ?_
    refine as_nil (hK56 _ _ ?_)
    clear hK56 K56
    refine hK54 _ _ ?_
    clear hK54 K54
    refine cw_rs fun K57 hK57 => ?_
    -- region 12
    refine as_q rfl rfl (q_move rfl) ?_
    refine as_q rfl rfl (q_congr (q_rem rfl rfl (by omega)) (v' := .int .u8 rm) (by rw [hrm])) ?_
    refine as_q rfl rfl (q_convx (by kernel_rfl) (by kernel_rfl) rfl (by first | exact wrap64_of (by omega) (by omega) | omega | (simp; omega))) ?_
    refine as_q rfl rfl (q_move rfl) ?_
    refine as_q rfl rfl (q_move rfl) ?_
    refine as_h rfl (h_buildO (e := 2) (size := 1) (zs := [(.int .i64 0), (.int .i64 0), (.int .i64 0)]) (cs := [_, _, _]) (by kernel_rfl) (by kernel_rfl) (by kernel_rfl) rfl hs35.sat rfl rfl fun bl w36 hs36 hol el => ?_)
    replace hm := hm.mono hs36.le
    replace ho9 := ho9.then hs36
    replace hT := hT.then hs36
    have hz36 := hs36.size
    have hll := hol.1.lt
    refine as_q rfl rfl (q_assign rfl) ?_
    refine as_nil (hK57 _ _ ?_)
    clear hK57 K57
    refine cw_rs fun K58 hK58 => ?_
    -- region 13
    refine as_q rfl rfl (q_move rfl) ?_
    refine as_q rfl rfl (q_fieldAddr (off := 1) (by kernel_rfl) rfl) ?_
    refine as_q rfl rfl (q_load1 (by kernel_rfl) rfl (by first | exact Blk.cell ho9.1 rfl | exact Blk.cell hol.1 rfl | assumption)) ?_
    have nofl : ∀ g, (Value.slice (some ⟨bl, 0, none⟩) 3 3).ownBlock = some g → w0.heap.size ≤ g := fun g hg => by have h : bl = g := Option.some.inj hg; have := hT.size; omega
    have hm9 := ho9.1.lt
    have hq37 := hT.size
    refine as_h rfl (h_append (e := 2) (size := 1) (bytes := 8) (by kernel_rfl) hs36.sat (Own.buf hol (n := 3) (size := 1) rfl (by decide)) (hm.rd hs36.sat) rfl rfl (i64s_one _) (by omega) rfl fun hdv w37 hs37 hdb hdo => ?_)
    replace hm := hm.mono hs37.le
    replace ho9 := ho9.step hs37 (fun h => by have h : bl = b9 := Option.some.inj h; omega)
    clear hol
    have hdf := floor_of hdo nofl hq37
    replace hT := hT.trans hs37 (fun k hk h => absurd (nofl k h) (by omega))
    have hz37 := hs37.size
    have hd9 := lt_of_app (B := b9) hdo (fun h => by have h : bl = b9 := Option.some.inj h; omega) (by omega)
    obtain ⟨Mn, hTn, hlen, hnum, hothn⟩ := hT.freezeB hdb hdf
    replace hnum : RdM Mn 1 hdv (3 + k.toNat) (i64s (rm :: c :: k :: List.replicate k.toNat 0)) := hnum
    replace ho9 := ho9.of_same (hothn _ hd9)
    clear hT hdb; have hT := hTn
    refine as_q rfl rfl (q_assign rfl) ?_
    refine as_nil (hK58 _ _ ?_)
    clear hK58 K58
    refine cw_rs fun K59 hK59 => ?_
    -- region 14
    refine as_q rfl rfl (q_move rfl) ?_
    refine as_h rfl (h_call (by kernel_rfl) rfl ?_)
    refine (parse18 hT.sat (by omega) hnum).mono ?_
    rintro v38 w38 ⟨M38, hs38, hp38⟩
    obtain ⟨pa, pc, rfl, _⟩ := hp38.no (parse_many hrm0 hrm1 hk4)
    replace ho9 := ho9.then hs38
    replace hnum := hnum.mono hs38.le
    replace hT := hT.then hs38
    have hz38 := hs38.size
    refine as_q rfl rfl (q_move rfl) ?_
    refine as_q rfl rfl (q_extract rfl rfl) ?_
    refine as_q rfl rfl (q_extract rfl rfl) ?_
    refine as_h rfl (h_allocO (z := (.agg #[(.int .i64 0), (.slice none 0 0)])) hs38.sat (by kernel_rfl) rfl fun b14 w39 hs39 ho14 e14 => ?_)
    replace ho9 := ho9.then hs39
    replace hnum := hnum.mono hs39.le
    replace hT := hT.then hs39
    have hz39 := hs39.size
    have hl14 := ho14.1.lt
    refine as_h0 (h_store hs39.sat ho14 rfl rfl rfl (by kernel_rfl) rfl rfl rfl fun w40 hs40 hn40 => ?_)
    replace ho9 := ho9.step hs40 (fun h => by have h : _ = _ := h; omega)
    replace hnum := hnum.mono hs40.le
    clear ho14; have ho14 := hn40; clear hn40
    replace hT := hT.own hs40 (by omega)
    have hz40 := hs40.size
    refine as_q rfl rfl (q_assign rfl) ?_
    refine as_nil (hK59 _ _ ?_)
    clear hK59 K59
    refine cw_seq fun K60 hK60 => ?_
    refine cw_rs fun K61 hK61 => ?_
    -- region 15
    refine as_q rfl rfl (q_loadc (n := 2) (by kernel_rfl) rfl (by first | exact Blk.cells ho9.1 rfl | exact Blk.cells ho14.1 rfl | assumption)) ?_
    refine as_h rfl (h_call (by kernel_rfl) rfl ?_)
    refine (right18 hs40.sat).mono ?_
    rintro v41 w41 ⟨hv41, hs41⟩
    obtain rfl : v41 = .int .i64 20 := hv41.trans (by rw [show rightOf c k.toNat = 20 from if_pos (Or.inr hc)])
    replace ho9 := ho9.then hs41
    replace hnum := hnum.mono hs41.le
    replace ho14 := ho14.then hs41
    replace hT := hT.then hs41
    have hz41 := hs41.size
    refine as_q rfl rfl (q_move rfl) ?_
    first | refine as_q rfl rfl (q_neT rfl rfl (by omega)) ?_ | refine as_q rfl rfl (q_neF rfl rfl (by omega)) ?_ | refine as_q rfl rfl (q_ne rfl rfl) ?_
    refine as_q rfl rfl (q_move rfl) ?_
    first | refine as_gskip rfl rfl rfl rfl rfl ?_ | refine as_gskipU rfl rfl rfl rfl ?_ | refine as_gh rfl rfl rfl rfl (h_q rfl (q_move rfl) ?_)
    first | refine as_gskip rfl rfl rfl rfl rfl ?_ | refine as_gskipU rfl rfl rfl rfl ?_ | refine as_gh rfl rfl rfl rfl (h_q rfl (q_move rfl) ?_)
    first | refine as_gskip rfl rfl rfl rfl rfl ?_ | refine as_gskipU rfl rfl rfl rfl ?_ | refine as_gh rfl rfl rfl rfl (h_q rfl (q_geT rfl rfl (by omega)) ?_) | refine as_gh rfl rfl rfl rfl (h_q rfl (q_geF rfl rfl (by omega)) ?_) | refine as_gh rfl rfl rfl rfl (h_q rfl (q_ge rfl rfl) ?_)
    first | refine as_gskip rfl rfl rfl rfl rfl ?_ | refine as_gskipU rfl rfl rfl rfl ?_ | refine as_gh rfl rfl rfl rfl (h_q rfl (q_move rfl) ?_)
    first | refine as_gskip rfl rfl rfl rfl rfl ?_ | refine as_gskipU rfl rfl rfl rfl ?_ | refine as_gh rfl rfl rfl rfl (h_q rfl (q_move rfl) ?_)
    first | refine as_gskip rfl rfl rfl rfl rfl ?_ | refine as_gskipU rfl rfl rfl rfl ?_ | refine as_gh rfl rfl rfl rfl (h_q rfl (q_leT rfl rfl (by omega)) ?_) | refine as_gh rfl rfl rfl rfl (h_q rfl (q_leF rfl rfl (by omega)) ?_) | refine as_gh rfl rfl rfl rfl (h_q rfl (q_le rfl rfl) ?_)
    first | refine as_gskip rfl rfl rfl rfl rfl ?_ | refine as_gskipU rfl rfl rfl rfl ?_ | refine as_gh rfl rfl rfl rfl (h_q rfl (q_pick_t rfl rfl) ?_) | refine as_gh rfl rfl rfl rfl (h_q rfl (q_pick_f rfl rfl) ?_) | refine as_gh rfl rfl rfl rfl (h_q rfl (q_pick rfl rfl rfl) ?_)
    first | refine as_gskip rfl rfl rfl rfl rfl ?_ | refine as_gskipU rfl rfl rfl rfl ?_ | refine as_gh rfl rfl rfl rfl (h_q rfl (q_neb (by kernel_rfl) rfl rfl) ?_)
    first | refine as_q rfl rfl (q_pick_t rfl rfl) ?_ | refine as_q rfl rfl (q_pick_f rfl rfl) ?_ | refine as_q rfl rfl (q_pick rfl rfl rfl) ?_
    refine as_q rfl rfl (q_move rfl) ?_
    first | refine as_gskip rfl rfl rfl rfl rfl ?_ | refine as_gskipU rfl rfl rfl rfl ?_ | refine as_gh rfl rfl rfl rfl (h_q rfl (q_move rfl) ?_)
    first | refine as_gskip rfl rfl rfl rfl rfl ?_ | refine as_gskipU rfl rfl rfl rfl ?_ | refine as_gh rfl rfl rfl rfl (h_q rfl (q_gtT rfl rfl (by omega)) ?_) | refine as_gh rfl rfl rfl rfl (h_q rfl (q_gtF rfl rfl (by omega)) ?_) | refine as_gh rfl rfl rfl rfl (h_q rfl (q_gt rfl rfl) ?_)
    first | refine as_q rfl rfl (q_pick_t rfl rfl) ?_ | refine as_q rfl rfl (q_pick_f rfl rfl) ?_ | refine as_q rfl rfl (q_pick rfl rfl rfl) ?_
    refine as_nil (hK61 _ _ ?_)
    clear hK61 K61
    refine cw_false rfl ?_
    refine cw_skip ?_
    refine hK60 _ _ ?_
    clear hK60 K60
    refine cw_seq fun K62 hK62 => ?_
    refine cw_rs fun K63 hK63 => ?_
    -- region 17
    refine as_q rfl rfl (q_move rfl) ?_
    first | refine as_q rfl rfl (q_gtT rfl rfl (by omega)) ?_ | refine as_q rfl rfl (q_gtF rfl rfl (by omega)) ?_ | refine as_q rfl rfl (q_gt rfl rfl) ?_
    refine as_nil (hK63 _ _ ?_)
    clear hK63 K63
    refine cw_true rfl ?_
    refine cw_rs fun K64 hK64 => ?_
    -- region 18
    refine as_q rfl rfl (q_move rfl) ?_
    first | refine as_q rfl rfl (q_eqT rfl rfl (by omega)) ?_ | refine as_q rfl rfl (q_eqF rfl rfl (by omega)) ?_ | refine as_q rfl rfl (q_eq rfl rfl) ?_
    refine as_q rfl rfl (q_assign rfl) ?_
    refine as_nil (hK64 _ _ ?_)
    clear hK64 K64
    refine cw_ret ?_
    exact ⟨_, (res_tmp rfl res_nil), rfl, hT.forget⟩
  · skip
    refine cw_skip ?_
    refine hK3 _ _ ?_
    clear hK3 K3
    refine cw_rs fun K65 hK65 => ?_
    -- region 4
    refine as_q rfl rfl (q_move rfl) ?_
    refine as_q rfl rfl (q_convx (by kernel_rfl) (by kernel_rfl) rfl (by first | exact wrap64_of (by omega) (by omega) | omega | (simp; omega))) ?_
    refine as_q rfl rfl (q_congr (q_rem rfl rfl (by omega)) (v' := .int .i64 k) (by rw [hk])) ?_
    refine as_q rfl rfl (q_assign rfl) ?_
    refine as_nil (hK65 _ _ ?_)
    clear hK65 K65
    refine cw_rs fun K66 hK66 => ?_
    -- region 5
    refine as_q rfl rfl (q_move rfl) ?_
    refine as_q rfl rfl (q_move rfl) ?_
    refine as_h rfl (h_makeM (e := 2) (size := 1) (bytes := 8) (z := .int .i64 0) (by kernel_rfl) (by kernel_rfl) hs1.sat rfl rfl (by omega) (by omega) (by omega) fun bm Mm w42 hs42 hm em => ?_)
    replace hT := hT.then hs42
    have hz42 := hs42.size
    replace hm : RdM _ 1 _ k.toNat (i64s (List.replicate k.toNat 0)) := hm.cast rfl rfl (by rw [Nat.mul_one]; exact (madeCells_one _ _).trans (by simp [i64s]))
    refine as_q rfl rfl (q_build (zs := [(.int .i64 0), (.slice none 0 0)]) (places := [(0, 1), (1, 1)]) (cs := [_, _]) (by kernel_rfl) (by kernel_rfl) rfl rfl) ?_
    refine as_h rfl (h_allocO (z := (.agg #[(.int .i64 0), (.slice none 0 0)])) hs42.sat (by kernel_rfl) rfl fun b9 w43 hs43 ho9 e9 => ?_)
    replace hm := hm.mono hs43.le
    replace hT := hT.then hs43
    have hz43 := hs43.size
    have hl9 := ho9.1.lt
    refine as_h0 (h_store hs43.sat ho9 rfl rfl rfl (by kernel_rfl) rfl rfl rfl fun w44 hs44 hn44 => ?_)
    replace hm := hm.mono hs44.le
    clear ho9; have ho9 := hn44; clear hn44
    replace hT := hT.own hs44 (by omega)
    have hz44 := hs44.size
    refine as_nil (hK66 _ _ ?_)
    clear hK66 K66
    refine cw_rs fun K67 hK67 => ?_
    -- region 6
    refine as_q rfl rfl (q_move rfl) ?_
    refine as_h rfl (h_call (by kernel_rfl) rfl ?_)
    refine (args_in hs44.sat hc1 hc2).mono ?_
    rintro _ w45 ⟨rfl, hs45⟩
    replace hm := hm.mono hs45.le
    replace ho9 := ho9.then hs45
    replace hT := hT.then hs45
    have hz45 := hs45.size
    refine as_q rfl rfl (q_move rfl) ?_
    refine as_q rfl rfl (q_extract rfl rfl) ?_
    refine as_q rfl rfl (q_extract rfl rfl) ?_
    refine as_q rfl rfl (q_assign rfl) ?_
    refine as_q rfl rfl (q_assign rfl) ?_
    refine as_nil (hK67 _ _ ?_)
    clear hK67 K67
    refine cw_rs fun K68 hK68 => ?_
    -- region 7
    refine as_q rfl rfl (q_assign rfl) ?_
    refine as_nil (hK68 _ _ ?_)
    clear hK68 K68
    refine cw_seq fun K69 hK69 => ?_
    refine cw_rs fun K70 hK70 => ?_
    -- region 8
    refine as_q rfl rfl (q_move rfl) ?_
    refine as_q rfl rfl (q_not rfl) ?_
    refine as_nil (hK70 _ _ ?_)
    clear hK70 K70
    refine cw_false rfl ?_
    refine cw_rs fun K71 hK71 => ?_
    -- region 10
    refine as_q rfl rfl (q_move rfl) ?_
    refine as_q rfl rfl (q_move rfl) ?_
    first | refine as_q rfl rfl (q_neT rfl rfl (by omega)) ?_ | refine as_q rfl rfl (q_neF rfl rfl (by omega)) ?_ | refine as_q rfl rfl (q_ne rfl rfl) ?_
    refine as_nil (hK71 _ _ ?_)
    clear hK71 K71
    refine cw_false rfl ?_
    refine cw_skip ?_
    refine hK69 _ _ ?_
    clear hK69 K69
    refine cw_rs fun K72 hK72 => ?_
    -- region 12
    refine as_q rfl rfl (q_move rfl) ?_
    refine as_q rfl rfl (q_congr (q_rem rfl rfl (by omega)) (v' := .int .u8 rm) (by rw [hrm])) ?_
    refine as_q rfl rfl (q_convx (by kernel_rfl) (by kernel_rfl) rfl (by first | exact wrap64_of (by omega) (by omega) | omega | (simp; omega))) ?_
    refine as_q rfl rfl (q_move rfl) ?_
    refine as_q rfl rfl (q_move rfl) ?_
    refine as_h rfl (h_buildO (e := 2) (size := 1) (zs := [(.int .i64 0), (.int .i64 0), (.int .i64 0)]) (cs := [_, _, _]) (by kernel_rfl) (by kernel_rfl) (by kernel_rfl) rfl hs45.sat rfl rfl fun bl w46 hs46 hol el => ?_)
    replace hm := hm.mono hs46.le
    replace ho9 := ho9.then hs46
    replace hT := hT.then hs46
    have hz46 := hs46.size
    have hll := hol.1.lt
    refine as_q rfl rfl (q_assign rfl) ?_
    refine as_nil (hK72 _ _ ?_)
    clear hK72 K72
    refine cw_rs fun K73 hK73 => ?_
    -- region 13
    refine as_q rfl rfl (q_move rfl) ?_
    refine as_q rfl rfl (q_fieldAddr (off := 1) (by kernel_rfl) rfl) ?_
    refine as_q rfl rfl (q_load1 (by kernel_rfl) rfl (by first | exact Blk.cell ho9.1 rfl | exact Blk.cell hol.1 rfl | assumption)) ?_
    have nofl : ∀ g, (Value.slice (some ⟨bl, 0, none⟩) 3 3).ownBlock = some g → w0.heap.size ≤ g := fun g hg => by have h : bl = g := Option.some.inj hg; have := hT.size; omega
    have hm9 := ho9.1.lt
    have hq47 := hT.size
    refine as_h rfl (h_append (e := 2) (size := 1) (bytes := 8) (by kernel_rfl) hs46.sat (Own.buf hol (n := 3) (size := 1) rfl (by decide)) (hm.rd hs46.sat) rfl rfl (i64s_one _) (by omega) rfl fun hdv w47 hs47 hdb hdo => ?_)
    replace hm := hm.mono hs47.le
    replace ho9 := ho9.step hs47 (fun h => by have h : bl = b9 := Option.some.inj h; omega)
    clear hol
    have hdf := floor_of hdo nofl hq47
    replace hT := hT.trans hs47 (fun k hk h => absurd (nofl k h) (by omega))
    have hz47 := hs47.size
    have hd9 := lt_of_app (B := b9) hdo (fun h => by have h : bl = b9 := Option.some.inj h; omega) (by omega)
    obtain ⟨Mn, hTn, hlen, hnum, hothn⟩ := hT.freezeB hdb hdf
    replace hnum : RdM Mn 1 hdv (3 + k.toNat) (i64s (rm :: c :: k :: List.replicate k.toNat 0)) := hnum
    replace ho9 := ho9.of_same (hothn _ hd9)
    clear hT hdb; have hT := hTn
    refine as_q rfl rfl (q_assign rfl) ?_
    refine as_nil (hK73 _ _ ?_)
    clear hK73 K73
    refine cw_rs fun K74 hK74 => ?_
    -- region 14
    refine as_q rfl rfl (q_move rfl) ?_
    refine as_h rfl (h_call (by kernel_rfl) rfl ?_)
    refine (parse18 hT.sat (by omega) hnum).mono ?_
    rintro v48 w48 ⟨M48, hs48, hp48⟩
    obtain ⟨ov, ts, rfl, hkk, hov, hag⟩ := hp48.ok (parse_one hrm0 hrm1 hk0 hk4)
    obtain ⟨tv, rfl⟩ := keyT_one hkk
    replace ho9 := ho9.then hs48
    replace hnum := hnum.mono hs48.le
    replace hT := hT.then hs48
    have hz48 := hs48.size
    replace hov : RdM _ 2 ov 1 (flat [(c, List.replicate k.toNat 0, tv)]) := hov
    obtain ⟨oa, oc, rfl, _⟩ := hov.slice
    obtain ⟨og, oo, rfl⟩ := hov.there (by decide)
    have hta : RdM _ 1 tv (List.replicate k.toNat (0 : Int)).length (i64s (List.replicate k.toNat 0)) := hag _ (List.mem_singleton.2 rfl)
    rw [List.length_replicate] at hta
    obtain ⟨ta, tc, rfl, _⟩ := hta.slice
    refine as_q rfl rfl (q_move rfl) ?_
    refine as_q rfl rfl (q_extract rfl rfl) ?_
    refine as_q rfl rfl (q_extract rfl rfl) ?_
    refine as_h rfl (h_allocO (z := (.agg #[(.int .i64 0), (.slice none 0 0)])) hs48.sat (by kernel_rfl) rfl fun b14 w49 hs49 ho14 e14 => ?_)
    replace ho9 := ho9.then hs49
    replace hnum := hnum.mono hs49.le
    replace hov := hov.mono hs49.le
    replace hag := hag.mono hs49.le
    replace hta := hta.mono hs49.le
    replace hT := hT.then hs49
    have hz49 := hs49.size
    have hl14 := ho14.1.lt
    refine as_h0 (h_store hs49.sat ho14 rfl rfl rfl (by kernel_rfl) rfl rfl rfl fun w50 hs50 hn50 => ?_)
    replace ho9 := ho9.step hs50 (fun h => by have h : _ = _ := h; omega)
    replace hnum := hnum.mono hs50.le
    replace hov := hov.mono hs50.le
    replace hag := hag.mono hs50.le
    replace hta := hta.mono hs50.le
    clear ho14; have ho14 := hn50; clear hn50
    replace hT := hT.own hs50 (by omega)
    have hz50 := hs50.size
    refine as_q rfl rfl (q_assign rfl) ?_
    refine as_nil (hK74 _ _ ?_)
    clear hK74 K74
    refine cw_seq fun K75 hK75 => ?_
    refine cw_rs fun K76 hK76 => ?_
    -- region 15
    refine as_q rfl rfl (q_loadc (n := 2) (by kernel_rfl) rfl (by first | exact Blk.cells ho9.1 rfl | exact Blk.cells ho14.1 rfl | assumption)) ?_
    refine as_h rfl (h_call (by kernel_rfl) rfl ?_)
    refine (right18 hs50.sat).mono ?_
    rintro v51 w51 ⟨hv51, hs51⟩
    obtain rfl : v51 = .int .i64 0 := hv51.trans (by rw [show rightOf c k.toNat = 0 from (if_neg (by omega)).trans (if_pos (by omega))])
    replace ho9 := ho9.then hs51
    replace hnum := hnum.mono hs51.le
    replace hov := hov.mono hs51.le
    replace hag := hag.mono hs51.le
    replace hta := hta.mono hs51.le
    replace ho14 := ho14.then hs51
    replace hT := hT.then hs51
    have hz51 := hs51.size
    refine as_q rfl rfl (q_move rfl) ?_
    first | refine as_q rfl rfl (q_neT rfl rfl (by omega)) ?_ | refine as_q rfl rfl (q_neF rfl rfl (by omega)) ?_ | refine as_q rfl rfl (q_ne rfl rfl) ?_
    refine as_q rfl rfl (q_move rfl) ?_
    first | refine as_gskip rfl rfl rfl rfl rfl ?_ | refine as_gskipU rfl rfl rfl rfl ?_ | refine as_gh rfl rfl rfl rfl (h_q rfl (q_move rfl) ?_)
    first | refine as_gskip rfl rfl rfl rfl rfl ?_ | refine as_gskipU rfl rfl rfl rfl ?_ | refine as_gh rfl rfl rfl rfl (h_q rfl (q_move rfl) ?_)
    first | refine as_gskip rfl rfl rfl rfl rfl ?_ | refine as_gskipU rfl rfl rfl rfl ?_ | refine as_gh rfl rfl rfl rfl (h_q rfl (q_geT rfl rfl (by omega)) ?_) | refine as_gh rfl rfl rfl rfl (h_q rfl (q_geF rfl rfl (by omega)) ?_) | refine as_gh rfl rfl rfl rfl (h_q rfl (q_ge rfl rfl) ?_)
    first | refine as_gskip rfl rfl rfl rfl rfl ?_ | refine as_gskipU rfl rfl rfl rfl ?_ | refine as_gh rfl rfl rfl rfl (h_q rfl (q_move rfl) ?_)
    first | refine as_gskip rfl rfl rfl rfl rfl ?_ | refine as_gskipU rfl rfl rfl rfl ?_ | refine as_gh rfl rfl rfl rfl (h_q rfl (q_move rfl) ?_)
    first | refine as_gskip rfl rfl rfl rfl rfl ?_ | refine as_gskipU rfl rfl rfl rfl ?_ | refine as_gh rfl rfl rfl rfl (h_q rfl (q_leT rfl rfl (by omega)) ?_) | refine as_gh rfl rfl rfl rfl (h_q rfl (q_leF rfl rfl (by omega)) ?_) | refine as_gh rfl rfl rfl rfl (h_q rfl (q_le rfl rfl) ?_)
    first | refine as_gskip rfl rfl rfl rfl rfl ?_ | refine as_gskipU rfl rfl rfl rfl ?_ | refine as_gh rfl rfl rfl rfl (h_q rfl (q_pick_t rfl rfl) ?_) | refine as_gh rfl rfl rfl rfl (h_q rfl (q_pick_f rfl rfl) ?_) | refine as_gh rfl rfl rfl rfl (h_q rfl (q_pick rfl rfl rfl) ?_)
    first | refine as_gskip rfl rfl rfl rfl rfl ?_ | refine as_gskipU rfl rfl rfl rfl ?_ | refine as_gh rfl rfl rfl rfl (h_q rfl (q_neb (by kernel_rfl) rfl rfl) ?_)
    first | refine as_q rfl rfl (q_pick_t rfl rfl) ?_ | refine as_q rfl rfl (q_pick_f rfl rfl) ?_ | refine as_q rfl rfl (q_pick rfl rfl rfl) ?_
    refine as_q rfl rfl (q_move rfl) ?_
    first | refine as_gskip rfl rfl rfl rfl rfl ?_ | refine as_gskipU rfl rfl rfl rfl ?_ | refine as_gh rfl rfl rfl rfl (h_q rfl (q_move rfl) ?_)
    first | refine as_gskip rfl rfl rfl rfl rfl ?_ | refine as_gskipU rfl rfl rfl rfl ?_ | refine as_gh rfl rfl rfl rfl (h_q rfl (q_gtT rfl rfl (by omega)) ?_) | refine as_gh rfl rfl rfl rfl (h_q rfl (q_gtF rfl rfl (by omega)) ?_) | refine as_gh rfl rfl rfl rfl (h_q rfl (q_gt rfl rfl) ?_)
    first | refine as_q rfl rfl (q_pick_t rfl rfl) ?_ | refine as_q rfl rfl (q_pick_f rfl rfl) ?_ | refine as_q rfl rfl (q_pick rfl rfl rfl) ?_
    refine as_nil (hK76 _ _ ?_)
    clear hK76 K76
    refine cw_false rfl ?_
    refine cw_skip ?_
    refine hK75 _ _ ?_
    clear hK75 K75
    refine cw_seq fun K77 hK77 => ?_
    refine cw_rs fun K78 hK78 => ?_
    -- region 17
    refine as_q rfl rfl (q_move rfl) ?_
    first | refine as_q rfl rfl (q_gtT rfl rfl (by omega)) ?_ | refine as_q rfl rfl (q_gtF rfl rfl (by omega)) ?_ | refine as_q rfl rfl (q_gt rfl rfl) ?_
    refine as_nil (hK78 _ _ ?_)
    clear hK78 K78
    refine cw_false rfl ?_
    refine cw_skip ?_
    refine hK77 _ _ ?_
    clear hK77 K77
    refine cw_rs fun K79 hK79 => ?_
    -- region 19
    refine as_q rfl rfl (q_move rfl) ?_
    first | refine as_q rfl rfl (q_eqT rfl rfl (by omega)) ?_ | refine as_q rfl rfl (q_eqF rfl rfl (by omega)) ?_ | refine as_q rfl rfl (q_eq rfl rfl) ?_
    refine as_q rfl rfl (q_move rfl) ?_
    first | refine as_gskip rfl rfl rfl rfl rfl ?_ | refine as_gskipU rfl rfl rfl rfl ?_ | refine as_gh rfl rfl rfl rfl (h_q rfl (q_fieldAddr (off := 0) (by kernel_rfl) rfl) ?_)
    first | refine as_gskip rfl rfl rfl rfl rfl ?_ | refine as_gskipU rfl rfl rfl rfl ?_ | refine as_gh rfl rfl rfl rfl (h_q rfl (q_load1 (by kernel_rfl) rfl (by first | exact Blk.cell ho9.1 rfl | exact Blk.cell ho14.1 rfl | assumption)) ?_)
    first | refine as_gskip rfl rfl rfl rfl rfl ?_ | refine as_gskipU rfl rfl rfl rfl ?_ | refine as_gh rfl rfl rfl rfl (h_q rfl (q_move rfl) ?_)
    first | refine as_gskip rfl rfl rfl rfl rfl ?_ | refine as_gskipU rfl rfl rfl rfl ?_ | refine as_gh rfl rfl rfl rfl (h_q rfl (q_congr (q_rem rfl rfl (by omega)) (v' := .int .u8 rm) (by rw [hrm])) ?_)
    first | refine as_gskip rfl rfl rfl rfl rfl ?_ | refine as_gskipU rfl rfl rfl rfl ?_ | refine as_gh rfl rfl rfl rfl (h_q rfl (q_convx (by kernel_rfl) (by kernel_rfl) rfl (by first | exact wrap64_of (by omega) (by omega) | omega | (simp; omega))) ?_)
    first | refine as_gskip rfl rfl rfl rfl rfl ?_ | refine as_gskipU rfl rfl rfl rfl ?_ | refine as_gh rfl rfl rfl rfl (h_q rfl (q_eqT rfl rfl (by omega)) ?_) | refine as_gh rfl rfl rfl rfl (h_q rfl (q_eqF rfl rfl (by omega)) ?_) | refine as_gh rfl rfl rfl rfl (h_q rfl (q_eq rfl rfl) ?_)
    first | refine as_q rfl rfl (q_pick_t rfl rfl) ?_ | refine as_q rfl rfl (q_pick_f rfl rfl) ?_ | refine as_q rfl rfl (q_pick rfl rfl rfl) ?_
    refine as_q rfl rfl (q_move rfl) ?_
    first | refine as_gskip rfl rfl rfl rfl rfl ?_ | refine as_gskipU rfl rfl rfl rfl ?_ | refine as_gh rfl rfl rfl rfl (h_q rfl (q_fieldAddr (off := 1) (by kernel_rfl) rfl) ?_)
    first | refine as_gskip rfl rfl rfl rfl rfl ?_ | refine as_gskipU rfl rfl rfl rfl ?_ | refine as_gh rfl rfl rfl rfl (h_q rfl (q_load1 (by kernel_rfl) rfl (by first | exact Blk.cell ho9.1 rfl | exact Blk.cell ho14.1 rfl | assumption)) ?_)
    first | refine as_gskip rfl rfl rfl rfl rfl ?_ | refine as_gskipU rfl rfl rfl rfl ?_ | refine as_gh rfl rfl rfl rfl (h_q rfl (q_len (by kernel_rfl) rfl _) ?_)
    first | refine as_gskip rfl rfl rfl rfl rfl ?_ | refine as_gskipU rfl rfl rfl rfl ?_ | refine as_gh rfl rfl rfl rfl (h_q rfl (q_eqT rfl rfl (by omega)) ?_) | refine as_gh rfl rfl rfl rfl (h_q rfl (q_eqF rfl rfl (by omega)) ?_) | refine as_gh rfl rfl rfl rfl (h_q rfl (q_eq rfl rfl) ?_)
    first | refine as_q rfl rfl (q_pick_t rfl rfl) ?_ | refine as_q rfl rfl (q_pick_f rfl rfl) ?_ | refine as_q rfl rfl (q_pick rfl rfl rfl) ?_
    refine as_q rfl rfl (q_move rfl) ?_
    first | refine as_gskip rfl rfl rfl rfl rfl ?_ | refine as_gskipU rfl rfl rfl rfl ?_ | refine as_gh rfl rfl rfl rfl (h_q rfl (q_fieldAddr (off := 1) (by kernel_rfl) rfl) ?_)
    first | refine as_gskip rfl rfl rfl rfl rfl ?_ | refine as_gskipU rfl rfl rfl rfl ?_ | refine as_gh rfl rfl rfl rfl (h_q rfl (q_load1 (by kernel_rfl) rfl (by first | exact Blk.cell ho9.1 rfl | exact Blk.cell ho14.1 rfl | assumption)) ?_)
    first | refine as_gskip rfl rfl rfl rfl rfl ?_ | refine as_gskipU rfl rfl rfl rfl ?_ | refine as_gh rfl rfl rfl rfl (h_q rfl (q_indexAddr (e := 51) (size := 2) (by kernel_rfl) (by kernel_rfl) rfl rfl (by omega) (by omega)) ?_)
    first | refine as_gskip rfl rfl rfl rfl rfl ?_ | refine as_gskipU rfl rfl rfl rfl ?_ | refine as_gh rfl rfl rfl rfl (h_q rfl (q_fieldAddr (off := 0) (by kernel_rfl) rfl) ?_)
    first | refine as_gskip rfl rfl rfl rfl rfl ?_ | refine as_gskipU rfl rfl rfl rfl ?_ | refine as_gh rfl rfl rfl rfl (h_q rfl (q_load1 (by kernel_rfl) rfl ((hov.elem (j := (0 : Int).toNat) hT.sat rfl (flat_elem (j := 0) rfl)).2 0 _ rfl)) ?_)
    first | refine as_gskip rfl rfl rfl rfl rfl ?_ | refine as_gskipU rfl rfl rfl rfl ?_ | refine as_gh rfl rfl rfl rfl (h_q rfl (q_move rfl) ?_)
    first | refine as_gskip rfl rfl rfl rfl rfl ?_ | refine as_gskipU rfl rfl rfl rfl ?_ | refine as_gh rfl rfl rfl rfl (h_q rfl (q_eqT rfl rfl (by omega)) ?_) | refine as_gh rfl rfl rfl rfl (h_q rfl (q_eqF rfl rfl (by omega)) ?_) | refine as_gh rfl rfl rfl rfl (h_q rfl (q_eq rfl rfl) ?_)
    first | refine as_q rfl rfl (q_pick_t rfl rfl) ?_ | refine as_q rfl rfl (q_pick_f rfl rfl) ?_ | refine as_q rfl rfl (q_pick rfl rfl rfl) ?_
    refine as_q rfl rfl (q_move rfl) ?_
    first | refine as_gskip rfl rfl rfl rfl rfl ?_ | refine as_gskipU rfl rfl rfl rfl ?_ | refine as_gh rfl rfl rfl rfl (h_q rfl (q_fieldAddr (off := 1) (by kernel_rfl) rfl) ?_)
    first | refine as_gskip rfl rfl rfl rfl rfl ?_ | refine as_gskipU rfl rfl rfl rfl ?_ | refine as_gh rfl rfl rfl rfl (h_q rfl (q_load1 (by kernel_rfl) rfl (by first | exact Blk.cell ho9.1 rfl | exact Blk.cell ho14.1 rfl | assumption)) ?_)
    first | refine as_gskip rfl rfl rfl rfl rfl ?_ | refine as_gskipU rfl rfl rfl rfl ?_ | refine as_gh rfl rfl rfl rfl (h_q rfl (q_indexAddr (e := 51) (size := 2) (by kernel_rfl) (by kernel_rfl) rfl rfl (by omega) (by omega)) ?_)
    first | refine as_gskip rfl rfl rfl rfl rfl ?_ | refine as_gskipU rfl rfl rfl rfl ?_ | refine as_gh rfl rfl rfl rfl (h_q rfl (q_fieldAddr (off := 1) (by kernel_rfl) rfl) ?_)
    first | refine as_gskip rfl rfl rfl rfl rfl ?_ | refine as_gskipU rfl rfl rfl rfl ?_ | refine as_gh rfl rfl rfl rfl (h_q rfl (q_load1 (by kernel_rfl) rfl ((hov.elem (j := (0 : Int).toNat) hT.sat rfl (flat_elem (j := 0) rfl)).2 1 _ rfl)) ?_)
    first | refine as_gskip rfl rfl rfl rfl rfl ?_ | refine as_gskipU rfl rfl rfl rfl ?_ | refine as_gh rfl rfl rfl rfl (h_q rfl (q_len (by kernel_rfl) rfl _) ?_)
    first | refine as_gskip rfl rfl rfl rfl rfl ?_ | refine as_gskipU rfl rfl rfl rfl ?_ | refine as_gh rfl rfl rfl rfl (h_q rfl (q_move rfl) ?_)
    first | refine as_gskip rfl rfl rfl rfl rfl ?_ | refine as_gskipU rfl rfl rfl rfl ?_ | refine as_gh rfl rfl rfl rfl (h_q rfl (q_eqT rfl rfl (by omega)) ?_) | refine as_gh rfl rfl rfl rfl (h_q rfl (q_eqF rfl rfl (by omega)) ?_) | refine as_gh rfl rfl rfl rfl (h_q rfl (q_eq rfl rfl) ?_)
    first | refine as_q rfl rfl (q_pick_t rfl rfl) ?_ | refine as_q rfl rfl (q_pick_f rfl rfl) ?_ | refine as_q rfl rfl (q_pick rfl rfl rfl) ?_
    refine as_q rfl rfl (q_assign rfl) ?_
    refine as_nil (hK79 _ _ ?_)
    clear hK79 K79
    refine cw_ret ?_
    exact ⟨_, (res_tmp rfl res_nil), rfl, hT.forget⟩
  · skip
    refine cw_skip ?_
    refine hK3 _ _ ?_
    clear hK3 K3
    refine cw_rs fun K80 hK80 => ?_
    -- region 4
    refine as_q rfl rfl (q_move rfl) ?_
    refine as_q rfl rfl (q_convx (by kernel_rfl) (by kernel_rfl) rfl (by first | exact wrap64_of (by omega) (by omega) | omega | (simp; omega))) ?_
    refine as_q rfl rfl (q_congr (q_rem rfl rfl (by omega)) (v' := .int .i64 k) (by rw [hk])) ?_
    refine as_q rfl rfl (q_assign rfl) ?_
    refine as_nil (hK80 _ _ ?_)
    clear hK80 K80
    refine cw_rs fun K81 hK81 => ?_
    -- region 5
    refine as_q rfl rfl (q_move rfl) ?_
    refine as_q rfl rfl (q_move rfl) ?_
    refine as_h rfl (h_makeM (e := 2) (size := 1) (bytes := 8) (z := .int .i64 0) (by kernel_rfl) (by kernel_rfl) hs1.sat rfl rfl (by omega) (by omega) (by omega) fun bm Mm w52 hs52 hm em => ?_)
    replace hT := hT.then hs52
    have hz52 := hs52.size
    replace hm : RdM _ 1 _ k.toNat (i64s (List.replicate k.toNat 0)) := hm.cast rfl rfl (by rw [Nat.mul_one]; exact (madeCells_one _ _).trans (by simp [i64s]))
    refine as_q rfl rfl (q_build (zs := [(.int .i64 0), (.slice none 0 0)]) (places := [(0, 1), (1, 1)]) (cs := [_, _]) (by kernel_rfl) (by kernel_rfl) rfl rfl) ?_
    refine as_h rfl (h_allocO (z := (.agg #[(.int .i64 0), (.slice none 0 0)])) hs52.sat (by kernel_rfl) rfl fun b9 w53 hs53 ho9 e9 => ?_)
    replace hm := hm.mono hs53.le
    replace hT := hT.then hs53
    have hz53 := hs53.size
    have hl9 := ho9.1.lt
    refine as_h0 (h_store hs53.sat ho9 rfl rfl rfl (by kernel_rfl) rfl rfl rfl fun w54 hs54 hn54 => ?_)
    replace hm := hm.mono hs54.le
    clear ho9; have ho9 := hn54; clear hn54
    replace hT := hT.own hs54 (by omega)
    have hz54 := hs54.size
    refine as_nil (hK81 _ _ ?_)
    clear hK81 K81
    refine cw_rs fun K82 hK82 => ?_
    -- region 6
    refine as_q rfl rfl (q_move rfl) ?_
    refine as_h rfl (h_call (by kernel_rfl) rfl ?_)
    refine (args_in hs54.sat hc1 hc2).mono ?_
    rintro _ w55 ⟨rfl, hs55⟩
    replace hm := hm.mono hs55.le
    replace ho9 := ho9.then hs55
    replace hT := hT.then hs55
    have hz55 := hs55.size
    refine as_q rfl rfl (q_move rfl) ?_
    refine as_q rfl rfl (q_extract rfl rfl) ?_
    refine as_q rfl rfl (q_extract rfl rfl) ?_
    refine as_q rfl rfl (q_assign rfl) ?_
    refine as_q rfl rfl (q_assign rfl) ?_
    refine as_nil (hK82 _ _ ?_)
    clear hK82 K82
    refine cw_rs fun K83 hK83 => ?_
    -- region 7
    refine as_q rfl rfl (q_assign rfl) ?_
    refine as_nil (hK83 _ _ ?_)
    clear hK83 K83
    refine cw_seq fun K84 hK84 => ?_
    refine cw_rs fun K85 hK85 => ?_
    -- region 8
    refine as_q rfl rfl (q_move rfl) ?_
    refine as_q rfl rfl (q_not rfl) ?_
    refine as_nil (hK85 _ _ ?_)
    clear hK85 K85
    refine cw_false rfl ?_
    refine cw_rs fun K86 hK86 => ?_
    -- region 10
    refine as_q rfl rfl (q_move rfl) ?_
    refine as_q rfl rfl (q_move rfl) ?_
    first | refine as_q rfl rfl (q_neT rfl rfl (by omega)) ?_ | refine as_q rfl rfl (q_neF rfl rfl (by omega)) ?_ | refine as_q rfl rfl (q_ne rfl rfl) ?_
    refine as_nil (hK86 _ _ ?_)
    clear hK86 K86
    refine cw_true rfl ?_
    refine cw_region fun K87 hK87 => ?_
    -- region 11
    refine as_q rfl rfl (q_assign rfl) ?_
    refine as_nil (hK87 _ _ ?_)
    clear hK87 K87
    refine hK84 _ _ ?_
    clear hK84 K84
    refine cw_rs fun K88 hK88 => ?_
    -- region 12
    refine as_q rfl rfl (q_move rfl) ?_
    refine as_q rfl rfl (q_congr (q_rem rfl rfl (by omega)) (v' := .int .u8 rm) (by rw [hrm])) ?_
    refine as_q rfl rfl (q_convx (by kernel_rfl) (by kernel_rfl) rfl (by first | exact wrap64_of (by omega) (by omega) | omega | (simp; omega))) ?_
    refine as_q rfl rfl (q_move rfl) ?_
    refine as_q rfl rfl (q_move rfl) ?_
    refine as_h rfl (h_buildO (e := 2) (size := 1) (zs := [(.int .i64 0), (.int .i64 0), (.int .i64 0)]) (cs := [_, _, _]) (by kernel_rfl) (by kernel_rfl) (by kernel_rfl) rfl hs55.sat rfl rfl fun bl w56 hs56 hol el => ?_)
    replace hm := hm.mono hs56.le
    replace ho9 := ho9.then hs56
    replace hT := hT.then hs56
    have hz56 := hs56.size
    have hll := hol.1.lt
    refine as_q rfl rfl (q_assign rfl) ?_
    refine as_nil (hK88 _ _ ?_)
    clear hK88 K88
    refine cw_rs fun K89 hK89 => ?_
    -- region 13
    refine as_q rfl rfl (q_move rfl) ?_
    refine as_q rfl rfl (q_fieldAddr (off := 1) (by kernel_rfl) rfl) ?_
    refine as_q rfl rfl (q_load1 (by kernel_rfl) rfl (by first | exact Blk.cell ho9.1 rfl | exact Blk.cell hol.1 rfl | assumption)) ?_
    have nofl : ∀ g, (Value.slice (some ⟨bl, 0, none⟩) 3 3).ownBlock = some g → w0.heap.size ≤ g := fun g hg => by have h : bl = g := Option.some.inj hg; have := hT.size; omega
    have hm9 := ho9.1.lt
    have hq57 := hT.size
    refine as_h rfl (h_append (e := 2) (size := 1) (bytes := 8) (by kernel_rfl) hs56.sat (Own.buf hol (n := 3) (size := 1) rfl (by decide)) (hm.rd hs56.sat) rfl rfl (i64s_one _) (by omega) rfl fun hdv w57 hs57 hdb hdo => ?_)
    replace hm := hm.mono hs57.le
    replace ho9 := ho9.step hs57 (fun h => by have h : bl = b9 := Option.some.inj h; omega)
    clear hol
    have hdf := floor_of hdo nofl hq57
    replace hT := hT.trans hs57 (fun k hk h => absurd (nofl k h) (by omega))
    have hz57 := hs57.size
    have hd9 := lt_of_app (B := b9) hdo (fun h => by have h : bl = b9 := Option.some.inj h; omega) (by omega)
    obtain ⟨Mn, hTn, hlen, hnum, hothn⟩ := hT.freezeB hdb hdf
    replace hnum : RdM Mn 1 hdv (3 + k.toNat) (i64s (rm :: c :: k :: List.replicate k.toNat 0)) := hnum
    replace ho9 := ho9.of_same (hothn _ hd9)
    clear hT hdb; have hT := hTn
    refine as_q rfl rfl (q_assign rfl) ?_
    refine as_nil (hK89 _ _ ?_)
    clear hK89 K89
    refine cw_rs fun K90 hK90 => ?_
    -- region 14
    refine as_q rfl rfl (q_move rfl) ?_
    refine as_h rfl (h_call (by kernel_rfl) rfl ?_)
    refine (parse18 hT.sat (by omega) hnum).mono ?_
    rintro v58 w58 ⟨M58, hs58, hp58⟩
    obtain ⟨ov, ts, rfl, hkk, hov, hag⟩ := hp58.ok (parse_one hrm0 hrm1 hk0 hk4)
    obtain ⟨tv, rfl⟩ := keyT_one hkk
    replace ho9 := ho9.then hs58
    replace hnum := hnum.mono hs58.le
    replace hT := hT.then hs58
    have hz58 := hs58.size
    replace hov : RdM _ 2 ov 1 (flat [(c, List.replicate k.toNat 0, tv)]) := hov
    obtain ⟨oa, oc, rfl, _⟩ := hov.slice
    obtain ⟨og, oo, rfl⟩ := hov.there (by decide)
    have hta : RdM _ 1 tv (List.replicate k.toNat (0 : Int)).length (i64s (List.replicate k.toNat 0)) := hag _ (List.mem_singleton.2 rfl)
    rw [List.length_replicate] at hta
    obtain ⟨ta, tc, rfl, _⟩ := hta.slice
    refine as_q rfl rfl (q_move rfl) ?_
    refine as_q rfl rfl (q_extract rfl rfl) ?_
    refine as_q rfl rfl (q_extract rfl rfl) ?_
    refine as_h rfl (h_allocO (z := (.agg #[(.int .i64 0), (.slice none 0 0)])) hs58.sat (by kernel_rfl) rfl fun b14 w59 hs59 ho14 e14 => ?_)
    replace ho9 := ho9.then hs59
    replace hnum := hnum.mono hs59.le
    replace hov := hov.mono hs59.le
    replace hag := hag.mono hs59.le
    replace hta := hta.mono hs59.le
    replace hT := hT.then hs59
    have hz59 := hs59.size
    have hl14 := ho14.1.lt
    refine as_h0 (h_store hs59.sat ho14 rfl rfl rfl (by kernel_rfl) rfl rfl rfl fun w60 hs60 hn60 => ?_)
    replace ho9 := ho9.step hs60 (fun h => by have h : _ = _ := h; omega)
    replace hnum := hnum.mono hs60.le
    replace hov := hov.mono hs60.le
    replace hag := hag.mono hs60.le
    replace hta := hta.mono hs60.le
    clear ho14; have ho14 := hn60; clear hn60
    replace hT := hT.own hs60 (by omega)
    have hz60 := hs60.size
    refine as_q rfl rfl (q_assign rfl) ?_
    refine as_nil (hK90 _ _ ?_)
    clear hK90 K90
    refine cw_seq fun K91 hK91 => ?_
    refine cw_rs fun K92 hK92 => ?_
    -- region 15
    refine as_q rfl rfl (q_loadc (n := 2) (by kernel_rfl) rfl (by first | exact Blk.cells ho9.1 rfl | exact Blk.cells ho14.1 rfl | assumption)) ?_
    refine as_h rfl (h_call (by kernel_rfl) rfl ?_)
    refine (right18 hs60.sat).mono ?_
    rintro v61 w61 ⟨hv61, hs61⟩
    obtain rfl : v61 = .int .i64 10 := hv61.trans (by rw [show rightOf c k.toNat = 10 from (if_neg (by omega)).trans (if_neg (by omega))])
    replace ho9 := ho9.then hs61
    replace hnum := hnum.mono hs61.le
    replace hov := hov.mono hs61.le
    replace hag := hag.mono hs61.le
    replace hta := hta.mono hs61.le
    replace ho14 := ho14.then hs61
    replace hT := hT.then hs61
    have hz61 := hs61.size
    refine as_q rfl rfl (q_move rfl) ?_
    first | refine as_q rfl rfl (q_neT rfl rfl (by omega)) ?_ | refine as_q rfl rfl (q_neF rfl rfl (by omega)) ?_ | refine as_q rfl rfl (q_ne rfl rfl) ?_
    refine as_q rfl rfl (q_move rfl) ?_
    first | refine as_gskip rfl rfl rfl rfl rfl ?_ | refine as_gskipU rfl rfl rfl rfl ?_ | refine as_gh rfl rfl rfl rfl (h_q rfl (q_move rfl) ?_)
    first | refine as_gskip rfl rfl rfl rfl rfl ?_ | refine as_gskipU rfl rfl rfl rfl ?_ | refine as_gh rfl rfl rfl rfl (h_q rfl (q_move rfl) ?_)
    first | refine as_gskip rfl rfl rfl rfl rfl ?_ | refine as_gskipU rfl rfl rfl rfl ?_ | refine as_gh rfl rfl rfl rfl (h_q rfl (q_geT rfl rfl (by omega)) ?_) | refine as_gh rfl rfl rfl rfl (h_q rfl (q_geF rfl rfl (by omega)) ?_) | refine as_gh rfl rfl rfl rfl (h_q rfl (q_ge rfl rfl) ?_)
    first | refine as_gskip rfl rfl rfl rfl rfl ?_ | refine as_gskipU rfl rfl rfl rfl ?_ | refine as_gh rfl rfl rfl rfl (h_q rfl (q_move rfl) ?_)
    first | refine as_gskip rfl rfl rfl rfl rfl ?_ | refine as_gskipU rfl rfl rfl rfl ?_ | refine as_gh rfl rfl rfl rfl (h_q rfl (q_move rfl) ?_)
    first | refine as_gskip rfl rfl rfl rfl rfl ?_ | refine as_gskipU rfl rfl rfl rfl ?_ | refine as_gh rfl rfl rfl rfl (h_q rfl (q_leT rfl rfl (by omega)) ?_) | refine as_gh rfl rfl rfl rfl (h_q rfl (q_leF rfl rfl (by omega)) ?_) | refine as_gh rfl rfl rfl rfl (h_q rfl (q_le rfl rfl) ?_)
    first | refine as_gskip rfl rfl rfl rfl rfl ?_ | refine as_gskipU rfl rfl rfl rfl ?_ | refine as_gh rfl rfl rfl rfl (h_q rfl (q_pick_t rfl rfl) ?_) | refine as_gh rfl rfl rfl rfl (h_q rfl (q_pick_f rfl rfl) ?_) | refine as_gh rfl rfl rfl rfl (h_q rfl (q_pick rfl rfl rfl) ?_)
    first | refine as_gskip rfl rfl rfl rfl rfl ?_ | refine as_gskipU rfl rfl rfl rfl ?_ | refine as_gh rfl rfl rfl rfl (h_q rfl (q_neb (by kernel_rfl) rfl rfl) ?_)
    first | refine as_q rfl rfl (q_pick_t rfl rfl) ?_ | refine as_q rfl rfl (q_pick_f rfl rfl) ?_ | refine as_q rfl rfl (q_pick rfl rfl rfl) ?_
    refine as_q rfl rfl (q_move rfl) ?_
    first | refine as_gskip rfl rfl rfl rfl rfl ?_ | refine as_gskipU rfl rfl rfl rfl ?_ | refine as_gh rfl rfl rfl rfl (h_q rfl (q_move rfl) ?_)
    first | refine as_gskip rfl rfl rfl rfl rfl ?_ | refine as_gskipU rfl rfl rfl rfl ?_ | refine as_gh rfl rfl rfl rfl (h_q rfl (q_gtT rfl rfl (by omega)) ?_) | refine as_gh rfl rfl rfl rfl (h_q rfl (q_gtF rfl rfl (by omega)) ?_) | refine as_gh rfl rfl rfl rfl (h_q rfl (q_gt rfl rfl) ?_)
    first | refine as_q rfl rfl (q_pick_t rfl rfl) ?_ | refine as_q rfl rfl (q_pick_f rfl rfl) ?_ | refine as_q rfl rfl (q_pick rfl rfl rfl) ?_
    refine as_nil (hK92 _ _ ?_)
    clear hK92 K92
    refine cw_false rfl ?_
    refine cw_skip ?_
    refine hK91 _ _ ?_
    clear hK91 K91
    refine cw_seq fun K93 hK93 => ?_
    refine cw_rs fun K94 hK94 => ?_
    -- region 17
    refine as_q rfl rfl (q_move rfl) ?_
    first | refine as_q rfl rfl (q_gtT rfl rfl (by omega)) ?_ | refine as_q rfl rfl (q_gtF rfl rfl (by omega)) ?_ | refine as_q rfl rfl (q_gt rfl rfl) ?_
    refine as_nil (hK94 _ _ ?_)
    clear hK94 K94
    refine cw_false rfl ?_
    refine cw_skip ?_
    refine hK93 _ _ ?_
    clear hK93 K93
    refine cw_rs fun K95 hK95 => ?_
    -- region 19
    refine as_q rfl rfl (q_move rfl) ?_
    first | refine as_q rfl rfl (q_eqT rfl rfl (by omega)) ?_ | refine as_q rfl rfl (q_eqF rfl rfl (by omega)) ?_ | refine as_q rfl rfl (q_eq rfl rfl) ?_
    refine as_q rfl rfl (q_move rfl) ?_
    first | refine as_gskip rfl rfl rfl rfl rfl ?_ | refine as_gskipU rfl rfl rfl rfl ?_ | refine as_gh rfl rfl rfl rfl (h_q rfl (q_fieldAddr (off := 0) (by kernel_rfl) rfl) ?_)
    first | refine as_gskip rfl rfl rfl rfl rfl ?_ | refine as_gskipU rfl rfl rfl rfl ?_ | refine as_gh rfl rfl rfl rfl (h_q rfl (q_load1 (by kernel_rfl) rfl (by first | exact Blk.cell ho9.1 rfl | exact Blk.cell ho14.1 rfl | assumption)) ?_)
    first | refine as_gskip rfl rfl rfl rfl rfl ?_ | refine as_gskipU rfl rfl rfl rfl ?_ | refine as_gh rfl rfl rfl rfl (h_q rfl (q_move rfl) ?_)
    first | refine as_gskip rfl rfl rfl rfl rfl ?_ | refine as_gskipU rfl rfl rfl rfl ?_ | refine as_gh rfl rfl rfl rfl (h_q rfl (q_congr (q_rem rfl rfl (by omega)) (v' := .int .u8 rm) (by rw [hrm])) ?_)
    first | refine as_gskip rfl rfl rfl rfl rfl ?_ | refine as_gskipU rfl rfl rfl rfl ?_ | refine as_gh rfl rfl rfl rfl (h_q rfl (q_convx (by kernel_rfl) (by kernel_rfl) rfl (by first | exact wrap64_of (by omega) (by omega) | omega | (simp; omega))) ?_)
    first | refine as_gskip rfl rfl rfl rfl rfl ?_ | refine as_gskipU rfl rfl rfl rfl ?_ | refine as_gh rfl rfl rfl rfl (h_q rfl (q_eqT rfl rfl (by omega)) ?_) | refine as_gh rfl rfl rfl rfl (h_q rfl (q_eqF rfl rfl (by omega)) ?_) | refine as_gh rfl rfl rfl rfl (h_q rfl (q_eq rfl rfl) ?_)
    first | refine as_q rfl rfl (q_pick_t rfl rfl) ?_ | refine as_q rfl rfl (q_pick_f rfl rfl) ?_ | refine as_q rfl rfl (q_pick rfl rfl rfl) ?_
    refine as_q rfl rfl (q_move rfl) ?_
    first | refine as_gskip rfl rfl rfl rfl rfl ?_ | refine as_gskipU rfl rfl rfl rfl ?_ | refine as_gh rfl rfl rfl rfl (h_q rfl (q_fieldAddr (off := 1) (by kernel_rfl) rfl) ?_)
    first | refine as_gskip rfl rfl rfl rfl rfl ?_ | refine as_gskipU rfl rfl rfl rfl ?_ | refine as_gh rfl rfl rfl rfl (h_q rfl (q_load1 (by kernel_rfl) rfl (by first | exact Blk.cell ho9.1 rfl | exact Blk.cell ho14.1 rfl | assumption)) ?_)
    first | refine as_gskip rfl rfl rfl rfl rfl ?_ | refine as_gskipU rfl rfl rfl rfl ?_ | refine as_gh rfl rfl rfl rfl (h_q rfl (q_len (by kernel_rfl) rfl _) ?_)
    first | refine as_gskip rfl rfl rfl rfl rfl ?_ | refine as_gskipU rfl rfl rfl rfl ?_ | refine as_gh rfl rfl rfl rfl (h_q rfl (q_eqT rfl rfl (by omega)) ?_) | refine as_gh rfl rfl rfl rfl (h_q rfl (q_eqF rfl rfl (by omega)) ?_) | refine as_gh rfl rfl rfl rfl (h_q rfl (q_eq rfl rfl) ?_)
    first | refine as_q rfl rfl (q_pick_t rfl rfl) ?_ | refine as_q rfl rfl (q_pick_f rfl rfl) ?_ | refine as_q rfl rfl (q_pick rfl rfl rfl) ?_
    refine as_q rfl rfl (q_move rfl) ?_
    first | refine as_gskip rfl rfl rfl rfl rfl ?_ | refine as_gskipU rfl rfl rfl rfl ?_ | refine as_gh rfl rfl rfl rfl (h_q rfl (q_fieldAddr (off := 1) (by kernel_rfl) rfl) ?_)
    first | refine as_gskip rfl rfl rfl rfl rfl ?_ | refine as_gskipU rfl rfl rfl rfl ?_ | refine as_gh rfl rfl rfl rfl (h_q rfl (q_load1 (by kernel_rfl) rfl (by first | exact Blk.cell ho9.1 rfl | exact Blk.cell ho14.1 rfl | assumption)) ?_)
    first | refine as_gskip rfl rfl rfl rfl rfl ?_ | refine as_gskipU rfl rfl rfl rfl ?_ | refine as_gh rfl rfl rfl rfl (h_q rfl (q_indexAddr (e := 51) (size := 2) (by kernel_rfl) (by kernel_rfl) rfl rfl (by omega) (by omega)) ?_)
    first | refine as_gskip rfl rfl rfl rfl rfl ?_ | refine as_gskipU rfl rfl rfl rfl ?_ | refine as_gh rfl rfl rfl rfl (h_q rfl (q_fieldAddr (off := 0) (by kernel_rfl) rfl) ?_)
    first | refine as_gskip rfl rfl rfl rfl rfl ?_ | refine as_gskipU rfl rfl rfl rfl ?_ | refine as_gh rfl rfl rfl rfl (h_q rfl (q_load1 (by kernel_rfl) rfl ((hov.elem (j := (0 : Int).toNat) hT.sat rfl (flat_elem (j := 0) rfl)).2 0 _ rfl)) ?_)
    first | refine as_gskip rfl rfl rfl rfl rfl ?_ | refine as_gskipU rfl rfl rfl rfl ?_ | refine as_gh rfl rfl rfl rfl (h_q rfl (q_move rfl) ?_)
    first | refine as_gskip rfl rfl rfl rfl rfl ?_ | refine as_gskipU rfl rfl rfl rfl ?_ | refine as_gh rfl rfl rfl rfl (h_q rfl (q_eqT rfl rfl (by omega)) ?_) | refine as_gh rfl rfl rfl rfl (h_q rfl (q_eqF rfl rfl (by omega)) ?_) | refine as_gh rfl rfl rfl rfl (h_q rfl (q_eq rfl rfl) ?_)
    first | refine as_q rfl rfl (q_pick_t rfl rfl) ?_ | refine as_q rfl rfl (q_pick_f rfl rfl) ?_ | refine as_q rfl rfl (q_pick rfl rfl rfl) ?_
    refine as_q rfl rfl (q_move rfl) ?_
    first | refine as_gskip rfl rfl rfl rfl rfl ?_ | refine as_gskipU rfl rfl rfl rfl ?_ | refine as_gh rfl rfl rfl rfl (h_q rfl (q_fieldAddr (off := 1) (by kernel_rfl) rfl) ?_)
    first | refine as_gskip rfl rfl rfl rfl rfl ?_ | refine as_gskipU rfl rfl rfl rfl ?_ | refine as_gh rfl rfl rfl rfl (h_q rfl (q_load1 (by kernel_rfl) rfl (by first | exact Blk.cell ho9.1 rfl | exact Blk.cell ho14.1 rfl | assumption)) ?_)
    first | refine as_gskip rfl rfl rfl rfl rfl ?_ | refine as_gskipU rfl rfl rfl rfl ?_ | refine as_gh rfl rfl rfl rfl (h_q rfl (q_indexAddr (e := 51) (size := 2) (by kernel_rfl) (by kernel_rfl) rfl rfl (by omega) (by omega)) ?_)
    first | refine as_gskip rfl rfl rfl rfl rfl ?_ | refine as_gskipU rfl rfl rfl rfl ?_ | refine as_gh rfl rfl rfl rfl (h_q rfl (q_fieldAddr (off := 1) (by kernel_rfl) rfl) ?_)
    first | refine as_gskip rfl rfl rfl rfl rfl ?_ | refine as_gskipU rfl rfl rfl rfl ?_ | refine as_gh rfl rfl rfl rfl (h_q rfl (q_load1 (by kernel_rfl) rfl ((hov.elem (j := (0 : Int).toNat) hT.sat rfl (flat_elem (j := 0) rfl)).2 1 _ rfl)) ?_)
    first | refine as_gskip rfl rfl rfl rfl rfl ?_ | refine as_gskipU rfl rfl rfl rfl ?_ | refine as_gh rfl rfl rfl rfl (h_q rfl (q_len (by kernel_rfl) rfl _) ?_)
    first | refine as_gskip rfl rfl rfl rfl rfl ?_ | refine as_gskipU rfl rfl rfl rfl ?_ | refine as_gh rfl rfl rfl rfl (h_q rfl (q_move rfl) ?_)
    first | refine as_gskip rfl rfl rfl rfl rfl ?_ | refine as_gskipU rfl rfl rfl rfl ?_ | refine as_gh rfl rfl rfl rfl (h_q rfl (q_eqT rfl rfl (by omega)) ?_) | refine as_gh rfl rfl rfl rfl (h_q rfl (q_eqF rfl rfl (by omega)) ?_) | refine as_gh rfl rfl rfl rfl (h_q rfl (q_eq rfl rfl) ?_)
    first | refine as_q rfl rfl (q_pick_t rfl rfl) ?_ | refine as_q rfl rfl (q_pick_f rfl rfl) ?_ | refine as_q rfl rfl (q_pick rfl rfl rfl) ?_
    refine as_q rfl rfl (q_assign rfl) ?_
    refine as_nil (hK95 _ _ ?_)
    clear hK95 K95
    refine cw_ret ?_
    exact ⟨_, (res_tmp rfl res_nil), rfl, hT.forget⟩
  · skip
    refine cw_skip ?_
    refine hK3 _ _ ?_
    clear hK3 K3
    refine cw_rs fun K96 hK96 => ?_
    -- region 4
    refine as_q rfl rfl (q_move rfl) ?_
    refine as_q rfl rfl (q_convx (by kernel_rfl) (by kernel_rfl) rfl (by first | exact wrap64_of (by omega) (by omega) | omega | (simp; omega))) ?_
    refine as_q rfl rfl (q_congr (q_rem rfl rfl (by omega)) (v' := .int .i64 k) (by rw [hk])) ?_
    refine as_q rfl rfl (q_assign rfl) ?_
    refine as_nil (hK96 _ _ ?_)
    clear hK96 K96
    refine cw_rs fun K97 hK97 => ?_
    -- region 5
    refine as_q rfl rfl (q_move rfl) ?_
    refine as_q rfl rfl (q_move rfl) ?_
    refine as_h rfl (h_makeM (e := 2) (size := 1) (bytes := 8) (z := .int .i64 0) (by kernel_rfl) (by kernel_rfl) hs1.sat rfl rfl (by omega) (by omega) (by omega) fun bm Mm w62 hs62 hm em => ?_)
    replace hT := hT.then hs62
    have hz62 := hs62.size
    replace hm : RdM _ 1 _ k.toNat (i64s (List.replicate k.toNat 0)) := hm.cast rfl rfl (by rw [Nat.mul_one]; exact (madeCells_one _ _).trans (by simp [i64s]))
    refine as_q rfl rfl (q_build (zs := [(.int .i64 0), (.slice none 0 0)]) (places := [(0, 1), (1, 1)]) (cs := [_, _]) (by kernel_rfl) (by kernel_rfl) rfl rfl) ?_
    refine as_h rfl (h_allocO (z := (.agg #[(.int .i64 0), (.slice none 0 0)])) hs62.sat (by kernel_rfl) rfl fun b9 w63 hs63 ho9 e9 => ?_)
    replace hm := hm.mono hs63.le
    replace hT := hT.then hs63
    have hz63 := hs63.size
    have hl9 := ho9.1.lt
    refine as_h0 (h_store hs63.sat ho9 rfl rfl rfl (by kernel_rfl) rfl rfl rfl fun w64 hs64 hn64 => ?_)
    replace hm := hm.mono hs64.le
    clear ho9; have ho9 := hn64; clear hn64
    replace hT := hT.own hs64 (by omega)
    have hz64 := hs64.size
    refine as_nil (hK97 _ _ ?_)
    clear hK97 K97
    refine cw_rs fun K98 hK98 => ?_
    -- region 6
    refine as_q rfl rfl (q_move rfl) ?_
    refine as_h rfl (h_call (by kernel_rfl) rfl ?_)
    refine (args_in hs64.sat hc1 hc2).mono ?_
    rintro _ w65 ⟨rfl, hs65⟩
    replace hm := hm.mono hs65.le
    replace ho9 := ho9.then hs65
    replace hT := hT.then hs65
    have hz65 := hs65.size
    refine as_q rfl rfl (q_move rfl) ?_
    refine as_q rfl rfl (q_extract rfl rfl) ?_
    refine as_q rfl rfl (q_extract rfl rfl) ?_
    refine as_q rfl rfl (q_assign rfl) ?_
    refine as_q rfl rfl (q_assign rfl) ?_
    refine as_nil (hK98 _ _ ?_)
    clear hK98 K98
    refine cw_rs fun K99 hK99 => ?_
    -- region 7
    refine as_q rfl rfl (q_assign rfl) ?_
    refine as_nil (hK99 _ _ ?_)
    clear hK99 K99
    refine cw_seq fun K100 hK100 => ?_
    refine cw_rs fun K101 hK101 => ?_
    -- region 8
    refine as_q rfl rfl (q_move rfl) ?_
    refine as_q rfl rfl (q_not rfl) ?_
    refine as_nil (hK101 _ _ ?_)
    clear hK101 K101
    refine cw_false rfl ?_
    refine cw_rs fun K102 hK102 => ?_
    -- region 10
    refine as_q rfl rfl (q_move rfl) ?_
    refine as_q rfl rfl (q_move rfl) ?_
    first | refine as_q rfl rfl (q_neT rfl rfl (by omega)) ?_ | refine as_q rfl rfl (q_neF rfl rfl (by omega)) ?_ | refine as_q rfl rfl (q_ne rfl rfl) ?_
    refine as_nil (hK102 _ _ ?_)
    clear hK102 K102
    refine cw_true rfl ?_
    refine cw_region fun K103 hK103 => ?_
    -- region 11
    refine as_q rfl rfl (q_assign rfl) ?_
    refine as_nil (hK103 _ _ ?_)
    clear hK103 K103
    refine hK100 _ _ ?_
    clear hK100 K100
    refine cw_rs fun K104 hK104 => ?_
    -- region 12
    refine as_q rfl rfl (q_move rfl) ?_
    refine as_q rfl rfl (q_congr (q_rem rfl rfl (by omega)) (v' := .int .u8 rm) (by rw [hrm])) ?_
    refine as_q rfl rfl (q_convx (by kernel_rfl) (by kernel_rfl) rfl (by first | exact wrap64_of (by omega) (by omega) | omega | (simp; omega))) ?_
    refine as_q rfl rfl (q_move rfl) ?_
    refine as_q rfl rfl (q_move rfl) ?_
    refine as_h rfl (h_buildO (e := 2) (size := 1) (zs := [(.int .i64 0), (.int .i64 0), (.int .i64 0)]) (cs := [_, _, _]) (by kernel_rfl) (by kernel_rfl) (by kernel_rfl) rfl hs65.sat rfl rfl fun bl w66 hs66 hol el => ?_)
    replace hm := hm.mono hs66.le
    replace ho9 := ho9.then hs66
    replace hT := hT.then hs66
    have hz66 := hs66.size
    have hll := hol.1.lt
    refine as_q rfl rfl (q_assign rfl) ?_
    refine as_nil (hK104 _ _ ?_)
    clear hK104 K104
    refine cw_rs fun K105 hK105 => ?_
    -- region 13
    refine as_q rfl rfl (q_move rfl) ?_
    refine as_q rfl rfl (q_fieldAddr (off := 1) (by kernel_rfl) rfl) ?_
    refine as_q rfl rfl (q_load1 (by kernel_rfl) rfl (by first | exact Blk.cell ho9.1 rfl | exact Blk.cell hol.1 rfl | assumption)) ?_
    have nofl : ∀ g, (Value.slice (some ⟨bl, 0, none⟩) 3 3).ownBlock = some g → w0.heap.size ≤ g := fun g hg => by have h : bl = g := Option.some.inj hg; have := hT.size; omega
    have hm9 := ho9.1.lt
    have hq67 := hT.size
    refine as_h rfl (h_append (e := 2) (size := 1) (bytes := 8) (by kernel_rfl) hs66.sat (Own.buf hol (n := 3) (size := 1) rfl (by decide)) (hm.rd hs66.sat) rfl rfl (i64s_one _) (by omega) rfl fun hdv w67 hs67 hdb hdo => ?_)
    replace hm := hm.mono hs67.le
    replace ho9 := ho9.step hs67 (fun h => by have h : bl = b9 := Option.some.inj h; omega)
    clear hol
    have hdf := floor_of hdo nofl hq67
    replace hT := hT.trans hs67 (fun k hk h => absurd (nofl k h) (by omega))
    have hz67 := hs67.size
    have hd9 := lt_of_app (B := b9) hdo (fun h => by have h : bl = b9 := Option.some.inj h; omega) (by omega)
    obtain ⟨Mn, hTn, hlen, hnum, hothn⟩ := hT.freezeB hdb hdf
    replace hnum : RdM Mn 1 hdv (3 + k.toNat) (i64s (rm :: c :: k :: List.replicate k.toNat 0)) := hnum
    replace ho9 := ho9.of_same (hothn _ hd9)
    clear hT hdb; have hT := hTn
    refine as_q rfl rfl (q_assign rfl) ?_
    refine as_nil (hK105 _ _ ?_)
    clear hK105 K105
    refine cw_rs fun K106 hK106 => ?_
    -- region 14
    refine as_q rfl rfl (q_move rfl) ?_
    refine as_h rfl (h_call (by kernel_rfl) rfl ?_)
    refine (parse18 hT.sat (by omega) hnum).mono ?_
    rintro v68 w68 ⟨M68, hs68, hp68⟩
    obtain ⟨pa, pc, rfl, _⟩ := hp68.no (parse_many hrm0 hrm1 hk4)
    replace ho9 := ho9.then hs68
    replace hnum := hnum.mono hs68.le
    replace hT := hT.then hs68
    have hz68 := hs68.size
    refine as_q rfl rfl (q_move rfl) ?_
    refine as_q rfl rfl (q_extract rfl rfl) ?_
    refine as_q rfl rfl (q_extract rfl rfl) ?_
    refine as_h rfl (h_allocO (z := (.agg #[(.int .i64 0), (.slice none 0 0)])) hs68.sat (by kernel_rfl) rfl fun b14 w69 hs69 ho14 e14 => ?_)
    replace ho9 := ho9.then hs69
    replace hnum := hnum.mono hs69.le
    replace hT := hT.then hs69
    have hz69 := hs69.size
    have hl14 := ho14.1.lt
    refine as_h0 (h_store hs69.sat ho14 rfl rfl rfl (by kernel_rfl) rfl rfl rfl fun w70 hs70 hn70 => ?_)
    replace ho9 := ho9.step hs70 (fun h => by have h : _ = _ := h; omega)
    replace hnum := hnum.mono hs70.le
    clear ho14; have ho14 := hn70; clear hn70
    replace hT := hT.own hs70 (by omega)
    have hz70 := hs70.size
    refine as_q rfl rfl (q_assign rfl) ?_
    refine as_nil (hK106 _ _ ?_)
    clear hK106 K106
    refine cw_seq fun K107 hK107 => ?_
    refine cw_rs fun K108 hK108 => ?_
    -- region 15
    refine as_q rfl rfl (q_loadc (n := 2) (by kernel_rfl) rfl (by first | exact Blk.cells ho9.1 rfl | exact Blk.cells ho14.1 rfl | assumption)) ?_
    refine as_h rfl (h_call (by kernel_rfl) rfl ?_)
    refine (right18 hs70.sat).mono ?_
    rintro v71 w71 ⟨hv71, hs71⟩
    obtain rfl : v71 = .int .i64 10 := hv71.trans (by rw [show rightOf c k.toNat = 10 from (if_neg (by omega)).trans (if_neg (by omega))])
    replace ho9 := ho9.then hs71
    replace hnum := hnum.mono hs71.le
    replace ho14 := ho14.then hs71
    replace hT := hT.then hs71
    have hz71 := hs71.size
    refine as_q rfl rfl (q_move rfl) ?_
    first | refine as_q rfl rfl (q_neT rfl rfl (by omega)) ?_ | refine as_q rfl rfl (q_neF rfl rfl (by omega)) ?_ | refine as_q rfl rfl (q_ne rfl rfl) ?_
    refine as_q rfl rfl (q_move rfl) ?_
    first | refine as_gskip rfl rfl rfl rfl rfl ?_ | refine as_gskipU rfl rfl rfl rfl ?_ | refine as_gh rfl rfl rfl rfl (h_q rfl (q_move rfl) ?_)
    first | refine as_gskip rfl rfl rfl rfl rfl ?_ | refine as_gskipU rfl rfl rfl rfl ?_ | refine as_gh rfl rfl rfl rfl (h_q rfl (q_move rfl) ?_)
    first | refine as_gskip rfl rfl rfl rfl rfl ?_ | refine as_gskipU rfl rfl rfl rfl ?_ | refine as_gh rfl rfl rfl rfl (h_q rfl (q_geT rfl rfl (by omega)) ?_) | refine as_gh rfl rfl rfl rfl (h_q rfl (q_geF rfl rfl (by omega)) ?_) | refine as_gh rfl rfl rfl rfl (h_q rfl (q_ge rfl rfl) ?_)
    first | refine as_gskip rfl rfl rfl rfl rfl ?_ | refine as_gskipU rfl rfl rfl rfl ?_ | refine as_gh rfl rfl rfl rfl (h_q rfl (q_move rfl) ?_)
    first | refine as_gskip rfl rfl rfl rfl rfl ?_ | refine as_gskipU rfl rfl rfl rfl ?_ | refine as_gh rfl rfl rfl rfl (h_q rfl (q_move rfl) ?_)
    first | refine as_gskip rfl rfl rfl rfl rfl ?_ | refine as_gskipU rfl rfl rfl rfl ?_ | refine as_gh rfl rfl rfl rfl (h_q rfl (q_leT rfl rfl (by omega)) ?_) | refine as_gh rfl rfl rfl rfl (h_q rfl (q_leF rfl rfl (by omega)) ?_) | refine as_gh rfl rfl rfl rfl (h_q rfl (q_le rfl rfl) ?_)
    first | refine as_gskip rfl rfl rfl rfl rfl ?_ | refine as_gskipU rfl rfl rfl rfl ?_ | refine as_gh rfl rfl rfl rfl (h_q rfl (q_pick_t rfl rfl) ?_) | refine as_gh rfl rfl rfl rfl (h_q rfl (q_pick_f rfl rfl) ?_) | refine as_gh rfl rfl rfl rfl (h_q rfl (q_pick rfl rfl rfl) ?_)
    first | refine as_gskip rfl rfl rfl rfl rfl ?_ | refine as_gskipU rfl rfl rfl rfl ?_ | refine as_gh rfl rfl rfl rfl (h_q rfl (q_neb (by kernel_rfl) rfl rfl) ?_)
    first | refine as_q rfl rfl (q_pick_t rfl rfl) ?_ | refine as_q rfl rfl (q_pick_f rfl rfl) ?_ | refine as_q rfl rfl (q_pick rfl rfl rfl) ?_
    refine as_q rfl rfl (q_move rfl) ?_
    first | refine as_gskip rfl rfl rfl rfl rfl ?_ | refine as_gskipU rfl rfl rfl rfl ?_ | refine as_gh rfl rfl rfl rfl (h_q rfl (q_move rfl) ?_)
    first | refine as_gskip rfl rfl rfl rfl rfl ?_ | refine as_gskipU rfl rfl rfl rfl ?_ | refine as_gh rfl rfl rfl rfl (h_q rfl (q_gtT rfl rfl (by omega)) ?_) | refine as_gh rfl rfl rfl rfl (h_q rfl (q_gtF rfl rfl (by omega)) ?_) | refine as_gh rfl rfl rfl rfl (h_q rfl (q_gt rfl rfl) ?_)
    first | refine as_q rfl rfl (q_pick_t rfl rfl) ?_ | refine as_q rfl rfl (q_pick_f rfl rfl) ?_ | refine as_q rfl rfl (q_pick rfl rfl rfl) ?_
    refine as_nil (hK108 _ _ ?_)
    clear hK108 K108
    refine cw_false rfl ?_
    refine cw_skip ?_
    refine hK107 _ _ ?_
    clear hK107 K107
    refine cw_seq fun K109 hK109 => ?_
    refine cw_rs fun K110 hK110 => ?_
    -- region 17
    refine as_q rfl rfl (q_move rfl) ?_
    first | refine as_q rfl rfl (q_gtT rfl rfl (by omega)) ?_ | refine as_q rfl rfl (q_gtF rfl rfl (by omega)) ?_ | refine as_q rfl rfl (q_gt rfl rfl) ?_
    refine as_nil (hK110 _ _ ?_)
    clear hK110 K110
    refine cw_true rfl ?_
    refine cw_rs fun K111 hK111 => ?_
    -- region 18
    refine as_q rfl rfl (q_move rfl) ?_
    first | refine as_q rfl rfl (q_eqT rfl rfl (by omega)) ?_ | refine as_q rfl rfl (q_eqF rfl rfl (by omega)) ?_ | refine as_q rfl rfl (q_eq rfl rfl) ?_
    refine as_q rfl rfl (q_assign rfl) ?_
    refine as_nil (hK111 _ _ ?_)
    clear hK111 K111
    refine cw_ret ?_
    exact ⟨_, (res_tmp rfl res_nil), rfl, hT.forget⟩

end Go.Proofs.Ytcnocefclcoiiaa
