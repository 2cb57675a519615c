/- Elements and texts, part 2. -/
import Derived.Test.YtbfjkclijjhlhaaDoorEjA
namespace Go.Proofs.YtbfjkclijjhlhaaDoor
open Go Go.Eng
set_option maxHeartbeats 2000000 in
theorem elemParses_walk0 {w : World} {M : Mem} {a b : Int} {cb : UInt8} (hs : Sat M w) (hg : Glob M) (ha : InR a) (hb : InR b) :
    Does Tryd.prog 8 #[.int .i64 a, .int .i64 b, .int .u8 (cb.toNat : Int)] w (fun v w' => v = .bool true ∧ Step Nope M w M w') := by
  have hT := Step.refl Nope hs
  have hl1 := itoa_len ha.1 ha.2
  have hl2 := itoa_len hb.1 hb.2
  refine fn_enter Tryd.func8 rfl (rs := [.tmp 6]) rfl rfl rfl rfl ?_
  refine cw_rs fun K1 hK1 => ?_
  -- region 0
  refine as_q rfl rfl (q_assign rfl) ?_
  refine as_nil (hK1 _ _ ?_)
  clear hK1 K1
  refine cw_rs fun K2 hK2 => ?_
  -- region 1
  refine as_h rfl (h_call (by kernel_rfl) rfl ?_)
  refine (awake01 hs hg).mono ?_
  rintro _ w1 ⟨rfl, hs1⟩
  replace hg := hg.mono hs1.le
  replace hT := hT.then hs1
  have hz1 := hs1.size
  refine as_q rfl rfl (q_assign rfl) ?_
  refine as_nil (hK2 _ _ ?_)
  clear hK2 K2
  refine cw_seq fun K3 hK3 => ?_
  refine cw_rs fun K4 hK4 => ?_
  -- region 2
  refine as_q rfl rfl (q_move rfl) ?_
  refine as_q rfl rfl (q_not rfl) ?_
  refine as_nil (hK4 _ _ ?_)
  clear hK4 K4
  refine cw_false rfl ?_
  refine cw_skip ?_
  refine hK3 _ _ ?_
  clear hK3 K3
  refine cw_rs fun K5 hK5 => ?_
  -- region 4
  refine as_q rfl rfl (q_move rfl) ?_
  refine as_h rfl (h_call (by kernel_rfl) rfl ?_)
  refine (ref_number (n := a) hs1.sat ha).mono ?_
  rintro _ w2 ⟨rfl, hs2⟩
  replace hg := hg.mono hs2.le
  replace hT := hT.then hs2
  have hz2 := hs2.size
  refine as_q rfl rfl (q_catL rfl rfl (by simp; omega)) ?_
  refine as_q rfl rfl (q_move rfl) ?_
  refine as_h rfl (h_call (by kernel_rfl) rfl ?_)
  refine (ref_number (n := b) hs2.sat hb).mono ?_
  rintro _ w3 ⟨rfl, hs3⟩
  replace hg := hg.mono hs3.le
  replace hT := hT.then hs3
  have hz3 := hs3.size
  refine as_q rfl rfl (q_catL rfl rfl (by simp; omega)) ?_
  refine as_q rfl rfl (q_assign rfl) ?_
  refine as_nil (hK5 _ _ ?_)
  clear hK5 K5
  refine cw_rs fun K6 hK6 => ?_
  -- region 5
  refine as_q rfl rfl (q_move rfl) ?_
  refine as_h rfl (h_call (by kernel_rfl) rfl ?_)
  refine (z_parseR (bs := (Lib.itoa a ++ [58] ++ Lib.itoa b)) hs3.sat hg (by simp; omega)).mono ?_
  rintro _ w4 ⟨h0r, h0c, rfl, h0, hs4⟩
  replace hg := hg.mono hs4.le
  replace hT := hT.then hs4
  have hz4 := hs4.size
  obtain ⟨rfl, rfl⟩ := h0.yes (e := (a, b)) ⟨ha, hb⟩ (by simp [textE])
  refine as_q rfl rfl (q_move rfl) ?_
  refine as_q rfl rfl (q_extract rfl rfl) ?_
  refine as_q rfl rfl (q_extract rfl rfl) ?_
  have hqa1 := hT.size
  refine as_h rfl (h_allocO (z := (.agg #[(.int .i64 0), (.int .i64 0)])) hs4.sat (by kernel_rfl) rfl fun b1 w5 hs5 ho1 e1 => ?_)
  replace hg := hg.mono hs5.le
  replace hT := hT.then hs5
  have hz5 := hs5.size
  have hl1 := ho1.1.lt
  refine as_h0 (h_store hs5.sat ho1 rfl rfl rfl (by kernel_rfl) rfl rfl rfl fun w6 hs6 hn6 => ?_)
  replace hg := hg.mono hs6.le
  clear ho1; have ho1 := hn6; clear hn6
  replace hT := hT.own hs6 (by omega)
  have hz6 := hs6.size
  refine as_q rfl rfl (q_assign rfl) ?_
  refine as_nil (hK6 _ _ ?_)
  clear hK6 K6
  refine cw_seq fun K7 hK7 => ?_
  refine cw_rs fun K8 hK8 => ?_
  -- region 6
  refine as_q rfl rfl (q_move rfl) ?_
  refine as_q rfl rfl (q_neF rfl rfl rfl) ?_
  refine as_q rfl rfl (q_move rfl) ?_
  first | refine as_gskip rfl rfl rfl rfl rfl ?_ | refine as_gskipU rfl rfl rfl rfl ?_ | refine as_gh rfl rfl rfl rfl (h_q rfl (q_fieldAddr (off := 0) (by kernel_rfl) rfl) ?_)
  first | refine as_gskip rfl rfl rfl rfl rfl ?_ | refine as_gskipU rfl rfl rfl rfl ?_ | refine as_gh rfl rfl rfl rfl (h_q rfl (q_load1 (by kernel_rfl) rfl (by first | exact Blk.cell ho1.1 rfl | assumption)) ?_)
  first | refine as_gskip rfl rfl rfl rfl rfl ?_ | refine as_gskipU rfl rfl rfl rfl ?_ | refine as_gh rfl rfl rfl rfl (h_q rfl (q_move rfl) ?_)
  first | refine as_gskip rfl rfl rfl rfl rfl ?_ | refine as_gskipU rfl rfl rfl rfl ?_ | refine as_gh rfl rfl rfl rfl (h_q rfl (q_neF rfl rfl rfl) ?_)
  first | refine as_q rfl rfl (q_pick_t rfl rfl) ?_ | refine as_q rfl rfl (q_pick_f rfl rfl) ?_ | refine as_q rfl rfl (q_pick rfl rfl rfl) ?_
  refine as_q rfl rfl (q_move rfl) ?_
  first | refine as_gskip rfl rfl rfl rfl rfl ?_ | refine as_gskipU rfl rfl rfl rfl ?_ | refine as_gh rfl rfl rfl rfl (h_q rfl (q_fieldAddr (off := 1) (by kernel_rfl) rfl) ?_)
  first | refine as_gskip rfl rfl rfl rfl rfl ?_ | refine as_gskipU rfl rfl rfl rfl ?_ | refine as_gh rfl rfl rfl rfl (h_q rfl (q_load1 (by kernel_rfl) rfl (by first | exact Blk.cell ho1.1 rfl | assumption)) ?_)
  first | refine as_gskip rfl rfl rfl rfl rfl ?_ | refine as_gskipU rfl rfl rfl rfl ?_ | refine as_gh rfl rfl rfl rfl (h_q rfl (q_move rfl) ?_)
  first | refine as_gskip rfl rfl rfl rfl rfl ?_ | refine as_gskipU rfl rfl rfl rfl ?_ | refine as_gh rfl rfl rfl rfl (h_q rfl (q_neF rfl rfl rfl) ?_)
  first | refine as_q rfl rfl (q_pick_t rfl rfl) ?_ | refine as_q rfl rfl (q_pick_f rfl rfl) ?_ | refine as_q rfl rfl (q_pick rfl rfl rfl) ?_
  refine as_q rfl rfl (q_move rfl) ?_
  first | refine as_gskip rfl rfl rfl rfl rfl ?_ | refine as_gskipU rfl rfl rfl rfl ?_ | refine as_gh rfl rfl rfl rfl (h_q rfl (q_loadc (n := 2) (by kernel_rfl) rfl (by first | exact Blk.cells ho1.1 rfl | assumption)) ?_)
  refine as_gh rfl rfl rfl rfl (h_call (by kernel_rfl) rfl ?_)
  refine (z_text (e := (a, b)) hs6.sat hg ⟨ha, hb⟩).mono ?_
  rintro _ w7 ⟨rfl, hs7⟩
  replace hg := hg.mono hs7.le
  replace ho1 := ho1.then hs7
  replace hT := hT.then hs7
  have hz7 := hs7.size
  first | refine as_gskip rfl rfl rfl rfl rfl ?_ | refine as_gskipU rfl rfl rfl rfl ?_ | refine as_gh rfl rfl rfl rfl (h_q rfl (q_move rfl) ?_)
  first | refine as_gskip rfl rfl rfl rfl rfl ?_ | refine as_gskipU rfl rfl rfl rfl ?_ | refine as_gh rfl rfl rfl rfl (h_q rfl (q_congr (q_neL rfl rfl) (v' := .bool false) (by rw [decide_eq_true (show textE (a, b) = _ from by simp [textE])]; rfl)) ?_)
  first | refine as_q rfl rfl (q_pick_t rfl rfl) ?_ | refine as_q rfl rfl (q_pick_f rfl rfl) ?_ | refine as_q rfl rfl (q_pick rfl rfl rfl) ?_
  refine as_nil (hK8 _ _ ?_)
  clear hK8 K8
  refine cw_false rfl ?_
  refine cw_skip ?_
  refine hK7 _ _ ?_
  clear hK7 K7
  refine cw_seq fun K9 hK9 => ?_
  have hc8 : (48 ≤ cb.toNat ∧ cb.toNat ≤ 57) ∨ cb.toNat = 45 ∨ 57 < cb.toNat ∨ (cb.toNat < 48 ∧ cb.toNat ≠ 45) := by omega
  rcases hc8 with hq | hq | hq | hq
  · skip
    refine cw_rs fun K10 hK10 => ?_
    -- region 8
    refine as_q rfl rfl (q_move rfl) ?_
    refine as_q rfl rfl (q_geT rfl rfl (by omega)) ?_
    refine as_q rfl rfl (q_move rfl) ?_
    first | refine as_gskip rfl rfl rfl rfl rfl ?_ | refine as_gskipU rfl rfl rfl rfl ?_ | refine as_gh rfl rfl rfl rfl (h_q rfl (q_move rfl) ?_)
    first | refine as_gskip rfl rfl rfl rfl rfl ?_ | refine as_gskipU rfl rfl rfl rfl ?_ | refine as_gh rfl rfl rfl rfl (h_q rfl (q_leT rfl rfl (by omega)) ?_)
    first | refine as_q rfl rfl (q_pick_t rfl rfl) ?_ | refine as_q rfl rfl (q_pick_f rfl rfl) ?_ | refine as_q rfl rfl (q_pick rfl rfl rfl) ?_
    refine as_q rfl rfl (q_move rfl) ?_
    first | refine as_gskip rfl rfl rfl rfl rfl ?_ | refine as_gskipU rfl rfl rfl rfl ?_ | refine as_gh rfl rfl rfl rfl (h_q rfl (q_move rfl) ?_)
    first | refine as_gskip rfl rfl rfl rfl rfl ?_ | refine as_gskipU rfl rfl rfl rfl ?_ | refine as_gh rfl rfl rfl rfl (h_q rfl (q_eqF rfl rfl (by omega)) ?_)
    first | refine as_q rfl rfl (q_pick_t rfl rfl) ?_ | refine as_q rfl rfl (q_pick_f rfl rfl) ?_ | refine as_q rfl rfl (q_pick rfl rfl rfl) ?_
    refine as_nil (hK10 _ _ ?_)
    clear hK10 K10
    refine cw_true rfl ?_
    refine cw_rs fun K11 hK11 => ?_
    -- region 9
    refine as_q rfl rfl (q_assign rfl) ?_
    refine as_nil (hK11 _ _ ?_)
    clear hK11 K11
    refine cw_ret ?_
    exact ⟨_, (res_tmp rfl res_nil), rfl, hT⟩
  · skip
    refine cw_rs fun K12 hK12 => ?_
    -- region 8
    refine as_q rfl rfl (q_move rfl) ?_
    refine as_q rfl rfl (q_geF rfl rfl (by omega)) ?_
    refine as_q rfl rfl (q_move rfl) ?_
    first | refine as_gskip rfl rfl rfl rfl rfl ?_ | refine as_gskipU rfl rfl rfl rfl ?_ | refine as_gh rfl rfl rfl rfl (h_q rfl (q_move rfl) ?_)
    first | refine as_gskip rfl rfl rfl rfl rfl ?_ | refine as_gskipU rfl rfl rfl rfl ?_ | refine as_gh rfl rfl rfl rfl (h_q rfl (q_leF rfl rfl (by omega)) ?_)
    first | refine as_q rfl rfl (q_pick_t rfl rfl) ?_ | refine as_q rfl rfl (q_pick_f rfl rfl) ?_ | refine as_q rfl rfl (q_pick rfl rfl rfl) ?_
    refine as_q rfl rfl (q_move rfl) ?_
    first | refine as_gskip rfl rfl rfl rfl rfl ?_ | refine as_gskipU rfl rfl rfl rfl ?_ | refine as_gh rfl rfl rfl rfl (h_q rfl (q_move rfl) ?_)
    first | refine as_gskip rfl rfl rfl rfl rfl ?_ | refine as_gskipU rfl rfl rfl rfl ?_ | refine as_gh rfl rfl rfl rfl (h_q rfl (q_eqT rfl rfl (by omega)) ?_)
    first | refine as_q rfl rfl (q_pick_t rfl rfl) ?_ | refine as_q rfl rfl (q_pick_f rfl rfl) ?_ | refine as_q rfl rfl (q_pick rfl rfl rfl) ?_
    refine as_nil (hK12 _ _ ?_)
    clear hK12 K12
    refine cw_true rfl ?_
    refine cw_rs fun K13 hK13 => ?_
    -- region 9
    refine as_q rfl rfl (q_assign rfl) ?_
    refine as_nil (hK13 _ _ ?_)
    clear hK13 K13
    refine cw_ret ?_
    exact ⟨_, (res_tmp rfl res_nil), rfl, hT⟩
  · skip
    have hnd : ¬ (48 ≤ cb.toNat ∧ cb.toNat ≤ 57) := by omega
    have h45 : cb.toNat ≠ 45 := by omega
    refine cw_rs fun K14 hK14 => ?_
    -- region 8
    refine as_q rfl rfl (q_move rfl) ?_
    refine as_q rfl rfl (q_geT rfl rfl (by omega)) ?_
    refine as_q rfl rfl (q_move rfl) ?_
    first | refine as_gskip rfl rfl rfl rfl rfl ?_ | refine as_gskipU rfl rfl rfl rfl ?_ | refine as_gh rfl rfl rfl rfl (h_q rfl (q_move rfl) ?_)
    first | refine as_gskip rfl rfl rfl rfl rfl ?_ | refine as_gskipU rfl rfl rfl rfl ?_ | refine as_gh rfl rfl rfl rfl (h_q rfl (q_leF rfl rfl (by omega)) ?_)
    first | refine as_q rfl rfl (q_pick_t rfl rfl) ?_ | refine as_q rfl rfl (q_pick_f rfl rfl) ?_ | refine as_q rfl rfl (q_pick rfl rfl rfl) ?_
    refine as_q rfl rfl (q_move rfl) ?_
    first | refine as_gskip rfl rfl rfl rfl rfl ?_ | refine as_gskipU rfl rfl rfl rfl ?_ | refine as_gh rfl rfl rfl rfl (h_q rfl (q_move rfl) ?_)
    first | refine as_gskip rfl rfl rfl rfl rfl ?_ | refine as_gskipU rfl rfl rfl rfl ?_ | refine as_gh rfl rfl rfl rfl (h_q rfl (q_eqF rfl rfl (by omega)) ?_)
    first | refine as_q rfl rfl (q_pick_t rfl rfl) ?_ | refine as_q rfl rfl (q_pick_f rfl rfl) ?_ | refine as_q rfl rfl (q_pick rfl rfl rfl) ?_
    refine as_nil (hK14 _ _ ?_)
    clear hK14 K14
    refine cw_false rfl ?_
    refine cw_skip ?_
    refine hK9 _ _ ?_
    clear hK9 K9
    refine cw_rs fun K15 hK15 => ?_
    -- region 10
    refine as_q rfl rfl (q_move rfl) ?_
    refine as_h rfl (h_buildO (e := 5) (size := 1) (zs := [(.int .u8 0)]) (cs := [_]) (by kernel_rfl) (by kernel_rfl) (by kernel_rfl) rfl hs7.sat rfl rfl fun bb w8 hs8 hob eb => ?_)
    replace hg := hg.mono hs8.le
    replace ho1 := ho1.then hs8
    replace hT := hT.then hs8
    have hz8 := hs8.size
    have hlb := hob.1.lt
    refine as_q rfl rfl (q_byteS (b := cb) Tryd.underlying41 Tryd.underlying5 Tryd.underlying9 rfl (hob.1.cell rfl)) ?_
    refine as_q rfl rfl (q_assign rfl) ?_
    refine as_nil (hK15 _ _ ?_)
    clear hK15 K15
    refine cw_rs fun K16 hK16 => ?_
    -- region 11
    refine as_q rfl rfl (q_move rfl) ?_
    refine as_q rfl rfl (q_move rfl) ?_
    refine as_q rfl rfl (q_catL (a := [cb]) rfl rfl (by simp; omega)) ?_
    refine as_h rfl (h_call (by kernel_rfl) rfl ?_)
    refine (z_parseR (bs := ([cb] ++ (Lib.itoa a ++ [58] ++ Lib.itoa b))) hs8.sat hg (by simp; omega)).mono ?_
    rintro _ w9 ⟨h1r, h1c, rfl, h1, hs9⟩
    replace hg := hg.mono hs9.le
    replace ho1 := ho1.then hs9
    replace hob := hob.then hs9
    replace hT := hT.then hs9
    have hz9 := hs9.size
    obtain ⟨rfl, rfl⟩ := h1.no (fun e => no_text_head (c := cb) h45 hnd e)
    refine as_q rfl rfl (q_move rfl) ?_
    refine as_q rfl rfl (q_extract rfl rfl) ?_
    refine as_q rfl rfl (q_extract rfl rfl) ?_
    have hqa2 := hT.size
    refine as_h rfl (h_allocO (z := (.agg #[(.int .i64 0), (.int .i64 0)])) hs9.sat (by kernel_rfl) rfl fun b2 w10 hs10 ho2 e2 => ?_)
    replace hg := hg.mono hs10.le
    replace ho1 := ho1.then hs10
    replace hob := hob.then hs10
    replace hT := hT.then hs10
    have hz10 := hs10.size
    have hl2 := ho2.1.lt
    refine as_h0 (h_store hs10.sat ho2 rfl rfl rfl (by kernel_rfl) rfl rfl rfl fun w11 hs11 hn11 => ?_)
    replace hg := hg.mono hs11.le
    replace ho1 := ho1.step hs11 (by intro h; cases h; omega)
    replace hob := hob.step hs11 (by intro h; cases h; omega)
    clear ho2; have ho2 := hn11; clear hn11
    replace hT := hT.own hs11 (by omega)
    have hz11 := hs11.size
    refine as_q rfl rfl (q_assign rfl) ?_
    refine as_nil (hK16 _ _ ?_)
    clear hK16 K16
    refine cw_rs fun K17 hK17 => ?_
    -- region 12
    refine as_q rfl rfl (q_move rfl) ?_
    refine as_q rfl rfl (q_move rfl) ?_
    refine as_q rfl rfl (q_catL (b := [cb]) rfl rfl (by simp; omega)) ?_
    refine as_h rfl (h_call (by kernel_rfl) rfl ?_)
    refine (z_parseR (bs := ((Lib.itoa a ++ [58] ++ Lib.itoa b) ++ [cb])) hs11.sat hg (by simp; omega)).mono ?_
    rintro _ w12 ⟨h2r, h2c, rfl, h2, hs12⟩
    replace hg := hg.mono hs12.le
    replace ho1 := ho1.then hs12
    replace hob := hob.then hs12
    replace ho2 := ho2.then hs12
    replace hT := hT.then hs12
    have hz12 := hs12.size
    obtain ⟨rfl, rfl⟩ := h2.no (fun e => no_text_last hnd e)
    refine as_q rfl rfl (q_move rfl) ?_
    refine as_q rfl rfl (q_extract rfl rfl) ?_
    refine as_q rfl rfl (q_extract rfl rfl) ?_
    have hqa3 := hT.size
    refine as_h rfl (h_allocO (z := (.agg #[(.int .i64 0), (.int .i64 0)])) hs12.sat (by kernel_rfl) rfl fun b3 w13 hs13 ho3 e3 => ?_)
    replace hg := hg.mono hs13.le
    replace ho1 := ho1.then hs13
    replace hob := hob.then hs13
    replace ho2 := ho2.then hs13
    replace hT := hT.then hs13
    have hz13 := hs13.size
    have hl3 := ho3.1.lt
    refine as_h0 (h_store hs13.sat ho3 rfl rfl rfl (by kernel_rfl) rfl rfl rfl fun w14 hs14 hn14 => ?_)
    replace hg := hg.mono hs14.le
    replace ho1 := ho1.step hs14 (by intro h; cases h; omega)
    replace hob := hob.step hs14 (by intro h; cases h; omega)
    replace ho2 := ho2.step hs14 (by intro h; cases h; omega)
    clear ho3; have ho3 := hn14; clear hn14
    replace hT := hT.own hs14 (by omega)
    have hz14 := hs14.size
    refine as_q rfl rfl (q_assign rfl) ?_
    refine as_nil (hK17 _ _ ?_)
    clear hK17 K17
    refine cw_rs fun K18 hK18 => ?_
    -- region 13
    refine as_q rfl rfl (q_move rfl) ?_
    refine as_h rfl (h_call (by kernel_rfl) rfl ?_)
    refine (ref_number (n := a) hs14.sat ha).mono ?_
    rintro _ w15 ⟨rfl, hs15⟩
    replace hg := hg.mono hs15.le
    replace ho1 := ho1.then hs15
    replace hob := hob.then hs15
    replace ho2 := ho2.then hs15
    replace ho3 := ho3.then hs15
    replace hT := hT.then hs15
    have hz15 := hs15.size
    refine as_q rfl rfl (q_move rfl) ?_
    refine as_q rfl rfl (q_catL (b := [cb]) rfl rfl (by simp; omega)) ?_
    refine as_q rfl rfl (q_catL rfl rfl (by simp; omega)) ?_
    refine as_q rfl rfl (q_move rfl) ?_
    refine as_h rfl (h_call (by kernel_rfl) rfl ?_)
    refine (ref_number (n := b) hs15.sat hb).mono ?_
    rintro _ w16 ⟨rfl, hs16⟩
    replace hg := hg.mono hs16.le
    replace ho1 := ho1.then hs16
    replace hob := hob.then hs16
    replace ho2 := ho2.then hs16
    replace ho3 := ho3.then hs16
    replace hT := hT.then hs16
    have hz16 := hs16.size
    refine as_q rfl rfl (q_catL rfl rfl (by simp; omega)) ?_
    refine as_h rfl (h_call (by kernel_rfl) rfl ?_)
    refine (z_parseR (bs := (Lib.itoa a ++ [cb] ++ [58] ++ Lib.itoa b)) hs16.sat hg (by simp; omega)).mono ?_
    rintro _ w17 ⟨h3r, h3c, rfl, h3, hs17⟩
    replace hg := hg.mono hs17.le
    replace ho1 := ho1.then hs17
    replace hob := hob.then hs17
    replace ho2 := ho2.then hs17
    replace ho3 := ho3.then hs17
    replace hT := hT.then hs17
    have hz17 := hs17.size
    obtain ⟨rfl, rfl⟩ := h3.no (fun e => no_text_mid h45 hnd e)
    refine as_q rfl rfl (q_move rfl) ?_
    refine as_q rfl rfl (q_extract rfl rfl) ?_
    refine as_q rfl rfl (q_extract rfl rfl) ?_
    have hqa4 := hT.size
    refine as_h rfl (h_allocO (z := (.agg #[(.int .i64 0), (.int .i64 0)])) hs17.sat (by kernel_rfl) rfl fun b4 w18 hs18 ho4 e4 => ?_)
    replace hg := hg.mono hs18.le
    replace ho1 := ho1.then hs18
    replace hob := hob.then hs18
    replace ho2 := ho2.then hs18
    replace ho3 := ho3.then hs18
    replace hT := hT.then hs18
    have hz18 := hs18.size
    have hl4 := ho4.1.lt
    refine as_h0 (h_store hs18.sat ho4 rfl rfl rfl (by kernel_rfl) rfl rfl rfl fun w19 hs19 hn19 => ?_)
    replace hg := hg.mono hs19.le
    replace ho1 := ho1.step hs19 (by intro h; cases h; omega)
    replace hob := hob.step hs19 (by intro h; cases h; omega)
    replace ho2 := ho2.step hs19 (by intro h; cases h; omega)
    replace ho3 := ho3.step hs19 (by intro h; cases h; omega)
    clear ho4; have ho4 := hn19; clear hn19
    replace hT := hT.own hs19 (by omega)
    have hz19 := hs19.size
    refine as_q rfl rfl (q_assign rfl) ?_
    refine as_nil (hK18 _ _ ?_)
    clear hK18 K18
    refine cw_rs fun K19 hK19 => ?_
    -- region 14
    refine as_q rfl rfl (q_move rfl) ?_
    refine as_q rfl rfl (q_eqT rfl rfl rfl) ?_
    refine as_q rfl rfl (q_move rfl) ?_
    first | refine as_gskip rfl rfl rfl rfl rfl ?_ | refine as_gskipU rfl rfl rfl rfl ?_ | refine as_gh rfl rfl rfl rfl (h_q rfl (q_move rfl) ?_)
    first | refine as_gskip rfl rfl rfl rfl rfl ?_ | refine as_gskipU rfl rfl rfl rfl ?_ | refine as_gh rfl rfl rfl rfl (h_q rfl (q_eqT rfl rfl rfl) ?_)
    first | refine as_q rfl rfl (q_pick_t rfl rfl) ?_ | refine as_q rfl rfl (q_pick_f rfl rfl) ?_ | refine as_q rfl rfl (q_pick rfl rfl rfl) ?_
    refine as_q rfl rfl (q_move rfl) ?_
    first | refine as_gskip rfl rfl rfl rfl rfl ?_ | refine as_gskipU rfl rfl rfl rfl ?_ | refine as_gh rfl rfl rfl rfl (h_q rfl (q_move rfl) ?_)
    first | refine as_gskip rfl rfl rfl rfl rfl ?_ | refine as_gskipU rfl rfl rfl rfl ?_ | refine as_gh rfl rfl rfl rfl (h_q rfl (q_eqT rfl rfl rfl) ?_)
    first | refine as_q rfl rfl (q_pick_t rfl rfl) ?_ | refine as_q rfl rfl (q_pick_f rfl rfl) ?_ | refine as_q rfl rfl (q_pick rfl rfl rfl) ?_
    refine as_q rfl rfl (q_assign rfl) ?_
    refine as_nil (hK19 _ _ ?_)
    clear hK19 K19
    refine cw_ret ?_
    exact ⟨_, (res_tmp rfl res_nil), rfl, hT⟩
  · skip
    have hnd : ¬ (48 ≤ cb.toNat ∧ cb.toNat ≤ 57) := by omega
    have h45 : cb.toNat ≠ 45 := by omega
    refine cw_rs fun K20 hK20 => ?_
    -- region 8
    refine as_q rfl rfl (q_move rfl) ?_
    refine as_q rfl rfl (q_geF rfl rfl (by omega)) ?_
    refine as_q rfl rfl (q_move rfl) ?_
    first | refine as_gskip rfl rfl rfl rfl rfl ?_ | refine as_gskipU rfl rfl rfl rfl ?_ | refine as_gh rfl rfl rfl rfl (h_q rfl (q_move rfl) ?_)
    first | refine as_gskip rfl rfl rfl rfl rfl ?_ | refine as_gskipU rfl rfl rfl rfl ?_ | refine as_gh rfl rfl rfl rfl (h_q rfl (q_leF rfl rfl (by omega)) ?_)
    first | refine as_q rfl rfl (q_pick_t rfl rfl) ?_ | refine as_q rfl rfl (q_pick_f rfl rfl) ?_ | refine as_q rfl rfl (q_pick rfl rfl rfl) ?_
    refine as_q rfl rfl (q_move rfl) ?_
    first | refine as_gskip rfl rfl rfl rfl rfl ?_ | refine as_gskipU rfl rfl rfl rfl ?_ | refine as_gh rfl rfl rfl rfl (h_q rfl (q_move rfl) ?_)
    first | refine as_gskip rfl rfl rfl rfl rfl ?_ | refine as_gskipU rfl rfl rfl rfl ?_ | refine as_gh rfl rfl rfl rfl (h_q rfl (q_eqF rfl rfl (by omega)) ?_)
    first | refine as_q rfl rfl (q_pick_t rfl rfl) ?_ | refine as_q rfl rfl (q_pick_f rfl rfl) ?_ | refine as_q rfl rfl (q_pick rfl rfl rfl) ?_
    refine as_nil (hK20 _ _ ?_)
    clear hK20 K20
    refine cw_false rfl ?_
    refine cw_skip ?_
    refine hK9 _ _ ?_
    clear hK9 K9
    refine cw_rs fun K21 hK21 => ?_
    -- region 10
    refine as_q rfl rfl (q_move rfl) ?_
    refine as_h rfl (h_buildO (e := 5) (size := 1) (zs := [(.int .u8 0)]) (cs := [_]) (by kernel_rfl) (by kernel_rfl) (by kernel_rfl) rfl hs7.sat rfl rfl fun bb w20 hs20 hob eb => ?_)
    replace hg := hg.mono hs20.le
    replace ho1 := ho1.then hs20
    replace hT := hT.then hs20
    have hz20 := hs20.size
    have hlb := hob.1.lt
    refine as_q rfl rfl (q_byteS (b := cb) Tryd.underlying41 Tryd.underlying5 Tryd.underlying9 rfl (hob.1.cell rfl)) ?_
    refine as_q rfl rfl (q_assign rfl) ?_
    refine as_nil (hK21 _ _ ?_)
    clear hK21 K21
    refine cw_rs fun K22 hK22 => ?_
    -- region 11
    refine as_q rfl rfl (q_move rfl) ?_
    refine as_q rfl rfl (q_move rfl) ?_
    refine as_q rfl rfl (q_catL (a := [cb]) rfl rfl (by simp; omega)) ?_
    refine as_h rfl (h_call (by kernel_rfl) rfl ?_)
    refine (z_parseR (bs := ([cb] ++ (Lib.itoa a ++ [58] ++ Lib.itoa b))) hs20.sat hg (by simp; omega)).mono ?_
    rintro _ w21 ⟨h1r, h1c, rfl, h1, hs21⟩
    replace hg := hg.mono hs21.le
    replace ho1 := ho1.then hs21
    replace hob := hob.then hs21
    replace hT := hT.then hs21
    have hz21 := hs21.size
    obtain ⟨rfl, rfl⟩ := h1.no (fun e => no_text_head (c := cb) h45 hnd e)
    refine as_q rfl rfl (q_move rfl) ?_
    refine as_q rfl rfl (q_extract rfl rfl) ?_
    refine as_q rfl rfl (q_extract rfl rfl) ?_
    have hqa2 := hT.size
    refine as_h rfl (h_allocO (z := (.agg #[(.int .i64 0), (.int .i64 0)])) hs21.sat (by kernel_rfl) rfl fun b2 w22 hs22 ho2 e2 => ?_)
    replace hg := hg.mono hs22.le
    replace ho1 := ho1.then hs22
    replace hob := hob.then hs22
    replace hT := hT.then hs22
    have hz22 := hs22.size
    have hl2 := ho2.1.lt
    refine as_h0 (h_store hs22.sat ho2 rfl rfl rfl (by kernel_rfl) rfl rfl rfl fun w23 hs23 hn23 => ?_)
    replace hg := hg.mono hs23.le
    replace ho1 := ho1.step hs23 (by intro h; cases h; omega)
    replace hob := hob.step hs23 (by intro h; cases h; omega)
    clear ho2; have ho2 := hn23; clear hn23
    replace hT := hT.own hs23 (by omega)
    have hz23 := hs23.size
    refine as_q rfl rfl (q_assign rfl) ?_
    refine as_nil (hK22 _ _ ?_)
    clear hK22 K22
    refine cw_rs fun K23 hK23 => ?_
    -- region 12
    refine as_q rfl rfl (q_move rfl) ?_
    refine as_q rfl rfl (q_move rfl) ?_
    refine as_q rfl rfl (q_catL (b := [cb]) rfl rfl (by simp; omega)) ?_
    refine as_h rfl (h_call (by kernel_rfl) rfl ?_)
    refine (z_parseR (bs := ((Lib.itoa a ++ [58] ++ Lib.itoa b) ++ [cb])) hs23.sat hg (by simp; omega)).mono ?_
    rintro _ w24 ⟨h2r, h2c, rfl, h2, hs24⟩
    replace hg := hg.mono hs24.le
    replace ho1 := ho1.then hs24
    replace hob := hob.then hs24
    replace ho2 := ho2.then hs24
    replace hT := hT.then hs24
    have hz24 := hs24.size
    obtain ⟨rfl, rfl⟩ := h2.no (fun e => no_text_last hnd e)
    refine as_q rfl rfl (q_move rfl) ?_
    refine as_q rfl rfl (q_extract rfl rfl) ?_
    refine as_q rfl rfl (q_extract rfl rfl) ?_
    have hqa3 := hT.size
    refine as_h rfl (h_allocO (z := (.agg #[(.int .i64 0), (.int .i64 0)])) hs24.sat (by kernel_rfl) rfl fun b3 w25 hs25 ho3 e3 => ?_)
    replace hg := hg.mono hs25.le
    replace ho1 := ho1.then hs25
    replace hob := hob.then hs25
    replace ho2 := ho2.then hs25
    replace hT := hT.then hs25
    have hz25 := hs25.size
    have hl3 := ho3.1.lt
    refine as_h0 (h_store hs25.sat ho3 rfl rfl rfl (by kernel_rfl) rfl rfl rfl fun w26 hs26 hn26 => ?_)
    replace hg := hg.mono hs26.le
    replace ho1 := ho1.step hs26 (by intro h; cases h; omega)
    replace hob := hob.step hs26 (by intro h; cases h; omega)
    replace ho2 := ho2.step hs26 (by intro h; cases h; omega)
    clear ho3; have ho3 := hn26; clear hn26
    replace hT := hT.own hs26 (by omega)
    have hz26 := hs26.size
    refine as_q rfl rfl (q_assign rfl) ?_
    refine as_nil (hK23 _ _ ?_)
    clear hK23 K23
    refine cw_rs fun K24 hK24 => ?_
    -- region 13
    refine as_q rfl rfl (q_move rfl) ?_
    refine as_h rfl (h_call (by kernel_rfl) rfl ?_)
    refine (ref_number (n := a) hs26.sat ha).mono ?_
    rintro _ w27 ⟨rfl, hs27⟩
    replace hg := hg.mono hs27.le
    replace ho1 := ho1.then hs27
    replace hob := hob.then hs27
    replace ho2 := ho2.then hs27
    replace ho3 := ho3.then hs27
    replace hT := hT.then hs27
    have hz27 := hs27.size
    refine as_q rfl rfl (q_move rfl) ?_
    refine as_q rfl rfl (q_catL (b := [cb]) rfl rfl (by simp; omega)) ?_
    refine as_q rfl rfl (q_catL rfl rfl (by simp; omega)) ?_
    refine as_q rfl rfl (q_move rfl) ?_
    refine as_h rfl (h_call (by kernel_rfl) rfl ?_)
    refine (ref_number (n := b) hs27.sat hb).mono ?_
    rintro _ w28 ⟨rfl, hs28⟩
    replace hg := hg.mono hs28.le
    replace ho1 := ho1.then hs28
    replace hob := hob.then hs28
    replace ho2 := ho2.then hs28
    replace ho3 := ho3.then hs28
    replace hT := hT.then hs28
    have hz28 := hs28.size
    refine as_q rfl rfl (q_catL rfl rfl (by simp; omega)) ?_
    refine as_h rfl (h_call (by kernel_rfl) rfl ?_)
    refine (z_parseR (bs := (Lib.itoa a ++ [cb] ++ [58] ++ Lib.itoa b)) hs28.sat hg (by simp; omega)).mono ?_
    rintro _ w29 ⟨h3r, h3c, rfl, h3, hs29⟩
    replace hg := hg.mono hs29.le
    replace ho1 := ho1.then hs29
    replace hob := hob.then hs29
    replace ho2 := ho2.then hs29
    replace ho3 := ho3.then hs29
    replace hT := hT.then hs29
    have hz29 := hs29.size
    obtain ⟨rfl, rfl⟩ := h3.no (fun e => no_text_mid h45 hnd e)
    refine as_q rfl rfl (q_move rfl) ?_
    refine as_q rfl rfl (q_extract rfl rfl) ?_
    refine as_q rfl rfl (q_extract rfl rfl) ?_
    have hqa4 := hT.size
    refine as_h rfl (h_allocO (z := (.agg #[(.int .i64 0), (.int .i64 0)])) hs29.sat (by kernel_rfl) rfl fun b4 w30 hs30 ho4 e4 => ?_)
    replace hg := hg.mono hs30.le
    replace ho1 := ho1.then hs30
    replace hob := hob.then hs30
    replace ho2 := ho2.then hs30
    replace ho3 := ho3.then hs30
    replace hT := hT.then hs30
    have hz30 := hs30.size
    have hl4 := ho4.1.lt
    refine as_h0 (h_store hs30.sat ho4 rfl rfl rfl (by kernel_rfl) rfl rfl rfl fun w31 hs31 hn31 => ?_)
    replace hg := hg.mono hs31.le
    replace ho1 := ho1.step hs31 (by intro h; cases h; omega)
    replace hob := hob.step hs31 (by intro h; cases h; omega)
    replace ho2 := ho2.step hs31 (by intro h; cases h; omega)
    replace ho3 := ho3.step hs31 (by intro h; cases h; omega)
    clear ho4; have ho4 := hn31; clear hn31
    replace hT := hT.own hs31 (by omega)
    have hz31 := hs31.size
    refine as_q rfl rfl (q_assign rfl) ?_
    refine as_nil (hK24 _ _ ?_)
    clear hK24 K24
    refine cw_rs fun K25 hK25 => ?_
    -- region 14
    refine as_q rfl rfl (q_move rfl) ?_
    refine as_q rfl rfl (q_eqT rfl rfl rfl) ?_
    refine as_q rfl rfl (q_move rfl) ?_
    first | refine as_gskip rfl rfl rfl rfl rfl ?_ | refine as_gskipU rfl rfl rfl rfl ?_ | refine as_gh rfl rfl rfl rfl (h_q rfl (q_move rfl) ?_)
    first | refine as_gskip rfl rfl rfl rfl rfl ?_ | refine as_gskipU rfl rfl rfl rfl ?_ | refine as_gh rfl rfl rfl rfl (h_q rfl (q_eqT rfl rfl rfl) ?_)
    first | refine as_q rfl rfl (q_pick_t rfl rfl) ?_ | refine as_q rfl rfl (q_pick_f rfl rfl) ?_ | refine as_q rfl rfl (q_pick rfl rfl rfl) ?_
    refine as_q rfl rfl (q_move rfl) ?_
    first | refine as_gskip rfl rfl rfl rfl rfl ?_ | refine as_gskipU rfl rfl rfl rfl ?_ | refine as_gh rfl rfl rfl rfl (h_q rfl (q_move rfl) ?_)
    first | refine as_gskip rfl rfl rfl rfl rfl ?_ | refine as_gskipU rfl rfl rfl rfl ?_ | refine as_gh rfl rfl rfl rfl (h_q rfl (q_eqT rfl rfl rfl) ?_)
    first | refine as_q rfl rfl (q_pick_t rfl rfl) ?_ | refine as_q rfl rfl (q_pick_f rfl rfl) ?_ | refine as_q rfl rfl (q_pick rfl rfl rfl) ?_
    refine as_q rfl rfl (q_assign rfl) ?_
    refine as_nil (hK25 _ _ ?_)
    clear hK25 K25
    refine cw_ret ?_
    exact ⟨_, (res_tmp rfl res_nil), rfl, hT⟩

theorem elemParses_walk {w : World} {M : Mem} {a b c : Int} (hs : Sat M w) (hg : Glob M) (ha : InR a) (hb : InR b) (h0 : 0 ≤ c) (h1 : c ≤ 255) :
    Does Tryd.prog 8 #[.int .i64 a, .int .i64 b, .int .u8 c] w (fun v w' => v = .bool true ∧ Step Nope M w M w') := by
  have e : c = ((UInt8.ofNat c.toNat).toNat : Int) := by rw [UInt8.toNat_ofNat']; omega
  rw [e]
  exact elemParses_walk0 hs hg ha hb

end Go.Proofs.YtbfjkclijjhlhaaDoor
