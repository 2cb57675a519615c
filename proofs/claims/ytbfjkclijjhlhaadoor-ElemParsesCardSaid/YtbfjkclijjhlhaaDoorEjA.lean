/- Elements and texts, part 1. -/
import Derived.Test.YtbfjkclijjhlhaaDoorEdA
import Derived.Test.YtbfjkclijjhlhaaDoorEiA
namespace Go.Proofs.YtbfjkclijjhlhaaDoor
open Go Go.Eng
set_option maxHeartbeats 2000000 in
theorem elemTexts_walk {w : World} {M : Mem} {e : El} {bs : List UInt8} (hs : Sat M w) (hg : Glob M) (he : InR e.1 ∧ InR e.2) :
    Does Tryd.prog 4 #[.agg (elc e).toArray, .string ⟨bs.toArray⟩] w (fun v w' => v = .bool true ∧ Step Nope M w M w') := by
  have hT := Step.refl Nope hs
  refine fn_enter Tryd.func4 rfl (rs := [.tmp 4]) rfl rfl rfl rfl ?_
  refine cw_rs fun K1 hK1 => ?_
  -- region 0
  have hqaB := hT.size
  refine as_h rfl (h_boxO hs rfl rfl fun bB w1 hs1 hoB eB => ?_)
  replace hg := hg.mono hs1.le
  replace hT := hT.then hs1
  have hz1 := hs1.size
  have hlB := hoB.1.lt
  refine as_q rfl rfl (q_assign rfl) ?_
  refine as_nil (hK1 _ _ ?_)
  clear hK1 K1
  refine cw_rs fun K2 hK2 => ?_
  -- region 1
  refine as_h rfl (h_call (by kernel_rfl) rfl ?_)
  refine (awake01 hs1.sat hg).mono ?_
  rintro _ w2 ⟨rfl, hs2⟩
  replace hg := hg.mono hs2.le
  replace hoB := hoB.then hs2
  replace hT := hT.then hs2
  have hz2 := hs2.size
  refine as_q rfl rfl (q_assign rfl) ?_
  refine as_nil (hK2 _ _ ?_)
  clear hK2 K2
  refine cw_seq fun K3 hK3 => ?_
  refine cw_rs fun K4 hK4 => ?_
  -- region 2
  refine as_q rfl rfl (q_move rfl) ?_
  refine as_q rfl rfl (q_not rfl) ?_
  refine as_nil (hK4 _ _ ?_)
  clear hK4 K4
  refine cw_false rfl ?_
  refine cw_skip ?_
  refine hK3 _ _ ?_
  clear hK3 K3
  refine cw_seq fun K5 hK5 => ?_
  refine cw_rs fun K6 hK6 => ?_
  -- region 4
  refine as_q rfl rfl (q_move rfl) ?_
  refine as_q rfl rfl (q_lenL (by kernel_rfl) rfl _) ?_
  refine as_q rfl rfl (q_gt rfl rfl) ?_
  refine as_nil (hK6 _ _ ?_)
  clear hK6 K6
  refine cw_cond rfl (fun hc1 => ?_) (fun hc1 => ?_)
  · skip
    skip
    refine cw_rs fun K7 hK7 => ?_
    -- region 5
    refine as_q rfl rfl (q_assign rfl) ?_
    refine as_nil (hK7 _ _ ?_)
    clear hK7 K7
    refine cw_ret ?_
    exact ⟨_, (res_tmp rfl res_nil), rfl, hT⟩
  · skip
    have hn : bs.length ≤ 100 := by have := of_decide_eq_false hc1; omega
    refine cw_skip ?_
    refine hK5 _ _ ?_
    clear hK5 K5
    refine cw_rs fun K8 hK8 => ?_
    -- region 6
    refine as_q rfl rfl (q_move rfl) ?_
    refine as_h rfl (h_call (by kernel_rfl) rfl ?_)
    refine (z_parseR (bs := bs) hs2.sat hg (by omega)).mono ?_
    rintro _ w3 ⟨hxr, hxc, rfl, hx, hs3⟩
    replace hg := hg.mono hs3.le
    replace hoB := hoB.then hs3
    replace hT := hT.then hs3
    have hz3 := hs3.size
    refine as_q rfl rfl (q_move rfl) ?_
    refine as_q rfl rfl (q_extract rfl rfl) ?_
    refine as_q rfl rfl (q_extract rfl rfl) ?_
    have hqa1 := hT.size
    refine as_h rfl (h_allocO (z := (.agg #[(.int .i64 0), (.int .i64 0)])) hs3.sat (by kernel_rfl) rfl fun b1 w4 hs4 ho1 e1 => ?_)
    replace hg := hg.mono hs4.le
    replace hoB := hoB.then hs4
    replace hT := hT.then hs4
    have hz4 := hs4.size
    have hl1 := ho1.1.lt
    refine as_h0 (h_store hs4.sat ho1 rfl rfl rfl (by kernel_rfl) rfl rfl rfl fun w5 hs5 hn5 => ?_)
    replace hg := hg.mono hs5.le
    replace hoB := hoB.step hs5 (by intro h; cases h; omega)
    clear ho1; have ho1 := hn5; clear hn5
    replace hT := hT.own hs5 (by omega)
    have hz5 := hs5.size
    refine as_q rfl rfl (q_assign rfl) ?_
    refine as_nil (hK8 _ _ ?_)
    clear hK8 K8
    refine cw_rs fun K9 hK9 => ?_
    -- region 7
    refine as_q rfl rfl (q_move rfl) ?_
    refine as_h rfl (h_call (by kernel_rfl) rfl ?_)
    refine (ref_parseR (bs := bs) hs5.sat (by omega)).mono ?_
    rintro _ w6 ⟨hyr, hyc, rfl, hy, hs6⟩
    replace hg := hg.mono hs6.le
    replace hoB := hoB.then hs6
    replace ho1 := ho1.then hs6
    replace hT := hT.then hs6
    have hz6 := hs6.size
    obtain ⟨rfl, rfl⟩ := hx.same hy
    refine as_q rfl rfl (q_move rfl) ?_
    refine as_q rfl rfl (q_extract rfl rfl) ?_
    refine as_q rfl rfl (q_extract rfl rfl) ?_
    have hqa2 := hT.size
    refine as_h rfl (h_allocO (z := (.agg #[(.int .i64 0), (.int .i64 0)])) hs6.sat (by kernel_rfl) rfl fun b2 w7 hs7 ho2 e2 => ?_)
    replace hg := hg.mono hs7.le
    replace hoB := hoB.then hs7
    replace ho1 := ho1.then hs7
    replace hT := hT.then hs7
    have hz7 := hs7.size
    have hl2 := ho2.1.lt
    refine as_h0 (h_store hs7.sat ho2 rfl rfl rfl (by kernel_rfl) rfl rfl rfl fun w8 hs8 hn8 => ?_)
    replace hg := hg.mono hs8.le
    replace hoB := hoB.step hs8 (by intro h; cases h; omega)
    replace ho1 := ho1.step hs8 (by intro h; cases h; omega)
    clear ho2; have ho2 := hn8; clear hn8
    replace hT := hT.own hs8 (by omega)
    have hz8 := hs8.size
    refine as_q rfl rfl (q_assign rfl) ?_
    refine as_nil (hK9 _ _ ?_)
    clear hK9 K9
    refine cw_rs fun K10 hK10 => ?_
    -- region 8
    refine as_q rfl rfl (q_loadc (n := 2) (by kernel_rfl) rfl (by first | exact Blk.cells hoB.1 rfl | exact Blk.cells ho1.1 rfl | exact Blk.cells ho2.1 rfl | assumption)) ?_
    refine as_h rfl (h_call (by kernel_rfl) rfl ?_)
    refine (z_text (e := e) hs8.sat hg he).mono ?_
    rintro _ w9 ⟨rfl, hs9⟩
    replace hg := hg.mono hs9.le
    replace hoB := hoB.then hs9
    replace ho1 := ho1.then hs9
    replace ho2 := ho2.then hs9
    replace hT := hT.then hs9
    have hz9 := hs9.size
    refine as_q rfl rfl (q_assign rfl) ?_
    refine as_nil (hK10 _ _ ?_)
    clear hK10 K10
    refine cw_rs fun K11 hK11 => ?_
    -- region 9
    refine as_q rfl rfl (q_move rfl) ?_
    refine as_h rfl (h_call (by kernel_rfl) rfl ?_)
    refine (z_parseR (bs := (textE e)) hs9.sat hg (by have := text_len he; omega)).mono ?_
    rintro _ w10 ⟨hzr, hzc, rfl, hz, hs10⟩
    replace hg := hg.mono hs10.le
    replace hoB := hoB.then hs10
    replace ho1 := ho1.then hs10
    replace ho2 := ho2.then hs10
    replace hT := hT.then hs10
    have hz10 := hs10.size
    obtain ⟨rfl, rfl⟩ := hz.yes he rfl
    refine as_q rfl rfl (q_move rfl) ?_
    refine as_q rfl rfl (q_extract rfl rfl) ?_
    refine as_q rfl rfl (q_extract rfl rfl) ?_
    have hqa3 := hT.size
    refine as_h rfl (h_allocO (z := (.agg #[(.int .i64 0), (.int .i64 0)])) hs10.sat (by kernel_rfl) rfl fun b3 w11 hs11 ho3 e3 => ?_)
    replace hg := hg.mono hs11.le
    replace hoB := hoB.then hs11
    replace ho1 := ho1.then hs11
    replace ho2 := ho2.then hs11
    replace hT := hT.then hs11
    have hz11 := hs11.size
    have hl3 := ho3.1.lt
    refine as_h0 (h_store hs11.sat ho3 rfl rfl rfl (by kernel_rfl) rfl rfl rfl fun w12 hs12 hn12 => ?_)
    replace hg := hg.mono hs12.le
    replace hoB := hoB.step hs12 (by intro h; cases h; omega)
    replace ho1 := ho1.step hs12 (by intro h; cases h; omega)
    replace ho2 := ho2.step hs12 (by intro h; cases h; omega)
    clear ho3; have ho3 := hn12; clear hn12
    replace hT := hT.own hs12 (by omega)
    have hz12 := hs12.size
    refine as_q rfl rfl (q_assign rfl) ?_
    refine as_nil (hK11 _ _ ?_)
    clear hK11 K11
    rcases hx with ⟨hxi, hxt, rfl⟩ | ⟨hxn, rfl, rfl⟩
    · skip
      refine cw_rs fun K12 hK12 => ?_
      -- region 10
      refine as_q rfl rfl (q_loadc (n := 2) (by kernel_rfl) rfl (by first | exact Blk.cells hoB.1 rfl | exact Blk.cells ho1.1 rfl | exact Blk.cells ho2.1 rfl | exact Blk.cells ho3.1 rfl | assumption)) ?_
      refine as_q rfl rfl (q_loadc (n := 2) (by kernel_rfl) rfl (by first | exact Blk.cells hoB.1 rfl | exact Blk.cells ho1.1 rfl | exact Blk.cells ho2.1 rfl | exact Blk.cells ho3.1 rfl | assumption)) ?_
      refine as_q rfl rfl (q_congr (q_eqE (a := hyr) (b := hyr) (e := 2) (by kernel_rfl) (by kernel_rfl) (by kernel_rfl) (by kernel_rfl) (by kernel_rfl) (by kernel_rfl) rfl rfl) (v' := .bool true) (by simp)) ?_
      refine as_q rfl rfl (q_move rfl) ?_
      first | refine as_gskip rfl rfl rfl rfl rfl ?_ | refine as_gskipU rfl rfl rfl rfl ?_ | refine as_gh rfl rfl rfl rfl (h_q rfl (q_move rfl) ?_)
      first | refine as_gskip rfl rfl rfl rfl rfl ?_ | refine as_gskipU rfl rfl rfl rfl ?_ | refine as_gh rfl rfl rfl rfl (h_q rfl (q_move rfl) ?_)
      first | refine as_gskip rfl rfl rfl rfl rfl ?_ | refine as_gskipU rfl rfl rfl rfl ?_ | refine as_gh rfl rfl rfl rfl (h_q rfl (q_congr (q_eq rfl rfl) (v' := .bool true) (by simp)) ?_)
      first | refine as_q rfl rfl (q_pick_t rfl rfl) ?_ | refine as_q rfl rfl (q_pick_f rfl rfl) ?_ | refine as_q rfl rfl (q_pick rfl rfl rfl) ?_
      refine as_q rfl rfl (q_move rfl) ?_
      first | refine as_gskip rfl rfl rfl rfl rfl ?_ | refine as_gskipU rfl rfl rfl rfl ?_ | refine as_gh rfl rfl rfl rfl (h_q rfl (q_move rfl) ?_)
      first | refine as_gskip rfl rfl rfl rfl rfl ?_ | refine as_gskipU rfl rfl rfl rfl ?_ | refine as_gh rfl rfl rfl rfl (h_q rfl (q_loadc (n := 2) (by kernel_rfl) rfl (by first | exact Blk.cells hoB.1 rfl | exact Blk.cells ho1.1 rfl | exact Blk.cells ho2.1 rfl | exact Blk.cells ho3.1 rfl | assumption)) ?_)
      refine as_gh rfl rfl rfl rfl (h_call (by kernel_rfl) rfl ?_)
      refine (ref_text (e := hzr) hs12.sat he).mono ?_
      rintro _ w13 ⟨rfl, hs13⟩
      replace hg := hg.mono hs13.le
      replace hoB := hoB.then hs13
      replace ho1 := ho1.then hs13
      replace ho2 := ho2.then hs13
      replace ho3 := ho3.then hs13
      replace hT := hT.then hs13
      have hz13 := hs13.size
      first | refine as_gskip rfl rfl rfl rfl rfl ?_ | refine as_gskipU rfl rfl rfl rfl ?_ | refine as_gh rfl rfl rfl rfl (h_q rfl (q_congr (q_eqL rfl rfl) (v' := .bool true) (by simp)) ?_)
      first | refine as_q rfl rfl (q_pick_t rfl rfl) ?_ | refine as_q rfl rfl (q_pick_f rfl rfl) ?_ | refine as_q rfl rfl (q_pick rfl rfl rfl) ?_
      refine as_q rfl rfl (q_move rfl) ?_
      first | refine as_gskip rfl rfl rfl rfl rfl ?_ | refine as_gskipU rfl rfl rfl rfl ?_ | refine as_gh rfl rfl rfl rfl (h_q rfl (q_loadc (n := 2) (by kernel_rfl) rfl (by first | exact Blk.cells hoB.1 rfl | exact Blk.cells ho1.1 rfl | exact Blk.cells ho2.1 rfl | exact Blk.cells ho3.1 rfl | assumption)) ?_)
      first | refine as_gskip rfl rfl rfl rfl rfl ?_ | refine as_gskipU rfl rfl rfl rfl ?_ | refine as_gh rfl rfl rfl rfl (h_q rfl (q_loadc (n := 2) (by kernel_rfl) rfl (by first | exact Blk.cells hoB.1 rfl | exact Blk.cells ho1.1 rfl | exact Blk.cells ho2.1 rfl | exact Blk.cells ho3.1 rfl | assumption)) ?_)
      first | refine as_gskip rfl rfl rfl rfl rfl ?_ | refine as_gskipU rfl rfl rfl rfl ?_ | refine as_gh rfl rfl rfl rfl (h_q rfl (q_congr (q_eqE (a := hzr) (b := hzr) (e := 2) (by kernel_rfl) (by kernel_rfl) (by kernel_rfl) (by kernel_rfl) (by kernel_rfl) (by kernel_rfl) rfl rfl) (v' := .bool true) (by simp)) ?_)
      first | refine as_q rfl rfl (q_pick_t rfl rfl) ?_ | refine as_q rfl rfl (q_pick_f rfl rfl) ?_ | refine as_q rfl rfl (q_pick rfl rfl rfl) ?_
      refine as_q rfl rfl (q_move rfl) ?_
      first | refine as_gskip rfl rfl rfl rfl rfl ?_ | refine as_gskipU rfl rfl rfl rfl ?_ | refine as_gh rfl rfl rfl rfl (h_q rfl (q_move rfl) ?_)
      first | refine as_gskip rfl rfl rfl rfl rfl ?_ | refine as_gskipU rfl rfl rfl rfl ?_ | refine as_gh rfl rfl rfl rfl (h_q rfl (q_eqT rfl rfl rfl) ?_)
      first | refine as_q rfl rfl (q_pick_t rfl rfl) ?_ | refine as_q rfl rfl (q_pick_f rfl rfl) ?_ | refine as_q rfl rfl (q_pick rfl rfl rfl) ?_
      refine as_q rfl rfl (q_move rfl) ?_
      first | refine as_gskip rfl rfl rfl rfl rfl ?_ | refine as_gskipU rfl rfl rfl rfl ?_ | refine as_gh rfl rfl rfl rfl (h_q rfl (q_move rfl) ?_)
      first | refine as_gskip rfl rfl rfl rfl rfl ?_ | refine as_gskipU rfl rfl rfl rfl ?_ | refine as_gh rfl rfl rfl rfl (h_q rfl (q_neF rfl rfl rfl) ?_)
      first | refine as_gskip rfl rfl rfl rfl rfl ?_ | refine as_gskipU rfl rfl rfl rfl ?_ | refine as_gh rfl rfl rfl rfl (h_q rfl (q_move rfl) ?_)
      first | refine as_gskip rfl rfl rfl rfl rfl ?_ | refine as_gskipU rfl rfl rfl rfl ?_ | refine as_gh rfl rfl rfl rfl (h_q rfl (q_loadc (n := 2) (by kernel_rfl) rfl (by first | exact Blk.cells hoB.1 rfl | exact Blk.cells ho1.1 rfl | exact Blk.cells ho2.1 rfl | exact Blk.cells ho3.1 rfl | assumption)) ?_)
      refine as_gh rfl rfl rfl rfl (h_call (by kernel_rfl) rfl ?_)
      refine (z_text (e := hyr) hs13.sat hg hxi).mono ?_
      rintro _ w14 ⟨rfl, hs14⟩
      replace hg := hg.mono hs14.le
      replace hoB := hoB.then hs14
      replace ho1 := ho1.then hs14
      replace ho2 := ho2.then hs14
      replace ho3 := ho3.then hs14
      replace hT := hT.then hs14
      have hz14 := hs14.size
      first | refine as_gskip rfl rfl rfl rfl rfl ?_ | refine as_gskipU rfl rfl rfl rfl ?_ | refine as_gh rfl rfl rfl rfl (h_q rfl (q_move rfl) ?_)
      first | refine as_gskip rfl rfl rfl rfl rfl ?_ | refine as_gskipU rfl rfl rfl rfl ?_ | refine as_gh rfl rfl rfl rfl (h_q rfl (q_congr (q_eqL rfl rfl) (v' := .bool true) (by rw [decide_eq_true hxt])) ?_)
      first | refine as_gskip rfl rfl rfl rfl rfl ?_ | refine as_gskipU rfl rfl rfl rfl ?_ | refine as_gh rfl rfl rfl rfl (h_q rfl (q_pick_t rfl rfl) ?_) | refine as_gh rfl rfl rfl rfl (h_q rfl (q_pick_f rfl rfl) ?_) | refine as_gh rfl rfl rfl rfl (h_q rfl (q_pick rfl rfl rfl) ?_)
      first | refine as_q rfl rfl (q_pick_t rfl rfl) ?_ | refine as_q rfl rfl (q_pick_f rfl rfl) ?_ | refine as_q rfl rfl (q_pick rfl rfl rfl) ?_
      refine as_q rfl rfl (q_assign rfl) ?_
      refine as_nil (hK12 _ _ ?_)
      clear hK12 K12
      refine cw_ret ?_
      exact ⟨_, (res_tmp rfl res_nil), rfl, hT⟩
    · skip
      refine cw_rs fun K13 hK13 => ?_
      -- region 10
      refine as_q rfl rfl (q_loadc (n := 2) (by kernel_rfl) rfl (by first | exact Blk.cells hoB.1 rfl | exact Blk.cells ho1.1 rfl | exact Blk.cells ho2.1 rfl | exact Blk.cells ho3.1 rfl | assumption)) ?_
      refine as_q rfl rfl (q_loadc (n := 2) (by kernel_rfl) rfl (by first | exact Blk.cells hoB.1 rfl | exact Blk.cells ho1.1 rfl | exact Blk.cells ho2.1 rfl | exact Blk.cells ho3.1 rfl | assumption)) ?_
      refine as_q rfl rfl (q_congr (q_eqE (a := ((0 : Int), (0 : Int))) (b := ((0 : Int), (0 : Int))) (e := 2) (by kernel_rfl) (by kernel_rfl) (by kernel_rfl) (by kernel_rfl) (by kernel_rfl) (by kernel_rfl) rfl rfl) (v' := .bool true) (by simp)) ?_
      refine as_q rfl rfl (q_move rfl) ?_
      first | refine as_gskip rfl rfl rfl rfl rfl ?_ | refine as_gskipU rfl rfl rfl rfl ?_ | refine as_gh rfl rfl rfl rfl (h_q rfl (q_move rfl) ?_)
      first | refine as_gskip rfl rfl rfl rfl rfl ?_ | refine as_gskipU rfl rfl rfl rfl ?_ | refine as_gh rfl rfl rfl rfl (h_q rfl (q_move rfl) ?_)
      first | refine as_gskip rfl rfl rfl rfl rfl ?_ | refine as_gskipU rfl rfl rfl rfl ?_ | refine as_gh rfl rfl rfl rfl (h_q rfl (q_congr (q_eq rfl rfl) (v' := .bool true) (by simp)) ?_)
      first | refine as_q rfl rfl (q_pick_t rfl rfl) ?_ | refine as_q rfl rfl (q_pick_f rfl rfl) ?_ | refine as_q rfl rfl (q_pick rfl rfl rfl) ?_
      refine as_q rfl rfl (q_move rfl) ?_
      first | refine as_gskip rfl rfl rfl rfl rfl ?_ | refine as_gskipU rfl rfl rfl rfl ?_ | refine as_gh rfl rfl rfl rfl (h_q rfl (q_move rfl) ?_)
      first | refine as_gskip rfl rfl rfl rfl rfl ?_ | refine as_gskipU rfl rfl rfl rfl ?_ | refine as_gh rfl rfl rfl rfl (h_q rfl (q_loadc (n := 2) (by kernel_rfl) rfl (by first | exact Blk.cells hoB.1 rfl | exact Blk.cells ho1.1 rfl | exact Blk.cells ho2.1 rfl | exact Blk.cells ho3.1 rfl | assumption)) ?_)
      refine as_gh rfl rfl rfl rfl (h_call (by kernel_rfl) rfl ?_)
      refine (ref_text (e := hzr) hs12.sat he).mono ?_
      rintro _ w15 ⟨rfl, hs15⟩
      replace hg := hg.mono hs15.le
      replace hoB := hoB.then hs15
      replace ho1 := ho1.then hs15
      replace ho2 := ho2.then hs15
      replace ho3 := ho3.then hs15
      replace hT := hT.then hs15
      have hz15 := hs15.size
      first | refine as_gskip rfl rfl rfl rfl rfl ?_ | refine as_gskipU rfl rfl rfl rfl ?_ | refine as_gh rfl rfl rfl rfl (h_q rfl (q_congr (q_eqL rfl rfl) (v' := .bool true) (by simp)) ?_)
      first | refine as_q rfl rfl (q_pick_t rfl rfl) ?_ | refine as_q rfl rfl (q_pick_f rfl rfl) ?_ | refine as_q rfl rfl (q_pick rfl rfl rfl) ?_
      refine as_q rfl rfl (q_move rfl) ?_
      first | refine as_gskip rfl rfl rfl rfl rfl ?_ | refine as_gskipU rfl rfl rfl rfl ?_ | refine as_gh rfl rfl rfl rfl (h_q rfl (q_loadc (n := 2) (by kernel_rfl) rfl (by first | exact Blk.cells hoB.1 rfl | exact Blk.cells ho1.1 rfl | exact Blk.cells ho2.1 rfl | exact Blk.cells ho3.1 rfl | assumption)) ?_)
      first | refine as_gskip rfl rfl rfl rfl rfl ?_ | refine as_gskipU rfl rfl rfl rfl ?_ | refine as_gh rfl rfl rfl rfl (h_q rfl (q_loadc (n := 2) (by kernel_rfl) rfl (by first | exact Blk.cells hoB.1 rfl | exact Blk.cells ho1.1 rfl | exact Blk.cells ho2.1 rfl | exact Blk.cells ho3.1 rfl | assumption)) ?_)
      first | refine as_gskip rfl rfl rfl rfl rfl ?_ | refine as_gskipU rfl rfl rfl rfl ?_ | refine as_gh rfl rfl rfl rfl (h_q rfl (q_congr (q_eqE (a := hzr) (b := hzr) (e := 2) (by kernel_rfl) (by kernel_rfl) (by kernel_rfl) (by kernel_rfl) (by kernel_rfl) (by kernel_rfl) rfl rfl) (v' := .bool true) (by simp)) ?_)
      first | refine as_q rfl rfl (q_pick_t rfl rfl) ?_ | refine as_q rfl rfl (q_pick_f rfl rfl) ?_ | refine as_q rfl rfl (q_pick rfl rfl rfl) ?_
      refine as_q rfl rfl (q_move rfl) ?_
      first | refine as_gskip rfl rfl rfl rfl rfl ?_ | refine as_gskipU rfl rfl rfl rfl ?_ | refine as_gh rfl rfl rfl rfl (h_q rfl (q_move rfl) ?_)
      first | refine as_gskip rfl rfl rfl rfl rfl ?_ | refine as_gskipU rfl rfl rfl rfl ?_ | refine as_gh rfl rfl rfl rfl (h_q rfl (q_eqT rfl rfl rfl) ?_)
      first | refine as_q rfl rfl (q_pick_t rfl rfl) ?_ | refine as_q rfl rfl (q_pick_f rfl rfl) ?_ | refine as_q rfl rfl (q_pick rfl rfl rfl) ?_
      refine as_q rfl rfl (q_move rfl) ?_
      first | refine as_gskip rfl rfl rfl rfl rfl ?_ | refine as_gskipU rfl rfl rfl rfl ?_ | refine as_gh rfl rfl rfl rfl (h_q rfl (q_move rfl) ?_)
      first | refine as_gskip rfl rfl rfl rfl rfl ?_ | refine as_gskipU rfl rfl rfl rfl ?_ | refine as_gh rfl rfl rfl rfl (h_q rfl (q_neT rfl rfl (by decide)) ?_)
      first | refine as_gskip rfl rfl rfl rfl rfl ?_ | refine as_gskipU rfl rfl rfl rfl ?_ | refine as_gh rfl rfl rfl rfl (h_q rfl (q_move rfl) ?_)
      first | refine as_gskip rfl rfl rfl rfl rfl ?_ | refine as_gskipU rfl rfl rfl rfl ?_ | refine as_gh rfl rfl rfl rfl (h_q rfl (q_loadc (n := 2) (by kernel_rfl) rfl (by first | exact Blk.cells hoB.1 rfl | exact Blk.cells ho1.1 rfl | exact Blk.cells ho2.1 rfl | exact Blk.cells ho3.1 rfl | assumption)) ?_)
      first | refine as_gskip rfl rfl rfl rfl rfl ?_ | refine as_gskipU rfl rfl rfl rfl ?_
      first | refine as_gskip rfl rfl rfl rfl rfl ?_ | refine as_gskipU rfl rfl rfl rfl ?_ | refine as_gh rfl rfl rfl rfl (h_q rfl (q_move rfl) ?_)
      first | refine as_gskip rfl rfl rfl rfl rfl ?_ | refine as_gskipU rfl rfl rfl rfl ?_ | refine as_gh rfl rfl rfl rfl (h_q rfl (q_congr (q_eqL rfl rfl) (v' := .bool true) (by rw [decide_eq_true hxt])) ?_)
      first | refine as_gskip rfl rfl rfl rfl rfl ?_ | refine as_gskipU rfl rfl rfl rfl ?_ | refine as_gh rfl rfl rfl rfl (h_q rfl (q_pick_t rfl rfl) ?_) | refine as_gh rfl rfl rfl rfl (h_q rfl (q_pick_f rfl rfl) ?_) | refine as_gh rfl rfl rfl rfl (h_q rfl (q_pick rfl rfl rfl) ?_)
      first | refine as_q rfl rfl (q_pick_t rfl rfl) ?_ | refine as_q rfl rfl (q_pick_f rfl rfl) ?_ | refine as_q rfl rfl (q_pick rfl rfl rfl) ?_
      refine as_q rfl rfl (q_assign rfl) ?_
      refine as_nil (hK13 _ _ ?_)
      clear hK13 K13
      refine cw_ret ?_
      exact ⟨_, (res_tmp rfl res_nil), rfl, hT⟩

theorem elemTexts_walk1 {w : World} {M : Mem} {e : El} {s : ByteArray} (hs : Sat M w) (hg : Glob M) (he : InR e.1 ∧ InR e.2) :
    Does Tryd.prog 4 #[.agg (elc e).toArray, .string s] w (fun v w' => v = .bool true ∧ Step Nope M w M w') := by
  rw [bytes_of s]
  exact elemTexts_walk hs hg he

end Go.Proofs.YtbfjkclijjhlhaaDoor
