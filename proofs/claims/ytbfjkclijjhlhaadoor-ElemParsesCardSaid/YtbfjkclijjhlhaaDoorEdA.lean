/- Elements: of any three, part 1. -/
import Derived.Test.YtbfjkclijjhlhaaDoorEcA
namespace Go.Proofs.YtbfjkclijjhlhaaDoor
open Go Go.Eng
theorem z_less_is {w : World} {M : Mem} {a b : El} {t : Bool} (hs : Sat M w) (h : ltE a b = t) : Does Tryd.prog 14 #[.agg (elc a).toArray, .agg (elc b).toArray] w (fun v w' => v = .bool t ∧ Step Nope M w M w') := (z_less hs).mono fun _ _ k => ⟨k.1.trans (by rw [h]), k.2⟩
theorem z_cmp_is {w : World} {M : Mem} {a b : El} {k : Int} (hs : Sat M w) (h : cmpE a b = k) : Does Tryd.prog 16 #[.agg (elc a).toArray, .agg (elc b).toArray] w (fun v w' => v = .int .i64 k ∧ Step Nope M w M w') := (srt_compare hs).mono fun _ _ q => ⟨q.1.trans (by rw [h]), q.2⟩
theorem trich (a b : El) : (ltE a b = true ∧ ltE b a = false ∧ a ≠ b ∧ cmpE a b = -1 ∧ cmpE b a = 1) ∨ (ltE a b = false ∧ ltE b a = true ∧ a ≠ b ∧ cmpE a b = 1 ∧ cmpE b a = -1) ∨ (ltE a b = false ∧ ltE b a = false ∧ a = b ∧ cmpE a b = 0 ∧ cmpE b a = 0) := by
  rw [refcmp a b, refcmp b a]
  cases h1 : ltE a b <;> cases h2 : ltE b a
  · exact .inr (.inr ⟨rfl, rfl, ltE_tot h1 h2, rfl, rfl⟩)
  · exact .inr (.inl ⟨rfl, rfl, fun e => (by rw [e] at h1; rw [e, h1] at h2; cases h2), rfl, rfl⟩)
  · exact .inl ⟨rfl, rfl, fun e => (by rw [e] at h1; rw [e, h1] at h2; cases h2), rfl, rfl⟩
  · exact absurd (swoE.trans _ _ _ h1 h2) (by rw [swoE.irrefl a]; simp)

set_option maxHeartbeats 1000000 in
theorem elemTotal_walk {w : World} {M : Mem} {a b c : El} (hs : Sat M w) (hg : Glob M) :
    Does Tryd.prog 5 #[.agg (elc a).toArray, .agg (elc b).toArray, .agg (elc c).toArray] w (fun v w' => v = .bool true ∧ Step Nope M w M w') := by
  have hT := Step.refl Nope hs
  refine fn_enter Tryd.func5 rfl (rs := [.tmp 6]) rfl rfl rfl rfl ?_
  refine cw_rs fun K1 hK1 => ?_
  -- region 0
  have hqa1 := hT.size
  refine as_h rfl (h_boxO hs rfl rfl fun b1 w1 hs1 ho1 e1 => ?_)
  replace hg := hg.mono hs1.le
  replace hT := hT.then hs1
  have hz1 := hs1.size
  have hl1 := ho1.1.lt
  have hqa2 := hT.size
  refine as_h rfl (h_boxO hs1.sat rfl rfl fun b2 w2 hs2 ho2 e2 => ?_)
  replace hg := hg.mono hs2.le
  replace ho1 := ho1.then hs2
  replace hT := hT.then hs2
  have hz2 := hs2.size
  have hl2 := ho2.1.lt
  have hqa3 := hT.size
  refine as_h rfl (h_boxO hs2.sat rfl rfl fun b3 w3 hs3 ho3 e3 => ?_)
  replace hg := hg.mono hs3.le
  replace ho1 := ho1.then hs3
  replace ho2 := ho2.then hs3
  replace hT := hT.then hs3
  have hz3 := hs3.size
  have hl3 := ho3.1.lt
  refine as_q rfl rfl (q_assign rfl) ?_
  refine as_nil (hK1 _ _ ?_)
  clear hK1 K1
  refine cw_rs fun K2 hK2 => ?_
  -- region 1
  refine as_h rfl (h_call (by kernel_rfl) rfl ?_)
  refine (awake01 hs3.sat hg).mono ?_
  rintro _ w4 ⟨rfl, hs4⟩
  replace hg := hg.mono hs4.le
  replace ho1 := ho1.then hs4
  replace ho2 := ho2.then hs4
  replace ho3 := ho3.then hs4
  replace hT := hT.then hs4
  have hz4 := hs4.size
  refine as_q rfl rfl (q_assign rfl) ?_
  refine as_nil (hK2 _ _ ?_)
  clear hK2 K2
  refine cw_seq fun K3 hK3 => ?_
  refine cw_rs fun K4 hK4 => ?_
  -- region 2
  refine as_q rfl rfl (q_move rfl) ?_
  refine as_q rfl rfl (q_not rfl) ?_
  refine as_nil (hK4 _ _ ?_)
  clear hK4 K4
  refine cw_false rfl ?_
  refine cw_skip ?_
  refine hK3 _ _ ?_
  clear hK3 K3
  rcases trich a b with ⟨hab, hba, heq, hc1, hc2⟩ | ⟨hab, hba, heq, hc1, hc2⟩ | ⟨hab, hba, heq, hc1, hc2⟩
  · skip
    refine cw_rs fun K5 hK5 => ?_
    -- region 4
    refine as_q rfl rfl (q_assign rfl) ?_
    refine as_nil (hK5 _ _ ?_)
    clear hK5 K5
    refine cw_seq fun K6 hK6 => ?_
    refine cw_rs fun K7 hK7 => ?_
    -- region 5
    refine as_q rfl rfl (q_loadc (n := 2) (by kernel_rfl) rfl (by first | exact Blk.cells ho1.1 rfl | exact Blk.cells ho2.1 rfl | exact Blk.cells ho3.1 rfl | assumption)) ?_
    refine as_q rfl rfl (q_loadc (n := 2) (by kernel_rfl) rfl (by first | exact Blk.cells ho1.1 rfl | exact Blk.cells ho2.1 rfl | exact Blk.cells ho3.1 rfl | assumption)) ?_
    refine as_h rfl (h_call (by kernel_rfl) rfl ?_)
    refine (z_less_is (a := a) (b := b) hs4.sat hab).mono ?_
    rintro _ w5 ⟨rfl, hs5⟩
    replace hg := hg.mono hs5.le
    replace ho1 := ho1.then hs5
    replace ho2 := ho2.then hs5
    replace ho3 := ho3.then hs5
    replace hT := hT.then hs5
    have hz5 := hs5.size
    refine as_nil (hK7 _ _ ?_)
    clear hK7 K7
    refine cw_true rfl ?_
    refine cw_region fun K8 hK8 => ?_
    -- region 6
    refine as_q rfl rfl (q_move rfl) ?_
    refine as_q rfl rfl (q_addx rfl rfl (by omega) (by omega)) ?_
    refine as_q rfl rfl (q_assign rfl) ?_
    refine as_nil (hK8 _ _ ?_)
    clear hK8 K8
    refine hK6 _ _ ?_
    clear hK6 K6
    refine cw_seq fun K9 hK9 => ?_
    refine cw_rs fun K10 hK10 => ?_
    -- region 7
    refine as_q rfl rfl (q_loadc (n := 2) (by kernel_rfl) rfl (by first | exact Blk.cells ho1.1 rfl | exact Blk.cells ho2.1 rfl | exact Blk.cells ho3.1 rfl | assumption)) ?_
    refine as_q rfl rfl (q_loadc (n := 2) (by kernel_rfl) rfl (by first | exact Blk.cells ho1.1 rfl | exact Blk.cells ho2.1 rfl | exact Blk.cells ho3.1 rfl | assumption)) ?_
    refine as_h rfl (h_call (by kernel_rfl) rfl ?_)
    refine (z_less_is (a := b) (b := a) hs5.sat hba).mono ?_
    rintro _ w6 ⟨rfl, hs6⟩
    replace hg := hg.mono hs6.le
    replace ho1 := ho1.then hs6
    replace ho2 := ho2.then hs6
    replace ho3 := ho3.then hs6
    replace hT := hT.then hs6
    have hz6 := hs6.size
    refine as_nil (hK10 _ _ ?_)
    clear hK10 K10
    refine cw_false rfl ?_
    refine cw_skip ?_
    refine hK9 _ _ ?_
    clear hK9 K9
    refine cw_seq fun K11 hK11 => ?_
    refine cw_rs fun K12 hK12 => ?_
    -- region 9
    refine as_q rfl rfl (q_loadc (n := 2) (by kernel_rfl) rfl (by first | exact Blk.cells ho1.1 rfl | exact Blk.cells ho2.1 rfl | exact Blk.cells ho3.1 rfl | assumption)) ?_
    refine as_q rfl rfl (q_loadc (n := 2) (by kernel_rfl) rfl (by first | exact Blk.cells ho1.1 rfl | exact Blk.cells ho2.1 rfl | exact Blk.cells ho3.1 rfl | assumption)) ?_
    refine as_q rfl rfl (q_congr (q_eqE (a := a) (b := b) (e := 2) (by kernel_rfl) (by kernel_rfl) (by kernel_rfl) (by kernel_rfl) (by kernel_rfl) (by kernel_rfl) rfl rfl) (v' := .bool false) (by rw [decide_eq_false heq])) ?_
    refine as_nil (hK12 _ _ ?_)
    clear hK12 K12
    refine cw_false rfl ?_
    refine cw_skip ?_
    refine hK11 _ _ ?_
    clear hK11 K11
    refine cw_seq fun K13 hK13 => ?_
    refine cw_rd (by kernel_rfl) (by kernel_rfl) (by kernel_rfl) rfl rfl fun K14 hK14 => ?_
    -- region 11
    have hs7 := Step.drew hs6.sat
    have hz7 := hs7.size
    replace hg := hg.mono hs7.le
    replace ho1 := ho1.then hs7
    replace ho2 := ho2.then hs7
    replace ho3 := ho3.then hs7
    replace hT := hT.then hs7
    refine at_q (i := 0) (li := #[true, false, false, false, false, false, false, false, false, false, false, false, false, false, false, false, false, false, false, false, false, false, false, false, false, false, false]) rfl (by kernel_rfl) rfl (fun _ => (q_move rfl)) (by kernel_rfl) ?_
    first | refine at_q (i := 1) (li := #[true, true, false, false, false, false, false, false, false, false, false, false, false, false, false, false, false, false, false, false, false, false, false, false, false, false, false]) rfl (by kernel_rfl) rfl (fun _ => (q_neT rfl rfl (by omega))) (by kernel_rfl) ?_ | refine at_q (i := 1) (li := #[true, true, false, false, false, false, false, false, false, false, false, false, false, false, false, false, false, false, false, false, false, false, false, false, false, false, false]) rfl (by kernel_rfl) rfl (fun _ => (q_neF rfl rfl (by omega))) (by kernel_rfl) ?_ | refine at_q (i := 1) (li := #[true, true, false, false, false, false, false, false, false, false, false, false, false, false, false, false, false, false, false, false, false, false, false, false, false, false, false]) rfl (by kernel_rfl) rfl (fun _ => (q_ne rfl rfl)) (by kernel_rfl) ?_
    refine at_q (i := 2) (li := #[true, true, true, false, false, false, false, false, false, false, false, false, false, false, false, false, false, false, false, false, false, false, false, false, false, false, false]) rfl (by kernel_rfl) rfl (fun _ => (q_move rfl)) (by kernel_rfl) ?_
    first | refine at_gskip (i := 3) (li := #[true, true, true, true, false, false, false, false, false, false, false, false, false, false, false, false, false, false, false, false, false, false, false, false, false, false, false]) rfl (by kernel_rfl) rfl rfl rfl rfl rfl (by kernel_rfl) ?_ | refine at_gskipU (i := 3) (li := #[true, true, true, true, false, false, false, false, false, false, false, false, false, false, false, false, false, false, false, false, false, false, false, false, false, false, false]) rfl (by kernel_rfl) rfl rfl rfl rfl (by kernel_rfl) ?_ | refine at_gq (i := 3) (li := #[true, true, true, true, false, false, false, false, false, false, false, false, false, false, false, false, false, false, false, false, false, false, false, false, false, false, false]) (cellsAre _ _ 2 _) rfl (by kernel_rfl) rfl rfl rfl rfl (fun _ h => q_loadc (n := 2) (by kernel_rfl) rfl h) (by first | exact Blk.cells ho1.1 rfl | exact Blk.cells ho2.1 rfl | exact Blk.cells ho3.1 rfl | assumption) (by kernel_rfl) ?_
    first | refine at_gskip (i := 4) (li := #[true, true, true, true, true, false, false, false, false, false, false, false, false, false, false, false, false, false, false, false, false, false, false, false, false, false, false]) rfl (by kernel_rfl) rfl rfl rfl rfl rfl (by kernel_rfl) ?_ | refine at_gskipU (i := 4) (li := #[true, true, true, true, true, false, false, false, false, false, false, false, false, false, false, false, false, false, false, false, false, false, false, false, false, false, false]) rfl (by kernel_rfl) rfl rfl rfl rfl (by kernel_rfl) ?_ | refine at_gq (i := 4) (li := #[true, true, true, true, true, false, false, false, false, false, false, false, false, false, false, false, false, false, false, false, false, false, false, false, false, false, false]) (cellsAre _ _ 2 _) rfl (by kernel_rfl) rfl rfl rfl rfl (fun _ h => q_loadc (n := 2) (by kernel_rfl) rfl h) (by first | exact Blk.cells ho1.1 rfl | exact Blk.cells ho2.1 rfl | exact Blk.cells ho3.1 rfl | assumption) (by kernel_rfl) ?_
    first | refine at_gskip (i := 6) (li := #[true, true, true, true, true, false, true, false, false, false, false, false, false, false, false, false, false, false, false, false, false, false, false, false, false, false, false]) rfl (by kernel_rfl) rfl rfl rfl rfl rfl (by kernel_rfl) ?_ | refine at_gskipU (i := 6) (li := #[true, true, true, true, true, false, true, false, false, false, false, false, false, false, false, false, false, false, false, false, false, false, false, false, false, false, false]) rfl (by kernel_rfl) rfl rfl rfl rfl (by kernel_rfl) ?_ | refine at_gq (i := 6) (li := #[true, true, true, true, true, false, true, false, false, false, false, false, false, false, false, false, false, false, false, false, false, false, false, false, false, false, false]) (cellsAre _ _ 2 _) rfl (by kernel_rfl) rfl rfl rfl rfl (fun _ h => q_loadc (n := 2) (by kernel_rfl) rfl h) (by first | exact Blk.cells ho1.1 rfl | exact Blk.cells ho2.1 rfl | exact Blk.cells ho3.1 rfl | assumption) (by kernel_rfl) ?_
    first | refine at_gskip (i := 7) (li := #[true, true, true, true, true, false, true, true, false, false, false, false, false, false, false, false, false, false, false, false, false, false, false, false, false, false, false]) rfl (by kernel_rfl) rfl rfl rfl rfl rfl (by kernel_rfl) ?_ | refine at_gskipU (i := 7) (li := #[true, true, true, true, true, false, true, true, false, false, false, false, false, false, false, false, false, false, false, false, false, false, false, false, false, false, false]) rfl (by kernel_rfl) rfl rfl rfl rfl (by kernel_rfl) ?_ | refine at_gq (i := 7) (li := #[true, true, true, true, true, false, true, true, false, false, false, false, false, false, false, false, false, false, false, false, false, false, false, false, false, false, false]) (cellsAre _ _ 2 _) rfl (by kernel_rfl) rfl rfl rfl rfl (fun _ h => q_loadc (n := 2) (by kernel_rfl) rfl h) (by first | exact Blk.cells ho1.1 rfl | exact Blk.cells ho2.1 rfl | exact Blk.cells ho3.1 rfl | assumption) (by kernel_rfl) ?_
    refine at_gh (i := 5) (li := #[true, true, true, true, true, true, true, true, false, false, false, false, false, false, false, false, false, false, false, false, false, false, false, false, false, false, false]) rfl (by kernel_rfl) rfl rfl rfl rfl rfl (by kernel_rfl) (h_call (by kernel_rfl) rfl ?_)
    refine (z_cmp_is (a := a) (b := b) hs7.sat hc1).mono ?_
    rintro _ w8 ⟨rfl, hs8⟩
    replace hg := hg.mono hs8.le
    replace ho1 := ho1.then hs8
    replace ho2 := ho2.then hs8
    replace ho3 := ho3.then hs8
    replace hT := hT.then hs8
    have hz8 := hs8.size
    refine ⟨(by repeat' first | exact trivial | exact Blk.cell ho1.1 rfl | exact Blk.cells ho1.1 rfl | exact Blk.cell ho2.1 rfl | exact Blk.cells ho2.1 rfl | exact Blk.cell ho3.1 rfl | exact Blk.cells ho3.1 rfl | assumption | refine all_keep ?_ | refine And.intro ?_ ?_), ?_⟩
    refine at_gh (i := 8) (li := #[true, true, true, true, true, true, true, true, true, false, false, false, false, false, false, false, false, false, false, false, false, false, false, false, false, false, false]) rfl (by kernel_rfl) rfl rfl rfl rfl rfl (by kernel_rfl) (h_call (by kernel_rfl) rfl ?_)
    refine (z_cmp_is (a := b) (b := a) hs8.sat hc2).mono ?_
    rintro _ w9 ⟨rfl, hs9⟩
    replace hg := hg.mono hs9.le
    replace ho1 := ho1.then hs9
    replace ho2 := ho2.then hs9
    replace ho3 := ho3.then hs9
    replace hT := hT.then hs9
    have hz9 := hs9.size
    refine ⟨(by repeat' first | exact trivial | exact Blk.cell ho1.1 rfl | exact Blk.cells ho1.1 rfl | exact Blk.cell ho2.1 rfl | exact Blk.cells ho2.1 rfl | exact Blk.cell ho3.1 rfl | exact Blk.cells ho3.1 rfl | assumption | refine all_keep ?_ | refine And.intro ?_ ?_), ?_⟩
    first | refine at_gskip (i := 9) (li := #[true, true, true, true, true, true, true, true, true, true, false, false, false, false, false, false, false, false, false, false, false, false, false, false, false, false, false]) rfl (by kernel_rfl) rfl rfl rfl rfl rfl (by kernel_rfl) ?_ | refine at_gskipU (i := 9) (li := #[true, true, true, true, true, true, true, true, true, true, false, false, false, false, false, false, false, false, false, false, false, false, false, false, false, false, false]) rfl (by kernel_rfl) rfl rfl rfl rfl (by kernel_rfl) ?_ | refine at_gp (i := 9) (li := #[true, true, true, true, true, true, true, true, true, true, false, false, false, false, false, false, false, false, false, false, false, false, false, false, false, false, false]) rfl (by kernel_rfl) rfl rfl rfl rfl (fun _ => (q_congr (q_neg rfl) (v' := .int .i64 (-1)) rfl)) (by kernel_rfl) ?_
    first | refine at_gskip (i := 10) (li := #[true, true, true, true, true, true, true, true, true, true, true, false, false, false, false, false, false, false, false, false, false, false, false, false, false, false, false]) rfl (by kernel_rfl) rfl rfl rfl rfl rfl (by kernel_rfl) ?_ | refine at_gskipU (i := 10) (li := #[true, true, true, true, true, true, true, true, true, true, true, false, false, false, false, false, false, false, false, false, false, false, false, false, false, false, false]) rfl (by kernel_rfl) rfl rfl rfl rfl (by kernel_rfl) ?_ | refine at_gp (i := 10) (li := #[true, true, true, true, true, true, true, true, true, true, true, false, false, false, false, false, false, false, false, false, false, false, false, false, false, false, false]) rfl (by kernel_rfl) rfl rfl rfl rfl (fun _ => (q_neT rfl rfl (by omega))) (by kernel_rfl) ?_ | refine at_gp (i := 10) (li := #[true, true, true, true, true, true, true, true, true, true, true, false, false, false, false, false, false, false, false, false, false, false, false, false, false, false, false]) rfl (by kernel_rfl) rfl rfl rfl rfl (fun _ => (q_neF rfl rfl (by omega))) (by kernel_rfl) ?_ | refine at_gp (i := 10) (li := #[true, true, true, true, true, true, true, true, true, true, true, false, false, false, false, false, false, false, false, false, false, false, false, false, false, false, false]) rfl (by kernel_rfl) rfl rfl rfl rfl (fun _ => (q_ne rfl rfl)) (by kernel_rfl) ?_
    first | refine at_q (i := 11) (li := #[true, true, true, true, true, true, true, true, true, true, true, true, false, false, false, false, false, false, false, false, false, false, false, false, false, false, false]) rfl (by kernel_rfl) rfl (fun _ => (q_pick_t rfl rfl)) (by kernel_rfl) ?_ | refine at_q (i := 11) (li := #[true, true, true, true, true, true, true, true, true, true, true, true, false, false, false, false, false, false, false, false, false, false, false, false, false, false, false]) rfl (by kernel_rfl) rfl (fun _ => (q_pick_f rfl rfl)) (by kernel_rfl) ?_ | refine at_q (i := 11) (li := #[true, true, true, true, true, true, true, true, true, true, true, true, false, false, false, false, false, false, false, false, false, false, false, false, false, false, false]) rfl (by kernel_rfl) rfl (fun _ => (q_pick rfl rfl rfl)) (by kernel_rfl) ?_
    refine at_q (i := 12) (li := #[true, true, true, true, true, true, true, true, true, true, true, true, true, false, false, false, false, false, false, false, false, false, false, false, false, false, false]) rfl (by kernel_rfl) rfl (fun _ => (q_move rfl)) (by kernel_rfl) ?_
    first | refine at_gskip (i := 13) (li := #[true, true, true, true, true, true, true, true, true, true, true, true, true, true, false, false, false, false, false, false, false, false, false, false, false, false, false]) rfl (by kernel_rfl) rfl rfl rfl rfl rfl (by kernel_rfl) ?_ | refine at_gskipU (i := 13) (li := #[true, true, true, true, true, true, true, true, true, true, true, true, true, true, false, false, false, false, false, false, false, false, false, false, false, false, false]) rfl (by kernel_rfl) rfl rfl rfl rfl (by kernel_rfl) ?_ | refine at_gq (i := 13) (li := #[true, true, true, true, true, true, true, true, true, true, true, true, true, true, false, false, false, false, false, false, false, false, false, false, false, false, false]) (cellsAre _ _ 2 _) rfl (by kernel_rfl) rfl rfl rfl rfl (fun _ h => q_loadc (n := 2) (by kernel_rfl) rfl h) (by first | exact Blk.cells ho1.1 rfl | exact Blk.cells ho2.1 rfl | exact Blk.cells ho3.1 rfl | assumption) (by kernel_rfl) ?_
    first | refine at_gskip (i := 14) (li := #[true, true, true, true, true, true, true, true, true, true, true, true, true, true, true, false, false, false, false, false, false, false, false, false, false, false, false]) rfl (by kernel_rfl) rfl rfl rfl rfl rfl (by kernel_rfl) ?_ | refine at_gskipU (i := 14) (li := #[true, true, true, true, true, true, true, true, true, true, true, true, true, true, true, false, false, false, false, false, false, false, false, false, false, false, false]) rfl (by kernel_rfl) rfl rfl rfl rfl (by kernel_rfl) ?_ | refine at_gq (i := 14) (li := #[true, true, true, true, true, true, true, true, true, true, true, true, true, true, true, false, false, false, false, false, false, false, false, false, false, false, false]) (cellsAre _ _ 2 _) rfl (by kernel_rfl) rfl rfl rfl rfl (fun _ h => q_loadc (n := 2) (by kernel_rfl) rfl h) (by first | exact Blk.cells ho1.1 rfl | exact Blk.cells ho2.1 rfl | exact Blk.cells ho3.1 rfl | assumption) (by kernel_rfl) ?_
    refine at_gh (i := 15) (li := #[true, true, true, true, true, true, true, true, true, true, true, true, true, true, true, true, false, false, false, false, false, false, false, false, false, false, false]) rfl (by kernel_rfl) rfl rfl rfl rfl rfl (by kernel_rfl) (h_call (by kernel_rfl) rfl ?_)
    refine (z_less_is (a := a) (b := a) hs9.sat (swoE.irrefl a)).mono ?_
    rintro _ w10 ⟨rfl, hs10⟩
    replace hg := hg.mono hs10.le
    replace ho1 := ho1.then hs10
    replace ho2 := ho2.then hs10
    replace ho3 := ho3.then hs10
    replace hT := hT.then hs10
    have hz10 := hs10.size
    refine ⟨(by repeat' first | exact trivial | exact Blk.cell ho1.1 rfl | exact Blk.cells ho1.1 rfl | exact Blk.cell ho2.1 rfl | exact Blk.cells ho2.1 rfl | exact Blk.cell ho3.1 rfl | exact Blk.cells ho3.1 rfl | assumption | refine all_keep ?_ | refine And.intro ?_ ?_), ?_⟩
    first | refine at_q (i := 16) (li := #[true, true, true, true, true, true, true, true, true, true, true, true, true, true, true, true, true, false, false, false, false, false, false, false, false, false, false]) rfl (by kernel_rfl) rfl (fun _ => (q_pick_t rfl rfl)) (by kernel_rfl) ?_ | refine at_q (i := 16) (li := #[true, true, true, true, true, true, true, true, true, true, true, true, true, true, true, true, true, false, false, false, false, false, false, false, false, false, false]) rfl (by kernel_rfl) rfl (fun _ => (q_pick_f rfl rfl)) (by kernel_rfl) ?_ | refine at_q (i := 16) (li := #[true, true, true, true, true, true, true, true, true, true, true, true, true, true, true, true, true, false, false, false, false, false, false, false, false, false, false]) rfl (by kernel_rfl) rfl (fun _ => (q_pick rfl rfl rfl)) (by kernel_rfl) ?_
    refine at_q (i := 17) (li := #[true, true, true, true, true, true, true, true, true, true, true, true, true, true, true, true, true, true, false, false, false, false, false, false, false, false, false]) rfl (by kernel_rfl) rfl (fun _ => (q_move rfl)) (by kernel_rfl) ?_
    first | refine at_gskip (i := 18) (li := #[true, true, true, true, true, true, true, true, true, true, true, true, true, true, true, true, true, true, true, false, false, false, false, false, false, false, false]) rfl (by kernel_rfl) rfl rfl rfl rfl rfl (by kernel_rfl) ?_ | refine at_gskipU (i := 18) (li := #[true, true, true, true, true, true, true, true, true, true, true, true, true, true, true, true, true, true, true, false, false, false, false, false, false, false, false]) rfl (by kernel_rfl) rfl rfl rfl rfl (by kernel_rfl) ?_ | refine at_gq (i := 18) (li := #[true, true, true, true, true, true, true, true, true, true, true, true, true, true, true, true, true, true, true, false, false, false, false, false, false, false, false]) (cellsAre _ _ 2 _) rfl (by kernel_rfl) rfl rfl rfl rfl (fun _ h => q_loadc (n := 2) (by kernel_rfl) rfl h) (by first | exact Blk.cells ho1.1 rfl | exact Blk.cells ho2.1 rfl | exact Blk.cells ho3.1 rfl | assumption) (by kernel_rfl) ?_
    first | refine at_gskip (i := 19) (li := #[true, true, true, true, true, true, true, true, true, true, true, true, true, true, true, true, true, true, true, true, false, false, false, false, false, false, false]) rfl (by kernel_rfl) rfl rfl rfl rfl rfl (by kernel_rfl) ?_ | refine at_gskipU (i := 19) (li := #[true, true, true, true, true, true, true, true, true, true, true, true, true, true, true, true, true, true, true, true, false, false, false, false, false, false, false]) rfl (by kernel_rfl) rfl rfl rfl rfl (by kernel_rfl) ?_ | refine at_gq (i := 19) (li := #[true, true, true, true, true, true, true, true, true, true, true, true, true, true, true, true, true, true, true, true, false, false, false, false, false, false, false]) (cellsAre _ _ 2 _) rfl (by kernel_rfl) rfl rfl rfl rfl (fun _ h => q_loadc (n := 2) (by kernel_rfl) rfl h) (by first | exact Blk.cells ho1.1 rfl | exact Blk.cells ho2.1 rfl | exact Blk.cells ho3.1 rfl | assumption) (by kernel_rfl) ?_
    first | refine at_gskip (i := 21) (li := #[true, true, true, true, true, true, true, true, true, true, true, true, true, true, true, true, true, true, true, true, false, true, false, false, false, false, false]) rfl (by kernel_rfl) rfl rfl rfl rfl rfl (by kernel_rfl) ?_ | refine at_gskipU (i := 21) (li := #[true, true, true, true, true, true, true, true, true, true, true, true, true, true, true, true, true, true, true, true, false, true, false, false, false, false, false]) rfl (by kernel_rfl) rfl rfl rfl rfl (by kernel_rfl) ?_ | refine at_gq (i := 21) (li := #[true, true, true, true, true, true, true, true, true, true, true, true, true, true, true, true, true, true, true, true, false, true, false, false, false, false, false]) (cellsAre _ _ 2 _) rfl (by kernel_rfl) rfl rfl rfl rfl (fun _ h => q_loadc (n := 2) (by kernel_rfl) rfl h) (by first | exact Blk.cells ho1.1 rfl | exact Blk.cells ho2.1 rfl | exact Blk.cells ho3.1 rfl | assumption) (by kernel_rfl) ?_
    first | refine at_gskip (i := 22) (li := #[true, true, true, true, true, true, true, true, true, true, true, true, true, true, true, true, true, true, true, true, false, true, true, false, false, false, false]) rfl (by kernel_rfl) rfl rfl rfl rfl rfl (by kernel_rfl) ?_ | refine at_gskipU (i := 22) (li := #[true, true, true, true, true, true, true, true, true, true, true, true, true, true, true, true, true, true, true, true, false, true, true, false, false, false, false]) rfl (by kernel_rfl) rfl rfl rfl rfl (by kernel_rfl) ?_ | refine at_gq (i := 22) (li := #[true, true, true, true, true, true, true, true, true, true, true, true, true, true, true, true, true, true, true, true, false, true, true, false, false, false, false]) (cellsAre _ _ 2 _) rfl (by kernel_rfl) rfl rfl rfl rfl (fun _ h => q_loadc (n := 2) (by kernel_rfl) rfl h) (by first | exact Blk.cells ho1.1 rfl | exact Blk.cells ho2.1 rfl | exact Blk.cells ho3.1 rfl | assumption) (by kernel_rfl) ?_
    refine at_gh (i := 20) (li := #[true, true, true, true, true, true, true, true, true, true, true, true, true, true, true, true, true, true, true, true, true, true, true, false, false, false, false]) rfl (by kernel_rfl) rfl rfl rfl rfl rfl (by kernel_rfl) (h_call (by kernel_rfl) rfl ?_)
    refine (z_less_is (a := a) (b := b) hs10.sat hab).mono ?_
    rintro _ w11 ⟨rfl, hs11⟩
    replace hg := hg.mono hs11.le
    replace ho1 := ho1.then hs11
    replace ho2 := ho2.then hs11
    replace ho3 := ho3.then hs11
    replace hT := hT.then hs11
    have hz11 := hs11.size
    refine ⟨(by repeat' first | exact trivial | exact Blk.cell ho1.1 rfl | exact Blk.cells ho1.1 rfl | exact Blk.cell ho2.1 rfl | exact Blk.cells ho2.1 rfl | exact Blk.cell ho3.1 rfl | exact Blk.cells ho3.1 rfl | assumption | refine all_keep ?_ | refine And.intro ?_ ?_), ?_⟩
    refine at_gh (i := 23) (li := #[true, true, true, true, true, true, true, true, true, true, true, true, true, true, true, true, true, true, true, true, true, true, true, true, false, false, false]) rfl (by kernel_rfl) rfl rfl rfl rfl rfl (by kernel_rfl) (h_call (by kernel_rfl) rfl ?_)
    refine (z_cmp_is (a := a) (b := b) hs11.sat hc1).mono ?_
    rintro _ w12 ⟨rfl, hs12⟩
    replace hg := hg.mono hs12.le
    replace ho1 := ho1.then hs12
    replace ho2 := ho2.then hs12
    replace ho3 := ho3.then hs12
    replace hT := hT.then hs12
    have hz12 := hs12.size
    refine ⟨(by repeat' first | exact trivial | exact Blk.cell ho1.1 rfl | exact Blk.cells ho1.1 rfl | exact Blk.cell ho2.1 rfl | exact Blk.cells ho2.1 rfl | exact Blk.cell ho3.1 rfl | exact Blk.cells ho3.1 rfl | assumption | refine all_keep ?_ | refine And.intro ?_ ?_), ?_⟩
    first | refine at_gskip (i := 24) (li := #[true, true, true, true, true, true, true, true, true, true, true, true, true, true, true, true, true, true, true, true, true, true, true, true, true, false, false]) rfl (by kernel_rfl) rfl rfl rfl rfl rfl (by kernel_rfl) ?_ | refine at_gskipU (i := 24) (li := #[true, true, true, true, true, true, true, true, true, true, true, true, true, true, true, true, true, true, true, true, true, true, true, true, true, false, false]) rfl (by kernel_rfl) rfl rfl rfl rfl (by kernel_rfl) ?_ | refine at_gp (i := 24) (li := #[true, true, true, true, true, true, true, true, true, true, true, true, true, true, true, true, true, true, true, true, true, true, true, true, true, false, false]) rfl (by kernel_rfl) rfl rfl rfl rfl (fun _ => (q_eqT rfl rfl (by omega))) (by kernel_rfl) ?_ | refine at_gp (i := 24) (li := #[true, true, true, true, true, true, true, true, true, true, true, true, true, true, true, true, true, true, true, true, true, true, true, true, true, false, false]) rfl (by kernel_rfl) rfl rfl rfl rfl (fun _ => (q_eqF rfl rfl (by omega))) (by kernel_rfl) ?_ | refine at_gp (i := 24) (li := #[true, true, true, true, true, true, true, true, true, true, true, true, true, true, true, true, true, true, true, true, true, true, true, true, true, false, false]) rfl (by kernel_rfl) rfl rfl rfl rfl (fun _ => (q_eq rfl rfl)) (by kernel_rfl) ?_
    first | refine at_gskip (i := 25) (li := #[true, true, true, true, true, true, true, true, true, true, true, true, true, true, true, true, true, true, true, true, true, true, true, true, true, true, false]) rfl (by kernel_rfl) rfl rfl rfl rfl rfl (by kernel_rfl) ?_ | refine at_gskipU (i := 25) (li := #[true, true, true, true, true, true, true, true, true, true, true, true, true, true, true, true, true, true, true, true, true, true, true, true, true, true, false]) rfl (by kernel_rfl) rfl rfl rfl rfl (by kernel_rfl) ?_ | refine at_gp (i := 25) (li := #[true, true, true, true, true, true, true, true, true, true, true, true, true, true, true, true, true, true, true, true, true, true, true, true, true, true, false]) rfl (by kernel_rfl) rfl rfl rfl rfl (fun _ => (q_congr (q_neb (by kernel_rfl) rfl rfl) (v' := .bool false) rfl)) (by kernel_rfl) ?_
    first | refine at_q (i := 26) (li := #[true, true, true, true, true, true, true, true, true, true, true, true, true, true, true, true, true, true, true, true, true, true, true, true, true, true, true]) rfl (by kernel_rfl) rfl (fun _ => (q_pick_t rfl rfl)) (by kernel_rfl) ?_ | refine at_q (i := 26) (li := #[true, true, true, true, true, true, true, true, true, true, true, true, true, true, true, true, true, true, true, true, true, true, true, true, true, true, true]) rfl (by kernel_rfl) rfl (fun _ => (q_pick_f rfl rfl)) (by kernel_rfl) ?_ | refine at_q (i := 26) (li := #[true, true, true, true, true, true, true, true, true, true, true, true, true, true, true, true, true, true, true, true, true, true, true, true, true, true, true]) rfl (by kernel_rfl) rfl (fun _ => (q_pick rfl rfl rfl)) (by kernel_rfl) ?_
    refine at_done (by kernel_rfl) (hK14 _ _ ?_)
    clear hK14 K14
    refine cw_false rfl ?_
    refine cw_skip ?_
    refine hK13 _ _ ?_
    clear hK13 K13
    cases hbc : ltE b c
    · skip
      refine cw_rs fun K15 hK15 => ?_
      -- region 13
      refine as_q rfl rfl (q_loadc (n := 2) (by kernel_rfl) rfl (by first | exact Blk.cells ho1.1 rfl | exact Blk.cells ho2.1 rfl | exact Blk.cells ho3.1 rfl | assumption)) ?_
      refine as_q rfl rfl (q_loadc (n := 2) (by kernel_rfl) rfl (by first | exact Blk.cells ho1.1 rfl | exact Blk.cells ho2.1 rfl | exact Blk.cells ho3.1 rfl | assumption)) ?_
      refine as_h rfl (h_call (by kernel_rfl) rfl ?_)
      refine (z_less_is (a := a) (b := b) hs12.sat hab).mono ?_
      rintro _ w13 ⟨rfl, hs13⟩
      replace hg := hg.mono hs13.le
      replace ho1 := ho1.then hs13
      replace ho2 := ho2.then hs13
      replace ho3 := ho3.then hs13
      replace hT := hT.then hs13
      have hz13 := hs13.size
      refine as_q rfl rfl (q_not rfl) ?_
      refine as_q rfl rfl (q_move rfl) ?_
      first | refine as_gskip rfl rfl rfl rfl rfl ?_ | refine as_gskipU rfl rfl rfl rfl ?_ | refine as_gh rfl rfl rfl rfl (h_q rfl (q_loadc (n := 2) (by kernel_rfl) rfl (by first | exact Blk.cells ho1.1 rfl | exact Blk.cells ho2.1 rfl | exact Blk.cells ho3.1 rfl | assumption)) ?_)
      first | refine as_gskip rfl rfl rfl rfl rfl ?_ | refine as_gskipU rfl rfl rfl rfl ?_ | refine as_gh rfl rfl rfl rfl (h_q rfl (q_loadc (n := 2) (by kernel_rfl) rfl (by first | exact Blk.cells ho1.1 rfl | exact Blk.cells ho2.1 rfl | exact Blk.cells ho3.1 rfl | assumption)) ?_)
      refine as_gh rfl rfl rfl rfl (h_call (by kernel_rfl) rfl ?_)
      refine (z_less_is (a := b) (b := c) hs13.sat hbc).mono ?_
      rintro _ w14 ⟨rfl, hs14⟩
      replace hg := hg.mono hs14.le
      replace ho1 := ho1.then hs14
      replace ho2 := ho2.then hs14
      replace ho3 := ho3.then hs14
      replace hT := hT.then hs14
      have hz14 := hs14.size
      first | refine as_gskip rfl rfl rfl rfl rfl ?_ | refine as_gskipU rfl rfl rfl rfl ?_ | refine as_gh rfl rfl rfl rfl (h_q rfl (q_not rfl) ?_)
      first | refine as_q rfl rfl (q_pick_t rfl rfl) ?_ | refine as_q rfl rfl (q_pick_f rfl rfl) ?_ | refine as_q rfl rfl (q_pick rfl rfl rfl) ?_
      refine as_q rfl rfl (q_move rfl) ?_
      first | refine as_gskip rfl rfl rfl rfl rfl ?_ | refine as_gskipU rfl rfl rfl rfl ?_ | refine as_gh rfl rfl rfl rfl (h_q rfl (q_loadc (n := 2) (by kernel_rfl) rfl (by first | exact Blk.cells ho1.1 rfl | exact Blk.cells ho2.1 rfl | exact Blk.cells ho3.1 rfl | assumption)) ?_)
      first | refine as_gskip rfl rfl rfl rfl rfl ?_ | refine as_gskipU rfl rfl rfl rfl ?_ | refine as_gh rfl rfl rfl rfl (h_q rfl (q_loadc (n := 2) (by kernel_rfl) rfl (by first | exact Blk.cells ho1.1 rfl | exact Blk.cells ho2.1 rfl | exact Blk.cells ho3.1 rfl | assumption)) ?_)
      first | refine as_gskip rfl rfl rfl rfl rfl ?_ | refine as_gskipU rfl rfl rfl rfl ?_
      first | refine as_q rfl rfl (q_pick_t rfl rfl) ?_ | refine as_q rfl rfl (q_pick_f rfl rfl) ?_ | refine as_q rfl rfl (q_pick rfl rfl rfl) ?_
      refine as_q rfl rfl (q_assign rfl) ?_
      refine as_nil (hK15 _ _ ?_)
      clear hK15 K15
      refine cw_ret ?_
      exact ⟨_, (res_tmp rfl res_nil), rfl, hT⟩
    · skip
      refine cw_rs fun K16 hK16 => ?_
      -- region 13
      refine as_q rfl rfl (q_loadc (n := 2) (by kernel_rfl) rfl (by first | exact Blk.cells ho1.1 rfl | exact Blk.cells ho2.1 rfl | exact Blk.cells ho3.1 rfl | assumption)) ?_
      refine as_q rfl rfl (q_loadc (n := 2) (by kernel_rfl) rfl (by first | exact Blk.cells ho1.1 rfl | exact Blk.cells ho2.1 rfl | exact Blk.cells ho3.1 rfl | assumption)) ?_
      refine as_h rfl (h_call (by kernel_rfl) rfl ?_)
      refine (z_less_is (a := a) (b := b) hs12.sat hab).mono ?_
      rintro _ w15 ⟨rfl, hs15⟩
      replace hg := hg.mono hs15.le
      replace ho1 := ho1.then hs15
      replace ho2 := ho2.then hs15
      replace ho3 := ho3.then hs15
      replace hT := hT.then hs15
      have hz15 := hs15.size
      refine as_q rfl rfl (q_not rfl) ?_
      refine as_q rfl rfl (q_move rfl) ?_
      first | refine as_gskip rfl rfl rfl rfl rfl ?_ | refine as_gskipU rfl rfl rfl rfl ?_ | refine as_gh rfl rfl rfl rfl (h_q rfl (q_loadc (n := 2) (by kernel_rfl) rfl (by first | exact Blk.cells ho1.1 rfl | exact Blk.cells ho2.1 rfl | exact Blk.cells ho3.1 rfl | assumption)) ?_)
      first | refine as_gskip rfl rfl rfl rfl rfl ?_ | refine as_gskipU rfl rfl rfl rfl ?_ | refine as_gh rfl rfl rfl rfl (h_q rfl (q_loadc (n := 2) (by kernel_rfl) rfl (by first | exact Blk.cells ho1.1 rfl | exact Blk.cells ho2.1 rfl | exact Blk.cells ho3.1 rfl | assumption)) ?_)
      refine as_gh rfl rfl rfl rfl (h_call (by kernel_rfl) rfl ?_)
      refine (z_less_is (a := b) (b := c) hs15.sat hbc).mono ?_
      rintro _ w16 ⟨rfl, hs16⟩
      replace hg := hg.mono hs16.le
      replace ho1 := ho1.then hs16
      replace ho2 := ho2.then hs16
      replace ho3 := ho3.then hs16
      replace hT := hT.then hs16
      have hz16 := hs16.size
      first | refine as_gskip rfl rfl rfl rfl rfl ?_ | refine as_gskipU rfl rfl rfl rfl ?_ | refine as_gh rfl rfl rfl rfl (h_q rfl (q_not rfl) ?_)
      first | refine as_q rfl rfl (q_pick_t rfl rfl) ?_ | refine as_q rfl rfl (q_pick_f rfl rfl) ?_ | refine as_q rfl rfl (q_pick rfl rfl rfl) ?_
      refine as_q rfl rfl (q_move rfl) ?_
      first | refine as_gskip rfl rfl rfl rfl rfl ?_ | refine as_gskipU rfl rfl rfl rfl ?_ | refine as_gh rfl rfl rfl rfl (h_q rfl (q_loadc (n := 2) (by kernel_rfl) rfl (by first | exact Blk.cells ho1.1 rfl | exact Blk.cells ho2.1 rfl | exact Blk.cells ho3.1 rfl | assumption)) ?_)
      first | refine as_gskip rfl rfl rfl rfl rfl ?_ | refine as_gskipU rfl rfl rfl rfl ?_ | refine as_gh rfl rfl rfl rfl (h_q rfl (q_loadc (n := 2) (by kernel_rfl) rfl (by first | exact Blk.cells ho1.1 rfl | exact Blk.cells ho2.1 rfl | exact Blk.cells ho3.1 rfl | assumption)) ?_)
      refine as_gh rfl rfl rfl rfl (h_call (by kernel_rfl) rfl ?_)
      refine (z_less_is (a := a) (b := c) hs16.sat (swoE.trans _ _ _ hab hbc)).mono ?_
      rintro _ w17 ⟨rfl, hs17⟩
      replace hg := hg.mono hs17.le
      replace ho1 := ho1.then hs17
      replace ho2 := ho2.then hs17
      replace ho3 := ho3.then hs17
      replace hT := hT.then hs17
      have hz17 := hs17.size
      first | refine as_q rfl rfl (q_pick_t rfl rfl) ?_ | refine as_q rfl rfl (q_pick_f rfl rfl) ?_ | refine as_q rfl rfl (q_pick rfl rfl rfl) ?_
      refine as_q rfl rfl (q_assign rfl) ?_
      refine as_nil (hK16 _ _ ?_)
      clear hK16 K16
      refine cw_ret ?_
      exact ⟨_, (res_tmp rfl res_nil), rfl, hT⟩
  · skip
    refine cw_rs fun K17 hK17 => ?_
    -- region 4
    refine as_q rfl rfl (q_assign rfl) ?_
    refine as_nil (hK17 _ _ ?_)
    clear hK17 K17
    refine cw_seq fun K18 hK18 => ?_
    refine cw_rs fun K19 hK19 => ?_
    -- region 5
    refine as_q rfl rfl (q_loadc (n := 2) (by kernel_rfl) rfl (by first | exact Blk.cells ho1.1 rfl | exact Blk.cells ho2.1 rfl | exact Blk.cells ho3.1 rfl | assumption)) ?_
    refine as_q rfl rfl (q_loadc (n := 2) (by kernel_rfl) rfl (by first | exact Blk.cells ho1.1 rfl | exact Blk.cells ho2.1 rfl | exact Blk.cells ho3.1 rfl | assumption)) ?_
    refine as_h rfl (h_call (by kernel_rfl) rfl ?_)
    refine (z_less_is (a := a) (b := b) hs4.sat hab).mono ?_
    rintro _ w18 ⟨rfl, hs18⟩
    replace hg := hg.mono hs18.le
    replace ho1 := ho1.then hs18
    replace ho2 := ho2.then hs18
    replace ho3 := ho3.then hs18
    replace hT := hT.then hs18
    have hz18 := hs18.size
    refine as_nil (hK19 _ _ ?_)
    clear hK19 K19
    refine cw_false rfl ?_
    refine cw_skip ?_
    refine hK18 _ _ ?_
    clear hK18 K18
    refine cw_seq fun K20 hK20 => ?_
    refine cw_rs fun K21 hK21 => ?_
    -- region 7
    refine as_q rfl rfl (q_loadc (n := 2) (by kernel_rfl) rfl (by first | exact Blk.cells ho1.1 rfl | exact Blk.cells ho2.1 rfl | exact Blk.cells ho3.1 rfl | assumption)) ?_
    refine as_q rfl rfl (q_loadc (n := 2) (by kernel_rfl) rfl (by first | exact Blk.cells ho1.1 rfl | exact Blk.cells ho2.1 rfl | exact Blk.cells ho3.1 rfl | assumption)) ?_
    refine as_h rfl (h_call (by kernel_rfl) rfl ?_)
    refine (z_less_is (a := b) (b := a) hs18.sat hba).mono ?_
    rintro _ w19 ⟨rfl, hs19⟩
    replace hg := hg.mono hs19.le
    replace ho1 := ho1.then hs19
    replace ho2 := ho2.then hs19
    replace ho3 := ho3.then hs19
    replace hT := hT.then hs19
    have hz19 := hs19.size
    refine as_nil (hK21 _ _ ?_)
    clear hK21 K21
    refine cw_true rfl ?_
    refine cw_region fun K22 hK22 => ?_
    -- region 8
    refine as_q rfl rfl (q_move rfl) ?_
    refine as_q rfl rfl (q_addx rfl rfl (by omega) (by omega)) ?_
    refine as_q rfl rfl (q_assign rfl) ?_
    refine as_nil (hK22 _ _ ?_)
    clear hK22 K22
    refine hK20 _ _ ?_
    clear hK20 K20
    refine cw_seq fun K23 hK23 => ?_
    refine cw_rs fun K24 hK24 => ?_
    -- region 9
    refine as_q rfl rfl (q_loadc (n := 2) (by kernel_rfl) rfl (by first | exact Blk.cells ho1.1 rfl | exact Blk.cells ho2.1 rfl | exact Blk.cells ho3.1 rfl | assumption)) ?_
    refine as_q rfl rfl (q_loadc (n := 2) (by kernel_rfl) rfl (by first | exact Blk.cells ho1.1 rfl | exact Blk.cells ho2.1 rfl | exact Blk.cells ho3.1 rfl | assumption)) ?_
    refine as_q rfl rfl (q_congr (q_eqE (a := a) (b := b) (e := 2) (by kernel_rfl) (by kernel_rfl) (by kernel_rfl) (by kernel_rfl) (by kernel_rfl) (by kernel_rfl) rfl rfl) (v' := .bool false) (by rw [decide_eq_false heq])) ?_
    refine as_nil (hK24 _ _ ?_)
    clear hK24 K24
    refine cw_false rfl ?_
    refine cw_skip ?_
    refine hK23 _ _ ?_
    clear hK23 K23
    refine cw_seq fun K25 hK25 => ?_
    refine cw_rd (by kernel_rfl) (by kernel_rfl) (by kernel_rfl) rfl rfl fun K26 hK26 => ?_
    -- region 11
    have hs20 := Step.drew hs19.sat
    have hz20 := hs20.size
    replace hg := hg.mono hs20.le
    replace ho1 := ho1.then hs20
    replace ho2 := ho2.then hs20
    replace ho3 := ho3.then hs20
    replace hT := hT.then hs20
    refine at_q (i := 0) (li := #[true, false, false, false, false, false, false, false, false, false, false, false, false, false, false, false, false, false, false, false, false, false, false, false, false, false, false]) rfl (by kernel_rfl) rfl (fun _ => (q_move rfl)) (by kernel_rfl) ?_
    first | refine at_q (i := 1) (li := #[true, true, false, false, false, false, false, false, false, false, false, false, false, false, false, false, false, false, false, false, false, false, false, false, false, false, false]) rfl (by kernel_rfl) rfl (fun _ => (q_neT rfl rfl (by omega))) (by kernel_rfl) ?_ | refine at_q (i := 1) (li := #[true, true, false, false, false, false, false, false, false, false, false, false, false, false, false, false, false, false, false, false, false, false, false, false, false, false, false]) rfl (by kernel_rfl) rfl (fun _ => (q_neF rfl rfl (by omega))) (by kernel_rfl) ?_ | refine at_q (i := 1) (li := #[true, true, false, false, false, false, false, false, false, false, false, false, false, false, false, false, false, false, false, false, false, false, false, false, false, false, false]) rfl (by kernel_rfl) rfl (fun _ => (q_ne rfl rfl)) (by kernel_rfl) ?_
    refine at_q (i := 2) (li := #[true, true, true, false, false, false, false, false, false, false, false, false, false, false, false, false, false, false, false, false, false, false, false, false, false, false, false]) rfl (by kernel_rfl) rfl (fun _ => (q_move rfl)) (by kernel_rfl) ?_
    first | refine at_gskip (i := 3) (li := #[true, true, true, true, false, false, false, false, false, false, false, false, false, false, false, false, false, false, false, false, false, false, false, false, false, false, false]) rfl (by kernel_rfl) rfl rfl rfl rfl rfl (by kernel_rfl) ?_ | refine at_gskipU (i := 3) (li := #[true, true, true, true, false, false, false, false, false, false, false, false, false, false, false, false, false, false, false, false, false, false, false, false, false, false, false]) rfl (by kernel_rfl) rfl rfl rfl rfl (by kernel_rfl) ?_ | refine at_gq (i := 3) (li := #[true, true, true, true, false, false, false, false, false, false, false, false, false, false, false, false, false, false, false, false, false, false, false, false, false, false, false]) (cellsAre _ _ 2 _) rfl (by kernel_rfl) rfl rfl rfl rfl (fun _ h => q_loadc (n := 2) (by kernel_rfl) rfl h) (by first | exact Blk.cells ho1.1 rfl | exact Blk.cells ho2.1 rfl | exact Blk.cells ho3.1 rfl | assumption) (by kernel_rfl) ?_
    first | refine at_gskip (i := 4) (li := #[true, true, true, true, true, false, false, false, false, false, false, false, false, false, false, false, false, false, false, false, false, false, false, false, false, false, false]) rfl (by kernel_rfl) rfl rfl rfl rfl rfl (by kernel_rfl) ?_ | refine at_gskipU (i := 4) (li := #[true, true, true, true, true, false, false, false, false, false, false, false, false, false, false, false, false, false, false, false, false, false, false, false, false, false, false]) rfl (by kernel_rfl) rfl rfl rfl rfl (by kernel_rfl) ?_ | refine at_gq (i := 4) (li := #[true, true, true, true, true, false, false, false, false, false, false, false, false, false, false, false, false, false, false, false, false, false, false, false, false, false, false]) (cellsAre _ _ 2 _) rfl (by kernel_rfl) rfl rfl rfl rfl (fun _ h => q_loadc (n := 2) (by kernel_rfl) rfl h) (by first | exact Blk.cells ho1.1 rfl | exact Blk.cells ho2.1 rfl | exact Blk.cells ho3.1 rfl | assumption) (by kernel_rfl) ?_
    first | refine at_gskip (i := 6) (li := #[true, true, true, true, true, false, true, false, false, false, false, false, false, false, false, false, false, false, false, false, false, false, false, false, false, false, false]) rfl (by kernel_rfl) rfl rfl rfl rfl rfl (by kernel_rfl) ?_ | refine at_gskipU (i := 6) (li := #[true, true, true, true, true, false, true, false, false, false, false, false, false, false, false, false, false, false, false, false, false, false, false, false, false, false, false]) rfl (by kernel_rfl) rfl rfl rfl rfl (by kernel_rfl) ?_ | refine at_gq (i := 6) (li := #[true, true, true, true, true, false, true, false, false, false, false, false, false, false, false, false, false, false, false, false, false, false, false, false, false, false, false]) (cellsAre _ _ 2 _) rfl (by kernel_rfl) rfl rfl rfl rfl (fun _ h => q_loadc (n := 2) (by kernel_rfl) rfl h) (by first | exact Blk.cells ho1.1 rfl | exact Blk.cells ho2.1 rfl | exact Blk.cells ho3.1 rfl | assumption) (by kernel_rfl) ?_
    first | refine at_gskip (i := 7) (li := #[true, true, true, true, true, false, true, true, false, false, false, false, false, false, false, false, false, false, false, false, false, false, false, false, false, false, false]) rfl (by kernel_rfl) rfl rfl rfl rfl rfl (by kernel_rfl) ?_ | refine at_gskipU (i := 7) (li := #[true, true, true, true, true, false, true, true, false, false, false, false, false, false, false, false, false, false, false, false, false, false, false, false, false, false, false]) rfl (by kernel_rfl) rfl rfl rfl rfl (by kernel_rfl) ?_ | refine at_gq (i := 7) (li := #[true, true, true, true, true, false, true, true, false, false, false, false, false, false, false, false, false, false, false, false, false, false, false, false, false, false, false]) (cellsAre _ _ 2 _) rfl (by kernel_rfl) rfl rfl rfl rfl (fun _ h => q_loadc (n := 2) (by kernel_rfl) rfl h) (by first | exact Blk.cells ho1.1 rfl | exact Blk.cells ho2.1 rfl | exact Blk.cells ho3.1 rfl | assumption) (by kernel_rfl) ?_
    refine at_gh (i := 5) (li := #[true, true, true, true, true, true, true, true, false, false, false, false, false, false, false, false, false, false, false, false, false, false, false, false, false, false, false]) rfl (by kernel_rfl) rfl rfl rfl rfl rfl (by kernel_rfl) (h_call (by kernel_rfl) rfl ?_)
    refine (z_cmp_is (a := a) (b := b) hs20.sat hc1).mono ?_
    rintro _ w21 ⟨rfl, hs21⟩
    replace hg := hg.mono hs21.le
    replace ho1 := ho1.then hs21
    replace ho2 := ho2.then hs21
    replace ho3 := ho3.then hs21
    replace hT := hT.then hs21
    have hz21 := hs21.size
    refine ⟨(by repeat' first | exact trivial | exact Blk.cell ho1.1 rfl | exact Blk.cells ho1.1 rfl | exact Blk.cell ho2.1 rfl | exact Blk.cells ho2.1 rfl | exact Blk.cell ho3.1 rfl | exact Blk.cells ho3.1 rfl | assumption | refine all_keep ?_ | refine And.intro ?_ ?_), ?_⟩
    refine at_gh (i := 8) (li := #[true, true, true, true, true, true, true, true, true, false, false, false, false, false, false, false, false, false, false, false, false, false, false, false, false, false, false]) rfl (by kernel_rfl) rfl rfl rfl rfl rfl (by kernel_rfl) (h_call (by kernel_rfl) rfl ?_)
    refine (z_cmp_is (a := b) (b := a) hs21.sat hc2).mono ?_
    rintro _ w22 ⟨rfl, hs22⟩
    replace hg := hg.mono hs22.le
    replace ho1 := ho1.then hs22
    replace ho2 := ho2.then hs22
    replace ho3 := ho3.then hs22
    replace hT := hT.then hs22
    have hz22 := hs22.size
    refine ⟨(by repeat' first | exact trivial | exact Blk.cell ho1.1 rfl | exact Blk.cells ho1.1 rfl | exact Blk.cell ho2.1 rfl | exact Blk.cells ho2.1 rfl | exact Blk.cell ho3.1 rfl | exact Blk.cells ho3.1 rfl | assumption | refine all_keep ?_ | refine And.intro ?_ ?_), ?_⟩
    first | refine at_gskip (i := 9) (li := #[true, true, true, true, true, true, true, true, true, true, false, false, false, false, false, false, false, false, false, false, false, false, false, false, false, false, false]) rfl (by kernel_rfl) rfl rfl rfl rfl rfl (by kernel_rfl) ?_ | refine at_gskipU (i := 9) (li := #[true, true, true, true, true, true, true, true, true, true, false, false, false, false, false, false, false, false, false, false, false, false, false, false, false, false, false]) rfl (by kernel_rfl) rfl rfl rfl rfl (by kernel_rfl) ?_ | refine at_gp (i := 9) (li := #[true, true, true, true, true, true, true, true, true, true, false, false, false, false, false, false, false, false, false, false, false, false, false, false, false, false, false]) rfl (by kernel_rfl) rfl rfl rfl rfl (fun _ => (q_congr (q_neg rfl) (v' := .int .i64 (1)) rfl)) (by kernel_rfl) ?_
    first | refine at_gskip (i := 10) (li := #[true, true, true, true, true, true, true, true, true, true, true, false, false, false, false, false, false, false, false, false, false, false, false, false, false, false, false]) rfl (by kernel_rfl) rfl rfl rfl rfl rfl (by kernel_rfl) ?_ | refine at_gskipU (i := 10) (li := #[true, true, true, true, true, true, true, true, true, true, true, false, false, false, false, false, false, false, false, false, false, false, false, false, false, false, false]) rfl (by kernel_rfl) rfl rfl rfl rfl (by kernel_rfl) ?_ | refine at_gp (i := 10) (li := #[true, true, true, true, true, true, true, true, true, true, true, false, false, false, false, false, false, false, false, false, false, false, false, false, false, false, false]) rfl (by kernel_rfl) rfl rfl rfl rfl (fun _ => (q_neT rfl rfl (by omega))) (by kernel_rfl) ?_ | refine at_gp (i := 10) (li := #[true, true, true, true, true, true, true, true, true, true, true, false, false, false, false, false, false, false, false, false, false, false, false, false, false, false, false]) rfl (by kernel_rfl) rfl rfl rfl rfl (fun _ => (q_neF rfl rfl (by omega))) (by kernel_rfl) ?_ | refine at_gp (i := 10) (li := #[true, true, true, true, true, true, true, true, true, true, true, false, false, false, false, false, false, false, false, false, false, false, false, false, false, false, false]) rfl (by kernel_rfl) rfl rfl rfl rfl (fun _ => (q_ne rfl rfl)) (by kernel_rfl) ?_
    first | refine at_q (i := 11) (li := #[true, true, true, true, true, true, true, true, true, true, true, true, false, false, false, false, false, false, false, false, false, false, false, false, false, false, false]) rfl (by kernel_rfl) rfl (fun _ => (q_pick_t rfl rfl)) (by kernel_rfl) ?_ | refine at_q (i := 11) (li := #[true, true, true, true, true, true, true, true, true, true, true, true, false, false, false, false, false, false, false, false, false, false, false, false, false, false, false]) rfl (by kernel_rfl) rfl (fun _ => (q_pick_f rfl rfl)) (by kernel_rfl) ?_ | refine at_q (i := 11) (li := #[true, true, true, true, true, true, true, true, true, true, true, true, false, false, false, false, false, false, false, false, false, false, false, false, false, false, false]) rfl (by kernel_rfl) rfl (fun _ => (q_pick rfl rfl rfl)) (by kernel_rfl) ?_
    refine at_q (i := 12) (li := #[true, true, true, true, true, true, true, true, true, true, true, true, true, false, false, false, false, false, false, false, false, false, false, false, false, false, false]) rfl (by kernel_rfl) rfl (fun _ => (q_move rfl)) (by kernel_rfl) ?_
    first | refine at_gskip (i := 13) (li := #[true, true, true, true, true, true, true, true, true, true, true, true, true, true, false, false, false, false, false, false, false, false, false, false, false, false, false]) rfl (by kernel_rfl) rfl rfl rfl rfl rfl (by kernel_rfl) ?_ | refine at_gskipU (i := 13) (li := #[true, true, true, true, true, true, true, true, true, true, true, true, true, true, false, false, false, false, false, false, false, false, false, false, false, false, false]) rfl (by kernel_rfl) rfl rfl rfl rfl (by kernel_rfl) ?_ | refine at_gq (i := 13) (li := #[true, true, true, true, true, true, true, true, true, true, true, true, true, true, false, false, false, false, false, false, false, false, false, false, false, false, false]) (cellsAre _ _ 2 _) rfl (by kernel_rfl) rfl rfl rfl rfl (fun _ h => q_loadc (n := 2) (by kernel_rfl) rfl h) (by first | exact Blk.cells ho1.1 rfl | exact Blk.cells ho2.1 rfl | exact Blk.cells ho3.1 rfl | assumption) (by kernel_rfl) ?_
    first | refine at_gskip (i := 14) (li := #[true, true, true, true, true, true, true, true, true, true, true, true, true, true, true, false, false, false, false, false, false, false, false, false, false, false, false]) rfl (by kernel_rfl) rfl rfl rfl rfl rfl (by kernel_rfl) ?_ | refine at_gskipU (i := 14) (li := #[true, true, true, true, true, true, true, true, true, true, true, true, true, true, true, false, false, false, false, false, false, false, false, false, false, false, false]) rfl (by kernel_rfl) rfl rfl rfl rfl (by kernel_rfl) ?_ | refine at_gq (i := 14) (li := #[true, true, true, true, true, true, true, true, true, true, true, true, true, true, true, false, false, false, false, false, false, false, false, false, false, false, false]) (cellsAre _ _ 2 _) rfl (by kernel_rfl) rfl rfl rfl rfl (fun _ h => q_loadc (n := 2) (by kernel_rfl) rfl h) (by first | exact Blk.cells ho1.1 rfl | exact Blk.cells ho2.1 rfl | exact Blk.cells ho3.1 rfl | assumption) (by kernel_rfl) ?_
    refine at_gh (i := 15) (li := #[true, true, true, true, true, true, true, true, true, true, true, true, true, true, true, true, false, false, false, false, false, false, false, false, false, false, false]) rfl (by kernel_rfl) rfl rfl rfl rfl rfl (by kernel_rfl) (h_call (by kernel_rfl) rfl ?_)
    refine (z_less_is (a := a) (b := a) hs22.sat (swoE.irrefl a)).mono ?_
    rintro _ w23 ⟨rfl, hs23⟩
    replace hg := hg.mono hs23.le
    replace ho1 := ho1.then hs23
    replace ho2 := ho2.then hs23
    replace ho3 := ho3.then hs23
    replace hT := hT.then hs23
    have hz23 := hs23.size
    refine ⟨(by repeat' first | exact trivial | exact Blk.cell ho1.1 rfl | exact Blk.cells ho1.1 rfl | exact Blk.cell ho2.1 rfl | exact Blk.cells ho2.1 rfl | exact Blk.cell ho3.1 rfl | exact Blk.cells ho3.1 rfl | assumption | refine all_keep ?_ | refine And.intro ?_ ?_), ?_⟩
    first | refine at_q (i := 16) (li := #[true, true, true, true, true, true, true, true, true, true, true, true, true, true, true, true, true, false, false, false, false, false, false, false, false, false, false]) rfl (by kernel_rfl) rfl (fun _ => (q_pick_t rfl rfl)) (by kernel_rfl) ?_ | refine at_q (i := 16) (li := #[true, true, true, true, true, true, true, true, true, true, true, true, true, true, true, true, true, false, false, false, false, false, false, false, false, false, false]) rfl (by kernel_rfl) rfl (fun _ => (q_pick_f rfl rfl)) (by kernel_rfl) ?_ | refine at_q (i := 16) (li := #[true, true, true, true, true, true, true, true, true, true, true, true, true, true, true, true, true, false, false, false, false, false, false, false, false, false, false]) rfl (by kernel_rfl) rfl (fun _ => (q_pick rfl rfl rfl)) (by kernel_rfl) ?_
    refine at_q (i := 17) (li := #[true, true, true, true, true, true, true, true, true, true, true, true, true, true, true, true, true, true, false, false, false, false, false, false, false, false, false]) rfl (by kernel_rfl) rfl (fun _ => (q_move rfl)) (by kernel_rfl) ?_
    first | refine at_gskip (i := 18) (li := #[true, true, true, true, true, true, true, true, true, true, true, true, true, true, true, true, true, true, true, false, false, false, false, false, false, false, false]) rfl (by kernel_rfl) rfl rfl rfl rfl rfl (by kernel_rfl) ?_ | refine at_gskipU (i := 18) (li := #[true, true, true, true, true, true, true, true, true, true, true, true, true, true, true, true, true, true, true, false, false, false, false, false, false, false, false]) rfl (by kernel_rfl) rfl rfl rfl rfl (by kernel_rfl) ?_ | refine at_gq (i := 18) (li := #[true, true, true, true, true, true, true, true, true, true, true, true, true, true, true, true, true, true, true, false, false, false, false, false, false, false, false]) (cellsAre _ _ 2 _) rfl (by kernel_rfl) rfl rfl rfl rfl (fun _ h => q_loadc (n := 2) (by kernel_rfl) rfl h) (by first | exact Blk.cells ho1.1 rfl | exact Blk.cells ho2.1 rfl | exact Blk.cells ho3.1 rfl | assumption) (by kernel_rfl) ?_
    first | refine at_gskip (i := 19) (li := #[true, true, true, true, true, true, true, true, true, true, true, true, true, true, true, true, true, true, true, true, false, false, false, false, false, false, false]) rfl (by kernel_rfl) rfl rfl rfl rfl rfl (by kernel_rfl) ?_ | refine at_gskipU (i := 19) (li := #[true, true, true, true, true, true, true, true, true, true, true, true, true, true, true, true, true, true, true, true, false, false, false, false, false, false, false]) rfl (by kernel_rfl) rfl rfl rfl rfl (by kernel_rfl) ?_ | refine at_gq (i := 19) (li := #[true, true, true, true, true, true, true, true, true, true, true, true, true, true, true, true, true, true, true, true, false, false, false, false, false, false, false]) (cellsAre _ _ 2 _) rfl (by kernel_rfl) rfl rfl rfl rfl (fun _ h => q_loadc (n := 2) (by kernel_rfl) rfl h) (by first | exact Blk.cells ho1.1 rfl | exact Blk.cells ho2.1 rfl | exact Blk.cells ho3.1 rfl | assumption) (by kernel_rfl) ?_
    first | refine at_gskip (i := 21) (li := #[true, true, true, true, true, true, true, true, true, true, true, true, true, true, true, true, true, true, true, true, false, true, false, false, false, false, false]) rfl (by kernel_rfl) rfl rfl rfl rfl rfl (by kernel_rfl) ?_ | refine at_gskipU (i := 21) (li := #[true, true, true, true, true, true, true, true, true, true, true, true, true, true, true, true, true, true, true, true, false, true, false, false, false, false, false]) rfl (by kernel_rfl) rfl rfl rfl rfl (by kernel_rfl) ?_ | refine at_gq (i := 21) (li := #[true, true, true, true, true, true, true, true, true, true, true, true, true, true, true, true, true, true, true, true, false, true, false, false, false, false, false]) (cellsAre _ _ 2 _) rfl (by kernel_rfl) rfl rfl rfl rfl (fun _ h => q_loadc (n := 2) (by kernel_rfl) rfl h) (by first | exact Blk.cells ho1.1 rfl | exact Blk.cells ho2.1 rfl | exact Blk.cells ho3.1 rfl | assumption) (by kernel_rfl) ?_
    first | refine at_gskip (i := 22) (li := #[true, true, true, true, true, true, true, true, true, true, true, true, true, true, true, true, true, true, true, true, false, true, true, false, false, false, false]) rfl (by kernel_rfl) rfl rfl rfl rfl rfl (by kernel_rfl) ?_ | refine at_gskipU (i := 22) (li := #[true, true, true, true, true, true, true, true, true, true, true, true, true, true, true, true, true, true, true, true, false, true, true, false, false, false, false]) rfl (by kernel_rfl) rfl rfl rfl rfl (by kernel_rfl) ?_ | refine at_gq (i := 22) (li := #[true, true, true, true, true, true, true, true, true, true, true, true, true, true, true, true, true, true, true, true, false, true, true, false, false, false, false]) (cellsAre _ _ 2 _) rfl (by kernel_rfl) rfl rfl rfl rfl (fun _ h => q_loadc (n := 2) (by kernel_rfl) rfl h) (by first | exact Blk.cells ho1.1 rfl | exact Blk.cells ho2.1 rfl | exact Blk.cells ho3.1 rfl | assumption) (by kernel_rfl) ?_
    refine at_gh (i := 20) (li := #[true, true, true, true, true, true, true, true, true, true, true, true, true, true, true, true, true, true, true, true, true, true, true, false, false, false, false]) rfl (by kernel_rfl) rfl rfl rfl rfl rfl (by kernel_rfl) (h_call (by kernel_rfl) rfl ?_)
    refine (z_less_is (a := a) (b := b) hs23.sat hab).mono ?_
    rintro _ w24 ⟨rfl, hs24⟩
    replace hg := hg.mono hs24.le
    replace ho1 := ho1.then hs24
    replace ho2 := ho2.then hs24
    replace ho3 := ho3.then hs24
    replace hT := hT.then hs24
    have hz24 := hs24.size
    refine ⟨(by repeat' first | exact trivial | exact Blk.cell ho1.1 rfl | exact Blk.cells ho1.1 rfl | exact Blk.cell ho2.1 rfl | exact Blk.cells ho2.1 rfl | exact Blk.cell ho3.1 rfl | exact Blk.cells ho3.1 rfl | assumption | refine all_keep ?_ | refine And.intro ?_ ?_), ?_⟩
    refine at_gh (i := 23) (li := #[true, true, true, true, true, true, true, true, true, true, true, true, true, true, true, true, true, true, true, true, true, true, true, true, false, false, false]) rfl (by kernel_rfl) rfl rfl rfl rfl rfl (by kernel_rfl) (h_call (by kernel_rfl) rfl ?_)
    refine (z_cmp_is (a := a) (b := b) hs24.sat hc1).mono ?_
    rintro _ w25 ⟨rfl, hs25⟩
    replace hg := hg.mono hs25.le
    replace ho1 := ho1.then hs25
    replace ho2 := ho2.then hs25
    replace ho3 := ho3.then hs25
    replace hT := hT.then hs25
    have hz25 := hs25.size
    refine ⟨(by repeat' first | exact trivial | exact Blk.cell ho1.1 rfl | exact Blk.cells ho1.1 rfl | exact Blk.cell ho2.1 rfl | exact Blk.cells ho2.1 rfl | exact Blk.cell ho3.1 rfl | exact Blk.cells ho3.1 rfl | assumption | refine all_keep ?_ | refine And.intro ?_ ?_), ?_⟩
    first | refine at_gskip (i := 24) (li := #[true, true, true, true, true, true, true, true, true, true, true, true, true, true, true, true, true, true, true, true, true, true, true, true, true, false, false]) rfl (by kernel_rfl) rfl rfl rfl rfl rfl (by kernel_rfl) ?_ | refine at_gskipU (i := 24) (li := #[true, true, true, true, true, true, true, true, true, true, true, true, true, true, true, true, true, true, true, true, true, true, true, true, true, false, false]) rfl (by kernel_rfl) rfl rfl rfl rfl (by kernel_rfl) ?_ | refine at_gp (i := 24) (li := #[true, true, true, true, true, true, true, true, true, true, true, true, true, true, true, true, true, true, true, true, true, true, true, true, true, false, false]) rfl (by kernel_rfl) rfl rfl rfl rfl (fun _ => (q_eqT rfl rfl (by omega))) (by kernel_rfl) ?_ | refine at_gp (i := 24) (li := #[true, true, true, true, true, true, true, true, true, true, true, true, true, true, true, true, true, true, true, true, true, true, true, true, true, false, false]) rfl (by kernel_rfl) rfl rfl rfl rfl (fun _ => (q_eqF rfl rfl (by omega))) (by kernel_rfl) ?_ | refine at_gp (i := 24) (li := #[true, true, true, true, true, true, true, true, true, true, true, true, true, true, true, true, true, true, true, true, true, true, true, true, true, false, false]) rfl (by kernel_rfl) rfl rfl rfl rfl (fun _ => (q_eq rfl rfl)) (by kernel_rfl) ?_
    first | refine at_gskip (i := 25) (li := #[true, true, true, true, true, true, true, true, true, true, true, true, true, true, true, true, true, true, true, true, true, true, true, true, true, true, false]) rfl (by kernel_rfl) rfl rfl rfl rfl rfl (by kernel_rfl) ?_ | refine at_gskipU (i := 25) (li := #[true, true, true, true, true, true, true, true, true, true, true, true, true, true, true, true, true, true, true, true, true, true, true, true, true, true, false]) rfl (by kernel_rfl) rfl rfl rfl rfl (by kernel_rfl) ?_ | refine at_gp (i := 25) (li := #[true, true, true, true, true, true, true, true, true, true, true, true, true, true, true, true, true, true, true, true, true, true, true, true, true, true, false]) rfl (by kernel_rfl) rfl rfl rfl rfl (fun _ => (q_congr (q_neb (by kernel_rfl) rfl rfl) (v' := .bool false) rfl)) (by kernel_rfl) ?_
    first | refine at_q (i := 26) (li := #[true, true, true, true, true, true, true, true, true, true, true, true, true, true, true, true, true, true, true, true, true, true, true, true, true, true, true]) rfl (by kernel_rfl) rfl (fun _ => (q_pick_t rfl rfl)) (by kernel_rfl) ?_ | refine at_q (i := 26) (li := #[true, true, true, true, true, true, true, true, true, true, true, true, true, true, true, true, true, true, true, true, true, true, true, true, true, true, true]) rfl (by kernel_rfl) rfl (fun _ => (q_pick_f rfl rfl)) (by kernel_rfl) ?_ | refine at_q (i := 26) (li := #[true, true, true, true, true, true, true, true, true, true, true, true, true, true, true, true, true, true, true, true, true, true, true, true, true, true, true]) rfl (by kernel_rfl) rfl (fun _ => (q_pick rfl rfl rfl)) (by kernel_rfl) ?_
    refine at_done (by kernel_rfl) (hK26 _ _ ?_)
    clear hK26 K26
    refine cw_false rfl ?_
    refine cw_skip ?_
    refine hK25 _ _ ?_
    clear hK25 K25
    cases hbc : ltE b c
    · skip
      refine cw_rs fun K27 hK27 => ?_
      -- region 13
      refine as_q rfl rfl (q_loadc (n := 2) (by kernel_rfl) rfl (by first | exact Blk.cells ho1.1 rfl | exact Blk.cells ho2.1 rfl | exact Blk.cells ho3.1 rfl | assumption)) ?_
      refine as_q rfl rfl (q_loadc (n := 2) (by kernel_rfl) rfl (by first | exact Blk.cells ho1.1 rfl | exact Blk.cells ho2.1 rfl | exact Blk.cells ho3.1 rfl | assumption)) ?_
      refine as_h rfl (h_call (by kernel_rfl) rfl ?_)
      refine (z_less_is (a := a) (b := b) hs25.sat hab).mono ?_
      rintro _ w26 ⟨rfl, hs26⟩
      replace hg := hg.mono hs26.le
      replace ho1 := ho1.then hs26
      replace ho2 := ho2.then hs26
      replace ho3 := ho3.then hs26
      replace hT := hT.then hs26
      have hz26 := hs26.size
      refine as_q rfl rfl (q_not rfl) ?_
      refine as_q rfl rfl (q_move rfl) ?_
      first | refine as_gskip rfl rfl rfl rfl rfl ?_ | refine as_gskipU rfl rfl rfl rfl ?_ | refine as_gh rfl rfl rfl rfl (h_q rfl (q_loadc (n := 2) (by kernel_rfl) rfl (by first | exact Blk.cells ho1.1 rfl | exact Blk.cells ho2.1 rfl | exact Blk.cells ho3.1 rfl | assumption)) ?_)
      first | refine as_gskip rfl rfl rfl rfl rfl ?_ | refine as_gskipU rfl rfl rfl rfl ?_ | refine as_gh rfl rfl rfl rfl (h_q rfl (q_loadc (n := 2) (by kernel_rfl) rfl (by first | exact Blk.cells ho1.1 rfl | exact Blk.cells ho2.1 rfl | exact Blk.cells ho3.1 rfl | assumption)) ?_)
      first | refine as_gskip rfl rfl rfl rfl rfl ?_ | refine as_gskipU rfl rfl rfl rfl ?_
      first | refine as_gskip rfl rfl rfl rfl rfl ?_ | refine as_gskipU rfl rfl rfl rfl ?_ | refine as_gh rfl rfl rfl rfl (h_q rfl (q_not rfl) ?_)
      first | refine as_q rfl rfl (q_pick_t rfl rfl) ?_ | refine as_q rfl rfl (q_pick_f rfl rfl) ?_ | refine as_q rfl rfl (q_pick rfl rfl rfl) ?_
      refine as_q rfl rfl (q_move rfl) ?_
      first | refine as_gskip rfl rfl rfl rfl rfl ?_ | refine as_gskipU rfl rfl rfl rfl ?_ | refine as_gh rfl rfl rfl rfl (h_q rfl (q_loadc (n := 2) (by kernel_rfl) rfl (by first | exact Blk.cells ho1.1 rfl | exact Blk.cells ho2.1 rfl | exact Blk.cells ho3.1 rfl | assumption)) ?_)
      first | refine as_gskip rfl rfl rfl rfl rfl ?_ | refine as_gskipU rfl rfl rfl rfl ?_ | refine as_gh rfl rfl rfl rfl (h_q rfl (q_loadc (n := 2) (by kernel_rfl) rfl (by first | exact Blk.cells ho1.1 rfl | exact Blk.cells ho2.1 rfl | exact Blk.cells ho3.1 rfl | assumption)) ?_)
      first | refine as_gskip rfl rfl rfl rfl rfl ?_ | refine as_gskipU rfl rfl rfl rfl ?_
      first | refine as_q rfl rfl (q_pick_t rfl rfl) ?_ | refine as_q rfl rfl (q_pick_f rfl rfl) ?_ | refine as_q rfl rfl (q_pick rfl rfl rfl) ?_
      refine as_q rfl rfl (q_assign rfl) ?_
      refine as_nil (hK27 _ _ ?_)
      clear hK27 K27
      refine cw_ret ?_
      exact ⟨_, (res_tmp rfl res_nil), rfl, hT⟩
    · skip
      refine cw_rs fun K28 hK28 => ?_
      -- region 13
      refine as_q rfl rfl (q_loadc (n := 2) (by kernel_rfl) rfl (by first | exact Blk.cells ho1.1 rfl | exact Blk.cells ho2.1 rfl | exact Blk.cells ho3.1 rfl | assumption)) ?_
      refine as_q rfl rfl (q_loadc (n := 2) (by kernel_rfl) rfl (by first | exact Blk.cells ho1.1 rfl | exact Blk.cells ho2.1 rfl | exact Blk.cells ho3.1 rfl | assumption)) ?_
      refine as_h rfl (h_call (by kernel_rfl) rfl ?_)
      refine (z_less_is (a := a) (b := b) hs25.sat hab).mono ?_
      rintro _ w27 ⟨rfl, hs27⟩
      replace hg := hg.mono hs27.le
      replace ho1 := ho1.then hs27
      replace ho2 := ho2.then hs27
      replace ho3 := ho3.then hs27
      replace hT := hT.then hs27
      have hz27 := hs27.size
      refine as_q rfl rfl (q_not rfl) ?_
      refine as_q rfl rfl (q_move rfl) ?_
      first | refine as_gskip rfl rfl rfl rfl rfl ?_ | refine as_gskipU rfl rfl rfl rfl ?_ | refine as_gh rfl rfl rfl rfl (h_q rfl (q_loadc (n := 2) (by kernel_rfl) rfl (by first | exact Blk.cells ho1.1 rfl | exact Blk.cells ho2.1 rfl | exact Blk.cells ho3.1 rfl | assumption)) ?_)
      first | refine as_gskip rfl rfl rfl rfl rfl ?_ | refine as_gskipU rfl rfl rfl rfl ?_ | refine as_gh rfl rfl rfl rfl (h_q rfl (q_loadc (n := 2) (by kernel_rfl) rfl (by first | exact Blk.cells ho1.1 rfl | exact Blk.cells ho2.1 rfl | exact Blk.cells ho3.1 rfl | assumption)) ?_)
      first | refine as_gskip rfl rfl rfl rfl rfl ?_ | refine as_gskipU rfl rfl rfl rfl ?_
      first | refine as_gskip rfl rfl rfl rfl rfl ?_ | refine as_gskipU rfl rfl rfl rfl ?_ | refine as_gh rfl rfl rfl rfl (h_q rfl (q_not rfl) ?_)
      first | refine as_q rfl rfl (q_pick_t rfl rfl) ?_ | refine as_q rfl rfl (q_pick_f rfl rfl) ?_ | refine as_q rfl rfl (q_pick rfl rfl rfl) ?_
      refine as_q rfl rfl (q_move rfl) ?_
      first | refine as_gskip rfl rfl rfl rfl rfl ?_ | refine as_gskipU rfl rfl rfl rfl ?_ | refine as_gh rfl rfl rfl rfl (h_q rfl (q_loadc (n := 2) (by kernel_rfl) rfl (by first | exact Blk.cells ho1.1 rfl | exact Blk.cells ho2.1 rfl | exact Blk.cells ho3.1 rfl | assumption)) ?_)
      first | refine as_gskip rfl rfl rfl rfl rfl ?_ | refine as_gskipU rfl rfl rfl rfl ?_ | refine as_gh rfl rfl rfl rfl (h_q rfl (q_loadc (n := 2) (by kernel_rfl) rfl (by first | exact Blk.cells ho1.1 rfl | exact Blk.cells ho2.1 rfl | exact Blk.cells ho3.1 rfl | assumption)) ?_)
      first | refine as_gskip rfl rfl rfl rfl rfl ?_ | refine as_gskipU rfl rfl rfl rfl ?_
      first | refine as_q rfl rfl (q_pick_t rfl rfl) ?_ | refine as_q rfl rfl (q_pick_f rfl rfl) ?_ | refine as_q rfl rfl (q_pick rfl rfl rfl) ?_
      refine as_q rfl rfl (q_assign rfl) ?_
      refine as_nil (hK28 _ _ ?_)
      clear hK28 K28
      refine cw_ret ?_
      exact ⟨_, (res_tmp rfl res_nil), rfl, hT⟩
  · skip
    refine cw_rs fun K29 hK29 => ?_
    -- region 4
    refine as_q rfl rfl (q_assign rfl) ?_
    refine as_nil (hK29 _ _ ?_)
    clear hK29 K29
    refine cw_seq fun K30 hK30 => ?_
    refine cw_rs fun K31 hK31 => ?_
    -- region 5
    refine as_q rfl rfl (q_loadc (n := 2) (by kernel_rfl) rfl (by first | exact Blk.cells ho1.1 rfl | exact Blk.cells ho2.1 rfl | exact Blk.cells ho3.1 rfl | assumption)) ?_
    refine as_q rfl rfl (q_loadc (n := 2) (by kernel_rfl) rfl (by first | exact Blk.cells ho1.1 rfl | exact Blk.cells ho2.1 rfl | exact Blk.cells ho3.1 rfl | assumption)) ?_
    refine as_h rfl (h_call (by kernel_rfl) rfl ?_)
    refine (z_less_is (a := a) (b := b) hs4.sat hab).mono ?_
    rintro _ w28 ⟨rfl, hs28⟩
    replace hg := hg.mono hs28.le
    replace ho1 := ho1.then hs28
    replace ho2 := ho2.then hs28
    replace ho3 := ho3.then hs28
    replace hT := hT.then hs28
    have hz28 := hs28.size
    refine as_nil (hK31 _ _ ?_)
    clear hK31 K31
    refine cw_false rfl ?_
    refine cw_skip ?_
    refine hK30 _ _ ?_
    clear hK30 K30
    refine cw_seq fun K32 hK32 => ?_
    refine cw_rs fun K33 hK33 => ?_
    -- region 7
    refine as_q rfl rfl (q_loadc (n := 2) (by kernel_rfl) rfl (by first | exact Blk.cells ho1.1 rfl | exact Blk.cells ho2.1 rfl | exact Blk.cells ho3.1 rfl | assumption)) ?_
    refine as_q rfl rfl (q_loadc (n := 2) (by kernel_rfl) rfl (by first | exact Blk.cells ho1.1 rfl | exact Blk.cells ho2.1 rfl | exact Blk.cells ho3.1 rfl | assumption)) ?_
    refine as_h rfl (h_call (by kernel_rfl) rfl ?_)
    refine (z_less_is (a := b) (b := a) hs28.sat hba).mono ?_
    rintro _ w29 ⟨rfl, hs29⟩
    replace hg := hg.mono hs29.le
    replace ho1 := ho1.then hs29
    replace ho2 := ho2.then hs29
    replace ho3 := ho3.then hs29
    replace hT := hT.then hs29
    have hz29 := hs29.size
    refine as_nil (hK33 _ _ ?_)
    clear hK33 K33
    refine cw_false rfl ?_
    refine cw_skip ?_
    refine hK32 _ _ ?_
    clear hK32 K32
    refine cw_seq fun K34 hK34 => ?_
    refine cw_rs fun K35 hK35 => ?_
    -- region 9
    refine as_q rfl rfl (q_loadc (n := 2) (by kernel_rfl) rfl (by first | exact Blk.cells ho1.1 rfl | exact Blk.cells ho2.1 rfl | exact Blk.cells ho3.1 rfl | assumption)) ?_
    refine as_q rfl rfl (q_loadc (n := 2) (by kernel_rfl) rfl (by first | exact Blk.cells ho1.1 rfl | exact Blk.cells ho2.1 rfl | exact Blk.cells ho3.1 rfl | assumption)) ?_
    refine as_q rfl rfl (q_congr (q_eqE (a := a) (b := b) (e := 2) (by kernel_rfl) (by kernel_rfl) (by kernel_rfl) (by kernel_rfl) (by kernel_rfl) (by kernel_rfl) rfl rfl) (v' := .bool true) (by rw [decide_eq_true heq])) ?_
    refine as_nil (hK35 _ _ ?_)
    clear hK35 K35
    refine cw_true rfl ?_
    refine cw_region fun K36 hK36 => ?_
    -- region 10
    refine as_q rfl rfl (q_move rfl) ?_
    refine as_q rfl rfl (q_addx rfl rfl (by omega) (by omega)) ?_
    refine as_q rfl rfl (q_assign rfl) ?_
    refine as_nil (hK36 _ _ ?_)
    clear hK36 K36
    refine hK34 _ _ ?_
    clear hK34 K34
    refine cw_seq fun K37 hK37 => ?_
    refine cw_rd (by kernel_rfl) (by kernel_rfl) (by kernel_rfl) rfl rfl fun K38 hK38 => ?_
    -- region 11
    have hs30 := Step.drew hs29.sat
    have hz30 := hs30.size
    replace hg := hg.mono hs30.le
    replace ho1 := ho1.then hs30
    replace ho2 := ho2.then hs30
    replace ho3 := ho3.then hs30
    replace hT := hT.then hs30
    refine at_q (i := 0) (li := #[true, false, false, false, false, false, false, false, false, false, false, false, false, false, false, false, false, false, false, false, false, false, false, false, false, false, false]) rfl (by kernel_rfl) rfl (fun _ => (q_move rfl)) (by kernel_rfl) ?_
    first | refine at_q (i := 1) (li := #[true, true, false, false, false, false, false, false, false, false, false, false, false, false, false, false, false, false, false, false, false, false, false, false, false, false, false]) rfl (by kernel_rfl) rfl (fun _ => (q_neT rfl rfl (by omega))) (by kernel_rfl) ?_ | refine at_q (i := 1) (li := #[true, true, false, false, false, false, false, false, false, false, false, false, false, false, false, false, false, false, false, false, false, false, false, false, false, false, false]) rfl (by kernel_rfl) rfl (fun _ => (q_neF rfl rfl (by omega))) (by kernel_rfl) ?_ | refine at_q (i := 1) (li := #[true, true, false, false, false, false, false, false, false, false, false, false, false, false, false, false, false, false, false, false, false, false, false, false, false, false, false]) rfl (by kernel_rfl) rfl (fun _ => (q_ne rfl rfl)) (by kernel_rfl) ?_
    refine at_q (i := 2) (li := #[true, true, true, false, false, false, false, false, false, false, false, false, false, false, false, false, false, false, false, false, false, false, false, false, false, false, false]) rfl (by kernel_rfl) rfl (fun _ => (q_move rfl)) (by kernel_rfl) ?_
    first | refine at_gskip (i := 3) (li := #[true, true, true, true, false, false, false, false, false, false, false, false, false, false, false, false, false, false, false, false, false, false, false, false, false, false, false]) rfl (by kernel_rfl) rfl rfl rfl rfl rfl (by kernel_rfl) ?_ | refine at_gskipU (i := 3) (li := #[true, true, true, true, false, false, false, false, false, false, false, false, false, false, false, false, false, false, false, false, false, false, false, false, false, false, false]) rfl (by kernel_rfl) rfl rfl rfl rfl (by kernel_rfl) ?_ | refine at_gq (i := 3) (li := #[true, true, true, true, false, false, false, false, false, false, false, false, false, false, false, false, false, false, false, false, false, false, false, false, false, false, false]) (cellsAre _ _ 2 _) rfl (by kernel_rfl) rfl rfl rfl rfl (fun _ h => q_loadc (n := 2) (by kernel_rfl) rfl h) (by first | exact Blk.cells ho1.1 rfl | exact Blk.cells ho2.1 rfl | exact Blk.cells ho3.1 rfl | assumption) (by kernel_rfl) ?_
    first | refine at_gskip (i := 4) (li := #[true, true, true, true, true, false, false, false, false, false, false, false, false, false, false, false, false, false, false, false, false, false, false, false, false, false, false]) rfl (by kernel_rfl) rfl rfl rfl rfl rfl (by kernel_rfl) ?_ | refine at_gskipU (i := 4) (li := #[true, true, true, true, true, false, false, false, false, false, false, false, false, false, false, false, false, false, false, false, false, false, false, false, false, false, false]) rfl (by kernel_rfl) rfl rfl rfl rfl (by kernel_rfl) ?_ | refine at_gq (i := 4) (li := #[true, true, true, true, true, false, false, false, false, false, false, false, false, false, false, false, false, false, false, false, false, false, false, false, false, false, false]) (cellsAre _ _ 2 _) rfl (by kernel_rfl) rfl rfl rfl rfl (fun _ h => q_loadc (n := 2) (by kernel_rfl) rfl h) (by first | exact Blk.cells ho1.1 rfl | exact Blk.cells ho2.1 rfl | exact Blk.cells ho3.1 rfl | assumption) (by kernel_rfl) ?_
    first | refine at_gskip (i := 6) (li := #[true, true, true, true, true, false, true, false, false, false, false, false, false, false, false, false, false, false, false, false, false, false, false, false, false, false, false]) rfl (by kernel_rfl) rfl rfl rfl rfl rfl (by kernel_rfl) ?_ | refine at_gskipU (i := 6) (li := #[true, true, true, true, true, false, true, false, false, false, false, false, false, false, false, false, false, false, false, false, false, false, false, false, false, false, false]) rfl (by kernel_rfl) rfl rfl rfl rfl (by kernel_rfl) ?_ | refine at_gq (i := 6) (li := #[true, true, true, true, true, false, true, false, false, false, false, false, false, false, false, false, false, false, false, false, false, false, false, false, false, false, false]) (cellsAre _ _ 2 _) rfl (by kernel_rfl) rfl rfl rfl rfl (fun _ h => q_loadc (n := 2) (by kernel_rfl) rfl h) (by first | exact Blk.cells ho1.1 rfl | exact Blk.cells ho2.1 rfl | exact Blk.cells ho3.1 rfl | assumption) (by kernel_rfl) ?_
    first | refine at_gskip (i := 7) (li := #[true, true, true, true, true, false, true, true, false, false, false, false, false, false, false, false, false, false, false, false, false, false, false, false, false, false, false]) rfl (by kernel_rfl) rfl rfl rfl rfl rfl (by kernel_rfl) ?_ | refine at_gskipU (i := 7) (li := #[true, true, true, true, true, false, true, true, false, false, false, false, false, false, false, false, false, false, false, false, false, false, false, false, false, false, false]) rfl (by kernel_rfl) rfl rfl rfl rfl (by kernel_rfl) ?_ | refine at_gq (i := 7) (li := #[true, true, true, true, true, false, true, true, false, false, false, false, false, false, false, false, false, false, false, false, false, false, false, false, false, false, false]) (cellsAre _ _ 2 _) rfl (by kernel_rfl) rfl rfl rfl rfl (fun _ h => q_loadc (n := 2) (by kernel_rfl) rfl h) (by first | exact Blk.cells ho1.1 rfl | exact Blk.cells ho2.1 rfl | exact Blk.cells ho3.1 rfl | assumption) (by kernel_rfl) ?_
    refine at_gh (i := 5) (li := #[true, true, true, true, true, true, true, true, false, false, false, false, false, false, false, false, false, false, false, false, false, false, false, false, false, false, false]) rfl (by kernel_rfl) rfl rfl rfl rfl rfl (by kernel_rfl) (h_call (by kernel_rfl) rfl ?_)
    refine (z_cmp_is (a := a) (b := b) hs30.sat hc1).mono ?_
    rintro _ w31 ⟨rfl, hs31⟩
    replace hg := hg.mono hs31.le
    replace ho1 := ho1.then hs31
    replace ho2 := ho2.then hs31
    replace ho3 := ho3.then hs31
    replace hT := hT.then hs31
    have hz31 := hs31.size
    refine ⟨(by repeat' first | exact trivial | exact Blk.cell ho1.1 rfl | exact Blk.cells ho1.1 rfl | exact Blk.cell ho2.1 rfl | exact Blk.cells ho2.1 rfl | exact Blk.cell ho3.1 rfl | exact Blk.cells ho3.1 rfl | assumption | refine all_keep ?_ | refine And.intro ?_ ?_), ?_⟩
    refine at_gh (i := 8) (li := #[true, true, true, true, true, true, true, true, true, false, false, false, false, false, false, false, false, false, false, false, false, false, false, false, false, false, false]) rfl (by kernel_rfl) rfl rfl rfl rfl rfl (by kernel_rfl) (h_call (by kernel_rfl) rfl ?_)
    refine (z_cmp_is (a := b) (b := a) hs31.sat hc2).mono ?_
    rintro _ w32 ⟨rfl, hs32⟩
    replace hg := hg.mono hs32.le
    replace ho1 := ho1.then hs32
    replace ho2 := ho2.then hs32
    replace ho3 := ho3.then hs32
    replace hT := hT.then hs32
    have hz32 := hs32.size
    refine ⟨(by repeat' first | exact trivial | exact Blk.cell ho1.1 rfl | exact Blk.cells ho1.1 rfl | exact Blk.cell ho2.1 rfl | exact Blk.cells ho2.1 rfl | exact Blk.cell ho3.1 rfl | exact Blk.cells ho3.1 rfl | assumption | refine all_keep ?_ | refine And.intro ?_ ?_), ?_⟩
    first | refine at_gskip (i := 9) (li := #[true, true, true, true, true, true, true, true, true, true, false, false, false, false, false, false, false, false, false, false, false, false, false, false, false, false, false]) rfl (by kernel_rfl) rfl rfl rfl rfl rfl (by kernel_rfl) ?_ | refine at_gskipU (i := 9) (li := #[true, true, true, true, true, true, true, true, true, true, false, false, false, false, false, false, false, false, false, false, false, false, false, false, false, false, false]) rfl (by kernel_rfl) rfl rfl rfl rfl (by kernel_rfl) ?_ | refine at_gp (i := 9) (li := #[true, true, true, true, true, true, true, true, true, true, false, false, false, false, false, false, false, false, false, false, false, false, false, false, false, false, false]) rfl (by kernel_rfl) rfl rfl rfl rfl (fun _ => (q_congr (q_neg rfl) (v' := .int .i64 (0)) rfl)) (by kernel_rfl) ?_
    first | refine at_gskip (i := 10) (li := #[true, true, true, true, true, true, true, true, true, true, true, false, false, false, false, false, false, false, false, false, false, false, false, false, false, false, false]) rfl (by kernel_rfl) rfl rfl rfl rfl rfl (by kernel_rfl) ?_ | refine at_gskipU (i := 10) (li := #[true, true, true, true, true, true, true, true, true, true, true, false, false, false, false, false, false, false, false, false, false, false, false, false, false, false, false]) rfl (by kernel_rfl) rfl rfl rfl rfl (by kernel_rfl) ?_ | refine at_gp (i := 10) (li := #[true, true, true, true, true, true, true, true, true, true, true, false, false, false, false, false, false, false, false, false, false, false, false, false, false, false, false]) rfl (by kernel_rfl) rfl rfl rfl rfl (fun _ => (q_neT rfl rfl (by omega))) (by kernel_rfl) ?_ | refine at_gp (i := 10) (li := #[true, true, true, true, true, true, true, true, true, true, true, false, false, false, false, false, false, false, false, false, false, false, false, false, false, false, false]) rfl (by kernel_rfl) rfl rfl rfl rfl (fun _ => (q_neF rfl rfl (by omega))) (by kernel_rfl) ?_ | refine at_gp (i := 10) (li := #[true, true, true, true, true, true, true, true, true, true, true, false, false, false, false, false, false, false, false, false, false, false, false, false, false, false, false]) rfl (by kernel_rfl) rfl rfl rfl rfl (fun _ => (q_ne rfl rfl)) (by kernel_rfl) ?_
    first | refine at_q (i := 11) (li := #[true, true, true, true, true, true, true, true, true, true, true, true, false, false, false, false, false, false, false, false, false, false, false, false, false, false, false]) rfl (by kernel_rfl) rfl (fun _ => (q_pick_t rfl rfl)) (by kernel_rfl) ?_ | refine at_q (i := 11) (li := #[true, true, true, true, true, true, true, true, true, true, true, true, false, false, false, false, false, false, false, false, false, false, false, false, false, false, false]) rfl (by kernel_rfl) rfl (fun _ => (q_pick_f rfl rfl)) (by kernel_rfl) ?_ | refine at_q (i := 11) (li := #[true, true, true, true, true, true, true, true, true, true, true, true, false, false, false, false, false, false, false, false, false, false, false, false, false, false, false]) rfl (by kernel_rfl) rfl (fun _ => (q_pick rfl rfl rfl)) (by kernel_rfl) ?_
    refine at_q (i := 12) (li := #[true, true, true, true, true, true, true, true, true, true, true, true, true, false, false, false, false, false, false, false, false, false, false, false, false, false, false]) rfl (by kernel_rfl) rfl (fun _ => (q_move rfl)) (by kernel_rfl) ?_
    first | refine at_gskip (i := 13) (li := #[true, true, true, true, true, true, true, true, true, true, true, true, true, true, false, false, false, false, false, false, false, false, false, false, false, false, false]) rfl (by kernel_rfl) rfl rfl rfl rfl rfl (by kernel_rfl) ?_ | refine at_gskipU (i := 13) (li := #[true, true, true, true, true, true, true, true, true, true, true, true, true, true, false, false, false, false, false, false, false, false, false, false, false, false, false]) rfl (by kernel_rfl) rfl rfl rfl rfl (by kernel_rfl) ?_ | refine at_gq (i := 13) (li := #[true, true, true, true, true, true, true, true, true, true, true, true, true, true, false, false, false, false, false, false, false, false, false, false, false, false, false]) (cellsAre _ _ 2 _) rfl (by kernel_rfl) rfl rfl rfl rfl (fun _ h => q_loadc (n := 2) (by kernel_rfl) rfl h) (by first | exact Blk.cells ho1.1 rfl | exact Blk.cells ho2.1 rfl | exact Blk.cells ho3.1 rfl | assumption) (by kernel_rfl) ?_
    first | refine at_gskip (i := 14) (li := #[true, true, true, true, true, true, true, true, true, true, true, true, true, true, true, false, false, false, false, false, false, false, false, false, false, false, false]) rfl (by kernel_rfl) rfl rfl rfl rfl rfl (by kernel_rfl) ?_ | refine at_gskipU (i := 14) (li := #[true, true, true, true, true, true, true, true, true, true, true, true, true, true, true, false, false, false, false, false, false, false, false, false, false, false, false]) rfl (by kernel_rfl) rfl rfl rfl rfl (by kernel_rfl) ?_ | refine at_gq (i := 14) (li := #[true, true, true, true, true, true, true, true, true, true, true, true, true, true, true, false, false, false, false, false, false, false, false, false, false, false, false]) (cellsAre _ _ 2 _) rfl (by kernel_rfl) rfl rfl rfl rfl (fun _ h => q_loadc (n := 2) (by kernel_rfl) rfl h) (by first | exact Blk.cells ho1.1 rfl | exact Blk.cells ho2.1 rfl | exact Blk.cells ho3.1 rfl | assumption) (by kernel_rfl) ?_
    refine at_gh (i := 15) (li := #[true, true, true, true, true, true, true, true, true, true, true, true, true, true, true, true, false, false, false, false, false, false, false, false, false, false, false]) rfl (by kernel_rfl) rfl rfl rfl rfl rfl (by kernel_rfl) (h_call (by kernel_rfl) rfl ?_)
    refine (z_less_is (a := a) (b := a) hs32.sat (swoE.irrefl a)).mono ?_
    rintro _ w33 ⟨rfl, hs33⟩
    replace hg := hg.mono hs33.le
    replace ho1 := ho1.then hs33
    replace ho2 := ho2.then hs33
    replace ho3 := ho3.then hs33
    replace hT := hT.then hs33
    have hz33 := hs33.size
    refine ⟨(by repeat' first | exact trivial | exact Blk.cell ho1.1 rfl | exact Blk.cells ho1.1 rfl | exact Blk.cell ho2.1 rfl | exact Blk.cells ho2.1 rfl | exact Blk.cell ho3.1 rfl | exact Blk.cells ho3.1 rfl | assumption | refine all_keep ?_ | refine And.intro ?_ ?_), ?_⟩
    first | refine at_q (i := 16) (li := #[true, true, true, true, true, true, true, true, true, true, true, true, true, true, true, true, true, false, false, false, false, false, false, false, false, false, false]) rfl (by kernel_rfl) rfl (fun _ => (q_pick_t rfl rfl)) (by kernel_rfl) ?_ | refine at_q (i := 16) (li := #[true, true, true, true, true, true, true, true, true, true, true, true, true, true, true, true, true, false, false, false, false, false, false, false, false, false, false]) rfl (by kernel_rfl) rfl (fun _ => (q_pick_f rfl rfl)) (by kernel_rfl) ?_ | refine at_q (i := 16) (li := #[true, true, true, true, true, true, true, true, true, true, true, true, true, true, true, true, true, false, false, false, false, false, false, false, false, false, false]) rfl (by kernel_rfl) rfl (fun _ => (q_pick rfl rfl rfl)) (by kernel_rfl) ?_
    refine at_q (i := 17) (li := #[true, true, true, true, true, true, true, true, true, true, true, true, true, true, true, true, true, true, false, false, false, false, false, false, false, false, false]) rfl (by kernel_rfl) rfl (fun _ => (q_move rfl)) (by kernel_rfl) ?_
    first | refine at_gskip (i := 18) (li := #[true, true, true, true, true, true, true, true, true, true, true, true, true, true, true, true, true, true, true, false, false, false, false, false, false, false, false]) rfl (by kernel_rfl) rfl rfl rfl rfl rfl (by kernel_rfl) ?_ | refine at_gskipU (i := 18) (li := #[true, true, true, true, true, true, true, true, true, true, true, true, true, true, true, true, true, true, true, false, false, false, false, false, false, false, false]) rfl (by kernel_rfl) rfl rfl rfl rfl (by kernel_rfl) ?_ | refine at_gq (i := 18) (li := #[true, true, true, true, true, true, true, true, true, true, true, true, true, true, true, true, true, true, true, false, false, false, false, false, false, false, false]) (cellsAre _ _ 2 _) rfl (by kernel_rfl) rfl rfl rfl rfl (fun _ h => q_loadc (n := 2) (by kernel_rfl) rfl h) (by first | exact Blk.cells ho1.1 rfl | exact Blk.cells ho2.1 rfl | exact Blk.cells ho3.1 rfl | assumption) (by kernel_rfl) ?_
    first | refine at_gskip (i := 19) (li := #[true, true, true, true, true, true, true, true, true, true, true, true, true, true, true, true, true, true, true, true, false, false, false, false, false, false, false]) rfl (by kernel_rfl) rfl rfl rfl rfl rfl (by kernel_rfl) ?_ | refine at_gskipU (i := 19) (li := #[true, true, true, true, true, true, true, true, true, true, true, true, true, true, true, true, true, true, true, true, false, false, false, false, false, false, false]) rfl (by kernel_rfl) rfl rfl rfl rfl (by kernel_rfl) ?_ | refine at_gq (i := 19) (li := #[true, true, true, true, true, true, true, true, true, true, true, true, true, true, true, true, true, true, true, true, false, false, false, false, false, false, false]) (cellsAre _ _ 2 _) rfl (by kernel_rfl) rfl rfl rfl rfl (fun _ h => q_loadc (n := 2) (by kernel_rfl) rfl h) (by first | exact Blk.cells ho1.1 rfl | exact Blk.cells ho2.1 rfl | exact Blk.cells ho3.1 rfl | assumption) (by kernel_rfl) ?_
    first | refine at_gskip (i := 21) (li := #[true, true, true, true, true, true, true, true, true, true, true, true, true, true, true, true, true, true, true, true, false, true, false, false, false, false, false]) rfl (by kernel_rfl) rfl rfl rfl rfl rfl (by kernel_rfl) ?_ | refine at_gskipU (i := 21) (li := #[true, true, true, true, true, true, true, true, true, true, true, true, true, true, true, true, true, true, true, true, false, true, false, false, false, false, false]) rfl (by kernel_rfl) rfl rfl rfl rfl (by kernel_rfl) ?_ | refine at_gq (i := 21) (li := #[true, true, true, true, true, true, true, true, true, true, true, true, true, true, true, true, true, true, true, true, false, true, false, false, false, false, false]) (cellsAre _ _ 2 _) rfl (by kernel_rfl) rfl rfl rfl rfl (fun _ h => q_loadc (n := 2) (by kernel_rfl) rfl h) (by first | exact Blk.cells ho1.1 rfl | exact Blk.cells ho2.1 rfl | exact Blk.cells ho3.1 rfl | assumption) (by kernel_rfl) ?_
    first | refine at_gskip (i := 22) (li := #[true, true, true, true, true, true, true, true, true, true, true, true, true, true, true, true, true, true, true, true, false, true, true, false, false, false, false]) rfl (by kernel_rfl) rfl rfl rfl rfl rfl (by kernel_rfl) ?_ | refine at_gskipU (i := 22) (li := #[true, true, true, true, true, true, true, true, true, true, true, true, true, true, true, true, true, true, true, true, false, true, true, false, false, false, false]) rfl (by kernel_rfl) rfl rfl rfl rfl (by kernel_rfl) ?_ | refine at_gq (i := 22) (li := #[true, true, true, true, true, true, true, true, true, true, true, true, true, true, true, true, true, true, true, true, false, true, true, false, false, false, false]) (cellsAre _ _ 2 _) rfl (by kernel_rfl) rfl rfl rfl rfl (fun _ h => q_loadc (n := 2) (by kernel_rfl) rfl h) (by first | exact Blk.cells ho1.1 rfl | exact Blk.cells ho2.1 rfl | exact Blk.cells ho3.1 rfl | assumption) (by kernel_rfl) ?_
    refine at_gh (i := 20) (li := #[true, true, true, true, true, true, true, true, true, true, true, true, true, true, true, true, true, true, true, true, true, true, true, false, false, false, false]) rfl (by kernel_rfl) rfl rfl rfl rfl rfl (by kernel_rfl) (h_call (by kernel_rfl) rfl ?_)
    refine (z_less_is (a := a) (b := b) hs33.sat hab).mono ?_
    rintro _ w34 ⟨rfl, hs34⟩
    replace hg := hg.mono hs34.le
    replace ho1 := ho1.then hs34
    replace ho2 := ho2.then hs34
    replace ho3 := ho3.then hs34
    replace hT := hT.then hs34
    have hz34 := hs34.size
    refine ⟨(by repeat' first | exact trivial | exact Blk.cell ho1.1 rfl | exact Blk.cells ho1.1 rfl | exact Blk.cell ho2.1 rfl | exact Blk.cells ho2.1 rfl | exact Blk.cell ho3.1 rfl | exact Blk.cells ho3.1 rfl | assumption | refine all_keep ?_ | refine And.intro ?_ ?_), ?_⟩
    refine at_gh (i := 23) (li := #[true, true, true, true, true, true, true, true, true, true, true, true, true, true, true, true, true, true, true, true, true, true, true, true, false, false, false]) rfl (by kernel_rfl) rfl rfl rfl rfl rfl (by kernel_rfl) (h_call (by kernel_rfl) rfl ?_)
    refine (z_cmp_is (a := a) (b := b) hs34.sat hc1).mono ?_
    rintro _ w35 ⟨rfl, hs35⟩
    replace hg := hg.mono hs35.le
    replace ho1 := ho1.then hs35
    replace ho2 := ho2.then hs35
    replace ho3 := ho3.then hs35
    replace hT := hT.then hs35
    have hz35 := hs35.size
    refine ⟨(by repeat' first | exact trivial | exact Blk.cell ho1.1 rfl | exact Blk.cells ho1.1 rfl | exact Blk.cell ho2.1 rfl | exact Blk.cells ho2.1 rfl | exact Blk.cell ho3.1 rfl | exact Blk.cells ho3.1 rfl | assumption | refine all_keep ?_ | refine And.intro ?_ ?_), ?_⟩
    first | refine at_gskip (i := 24) (li := #[true, true, true, true, true, true, true, true, true, true, true, true, true, true, true, true, true, true, true, true, true, true, true, true, true, false, false]) rfl (by kernel_rfl) rfl rfl rfl rfl rfl (by kernel_rfl) ?_ | refine at_gskipU (i := 24) (li := #[true, true, true, true, true, true, true, true, true, true, true, true, true, true, true, true, true, true, true, true, true, true, true, true, true, false, false]) rfl (by kernel_rfl) rfl rfl rfl rfl (by kernel_rfl) ?_ | refine at_gp (i := 24) (li := #[true, true, true, true, true, true, true, true, true, true, true, true, true, true, true, true, true, true, true, true, true, true, true, true, true, false, false]) rfl (by kernel_rfl) rfl rfl rfl rfl (fun _ => (q_eqT rfl rfl (by omega))) (by kernel_rfl) ?_ | refine at_gp (i := 24) (li := #[true, true, true, true, true, true, true, true, true, true, true, true, true, true, true, true, true, true, true, true, true, true, true, true, true, false, false]) rfl (by kernel_rfl) rfl rfl rfl rfl (fun _ => (q_eqF rfl rfl (by omega))) (by kernel_rfl) ?_ | refine at_gp (i := 24) (li := #[true, true, true, true, true, true, true, true, true, true, true, true, true, true, true, true, true, true, true, true, true, true, true, true, true, false, false]) rfl (by kernel_rfl) rfl rfl rfl rfl (fun _ => (q_eq rfl rfl)) (by kernel_rfl) ?_
    first | refine at_gskip (i := 25) (li := #[true, true, true, true, true, true, true, true, true, true, true, true, true, true, true, true, true, true, true, true, true, true, true, true, true, true, false]) rfl (by kernel_rfl) rfl rfl rfl rfl rfl (by kernel_rfl) ?_ | refine at_gskipU (i := 25) (li := #[true, true, true, true, true, true, true, true, true, true, true, true, true, true, true, true, true, true, true, true, true, true, true, true, true, true, false]) rfl (by kernel_rfl) rfl rfl rfl rfl (by kernel_rfl) ?_ | refine at_gp (i := 25) (li := #[true, true, true, true, true, true, true, true, true, true, true, true, true, true, true, true, true, true, true, true, true, true, true, true, true, true, false]) rfl (by kernel_rfl) rfl rfl rfl rfl (fun _ => (q_congr (q_neb (by kernel_rfl) rfl rfl) (v' := .bool false) rfl)) (by kernel_rfl) ?_
    first | refine at_q (i := 26) (li := #[true, true, true, true, true, true, true, true, true, true, true, true, true, true, true, true, true, true, true, true, true, true, true, true, true, true, true]) rfl (by kernel_rfl) rfl (fun _ => (q_pick_t rfl rfl)) (by kernel_rfl) ?_ | refine at_q (i := 26) (li := #[true, true, true, true, true, true, true, true, true, true, true, true, true, true, true, true, true, true, true, true, true, true, true, true, true, true, true]) rfl (by kernel_rfl) rfl (fun _ => (q_pick_f rfl rfl)) (by kernel_rfl) ?_ | refine at_q (i := 26) (li := #[true, true, true, true, true, true, true, true, true, true, true, true, true, true, true, true, true, true, true, true, true, true, true, true, true, true, true]) rfl (by kernel_rfl) rfl (fun _ => (q_pick rfl rfl rfl)) (by kernel_rfl) ?_
    refine at_done (by kernel_rfl) (hK38 _ _ ?_)
    clear hK38 K38
    refine cw_false rfl ?_
    refine cw_skip ?_
    refine hK37 _ _ ?_
    clear hK37 K37
    cases hbc : ltE b c
    · skip
      refine cw_rs fun K39 hK39 => ?_
      -- region 13
      refine as_q rfl rfl (q_loadc (n := 2) (by kernel_rfl) rfl (by first | exact Blk.cells ho1.1 rfl | exact Blk.cells ho2.1 rfl | exact Blk.cells ho3.1 rfl | assumption)) ?_
      refine as_q rfl rfl (q_loadc (n := 2) (by kernel_rfl) rfl (by first | exact Blk.cells ho1.1 rfl | exact Blk.cells ho2.1 rfl | exact Blk.cells ho3.1 rfl | assumption)) ?_
      refine as_h rfl (h_call (by kernel_rfl) rfl ?_)
      refine (z_less_is (a := a) (b := b) hs35.sat hab).mono ?_
      rintro _ w36 ⟨rfl, hs36⟩
      replace hg := hg.mono hs36.le
      replace ho1 := ho1.then hs36
      replace ho2 := ho2.then hs36
      replace ho3 := ho3.then hs36
      replace hT := hT.then hs36
      have hz36 := hs36.size
      refine as_q rfl rfl (q_not rfl) ?_
      refine as_q rfl rfl (q_move rfl) ?_
      first | refine as_gskip rfl rfl rfl rfl rfl ?_ | refine as_gskipU rfl rfl rfl rfl ?_ | refine as_gh rfl rfl rfl rfl (h_q rfl (q_loadc (n := 2) (by kernel_rfl) rfl (by first | exact Blk.cells ho1.1 rfl | exact Blk.cells ho2.1 rfl | exact Blk.cells ho3.1 rfl | assumption)) ?_)
      first | refine as_gskip rfl rfl rfl rfl rfl ?_ | refine as_gskipU rfl rfl rfl rfl ?_ | refine as_gh rfl rfl rfl rfl (h_q rfl (q_loadc (n := 2) (by kernel_rfl) rfl (by first | exact Blk.cells ho1.1 rfl | exact Blk.cells ho2.1 rfl | exact Blk.cells ho3.1 rfl | assumption)) ?_)
      first | refine as_gskip rfl rfl rfl rfl rfl ?_ | refine as_gskipU rfl rfl rfl rfl ?_
      first | refine as_gskip rfl rfl rfl rfl rfl ?_ | refine as_gskipU rfl rfl rfl rfl ?_ | refine as_gh rfl rfl rfl rfl (h_q rfl (q_not rfl) ?_)
      first | refine as_q rfl rfl (q_pick_t rfl rfl) ?_ | refine as_q rfl rfl (q_pick_f rfl rfl) ?_ | refine as_q rfl rfl (q_pick rfl rfl rfl) ?_
      refine as_q rfl rfl (q_move rfl) ?_
      first | refine as_gskip rfl rfl rfl rfl rfl ?_ | refine as_gskipU rfl rfl rfl rfl ?_ | refine as_gh rfl rfl rfl rfl (h_q rfl (q_loadc (n := 2) (by kernel_rfl) rfl (by first | exact Blk.cells ho1.1 rfl | exact Blk.cells ho2.1 rfl | exact Blk.cells ho3.1 rfl | assumption)) ?_)
      first | refine as_gskip rfl rfl rfl rfl rfl ?_ | refine as_gskipU rfl rfl rfl rfl ?_ | refine as_gh rfl rfl rfl rfl (h_q rfl (q_loadc (n := 2) (by kernel_rfl) rfl (by first | exact Blk.cells ho1.1 rfl | exact Blk.cells ho2.1 rfl | exact Blk.cells ho3.1 rfl | assumption)) ?_)
      first | refine as_gskip rfl rfl rfl rfl rfl ?_ | refine as_gskipU rfl rfl rfl rfl ?_
      first | refine as_q rfl rfl (q_pick_t rfl rfl) ?_ | refine as_q rfl rfl (q_pick_f rfl rfl) ?_ | refine as_q rfl rfl (q_pick rfl rfl rfl) ?_
      refine as_q rfl rfl (q_assign rfl) ?_
      refine as_nil (hK39 _ _ ?_)
      clear hK39 K39
      refine cw_ret ?_
      exact ⟨_, (res_tmp rfl res_nil), rfl, hT⟩
    · skip
      refine cw_rs fun K40 hK40 => ?_
      -- region 13
      refine as_q rfl rfl (q_loadc (n := 2) (by kernel_rfl) rfl (by first | exact Blk.cells ho1.1 rfl | exact Blk.cells ho2.1 rfl | exact Blk.cells ho3.1 rfl | assumption)) ?_
      refine as_q rfl rfl (q_loadc (n := 2) (by kernel_rfl) rfl (by first | exact Blk.cells ho1.1 rfl | exact Blk.cells ho2.1 rfl | exact Blk.cells ho3.1 rfl | assumption)) ?_
      refine as_h rfl (h_call (by kernel_rfl) rfl ?_)
      refine (z_less_is (a := a) (b := b) hs35.sat hab).mono ?_
      rintro _ w37 ⟨rfl, hs37⟩
      replace hg := hg.mono hs37.le
      replace ho1 := ho1.then hs37
      replace ho2 := ho2.then hs37
      replace ho3 := ho3.then hs37
      replace hT := hT.then hs37
      have hz37 := hs37.size
      refine as_q rfl rfl (q_not rfl) ?_
      refine as_q rfl rfl (q_move rfl) ?_
      first | refine as_gskip rfl rfl rfl rfl rfl ?_ | refine as_gskipU rfl rfl rfl rfl ?_ | refine as_gh rfl rfl rfl rfl (h_q rfl (q_loadc (n := 2) (by kernel_rfl) rfl (by first | exact Blk.cells ho1.1 rfl | exact Blk.cells ho2.1 rfl | exact Blk.cells ho3.1 rfl | assumption)) ?_)
      first | refine as_gskip rfl rfl rfl rfl rfl ?_ | refine as_gskipU rfl rfl rfl rfl ?_ | refine as_gh rfl rfl rfl rfl (h_q rfl (q_loadc (n := 2) (by kernel_rfl) rfl (by first | exact Blk.cells ho1.1 rfl | exact Blk.cells ho2.1 rfl | exact Blk.cells ho3.1 rfl | assumption)) ?_)
      first | refine as_gskip rfl rfl rfl rfl rfl ?_ | refine as_gskipU rfl rfl rfl rfl ?_
      first | refine as_gskip rfl rfl rfl rfl rfl ?_ | refine as_gskipU rfl rfl rfl rfl ?_ | refine as_gh rfl rfl rfl rfl (h_q rfl (q_not rfl) ?_)
      first | refine as_q rfl rfl (q_pick_t rfl rfl) ?_ | refine as_q rfl rfl (q_pick_f rfl rfl) ?_ | refine as_q rfl rfl (q_pick rfl rfl rfl) ?_
      refine as_q rfl rfl (q_move rfl) ?_
      first | refine as_gskip rfl rfl rfl rfl rfl ?_ | refine as_gskipU rfl rfl rfl rfl ?_ | refine as_gh rfl rfl rfl rfl (h_q rfl (q_loadc (n := 2) (by kernel_rfl) rfl (by first | exact Blk.cells ho1.1 rfl | exact Blk.cells ho2.1 rfl | exact Blk.cells ho3.1 rfl | assumption)) ?_)
      first | refine as_gskip rfl rfl rfl rfl rfl ?_ | refine as_gskipU rfl rfl rfl rfl ?_ | refine as_gh rfl rfl rfl rfl (h_q rfl (q_loadc (n := 2) (by kernel_rfl) rfl (by first | exact Blk.cells ho1.1 rfl | exact Blk.cells ho2.1 rfl | exact Blk.cells ho3.1 rfl | assumption)) ?_)
      first | refine as_gskip rfl rfl rfl rfl rfl ?_ | refine as_gskipU rfl rfl rfl rfl ?_
      first | refine as_q rfl rfl (q_pick_t rfl rfl) ?_ | refine as_q rfl rfl (q_pick_f rfl rfl) ?_ | refine as_q rfl rfl (q_pick rfl rfl rfl) ?_
      refine as_q rfl rfl (q_assign rfl) ?_
      refine as_nil (hK40 _ _ ?_)
      clear hK40 K40
      refine cw_ret ?_
      exact ⟨_, (res_tmp rfl res_nil), rfl, hT⟩

end Go.Proofs.YtbfjkclijjhlhaaDoor
