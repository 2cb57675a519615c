/- Steps of the proof that the law of this claim answers true, part 7. No conditions. -/
import Derived.Test.YtgcgjpfjjgalmaaGreatRows
import Derived.KernelRfl
import Derived.Test.YtgcgjpfjjgalmaaGreatCDrainKindsF
/- The document s example of layer 16, part 1. -/
namespace Go.Proofs.YtgcgjpfjjgalmaaGreat
open Go Go.Eng
theorem of_three {w : World} {M : Mem} {b : Nat} (hs : Sat M w) (ho : Own w M b [.int .i64 2, .int .i64 0, .int .i64 1, .int .i64 0, .int .i64 2, .int .i64 0] 24) :
    Does Tryz.prog 11 #[.pointer none, .int .i64 4, .slice (some ⟨b, 0, none⟩) 3 3] w (fun r w' => ∃ v' M', r = .tuple #[.agg #[v'], .int .i64 0] ∧ Step Nope M w M' w' ∧ HVal M' 4 [((1, 0) : El), (2, 0), (2, 0)] v') := by
  have hb : Buf w M 24 2 (.slice (some ⟨b, 0, none⟩) 3 3) 3 (els [((2, 0) : El), (1, 0), (2, 0)]) := Own.buf ho (n := 3) rfl (by decide)
  refine (hp_of (z := 4) hs hb.rds (by decide)).mono ?_
  rintro r w' ⟨v, M', h1, h2, h3⟩
  refine ⟨v, M', by rw [h1, emE, if_pos (by decide)], h2, ?_⟩
  rw [emK, if_pos (by decide), ofL, if_pos (by decide), show srtE [((2, 0) : El), (1, 0), (2, 0)] = [((1, 0) : El), (2, 0), (2, 0)] by decide] at h3
  exact h3
set_option maxRecDepth 4000 in
theorem awake16 {w : World} {M : Mem} (hs : Sat M w) :
    Does Tryz.prog 10 #[] w (fun v w' => v = .bool true ∧ Step Nope M w M w') := by
  have hT := Step.refl Nope hs
  refine fn_enter Tryz.func10 rfl (rs := [.tmp 0]) rfl rfl rfl rfl ?_
  refine cw_rs fun _ κ => ?_
  refine Sa rfl rfl ?_
  refine as_nil (κ _ _ ?_)
  refine cw_rs fun _ κ => ?_
  refine as_q rfl rfl (q_build (zs := [(.int .i64 0), (.int .i64 0)]) (places := [(0, 1), (1, 1)]) (cs := [_, _]) (by kernel_rfl) (by kernel_rfl) rfl rfl) ?_
  refine as_q rfl rfl (q_build (zs := [(.int .i64 0), (.int .i64 0)]) (places := [(0, 1), (1, 1)]) (cs := [_, _]) (by kernel_rfl) (by kernel_rfl) rfl rfl) ?_
  refine as_q rfl rfl (q_build (zs := [(.int .i64 0), (.int .i64 0)]) (places := [(0, 1), (1, 1)]) (cs := [_, _]) (by kernel_rfl) (by kernel_rfl) rfl rfl) ?_
  refine as_h rfl (h_buildO (e := 24) (size := 2) (zs := [.int .i64 0, .int .i64 0, .int .i64 0, .int .i64 0, .int .i64 0, .int .i64 0]) (cs := [_, _, _, _, _, _]) (by kernel_rfl) (by kernel_rfl) (by kernel_rfl) rfl hs rfl rfl fun bp w1 hs1 hop ep => ?_)
  replace hT := hT.then hs1
  have hz1 := hs1.size
  refine as_h rfl (h_call (by kernel_rfl) rfl ?_)
  refine (of_three hs1.sat hop).mono ?_
  rintro _ w2 ⟨vx, Mx, rfl, hs2, hx⟩
  replace hT := hT.then hs2
  have hz2 := hs2.size
  obtain ⟨dx, ux, rfl⟩ := hx.iface (by decide)
  refine Sm rfl rfl ?_
  refine Se rfl rfl rfl ?_
  refine Se rfl rfl rfl ?_
  have hqax := hT.size
  refine as_h rfl (h_allocO (z := (.agg #[.nilIface])) hs2.sat (by kernel_rfl) rfl fun bx w3 hs3 hox ex => ?_)
  replace hx := hx.mono hs3.le
  replace hT := hT.then hs3
  have hz3 := hs3.size
  have hlx := hox.1.lt
  refine as_h0 (h_store hs3.sat hox rfl rfl rfl (by kernel_rfl) rfl rfl rfl fun w4 hs4 hn4 => ?_)
  replace hx := hx.mono hs4.le
  clear hox; have hox := hn4; clear hn4
  replace hT := hT.own hs4 (by omega)
  have hz4 := hs4.size
  refine Sa rfl rfl ?_
  refine as_nil (κ _ _ ?_)
  refine cw_rs fun _ κ => ?_
  refine Sc 1 rfl (by kernel_rfl) rfl (by exact Blk.cells hox.1 rfl) ?_
  refine as_h rfl (h_call (by kernel_rfl) rfl ?_)
  refine (dr_sorted hs4.sat hx (by decide)).mono ?_
  rintro vS w5 ⟨MS, hs5, hbS, hfS⟩
  replace hx := hx.mono hs5.le
  replace hox := hox.then hs5
  replace hT := hT.then hs5
  have hz5 := hs5.size
  replace hbS : Buf w5 MS 24 2 vS 3 (els [((1, 0) : El), (2, 0), (2, 0)]) := hbS
  obtain ⟨raS, rcS, rfl, _, _⟩ := hbS.slice
  have hlhbS := hbS.lt
  refine Sa rfl rfl ?_
  refine as_nil (κ _ _ ?_)
  refine cw_rs fun _ κ => ?_
  refine Sc 1 rfl (by kernel_rfl) rfl (by exact Blk.cells hox.1 rfl) ?_
  refine as_h rfl (h_call (by kernel_rfl) rfl ?_)
  refine (dr_top_2 hs5.sat hx (z := 2) (by decide) (by decide) (by decide) (by decide)).mono ?_
  rintro _ w6 ⟨vt, Mt, rfl, hs6, hbt, hft⟩
  replace hx := hx.mono hs6.le
  replace hox := hox.then hs6
  replace hbS := hbS.then hs6
  replace hT := hT.then hs6
  have hz6 := hs6.size
  replace hbt : Buf w6 Mt 24 2 vt 2 (els [((1, 0) : El), (2, 0)]) := hbt
  obtain ⟨rat, rct, rfl, _, _⟩ := hbt.slice
  have hlhbt := hbt.lt
  refine Sm rfl rfl ?_
  refine Se rfl rfl rfl ?_
  refine Se rfl rfl rfl ?_
  refine Sa rfl rfl ?_
  refine Sa rfl rfl ?_
  refine as_nil (κ _ _ ?_)
  refine cw_rs fun _ κ => ?_
  refine Sc 1 rfl (by kernel_rfl) rfl (by exact Blk.cells hox.1 rfl) ?_
  refine as_h rfl (h_call (by kernel_rfl) rfl ?_)
  refine (dr_top_1 hs6.sat hx (z := -1) (by decide) (by decide)).mono ?_
  rintro _ w7 ⟨vu, Mu, rfl, hs7, hbu, hfu⟩
  replace hx := hx.mono hs7.le
  replace hox := hox.then hs7
  replace hbS := hbS.then hs7
  replace hT := hT.then hs7
  have hz7 := hs7.size
  obtain ⟨rau, rcu, rfl, _, _⟩ := hbu.slice
  have hlhbu := hbu.lt
  refine Sm rfl rfl ?_
  refine Se rfl rfl rfl ?_
  refine Se rfl rfl rfl ?_
  refine Sa rfl rfl ?_
  refine Sa rfl rfl ?_
  refine as_nil (κ _ _ ?_)
  refine cw_rs fun _ κ => ?_
  refine as_q rfl rfl (q_build (zs := [.nilIface]) (places := [(0, 1)]) (cs := [_]) (by kernel_rfl) (by kernel_rfl) rfl rfl) ?_
  refine as_h rfl (h_call (by kernel_rfl) rfl ?_)
  refine (dr_top_0 hs7.sat HVal.z (z := 1)).mono ?_
  rintro _ w8 ⟨vn, Mn, rfl, hs8, hbn, hfn⟩
  replace hx := hx.mono hs8.le
  replace hox := hox.then hs8
  replace hbS := hbS.then hs8
  replace hT := hT.then hs8
  have hz8 := hs8.size
  obtain ⟨ran, rcn, rfl, _, _⟩ := hbn.slice
  have hlhbn := hbn.lt
  refine Sm rfl rfl ?_
  refine Se rfl rfl rfl ?_
  refine Se rfl rfl rfl ?_
  refine Sa rfl rfl ?_
  refine Sa rfl rfl ?_
  refine as_nil (κ _ _ ?_)
  refine cw_rs fun _ κ => ?_
  refine Sc 1 rfl (by kernel_rfl) rfl (by exact Blk.cells hox.1 rfl) ?_
  refine as_h rfl (h_call (by kernel_rfl) rfl ?_)
  have hqp := hT.size
  refine (dr_of hs8.sat hx).mono ?_
  rintro _ w9 ⟨q, M, rfl, hs9, hoq, hqw⟩
  replace hx := hx.mono hs9.le
  replace hox := hox.then hs9
  replace hbS := hbS.then hs9
  replace hT := hT.then hs9
  have hz9 := hs9.size
  have hql := hoq.1.lt
  refine Sa rfl rfl ?_
  refine as_nil (κ _ _ ?_)
  refine cw_rs fun _ κ => ?_
  refine Sm rfl rfl ?_
  refine as_h rfl (h_call (by kernel_rfl) rfl ?_)
  refine (dr_done_0 hs9.sat hoq).mono ?_
  rintro _ w10 ⟨rfl, hs10⟩
  replace hx := hx.mono hs10.le
  replace hox := hox.then hs10
  replace hbS := hbS.then hs10
  replace hoq := hoq.then hs10
  replace hT := hT.then hs10
  have hz10 := hs10.size
  refine Sa rfl rfl ?_
  refine as_nil (κ _ _ ?_)
  refine cw_rs fun _ κ => ?_
  refine Sm rfl rfl ?_
  refine as_h rfl (h_call (by kernel_rfl) rfl ?_)
  have hzbf := hT.size
  refine (dr_all_first hs10.sat (by decide) hoq hx).mono ?_
  rintro vf w11 ⟨svf, Mf, hs11, hqf, hb2f, _, hbf, hff, hdf, hfrf⟩
  replace hx := hx.mono hs11.le
  replace hox := hox.step hs11 (fun h => by have h : _ = q := h; omega)
  replace hbS := hbS.step hs11 (fun g hg h => by have h : g = q := h; first | (have := hlhbS g hg; omega) | (have := hfS g hg; omega))
  replace hT := hT.trans hs11 (fun b hb h => by have h : b = q := h; omega)
  have hz11 := hs11.size
  clear hoq; have hoq := hqf; clear hqf
  have hbs := hb2f; clear hb2f
  replace hbf : Buf w11 Mf 24 2 vf 3 (els [((1, 0) : El), (2, 0), (2, 0)]) := hbf
  obtain ⟨raf, rcf, rfl, _, _⟩ := hbf.slice
  have hlhbf := hbf.lt
  have hlhbs := hbs.lt
  refine Sa rfl rfl ?_
  refine as_nil (κ _ _ ?_)
  refine cw_rs fun _ κ => ?_
  refine Sm rfl rfl ?_
  refine as_h rfl (h_call (by kernel_rfl) rfl ?_)
  have hzbg := hT.size
  refine (dr_all_again hs11.sat (by decide) hoq hx hbs).mono ?_
  rintro vg w12 ⟨svg, Mg, hs12, hqg, hb2g, _, hbg, hfg, hdg, hfrg⟩
  replace hx := hx.mono hs12.le
  replace hox := hox.step hs12 (fun h => by have h : _ = q := h; omega)
  replace hbS := hbS.step hs12 (fun g hg h => by have h : g = q := h; first | (have := hlhbS g hg; omega) | (have := hfS g hg; omega))
  replace hT := hT.trans hs12 (fun b hb h => by have h : b = q := h; omega)
  have hz12 := hs12.size
  clear hoq; have hoq := hqg; clear hqg
  clear hbs hlhbs
  have hbs := hb2g; clear hb2g
  replace hbg : Buf w12 Mg 24 2 vg 3 (els [((1, 0) : El), (2, 0), (2, 0)]) := hbg
  obtain ⟨rag, rcg, rfl, _, _⟩ := hbg.slice
  have hlhbg := hbg.lt
  have hlhbs := hbs.lt
  refine Sa rfl rfl ?_
  refine as_nil (κ _ _ ?_)
  refine cw_rs fun _ κ => ?_
  obtain ⟨gs, rfl, hbs⟩ : ∃ g, raS = some ⟨g, 0, none⟩ ∧ ElRow 24 w12 Mg g 3 rcS #[(1, 0), (2, 0), (2, 0)] := by
    rcases hbS.cases with ⟨h, _⟩ | ⟨g, c, h, h2⟩
    · cases h
    · cases h
      exact ⟨_, rfl, h2⟩
  refine Sm rfl rfl ?_
  refine as_q rfl rfl (q_eqT rfl rfl (by omega)) ?_
  refine Sm rfl rfl ?_
  refine as_gh rfl rfl rfl rfl (h_q rfl (q_move rfl) ?_)
  refine as_gh rfl rfl rfl rfl (h_q rfl (q_len (by kernel_rfl) rfl _) ?_)
  refine as_gh rfl rfl rfl rfl (h_q rfl (q_eqT rfl rfl (by omega)) ?_)
  refine as_q rfl rfl (q_pick_t rfl rfl) ?_
  refine Sm rfl rfl ?_
  refine as_gh rfl rfl rfl rfl (h_q rfl (q_move rfl) ?_)
  refine as_gh rfl rfl rfl rfl (h_q rfl (q_indexAddr (e := 24) (size := 2) (by kernel_rfl) (by kernel_rfl) rfl rfl (by omega) (by omega)) ?_)
  refine as_gh rfl rfl rfl rfl (h_q rfl (q_fieldAddr (off := 0) (by kernel_rfl) rfl) ?_)
  refine as_gh rfl rfl rfl rfl (h_q rfl (q_load1 (by kernel_rfl) rfl (show _ = some (Value.int .i64 1) from ElRow.fst (d := #[(1, 0), (2, 0), (2, 0)]) hbs (i := 0) (by decide))) ?_)
  refine as_gh rfl rfl rfl rfl (h_q rfl (q_eqT rfl rfl (by omega)) ?_)
  refine as_q rfl rfl (q_pick_t rfl rfl) ?_
  refine Sm rfl rfl ?_
  refine as_gh rfl rfl rfl rfl (h_q rfl (q_move rfl) ?_)
  refine as_gh rfl rfl rfl rfl (h_q rfl (q_indexAddr (e := 24) (size := 2) (by kernel_rfl) (by kernel_rfl) rfl rfl (by omega) (by omega)) ?_)
  refine as_gh rfl rfl rfl rfl (h_q rfl (q_fieldAddr (off := 0) (by kernel_rfl) rfl) ?_)
  refine as_gh rfl rfl rfl rfl (h_q rfl (q_load1 (by kernel_rfl) rfl (show _ = some (Value.int .i64 2) from ElRow.fst (d := #[(1, 0), (2, 0), (2, 0)]) hbs (i := 2) (by decide))) ?_)
  refine as_gh rfl rfl rfl rfl (h_q rfl (q_eqT rfl rfl (by omega)) ?_)
  refine as_q rfl rfl (q_pick_t rfl rfl) ?_
  refine Sm rfl rfl ?_
  refine as_gh rfl rfl rfl rfl (h_q rfl (q_move rfl) ?_)
  refine as_gh rfl rfl rfl rfl (h_q rfl (q_eqT rfl rfl (by omega)) ?_)
  refine as_q rfl rfl (q_pick_t rfl rfl) ?_
  refine Sm rfl rfl ?_
  refine as_gh rfl rfl rfl rfl (h_q rfl (q_move rfl) ?_)
  refine as_gh rfl rfl rfl rfl (h_q rfl (q_len (by kernel_rfl) rfl _) ?_)
  refine as_gh rfl rfl rfl rfl (h_q rfl (q_eqT rfl rfl (by omega)) ?_)
  refine as_q rfl rfl (q_pick_t rfl rfl) ?_
  refine Sm rfl rfl ?_
  refine as_gh rfl rfl rfl rfl (h_q rfl (q_move rfl) ?_)
  refine as_gh rfl rfl rfl rfl (h_q rfl (q_eqT rfl rfl (by omega)) ?_)
  refine as_q rfl rfl (q_pick_t rfl rfl) ?_
  refine Sm rfl rfl ?_
  refine as_gh rfl rfl rfl rfl (h_q rfl (q_move rfl) ?_)
  refine as_gh rfl rfl rfl rfl (h_q rfl (q_eqT rfl rfl (by omega)) ?_)
  refine as_q rfl rfl (q_pick_t rfl rfl) ?_
  refine Sm rfl rfl ?_
  refine as_gh rfl rfl rfl rfl (h_q rfl (q_loadc (n := 1) (by kernel_rfl) rfl (by exact Blk.cells hox.1 rfl)) ?_)
  refine as_gh rfl rfl rfl rfl (h_q rfl (q_build (zs := [(.int .i64 0), (.int .i64 0)]) (places := [(0, 1), (1, 1)]) (cs := [_, _]) (by kernel_rfl) (by kernel_rfl) rfl rfl) ?_)
  refine as_gh rfl rfl rfl rfl (h_call (by kernel_rfl) rfl ?_)
  refine (dr_count (x := (2, 0)) hs12.sat hx (by decide)).mono ?_
  rintro _ w13 ⟨hv13, hs13⟩
  rw [show (([((1, 0) : El), (2, 0), (2, 0)].countP fun y => decide (y = (2, 0)) : Nat) : Int) = 2 by decide] at hv13
  subst hv13
  replace hx := hx.mono hs13.le
  replace hox := hox.then hs13
  replace hoq := hoq.then hs13
  replace hT := hT.then hs13
  have hz13 := hs13.size
  refine as_gh rfl rfl rfl rfl (h_q rfl (q_eqT rfl rfl (by omega)) ?_)
  refine as_q rfl rfl (q_pick_t rfl rfl) ?_
  refine Sm rfl rfl ?_
  refine as_gh rfl rfl rfl rfl (h_q rfl (q_loadc (n := 1) (by kernel_rfl) rfl (by exact Blk.cells hox.1 rfl)) ?_)
  refine as_gh rfl rfl rfl rfl (h_q rfl (q_loadc (n := 1) (by kernel_rfl) rfl (by exact Blk.cells hox.1 rfl)) ?_)
  refine as_gh rfl rfl rfl rfl (h_call (by kernel_rfl) rfl ?_)
  refine (dr_same hs13.sat hx hx (by decide) (by decide)).mono ?_
  rintro _ w14 ⟨hv14, hs14⟩
  rw [decide_eq_true rfl] at hv14
  subst hv14
  replace hoq := hoq.then hs14
  replace hT := hT.then hs14
  have hz14 := hs14.size
  refine as_q rfl rfl (q_pick_t rfl rfl) ?_
  refine Sm rfl rfl ?_
  refine as_gh rfl rfl rfl rfl (h_q rfl (q_move rfl) ?_)
  refine as_gh rfl rfl rfl rfl (h_q rfl (q_eqT rfl rfl (by omega)) ?_)
  refine as_q rfl rfl (q_pick_t rfl rfl) ?_
  refine Sm rfl rfl ?_
  refine as_gh rfl rfl rfl rfl (h_q rfl (q_move rfl) ?_)
  refine as_gh rfl rfl rfl rfl (h_call (by kernel_rfl) rfl ?_)
  refine (dr_done_1 hs14.sat hoq).mono ?_
  rintro _ w15 ⟨rfl, hs15⟩
  replace hT := hT.then hs15
  have hz15 := hs15.size
  refine as_gh rfl rfl rfl rfl (h_q rfl (q_eqT rfl rfl (by omega)) ?_)
  refine as_q rfl rfl (q_pick_t rfl rfl) ?_
  refine Sm rfl rfl ?_
  refine as_gh rfl rfl rfl rfl (h_q rfl (q_move rfl) ?_)
  refine as_gh rfl rfl rfl rfl (h_q rfl (q_len (by kernel_rfl) rfl _) ?_)
  refine as_gh rfl rfl rfl rfl (h_q rfl (q_eqT rfl rfl (by omega)) ?_)
  refine as_q rfl rfl (q_pick_t rfl rfl) ?_
  refine Sm rfl rfl ?_
  refine as_gh rfl rfl rfl rfl (h_q rfl (q_move rfl) ?_)
  refine as_gh rfl rfl rfl rfl (h_q rfl (q_len (by kernel_rfl) rfl _) ?_)
  refine as_gh rfl rfl rfl rfl (h_q rfl (q_eqT rfl rfl (by omega)) ?_)
  refine as_q rfl rfl (q_pick_t rfl rfl) ?_
  refine Sa rfl rfl ?_
  refine as_nil (κ _ _ ?_)
  refine cw_ret ?_
  exact ⟨_, (res_tmp rfl res_nil), rfl, hT.forget⟩
end Go.Proofs.YtgcgjpfjjgalmaaGreat
/- Heaps of two kinds are drained alike, part 1. -/
namespace Go.Proofs.YtgcgjpfjjgalmaaGreat
open Go Go.Eng
set_option maxRecDepth 4000 in
theorem drainKinds_b {w : World} {M : Mem} {z y u : Int} {sa : Option Addr} {n ca : Nat} (hs : Sat M w) (hz : 40 < n ∨ z < 1 ∨ 6 < z ∨ y < 1 ∨ 6 < y) :
    Does Tryz.prog 5 #[.int .i64 z, .int .i64 y, .slice sa n ca, .int .u8 u] w (fun v w' => v = .bool true ∧ Step Nope M w M w') := by
  have hT := Step.refl Nope hs
  refine fn_enter Tryz.func5 rfl (rs := [.tmp 8]) rfl rfl rfl rfl ?_
  refine cw_rs fun _ κ => ?_
  refine Sa rfl rfl ?_
  refine as_nil (κ _ _ ?_)
  refine cw_rs fun _ κ => ?_
  refine as_h rfl (h_call (by kernel_rfl) rfl ?_)
  refine (awake16 hs).mono ?_
  rintro _ w1 ⟨rfl, hs1⟩
  replace hT := hT.then hs1
  refine Sa rfl rfl ?_
  refine as_nil (κ _ _ ?_)
  refine cw_seq fun _ hK3 => ?_
  refine cw_rs fun _ κ => ?_
  refine Sm rfl rfl ?_
  refine as_q rfl rfl (q_not rfl) ?_
  refine as_nil (κ _ _ ?_)
  refine cw_false rfl ?_
  refine cw_skip ?_
  refine hK3 _ _ ?_
  refine cw_seq fun _ hK5 => ?_
  rcases (show (40 < n) ∨ (¬ (40 < n) ∧ z < 1) ∨ (¬ (40 < n) ∧ ¬ (z < 1) ∧ 6 < z) ∨ (¬ (40 < n) ∧ ¬ (z < 1) ∧ ¬ (6 < z) ∧ y < 1) ∨ (¬ (40 < n) ∧ ¬ (z < 1) ∧ ¬ (6 < z) ∧ ¬ (y < 1) ∧ 6 < y) by omega) with h0 | ⟨h0, h1⟩ | ⟨h0, h1, h2⟩ | ⟨h0, h1, h2, h3⟩ | ⟨h0, h1, h2, h3, h4⟩
  · skip
    refine cw_rs fun _ κ => ?_
    refine Sm rfl rfl ?_
    refine as_q rfl rfl (q_len (by kernel_rfl) rfl _) ?_
    refine as_q rfl rfl (q_gtT rfl rfl (by omega)) ?_
    refine Sm rfl rfl ?_
    refine as_gskip rfl rfl rfl rfl rfl ?_
    refine as_gskip rfl rfl rfl rfl rfl ?_
    refine as_q rfl rfl (q_pick_t rfl rfl) ?_
    refine Sm rfl rfl ?_
    refine as_gskip rfl rfl rfl rfl rfl ?_
    refine as_gskip rfl rfl rfl rfl rfl ?_
    refine as_q rfl rfl (q_pick_t rfl rfl) ?_
    refine Sm rfl rfl ?_
    refine as_gskip rfl rfl rfl rfl rfl ?_
    refine as_gskip rfl rfl rfl rfl rfl ?_
    refine as_q rfl rfl (q_pick_t rfl rfl) ?_
    refine Sm rfl rfl ?_
    refine as_gskip rfl rfl rfl rfl rfl ?_
    refine as_gskip rfl rfl rfl rfl rfl ?_
    refine as_q rfl rfl (q_pick_t rfl rfl) ?_
    refine as_nil (κ _ _ ?_)
    refine cw_true rfl ?_
    refine cw_rs fun _ κ => ?_
    refine Sa rfl rfl ?_
    refine as_nil (κ _ _ ?_)
    refine cw_ret ?_
    exact ⟨_, (res_tmp rfl res_nil), rfl, hT.forget⟩
  · skip
    refine cw_rs fun _ κ => ?_
    refine Sm rfl rfl ?_
    refine as_q rfl rfl (q_len (by kernel_rfl) rfl _) ?_
    refine as_q rfl rfl (q_gtF rfl rfl (by omega)) ?_
    refine Sm rfl rfl ?_
    refine as_gh rfl rfl rfl rfl (h_q rfl (q_move rfl) ?_)
    refine as_gh rfl rfl rfl rfl (h_q rfl (q_ltT rfl rfl (by omega)) ?_)
    refine as_q rfl rfl (q_pick_f rfl rfl) ?_
    refine Sm rfl rfl ?_
    refine as_gskip rfl rfl rfl rfl rfl ?_
    refine as_gskip rfl rfl rfl rfl rfl ?_
    refine as_q rfl rfl (q_pick_t rfl rfl) ?_
    refine Sm rfl rfl ?_
    refine as_gskip rfl rfl rfl rfl rfl ?_
    refine as_gskip rfl rfl rfl rfl rfl ?_
    refine as_q rfl rfl (q_pick_t rfl rfl) ?_
    refine Sm rfl rfl ?_
    refine as_gskip rfl rfl rfl rfl rfl ?_
    refine as_gskip rfl rfl rfl rfl rfl ?_
    refine as_q rfl rfl (q_pick_t rfl rfl) ?_
    refine as_nil (κ _ _ ?_)
    refine cw_true rfl ?_
    refine cw_rs fun _ κ => ?_
    refine Sa rfl rfl ?_
    refine as_nil (κ _ _ ?_)
    refine cw_ret ?_
    exact ⟨_, (res_tmp rfl res_nil), rfl, hT.forget⟩
  · skip
    refine cw_rs fun _ κ => ?_
    refine Sm rfl rfl ?_
    refine as_q rfl rfl (q_len (by kernel_rfl) rfl _) ?_
    refine as_q rfl rfl (q_gtF rfl rfl (by omega)) ?_
    refine Sm rfl rfl ?_
    refine as_gh rfl rfl rfl rfl (h_q rfl (q_move rfl) ?_)
    refine as_gh rfl rfl rfl rfl (h_q rfl (q_ltF rfl rfl (by omega)) ?_)
    refine as_q rfl rfl (q_pick_f rfl rfl) ?_
    refine Sm rfl rfl ?_
    refine as_gh rfl rfl rfl rfl (h_q rfl (q_move rfl) ?_)
    refine as_gh rfl rfl rfl rfl (h_q rfl (q_gtT rfl rfl (by omega)) ?_)
    refine as_q rfl rfl (q_pick_f rfl rfl) ?_
    refine Sm rfl rfl ?_
    refine as_gskip rfl rfl rfl rfl rfl ?_
    refine as_gskip rfl rfl rfl rfl rfl ?_
    refine as_q rfl rfl (q_pick_t rfl rfl) ?_
    refine Sm rfl rfl ?_
    refine as_gskip rfl rfl rfl rfl rfl ?_
    refine as_gskip rfl rfl rfl rfl rfl ?_
    refine as_q rfl rfl (q_pick_t rfl rfl) ?_
    refine as_nil (κ _ _ ?_)
    refine cw_true rfl ?_
    refine cw_rs fun _ κ => ?_
    refine Sa rfl rfl ?_
    refine as_nil (κ _ _ ?_)
    refine cw_ret ?_
    exact ⟨_, (res_tmp rfl res_nil), rfl, hT.forget⟩
  · skip
    refine cw_rs fun _ κ => ?_
    refine Sm rfl rfl ?_
    refine as_q rfl rfl (q_len (by kernel_rfl) rfl _) ?_
    refine as_q rfl rfl (q_gtF rfl rfl (by omega)) ?_
    refine Sm rfl rfl ?_
    refine as_gh rfl rfl rfl rfl (h_q rfl (q_move rfl) ?_)
    refine as_gh rfl rfl rfl rfl (h_q rfl (q_ltF rfl rfl (by omega)) ?_)
    refine as_q rfl rfl (q_pick_f rfl rfl) ?_
    refine Sm rfl rfl ?_
    refine as_gh rfl rfl rfl rfl (h_q rfl (q_move rfl) ?_)
    refine as_gh rfl rfl rfl rfl (h_q rfl (q_gtF rfl rfl (by omega)) ?_)
    refine as_q rfl rfl (q_pick_f rfl rfl) ?_
    refine Sm rfl rfl ?_
    refine as_gh rfl rfl rfl rfl (h_q rfl (q_move rfl) ?_)
    refine as_gh rfl rfl rfl rfl (h_q rfl (q_ltT rfl rfl (by omega)) ?_)
    refine as_q rfl rfl (q_pick_f rfl rfl) ?_
    refine Sm rfl rfl ?_
    refine as_gskip rfl rfl rfl rfl rfl ?_
    refine as_gskip rfl rfl rfl rfl rfl ?_
    refine as_q rfl rfl (q_pick_t rfl rfl) ?_
    refine as_nil (κ _ _ ?_)
    refine cw_true rfl ?_
    refine cw_rs fun _ κ => ?_
    refine Sa rfl rfl ?_
    refine as_nil (κ _ _ ?_)
    refine cw_ret ?_
    exact ⟨_, (res_tmp rfl res_nil), rfl, hT.forget⟩
  · skip
    refine cw_rs fun _ κ => ?_
    refine Sm rfl rfl ?_
    refine as_q rfl rfl (q_len (by kernel_rfl) rfl _) ?_
    refine as_q rfl rfl (q_gtF rfl rfl (by omega)) ?_
    refine Sm rfl rfl ?_
    refine as_gh rfl rfl rfl rfl (h_q rfl (q_move rfl) ?_)
    refine as_gh rfl rfl rfl rfl (h_q rfl (q_ltF rfl rfl (by omega)) ?_)
    refine as_q rfl rfl (q_pick_f rfl rfl) ?_
    refine Sm rfl rfl ?_
    refine as_gh rfl rfl rfl rfl (h_q rfl (q_move rfl) ?_)
    refine as_gh rfl rfl rfl rfl (h_q rfl (q_gtF rfl rfl (by omega)) ?_)
    refine as_q rfl rfl (q_pick_f rfl rfl) ?_
    refine Sm rfl rfl ?_
    refine as_gh rfl rfl rfl rfl (h_q rfl (q_move rfl) ?_)
    refine as_gh rfl rfl rfl rfl (h_q rfl (q_ltF rfl rfl (by omega)) ?_)
    refine as_q rfl rfl (q_pick_f rfl rfl) ?_
    refine Sm rfl rfl ?_
    refine as_gh rfl rfl rfl rfl (h_q rfl (q_move rfl) ?_)
    refine as_gh rfl rfl rfl rfl (h_q rfl (q_gtT rfl rfl (by omega)) ?_)
    refine as_q rfl rfl (q_pick_f rfl rfl) ?_
    refine as_nil (κ _ _ ?_)
    refine cw_true rfl ?_
    refine cw_rs fun _ κ => ?_
    refine Sa rfl rfl ?_
    refine as_nil (κ _ _ ?_)
    refine cw_ret ?_
    exact ⟨_, (res_tmp rfl res_nil), rfl, hT.forget⟩
set_option maxRecDepth 8000 in
theorem drainKinds_g {w : World} {M : Mem} {z y u : Int} {sa : Option Addr} {n ca : Nat} {xs : List El} (hs : Sat M w) (hr : RdM M 2 (.slice sa n ca) n (els xs)) (hz : 1 ≤ z ∧ z ≤ 6) (hz2 : 1 ≤ y ∧ y ≤ 6) (hn : n ≤ 40) (hu0 : 0 ≤ u) (hu : u ≤ 255) :
    Does Tryz.prog 5 #[.int .i64 z, .int .i64 y, .slice sa n ca, .int .u8 u] w (fun v w' => v = .bool true ∧ Step Nope M w M w') := by
  have hT := Step.refl Nope hs
  obtain ⟨k, hkz⟩ : ∃ k : Nat, (k : Int) = z := ⟨z.toNat, by omega⟩
  have hem : emE z = 0 := by unfold emE; rw [if_pos hz]
  have hekz : emK z = k := by unfold emK; rw [if_pos hz]; omega
  have hk0 : k ≠ 0 := by omega
  have hofl : ∀ l, ofL z l = srtE l := fun l => by unfold ofL; rw [if_pos hz]
  obtain ⟨k2, hkz2⟩ : ∃ k2 : Nat, (k2 : Int) = y := ⟨y.toNat, by omega⟩
  have hem2 : emE y = 0 := by unfold emE; rw [if_pos hz2]
  have hekz2 : emK y = k2 := by unfold emK; rw [if_pos hz2]; omega
  have hk02 : k2 ≠ 0 := by omega
  have hofl2 : ∀ l, ofL y l = srtE l := fun l => by unfold ofL; rw [if_pos hz2]
  have hxl := (hr.rds w).els_len hs
  have hr0 := hr
  obtain ⟨L, hL⟩ : ∃ L, L = srtE xs := ⟨_, rfl⟩
  have hrev : srtE xs.reverse = srtE xs := srtE_congr (List.reverse_perm xs)
  have hLl : L.length = n := by rw [hL, srtE_length, hxl]
  have hLt : (L.take u.toNat).length ≤ 40 := by rw [List.length_take]; omega
  refine fn_enter Tryz.func5 rfl (rs := [.tmp 8]) rfl rfl rfl rfl ?_
  refine cw_rs fun _ κ => ?_
  refine Sa rfl rfl ?_
  refine as_nil (κ _ _ ?_)
  refine cw_rs fun _ κ => ?_
  refine as_h rfl (h_call (by kernel_rfl) rfl ?_)
  refine (awake16 hs).mono ?_
  rintro _ w1 ⟨rfl, hs1⟩
  replace hr := hr.mono hs1.le
  replace hT := hT.then hs1
  have hz1 := hs1.size
  refine Sa rfl rfl ?_
  refine as_nil (κ _ _ ?_)
  refine cw_seq fun _ hK3 => ?_
  refine cw_rs fun _ κ => ?_
  refine Sm rfl rfl ?_
  refine as_q rfl rfl (q_not rfl) ?_
  refine as_nil (κ _ _ ?_)
  refine cw_false rfl ?_
  refine cw_skip ?_
  refine hK3 _ _ ?_
  refine cw_seq fun _ hK5 => ?_
  refine cw_rs fun _ κ => ?_
  refine Sm rfl rfl ?_
  refine as_q rfl rfl (q_len (by kernel_rfl) rfl _) ?_
  refine as_q rfl rfl (q_gtF rfl rfl (by omega)) ?_
  refine Sm rfl rfl ?_
  refine as_gh rfl rfl rfl rfl (h_q rfl (q_move rfl) ?_)
  refine as_gh rfl rfl rfl rfl (h_q rfl (q_ltF rfl rfl (by omega)) ?_)
  refine as_q rfl rfl (q_pick_f rfl rfl) ?_
  refine Sm rfl rfl ?_
  refine as_gh rfl rfl rfl rfl (h_q rfl (q_move rfl) ?_)
  refine as_gh rfl rfl rfl rfl (h_q rfl (q_gtF rfl rfl (by omega)) ?_)
  refine as_q rfl rfl (q_pick_f rfl rfl) ?_
  refine Sm rfl rfl ?_
  refine as_gh rfl rfl rfl rfl (h_q rfl (q_move rfl) ?_)
  refine as_gh rfl rfl rfl rfl (h_q rfl (q_ltF rfl rfl (by omega)) ?_)
  refine as_q rfl rfl (q_pick_f rfl rfl) ?_
  refine Sm rfl rfl ?_
  refine as_gh rfl rfl rfl rfl (h_q rfl (q_move rfl) ?_)
  refine as_gh rfl rfl rfl rfl (h_q rfl (q_gtF rfl rfl (by omega)) ?_)
  refine as_q rfl rfl (q_pick_f rfl rfl) ?_
  refine as_nil (κ _ _ ?_)
  refine cw_false rfl ?_
  refine cw_skip ?_
  refine hK5 _ _ ?_
  refine cw_rs fun _ κ => ?_
  refine Sa rfl rfl ?_
  refine as_nil (κ _ _ ?_)
  refine cw_seq fun _ hK8 => ?_
  refine cw_rs fun _ κ => ?_
  refine Sm rfl rfl ?_
  refine as_q rfl rfl (q_len (by kernel_rfl) rfl _) ?_
  refine as_q rfl rfl (q_subx rfl rfl (by omega) (by omega)) ?_
  refine Sa rfl rfl ?_
  refine as_nil (κ _ _ ?_)
  refine cw_block ?_
  refine cw_loop (fun mm l1 wL => ∃ (j : Nat) (iz : Int) (rv : Value) (M1 : Mem), mm = n - j ∧ j ≤ n ∧ iz = (n : Int) - 1 - j ∧ l1 = [(0, .int .i64 z), (1, .int .i64 y), (2, .slice sa n ca), (3, .int .u8 u), (10, rv), (11, .int .i64 iz)] ∧ Step Nope M w M1 wL ∧ Buf wL M1 24 2 rv j (els (xs.reverse.take j)) ∧ ∀ g, rv.ownBlock = some g → w.heap.size ≤ g) (n) [(0, .int .i64 z), (1, .int .i64 y), (2, .slice sa n ca), (3, .int .u8 u), (10, .slice none 0 0), (11, .int .i64 ((n : Int) - 1))] (.cons rfl (.cons rfl (.cons rfl (.cons rfl (.cons rfl (.cons rfl (.nil _))))))) ?_ ?_
  · skip
    exact ⟨0, _, _, _, rfl, Nat.zero_le _, by omega, rfl, hT, by rw [List.take_zero]; exact Buf.nil _ _ _ _, fun g hg => by cases hg⟩
  clear hT
  replace hr : RdM M 2 (.slice sa n ca) n (els xs) := hr0
  rintro mm l1 wL ⟨j, iz, rv, M1, rfl, hj, hiz, rfl, hT, hb, hf⟩
  replace hr := hr.mono hT.le
  refine cw_seq fun _ hK10 => ?_
  refine cw_rs fun _ κ => ?_
  refine Sm rfl rfl ?_
  refine as_q rfl rfl (q_ge rfl rfl) ?_
  refine as_nil (κ _ _ ?_)
  refine cw_cond rfl (fun hc2 => ?_) (fun hc2 => ?_)
  · skip
    have hlt : j < n := by have := of_decide_eq_true hc2; omega
    obtain ⟨e, he⟩ : ∃ e, xs[n - 1 - j]? = some e := ⟨xs[n - 1 - j]'(by omega), by simp⟩
    have hy : xs[iz.toNat]? = some e := by rw [show iz.toNat = n - 1 - j by omega]; exact he
    have hrj : xs.reverse[j]? = some e := by rw [List.getElem?_reverse (by omega), hxl]; exact he
    obtain ⟨g, o, rfl⟩ := hr.there (by omega)
    refine cw_skip ?_
    refine hK10 _ _ ?_
    refine cw_seq fun _ hK12 => ?_
    refine cw_block ?_
    refine cw_region fun _ κ => ?_
    refine Sm rfl rfl ?_
    refine Sm rfl rfl ?_
    refine Sm rfl rfl ?_
    refine as_q rfl rfl (q_indexAddr (e := 24) (size := 2) (by kernel_rfl) (by kernel_rfl) rfl rfl (by omega) (by omega)) ?_
    refine Sc 2 rfl (by kernel_rfl) rfl ((hr.rd hT.sat).el (j := iz.toNat) hy) ?_
    refine as_h rfl (h_buildO (e := 24) (size := 2) (zs := [.int .i64 0, .int .i64 0]) (cs := [_, _]) (by kernel_rfl) (by kernel_rfl) (by kernel_rfl) rfl hT.sat rfl rfl fun bp w2 hs2 hop ep => ?_)
    replace hr := hr.mono hs2.le
    replace hb := hb.then hs2
    replace hT := hT.then hs2
    have hz2 := hs2.size
    have hq3 := hT.size
    refine as_h rfl (h_append (e := 24) (size := 2) (bytes := 16) (by kernel_rfl) hs2.sat hb ((Own.buf hop (n := 1) (size := 2) rfl (by decide)).rd) rfl rfl (by simp [Value.oneCell']) (by omega) rfl fun hdv w3 hs3 hdb hdo => ?_)
    replace hr := hr.mono hs3.le
    have hdf := floor_of hdo hf hq3
    replace hT := hT.trans hs3 (fun k hk h => absurd (hf k h) (by omega))
    have hz3 := hs3.size
    refine Sa rfl rfl ?_
    refine as_nil (κ _ _ ?_)
    refine hK12 _ _ ?_
    refine cw_region fun _ κ => ?_
    refine Sm rfl rfl ?_
    refine as_q rfl rfl (q_subx rfl rfl (by omega) (by omega)) ?_
    refine Sa rfl rfl ?_
    refine as_nil (κ _ _ ?_)
    refine ⟨_, _, ?_, (.cons rfl (.cons rfl (.cons rfl (.cons rfl (.cons rfl (.cons rfl (.nil _))))))), j + 1, _, _, _, rfl, by omega, by omega, rfl, hT, ?_, hdf⟩
    · omega
    · rw [List.take_add_one, hrj, els_append]
      exact hdb
  · skip
    have hge : j = n := by have := of_decide_eq_false hc2; omega
    subst hge
    rw [List.take_of_length_le (by rw [List.length_reverse]; omega)] at hb
    refine cw_exit ?_
    refine hK8 _ _ ?_
    refine cw_rs fun _ κ => ?_
    have hlhb := hb.lt
    refine Sm rfl rfl ?_
    refine Sm rfl rfl ?_
    refine as_h rfl (h_call (by kernel_rfl) rfl ?_)
    refine (hp_of (z := z) hT.sat (hr.rds _) (by omega)).mono ?_
    rintro _ w4 ⟨vx, Mx, hrx, hs4, hvx⟩
    rw [hem] at hrx
    subst hrx
    rw [hekz, hofl, ← hL] at hvx
    replace hb := hb.then hs4
    replace hT := hT.then hs4
    have hz4 := hs4.size
    obtain ⟨dx, ux, rfl⟩ := hvx.iface hk0
    refine Sm rfl rfl ?_
    refine Se rfl rfl rfl ?_
    refine Se rfl rfl rfl ?_
    have hqax := hT.size
    refine as_h rfl (h_allocO (z := (.agg #[.nilIface])) hs4.sat (by kernel_rfl) rfl fun bx w5 hs5 hox ex => ?_)
    replace hb := hb.then hs5
    replace hvx := hvx.mono hs5.le
    replace hT := hT.then hs5
    have hz5 := hs5.size
    have hlx := hox.1.lt
    refine as_h0 (h_store hs5.sat hox rfl rfl rfl (by kernel_rfl) rfl rfl rfl fun w6 hs6 hn6 => ?_)
    replace hb := hb.step hs6 (fun g hg h => by have h : g = _ := h; have := hlhb g hg; omega)
    replace hvx := hvx.mono hs6.le
    clear hox; have hox := hn6; clear hn6
    replace hT := hT.own hs6 (by omega)
    have hz6 := hs6.size
    refine Sa rfl rfl ?_
    refine as_nil (κ _ _ ?_)
    refine cw_rs fun _ κ => ?_
    refine Sm rfl rfl ?_
    refine Sm rfl rfl ?_
    refine as_h rfl (h_call (by kernel_rfl) rfl ?_)
    refine (hp_of (z := y) hs6.sat hb.rds (by omega)).mono ?_
    rintro _ w7 ⟨vq, Mq, hrq, hs7, hvq⟩
    rw [hem2] at hrq
    subst hrq
    rw [hekz2, hofl2, hrev, ← hL] at hvq
    replace hb := hb.then hs7
    replace hvx := hvx.mono hs7.le
    replace hox := hox.then hs7
    replace hT := hT.then hs7
    have hz7 := hs7.size
    obtain ⟨dq, uq, rfl⟩ := hvq.iface hk02
    refine Sm rfl rfl ?_
    refine Se rfl rfl rfl ?_
    refine Se rfl rfl rfl ?_
    have hqaq := hT.size
    refine as_h rfl (h_allocO (z := (.agg #[.nilIface])) hs7.sat (by kernel_rfl) rfl fun bq w8 hs8 hoq eq => ?_)
    replace hvx := hvx.mono hs8.le
    replace hox := hox.then hs8
    replace hvq := hvq.mono hs8.le
    replace hT := hT.then hs8
    have hz8 := hs8.size
    have hlq := hoq.1.lt
    refine as_h0 (h_store hs8.sat hoq rfl rfl rfl (by kernel_rfl) rfl rfl rfl fun w9 hs9 hn9 => ?_)
    replace hvx := hvx.mono hs9.le
    replace hox := hox.step hs9 (fun h => by have h : _ = _ := h; omega)
    replace hvq := hvq.mono hs9.le
    clear hoq; have hoq := hn9; clear hn9
    replace hT := hT.own hs9 (by omega)
    have hz9 := hs9.size
    refine Sa rfl rfl ?_
    refine as_nil (κ _ _ ?_)
    refine cw_rs fun _ κ => ?_
    refine Sc 1 rfl (by kernel_rfl) rfl (by exact Blk.cells hox.1 rfl) ?_
    refine Sm rfl rfl ?_
    refine as_q rfl rfl (q_convx (by kernel_rfl) (by kernel_rfl) rfl (by exact wrap64_of (by omega) (by omega))) ?_
    refine as_h rfl (h_call (by kernel_rfl) rfl ?_)
    refine (dr_top_2 hs9.sat hvx (z := u) hk0 (by omega) (by omega) (by omega)).mono ?_
    rintro _ w10 ⟨vT, MT, rfl, hs10, hbT, hfT⟩
    replace hvx := hvx.mono hs10.le
    replace hox := hox.then hs10
    replace hvq := hvq.mono hs10.le
    replace hoq := hoq.then hs10
    replace hT := hT.then hs10
    have hz10 := hs10.size
    obtain ⟨raT, rcT, rfl, _, _⟩ := hbT.slice
    have hlhbT := hbT.lt
    refine Sm rfl rfl ?_
    refine Se rfl rfl rfl ?_
    refine Se rfl rfl rfl ?_
    refine Sa rfl rfl ?_
    refine Sa rfl rfl ?_
    refine as_nil (κ _ _ ?_)
    refine cw_rs fun _ κ => ?_
    refine Sc 1 rfl (by kernel_rfl) rfl (by exact Blk.cells hoq.1 rfl) ?_
    refine Sm rfl rfl ?_
    refine as_q rfl rfl (q_convx (by kernel_rfl) (by kernel_rfl) rfl (by exact wrap64_of (by omega) (by omega))) ?_
    refine as_h rfl (h_call (by kernel_rfl) rfl ?_)
    refine (dr_top_2 hs10.sat hvq (z := u) hk02 (by omega) (by omega) (by omega)).mono ?_
    rintro _ w11 ⟨vU, MU, rfl, hs11, hbU, hfU⟩
    replace hvx := hvx.mono hs11.le
    replace hox := hox.then hs11
    replace hvq := hvq.mono hs11.le
    replace hoq := hoq.then hs11
    replace hbT := hbT.then hs11
    replace hT := hT.then hs11
    have hz11 := hs11.size
    obtain ⟨raU, rcU, rfl, _, _⟩ := hbU.slice
    have hlhbU := hbU.lt
    refine Sm rfl rfl ?_
    refine Se rfl rfl rfl ?_
    refine Se rfl rfl rfl ?_
    refine Sa rfl rfl ?_
    refine Sa rfl rfl ?_
    refine as_nil (κ _ _ ?_)
    refine cw_dr (by kernel_rfl) fun _ κ => ?_
    have hs12 := Step.drew hs11.sat
    have hz12 := hs12.size
    replace hvx := hvx.mono hs12.le
    replace hox := hox.then hs12
    replace hvq := hvq.mono hs12.le
    replace hoq := hoq.then hs12
    replace hbT := hbT.then hs12
    replace hbU := hbU.then hs12
    replace hT := hT.then hs12
    refine Dm 0 1 rfl (by kernel_rfl) rfl ?_
    refine Dq 1 3 rfl (by kernel_rfl) (fun _ => (q_eqT rfl rfl (by omega))) ?_
    refine Dm 2 7 rfl (by kernel_rfl) rfl ?_
    refine Dgq 3 15 rfl (by kernel_rfl) rfl rfl (fun _ => (q_move rfl)) ?_
    refine Dgq 4 31 rfl (by kernel_rfl) rfl rfl (fun _ => (q_eqT rfl rfl (by omega))) ?_
    refine Dq 5 63 rfl (by kernel_rfl) (fun _ => (q_pick_t rfl rfl)) ?_
    refine Dm 6 127 rfl (by kernel_rfl) rfl ?_
    refine Dgq 7 255 rfl (by kernel_rfl) rfl rfl (fun _ => (q_move rfl)) ?_
    refine Dgq 8 511 rfl (by kernel_rfl) rfl rfl (fun _ => (q_eqT rfl rfl (by omega))) ?_
    refine Dq 9 1023 rfl (by kernel_rfl) (fun _ => (q_pick_t rfl rfl)) ?_
    refine Dm 10 2047 rfl (by kernel_rfl) rfl ?_
    refine Dgq 11 4095 rfl (by kernel_rfl) rfl rfl (fun _ => (q_move rfl)) ?_
    refine Dgq 12 8191 rfl (by kernel_rfl) rfl rfl (fun _ => (q_eqT rfl rfl (by omega))) ?_
    refine Dq 13 16383 rfl (by kernel_rfl) (fun _ => (q_pick_t rfl rfl)) ?_
    refine Dm 14 32767 rfl (by kernel_rfl) rfl ?_
    refine Dgq 15 65535 rfl (by kernel_rfl) rfl rfl (fun _ => (q_move rfl)) ?_
    refine Dgq 16 131071 rfl (by kernel_rfl) rfl rfl (fun _ => (q_move rfl)) ?_
    refine Dgh 17 262143 rfl (by kernel_rfl) rfl rfl rfl (h_call (by kernel_rfl) rfl ?_)
    refine (ref_same hs12.sat (by omega) hbT.rds hbU.rds).mono ?_
    rintro _ w13 ⟨hv13, hs13⟩
    rw [decide_eq_true rfl] at hv13
    subst hv13
    replace hvx := hvx.mono hs13.le
    replace hox := hox.then hs13
    replace hvq := hvq.mono hs13.le
    replace hoq := hoq.then hs13
    replace hT := hT.then hs13
    have hz13 := hs13.size
    refine ⟨trivial, ?_⟩
    refine Dq 18 524287 rfl (by kernel_rfl) (fun _ => (q_pick_t rfl rfl)) ?_
    refine Dm 19 1048575 rfl (by kernel_rfl) rfl ?_
    refine at_gq (i := 20) (li := lb 41 2097151) (cellsAre _ _ 1 _) rfl (by kernel_rfl) rfl rfl rfl rfl (fun _ h => q_loadc (n := 1) (by kernel_rfl) rfl h) (by exact Blk.cells hox.1 rfl) (by kernel_rfl) ?_
    refine at_gq (i := 22) (li := lb 41 6291455) (cellsAre _ _ 1 _) rfl (by kernel_rfl) rfl rfl rfl rfl (fun _ h => q_loadc (n := 1) (by kernel_rfl) rfl h) (by exact Blk.cells hoq.1 rfl) (by kernel_rfl) ?_
    refine Dgh 21 8388607 rfl (by kernel_rfl) rfl rfl (keep_sift (bs := [F,T]) (by kernel_rfl)) (h_call (by kernel_rfl) rfl ?_)
    refine (dr_sorted hs13.sat hvx (by omega)).mono ?_
    rintro vS w14 ⟨MS, hs14, hbS, hfS⟩
    replace hvx := hvx.mono hs14.le
    replace hox := hox.then hs14
    replace hvq := hvq.mono hs14.le
    replace hoq := hoq.then hs14
    replace hT := hT.then hs14
    have hz14 := hs14.size
    obtain ⟨raS, rcS, rfl, _, _⟩ := hbS.slice
    have hlhbS := hbS.lt
    refine ⟨(by repeat' first | exact trivial | exact Blk.cell hox.1 rfl | exact Blk.cells hox.1 rfl | exact Blk.cell hoq.1 rfl | exact Blk.cells hoq.1 rfl | assumption | refine all_keep ?_ | refine And.intro ?_ ?_), ?_⟩
    refine Dgh 23 16777215 rfl (by kernel_rfl) rfl rfl (keep_sift (bs := [T]) (by kernel_rfl)) (h_call (by kernel_rfl) rfl ?_)
    refine (dr_sorted hs14.sat hvq (by omega)).mono ?_
    rintro vR w15 ⟨MR, hs15, hbR, hfR⟩
    replace hvx := hvx.mono hs15.le
    replace hox := hox.then hs15
    replace hvq := hvq.mono hs15.le
    replace hoq := hoq.then hs15
    replace hbS := hbS.then hs15
    replace hT := hT.then hs15
    have hz15 := hs15.size
    obtain ⟨raR, rcR, rfl, _, _⟩ := hbR.slice
    have hlhbR := hbR.lt
    refine ⟨trivial, ?_⟩
    refine Dgh 24 33554431 rfl (by kernel_rfl) rfl rfl rfl (h_call (by kernel_rfl) rfl ?_)
    refine (ref_same hs15.sat (by omega) hbS.rds hbR.rds).mono ?_
    rintro _ w16 ⟨hv16, hs16⟩
    rw [decide_eq_true rfl] at hv16
    subst hv16
    replace hvx := hvx.mono hs16.le
    replace hox := hox.then hs16
    replace hvq := hvq.mono hs16.le
    replace hoq := hoq.then hs16
    replace hT := hT.then hs16
    have hz16 := hs16.size
    refine ⟨trivial, ?_⟩
    refine Dq 25 67108863 rfl (by kernel_rfl) (fun _ => (q_pick_t rfl rfl)) ?_
    refine Dm 26 134217727 rfl (by kernel_rfl) rfl ?_
    refine at_gq (i := 27) (li := lb 41 268435455) (cellsAre _ _ 1 _) rfl (by kernel_rfl) rfl rfl rfl rfl (fun _ h => q_loadc (n := 1) (by kernel_rfl) rfl h) (by exact Blk.cells hox.1 rfl) (by kernel_rfl) ?_
    refine at_gq (i := 28) (li := lb 41 536870911) (cellsAre _ _ 1 _) rfl (by kernel_rfl) rfl rfl rfl rfl (fun _ h => q_loadc (n := 1) (by kernel_rfl) rfl h) (by exact Blk.cells hoq.1 rfl) (by kernel_rfl) ?_
    refine Dgh 29 1073741823 rfl (by kernel_rfl) rfl rfl (keep_sift (bs := [T,T]) (by kernel_rfl)) (h_call (by kernel_rfl) rfl ?_)
    refine (dr_same hs16.sat hvx hvq (by omega) (by omega)).mono ?_
    rintro _ w17 ⟨hv17, hs17⟩
    rw [decide_eq_true rfl] at hv17
    subst hv17
    replace hvx := hvx.mono hs17.le
    replace hox := hox.then hs17
    replace hvq := hvq.mono hs17.le
    replace hoq := hoq.then hs17
    replace hT := hT.then hs17
    have hz17 := hs17.size
    refine ⟨trivial, ?_⟩
    refine Dq 30 2147483647 rfl (by kernel_rfl) (fun _ => (q_pick_t rfl rfl)) ?_
    refine Dm 31 4294967295 rfl (by kernel_rfl) rfl ?_
    refine at_gq (i := 32) (li := lb 41 8589934591) (cellsAre _ _ 1 _) rfl (by kernel_rfl) rfl rfl rfl rfl (fun _ h => q_loadc (n := 1) (by kernel_rfl) rfl h) (by exact Blk.cells hox.1 rfl) (by kernel_rfl) ?_
    refine at_gq (i := 35) (li := lb 41 42949672959) (cellsAre _ _ 1 _) rfl (by kernel_rfl) rfl rfl rfl rfl (fun _ h => q_loadc (n := 1) (by kernel_rfl) rfl h) (by exact Blk.cells hoq.1 rfl) (by kernel_rfl) ?_
    refine Dgh 33 51539607551 rfl (by kernel_rfl) rfl rfl (keep_sift (bs := [F,T]) (by kernel_rfl)) (h_call (by kernel_rfl) rfl ?_)
    have hqpA := hT.size
    refine (dr_of hs17.sat hvx).mono ?_
    rintro _ w18 ⟨qA, MA, rfl, hs18, hoqA, hqwA⟩
    replace hvx := hvx.mono hs18.le
    replace hox := hox.then hs18
    replace hvq := hvq.mono hs18.le
    replace hoq := hoq.then hs18
    replace hT := hT.then hs18
    have hz18 := hs18.size
    have hqlA := hoqA.1.lt
    refine ⟨(by repeat' first | exact trivial | exact Blk.cell hox.1 rfl | exact Blk.cells hox.1 rfl | exact Blk.cell hoq.1 rfl | exact Blk.cells hoq.1 rfl | exact Blk.cell hoqA.1 rfl | exact Blk.cells hoqA.1 rfl | assumption | refine all_keep ?_ | refine And.intro ?_ ?_), ?_⟩
    refine Dgh 34 68719476735 rfl (by kernel_rfl) rfl rfl (keep_sift (bs := [F]) (by kernel_rfl)) (h_call (by kernel_rfl) rfl ?_)
    have hzbF := hT.size
    refine (dr_all_first hs18.sat (by omega) hoqA hvx).mono ?_
    rintro vF w19 ⟨svF, MF, hs19, hqF, hb2F, _, hbF, hfF, hdF, hfrF⟩
    replace hox := hox.step hs19 (fun h => by have h : _ = qA := h; omega)
    replace hvq := hvq.mono hs19.le
    replace hoq := hoq.step hs19 (fun h => by have h : _ = qA := h; omega)
    replace hT := hT.trans hs19 (fun b hb h => by have h : b = qA := h; omega)
    have hz19 := hs19.size
    clear hoqA; have hoqA := hqF; clear hqF
    have hbsA := hb2F; clear hb2F
    obtain ⟨raF, rcF, rfl, _, _⟩ := hbF.slice
    have hlhbF := hbF.lt
    have hlhbsA := hbsA.lt
    refine ⟨(by repeat' first | exact trivial | exact Blk.cell hox.1 rfl | exact Blk.cells hox.1 rfl | exact Blk.cell hoq.1 rfl | exact Blk.cells hoq.1 rfl | exact Blk.cell hoqA.1 rfl | exact Blk.cells hoqA.1 rfl | assumption | refine all_keep ?_ | refine And.intro ?_ ?_), ?_⟩
    refine Dgh 36 137438953471 rfl (by kernel_rfl) rfl rfl (keep_sift (bs := [T]) (by kernel_rfl)) (h_call (by kernel_rfl) rfl ?_)
    have hqpB := hT.size
    refine (dr_of hs19.sat hvq).mono ?_
    rintro _ w20 ⟨qB, MB, rfl, hs20, hoqB, hqwB⟩
    replace hvq := hvq.mono hs20.le
    replace hbF := hbF.then hs20
    replace hT := hT.then hs20
    have hz20 := hs20.size
    have hqlB := hoqB.1.lt
    refine ⟨trivial, ?_⟩
    refine Dgh 37 274877906943 rfl (by kernel_rfl) rfl rfl rfl (h_call (by kernel_rfl) rfl ?_)
    have hzbG := hT.size
    refine (dr_all_first hs20.sat (by omega) hoqB hvq).mono ?_
    rintro vG w21 ⟨svG, MG, hs21, hqG, hb2G, _, hbG, hfG, hdG, hfrG⟩
    replace hbF := hbF.step hs21 (fun g hg h => by have h : g = qB := h; first | (have := hlhbF g hg; omega) | (have := hfF g hg; omega))
    replace hT := hT.trans hs21 (fun b hb h => by have h : b = qB := h; omega)
    have hz21 := hs21.size
    clear hoqB; have hoqB := hqG; clear hqG
    have hbsB := hb2G; clear hb2G
    obtain ⟨raG, rcG, rfl, _, _⟩ := hbG.slice
    have hlhbG := hbG.lt
    have hlhbsB := hbsB.lt
    refine ⟨trivial, ?_⟩
    refine Dgh 38 549755813887 rfl (by kernel_rfl) rfl rfl rfl (h_call (by kernel_rfl) rfl ?_)
    refine (ref_same hs21.sat (by omega) hbF.rds hbG.rds).mono ?_
    rintro _ w22 ⟨hv22, hs22⟩
    rw [decide_eq_true rfl] at hv22
    subst hv22
    replace hT := hT.then hs22
    have hz22 := hs22.size
    refine ⟨trivial, ?_⟩
    refine Dq 39 1099511627775 rfl (by kernel_rfl) (fun _ => (q_pick_t rfl rfl)) ?_
    refine Da 40 2199023255551 rfl (by kernel_rfl) rfl ?_
    refine Dd (by kernel_rfl) (κ _ _ ?_)
    refine cw_ret ?_
    exact ⟨_, (res_tmp rfl res_nil), rfl, hT.forget⟩
theorem drainKinds_walk {w : World} {M : Mem} {z y u : Int} {va : Value} {n : Nat} {xs : List El} (hs : Sat M w) (hr : RdM M 2 va n (els xs)) (hu0 : 0 ≤ u) (hu : u ≤ 255) : Does Tryz.prog 5 #[.int .i64 z, .int .i64 y, va, .int .u8 u] w (fun v w' => v = .bool true ∧ Step Nope M w M w') := by
  obtain ⟨sa, ca, rfl, _, _⟩ := hr.slice
  by_cases hz : 40 < n ∨ z < 1 ∨ 6 < z ∨ y < 1 ∨ 6 < y
  · exact drainKinds_b hs hz
  · exact drainKinds_g hs hr (by omega) (by omega) (by omega) hu0 hu
end Go.Proofs.YtgcgjpfjjgalmaaGreat
/- Elements, and rows of them, among a law s arguments. -/
namespace Go.Proofs.YtgcgjpfjjgalmaaGreat
open Go Go.Eng Go.ChangeShapes Go.WideShapes Go.RowKit
theorem two_cells {α : Type} : ∀ {cs : List α}, cs.length = 2 → ∃ a b, cs = [a, b]
  | [a, b], _ => ⟨a, b, rfl⟩
/-- Numbers of the kind. -/
def ElOk (e : El) : Prop := (-9223372036854775808 ≤ e.1 ∧ e.1 ≤ 9223372036854775807) ∧ (-9223372036854775808 ≤ e.2 ∧ e.2 ≤ 9223372036854775807)
section
variable {H : Type} {enc : TypeId × Value → H} {W : World} {spare : Nat → Bool} {held : Bool} {v : Value} {x : DataW H × List MemPlace} {fuel : Nat} {d : DataW H} {p : List MemPlace}
theorem read_el {cs : List Value} (h : DataW.trod enc Tryz.prog W 0 spare held fuel 24 cs = some x) : ∃ e : El, cs = elc e ∧ ElOk e := by
  obtain ⟨xs, n, _, _, hl, hx, hf⟩ := DataW.trod_struct Tryz.underlying24 h
  rw [show Tryz.prog.cellsOf 24 = 2 by kernel_rfl] at hl
  obtain ⟨a, b, rfl⟩ := two_cells hl
  have h0 := hf 0 _ rfl
  have h1 := hf 1 _ rfl
  rw [show Tryz.prog.cellsOf _ = 1 by kernel_rfl] at h0 h1
  rw [List.getElem?_eq_getElem (by rw [hx]; decide)] at h0 h1
  obtain ⟨m, hm, wm⟩ := DataW.trod_int Tryz.underlying2 h0
  obtain ⟨k, hk, wk⟩ := DataW.trod_int Tryz.underlying2 h1
  cases hm
  cases hk
  exact ⟨(m, k), rfl, by simpa [Lit.wf, IntKind.min, IntKind.max, IntKind.signed, IntKind.bits] using wm.2, by simpa [Lit.wf, IntKind.min, IntKind.max, IntKind.signed, IntKind.bits] using wk.2⟩
theorem read_els (hv : ∃ a n c, v = .slice a n c) (h : DataW.Trod enc Tryz.prog W 0 spare held 22 v d p) : ∃ (n : Nat) (xs : List El), RdM (memOf W) 2 v n (els xs) ∧ ∀ e ∈ xs, ElOk e := by
  obtain ⟨fuel, h⟩ := h
  obtain ⟨a, k, c, rfl⟩ := hv
  obtain ⟨n, ys, _, h1, h2⟩ := read_rows elc ElOk elc_length Tryz.underlying22 (show Tryz.prog.cellsOf 24 = 2 by kernel_rfl) (by decide) (fun _ cs x hx => read_el hx) (v := .slice a k c) h
  exact ⟨n, ys, h1, h2⟩
end
end Go.Proofs.YtgcgjpfjjgalmaaGreat
