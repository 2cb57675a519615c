/- Go s sort of elements: what each of its functions does, part 1. -/
import Derived.Test.YtbfjkclijjhlhaaDoorRows
import Derived.Test.YtbfjkclijjhlhaaDoorSortKit
import Derived.KernelRfl
namespace Go.Proofs.YtbfjkclijjhlhaaDoor
open Go Go.Eng
theorem srt_isNaN {w : World} {M : Mem} {a : Int} (hs : Sat M w) :
    Does Tryd.prog 36 #[.int .i64 a] w (fun v w' => v = .bool false ∧ Step Nope M w M w') := by
  have hT := Step.refl Nope hs
  refine fn_enter Tryd.func36 rfl (rs := [.tmp 2]) rfl rfl rfl rfl ?_
  refine cw_rs fun K1 hK1 => ?_
  -- region 0
  refine as_q rfl rfl (q_assign rfl) ?_
  refine as_nil (hK1 _ _ ?_)
  clear hK1 K1
  refine cw_rs fun K2 hK2 => ?_
  -- region 1
  refine as_q rfl rfl (q_move rfl) ?_
  refine as_q rfl rfl (q_move rfl) ?_
  first | refine as_q rfl rfl (q_neT rfl rfl (by omega)) ?_ | refine as_q rfl rfl (q_neF rfl rfl (by omega)) ?_ | refine as_q rfl rfl (q_ne rfl rfl) ?_
  refine as_q rfl rfl (q_assign rfl) ?_
  refine as_nil (hK2 _ _ ?_)
  clear hK2 K2
  refine cw_ret ?_
  exact ⟨_, (res_tmp rfl res_nil), rfl, hT⟩

theorem srt_cmp1 {w : World} {M : Mem} {a b : Int} (hs : Sat M w) :
    Does Tryd.prog 28 #[.int .i64 a, .int .i64 b] w (fun v w' => v = .int .i64 (cmp1 a b) ∧ Step Nope M w M w') := by
  have hT := Step.refl Nope hs
  refine fn_enter Tryd.func28 rfl (rs := [.tmp 4]) rfl rfl rfl rfl ?_
  refine cw_rs fun K1 hK1 => ?_
  -- region 0
  refine as_q rfl rfl (q_assign rfl) ?_
  refine as_nil (hK1 _ _ ?_)
  clear hK1 K1
  refine cw_rs fun K2 hK2 => ?_
  -- region 1
  refine as_q rfl rfl (q_move rfl) ?_
  refine as_h rfl (h_call (by kernel_rfl) rfl ?_)
  refine (srt_isNaN hs).mono ?_
  rintro _ w1 ⟨rfl, hs1⟩
  replace hT := hT.then hs1
  refine as_q rfl rfl (q_assign rfl) ?_
  refine as_nil (hK2 _ _ ?_)
  clear hK2 K2
  refine cw_rs fun K3 hK3 => ?_
  -- region 2
  refine as_q rfl rfl (q_move rfl) ?_
  refine as_h rfl (h_call (by kernel_rfl) rfl ?_)
  refine (srt_isNaN hs1.sat).mono ?_
  rintro _ w2 ⟨rfl, hs2⟩
  replace hT := hT.then hs2
  refine as_q rfl rfl (q_assign rfl) ?_
  refine as_nil (hK3 _ _ ?_)
  clear hK3 K3
  refine cw_seq fun K4 hK4 => ?_
  refine cw_rs fun K5 hK5 => ?_
  -- region 3
  refine as_q rfl rfl (q_move rfl) ?_
  refine as_nil (hK5 _ _ ?_)
  clear hK5 K5
  refine cw_false rfl ?_
  refine cw_skip ?_
  refine hK4 _ _ ?_
  clear hK4 K4
  refine cw_seq fun K6 hK6 => ?_
  refine cw_rs fun K7 hK7 => ?_
  -- region 7
  refine as_q rfl rfl (q_move rfl) ?_
  refine as_nil (hK7 _ _ ?_)
  clear hK7 K7
  refine cw_false rfl ?_
  refine cw_skip ?_
  refine hK6 _ _ ?_
  clear hK6 K6
  refine cw_seq fun K8 hK8 => ?_
  refine cw_rs fun K9 hK9 => ?_
  -- region 9
  refine as_q rfl rfl (q_move rfl) ?_
  refine as_q rfl rfl (q_move rfl) ?_
  first | refine as_q rfl rfl (q_ltT rfl rfl (by omega)) ?_ | refine as_q rfl rfl (q_ltF rfl rfl (by omega)) ?_ | refine as_q rfl rfl (q_lt rfl rfl) ?_
  refine as_nil (hK9 _ _ ?_)
  clear hK9 K9
  refine cw_cond rfl (fun hc3 => ?_) (fun hc3 => ?_)
  · skip
    replace hc3 := of_decide_eq_true hc3
    refine cw_rs fun K10 hK10 => ?_
    -- region 10
    refine as_q rfl rfl (q_assign rfl) ?_
    refine as_nil (hK10 _ _ ?_)
    clear hK10 K10
    refine cw_ret ?_
    exact ⟨_, (res_tmp rfl res_nil), by rw [show cmp1 a b = -1 from if_pos (by omega)]; rfl, hT⟩
  · skip
    replace hc3 := of_decide_eq_false hc3
    refine cw_skip ?_
    refine hK8 _ _ ?_
    clear hK8 K8
    refine cw_seq fun K11 hK11 => ?_
    refine cw_rs fun K12 hK12 => ?_
    -- region 11
    refine as_q rfl rfl (q_move rfl) ?_
    refine as_q rfl rfl (q_move rfl) ?_
    first | refine as_q rfl rfl (q_gtT rfl rfl (by omega)) ?_ | refine as_q rfl rfl (q_gtF rfl rfl (by omega)) ?_ | refine as_q rfl rfl (q_gt rfl rfl) ?_
    refine as_nil (hK12 _ _ ?_)
    clear hK12 K12
    refine cw_cond rfl (fun hc4 => ?_) (fun hc4 => ?_)
    · skip
      replace hc4 := of_decide_eq_true hc4
      refine cw_rs fun K13 hK13 => ?_
      -- region 12
      refine as_q rfl rfl (q_assign rfl) ?_
      refine as_nil (hK13 _ _ ?_)
      clear hK13 K13
      refine cw_ret ?_
      exact ⟨_, (res_tmp rfl res_nil), by rw [show cmp1 a b = 1 from (if_neg (by omega)).trans (if_pos (by omega))]; rfl, hT⟩
    · skip
      replace hc4 := of_decide_eq_false hc4
      refine cw_skip ?_
      refine hK11 _ _ ?_
      clear hK11 K11
      refine cw_rs fun K14 hK14 => ?_
      -- region 13
      refine as_q rfl rfl (q_assign rfl) ?_
      refine as_nil (hK14 _ _ ?_)
      clear hK14 K14
      refine cw_ret ?_
      exact ⟨_, (res_tmp rfl res_nil), by rw [show cmp1 a b = 0 from (if_neg (by omega)).trans (if_neg (by omega))]; rfl, hT⟩

theorem or_get {x y z : Int} {i : Nat} (h : [x, y][i]? = some z) : [Value.int .i64 x, Value.int .i64 y][i]? = some (.int .i64 z) := by
  match i, h with
  | 0, h => cases h; rfl
  | 1, h => cases h; rfl
  | _ + 2, h => simp at h
theorem or_first {x y z : Int} {i : Nat} (h : [x, y][i]? = some z) (hz : z ≠ 0) (h0 : ∀ j z, j < i → [x, y][j]? = some z → z = 0) : (if x = 0 then y else x) = z := by
  match i, h with
  | 0, h => cases h; exact if_neg hz
  | 1, h => cases h; exact if_pos (h0 0 x (by omega) rfl)
  | _ + 2, h => simp at h
theorem or_none {x y : Int} (h0 : ∀ j z, j < 2 → [x, y][j]? = some z → z = 0) : (if x = 0 then y else x) = 0 := by
  rw [if_pos (h0 0 x (by omega) rfl)]
  exact h0 1 y (by omega) rfl

theorem srt_or {w : World} {M : Mem} {x y : Int} {g o c : Nat} (hs : Sat M w) (hr : RdM M 1 (.slice (some ⟨g, o, none⟩) 2 c) 2 [.int .i64 x, .int .i64 y]) :
    Does Tryd.prog 27 #[.slice (some ⟨g, o, none⟩) 2 c] w (fun v w' => v = .int .i64 (if x = 0 then y else x) ∧ Step Nope M w M w') := by
  have hT := Step.refl Nope hs
  refine fn_enter Tryd.func27 rfl (rs := [.tmp 2]) rfl rfl rfl rfl ?_
  refine cw_rs fun K1 hK1 => ?_
  -- region 0
  refine as_q rfl rfl (q_assign rfl) ?_
  refine as_nil (hK1 _ _ ?_)
  clear hK1 K1
  refine cw_rs fun K2 hK2 => ?_
  -- region 1
  refine as_q rfl rfl (q_assign rfl) ?_
  refine as_nil (hK2 _ _ ?_)
  clear hK2 K2
  refine cw_seq fun K3 hK3 => ?_
  refine cw_rs fun K4 hK4 => ?_
  -- region 2
  refine as_q rfl rfl (q_move rfl) ?_
  refine as_q rfl rfl (q_len (by kernel_rfl) rfl _) ?_
  refine as_q rfl rfl (q_move rfl) ?_
  refine as_nil (hK4 _ _ ?_)
  clear hK4 K4
  refine cw_block ?_
  refine cw_loop (fun mm l w1 => ∃ i : Nat, mm = 2 - i ∧ i ≤ 2 ∧ (∀ j z, j < i → [x, y][j]? = some z → z = 0) ∧ l = [(3, .int .i64 0), (6, .slice (some ⟨g, o, none⟩) 2 c), (7, .int .i64 (2 : Nat)), (8, .int .i64 i)] ∧ Step Nope M w M w1) (2) [(3, .int .i64 0), (6, .slice (some ⟨g, o, none⟩) 2 c), (7, .int .i64 (2 : Nat)), (8, .int .i64 (0 : Nat))] (.cons rfl (.cons rfl (.cons rfl (.cons rfl (.nil _))))) ?_ ?_
  · skip
    exact ⟨0, rfl, by omega, fun j z hj => by omega, rfl, hT⟩
  clear hT
  rintro mm l w1 ⟨i, rfl, hi, hx0, rfl, hT⟩
  refine cw_rs fun K5 hK5 => ?_
  -- region 3
  first | refine as_q rfl rfl (q_ltT rfl rfl (by omega)) ?_ | refine as_q rfl rfl (q_ltF rfl rfl (by omega)) ?_ | refine as_q rfl rfl (q_lt rfl rfl) ?_
  refine as_nil (hK5 _ _ ?_)
  clear hK5 K5
  refine cw_seq fun K6 hK6 => ?_
  refine cw_cond rfl (fun hc0 => ?_) (fun hc0 => ?_)
  · skip
    have hlt : i < 2 := by have := of_decide_eq_true hc0; omega
    obtain ⟨z, hz⟩ : ∃ z, [x, y][i]? = some z := ⟨[x, y][i], by simp⟩
    refine cw_skip ?_
    refine hK6 _ _ ?_
    clear hK6 K6
    refine cw_seq fun K7 hK7 => ?_
    refine cw_block ?_
    refine cw_rs fun K8 hK8 => ?_
    -- region 4
    refine as_q rfl rfl (q_indexAddr (e := 3) (size := 1) (by kernel_rfl) (by kernel_rfl) rfl rfl (by omega) (by omega)) ?_
    refine as_q rfl rfl (q_load1 (by kernel_rfl) rfl (hr.cell hT.sat (u := .int .i64 z) (by rw [show (i : Int).toNat * 1 = i from by omega]; exact or_get hz))) ?_
    refine as_q rfl rfl (q_assign rfl) ?_
    refine as_nil (hK8 _ _ ?_)
    clear hK8 K8
    refine cw_rs fun K9 hK9 => ?_
    -- region 5
    refine as_q rfl rfl (q_move rfl) ?_
    refine as_q rfl rfl (q_move rfl) ?_
    first | refine as_q rfl rfl (q_neT rfl rfl (by omega)) ?_ | refine as_q rfl rfl (q_neF rfl rfl (by omega)) ?_ | refine as_q rfl rfl (q_ne rfl rfl) ?_
    refine as_nil (hK9 _ _ ?_)
    clear hK9 K9
    refine cw_cond rfl (fun hc1 => ?_) (fun hc1 => ?_)
    · skip
      have hz0 : z ≠ 0 := by simpa using hc1
      refine cw_rs fun K10 hK10 => ?_
      -- region 6
      refine as_q rfl rfl (q_move rfl) ?_
      refine as_q rfl rfl (q_assign rfl) ?_
      refine as_nil (hK10 _ _ ?_)
      clear hK10 K10
      refine cw_ret ?_
      exact ⟨_, (res_tmp rfl res_nil), by rw [or_first hz hz0 hx0]; rfl, hT⟩
    · skip
      have hz0 : z = 0 := by simpa using hc1
      refine cw_skip ?_
      refine hK7 _ _ ?_
      clear hK7 K7
      refine cw_region fun K11 hK11 => ?_
      -- region 7
      refine as_q rfl rfl (q_addx rfl rfl (by omega) (by omega)) ?_
      refine as_q rfl rfl (q_move rfl) ?_
      refine as_nil (hK11 _ _ ?_)
      clear hK11 K11
      refine ⟨_, _, ?_, (.cons rfl (.cons rfl (.cons rfl (.cons rfl (.nil _))))), i + 1, rfl, by omega, fun j z2 hj hz2 => ?_, rfl, hT⟩
      · omega
      · rcases Nat.lt_or_ge j i with h | h
        · exact hx0 j z2 h hz2
        · obtain rfl : j = i := by omega
          rw [hz] at hz2
          cases hz2
          exact hz0
  · skip
    have hge : i = 2 := by have := of_decide_eq_false hc0; omega
    refine cw_exit ?_
    refine hK3 _ _ ?_
    clear hK6 K6
    clear hK3 K3
    refine cw_rs fun K12 hK12 => ?_
    -- region 8
    refine as_q rfl rfl (q_move rfl) ?_
    refine as_q rfl rfl (q_assign rfl) ?_
    refine as_nil (hK12 _ _ ?_)
    clear hK12 K12
    refine cw_ret ?_
    subst hge
    exact ⟨_, (res_tmp rfl res_nil), by rw [or_none hx0]; rfl, hT⟩

theorem srt_compare {w : World} {M : Mem} {a b : El} (hs : Sat M w) :
    Does Tryd.prog 16 #[.agg (elc a).toArray, .agg (elc b).toArray] w (fun v w' => v = .int .i64 (cmpE a b) ∧ Step Nope M w M w') := by
  have hT := Step.refl Nope hs
  refine fn_enter Tryd.func16 rfl (rs := [.tmp 4]) rfl rfl rfl rfl ?_
  refine cw_rs fun K1 hK1 => ?_
  -- region 0
  have hqa1 := hT.size
  refine as_h rfl (h_boxO hs rfl rfl fun b1 w1 hs1 ho1 e1 => ?_)
  replace hT := hT.then hs1
  have hz1 := hs1.size
  have hl1 := ho1.1.lt
  have hqa2 := hT.size
  refine as_h rfl (h_boxO hs1.sat rfl rfl fun b2 w2 hs2 ho2 e2 => ?_)
  replace ho1 := ho1.then hs2
  replace hT := hT.then hs2
  have hz2 := hs2.size
  have hl2 := ho2.1.lt
  refine as_q rfl rfl (q_assign rfl) ?_
  refine as_nil (hK1 _ _ ?_)
  clear hK1 K1
  refine cw_seq fun K2 hK2 => ?_
  refine cw_rs fun K3 hK3 => ?_
  -- region 1
  refine as_q rfl rfl (q_loadc (n := 2) (by kernel_rfl) rfl (by first | exact Blk.cells ho1.1 rfl | exact Blk.cells ho2.1 rfl | assumption)) ?_
  refine as_q rfl rfl (q_loadc (n := 2) (by kernel_rfl) rfl (by first | exact Blk.cells ho1.1 rfl | exact Blk.cells ho2.1 rfl | assumption)) ?_
  refine as_q rfl rfl (q_eqE (a := a) (b := b) (e := 2) (by kernel_rfl) (by kernel_rfl) (by kernel_rfl) (by kernel_rfl) (by kernel_rfl) (by kernel_rfl) rfl rfl) ?_
  refine as_nil (hK3 _ _ ?_)
  clear hK3 K3
  refine cw_cond rfl (fun hc0 => ?_) (fun hc0 => ?_)
  · skip
    obtain rfl := of_decide_eq_true hc0
    refine cw_rs fun K4 hK4 => ?_
    -- region 2
    refine as_q rfl rfl (q_assign rfl) ?_
    refine as_nil (hK4 _ _ ?_)
    clear hK4 K4
    refine cw_ret ?_
    exact ⟨_, (res_tmp rfl res_nil), by rw [show cmpE a a = 0 by unfold cmpE; rw [cmp1_zero.2 rfl, if_pos rfl, cmp1_zero.2 rfl]]; rfl, hT.forget⟩
  · skip
    skip
    refine cw_skip ?_
    refine hK2 _ _ ?_
    clear hK2 K2
    refine cw_rd (by kernel_rfl) (by kernel_rfl) (by kernel_rfl) rfl rfl fun K5 hK5 => ?_
    -- region 3
    have hs3 := Step.drew hs2.sat
    have hz3 := hs3.size
    replace ho1 := ho1.then hs3
    replace ho2 := ho2.then hs3
    replace hT := hT.then hs3
    refine at_q (i := 0) (li := #[true, false, false, false, false, false, false, false, false, false, false, false, false]) rfl (by kernel_rfl) rfl (fun _ => (q_fieldAddr (off := 0) (by kernel_rfl) rfl)) (by kernel_rfl) ?_
    refine at_l (i := 1) (li := #[true, true, false, false, false, false, false, false, false, false, false, false, false]) (cellIs _ _ _) rfl (by kernel_rfl) rfl (fun _ h => q_load1 (by kernel_rfl) rfl h) (by first | exact Blk.cell ho1.1 rfl | exact Blk.cell ho2.1 rfl | assumption) (by kernel_rfl) ?_
    refine at_q (i := 2) (li := #[true, true, true, false, false, false, false, false, false, false, false, false, false]) rfl (by kernel_rfl) rfl (fun _ => (q_fieldAddr (off := 0) (by kernel_rfl) rfl)) (by kernel_rfl) ?_
    refine at_l (i := 3) (li := #[true, true, true, true, false, false, false, false, false, false, false, false, false]) (cellIs _ _ _) rfl (by kernel_rfl) rfl (fun _ h => q_load1 (by kernel_rfl) rfl h) (by first | exact Blk.cell ho1.1 rfl | exact Blk.cell ho2.1 rfl | assumption) (by kernel_rfl) ?_
    refine at_q (i := 5) (li := #[true, true, true, true, false, true, false, false, false, false, false, false, false]) rfl (by kernel_rfl) rfl (fun _ => (q_fieldAddr (off := 1) (by kernel_rfl) rfl)) (by kernel_rfl) ?_
    refine at_l (i := 6) (li := #[true, true, true, true, false, true, true, false, false, false, false, false, false]) (cellIs _ _ _) rfl (by kernel_rfl) rfl (fun _ h => q_load1 (by kernel_rfl) rfl h) (by first | exact Blk.cell ho1.1 rfl | exact Blk.cell ho2.1 rfl | assumption) (by kernel_rfl) ?_
    refine at_q (i := 7) (li := #[true, true, true, true, false, true, true, true, false, false, false, false, false]) rfl (by kernel_rfl) rfl (fun _ => (q_fieldAddr (off := 1) (by kernel_rfl) rfl)) (by kernel_rfl) ?_
    refine at_l (i := 8) (li := #[true, true, true, true, false, true, true, true, true, false, false, false, false]) (cellIs _ _ _) rfl (by kernel_rfl) rfl (fun _ h => q_load1 (by kernel_rfl) rfl h) (by first | exact Blk.cell ho1.1 rfl | exact Blk.cell ho2.1 rfl | assumption) (by kernel_rfl) ?_
    refine at_h (i := 4) (li := #[true, true, true, true, true, true, true, true, true, false, false, false, false]) rfl (by kernel_rfl) rfl (keep_sift (bs := [false, false, true, true]) (by kernel_rfl)) (by kernel_rfl) (h_call (by kernel_rfl) rfl ?_)
    refine (srt_cmp1 hs3.sat).mono ?_
    rintro _ w4 ⟨rfl, hs4⟩
    replace ho1 := ho1.then hs4
    replace ho2 := ho2.then hs4
    replace hT := hT.then hs4
    have hz4 := hs4.size
    refine ⟨(by repeat' first | exact trivial | exact Blk.cell ho1.1 rfl | exact Blk.cells ho1.1 rfl | exact Blk.cell ho2.1 rfl | exact Blk.cells ho2.1 rfl | assumption | refine all_keep ?_ | refine And.intro ?_ ?_), ?_⟩
    refine at_h (i := 9) (li := #[true, true, true, true, true, true, true, true, true, true, false, false, false]) rfl (by kernel_rfl) rfl (keep_sift (bs := [true, true]) (by kernel_rfl)) (by kernel_rfl) (h_call (by kernel_rfl) rfl ?_)
    refine (srt_cmp1 hs4.sat).mono ?_
    rintro _ w5 ⟨rfl, hs5⟩
    replace ho1 := ho1.then hs5
    replace ho2 := ho2.then hs5
    replace hT := hT.then hs5
    have hz5 := hs5.size
    refine ⟨(by repeat' first | exact trivial | exact Blk.cell ho1.1 rfl | exact Blk.cells ho1.1 rfl | exact Blk.cell ho2.1 rfl | exact Blk.cells ho2.1 rfl | assumption | refine all_keep ?_ | refine And.intro ?_ ?_), ?_⟩
    refine at_h (i := 10) (li := #[true, true, true, true, true, true, true, true, true, true, true, false, false]) rfl (by kernel_rfl) rfl rfl (by kernel_rfl) (h_buildM (e := 3) (size := 1) (zs := [(.int .i64 0), (.int .i64 0)]) (cs := [_, _]) (by kernel_rfl) (by kernel_rfl) (by kernel_rfl) rfl hs5.sat rfl rfl rfl fun bO MO w6 hs6 hrO eO => ?_)
    replace ho1 := ho1.then hs6
    replace ho2 := ho2.then hs6
    replace hT := hT.then hs6
    have hz6 := hs6.size
    refine ⟨(by repeat' first | exact trivial | exact Blk.cell ho1.1 rfl | exact Blk.cells ho1.1 rfl | exact Blk.cell ho2.1 rfl | exact Blk.cells ho2.1 rfl | assumption | refine all_keep ?_ | refine And.intro ?_ ?_), ?_⟩
    refine at_h (i := 11) (li := #[true, true, true, true, true, true, true, true, true, true, true, true, false]) rfl (by kernel_rfl) rfl rfl (by kernel_rfl) (h_call (by kernel_rfl) rfl ?_)
    refine (srt_or hs6.sat hrO).mono ?_
    rintro _ w7 ⟨rfl, hs7⟩
    replace ho1 := ho1.then hs7
    replace ho2 := ho2.then hs7
    replace hrO := hrO.mono hs7.le
    replace hT := hT.then hs7
    have hz7 := hs7.size
    refine ⟨(by repeat' first | exact trivial | exact Blk.cell ho1.1 rfl | exact Blk.cells ho1.1 rfl | exact Blk.cell ho2.1 rfl | exact Blk.cells ho2.1 rfl | assumption | refine all_keep ?_ | refine And.intro ?_ ?_), ?_⟩
    refine at_q (i := 12) (li := #[true, true, true, true, true, true, true, true, true, true, true, true, true]) rfl (by kernel_rfl) rfl (fun _ => (q_assign rfl)) (by kernel_rfl) ?_
    refine at_done (by kernel_rfl) (hK5 _ _ ?_)
    clear hK5 K5
    refine cw_ret ?_
    exact ⟨_, (res_tmp rfl res_nil), rfl, hT.forget⟩

theorem ins_low {d : Array El} {a j : Nat} (h : j ≤ a) : Go.Sort.insInner ltE a j d = d := by
  cases j with
  | zero => rfl
  | succ k => exact if_neg (by simp; omega)
theorem ins_stop {d : Array El} {a k : Nat} (h : ltE d[k + 1]! d[k]! = false) : Go.Sort.insInner ltE a (k + 1) d = d := if_neg (by rw [h]; simp)

theorem srt_insertion {w : World} {M : Mem} {g n cap : Nat} {d : Array El} {a b : Nat} (hs : Sat M w) (hn : n ≤ 100000) (hd : ElRow 23 w M g n cap d) (hab : a ≤ b) (hb : b ≤ n) :
    Does Tryd.prog 41 #[.slice (some ⟨g, 0, none⟩) n cap, .int .i64 a, .int .i64 b, (.func (.func 16) #[] #[])] w (fun _ w' => Step (Just g) M w M w' ∧ ElRow 23 w' M g n cap (Go.Sort.insertionSort ltE d a b)) := by
  have hT := Step.refl (Just g) hs
  have hsz := hd.size
  refine fn_enter Tryd.func41 rfl (rs := []) rfl rfl rfl rfl ?_
  refine cw_rs fun K1 hK1 => ?_
  -- region 0
  refine as_q rfl rfl (q_move rfl) ?_
  refine as_q rfl rfl (q_congr (q_addx rfl rfl (by omega) (by omega)) (v' := .int .i64 (a + 1 : Nat)) rfl) ?_
  refine as_q rfl rfl (q_assign rfl) ?_
  refine as_nil (hK1 _ _ ?_)
  clear hK1 K1
  refine cw_block ?_
  refine cw_loop (fun mm l w1 => ∃ (i : Nat) (d1 : Array El), mm = b - i ∧ a + 1 ≤ i ∧ Go.Sort.insOuter ltE a b i d1 = Go.Sort.insertionSort ltE d a b ∧ l = [(0, .slice (some ⟨g, 0, none⟩) n cap), (1, .int .i64 a), (2, .int .i64 b), (3, (.func (.func 16) #[] #[])), (8, .int .i64 i)] ∧ Step (Just g) M w M w1 ∧ ElRow 23 w1 M g n cap d1) (b - (a + 1)) [(0, .slice (some ⟨g, 0, none⟩) n cap), (1, .int .i64 a), (2, .int .i64 b), (3, (.func (.func 16) #[] #[])), (8, .int .i64 (a + 1 : Nat))] (.cons rfl (.cons rfl (.cons rfl (.cons rfl (.cons rfl (.nil _)))))) ?_ ?_
  · skip
    exact ⟨a + 1, d, rfl, Nat.le_refl _, rfl, rfl, hT, hd⟩
  clear hT hd
  rintro mm l w1 ⟨i, d1, rfl, hai, hout, rfl, hT, hd⟩
  refine cw_seq fun K2 hK2 => ?_
  refine cw_rs fun K3 hK3 => ?_
  -- region 1
  refine as_q rfl rfl (q_move rfl) ?_
  refine as_q rfl rfl (q_move rfl) ?_
  first | refine as_q rfl rfl (q_ltT rfl rfl (by omega)) ?_ | refine as_q rfl rfl (q_ltF rfl rfl (by omega)) ?_ | refine as_q rfl rfl (q_lt rfl rfl) ?_
  refine as_nil (hK3 _ _ ?_)
  clear hK3 K3
  refine cw_cond rfl (fun hc0 => ?_) (fun hc0 => ?_)
  · skip
    have hlt : i < b := by have := of_decide_eq_true hc0; omega
    refine cw_skip ?_
    refine hK2 _ _ ?_
    clear hK2 K2
    refine cw_seq fun K4 hK4 => ?_
    refine cw_block ?_
    refine cw_rs fun K5 hK5 => ?_
    -- region 3
    refine as_q rfl rfl (q_move rfl) ?_
    refine as_q rfl rfl (q_assign rfl) ?_
    refine as_nil (hK5 _ _ ?_)
    clear hK5 K5
    refine cw_block ?_
    refine cw_loop (fun mm l w1 => ∃ (j : Nat) (d2 : Array El), j = mm ∧ j ≤ i ∧ Go.Sort.insInner ltE a j d2 = Go.Sort.insInner ltE a i d1 ∧ l = [(0, .slice (some ⟨g, 0, none⟩) n cap), (1, .int .i64 a), (2, .int .i64 b), (3, (.func (.func 16) #[] #[])), (8, .int .i64 i), (9, .int .i64 j)] ∧ Step (Just g) M w M w1 ∧ ElRow 23 w1 M g n cap d2) (i) [(0, .slice (some ⟨g, 0, none⟩) n cap), (1, .int .i64 a), (2, .int .i64 b), (3, (.func (.func 16) #[] #[])), (8, .int .i64 i), (9, .int .i64 i)] (.cons rfl (.cons rfl (.cons rfl (.cons rfl (.cons rfl (.cons rfl (.nil _))))))) ?_ ?_
    · skip
      exact ⟨i, d1, rfl, Nat.le_refl _, rfl, rfl, hT, hd⟩
    clear hT hd
    rintro mm l w1 ⟨j, d2, rfl, hji, hins, rfl, hT, hd⟩
    refine cw_seq fun K6 hK6 => ?_
    have hjc : j ≤ a ∨ a < j := by omega
    rcases hjc with hja | hja
    · skip
      refine cw_rd (by kernel_rfl) (by kernel_rfl) (by kernel_rfl) rfl rfl fun K7 hK7 => ?_
      -- region 4
      have hs1 := Step.drew hT.sat
      replace hd := hd.then hs1
      replace hT := hT.then hs1
      refine at_q (i := 0) (li := #[true, false, false, false, false, false, false, false, false, false, false, false, false, false, false, false, false]) rfl (by kernel_rfl) rfl (fun _ => (q_move rfl)) (by kernel_rfl) ?_
      refine at_q (i := 1) (li := #[true, true, false, false, false, false, false, false, false, false, false, false, false, false, false, false, false]) rfl (by kernel_rfl) rfl (fun _ => (q_move rfl)) (by kernel_rfl) ?_
      first | refine at_q (i := 2) (li := #[true, true, true, false, false, false, false, false, false, false, false, false, false, false, false, false, false]) rfl (by kernel_rfl) rfl (fun _ => (q_gtT rfl rfl (by omega))) (by kernel_rfl) ?_ | refine at_q (i := 2) (li := #[true, true, true, false, false, false, false, false, false, false, false, false, false, false, false, false, false]) rfl (by kernel_rfl) rfl (fun _ => (q_gtF rfl rfl (by omega))) (by kernel_rfl) ?_ | refine at_q (i := 2) (li := #[true, true, true, false, false, false, false, false, false, false, false, false, false, false, false, false, false]) rfl (by kernel_rfl) rfl (fun _ => (q_gt rfl rfl)) (by kernel_rfl) ?_
      refine at_q (i := 3) (li := #[true, true, true, true, false, false, false, false, false, false, false, false, false, false, false, false, false]) rfl (by kernel_rfl) rfl (fun _ => (q_move rfl)) (by kernel_rfl) ?_
      first | refine at_gskip (i := 4) (li := #[true, true, true, true, true, false, false, false, false, false, false, false, false, false, false, false, false]) rfl (by kernel_rfl) rfl rfl rfl rfl rfl (by kernel_rfl) ?_ | refine at_gskipU (i := 4) (li := #[true, true, true, true, true, false, false, false, false, false, false, false, false, false, false, false, false]) rfl (by kernel_rfl) rfl rfl rfl rfl (by kernel_rfl) ?_ | refine at_gp (i := 4) (li := #[true, true, true, true, true, false, false, false, false, false, false, false, false, false, false, false, false]) rfl (by kernel_rfl) rfl rfl rfl rfl (fun _ => (q_move rfl)) (by kernel_rfl) ?_
      first | refine at_gskip (i := 5) (li := #[true, true, true, true, true, true, false, false, false, false, false, false, false, false, false, false, false]) rfl (by kernel_rfl) rfl rfl rfl rfl rfl (by kernel_rfl) ?_ | refine at_gskipU (i := 5) (li := #[true, true, true, true, true, true, false, false, false, false, false, false, false, false, false, false, false]) rfl (by kernel_rfl) rfl rfl rfl rfl (by kernel_rfl) ?_ | refine at_gp (i := 5) (li := #[true, true, true, true, true, true, false, false, false, false, false, false, false, false, false, false, false]) rfl (by kernel_rfl) rfl rfl rfl rfl (fun _ => (q_move rfl)) (by kernel_rfl) ?_
      first | refine at_gskip (i := 6) (li := #[true, true, true, true, true, true, true, false, false, false, false, false, false, false, false, false, false]) rfl (by kernel_rfl) rfl rfl rfl rfl rfl (by kernel_rfl) ?_ | refine at_gskipU (i := 6) (li := #[true, true, true, true, true, true, true, false, false, false, false, false, false, false, false, false, false]) rfl (by kernel_rfl) rfl rfl rfl rfl (by kernel_rfl) ?_ | refine at_gp (i := 6) (li := #[true, true, true, true, true, true, true, false, false, false, false, false, false, false, false, false, false]) rfl (by kernel_rfl) rfl rfl rfl rfl (fun _ => (q_move rfl)) (by kernel_rfl) ?_
      first | refine at_gskip (i := 7) (li := #[true, true, true, true, true, true, true, true, false, false, false, false, false, false, false, false, false]) rfl (by kernel_rfl) rfl rfl rfl rfl rfl (by kernel_rfl) ?_ | refine at_gskipU (i := 7) (li := #[true, true, true, true, true, true, true, true, false, false, false, false, false, false, false, false, false]) rfl (by kernel_rfl) rfl rfl rfl rfl (by kernel_rfl) ?_ | refine at_gp (i := 7) (li := #[true, true, true, true, true, true, true, true, false, false, false, false, false, false, false, false, false]) rfl (by kernel_rfl) rfl rfl rfl rfl (fun _ => (q_indexAddr (e := 23) (size := 2) (by kernel_rfl) (by kernel_rfl) rfl rfl (by omega) (by omega))) (by kernel_rfl) ?_
      first | refine at_gskip (i := 8) (li := #[true, true, true, true, true, true, true, true, true, false, false, false, false, false, false, false, false]) rfl (by kernel_rfl) rfl rfl rfl rfl rfl (by kernel_rfl) ?_ | refine at_gskipU (i := 8) (li := #[true, true, true, true, true, true, true, true, true, false, false, false, false, false, false, false, false]) rfl (by kernel_rfl) rfl rfl rfl rfl (by kernel_rfl) ?_ | refine at_gq (i := 8) (li := #[true, true, true, true, true, true, true, true, true, false, false, false, false, false, false, false, false]) (cellsAre _ _ 2 _) rfl (by kernel_rfl) rfl rfl rfl rfl (fun _ h => q_loadc (n := 2) (by kernel_rfl) rfl h) (hd.elem (i := ((k + 1 : Nat) : Int)) (by omega) (by omega)) (by kernel_rfl) ?_
      first | refine at_gskip (i := 9) (li := #[true, true, true, true, true, true, true, true, true, true, false, false, false, false, false, false, false]) rfl (by kernel_rfl) rfl rfl rfl rfl rfl (by kernel_rfl) ?_ | refine at_gskipU (i := 9) (li := #[true, true, true, true, true, true, true, true, true, true, false, false, false, false, false, false, false]) rfl (by kernel_rfl) rfl rfl rfl rfl (by kernel_rfl) ?_ | refine at_gp (i := 9) (li := #[true, true, true, true, true, true, true, true, true, true, false, false, false, false, false, false, false]) rfl (by kernel_rfl) rfl rfl rfl rfl (fun _ => (q_move rfl)) (by kernel_rfl) ?_
      first | refine at_gskip (i := 10) (li := #[true, true, true, true, true, true, true, true, true, true, true, false, false, false, false, false, false]) rfl (by kernel_rfl) rfl rfl rfl rfl rfl (by kernel_rfl) ?_ | refine at_gskipU (i := 10) (li := #[true, true, true, true, true, true, true, true, true, true, true, false, false, false, false, false, false]) rfl (by kernel_rfl) rfl rfl rfl rfl (by kernel_rfl) ?_ | refine at_gp (i := 10) (li := #[true, true, true, true, true, true, true, true, true, true, true, false, false, false, false, false, false]) rfl (by kernel_rfl) rfl rfl rfl rfl (fun _ => (q_move rfl)) (by kernel_rfl) ?_
      first | refine at_gskip (i := 11) (li := #[true, true, true, true, true, true, true, true, true, true, true, true, false, false, false, false, false]) rfl (by kernel_rfl) rfl rfl rfl rfl rfl (by kernel_rfl) ?_ | refine at_gskipU (i := 11) (li := #[true, true, true, true, true, true, true, true, true, true, true, true, false, false, false, false, false]) rfl (by kernel_rfl) rfl rfl rfl rfl (by kernel_rfl) ?_ | refine at_gp (i := 11) (li := #[true, true, true, true, true, true, true, true, true, true, true, true, false, false, false, false, false]) rfl (by kernel_rfl) rfl rfl rfl rfl (fun _ => (q_congr (q_subx rfl rfl (by omega) (by omega)) (v' := .int .i64 (k : Nat)) (by rw [show ((k + 1 : Nat) : Int) - 1 = (k : Nat) from by omega]))) (by kernel_rfl) ?_
      first | refine at_gskip (i := 12) (li := #[true, true, true, true, true, true, true, true, true, true, true, true, true, false, false, false, false]) rfl (by kernel_rfl) rfl rfl rfl rfl rfl (by kernel_rfl) ?_ | refine at_gskipU (i := 12) (li := #[true, true, true, true, true, true, true, true, true, true, true, true, true, false, false, false, false]) rfl (by kernel_rfl) rfl rfl rfl rfl (by kernel_rfl) ?_ | refine at_gp (i := 12) (li := #[true, true, true, true, true, true, true, true, true, true, true, true, true, false, false, false, false]) rfl (by kernel_rfl) rfl rfl rfl rfl (fun _ => (q_indexAddr (e := 23) (size := 2) (by kernel_rfl) (by kernel_rfl) rfl rfl (by omega) (by omega))) (by kernel_rfl) ?_
      first | refine at_gskip (i := 13) (li := #[true, true, true, true, true, true, true, true, true, true, true, true, true, true, false, false, false]) rfl (by kernel_rfl) rfl rfl rfl rfl rfl (by kernel_rfl) ?_ | refine at_gskipU (i := 13) (li := #[true, true, true, true, true, true, true, true, true, true, true, true, true, true, false, false, false]) rfl (by kernel_rfl) rfl rfl rfl rfl (by kernel_rfl) ?_ | refine at_gq (i := 13) (li := #[true, true, true, true, true, true, true, true, true, true, true, true, true, true, false, false, false]) (cellsAre _ _ 2 _) rfl (by kernel_rfl) rfl rfl rfl rfl (fun _ h => q_loadc (n := 2) (by kernel_rfl) rfl h) (hd.elem (i := ((k : Nat) : Int)) (by omega) (by omega)) (by kernel_rfl) ?_
      first | refine at_gskip (i := 14) (li := #[true, true, true, true, true, true, true, true, true, true, true, true, true, true, true, false, false]) rfl (by kernel_rfl) rfl rfl rfl rfl rfl (by kernel_rfl) ?_ | refine at_gskipU (i := 14) (li := #[true, true, true, true, true, true, true, true, true, true, true, true, true, true, true, false, false]) rfl (by kernel_rfl) rfl rfl rfl rfl (by kernel_rfl) ?_
      first | refine at_gskip (i := 15) (li := #[true, true, true, true, true, true, true, true, true, true, true, true, true, true, true, true, false]) rfl (by kernel_rfl) rfl rfl rfl rfl rfl (by kernel_rfl) ?_ | refine at_gskipU (i := 15) (li := #[true, true, true, true, true, true, true, true, true, true, true, true, true, true, true, true, false]) rfl (by kernel_rfl) rfl rfl rfl rfl (by kernel_rfl) ?_ | refine at_gp (i := 15) (li := #[true, true, true, true, true, true, true, true, true, true, true, true, true, true, true, true, false]) rfl (by kernel_rfl) rfl rfl rfl rfl (fun _ => (q_ltT rfl rfl (by omega))) (by kernel_rfl) ?_ | refine at_gp (i := 15) (li := #[true, true, true, true, true, true, true, true, true, true, true, true, true, true, true, true, false]) rfl (by kernel_rfl) rfl rfl rfl rfl (fun _ => (q_ltF rfl rfl (by omega))) (by kernel_rfl) ?_ | refine at_gp (i := 15) (li := #[true, true, true, true, true, true, true, true, true, true, true, true, true, true, true, true, false]) rfl (by kernel_rfl) rfl rfl rfl rfl (fun _ => (q_lt rfl rfl)) (by kernel_rfl) ?_
      first | refine at_q (i := 16) (li := #[true, true, true, true, true, true, true, true, true, true, true, true, true, true, true, true, true]) rfl (by kernel_rfl) rfl (fun _ => (q_pick_t rfl rfl)) (by kernel_rfl) ?_ | refine at_q (i := 16) (li := #[true, true, true, true, true, true, true, true, true, true, true, true, true, true, true, true, true]) rfl (by kernel_rfl) rfl (fun _ => (q_pick_f rfl rfl)) (by kernel_rfl) ?_ | refine at_q (i := 16) (li := #[true, true, true, true, true, true, true, true, true, true, true, true, true, true, true, true, true]) rfl (by kernel_rfl) rfl (fun _ => (q_pick rfl rfl rfl)) (by kernel_rfl) ?_
      refine at_done (by kernel_rfl) (hK7 _ _ ?_)
      clear hK7 K7
      refine cw_false rfl ?_
      refine cw_exit ?_
      refine hK4 _ _ ?_
      clear hK6 K6
      clear hK4 K4
      refine cw_region fun K8 hK8 => ?_
      -- region 2
      refine as_q rfl rfl (q_move rfl) ?_
      refine as_q rfl rfl (q_addx rfl rfl (by omega) (by omega)) ?_
      refine as_q rfl rfl (q_assign rfl) ?_
      refine as_nil (hK8 _ _ ?_)
      clear hK8 K8
      refine ⟨_, _, ?_, (.cons rfl (.cons rfl (.cons rfl (.cons rfl (.cons rfl (.nil _)))))), i + 1, d2, rfl, by omega, ?_, rfl, hT, hd⟩
      · omega
      · rw [← hout]
        conv => rhs; rw [Go.Sort.insOuter]
        rw [if_pos hlt, ← hins, ins_low hja]
    · skip
      obtain ⟨k, rfl⟩ : ∃ k, j = k + 1 := ⟨j - 1, by omega⟩
      refine cw_rd (by kernel_rfl) (by kernel_rfl) (by kernel_rfl) rfl rfl fun K9 hK9 => ?_
      -- region 4
      have hs2 := Step.drew hT.sat
      replace hd := hd.then hs2
      replace hT := hT.then hs2
      refine at_q (i := 0) (li := #[true, false, false, false, false, false, false, false, false, false, false, false, false, false, false, false, false]) rfl (by kernel_rfl) rfl (fun _ => (q_move rfl)) (by kernel_rfl) ?_
      refine at_q (i := 1) (li := #[true, true, false, false, false, false, false, false, false, false, false, false, false, false, false, false, false]) rfl (by kernel_rfl) rfl (fun _ => (q_move rfl)) (by kernel_rfl) ?_
      first | refine at_q (i := 2) (li := #[true, true, true, false, false, false, false, false, false, false, false, false, false, false, false, false, false]) rfl (by kernel_rfl) rfl (fun _ => (q_gtT rfl rfl (by omega))) (by kernel_rfl) ?_ | refine at_q (i := 2) (li := #[true, true, true, false, false, false, false, false, false, false, false, false, false, false, false, false, false]) rfl (by kernel_rfl) rfl (fun _ => (q_gtF rfl rfl (by omega))) (by kernel_rfl) ?_ | refine at_q (i := 2) (li := #[true, true, true, false, false, false, false, false, false, false, false, false, false, false, false, false, false]) rfl (by kernel_rfl) rfl (fun _ => (q_gt rfl rfl)) (by kernel_rfl) ?_
      refine at_q (i := 3) (li := #[true, true, true, true, false, false, false, false, false, false, false, false, false, false, false, false, false]) rfl (by kernel_rfl) rfl (fun _ => (q_move rfl)) (by kernel_rfl) ?_
      first | refine at_gskip (i := 4) (li := #[true, true, true, true, true, false, false, false, false, false, false, false, false, false, false, false, false]) rfl (by kernel_rfl) rfl rfl rfl rfl rfl (by kernel_rfl) ?_ | refine at_gskipU (i := 4) (li := #[true, true, true, true, true, false, false, false, false, false, false, false, false, false, false, false, false]) rfl (by kernel_rfl) rfl rfl rfl rfl (by kernel_rfl) ?_ | refine at_gp (i := 4) (li := #[true, true, true, true, true, false, false, false, false, false, false, false, false, false, false, false, false]) rfl (by kernel_rfl) rfl rfl rfl rfl (fun _ => (q_move rfl)) (by kernel_rfl) ?_
      first | refine at_gskip (i := 5) (li := #[true, true, true, true, true, true, false, false, false, false, false, false, false, false, false, false, false]) rfl (by kernel_rfl) rfl rfl rfl rfl rfl (by kernel_rfl) ?_ | refine at_gskipU (i := 5) (li := #[true, true, true, true, true, true, false, false, false, false, false, false, false, false, false, false, false]) rfl (by kernel_rfl) rfl rfl rfl rfl (by kernel_rfl) ?_ | refine at_gp (i := 5) (li := #[true, true, true, true, true, true, false, false, false, false, false, false, false, false, false, false, false]) rfl (by kernel_rfl) rfl rfl rfl rfl (fun _ => (q_move rfl)) (by kernel_rfl) ?_
      first | refine at_gskip (i := 6) (li := #[true, true, true, true, true, true, true, false, false, false, false, false, false, false, false, false, false]) rfl (by kernel_rfl) rfl rfl rfl rfl rfl (by kernel_rfl) ?_ | refine at_gskipU (i := 6) (li := #[true, true, true, true, true, true, true, false, false, false, false, false, false, false, false, false, false]) rfl (by kernel_rfl) rfl rfl rfl rfl (by kernel_rfl) ?_ | refine at_gp (i := 6) (li := #[true, true, true, true, true, true, true, false, false, false, false, false, false, false, false, false, false]) rfl (by kernel_rfl) rfl rfl rfl rfl (fun _ => (q_move rfl)) (by kernel_rfl) ?_
      first | refine at_gskip (i := 7) (li := #[true, true, true, true, true, true, true, true, false, false, false, false, false, false, false, false, false]) rfl (by kernel_rfl) rfl rfl rfl rfl rfl (by kernel_rfl) ?_ | refine at_gskipU (i := 7) (li := #[true, true, true, true, true, true, true, true, false, false, false, false, false, false, false, false, false]) rfl (by kernel_rfl) rfl rfl rfl rfl (by kernel_rfl) ?_ | refine at_gp (i := 7) (li := #[true, true, true, true, true, true, true, true, false, false, false, false, false, false, false, false, false]) rfl (by kernel_rfl) rfl rfl rfl rfl (fun _ => (q_indexAddr (e := 23) (size := 2) (by kernel_rfl) (by kernel_rfl) rfl rfl (by omega) (by omega))) (by kernel_rfl) ?_
      first | refine at_gskip (i := 8) (li := #[true, true, true, true, true, true, true, true, true, false, false, false, false, false, false, false, false]) rfl (by kernel_rfl) rfl rfl rfl rfl rfl (by kernel_rfl) ?_ | refine at_gskipU (i := 8) (li := #[true, true, true, true, true, true, true, true, true, false, false, false, false, false, false, false, false]) rfl (by kernel_rfl) rfl rfl rfl rfl (by kernel_rfl) ?_ | refine at_gq (i := 8) (li := #[true, true, true, true, true, true, true, true, true, false, false, false, false, false, false, false, false]) (cellsAre _ _ 2 _) rfl (by kernel_rfl) rfl rfl rfl rfl (fun _ h => q_loadc (n := 2) (by kernel_rfl) rfl h) (hd.elem (i := ((k + 1 : Nat) : Int)) (by omega) (by omega)) (by kernel_rfl) ?_
      first | refine at_gskip (i := 9) (li := #[true, true, true, true, true, true, true, true, true, true, false, false, false, false, false, false, false]) rfl (by kernel_rfl) rfl rfl rfl rfl rfl (by kernel_rfl) ?_ | refine at_gskipU (i := 9) (li := #[true, true, true, true, true, true, true, true, true, true, false, false, false, false, false, false, false]) rfl (by kernel_rfl) rfl rfl rfl rfl (by kernel_rfl) ?_ | refine at_gp (i := 9) (li := #[true, true, true, true, true, true, true, true, true, true, false, false, false, false, false, false, false]) rfl (by kernel_rfl) rfl rfl rfl rfl (fun _ => (q_move rfl)) (by kernel_rfl) ?_
      first | refine at_gskip (i := 10) (li := #[true, true, true, true, true, true, true, true, true, true, true, false, false, false, false, false, false]) rfl (by kernel_rfl) rfl rfl rfl rfl rfl (by kernel_rfl) ?_ | refine at_gskipU (i := 10) (li := #[true, true, true, true, true, true, true, true, true, true, true, false, false, false, false, false, false]) rfl (by kernel_rfl) rfl rfl rfl rfl (by kernel_rfl) ?_ | refine at_gp (i := 10) (li := #[true, true, true, true, true, true, true, true, true, true, true, false, false, false, false, false, false]) rfl (by kernel_rfl) rfl rfl rfl rfl (fun _ => (q_move rfl)) (by kernel_rfl) ?_
      first | refine at_gskip (i := 11) (li := #[true, true, true, true, true, true, true, true, true, true, true, true, false, false, false, false, false]) rfl (by kernel_rfl) rfl rfl rfl rfl rfl (by kernel_rfl) ?_ | refine at_gskipU (i := 11) (li := #[true, true, true, true, true, true, true, true, true, true, true, true, false, false, false, false, false]) rfl (by kernel_rfl) rfl rfl rfl rfl (by kernel_rfl) ?_ | refine at_gp (i := 11) (li := #[true, true, true, true, true, true, true, true, true, true, true, true, false, false, false, false, false]) rfl (by kernel_rfl) rfl rfl rfl rfl (fun _ => (q_congr (q_subx rfl rfl (by omega) (by omega)) (v' := .int .i64 (k : Nat)) (by rw [show ((k + 1 : Nat) : Int) - 1 = (k : Nat) from by omega]))) (by kernel_rfl) ?_
      first | refine at_gskip (i := 12) (li := #[true, true, true, true, true, true, true, true, true, true, true, true, true, false, false, false, false]) rfl (by kernel_rfl) rfl rfl rfl rfl rfl (by kernel_rfl) ?_ | refine at_gskipU (i := 12) (li := #[true, true, true, true, true, true, true, true, true, true, true, true, true, false, false, false, false]) rfl (by kernel_rfl) rfl rfl rfl rfl (by kernel_rfl) ?_ | refine at_gp (i := 12) (li := #[true, true, true, true, true, true, true, true, true, true, true, true, true, false, false, false, false]) rfl (by kernel_rfl) rfl rfl rfl rfl (fun _ => (q_indexAddr (e := 23) (size := 2) (by kernel_rfl) (by kernel_rfl) rfl rfl (by omega) (by omega))) (by kernel_rfl) ?_
      first | refine at_gskip (i := 13) (li := #[true, true, true, true, true, true, true, true, true, true, true, true, true, true, false, false, false]) rfl (by kernel_rfl) rfl rfl rfl rfl rfl (by kernel_rfl) ?_ | refine at_gskipU (i := 13) (li := #[true, true, true, true, true, true, true, true, true, true, true, true, true, true, false, false, false]) rfl (by kernel_rfl) rfl rfl rfl rfl (by kernel_rfl) ?_ | refine at_gq (i := 13) (li := #[true, true, true, true, true, true, true, true, true, true, true, true, true, true, false, false, false]) (cellsAre _ _ 2 _) rfl (by kernel_rfl) rfl rfl rfl rfl (fun _ h => q_loadc (n := 2) (by kernel_rfl) rfl h) (hd.elem (i := ((k : Nat) : Int)) (by omega) (by omega)) (by kernel_rfl) ?_
      refine at_gh (i := 14) (li := #[true, true, true, true, true, true, true, true, true, true, true, true, true, true, true, false, false]) rfl (by kernel_rfl) rfl rfl rfl rfl rfl (by kernel_rfl) (h_callv (f := 16) (first := []) (cap := []) (by kernel_rfl) rfl rfl rfl ?_)
      refine (srt_compare (a := d2[((k + 1 : Nat) : Int).toNat]!) (b := d2[((k : Nat) : Int).toNat]!) hs2.sat).mono ?_
      rintro _ w3 ⟨rfl, hs3⟩
      replace hd := hd.then hs3
      replace hT := hT.then hs3
      refine ⟨(by repeat' first | exact trivial | exact (hd.elem (i := ((k + 1 : Nat) : Int)) (by omega) (by omega)) | exact (hd.elem (i := ((k : Nat) : Int)) (by omega) (by omega)) | assumption | refine all_keep ?_ | refine And.intro ?_ ?_), ?_⟩
      first | refine at_gskip (i := 15) (li := #[true, true, true, true, true, true, true, true, true, true, true, true, true, true, true, true, false]) rfl (by kernel_rfl) rfl rfl rfl rfl rfl (by kernel_rfl) ?_ | refine at_gskipU (i := 15) (li := #[true, true, true, true, true, true, true, true, true, true, true, true, true, true, true, true, false]) rfl (by kernel_rfl) rfl rfl rfl rfl (by kernel_rfl) ?_ | refine at_gp (i := 15) (li := #[true, true, true, true, true, true, true, true, true, true, true, true, true, true, true, true, false]) rfl (by kernel_rfl) rfl rfl rfl rfl (fun _ => (q_ltT rfl rfl (by omega))) (by kernel_rfl) ?_ | refine at_gp (i := 15) (li := #[true, true, true, true, true, true, true, true, true, true, true, true, true, true, true, true, false]) rfl (by kernel_rfl) rfl rfl rfl rfl (fun _ => (q_ltF rfl rfl (by omega))) (by kernel_rfl) ?_ | refine at_gp (i := 15) (li := #[true, true, true, true, true, true, true, true, true, true, true, true, true, true, true, true, false]) rfl (by kernel_rfl) rfl rfl rfl rfl (fun _ => (q_lt rfl rfl)) (by kernel_rfl) ?_
      first | refine at_q (i := 16) (li := #[true, true, true, true, true, true, true, true, true, true, true, true, true, true, true, true, true]) rfl (by kernel_rfl) rfl (fun _ => (q_pick_t rfl rfl)) (by kernel_rfl) ?_ | refine at_q (i := 16) (li := #[true, true, true, true, true, true, true, true, true, true, true, true, true, true, true, true, true]) rfl (by kernel_rfl) rfl (fun _ => (q_pick_f rfl rfl)) (by kernel_rfl) ?_ | refine at_q (i := 16) (li := #[true, true, true, true, true, true, true, true, true, true, true, true, true, true, true, true, true]) rfl (by kernel_rfl) rfl (fun _ => (q_pick rfl rfl rfl)) (by kernel_rfl) ?_
      refine at_done (by kernel_rfl) (hK9 _ _ ?_)
      clear hK9 K9
      refine cw_cond rfl (fun hc1 => ?_) (fun hc1 => ?_)
      · skip
        have hl : ltE d2[k + 1]! d2[k]! = true := hc1
        refine cw_skip ?_
        refine hK6 _ _ ?_
        clear hK6 K6
        refine cw_seq fun K10 hK10 => ?_
        refine cw_block ?_
        refine cw_drawn (by kernel_rfl) (by kernel_rfl) (by kernel_rfl) rfl rfl fun K11 hK11 => ?_
        -- region 6
        have hs4 := Step.drew hs3.sat
        replace hd := hd.then hs4
        replace hT := hT.then hs4
        refine at_q (i := 0) (li := #[true, false, false, false, false, false, false, false, false, false, false, false, false, false, false, false, false, false]) rfl (by kernel_rfl) rfl (fun _ => (q_move rfl)) (by kernel_rfl) ?_
        refine at_q (i := 1) (li := #[true, true, false, false, false, false, false, false, false, false, false, false, false, false, false, false, false, false]) rfl (by kernel_rfl) rfl (fun _ => (q_move rfl)) (by kernel_rfl) ?_
        refine at_q (i := 2) (li := #[true, true, true, false, false, false, false, false, false, false, false, false, false, false, false, false, false, false]) rfl (by kernel_rfl) rfl (fun _ => (q_move rfl)) (by kernel_rfl) ?_
        refine at_q (i := 3) (li := #[true, true, true, true, false, false, false, false, false, false, false, false, false, false, false, false, false, false]) rfl (by kernel_rfl) rfl (fun _ => (q_move rfl)) (by kernel_rfl) ?_
        refine at_q (i := 4) (li := #[true, true, true, true, true, false, false, false, false, false, false, false, false, false, false, false, false, false]) rfl (by kernel_rfl) rfl (fun _ => (q_congr (q_subx rfl rfl (by omega) (by omega)) (v' := .int .i64 (k : Nat)) (by rw [show ((k + 1 : Nat) : Int) - 1 = (k : Nat) from by omega]))) (by kernel_rfl) ?_
        refine at_q (i := 5) (li := #[true, true, true, true, true, true, false, false, false, false, false, false, false, false, false, false, false, false]) rfl (by kernel_rfl) rfl (fun _ => (q_move rfl)) (by kernel_rfl) ?_
        refine at_q (i := 6) (li := #[true, true, true, true, true, true, true, false, false, false, false, false, false, false, false, false, false, false]) rfl (by kernel_rfl) rfl (fun _ => (q_move rfl)) (by kernel_rfl) ?_
        refine at_q (i := 7) (li := #[true, true, true, true, true, true, true, true, false, false, false, false, false, false, false, false, false, false]) rfl (by kernel_rfl) rfl (fun _ => (q_congr (q_subx rfl rfl (by omega) (by omega)) (v' := .int .i64 (k : Nat)) (by rw [show ((k + 1 : Nat) : Int) - 1 = (k : Nat) from by omega]))) (by kernel_rfl) ?_
        refine at_q (i := 8) (li := #[true, true, true, true, true, true, true, true, true, false, false, false, false, false, false, false, false, false]) rfl (by kernel_rfl) rfl (fun _ => (q_indexAddr (e := 23) (size := 2) (by kernel_rfl) (by kernel_rfl) rfl rfl (by omega) (by omega))) (by kernel_rfl) ?_
        refine at_l (i := 9) (li := #[true, true, true, true, true, true, true, true, true, true, false, false, false, false, false, false, false, false]) (cellsAre _ _ 2 _) rfl (by kernel_rfl) rfl (fun _ h => q_loadc (n := 2) (by kernel_rfl) rfl h) (hd.elem (i := ((k : Nat) : Int)) (by omega) (by omega)) (by kernel_rfl) ?_
        refine at_q (i := 10) (li := #[true, true, true, true, true, true, true, true, true, true, true, false, false, false, false, false, false, false]) rfl (by kernel_rfl) rfl (fun _ => (q_move rfl)) (by kernel_rfl) ?_
        refine at_q (i := 11) (li := #[true, true, true, true, true, true, true, true, true, true, true, true, false, false, false, false, false, false]) rfl (by kernel_rfl) rfl (fun _ => (q_move rfl)) (by kernel_rfl) ?_
        refine at_q (i := 12) (li := #[true, true, true, true, true, true, true, true, true, true, true, true, true, false, false, false, false, false]) rfl (by kernel_rfl) rfl (fun _ => (q_indexAddr (e := 23) (size := 2) (by kernel_rfl) (by kernel_rfl) rfl rfl (by omega) (by omega))) (by kernel_rfl) ?_
        refine at_l (i := 13) (li := #[true, true, true, true, true, true, true, true, true, true, true, true, true, true, false, false, false, false]) (cellsAre _ _ 2 _) rfl (by kernel_rfl) rfl (fun _ h => q_loadc (n := 2) (by kernel_rfl) rfl h) (hd.elem (i := ((k + 1 : Nat) : Int)) (by omega) (by omega)) (by kernel_rfl) ?_
        refine at_q (i := 14) (li := #[true, true, true, true, true, true, true, true, true, true, true, true, true, true, true, false, false, false]) rfl (by kernel_rfl) rfl (fun _ => (q_indexAddr (e := 23) (size := 2) (by kernel_rfl) (by kernel_rfl) rfl rfl (by omega) (by omega))) (by kernel_rfl) ?_
        refine at_h0 (i := 15) (li := #[true, true, true, true, true, true, true, true, true, true, true, true, true, true, true, true, false, false]) rfl (by kernel_rfl) (keep_sift (bs := [true, true]) (by kernel_rfl)) (by kernel_rfl) (h_storeD (i := ((k + 1 : Nat) : Int)) (e := d2[((k : Nat) : Int).toNat]!) hs4.sat hd rfl rfl (by kernel_rfl) (by omega) (by omega) fun w5 hs5 hd5 => ?_)
        replace hT := hT.also hs5
        clear hd; have hd := hd5; clear hd5
        refine ⟨(by repeat' first | exact trivial | exact (hd.elem (i := ((k : Nat) : Int)) (by omega) (by omega)) | exact (hd.elem (i := ((k + 1 : Nat) : Int)) (by omega) (by omega)) | assumption | refine all_keep ?_ | refine And.intro ?_ ?_), ?_⟩
        refine at_q (i := 16) (li := #[true, true, true, true, true, true, true, true, true, true, true, true, true, true, true, true, true, false]) rfl (by kernel_rfl) rfl (fun _ => (q_indexAddr (e := 23) (size := 2) (by kernel_rfl) (by kernel_rfl) rfl rfl (by omega) (by omega))) (by kernel_rfl) ?_
        refine at_h0 (i := 17) (li := #[true, true, true, true, true, true, true, true, true, true, true, true, true, true, true, true, true, true]) rfl (by kernel_rfl) rfl (by kernel_rfl) (h_storeD (i := ((k : Nat) : Int)) (e := d2[((k + 1 : Nat) : Int).toNat]!) hs5.sat hd rfl rfl (by kernel_rfl) (by omega) (by omega) fun w6 hs6 hd6 => ?_)
        replace hT := hT.also hs6
        clear hd; have hd := hd6; clear hd6
        refine ⟨(by repeat' first | exact trivial | exact (hd.elem (i := ((k : Nat) : Int)) (by omega) (by omega)) | exact (hd.elem (i := ((k + 1 : Nat) : Int)) (by omega) (by omega)) | assumption | refine all_keep ?_ | refine And.intro ?_ ?_), ?_⟩
        refine at_done (by kernel_rfl) (hK11 _ _ ?_)
        clear hK11 K11
        refine hK10 _ _ ?_
        clear hK10 K10
        refine cw_region fun K12 hK12 => ?_
        -- region 5
        refine as_q rfl rfl (q_move rfl) ?_
        refine as_q rfl rfl (q_congr (q_subx rfl rfl (by omega) (by omega)) (v' := .int .i64 (k : Nat)) (by rw [show ((k + 1 : Nat) : Int) - 1 = (k : Nat) from by omega])) ?_
        refine as_q rfl rfl (q_assign rfl) ?_
        refine as_nil (hK12 _ _ ?_)
        clear hK12 K12
        refine ⟨_, _, ?_, (.cons rfl (.cons rfl (.cons rfl (.cons rfl (.cons rfl (.cons rfl (.nil _))))))), k, _, rfl, by omega, ?_, rfl, hT, hd⟩
        · omega
        · rw [← hins]
          show _ = (if _ then _ else _)
          rw [if_pos (by rw [hl]; simp; omega)]
          rfl
      · skip
        have hl : ltE d2[k + 1]! d2[k]! = false := hc1
        refine cw_exit ?_
        refine hK4 _ _ ?_
        clear hK6 K6
        clear hK4 K4
        refine cw_region fun K13 hK13 => ?_
        -- region 2
        refine as_q rfl rfl (q_move rfl) ?_
        refine as_q rfl rfl (q_addx rfl rfl (by omega) (by omega)) ?_
        refine as_q rfl rfl (q_assign rfl) ?_
        refine as_nil (hK13 _ _ ?_)
        clear hK13 K13
        refine ⟨_, _, ?_, (.cons rfl (.cons rfl (.cons rfl (.cons rfl (.cons rfl (.nil _)))))), i + 1, d2, rfl, by omega, ?_, rfl, hT, hd⟩
        · omega
        · rw [← hout]
          conv => rhs; rw [Go.Sort.insOuter]
          rw [if_pos hlt, ← hins, ins_stop hl]
  · skip
    have hge : b ≤ i := by have := of_decide_eq_false hc0; omega
    refine cw_exit ?_
    rw [Go.Sort.insOuter, if_neg (by omega)] at hout
    subst hout
    exact ⟨_, res_nil, hT, hd⟩

theorem sd_stop {hi f r : Nat} {d : Array El} (h : hi ≤ 2 * r + 1) : Go.Sort.siftDown ltE hi f r d = d := by rw [Go.Sort.siftDown, dif_pos h]
theorem sd_right {hi f r : Nat} {d : Array El} (h1 : 2 * r + 2 < hi) (hl : ltE d[f + (2 * r + 1)]! d[f + (2 * r + 1) + 1]! = true) :
    Go.Sort.siftDown ltE hi f r d = if ltE d[f + r]! d[f + (2 * r + 2)]! then Go.Sort.siftDown ltE hi f (2 * r + 2) (Go.Sort.swp d (f + r) (f + (2 * r + 2))) else d := by
  rw [Go.Sort.siftDown, dif_neg (by omega), if_pos (by rw [hl]; simp; omega)]
  cases ltE d[f + r]! d[f + (2 * r + 2)]!
  · rfl
  · simp only [Bool.not_true, Bool.false_eq_true, if_false, if_true]
    rw [dif_pos h1]
theorem sd_left {hi f r : Nat} {d : Array El} (h1 : 2 * r + 1 < hi) (hl : 2 * r + 2 < hi → ltE d[f + (2 * r + 1)]! d[f + (2 * r + 1) + 1]! = false) :
    Go.Sort.siftDown ltE hi f r d = if ltE d[f + r]! d[f + (2 * r + 1)]! then Go.Sort.siftDown ltE hi f (2 * r + 1) (Go.Sort.swp d (f + r) (f + (2 * r + 1))) else d := by
  rw [Go.Sort.siftDown, dif_neg (by omega), if_neg (by
    intro h
    simp only [Bool.and_eq_true, decide_eq_true_eq] at h
    rw [hl h.1] at h
    exact absurd h.2 (by simp))]
  cases ltE d[f + r]! d[f + (2 * r + 1)]! <;> rfl

theorem srt_sift {w : World} {M : Mem} {g n cap : Nat} {d : Array El} {lo hi f : Nat} (hs : Sat M w) (hn : n ≤ 100000) (hd : ElRow 23 w M g n cap d) (hlo : lo ≤ 100000) (hf : f + hi ≤ n) :
    Does Tryd.prog 61 #[.slice (some ⟨g, 0, none⟩) n cap, .int .i64 lo, .int .i64 hi, .int .i64 f, (.func (.func 16) #[] #[])] w (fun _ w' => Step (Just g) M w M w' ∧ ElRow 23 w' M g n cap (Go.Sort.siftDown ltE hi f lo d)) := by
  have hT := Step.refl (Just g) hs
  have hsz := hd.size
  refine fn_enter Tryd.func61 rfl (rs := []) rfl rfl rfl rfl ?_
  refine cw_rs fun K1 hK1 => ?_
  -- region 0
  refine as_q rfl rfl (q_move rfl) ?_
  refine as_q rfl rfl (q_assign rfl) ?_
  refine as_nil (hK1 _ _ ?_)
  clear hK1 K1
  refine cw_block ?_
  refine cw_loop (fun mm l w1 => ∃ (r : Nat) (d2 : Array El), mm = hi - r ∧ Go.Sort.siftDown ltE hi f r d2 = Go.Sort.siftDown ltE hi f lo d ∧ r ≤ 100000 ∧ l = [(0, .slice (some ⟨g, 0, none⟩) n cap), (2, .int .i64 hi), (3, .int .i64 f), (4, (.func (.func 16) #[] #[])), (10, .int .i64 r)] ∧ Step (Just g) M w M w1 ∧ ElRow 23 w1 M g n cap d2) (hi - lo) [(0, .slice (some ⟨g, 0, none⟩) n cap), (2, .int .i64 hi), (3, .int .i64 f), (4, (.func (.func 16) #[] #[])), (10, .int .i64 lo)] (.cons rfl (.cons rfl (.cons rfl (.cons rfl (.cons rfl (.nil _)))))) ?_ ?_
  · skip
    exact ⟨lo, d, rfl, rfl, by omega, rfl, hT, hd⟩
  clear hT hd
  rintro mm l w1 ⟨r, d2, rfl, hsd, hrb, rfl, hT, hd⟩
  refine cw_block ?_
  refine cw_rs fun K2 hK2 => ?_
  -- region 1
  refine as_q rfl rfl (q_move rfl) ?_
  refine as_q rfl rfl (q_mulx rfl rfl (by omega) (by omega)) ?_
  refine as_q rfl rfl (q_congr (q_addx rfl rfl (by omega) (by omega)) (v' := .int .i64 (2 * r + 1 : Nat)) (congrArg (Value.int .i64) (by omega))) ?_
  refine as_q rfl rfl (q_assign rfl) ?_
  refine as_nil (hK2 _ _ ?_)
  clear hK2 K2
  refine cw_seq fun K3 hK3 => ?_
  refine cw_rs fun K4 hK4 => ?_
  -- region 2
  refine as_q rfl rfl (q_move rfl) ?_
  refine as_q rfl rfl (q_move rfl) ?_
  first | refine as_q rfl rfl (q_geT rfl rfl (by omega)) ?_ | refine as_q rfl rfl (q_geF rfl rfl (by omega)) ?_ | refine as_q rfl rfl (q_ge rfl rfl) ?_
  refine as_nil (hK4 _ _ ?_)
  clear hK4 K4
  refine cw_cond rfl (fun hc0 => ?_) (fun hc0 => ?_)
  · skip
    have hst : hi ≤ 2 * r + 1 := by have := of_decide_eq_true hc0; omega
    refine cw_exit ?_
    rw [sd_stop hst] at hsd
    subst hsd
    exact ⟨_, res_nil, hT, hd⟩
  · skip
    have hst : 2 * r + 1 < hi := by have := of_decide_eq_false hc0; omega
    refine cw_skip ?_
    refine hK3 _ _ ?_
    clear hK3 K3
    refine cw_seq fun K5 hK5 => ?_
    have hcs : hi ≤ 2 * r + 2 ∨ 2 * r + 2 < hi := by omega
    rcases hcs with hcs | hcs
    · skip
      refine cw_rd (by kernel_rfl) (by kernel_rfl) (by kernel_rfl) rfl rfl fun K6 hK6 => ?_
      -- region 3
      have hs1 := Step.drew hT.sat
      replace hd := hd.then hs1
      replace hT := hT.then hs1
      refine at_q (i := 0) (li := #[true, false, false, false, false, false, false, false, false, false, false, false, false, false, false, false, false, false, false, false, false, false]) rfl (by kernel_rfl) rfl (fun _ => (q_move rfl)) (by kernel_rfl) ?_
      refine at_q (i := 1) (li := #[true, true, false, false, false, false, false, false, false, false, false, false, false, false, false, false, false, false, false, false, false, false]) rfl (by kernel_rfl) rfl (fun _ => (q_addx rfl rfl (by omega) (by omega))) (by kernel_rfl) ?_
      refine at_q (i := 2) (li := #[true, true, true, false, false, false, false, false, false, false, false, false, false, false, false, false, false, false, false, false, false, false]) rfl (by kernel_rfl) rfl (fun _ => (q_move rfl)) (by kernel_rfl) ?_
      first | refine at_q (i := 3) (li := #[true, true, true, true, false, false, false, false, false, false, false, false, false, false, false, false, false, false, false, false, false, false]) rfl (by kernel_rfl) rfl (fun _ => (q_ltT rfl rfl (by omega))) (by kernel_rfl) ?_ | refine at_q (i := 3) (li := #[true, true, true, true, false, false, false, false, false, false, false, false, false, false, false, false, false, false, false, false, false, false]) rfl (by kernel_rfl) rfl (fun _ => (q_ltF rfl rfl (by omega))) (by kernel_rfl) ?_ | refine at_q (i := 3) (li := #[true, true, true, true, false, false, false, false, false, false, false, false, false, false, false, false, false, false, false, false, false, false]) rfl (by kernel_rfl) rfl (fun _ => (q_lt rfl rfl)) (by kernel_rfl) ?_
      refine at_q (i := 4) (li := #[true, true, true, true, true, false, false, false, false, false, false, false, false, false, false, false, false, false, false, false, false, false]) rfl (by kernel_rfl) rfl (fun _ => (q_move rfl)) (by kernel_rfl) ?_
      first | refine at_gskip (i := 5) (li := #[true, true, true, true, true, true, false, false, false, false, false, false, false, false, false, false, false, false, false, false, false, false]) rfl (by kernel_rfl) rfl rfl rfl rfl rfl (by kernel_rfl) ?_ | refine at_gskipU (i := 5) (li := #[true, true, true, true, true, true, false, false, false, false, false, false, false, false, false, false, false, false, false, false, false, false]) rfl (by kernel_rfl) rfl rfl rfl rfl (by kernel_rfl) ?_ | refine at_gp (i := 5) (li := #[true, true, true, true, true, true, false, false, false, false, false, false, false, false, false, false, false, false, false, false, false, false]) rfl (by kernel_rfl) rfl rfl rfl rfl (fun _ => (q_move rfl)) (by kernel_rfl) ?_
      first | refine at_gskip (i := 6) (li := #[true, true, true, true, true, true, true, false, false, false, false, false, false, false, false, false, false, false, false, false, false, false]) rfl (by kernel_rfl) rfl rfl rfl rfl rfl (by kernel_rfl) ?_ | refine at_gskipU (i := 6) (li := #[true, true, true, true, true, true, true, false, false, false, false, false, false, false, false, false, false, false, false, false, false, false]) rfl (by kernel_rfl) rfl rfl rfl rfl (by kernel_rfl) ?_ | refine at_gp (i := 6) (li := #[true, true, true, true, true, true, true, false, false, false, false, false, false, false, false, false, false, false, false, false, false, false]) rfl (by kernel_rfl) rfl rfl rfl rfl (fun _ => (q_move rfl)) (by kernel_rfl) ?_
      first | refine at_gskip (i := 7) (li := #[true, true, true, true, true, true, true, true, false, false, false, false, false, false, false, false, false, false, false, false, false, false]) rfl (by kernel_rfl) rfl rfl rfl rfl rfl (by kernel_rfl) ?_ | refine at_gskipU (i := 7) (li := #[true, true, true, true, true, true, true, true, false, false, false, false, false, false, false, false, false, false, false, false, false, false]) rfl (by kernel_rfl) rfl rfl rfl rfl (by kernel_rfl) ?_ | refine at_gp (i := 7) (li := #[true, true, true, true, true, true, true, true, false, false, false, false, false, false, false, false, false, false, false, false, false, false]) rfl (by kernel_rfl) rfl rfl rfl rfl (fun _ => (q_move rfl)) (by kernel_rfl) ?_
      first | refine at_gskip (i := 8) (li := #[true, true, true, true, true, true, true, true, true, false, false, false, false, false, false, false, false, false, false, false, false, false]) rfl (by kernel_rfl) rfl rfl rfl rfl rfl (by kernel_rfl) ?_ | refine at_gskipU (i := 8) (li := #[true, true, true, true, true, true, true, true, true, false, false, false, false, false, false, false, false, false, false, false, false, false]) rfl (by kernel_rfl) rfl rfl rfl rfl (by kernel_rfl) ?_ | refine at_gp (i := 8) (li := #[true, true, true, true, true, true, true, true, true, false, false, false, false, false, false, false, false, false, false, false, false, false]) rfl (by kernel_rfl) rfl rfl rfl rfl (fun _ => (q_move rfl)) (by kernel_rfl) ?_
      first | refine at_gskip (i := 9) (li := #[true, true, true, true, true, true, true, true, true, true, false, false, false, false, false, false, false, false, false, false, false, false]) rfl (by kernel_rfl) rfl rfl rfl rfl rfl (by kernel_rfl) ?_ | refine at_gskipU (i := 9) (li := #[true, true, true, true, true, true, true, true, true, true, false, false, false, false, false, false, false, false, false, false, false, false]) rfl (by kernel_rfl) rfl rfl rfl rfl (by kernel_rfl) ?_ | refine at_gp (i := 9) (li := #[true, true, true, true, true, true, true, true, true, true, false, false, false, false, false, false, false, false, false, false, false, false]) rfl (by kernel_rfl) rfl rfl rfl rfl (fun _ => (q_addx rfl rfl (by omega) (by omega))) (by kernel_rfl) ?_
      first | refine at_gskip (i := 10) (li := #[true, true, true, true, true, true, true, true, true, true, true, false, false, false, false, false, false, false, false, false, false, false]) rfl (by kernel_rfl) rfl rfl rfl rfl rfl (by kernel_rfl) ?_ | refine at_gskipU (i := 10) (li := #[true, true, true, true, true, true, true, true, true, true, true, false, false, false, false, false, false, false, false, false, false, false]) rfl (by kernel_rfl) rfl rfl rfl rfl (by kernel_rfl) ?_ | refine at_gp (i := 10) (li := #[true, true, true, true, true, true, true, true, true, true, true, false, false, false, false, false, false, false, false, false, false, false]) rfl (by kernel_rfl) rfl rfl rfl rfl (fun _ => (q_indexAddr (e := 23) (size := 2) (by kernel_rfl) (by kernel_rfl) rfl rfl (by omega) (by omega))) (by kernel_rfl) ?_
      first | refine at_gskip (i := 11) (li := #[true, true, true, true, true, true, true, true, true, true, true, true, false, false, false, false, false, false, false, false, false, false]) rfl (by kernel_rfl) rfl rfl rfl rfl rfl (by kernel_rfl) ?_ | refine at_gskipU (i := 11) (li := #[true, true, true, true, true, true, true, true, true, true, true, true, false, false, false, false, false, false, false, false, false, false]) rfl (by kernel_rfl) rfl rfl rfl rfl (by kernel_rfl) ?_ | refine at_gq (i := 11) (li := #[true, true, true, true, true, true, true, true, true, true, true, true, false, false, false, false, false, false, false, false, false, false]) (cellsAre _ _ 2 _) rfl (by kernel_rfl) rfl rfl rfl rfl (fun _ h => q_loadc (n := 2) (by kernel_rfl) rfl h) (hd.elem (i := ((f : Nat) + (2 * r + 1 : Nat) : Int)) (by omega) (by omega)) (by kernel_rfl) ?_
      first | refine at_gskip (i := 12) (li := #[true, true, true, true, true, true, true, true, true, true, true, true, true, false, false, false, false, false, false, false, false, false]) rfl (by kernel_rfl) rfl rfl rfl rfl rfl (by kernel_rfl) ?_ | refine at_gskipU (i := 12) (li := #[true, true, true, true, true, true, true, true, true, true, true, true, true, false, false, false, false, false, false, false, false, false]) rfl (by kernel_rfl) rfl rfl rfl rfl (by kernel_rfl) ?_ | refine at_gp (i := 12) (li := #[true, true, true, true, true, true, true, true, true, true, true, true, true, false, false, false, false, false, false, false, false, false]) rfl (by kernel_rfl) rfl rfl rfl rfl (fun _ => (q_move rfl)) (by kernel_rfl) ?_
      first | refine at_gskip (i := 13) (li := #[true, true, true, true, true, true, true, true, true, true, true, true, true, true, false, false, false, false, false, false, false, false]) rfl (by kernel_rfl) rfl rfl rfl rfl rfl (by kernel_rfl) ?_ | refine at_gskipU (i := 13) (li := #[true, true, true, true, true, true, true, true, true, true, true, true, true, true, false, false, false, false, false, false, false, false]) rfl (by kernel_rfl) rfl rfl rfl rfl (by kernel_rfl) ?_ | refine at_gp (i := 13) (li := #[true, true, true, true, true, true, true, true, true, true, true, true, true, true, false, false, false, false, false, false, false, false]) rfl (by kernel_rfl) rfl rfl rfl rfl (fun _ => (q_move rfl)) (by kernel_rfl) ?_
      first | refine at_gskip (i := 14) (li := #[true, true, true, true, true, true, true, true, true, true, true, true, true, true, true, false, false, false, false, false, false, false]) rfl (by kernel_rfl) rfl rfl rfl rfl rfl (by kernel_rfl) ?_ | refine at_gskipU (i := 14) (li := #[true, true, true, true, true, true, true, true, true, true, true, true, true, true, true, false, false, false, false, false, false, false]) rfl (by kernel_rfl) rfl rfl rfl rfl (by kernel_rfl) ?_ | refine at_gp (i := 14) (li := #[true, true, true, true, true, true, true, true, true, true, true, true, true, true, true, false, false, false, false, false, false, false]) rfl (by kernel_rfl) rfl rfl rfl rfl (fun _ => (q_move rfl)) (by kernel_rfl) ?_
      first | refine at_gskip (i := 15) (li := #[true, true, true, true, true, true, true, true, true, true, true, true, true, true, true, true, false, false, false, false, false, false]) rfl (by kernel_rfl) rfl rfl rfl rfl rfl (by kernel_rfl) ?_ | refine at_gskipU (i := 15) (li := #[true, true, true, true, true, true, true, true, true, true, true, true, true, true, true, true, false, false, false, false, false, false]) rfl (by kernel_rfl) rfl rfl rfl rfl (by kernel_rfl) ?_ | refine at_gp (i := 15) (li := #[true, true, true, true, true, true, true, true, true, true, true, true, true, true, true, true, false, false, false, false, false, false]) rfl (by kernel_rfl) rfl rfl rfl rfl (fun _ => (q_addx rfl rfl (by omega) (by omega))) (by kernel_rfl) ?_
      first | refine at_gskip (i := 16) (li := #[true, true, true, true, true, true, true, true, true, true, true, true, true, true, true, true, true, false, false, false, false, false]) rfl (by kernel_rfl) rfl rfl rfl rfl rfl (by kernel_rfl) ?_ | refine at_gskipU (i := 16) (li := #[true, true, true, true, true, true, true, true, true, true, true, true, true, true, true, true, true, false, false, false, false, false]) rfl (by kernel_rfl) rfl rfl rfl rfl (by kernel_rfl) ?_ | refine at_gp (i := 16) (li := #[true, true, true, true, true, true, true, true, true, true, true, true, true, true, true, true, true, false, false, false, false, false]) rfl (by kernel_rfl) rfl rfl rfl rfl (fun _ => (q_addx rfl rfl (by omega) (by omega))) (by kernel_rfl) ?_
      first | refine at_gskip (i := 17) (li := #[true, true, true, true, true, true, true, true, true, true, true, true, true, true, true, true, true, true, false, false, false, false]) rfl (by kernel_rfl) rfl rfl rfl rfl rfl (by kernel_rfl) ?_ | refine at_gskipU (i := 17) (li := #[true, true, true, true, true, true, true, true, true, true, true, true, true, true, true, true, true, true, false, false, false, false]) rfl (by kernel_rfl) rfl rfl rfl rfl (by kernel_rfl) ?_ | refine at_gp (i := 17) (li := #[true, true, true, true, true, true, true, true, true, true, true, true, true, true, true, true, true, true, false, false, false, false]) rfl (by kernel_rfl) rfl rfl rfl rfl (fun _ => (q_indexAddr (e := 23) (size := 2) (by kernel_rfl) (by kernel_rfl) rfl rfl (by omega) (by omega))) (by kernel_rfl) ?_
      first | refine at_gskip (i := 18) (li := #[true, true, true, true, true, true, true, true, true, true, true, true, true, true, true, true, true, true, true, false, false, false]) rfl (by kernel_rfl) rfl rfl rfl rfl rfl (by kernel_rfl) ?_ | refine at_gskipU (i := 18) (li := #[true, true, true, true, true, true, true, true, true, true, true, true, true, true, true, true, true, true, true, false, false, false]) rfl (by kernel_rfl) rfl rfl rfl rfl (by kernel_rfl) ?_ | refine at_gq (i := 18) (li := #[true, true, true, true, true, true, true, true, true, true, true, true, true, true, true, true, true, true, true, false, false, false]) (cellsAre _ _ 2 _) rfl (by kernel_rfl) rfl rfl rfl rfl (fun _ h => q_loadc (n := 2) (by kernel_rfl) rfl h) (hd.elem (i := ((f : Nat) + (2 * r + 1 : Nat) + 1 : Int)) (by omega) (by omega)) (by kernel_rfl) ?_
      first | refine at_gskip (i := 19) (li := #[true, true, true, true, true, true, true, true, true, true, true, true, true, true, true, true, true, true, true, true, false, false]) rfl (by kernel_rfl) rfl rfl rfl rfl rfl (by kernel_rfl) ?_ | refine at_gskipU (i := 19) (li := #[true, true, true, true, true, true, true, true, true, true, true, true, true, true, true, true, true, true, true, true, false, false]) rfl (by kernel_rfl) rfl rfl rfl rfl (by kernel_rfl) ?_
      first | refine at_gskip (i := 20) (li := #[true, true, true, true, true, true, true, true, true, true, true, true, true, true, true, true, true, true, true, true, true, false]) rfl (by kernel_rfl) rfl rfl rfl rfl rfl (by kernel_rfl) ?_ | refine at_gskipU (i := 20) (li := #[true, true, true, true, true, true, true, true, true, true, true, true, true, true, true, true, true, true, true, true, true, false]) rfl (by kernel_rfl) rfl rfl rfl rfl (by kernel_rfl) ?_ | refine at_gp (i := 20) (li := #[true, true, true, true, true, true, true, true, true, true, true, true, true, true, true, true, true, true, true, true, true, false]) rfl (by kernel_rfl) rfl rfl rfl rfl (fun _ => (q_ltT rfl rfl (by omega))) (by kernel_rfl) ?_ | refine at_gp (i := 20) (li := #[true, true, true, true, true, true, true, true, true, true, true, true, true, true, true, true, true, true, true, true, true, false]) rfl (by kernel_rfl) rfl rfl rfl rfl (fun _ => (q_ltF rfl rfl (by omega))) (by kernel_rfl) ?_ | refine at_gp (i := 20) (li := #[true, true, true, true, true, true, true, true, true, true, true, true, true, true, true, true, true, true, true, true, true, false]) rfl (by kernel_rfl) rfl rfl rfl rfl (fun _ => (q_lt rfl rfl)) (by kernel_rfl) ?_
      first | refine at_q (i := 21) (li := #[true, true, true, true, true, true, true, true, true, true, true, true, true, true, true, true, true, true, true, true, true, true]) rfl (by kernel_rfl) rfl (fun _ => (q_pick_t rfl rfl)) (by kernel_rfl) ?_ | refine at_q (i := 21) (li := #[true, true, true, true, true, true, true, true, true, true, true, true, true, true, true, true, true, true, true, true, true, true]) rfl (by kernel_rfl) rfl (fun _ => (q_pick_f rfl rfl)) (by kernel_rfl) ?_ | refine at_q (i := 21) (li := #[true, true, true, true, true, true, true, true, true, true, true, true, true, true, true, true, true, true, true, true, true, true]) rfl (by kernel_rfl) rfl (fun _ => (q_pick rfl rfl rfl)) (by kernel_rfl) ?_
      refine at_done (by kernel_rfl) (hK6 _ _ ?_)
      clear hK6 K6
      have hl : 2 * r + 2 < hi → ltE d2[f + (2 * r + 1)]! d2[f + (2 * r + 1) + 1]! = false := fun h => absurd h (by omega)
      refine cw_false rfl ?_
      skip
      · skip
        refine cw_skip ?_
        refine hK5 _ _ ?_
        clear hK5 K5
        refine cw_seq fun K7 hK7 => ?_
        refine cw_rd (by kernel_rfl) (by kernel_rfl) (by kernel_rfl) rfl rfl fun K8 hK8 => ?_
        -- region 5
        have hs2 := Step.drew hs1.sat
        replace hd := hd.then hs2
        replace hT := hT.then hs2
        refine at_q (i := 0) (li := #[true, false, false, false, false, false, false, false, false, false, false, false, false, false, false, false]) rfl (by kernel_rfl) rfl (fun _ => (q_move rfl)) (by kernel_rfl) ?_
        refine at_q (i := 1) (li := #[true, true, false, false, false, false, false, false, false, false, false, false, false, false, false, false]) rfl (by kernel_rfl) rfl (fun _ => (q_move rfl)) (by kernel_rfl) ?_
        refine at_q (i := 2) (li := #[true, true, true, false, false, false, false, false, false, false, false, false, false, false, false, false]) rfl (by kernel_rfl) rfl (fun _ => (q_move rfl)) (by kernel_rfl) ?_
        refine at_q (i := 3) (li := #[true, true, true, true, false, false, false, false, false, false, false, false, false, false, false, false]) rfl (by kernel_rfl) rfl (fun _ => (q_move rfl)) (by kernel_rfl) ?_
        refine at_q (i := 4) (li := #[true, true, true, true, true, false, false, false, false, false, false, false, false, false, false, false]) rfl (by kernel_rfl) rfl (fun _ => (q_addx rfl rfl (by omega) (by omega))) (by kernel_rfl) ?_
        refine at_q (i := 5) (li := #[true, true, true, true, true, true, false, false, false, false, false, false, false, false, false, false]) rfl (by kernel_rfl) rfl (fun _ => (q_indexAddr (e := 23) (size := 2) (by kernel_rfl) (by kernel_rfl) rfl rfl (by omega) (by omega))) (by kernel_rfl) ?_
        refine at_l (i := 6) (li := #[true, true, true, true, true, true, true, false, false, false, false, false, false, false, false, false]) (cellsAre _ _ 2 _) rfl (by kernel_rfl) rfl (fun _ h => q_loadc (n := 2) (by kernel_rfl) rfl h) (hd.elem (i := ((f : Nat) + (r : Nat) : Int)) (by omega) (by omega)) (by kernel_rfl) ?_
        refine at_q (i := 7) (li := #[true, true, true, true, true, true, true, true, false, false, false, false, false, false, false, false]) rfl (by kernel_rfl) rfl (fun _ => (q_move rfl)) (by kernel_rfl) ?_
        refine at_q (i := 8) (li := #[true, true, true, true, true, true, true, true, true, false, false, false, false, false, false, false]) rfl (by kernel_rfl) rfl (fun _ => (q_move rfl)) (by kernel_rfl) ?_
        refine at_q (i := 9) (li := #[true, true, true, true, true, true, true, true, true, true, false, false, false, false, false, false]) rfl (by kernel_rfl) rfl (fun _ => (q_move rfl)) (by kernel_rfl) ?_
        refine at_q (i := 10) (li := #[true, true, true, true, true, true, true, true, true, true, true, false, false, false, false, false]) rfl (by kernel_rfl) rfl (fun _ => (q_addx rfl rfl (by omega) (by omega))) (by kernel_rfl) ?_
        refine at_q (i := 11) (li := #[true, true, true, true, true, true, true, true, true, true, true, true, false, false, false, false]) rfl (by kernel_rfl) rfl (fun _ => (q_indexAddr (e := 23) (size := 2) (by kernel_rfl) (by kernel_rfl) rfl rfl (by omega) (by omega))) (by kernel_rfl) ?_
        refine at_l (i := 12) (li := #[true, true, true, true, true, true, true, true, true, true, true, true, true, false, false, false]) (cellsAre _ _ 2 _) rfl (by kernel_rfl) rfl (fun _ h => q_loadc (n := 2) (by kernel_rfl) rfl h) (hd.elem (i := ((f : Nat) + (2 * r + 1 : Nat) : Int)) (by omega) (by omega)) (by kernel_rfl) ?_
        refine at_h (i := 13) (li := #[true, true, true, true, true, true, true, true, true, true, true, true, true, true, false, false]) rfl (by kernel_rfl) rfl (keep_sift (bs := [true, true]) (by kernel_rfl)) (by kernel_rfl) (h_callv (f := 16) (first := []) (cap := []) (by kernel_rfl) rfl rfl rfl ?_)
        refine (srt_compare (a := d2[((f : Nat) + (r : Nat) : Int).toNat]!) (b := d2[((f : Nat) + (2 * r + 1 : Nat) : Int).toNat]!) hs2.sat).mono ?_
        rintro _ w3 ⟨rfl, hs3⟩
        replace hd := hd.then hs3
        replace hT := hT.then hs3
        refine ⟨(by repeat' first | exact trivial | exact (hd.elem (i := ((f : Nat) + (r : Nat) : Int)) (by omega) (by omega)) | exact (hd.elem (i := ((f : Nat) + (2 * r + 1 : Nat) : Int)) (by omega) (by omega)) | assumption | refine all_keep ?_ | refine And.intro ?_ ?_), ?_⟩
        first | refine at_q (i := 14) (li := #[true, true, true, true, true, true, true, true, true, true, true, true, true, true, true, false]) rfl (by kernel_rfl) rfl (fun _ => (q_ltT rfl rfl (by omega))) (by kernel_rfl) ?_ | refine at_q (i := 14) (li := #[true, true, true, true, true, true, true, true, true, true, true, true, true, true, true, false]) rfl (by kernel_rfl) rfl (fun _ => (q_ltF rfl rfl (by omega))) (by kernel_rfl) ?_ | refine at_q (i := 14) (li := #[true, true, true, true, true, true, true, true, true, true, true, true, true, true, true, false]) rfl (by kernel_rfl) rfl (fun _ => (q_lt rfl rfl)) (by kernel_rfl) ?_
        refine at_q (i := 15) (li := #[true, true, true, true, true, true, true, true, true, true, true, true, true, true, true, true]) rfl (by kernel_rfl) rfl (fun _ => (q_not rfl)) (by kernel_rfl) ?_
        refine at_done (by kernel_rfl) (hK8 _ _ ?_)
        clear hK8 K8
        refine cw_cond rfl (fun hc2 => ?_) (fun hc2 => ?_)
        · skip
          have hm : ltE d2[f + r]! d2[f + (2 * r + 1)]! = false := (Bool.not_eq_true' _).mp hc2
          refine cw_ret ?_
          rw [sd_left hst hl, if_neg (by rw [hm]; simp)] at hsd
          subst hsd
          exact ⟨_, res_nil, hT, hd⟩
        · skip
          have hm : ltE d2[f + r]! d2[f + (2 * r + 1)]! = true := (Bool.not_eq_false' _).mp hc2
          refine cw_skip ?_
          refine hK7 _ _ ?_
          clear hK7 K7
          refine cw_rd (by kernel_rfl) (by kernel_rfl) (by kernel_rfl) rfl rfl fun K9 hK9 => ?_
          -- region 6
          have hs4 := Step.drew hs3.sat
          replace hd := hd.then hs4
          replace hT := hT.then hs4
          refine at_q (i := 0) (li := #[true, false, false, false, false, false, false, false, false, false, false, false, false, false, false, false, false, false, false, false, false, false, false, false]) rfl (by kernel_rfl) rfl (fun _ => (q_move rfl)) (by kernel_rfl) ?_
          refine at_q (i := 1) (li := #[true, true, false, false, false, false, false, false, false, false, false, false, false, false, false, false, false, false, false, false, false, false, false, false]) rfl (by kernel_rfl) rfl (fun _ => (q_move rfl)) (by kernel_rfl) ?_
          refine at_q (i := 2) (li := #[true, true, true, false, false, false, false, false, false, false, false, false, false, false, false, false, false, false, false, false, false, false, false, false]) rfl (by kernel_rfl) rfl (fun _ => (q_move rfl)) (by kernel_rfl) ?_
          refine at_q (i := 3) (li := #[true, true, true, true, false, false, false, false, false, false, false, false, false, false, false, false, false, false, false, false, false, false, false, false]) rfl (by kernel_rfl) rfl (fun _ => (q_addx rfl rfl (by omega) (by omega))) (by kernel_rfl) ?_
          refine at_q (i := 4) (li := #[true, true, true, true, true, false, false, false, false, false, false, false, false, false, false, false, false, false, false, false, false, false, false, false]) rfl (by kernel_rfl) rfl (fun _ => (q_move rfl)) (by kernel_rfl) ?_
          refine at_q (i := 5) (li := #[true, true, true, true, true, true, false, false, false, false, false, false, false, false, false, false, false, false, false, false, false, false, false, false]) rfl (by kernel_rfl) rfl (fun _ => (q_move rfl)) (by kernel_rfl) ?_
          refine at_q (i := 6) (li := #[true, true, true, true, true, true, true, false, false, false, false, false, false, false, false, false, false, false, false, false, false, false, false, false]) rfl (by kernel_rfl) rfl (fun _ => (q_move rfl)) (by kernel_rfl) ?_
          refine at_q (i := 7) (li := #[true, true, true, true, true, true, true, true, false, false, false, false, false, false, false, false, false, false, false, false, false, false, false, false]) rfl (by kernel_rfl) rfl (fun _ => (q_addx rfl rfl (by omega) (by omega))) (by kernel_rfl) ?_
          refine at_q (i := 8) (li := #[true, true, true, true, true, true, true, true, true, false, false, false, false, false, false, false, false, false, false, false, false, false, false, false]) rfl (by kernel_rfl) rfl (fun _ => (q_move rfl)) (by kernel_rfl) ?_
          refine at_q (i := 9) (li := #[true, true, true, true, true, true, true, true, true, true, false, false, false, false, false, false, false, false, false, false, false, false, false, false]) rfl (by kernel_rfl) rfl (fun _ => (q_move rfl)) (by kernel_rfl) ?_
          refine at_q (i := 10) (li := #[true, true, true, true, true, true, true, true, true, true, true, false, false, false, false, false, false, false, false, false, false, false, false, false]) rfl (by kernel_rfl) rfl (fun _ => (q_move rfl)) (by kernel_rfl) ?_
          refine at_q (i := 11) (li := #[true, true, true, true, true, true, true, true, true, true, true, true, false, false, false, false, false, false, false, false, false, false, false, false]) rfl (by kernel_rfl) rfl (fun _ => (q_addx rfl rfl (by omega) (by omega))) (by kernel_rfl) ?_
          refine at_q (i := 12) (li := #[true, true, true, true, true, true, true, true, true, true, true, true, true, false, false, false, false, false, false, false, false, false, false, false]) rfl (by kernel_rfl) rfl (fun _ => (q_indexAddr (e := 23) (size := 2) (by kernel_rfl) (by kernel_rfl) rfl rfl (by omega) (by omega))) (by kernel_rfl) ?_
          refine at_l (i := 13) (li := #[true, true, true, true, true, true, true, true, true, true, true, true, true, true, false, false, false, false, false, false, false, false, false, false]) (cellsAre _ _ 2 _) rfl (by kernel_rfl) rfl (fun _ h => q_loadc (n := 2) (by kernel_rfl) rfl h) (hd.elem (i := ((f : Nat) + (2 * r + 1 : Nat) : Int)) (by omega) (by omega)) (by kernel_rfl) ?_
          refine at_q (i := 14) (li := #[true, true, true, true, true, true, true, true, true, true, true, true, true, true, true, false, false, false, false, false, false, false, false, false]) rfl (by kernel_rfl) rfl (fun _ => (q_move rfl)) (by kernel_rfl) ?_
          refine at_q (i := 15) (li := #[true, true, true, true, true, true, true, true, true, true, true, true, true, true, true, true, false, false, false, false, false, false, false, false]) rfl (by kernel_rfl) rfl (fun _ => (q_move rfl)) (by kernel_rfl) ?_
          refine at_q (i := 16) (li := #[true, true, true, true, true, true, true, true, true, true, true, true, true, true, true, true, true, false, false, false, false, false, false, false]) rfl (by kernel_rfl) rfl (fun _ => (q_move rfl)) (by kernel_rfl) ?_
          refine at_q (i := 17) (li := #[true, true, true, true, true, true, true, true, true, true, true, true, true, true, true, true, true, true, false, false, false, false, false, false]) rfl (by kernel_rfl) rfl (fun _ => (q_addx rfl rfl (by omega) (by omega))) (by kernel_rfl) ?_
          refine at_q (i := 18) (li := #[true, true, true, true, true, true, true, true, true, true, true, true, true, true, true, true, true, true, true, false, false, false, false, false]) rfl (by kernel_rfl) rfl (fun _ => (q_indexAddr (e := 23) (size := 2) (by kernel_rfl) (by kernel_rfl) rfl rfl (by omega) (by omega))) (by kernel_rfl) ?_
          refine at_l (i := 19) (li := #[true, true, true, true, true, true, true, true, true, true, true, true, true, true, true, true, true, true, true, true, false, false, false, false]) (cellsAre _ _ 2 _) rfl (by kernel_rfl) rfl (fun _ h => q_loadc (n := 2) (by kernel_rfl) rfl h) (hd.elem (i := ((f : Nat) + (r : Nat) : Int)) (by omega) (by omega)) (by kernel_rfl) ?_
          refine at_q (i := 20) (li := #[true, true, true, true, true, true, true, true, true, true, true, true, true, true, true, true, true, true, true, true, true, false, false, false]) rfl (by kernel_rfl) rfl (fun _ => (q_indexAddr (e := 23) (size := 2) (by kernel_rfl) (by kernel_rfl) rfl rfl (by omega) (by omega))) (by kernel_rfl) ?_
          refine at_h0 (i := 21) (li := #[true, true, true, true, true, true, true, true, true, true, true, true, true, true, true, true, true, true, true, true, true, true, false, false]) rfl (by kernel_rfl) (keep_sift (bs := [true, true]) (by kernel_rfl)) (by kernel_rfl) (h_storeD (i := ((f : Nat) + (r : Nat) : Int)) (e := d2[((f : Nat) + (2 * r + 1 : Nat) : Int).toNat]!) hs4.sat hd rfl rfl (by kernel_rfl) (by omega) (by omega) fun w5 hs5 hd5 => ?_)
          replace hT := hT.also hs5
          clear hd; have hd := hd5; clear hd5
          refine ⟨(by repeat' first | exact trivial | exact (hd.elem (i := ((f : Nat) + (2 * r + 1 : Nat) : Int)) (by omega) (by omega)) | exact (hd.elem (i := ((f : Nat) + (r : Nat) : Int)) (by omega) (by omega)) | assumption | refine all_keep ?_ | refine And.intro ?_ ?_), ?_⟩
          refine at_q (i := 22) (li := #[true, true, true, true, true, true, true, true, true, true, true, true, true, true, true, true, true, true, true, true, true, true, true, false]) rfl (by kernel_rfl) rfl (fun _ => (q_indexAddr (e := 23) (size := 2) (by kernel_rfl) (by kernel_rfl) rfl rfl (by omega) (by omega))) (by kernel_rfl) ?_
          refine at_h0 (i := 23) (li := #[true, true, true, true, true, true, true, true, true, true, true, true, true, true, true, true, true, true, true, true, true, true, true, true]) rfl (by kernel_rfl) rfl (by kernel_rfl) (h_storeD (i := ((f : Nat) + (2 * r + 1 : Nat) : Int)) (e := d2[((f : Nat) + (r : Nat) : Int).toNat]!) hs5.sat hd rfl rfl (by kernel_rfl) (by omega) (by omega) fun w6 hs6 hd6 => ?_)
          replace hT := hT.also hs6
          clear hd; have hd := hd6; clear hd6
          refine ⟨(by repeat' first | exact trivial | exact (hd.elem (i := ((f : Nat) + (2 * r + 1 : Nat) : Int)) (by omega) (by omega)) | exact (hd.elem (i := ((f : Nat) + (r : Nat) : Int)) (by omega) (by omega)) | assumption | refine all_keep ?_ | refine And.intro ?_ ?_), ?_⟩
          refine at_done (by kernel_rfl) (hK9 _ _ ?_)
          clear hK9 K9
          refine cw_region fun K10 hK10 => ?_
          -- region 7
          refine as_q rfl rfl (q_move rfl) ?_
          refine as_q rfl rfl (q_assign rfl) ?_
          refine as_nil (hK10 _ _ ?_)
          clear hK10 K10
          refine ⟨_, _, ?_, (.cons rfl (.cons rfl (.cons rfl (.cons rfl (.cons rfl (.nil _)))))), 2 * r + 1, Go.Sort.swp d2 (f + r) (f + (2 * r + 1)), rfl, ?_, by omega, rfl, hT, hd⟩
          · omega
          · rw [← hsd, sd_left hst hl, if_pos hm]
    · skip
      refine cw_rd (by kernel_rfl) (by kernel_rfl) (by kernel_rfl) rfl rfl fun K11 hK11 => ?_
      -- region 3
      have hs7 := Step.drew hT.sat
      replace hd := hd.then hs7
      replace hT := hT.then hs7
      refine at_q (i := 0) (li := #[true, false, false, false, false, false, false, false, false, false, false, false, false, false, false, false, false, false, false, false, false, false]) rfl (by kernel_rfl) rfl (fun _ => (q_move rfl)) (by kernel_rfl) ?_
      refine at_q (i := 1) (li := #[true, true, false, false, false, false, false, false, false, false, false, false, false, false, false, false, false, false, false, false, false, false]) rfl (by kernel_rfl) rfl (fun _ => (q_addx rfl rfl (by omega) (by omega))) (by kernel_rfl) ?_
      refine at_q (i := 2) (li := #[true, true, true, false, false, false, false, false, false, false, false, false, false, false, false, false, false, false, false, false, false, false]) rfl (by kernel_rfl) rfl (fun _ => (q_move rfl)) (by kernel_rfl) ?_
      first | refine at_q (i := 3) (li := #[true, true, true, true, false, false, false, false, false, false, false, false, false, false, false, false, false, false, false, false, false, false]) rfl (by kernel_rfl) rfl (fun _ => (q_ltT rfl rfl (by omega))) (by kernel_rfl) ?_ | refine at_q (i := 3) (li := #[true, true, true, true, false, false, false, false, false, false, false, false, false, false, false, false, false, false, false, false, false, false]) rfl (by kernel_rfl) rfl (fun _ => (q_ltF rfl rfl (by omega))) (by kernel_rfl) ?_ | refine at_q (i := 3) (li := #[true, true, true, true, false, false, false, false, false, false, false, false, false, false, false, false, false, false, false, false, false, false]) rfl (by kernel_rfl) rfl (fun _ => (q_lt rfl rfl)) (by kernel_rfl) ?_
      refine at_q (i := 4) (li := #[true, true, true, true, true, false, false, false, false, false, false, false, false, false, false, false, false, false, false, false, false, false]) rfl (by kernel_rfl) rfl (fun _ => (q_move rfl)) (by kernel_rfl) ?_
      first | refine at_gskip (i := 5) (li := #[true, true, true, true, true, true, false, false, false, false, false, false, false, false, false, false, false, false, false, false, false, false]) rfl (by kernel_rfl) rfl rfl rfl rfl rfl (by kernel_rfl) ?_ | refine at_gskipU (i := 5) (li := #[true, true, true, true, true, true, false, false, false, false, false, false, false, false, false, false, false, false, false, false, false, false]) rfl (by kernel_rfl) rfl rfl rfl rfl (by kernel_rfl) ?_ | refine at_gp (i := 5) (li := #[true, true, true, true, true, true, false, false, false, false, false, false, false, false, false, false, false, false, false, false, false, false]) rfl (by kernel_rfl) rfl rfl rfl rfl (fun _ => (q_move rfl)) (by kernel_rfl) ?_
      first | refine at_gskip (i := 6) (li := #[true, true, true, true, true, true, true, false, false, false, false, false, false, false, false, false, false, false, false, false, false, false]) rfl (by kernel_rfl) rfl rfl rfl rfl rfl (by kernel_rfl) ?_ | refine at_gskipU (i := 6) (li := #[true, true, true, true, true, true, true, false, false, false, false, false, false, false, false, false, false, false, false, false, false, false]) rfl (by kernel_rfl) rfl rfl rfl rfl (by kernel_rfl) ?_ | refine at_gp (i := 6) (li := #[true, true, true, true, true, true, true, false, false, false, false, false, false, false, false, false, false, false, false, false, false, false]) rfl (by kernel_rfl) rfl rfl rfl rfl (fun _ => (q_move rfl)) (by kernel_rfl) ?_
      first | refine at_gskip (i := 7) (li := #[true, true, true, true, true, true, true, true, false, false, false, false, false, false, false, false, false, false, false, false, false, false]) rfl (by kernel_rfl) rfl rfl rfl rfl rfl (by kernel_rfl) ?_ | refine at_gskipU (i := 7) (li := #[true, true, true, true, true, true, true, true, false, false, false, false, false, false, false, false, false, false, false, false, false, false]) rfl (by kernel_rfl) rfl rfl rfl rfl (by kernel_rfl) ?_ | refine at_gp (i := 7) (li := #[true, true, true, true, true, true, true, true, false, false, false, false, false, false, false, false, false, false, false, false, false, false]) rfl (by kernel_rfl) rfl rfl rfl rfl (fun _ => (q_move rfl)) (by kernel_rfl) ?_
      first | refine at_gskip (i := 8) (li := #[true, true, true, true, true, true, true, true, true, false, false, false, false, false, false, false, false, false, false, false, false, false]) rfl (by kernel_rfl) rfl rfl rfl rfl rfl (by kernel_rfl) ?_ | refine at_gskipU (i := 8) (li := #[true, true, true, true, true, true, true, true, true, false, false, false, false, false, false, false, false, false, false, false, false, false]) rfl (by kernel_rfl) rfl rfl rfl rfl (by kernel_rfl) ?_ | refine at_gp (i := 8) (li := #[true, true, true, true, true, true, true, true, true, false, false, false, false, false, false, false, false, false, false, false, false, false]) rfl (by kernel_rfl) rfl rfl rfl rfl (fun _ => (q_move rfl)) (by kernel_rfl) ?_
      first | refine at_gskip (i := 9) (li := #[true, true, true, true, true, true, true, true, true, true, false, false, false, false, false, false, false, false, false, false, false, false]) rfl (by kernel_rfl) rfl rfl rfl rfl rfl (by kernel_rfl) ?_ | refine at_gskipU (i := 9) (li := #[true, true, true, true, true, true, true, true, true, true, false, false, false, false, false, false, false, false, false, false, false, false]) rfl (by kernel_rfl) rfl rfl rfl rfl (by kernel_rfl) ?_ | refine at_gp (i := 9) (li := #[true, true, true, true, true, true, true, true, true, true, false, false, false, false, false, false, false, false, false, false, false, false]) rfl (by kernel_rfl) rfl rfl rfl rfl (fun _ => (q_addx rfl rfl (by omega) (by omega))) (by kernel_rfl) ?_
      first | refine at_gskip (i := 10) (li := #[true, true, true, true, true, true, true, true, true, true, true, false, false, false, false, false, false, false, false, false, false, false]) rfl (by kernel_rfl) rfl rfl rfl rfl rfl (by kernel_rfl) ?_ | refine at_gskipU (i := 10) (li := #[true, true, true, true, true, true, true, true, true, true, true, false, false, false, false, false, false, false, false, false, false, false]) rfl (by kernel_rfl) rfl rfl rfl rfl (by kernel_rfl) ?_ | refine at_gp (i := 10) (li := #[true, true, true, true, true, true, true, true, true, true, true, false, false, false, false, false, false, false, false, false, false, false]) rfl (by kernel_rfl) rfl rfl rfl rfl (fun _ => (q_indexAddr (e := 23) (size := 2) (by kernel_rfl) (by kernel_rfl) rfl rfl (by omega) (by omega))) (by kernel_rfl) ?_
      first | refine at_gskip (i := 11) (li := #[true, true, true, true, true, true, true, true, true, true, true, true, false, false, false, false, false, false, false, false, false, false]) rfl (by kernel_rfl) rfl rfl rfl rfl rfl (by kernel_rfl) ?_ | refine at_gskipU (i := 11) (li := #[true, true, true, true, true, true, true, true, true, true, true, true, false, false, false, false, false, false, false, false, false, false]) rfl (by kernel_rfl) rfl rfl rfl rfl (by kernel_rfl) ?_ | refine at_gq (i := 11) (li := #[true, true, true, true, true, true, true, true, true, true, true, true, false, false, false, false, false, false, false, false, false, false]) (cellsAre _ _ 2 _) rfl (by kernel_rfl) rfl rfl rfl rfl (fun _ h => q_loadc (n := 2) (by kernel_rfl) rfl h) (hd.elem (i := ((f : Nat) + (2 * r + 1 : Nat) : Int)) (by omega) (by omega)) (by kernel_rfl) ?_
      first | refine at_gskip (i := 12) (li := #[true, true, true, true, true, true, true, true, true, true, true, true, true, false, false, false, false, false, false, false, false, false]) rfl (by kernel_rfl) rfl rfl rfl rfl rfl (by kernel_rfl) ?_ | refine at_gskipU (i := 12) (li := #[true, true, true, true, true, true, true, true, true, true, true, true, true, false, false, false, false, false, false, false, false, false]) rfl (by kernel_rfl) rfl rfl rfl rfl (by kernel_rfl) ?_ | refine at_gp (i := 12) (li := #[true, true, true, true, true, true, true, true, true, true, true, true, true, false, false, false, false, false, false, false, false, false]) rfl (by kernel_rfl) rfl rfl rfl rfl (fun _ => (q_move rfl)) (by kernel_rfl) ?_
      first | refine at_gskip (i := 13) (li := #[true, true, true, true, true, true, true, true, true, true, true, true, true, true, false, false, false, false, false, false, false, false]) rfl (by kernel_rfl) rfl rfl rfl rfl rfl (by kernel_rfl) ?_ | refine at_gskipU (i := 13) (li := #[true, true, true, true, true, true, true, true, true, true, true, true, true, true, false, false, false, false, false, false, false, false]) rfl (by kernel_rfl) rfl rfl rfl rfl (by kernel_rfl) ?_ | refine at_gp (i := 13) (li := #[true, true, true, true, true, true, true, true, true, true, true, true, true, true, false, false, false, false, false, false, false, false]) rfl (by kernel_rfl) rfl rfl rfl rfl (fun _ => (q_move rfl)) (by kernel_rfl) ?_
      first | refine at_gskip (i := 14) (li := #[true, true, true, true, true, true, true, true, true, true, true, true, true, true, true, false, false, false, false, false, false, false]) rfl (by kernel_rfl) rfl rfl rfl rfl rfl (by kernel_rfl) ?_ | refine at_gskipU (i := 14) (li := #[true, true, true, true, true, true, true, true, true, true, true, true, true, true, true, false, false, false, false, false, false, false]) rfl (by kernel_rfl) rfl rfl rfl rfl (by kernel_rfl) ?_ | refine at_gp (i := 14) (li := #[true, true, true, true, true, true, true, true, true, true, true, true, true, true, true, false, false, false, false, false, false, false]) rfl (by kernel_rfl) rfl rfl rfl rfl (fun _ => (q_move rfl)) (by kernel_rfl) ?_
      first | refine at_gskip (i := 15) (li := #[true, true, true, true, true, true, true, true, true, true, true, true, true, true, true, true, false, false, false, false, false, false]) rfl (by kernel_rfl) rfl rfl rfl rfl rfl (by kernel_rfl) ?_ | refine at_gskipU (i := 15) (li := #[true, true, true, true, true, true, true, true, true, true, true, true, true, true, true, true, false, false, false, false, false, false]) rfl (by kernel_rfl) rfl rfl rfl rfl (by kernel_rfl) ?_ | refine at_gp (i := 15) (li := #[true, true, true, true, true, true, true, true, true, true, true, true, true, true, true, true, false, false, false, false, false, false]) rfl (by kernel_rfl) rfl rfl rfl rfl (fun _ => (q_addx rfl rfl (by omega) (by omega))) (by kernel_rfl) ?_
      first | refine at_gskip (i := 16) (li := #[true, true, true, true, true, true, true, true, true, true, true, true, true, true, true, true, true, false, false, false, false, false]) rfl (by kernel_rfl) rfl rfl rfl rfl rfl (by kernel_rfl) ?_ | refine at_gskipU (i := 16) (li := #[true, true, true, true, true, true, true, true, true, true, true, true, true, true, true, true, true, false, false, false, false, false]) rfl (by kernel_rfl) rfl rfl rfl rfl (by kernel_rfl) ?_ | refine at_gp (i := 16) (li := #[true, true, true, true, true, true, true, true, true, true, true, true, true, true, true, true, true, false, false, false, false, false]) rfl (by kernel_rfl) rfl rfl rfl rfl (fun _ => (q_addx rfl rfl (by omega) (by omega))) (by kernel_rfl) ?_
      first | refine at_gskip (i := 17) (li := #[true, true, true, true, true, true, true, true, true, true, true, true, true, true, true, true, true, true, false, false, false, false]) rfl (by kernel_rfl) rfl rfl rfl rfl rfl (by kernel_rfl) ?_ | refine at_gskipU (i := 17) (li := #[true, true, true, true, true, true, true, true, true, true, true, true, true, true, true, true, true, true, false, false, false, false]) rfl (by kernel_rfl) rfl rfl rfl rfl (by kernel_rfl) ?_ | refine at_gp (i := 17) (li := #[true, true, true, true, true, true, true, true, true, true, true, true, true, true, true, true, true, true, false, false, false, false]) rfl (by kernel_rfl) rfl rfl rfl rfl (fun _ => (q_indexAddr (e := 23) (size := 2) (by kernel_rfl) (by kernel_rfl) rfl rfl (by omega) (by omega))) (by kernel_rfl) ?_
      first | refine at_gskip (i := 18) (li := #[true, true, true, true, true, true, true, true, true, true, true, true, true, true, true, true, true, true, true, false, false, false]) rfl (by kernel_rfl) rfl rfl rfl rfl rfl (by kernel_rfl) ?_ | refine at_gskipU (i := 18) (li := #[true, true, true, true, true, true, true, true, true, true, true, true, true, true, true, true, true, true, true, false, false, false]) rfl (by kernel_rfl) rfl rfl rfl rfl (by kernel_rfl) ?_ | refine at_gq (i := 18) (li := #[true, true, true, true, true, true, true, true, true, true, true, true, true, true, true, true, true, true, true, false, false, false]) (cellsAre _ _ 2 _) rfl (by kernel_rfl) rfl rfl rfl rfl (fun _ h => q_loadc (n := 2) (by kernel_rfl) rfl h) (hd.elem (i := ((f : Nat) + (2 * r + 1 : Nat) + 1 : Int)) (by omega) (by omega)) (by kernel_rfl) ?_
      refine at_gh (i := 19) (li := #[true, true, true, true, true, true, true, true, true, true, true, true, true, true, true, true, true, true, true, true, false, false]) rfl (by kernel_rfl) rfl rfl rfl rfl rfl (by kernel_rfl) (h_callv (f := 16) (first := []) (cap := []) (by kernel_rfl) rfl rfl rfl ?_)
      refine (srt_compare (a := d2[((f : Nat) + (2 * r + 1 : Nat) : Int).toNat]!) (b := d2[((f : Nat) + (2 * r + 1 : Nat) + 1 : Int).toNat]!) hs7.sat).mono ?_
      rintro _ w8 ⟨rfl, hs8⟩
      replace hd := hd.then hs8
      replace hT := hT.then hs8
      refine ⟨(by repeat' first | exact trivial | exact (hd.elem (i := ((f : Nat) + (2 * r + 1 : Nat) : Int)) (by omega) (by omega)) | exact (hd.elem (i := ((f : Nat) + (2 * r + 1 : Nat) + 1 : Int)) (by omega) (by omega)) | assumption | refine all_keep ?_ | refine And.intro ?_ ?_), ?_⟩
      first | refine at_gskip (i := 20) (li := #[true, true, true, true, true, true, true, true, true, true, true, true, true, true, true, true, true, true, true, true, true, false]) rfl (by kernel_rfl) rfl rfl rfl rfl rfl (by kernel_rfl) ?_ | refine at_gskipU (i := 20) (li := #[true, true, true, true, true, true, true, true, true, true, true, true, true, true, true, true, true, true, true, true, true, false]) rfl (by kernel_rfl) rfl rfl rfl rfl (by kernel_rfl) ?_ | refine at_gp (i := 20) (li := #[true, true, true, true, true, true, true, true, true, true, true, true, true, true, true, true, true, true, true, true, true, false]) rfl (by kernel_rfl) rfl rfl rfl rfl (fun _ => (q_ltT rfl rfl (by omega))) (by kernel_rfl) ?_ | refine at_gp (i := 20) (li := #[true, true, true, true, true, true, true, true, true, true, true, true, true, true, true, true, true, true, true, true, true, false]) rfl (by kernel_rfl) rfl rfl rfl rfl (fun _ => (q_ltF rfl rfl (by omega))) (by kernel_rfl) ?_ | refine at_gp (i := 20) (li := #[true, true, true, true, true, true, true, true, true, true, true, true, true, true, true, true, true, true, true, true, true, false]) rfl (by kernel_rfl) rfl rfl rfl rfl (fun _ => (q_lt rfl rfl)) (by kernel_rfl) ?_
      first | refine at_q (i := 21) (li := #[true, true, true, true, true, true, true, true, true, true, true, true, true, true, true, true, true, true, true, true, true, true]) rfl (by kernel_rfl) rfl (fun _ => (q_pick_t rfl rfl)) (by kernel_rfl) ?_ | refine at_q (i := 21) (li := #[true, true, true, true, true, true, true, true, true, true, true, true, true, true, true, true, true, true, true, true, true, true]) rfl (by kernel_rfl) rfl (fun _ => (q_pick_f rfl rfl)) (by kernel_rfl) ?_ | refine at_q (i := 21) (li := #[true, true, true, true, true, true, true, true, true, true, true, true, true, true, true, true, true, true, true, true, true, true]) rfl (by kernel_rfl) rfl (fun _ => (q_pick rfl rfl rfl)) (by kernel_rfl) ?_
      refine at_done (by kernel_rfl) (hK11 _ _ ?_)
      clear hK11 K11
      refine cw_cond rfl (fun hc1 => ?_) (fun hc1 => ?_)
      · skip
        have hl : ltE d2[f + (2 * r + 1)]! d2[f + (2 * r + 1) + 1]! = true := hc1
        skip
        · skip
          refine cw_region fun K12 hK12 => ?_
          -- region 4
          refine as_q rfl rfl (q_move rfl) ?_
          refine as_q rfl rfl (q_congr (q_addx rfl rfl (by omega) (by omega)) (v' := .int .i64 (2 * r + 2 : Nat)) (congrArg (Value.int .i64) (by omega))) ?_
          refine as_q rfl rfl (q_assign rfl) ?_
          refine as_nil (hK12 _ _ ?_)
          clear hK12 K12
          refine hK5 _ _ ?_
          clear hK5 K5
          refine cw_seq fun K13 hK13 => ?_
          refine cw_rd (by kernel_rfl) (by kernel_rfl) (by kernel_rfl) rfl rfl fun K14 hK14 => ?_
          -- region 5
          have hs9 := Step.drew hs8.sat
          replace hd := hd.then hs9
          replace hT := hT.then hs9
          refine at_q (i := 0) (li := #[true, false, false, false, false, false, false, false, false, false, false, false, false, false, false, false]) rfl (by kernel_rfl) rfl (fun _ => (q_move rfl)) (by kernel_rfl) ?_
          refine at_q (i := 1) (li := #[true, true, false, false, false, false, false, false, false, false, false, false, false, false, false, false]) rfl (by kernel_rfl) rfl (fun _ => (q_move rfl)) (by kernel_rfl) ?_
          refine at_q (i := 2) (li := #[true, true, true, false, false, false, false, false, false, false, false, false, false, false, false, false]) rfl (by kernel_rfl) rfl (fun _ => (q_move rfl)) (by kernel_rfl) ?_
          refine at_q (i := 3) (li := #[true, true, true, true, false, false, false, false, false, false, false, false, false, false, false, false]) rfl (by kernel_rfl) rfl (fun _ => (q_move rfl)) (by kernel_rfl) ?_
          refine at_q (i := 4) (li := #[true, true, true, true, true, false, false, false, false, false, false, false, false, false, false, false]) rfl (by kernel_rfl) rfl (fun _ => (q_addx rfl rfl (by omega) (by omega))) (by kernel_rfl) ?_
          refine at_q (i := 5) (li := #[true, true, true, true, true, true, false, false, false, false, false, false, false, false, false, false]) rfl (by kernel_rfl) rfl (fun _ => (q_indexAddr (e := 23) (size := 2) (by kernel_rfl) (by kernel_rfl) rfl rfl (by omega) (by omega))) (by kernel_rfl) ?_
          refine at_l (i := 6) (li := #[true, true, true, true, true, true, true, false, false, false, false, false, false, false, false, false]) (cellsAre _ _ 2 _) rfl (by kernel_rfl) rfl (fun _ h => q_loadc (n := 2) (by kernel_rfl) rfl h) (hd.elem (i := ((f : Nat) + (r : Nat) : Int)) (by omega) (by omega)) (by kernel_rfl) ?_
          refine at_q (i := 7) (li := #[true, true, true, true, true, true, true, true, false, false, false, false, false, false, false, false]) rfl (by kernel_rfl) rfl (fun _ => (q_move rfl)) (by kernel_rfl) ?_
          refine at_q (i := 8) (li := #[true, true, true, true, true, true, true, true, true, false, false, false, false, false, false, false]) rfl (by kernel_rfl) rfl (fun _ => (q_move rfl)) (by kernel_rfl) ?_
          refine at_q (i := 9) (li := #[true, true, true, true, true, true, true, true, true, true, false, false, false, false, false, false]) rfl (by kernel_rfl) rfl (fun _ => (q_move rfl)) (by kernel_rfl) ?_
          refine at_q (i := 10) (li := #[true, true, true, true, true, true, true, true, true, true, true, false, false, false, false, false]) rfl (by kernel_rfl) rfl (fun _ => (q_addx rfl rfl (by omega) (by omega))) (by kernel_rfl) ?_
          refine at_q (i := 11) (li := #[true, true, true, true, true, true, true, true, true, true, true, true, false, false, false, false]) rfl (by kernel_rfl) rfl (fun _ => (q_indexAddr (e := 23) (size := 2) (by kernel_rfl) (by kernel_rfl) rfl rfl (by omega) (by omega))) (by kernel_rfl) ?_
          refine at_l (i := 12) (li := #[true, true, true, true, true, true, true, true, true, true, true, true, true, false, false, false]) (cellsAre _ _ 2 _) rfl (by kernel_rfl) rfl (fun _ h => q_loadc (n := 2) (by kernel_rfl) rfl h) (hd.elem (i := ((f : Nat) + (2 * r + 2 : Nat) : Int)) (by omega) (by omega)) (by kernel_rfl) ?_
          refine at_h (i := 13) (li := #[true, true, true, true, true, true, true, true, true, true, true, true, true, true, false, false]) rfl (by kernel_rfl) rfl (keep_sift (bs := [true, true]) (by kernel_rfl)) (by kernel_rfl) (h_callv (f := 16) (first := []) (cap := []) (by kernel_rfl) rfl rfl rfl ?_)
          refine (srt_compare (a := d2[((f : Nat) + (r : Nat) : Int).toNat]!) (b := d2[((f : Nat) + (2 * r + 2 : Nat) : Int).toNat]!) hs9.sat).mono ?_
          rintro _ w10 ⟨rfl, hs10⟩
          replace hd := hd.then hs10
          replace hT := hT.then hs10
          refine ⟨(by repeat' first | exact trivial | exact (hd.elem (i := ((f : Nat) + (r : Nat) : Int)) (by omega) (by omega)) | exact (hd.elem (i := ((f : Nat) + (2 * r + 2 : Nat) : Int)) (by omega) (by omega)) | assumption | refine all_keep ?_ | refine And.intro ?_ ?_), ?_⟩
          first | refine at_q (i := 14) (li := #[true, true, true, true, true, true, true, true, true, true, true, true, true, true, true, false]) rfl (by kernel_rfl) rfl (fun _ => (q_ltT rfl rfl (by omega))) (by kernel_rfl) ?_ | refine at_q (i := 14) (li := #[true, true, true, true, true, true, true, true, true, true, true, true, true, true, true, false]) rfl (by kernel_rfl) rfl (fun _ => (q_ltF rfl rfl (by omega))) (by kernel_rfl) ?_ | refine at_q (i := 14) (li := #[true, true, true, true, true, true, true, true, true, true, true, true, true, true, true, false]) rfl (by kernel_rfl) rfl (fun _ => (q_lt rfl rfl)) (by kernel_rfl) ?_
          refine at_q (i := 15) (li := #[true, true, true, true, true, true, true, true, true, true, true, true, true, true, true, true]) rfl (by kernel_rfl) rfl (fun _ => (q_not rfl)) (by kernel_rfl) ?_
          refine at_done (by kernel_rfl) (hK14 _ _ ?_)
          clear hK14 K14
          refine cw_cond rfl (fun hc2 => ?_) (fun hc2 => ?_)
          · skip
            have hm : ltE d2[f + r]! d2[f + (2 * r + 2)]! = false := (Bool.not_eq_true' _).mp hc2
            refine cw_ret ?_
            rw [sd_right hcs hl, if_neg (by rw [hm]; simp)] at hsd
            subst hsd
            exact ⟨_, res_nil, hT, hd⟩
          · skip
            have hm : ltE d2[f + r]! d2[f + (2 * r + 2)]! = true := (Bool.not_eq_false' _).mp hc2
            refine cw_skip ?_
            refine hK13 _ _ ?_
            clear hK13 K13
            refine cw_rd (by kernel_rfl) (by kernel_rfl) (by kernel_rfl) rfl rfl fun K15 hK15 => ?_
            -- region 6
            have hs11 := Step.drew hs10.sat
            replace hd := hd.then hs11
            replace hT := hT.then hs11
            refine at_q (i := 0) (li := #[true, false, false, false, false, false, false, false, false, false, false, false, false, false, false, false, false, false, false, false, false, false, false, false]) rfl (by kernel_rfl) rfl (fun _ => (q_move rfl)) (by kernel_rfl) ?_
            refine at_q (i := 1) (li := #[true, true, false, false, false, false, false, false, false, false, false, false, false, false, false, false, false, false, false, false, false, false, false, false]) rfl (by kernel_rfl) rfl (fun _ => (q_move rfl)) (by kernel_rfl) ?_
            refine at_q (i := 2) (li := #[true, true, true, false, false, false, false, false, false, false, false, false, false, false, false, false, false, false, false, false, false, false, false, false]) rfl (by kernel_rfl) rfl (fun _ => (q_move rfl)) (by kernel_rfl) ?_
            refine at_q (i := 3) (li := #[true, true, true, true, false, false, false, false, false, false, false, false, false, false, false, false, false, false, false, false, false, false, false, false]) rfl (by kernel_rfl) rfl (fun _ => (q_addx rfl rfl (by omega) (by omega))) (by kernel_rfl) ?_
            refine at_q (i := 4) (li := #[true, true, true, true, true, false, false, false, false, false, false, false, false, false, false, false, false, false, false, false, false, false, false, false]) rfl (by kernel_rfl) rfl (fun _ => (q_move rfl)) (by kernel_rfl) ?_
            refine at_q (i := 5) (li := #[true, true, true, true, true, true, false, false, false, false, false, false, false, false, false, false, false, false, false, false, false, false, false, false]) rfl (by kernel_rfl) rfl (fun _ => (q_move rfl)) (by kernel_rfl) ?_
            refine at_q (i := 6) (li := #[true, true, true, true, true, true, true, false, false, false, false, false, false, false, false, false, false, false, false, false, false, false, false, false]) rfl (by kernel_rfl) rfl (fun _ => (q_move rfl)) (by kernel_rfl) ?_
            refine at_q (i := 7) (li := #[true, true, true, true, true, true, true, true, false, false, false, false, false, false, false, false, false, false, false, false, false, false, false, false]) rfl (by kernel_rfl) rfl (fun _ => (q_addx rfl rfl (by omega) (by omega))) (by kernel_rfl) ?_
            refine at_q (i := 8) (li := #[true, true, true, true, true, true, true, true, true, false, false, false, false, false, false, false, false, false, false, false, false, false, false, false]) rfl (by kernel_rfl) rfl (fun _ => (q_move rfl)) (by kernel_rfl) ?_
            refine at_q (i := 9) (li := #[true, true, true, true, true, true, true, true, true, true, false, false, false, false, false, false, false, false, false, false, false, false, false, false]) rfl (by kernel_rfl) rfl (fun _ => (q_move rfl)) (by kernel_rfl) ?_
            refine at_q (i := 10) (li := #[true, true, true, true, true, true, true, true, true, true, true, false, false, false, false, false, false, false, false, false, false, false, false, false]) rfl (by kernel_rfl) rfl (fun _ => (q_move rfl)) (by kernel_rfl) ?_
            refine at_q (i := 11) (li := #[true, true, true, true, true, true, true, true, true, true, true, true, false, false, false, false, false, false, false, false, false, false, false, false]) rfl (by kernel_rfl) rfl (fun _ => (q_addx rfl rfl (by omega) (by omega))) (by kernel_rfl) ?_
            refine at_q (i := 12) (li := #[true, true, true, true, true, true, true, true, true, true, true, true, true, false, false, false, false, false, false, false, false, false, false, false]) rfl (by kernel_rfl) rfl (fun _ => (q_indexAddr (e := 23) (size := 2) (by kernel_rfl) (by kernel_rfl) rfl rfl (by omega) (by omega))) (by kernel_rfl) ?_
            refine at_l (i := 13) (li := #[true, true, true, true, true, true, true, true, true, true, true, true, true, true, false, false, false, false, false, false, false, false, false, false]) (cellsAre _ _ 2 _) rfl (by kernel_rfl) rfl (fun _ h => q_loadc (n := 2) (by kernel_rfl) rfl h) (hd.elem (i := ((f : Nat) + (2 * r + 2 : Nat) : Int)) (by omega) (by omega)) (by kernel_rfl) ?_
            refine at_q (i := 14) (li := #[true, true, true, true, true, true, true, true, true, true, true, true, true, true, true, false, false, false, false, false, false, false, false, false]) rfl (by kernel_rfl) rfl (fun _ => (q_move rfl)) (by kernel_rfl) ?_
            refine at_q (i := 15) (li := #[true, true, true, true, true, true, true, true, true, true, true, true, true, true, true, true, false, false, false, false, false, false, false, false]) rfl (by kernel_rfl) rfl (fun _ => (q_move rfl)) (by kernel_rfl) ?_
            refine at_q (i := 16) (li := #[true, true, true, true, true, true, true, true, true, true, true, true, true, true, true, true, true, false, false, false, false, false, false, false]) rfl (by kernel_rfl) rfl (fun _ => (q_move rfl)) (by kernel_rfl) ?_
            refine at_q (i := 17) (li := #[true, true, true, true, true, true, true, true, true, true, true, true, true, true, true, true, true, true, false, false, false, false, false, false]) rfl (by kernel_rfl) rfl (fun _ => (q_addx rfl rfl (by omega) (by omega))) (by kernel_rfl) ?_
            refine at_q (i := 18) (li := #[true, true, true, true, true, true, true, true, true, true, true, true, true, true, true, true, true, true, true, false, false, false, false, false]) rfl (by kernel_rfl) rfl (fun _ => (q_indexAddr (e := 23) (size := 2) (by kernel_rfl) (by kernel_rfl) rfl rfl (by omega) (by omega))) (by kernel_rfl) ?_
            refine at_l (i := 19) (li := #[true, true, true, true, true, true, true, true, true, true, true, true, true, true, true, true, true, true, true, true, false, false, false, false]) (cellsAre _ _ 2 _) rfl (by kernel_rfl) rfl (fun _ h => q_loadc (n := 2) (by kernel_rfl) rfl h) (hd.elem (i := ((f : Nat) + (r : Nat) : Int)) (by omega) (by omega)) (by kernel_rfl) ?_
            refine at_q (i := 20) (li := #[true, true, true, true, true, true, true, true, true, true, true, true, true, true, true, true, true, true, true, true, true, false, false, false]) rfl (by kernel_rfl) rfl (fun _ => (q_indexAddr (e := 23) (size := 2) (by kernel_rfl) (by kernel_rfl) rfl rfl (by omega) (by omega))) (by kernel_rfl) ?_
            refine at_h0 (i := 21) (li := #[true, true, true, true, true, true, true, true, true, true, true, true, true, true, true, true, true, true, true, true, true, true, false, false]) rfl (by kernel_rfl) (keep_sift (bs := [true, true]) (by kernel_rfl)) (by kernel_rfl) (h_storeD (i := ((f : Nat) + (r : Nat) : Int)) (e := d2[((f : Nat) + (2 * r + 2 : Nat) : Int).toNat]!) hs11.sat hd rfl rfl (by kernel_rfl) (by omega) (by omega) fun w12 hs12 hd12 => ?_)
            replace hT := hT.also hs12
            clear hd; have hd := hd12; clear hd12
            refine ⟨(by repeat' first | exact trivial | exact (hd.elem (i := ((f : Nat) + (2 * r + 2 : Nat) : Int)) (by omega) (by omega)) | exact (hd.elem (i := ((f : Nat) + (r : Nat) : Int)) (by omega) (by omega)) | assumption | refine all_keep ?_ | refine And.intro ?_ ?_), ?_⟩
            refine at_q (i := 22) (li := #[true, true, true, true, true, true, true, true, true, true, true, true, true, true, true, true, true, true, true, true, true, true, true, false]) rfl (by kernel_rfl) rfl (fun _ => (q_indexAddr (e := 23) (size := 2) (by kernel_rfl) (by kernel_rfl) rfl rfl (by omega) (by omega))) (by kernel_rfl) ?_
            refine at_h0 (i := 23) (li := #[true, true, true, true, true, true, true, true, true, true, true, true, true, true, true, true, true, true, true, true, true, true, true, true]) rfl (by kernel_rfl) rfl (by kernel_rfl) (h_storeD (i := ((f : Nat) + (2 * r + 2 : Nat) : Int)) (e := d2[((f : Nat) + (r : Nat) : Int).toNat]!) hs12.sat hd rfl rfl (by kernel_rfl) (by omega) (by omega) fun w13 hs13 hd13 => ?_)
            replace hT := hT.also hs13
            clear hd; have hd := hd13; clear hd13
            refine ⟨(by repeat' first | exact trivial | exact (hd.elem (i := ((f : Nat) + (2 * r + 2 : Nat) : Int)) (by omega) (by omega)) | exact (hd.elem (i := ((f : Nat) + (r : Nat) : Int)) (by omega) (by omega)) | assumption | refine all_keep ?_ | refine And.intro ?_ ?_), ?_⟩
            refine at_done (by kernel_rfl) (hK15 _ _ ?_)
            clear hK15 K15
            refine cw_region fun K16 hK16 => ?_
            -- region 7
            refine as_q rfl rfl (q_move rfl) ?_
            refine as_q rfl rfl (q_assign rfl) ?_
            refine as_nil (hK16 _ _ ?_)
            clear hK16 K16
            refine ⟨_, _, ?_, (.cons rfl (.cons rfl (.cons rfl (.cons rfl (.cons rfl (.nil _)))))), 2 * r + 2, Go.Sort.swp d2 (f + r) (f + (2 * r + 2)), rfl, ?_, by omega, rfl, hT, hd⟩
            · omega
            · rw [← hsd, sd_right hcs hl, if_pos hm]
      · skip
        have hl : 2 * r + 2 < hi → ltE d2[f + (2 * r + 1)]! d2[f + (2 * r + 1) + 1]! = false := fun _ => hc1
        skip
        · skip
          refine cw_skip ?_
          refine hK5 _ _ ?_
          clear hK5 K5
          refine cw_seq fun K17 hK17 => ?_
          refine cw_rd (by kernel_rfl) (by kernel_rfl) (by kernel_rfl) rfl rfl fun K18 hK18 => ?_
          -- region 5
          have hs14 := Step.drew hs8.sat
          replace hd := hd.then hs14
          replace hT := hT.then hs14
          refine at_q (i := 0) (li := #[true, false, false, false, false, false, false, false, false, false, false, false, false, false, false, false]) rfl (by kernel_rfl) rfl (fun _ => (q_move rfl)) (by kernel_rfl) ?_
          refine at_q (i := 1) (li := #[true, true, false, false, false, false, false, false, false, false, false, false, false, false, false, false]) rfl (by kernel_rfl) rfl (fun _ => (q_move rfl)) (by kernel_rfl) ?_
          refine at_q (i := 2) (li := #[true, true, true, false, false, false, false, false, false, false, false, false, false, false, false, false]) rfl (by kernel_rfl) rfl (fun _ => (q_move rfl)) (by kernel_rfl) ?_
          refine at_q (i := 3) (li := #[true, true, true, true, false, false, false, false, false, false, false, false, false, false, false, false]) rfl (by kernel_rfl) rfl (fun _ => (q_move rfl)) (by kernel_rfl) ?_
          refine at_q (i := 4) (li := #[true, true, true, true, true, false, false, false, false, false, false, false, false, false, false, false]) rfl (by kernel_rfl) rfl (fun _ => (q_addx rfl rfl (by omega) (by omega))) (by kernel_rfl) ?_
          refine at_q (i := 5) (li := #[true, true, true, true, true, true, false, false, false, false, false, false, false, false, false, false]) rfl (by kernel_rfl) rfl (fun _ => (q_indexAddr (e := 23) (size := 2) (by kernel_rfl) (by kernel_rfl) rfl rfl (by omega) (by omega))) (by kernel_rfl) ?_
          refine at_l (i := 6) (li := #[true, true, true, true, true, true, true, false, false, false, false, false, false, false, false, false]) (cellsAre _ _ 2 _) rfl (by kernel_rfl) rfl (fun _ h => q_loadc (n := 2) (by kernel_rfl) rfl h) (hd.elem (i := ((f : Nat) + (r : Nat) : Int)) (by omega) (by omega)) (by kernel_rfl) ?_
          refine at_q (i := 7) (li := #[true, true, true, true, true, true, true, true, false, false, false, false, false, false, false, false]) rfl (by kernel_rfl) rfl (fun _ => (q_move rfl)) (by kernel_rfl) ?_
          refine at_q (i := 8) (li := #[true, true, true, true, true, true, true, true, true, false, false, false, false, false, false, false]) rfl (by kernel_rfl) rfl (fun _ => (q_move rfl)) (by kernel_rfl) ?_
          refine at_q (i := 9) (li := #[true, true, true, true, true, true, true, true, true, true, false, false, false, false, false, false]) rfl (by kernel_rfl) rfl (fun _ => (q_move rfl)) (by kernel_rfl) ?_
          refine at_q (i := 10) (li := #[true, true, true, true, true, true, true, true, true, true, true, false, false, false, false, false]) rfl (by kernel_rfl) rfl (fun _ => (q_addx rfl rfl (by omega) (by omega))) (by kernel_rfl) ?_
          refine at_q (i := 11) (li := #[true, true, true, true, true, true, true, true, true, true, true, true, false, false, false, false]) rfl (by kernel_rfl) rfl (fun _ => (q_indexAddr (e := 23) (size := 2) (by kernel_rfl) (by kernel_rfl) rfl rfl (by omega) (by omega))) (by kernel_rfl) ?_
          refine at_l (i := 12) (li := #[true, true, true, true, true, true, true, true, true, true, true, true, true, false, false, false]) (cellsAre _ _ 2 _) rfl (by kernel_rfl) rfl (fun _ h => q_loadc (n := 2) (by kernel_rfl) rfl h) (hd.elem (i := ((f : Nat) + (2 * r + 1 : Nat) : Int)) (by omega) (by omega)) (by kernel_rfl) ?_
          refine at_h (i := 13) (li := #[true, true, true, true, true, true, true, true, true, true, true, true, true, true, false, false]) rfl (by kernel_rfl) rfl (keep_sift (bs := [true, true]) (by kernel_rfl)) (by kernel_rfl) (h_callv (f := 16) (first := []) (cap := []) (by kernel_rfl) rfl rfl rfl ?_)
          refine (srt_compare (a := d2[((f : Nat) + (r : Nat) : Int).toNat]!) (b := d2[((f : Nat) + (2 * r + 1 : Nat) : Int).toNat]!) hs14.sat).mono ?_
          rintro _ w15 ⟨rfl, hs15⟩
          replace hd := hd.then hs15
          replace hT := hT.then hs15
          refine ⟨(by repeat' first | exact trivial | exact (hd.elem (i := ((f : Nat) + (r : Nat) : Int)) (by omega) (by omega)) | exact (hd.elem (i := ((f : Nat) + (2 * r + 1 : Nat) : Int)) (by omega) (by omega)) | assumption | refine all_keep ?_ | refine And.intro ?_ ?_), ?_⟩
          first | refine at_q (i := 14) (li := #[true, true, true, true, true, true, true, true, true, true, true, true, true, true, true, false]) rfl (by kernel_rfl) rfl (fun _ => (q_ltT rfl rfl (by omega))) (by kernel_rfl) ?_ | refine at_q (i := 14) (li := #[true, true, true, true, true, true, true, true, true, true, true, true, true, true, true, false]) rfl (by kernel_rfl) rfl (fun _ => (q_ltF rfl rfl (by omega))) (by kernel_rfl) ?_ | refine at_q (i := 14) (li := #[true, true, true, true, true, true, true, true, true, true, true, true, true, true, true, false]) rfl (by kernel_rfl) rfl (fun _ => (q_lt rfl rfl)) (by kernel_rfl) ?_
          refine at_q (i := 15) (li := #[true, true, true, true, true, true, true, true, true, true, true, true, true, true, true, true]) rfl (by kernel_rfl) rfl (fun _ => (q_not rfl)) (by kernel_rfl) ?_
          refine at_done (by kernel_rfl) (hK18 _ _ ?_)
          clear hK18 K18
          refine cw_cond rfl (fun hc2 => ?_) (fun hc2 => ?_)
          · skip
            have hm : ltE d2[f + r]! d2[f + (2 * r + 1)]! = false := (Bool.not_eq_true' _).mp hc2
            refine cw_ret ?_
            rw [sd_left hst hl, if_neg (by rw [hm]; simp)] at hsd
            subst hsd
            exact ⟨_, res_nil, hT, hd⟩
          · skip
            have hm : ltE d2[f + r]! d2[f + (2 * r + 1)]! = true := (Bool.not_eq_false' _).mp hc2
            refine cw_skip ?_
            refine hK17 _ _ ?_
            clear hK17 K17
            refine cw_rd (by kernel_rfl) (by kernel_rfl) (by kernel_rfl) rfl rfl fun K19 hK19 => ?_
            -- region 6
            have hs16 := Step.drew hs15.sat
            replace hd := hd.then hs16
            replace hT := hT.then hs16
            refine at_q (i := 0) (li := #[true, false, false, false, false, false, false, false, false, false, false, false, false, false, false, false, false, false, false, false, false, false, false, false]) rfl (by kernel_rfl) rfl (fun _ => (q_move rfl)) (by kernel_rfl) ?_
            refine at_q (i := 1) (li := #[true, true, false, false, false, false, false, false, false, false, false, false, false, false, false, false, false, false, false, false, false, false, false, false]) rfl (by kernel_rfl) rfl (fun _ => (q_move rfl)) (by kernel_rfl) ?_
            refine at_q (i := 2) (li := #[true, true, true, false, false, false, false, false, false, false, false, false, false, false, false, false, false, false, false, false, false, false, false, false]) rfl (by kernel_rfl) rfl (fun _ => (q_move rfl)) (by kernel_rfl) ?_
            refine at_q (i := 3) (li := #[true, true, true, true, false, false, false, false, false, false, false, false, false, false, false, false, false, false, false, false, false, false, false, false]) rfl (by kernel_rfl) rfl (fun _ => (q_addx rfl rfl (by omega) (by omega))) (by kernel_rfl) ?_
            refine at_q (i := 4) (li := #[true, true, true, true, true, false, false, false, false, false, false, false, false, false, false, false, false, false, false, false, false, false, false, false]) rfl (by kernel_rfl) rfl (fun _ => (q_move rfl)) (by kernel_rfl) ?_
            refine at_q (i := 5) (li := #[true, true, true, true, true, true, false, false, false, false, false, false, false, false, false, false, false, false, false, false, false, false, false, false]) rfl (by kernel_rfl) rfl (fun _ => (q_move rfl)) (by kernel_rfl) ?_
            refine at_q (i := 6) (li := #[true, true, true, true, true, true, true, false, false, false, false, false, false, false, false, false, false, false, false, false, false, false, false, false]) rfl (by kernel_rfl) rfl (fun _ => (q_move rfl)) (by kernel_rfl) ?_
            refine at_q (i := 7) (li := #[true, true, true, true, true, true, true, true, false, false, false, false, false, false, false, false, false, false, false, false, false, false, false, false]) rfl (by kernel_rfl) rfl (fun _ => (q_addx rfl rfl (by omega) (by omega))) (by kernel_rfl) ?_
            refine at_q (i := 8) (li := #[true, true, true, true, true, true, true, true, true, false, false, false, false, false, false, false, false, false, false, false, false, false, false, false]) rfl (by kernel_rfl) rfl (fun _ => (q_move rfl)) (by kernel_rfl) ?_
            refine at_q (i := 9) (li := #[true, true, true, true, true, true, true, true, true, true, false, false, false, false, false, false, false, false, false, false, false, false, false, false]) rfl (by kernel_rfl) rfl (fun _ => (q_move rfl)) (by kernel_rfl) ?_
            refine at_q (i := 10) (li := #[true, true, true, true, true, true, true, true, true, true, true, false, false, false, false, false, false, false, false, false, false, false, false, false]) rfl (by kernel_rfl) rfl (fun _ => (q_move rfl)) (by kernel_rfl) ?_
            refine at_q (i := 11) (li := #[true, true, true, true, true, true, true, true, true, true, true, true, false, false, false, false, false, false, false, false, false, false, false, false]) rfl (by kernel_rfl) rfl (fun _ => (q_addx rfl rfl (by omega) (by omega))) (by kernel_rfl) ?_
            refine at_q (i := 12) (li := #[true, true, true, true, true, true, true, true, true, true, true, true, true, false, false, false, false, false, false, false, false, false, false, false]) rfl (by kernel_rfl) rfl (fun _ => (q_indexAddr (e := 23) (size := 2) (by kernel_rfl) (by kernel_rfl) rfl rfl (by omega) (by omega))) (by kernel_rfl) ?_
            refine at_l (i := 13) (li := #[true, true, true, true, true, true, true, true, true, true, true, true, true, true, false, false, false, false, false, false, false, false, false, false]) (cellsAre _ _ 2 _) rfl (by kernel_rfl) rfl (fun _ h => q_loadc (n := 2) (by kernel_rfl) rfl h) (hd.elem (i := ((f : Nat) + (2 * r + 1 : Nat) : Int)) (by omega) (by omega)) (by kernel_rfl) ?_
            refine at_q (i := 14) (li := #[true, true, true, true, true, true, true, true, true, true, true, true, true, true, true, false, false, false, false, false, false, false, false, false]) rfl (by kernel_rfl) rfl (fun _ => (q_move rfl)) (by kernel_rfl) ?_
            refine at_q (i := 15) (li := #[true, true, true, true, true, true, true, true, true, true, true, true, true, true, true, true, false, false, false, false, false, false, false, false]) rfl (by kernel_rfl) rfl (fun _ => (q_move rfl)) (by kernel_rfl) ?_
            refine at_q (i := 16) (li := #[true, true, true, true, true, true, true, true, true, true, true, true, true, true, true, true, true, false, false, false, false, false, false, false]) rfl (by kernel_rfl) rfl (fun _ => (q_move rfl)) (by kernel_rfl) ?_
            refine at_q (i := 17) (li := #[true, true, true, true, true, true, true, true, true, true, true, true, true, true, true, true, true, true, false, false, false, false, false, false]) rfl (by kernel_rfl) rfl (fun _ => (q_addx rfl rfl (by omega) (by omega))) (by kernel_rfl) ?_
            refine at_q (i := 18) (li := #[true, true, true, true, true, true, true, true, true, true, true, true, true, true, true, true, true, true, true, false, false, false, false, false]) rfl (by kernel_rfl) rfl (fun _ => (q_indexAddr (e := 23) (size := 2) (by kernel_rfl) (by kernel_rfl) rfl rfl (by omega) (by omega))) (by kernel_rfl) ?_
            refine at_l (i := 19) (li := #[true, true, true, true, true, true, true, true, true, true, true, true, true, true, true, true, true, true, true, true, false, false, false, false]) (cellsAre _ _ 2 _) rfl (by kernel_rfl) rfl (fun _ h => q_loadc (n := 2) (by kernel_rfl) rfl h) (hd.elem (i := ((f : Nat) + (r : Nat) : Int)) (by omega) (by omega)) (by kernel_rfl) ?_
            refine at_q (i := 20) (li := #[true, true, true, true, true, true, true, true, true, true, true, true, true, true, true, true, true, true, true, true, true, false, false, false]) rfl (by kernel_rfl) rfl (fun _ => (q_indexAddr (e := 23) (size := 2) (by kernel_rfl) (by kernel_rfl) rfl rfl (by omega) (by omega))) (by kernel_rfl) ?_
            refine at_h0 (i := 21) (li := #[true, true, true, true, true, true, true, true, true, true, true, true, true, true, true, true, true, true, true, true, true, true, false, false]) rfl (by kernel_rfl) (keep_sift (bs := [true, true]) (by kernel_rfl)) (by kernel_rfl) (h_storeD (i := ((f : Nat) + (r : Nat) : Int)) (e := d2[((f : Nat) + (2 * r + 1 : Nat) : Int).toNat]!) hs16.sat hd rfl rfl (by kernel_rfl) (by omega) (by omega) fun w17 hs17 hd17 => ?_)
            replace hT := hT.also hs17
            clear hd; have hd := hd17; clear hd17
            refine ⟨(by repeat' first | exact trivial | exact (hd.elem (i := ((f : Nat) + (2 * r + 1 : Nat) : Int)) (by omega) (by omega)) | exact (hd.elem (i := ((f : Nat) + (r : Nat) : Int)) (by omega) (by omega)) | assumption | refine all_keep ?_ | refine And.intro ?_ ?_), ?_⟩
            refine at_q (i := 22) (li := #[true, true, true, true, true, true, true, true, true, true, true, true, true, true, true, true, true, true, true, true, true, true, true, false]) rfl (by kernel_rfl) rfl (fun _ => (q_indexAddr (e := 23) (size := 2) (by kernel_rfl) (by kernel_rfl) rfl rfl (by omega) (by omega))) (by kernel_rfl) ?_
            refine at_h0 (i := 23) (li := #[true, true, true, true, true, true, true, true, true, true, true, true, true, true, true, true, true, true, true, true, true, true, true, true]) rfl (by kernel_rfl) rfl (by kernel_rfl) (h_storeD (i := ((f : Nat) + (2 * r + 1 : Nat) : Int)) (e := d2[((f : Nat) + (r : Nat) : Int).toNat]!) hs17.sat hd rfl rfl (by kernel_rfl) (by omega) (by omega) fun w18 hs18 hd18 => ?_)
            replace hT := hT.also hs18
            clear hd; have hd := hd18; clear hd18
            refine ⟨(by repeat' first | exact trivial | exact (hd.elem (i := ((f : Nat) + (2 * r + 1 : Nat) : Int)) (by omega) (by omega)) | exact (hd.elem (i := ((f : Nat) + (r : Nat) : Int)) (by omega) (by omega)) | assumption | refine all_keep ?_ | refine And.intro ?_ ?_), ?_⟩
            refine at_done (by kernel_rfl) (hK19 _ _ ?_)
            clear hK19 K19
            refine cw_region fun K20 hK20 => ?_
            -- region 7
            refine as_q rfl rfl (q_move rfl) ?_
            refine as_q rfl rfl (q_assign rfl) ?_
            refine as_nil (hK20 _ _ ?_)
            clear hK20 K20
            refine ⟨_, _, ?_, (.cons rfl (.cons rfl (.cons rfl (.cons rfl (.cons rfl (.nil _)))))), 2 * r + 1, Go.Sort.swp d2 (f + r) (f + (2 * r + 1)), rfl, ?_, by omega, rfl, hT, hd⟩
            · omega
            · rw [← hsd, sd_left hst hl, if_pos hm]

theorem srt_heap {w : World} {M : Mem} {g n cap : Nat} {d : Array El} {a b : Nat} (hs : Sat M w) (hn : n ≤ 100000) (hd : ElRow 23 w M g n cap d) (hab : a ≤ b) (hb : b ≤ n) :
    Does Tryd.prog 42 #[.slice (some ⟨g, 0, none⟩) n cap, .int .i64 a, .int .i64 b, (.func (.func 16) #[] #[])] w (fun _ w' => Step (Just g) M w M w' ∧ ElRow 23 w' M g n cap (Go.Sort.heapSort ltE d a b)) := by
  have hT := Step.refl (Just g) hs
  have hsz := hd.size
  have hq2 : Int.tdiv (((b - a : Nat) : Int) - 1) 2 = (((b - a - 1) / 2 : Nat) : Int) := by
    rcases Nat.eq_zero_or_pos (b - a) with h | h
    · rw [h]; decide
    · rw [Int.tdiv_eq_ediv_of_nonneg (by omega)]; omega
  refine fn_enter Tryd.func42 rfl (rs := []) rfl rfl rfl rfl ?_
  refine cw_rs fun K1 hK1 => ?_
  -- region 0
  refine as_q rfl rfl (q_move rfl) ?_
  refine as_q rfl rfl (q_assign rfl) ?_
  refine as_nil (hK1 _ _ ?_)
  clear hK1 K1
  refine cw_rs fun K2 hK2 => ?_
  -- region 1
  refine as_q rfl rfl (q_assign rfl) ?_
  refine as_nil (hK2 _ _ ?_)
  clear hK2 K2
  refine cw_rs fun K3 hK3 => ?_
  -- region 2
  refine as_q rfl rfl (q_move rfl) ?_
  refine as_q rfl rfl (q_move rfl) ?_
  refine as_q rfl rfl (q_congr (q_subx rfl rfl (by omega) (by omega)) (v' := .int .i64 (((b - a : Nat) : Int))) (congrArg (Value.int .i64) (by omega))) ?_
  refine as_q rfl rfl (q_assign rfl) ?_
  refine as_nil (hK3 _ _ ?_)
  clear hK3 K3
  refine cw_seq fun K4 hK4 => ?_
  refine cw_rs fun K5 hK5 => ?_
  -- region 3
  refine as_q rfl rfl (q_move rfl) ?_
  refine as_q rfl rfl (q_subx rfl rfl (by omega) (by omega)) ?_
  refine as_q rfl rfl (q_congr (q_quo rfl rfl (by decide)) (v' := .int .i64 (((b - a - 1) / 2 : Nat) : Int)) (by rw [hq2, wrap64_of (by omega) (by omega)])) ?_
  refine as_q rfl rfl (q_assign rfl) ?_
  refine as_nil (hK5 _ _ ?_)
  clear hK5 K5
  refine cw_block ?_
  refine cw_loop (fun mm l w1 => ∃ (z : Int) (d2 : Array El), z + 1 = mm ∧ mm ≤ (b - a - 1) / 2 + 1 ∧ Go.Sort.heapBuild ltE (b - a) a mm d2 = Go.Sort.heapBuild ltE (b - a) a ((b - a - 1) / 2 + 1) d ∧ l = [(0, .slice (some ⟨g, 0, none⟩) n cap), (3, (.func (.func 16) #[] #[])), (8, .int .i64 a), (9, .int .i64 0), (10, .int .i64 ((b - a : Nat) : Int)), (11, .int .i64 z)] ∧ Step (Just g) M w M w1 ∧ ElRow 23 w1 M g n cap d2) ((b - a - 1) / 2 + 1) [(0, .slice (some ⟨g, 0, none⟩) n cap), (3, (.func (.func 16) #[] #[])), (8, .int .i64 a), (9, .int .i64 0), (10, .int .i64 ((b - a : Nat) : Int)), (11, .int .i64 (((b - a - 1) / 2 : Nat) : Int))] (.cons rfl (.cons rfl (.cons rfl (.cons rfl (.cons rfl (.cons rfl (.nil _))))))) ?_ ?_
  · skip
    exact ⟨_, d, by omega, by omega, rfl, rfl, hT, hd⟩
  clear hT hd
  rintro mm l w1 ⟨z, d2, hz, hmb, hbd, rfl, hT, hd⟩
  refine cw_seq fun K6 hK6 => ?_
  refine cw_rs fun K7 hK7 => ?_
  -- region 4
  refine as_q rfl rfl (q_move rfl) ?_
  first | refine as_q rfl rfl (q_geT rfl rfl (by omega)) ?_ | refine as_q rfl rfl (q_geF rfl rfl (by omega)) ?_ | refine as_q rfl rfl (q_ge rfl rfl) ?_
  refine as_nil (hK7 _ _ ?_)
  clear hK7 K7
  refine cw_cond rfl (fun hc0 => ?_) (fun hc0 => ?_)
  · skip
    obtain ⟨k, rfl⟩ : ∃ q, mm = q + 1 := ⟨mm - 1, by have := of_decide_eq_true hc0; omega⟩
    obtain rfl : z = (k : Int) := by omega
    refine cw_skip ?_
    refine hK6 _ _ ?_
    clear hK6 K6
    refine cw_seq fun K8 hK8 => ?_
    refine cw_block ?_
    refine cw_region fun K9 hK9 => ?_
    -- region 6
    refine as_q rfl rfl (q_move rfl) ?_
    refine as_q rfl rfl (q_move rfl) ?_
    refine as_q rfl rfl (q_move rfl) ?_
    refine as_q rfl rfl (q_move rfl) ?_
    refine as_q rfl rfl (q_move rfl) ?_
    refine as_h rfl (h_call (by kernel_rfl) rfl ?_)
    refine (srt_sift (lo := k) (hi := b - a) (f := a) hT.sat hn hd (by omega) (by omega)).mono ?_
    rintro _ w1 ⟨hs1, hd1⟩
    replace hT := hT.also hs1
    clear hd; have hd := hd1; clear hd1
    refine as_nil (hK9 _ _ ?_)
    clear hK9 K9
    refine hK8 _ _ ?_
    clear hK8 K8
    refine cw_region fun K10 hK10 => ?_
    -- region 5
    refine as_q rfl rfl (q_move rfl) ?_
    refine as_q rfl rfl (q_subx rfl rfl (by omega) (by omega)) ?_
    refine as_q rfl rfl (q_assign rfl) ?_
    refine as_nil (hK10 _ _ ?_)
    clear hK10 K10
    exact ⟨k, _, by omega, (.cons rfl (.cons rfl (.cons rfl (.cons rfl (.cons rfl (.cons rfl (.nil _))))))), (k : Int) - 1, _, by omega, by omega, hbd, rfl, hT, hd⟩
  · skip
    obtain rfl : mm = 0 := by have := of_decide_eq_false hc0; omega
    refine cw_exit ?_
    refine hK4 _ _ ?_
    clear hK6 K6
    clear hK4 K4
    refine cw_rs fun K11 hK11 => ?_
    -- region 7
    refine as_q rfl rfl (q_move rfl) ?_
    refine as_q rfl rfl (q_subx rfl rfl (by omega) (by omega)) ?_
    refine as_q rfl rfl (q_assign rfl) ?_
    refine as_nil (hK11 _ _ ?_)
    clear hK11 K11
    refine cw_block ?_
    refine cw_loop (fun mm l w1 => ∃ (z : Int) (d2 : Array El), z + 1 = mm ∧ mm ≤ b - a ∧ Go.Sort.heapPop ltE a mm d2 = Go.Sort.heapSort ltE d a b ∧ l = [(0, .slice (some ⟨g, 0, none⟩) n cap), (3, (.func (.func 16) #[] #[])), (8, .int .i64 a), (9, .int .i64 0), (10, .int .i64 ((b - a : Nat) : Int)), (12, .int .i64 z)] ∧ Step (Just g) M w M w1 ∧ ElRow 23 w1 M g n cap d2) (b - a) [(0, .slice (some ⟨g, 0, none⟩) n cap), (3, (.func (.func 16) #[] #[])), (8, .int .i64 a), (9, .int .i64 0), (10, .int .i64 ((b - a : Nat) : Int)), (12, .int .i64 (((b - a : Nat) : Int) - 1))] (.cons rfl (.cons rfl (.cons rfl (.cons rfl (.cons rfl (.cons rfl (.nil _))))))) ?_ ?_
    · skip
      exact ⟨_, d2, by omega, by omega, by unfold Go.Sort.heapSort; rw [← hbd]; rfl, rfl, hT, hd⟩
    clear hT hd
    rintro mm l w1 ⟨z, d2, hz, hmb2, hpd, rfl, hT, hd⟩
    refine cw_seq fun K12 hK12 => ?_
    refine cw_rs fun K13 hK13 => ?_
    -- region 8
    refine as_q rfl rfl (q_move rfl) ?_
    first | refine as_q rfl rfl (q_geT rfl rfl (by omega)) ?_ | refine as_q rfl rfl (q_geF rfl rfl (by omega)) ?_ | refine as_q rfl rfl (q_ge rfl rfl) ?_
    refine as_nil (hK13 _ _ ?_)
    clear hK13 K13
    refine cw_cond rfl (fun hc1 => ?_) (fun hc1 => ?_)
    · skip
      obtain ⟨k, rfl⟩ : ∃ q, mm = q + 1 := ⟨mm - 1, by have := of_decide_eq_true hc1; omega⟩
      obtain rfl : z = (k : Int) := by omega
      refine cw_skip ?_
      refine hK12 _ _ ?_
      clear hK12 K12
      refine cw_seq fun K14 hK14 => ?_
      refine cw_block ?_
      refine cw_rd (by kernel_rfl) (by kernel_rfl) (by kernel_rfl) rfl rfl fun K15 hK15 => ?_
      -- region 10
      have hs2 := Step.drew hT.sat
      replace hd := hd.then hs2
      replace hT := hT.then hs2
      refine at_q (i := 0) (li := #[true, false, false, false, false, false, false, false, false, false, false, false, false, false, false, false, false, false, false, false]) rfl (by kernel_rfl) rfl (fun _ => (q_move rfl)) (by kernel_rfl) ?_
      refine at_q (i := 1) (li := #[true, true, false, false, false, false, false, false, false, false, false, false, false, false, false, false, false, false, false, false]) rfl (by kernel_rfl) rfl (fun _ => (q_move rfl)) (by kernel_rfl) ?_
      refine at_q (i := 2) (li := #[true, true, true, false, false, false, false, false, false, false, false, false, false, false, false, false, false, false, false, false]) rfl (by kernel_rfl) rfl (fun _ => (q_move rfl)) (by kernel_rfl) ?_
      refine at_q (i := 3) (li := #[true, true, true, true, false, false, false, false, false, false, false, false, false, false, false, false, false, false, false, false]) rfl (by kernel_rfl) rfl (fun _ => (q_move rfl)) (by kernel_rfl) ?_
      refine at_q (i := 4) (li := #[true, true, true, true, true, false, false, false, false, false, false, false, false, false, false, false, false, false, false, false]) rfl (by kernel_rfl) rfl (fun _ => (q_move rfl)) (by kernel_rfl) ?_
      refine at_q (i := 5) (li := #[true, true, true, true, true, true, false, false, false, false, false, false, false, false, false, false, false, false, false, false]) rfl (by kernel_rfl) rfl (fun _ => (q_addx rfl rfl (by omega) (by omega))) (by kernel_rfl) ?_
      refine at_q (i := 6) (li := #[true, true, true, true, true, true, true, false, false, false, false, false, false, false, false, false, false, false, false, false]) rfl (by kernel_rfl) rfl (fun _ => (q_move rfl)) (by kernel_rfl) ?_
      refine at_q (i := 7) (li := #[true, true, true, true, true, true, true, true, false, false, false, false, false, false, false, false, false, false, false, false]) rfl (by kernel_rfl) rfl (fun _ => (q_move rfl)) (by kernel_rfl) ?_
      refine at_q (i := 8) (li := #[true, true, true, true, true, true, true, true, true, false, false, false, false, false, false, false, false, false, false, false]) rfl (by kernel_rfl) rfl (fun _ => (q_move rfl)) (by kernel_rfl) ?_
      refine at_q (i := 9) (li := #[true, true, true, true, true, true, true, true, true, true, false, false, false, false, false, false, false, false, false, false]) rfl (by kernel_rfl) rfl (fun _ => (q_addx rfl rfl (by omega) (by omega))) (by kernel_rfl) ?_
      refine at_q (i := 10) (li := #[true, true, true, true, true, true, true, true, true, true, true, false, false, false, false, false, false, false, false, false]) rfl (by kernel_rfl) rfl (fun _ => (q_indexAddr (e := 23) (size := 2) (by kernel_rfl) (by kernel_rfl) rfl rfl (by omega) (by omega))) (by kernel_rfl) ?_
      refine at_l (i := 11) (li := #[true, true, true, true, true, true, true, true, true, true, true, true, false, false, false, false, false, false, false, false]) (cellsAre _ _ 2 _) rfl (by kernel_rfl) rfl (fun _ h => q_loadc (n := 2) (by kernel_rfl) rfl h) (hd.elem (i := ((a : Nat) + (k : Nat) : Int)) (by omega) (by omega)) (by kernel_rfl) ?_
      refine at_q (i := 12) (li := #[true, true, true, true, true, true, true, true, true, true, true, true, true, false, false, false, false, false, false, false]) rfl (by kernel_rfl) rfl (fun _ => (q_move rfl)) (by kernel_rfl) ?_
      refine at_q (i := 13) (li := #[true, true, true, true, true, true, true, true, true, true, true, true, true, true, false, false, false, false, false, false]) rfl (by kernel_rfl) rfl (fun _ => (q_move rfl)) (by kernel_rfl) ?_
      refine at_q (i := 14) (li := #[true, true, true, true, true, true, true, true, true, true, true, true, true, true, true, false, false, false, false, false]) rfl (by kernel_rfl) rfl (fun _ => (q_indexAddr (e := 23) (size := 2) (by kernel_rfl) (by kernel_rfl) rfl rfl (by omega) (by omega))) (by kernel_rfl) ?_
      refine at_l (i := 15) (li := #[true, true, true, true, true, true, true, true, true, true, true, true, true, true, true, true, false, false, false, false]) (cellsAre _ _ 2 _) rfl (by kernel_rfl) rfl (fun _ h => q_loadc (n := 2) (by kernel_rfl) rfl h) (hd.elem (i := ((a : Nat) : Int)) (by omega) (by omega)) (by kernel_rfl) ?_
      refine at_q (i := 16) (li := #[true, true, true, true, true, true, true, true, true, true, true, true, true, true, true, true, true, false, false, false]) rfl (by kernel_rfl) rfl (fun _ => (q_indexAddr (e := 23) (size := 2) (by kernel_rfl) (by kernel_rfl) rfl rfl (by omega) (by omega))) (by kernel_rfl) ?_
      refine at_h0 (i := 17) (li := #[true, true, true, true, true, true, true, true, true, true, true, true, true, true, true, true, true, true, false, false]) rfl (by kernel_rfl) (keep_sift (bs := [true, true]) (by kernel_rfl)) (by kernel_rfl) (h_storeD (i := ((a : Nat) : Int)) (e := d2[((a : Nat) + (k : Nat) : Int).toNat]!) hs2.sat hd rfl rfl (by kernel_rfl) (by omega) (by omega) fun w3 hs3 hd3 => ?_)
      replace hT := hT.also hs3
      clear hd; have hd := hd3; clear hd3
      refine ⟨(by repeat' first | exact trivial | exact (hd.elem (i := ((a : Nat) + (k : Nat) : Int)) (by omega) (by omega)) | exact (hd.elem (i := ((a : Nat) : Int)) (by omega) (by omega)) | assumption | refine all_keep ?_ | refine And.intro ?_ ?_), ?_⟩
      refine at_q (i := 18) (li := #[true, true, true, true, true, true, true, true, true, true, true, true, true, true, true, true, true, true, true, false]) rfl (by kernel_rfl) rfl (fun _ => (q_indexAddr (e := 23) (size := 2) (by kernel_rfl) (by kernel_rfl) rfl rfl (by omega) (by omega))) (by kernel_rfl) ?_
      refine at_h0 (i := 19) (li := #[true, true, true, true, true, true, true, true, true, true, true, true, true, true, true, true, true, true, true, true]) rfl (by kernel_rfl) rfl (by kernel_rfl) (h_storeD (i := ((a : Nat) + (k : Nat) : Int)) (e := d2[((a : Nat) : Int).toNat]!) hs3.sat hd rfl rfl (by kernel_rfl) (by omega) (by omega) fun w4 hs4 hd4 => ?_)
      replace hT := hT.also hs4
      clear hd; have hd := hd4; clear hd4
      refine ⟨(by repeat' first | exact trivial | exact (hd.elem (i := ((a : Nat) + (k : Nat) : Int)) (by omega) (by omega)) | exact (hd.elem (i := ((a : Nat) : Int)) (by omega) (by omega)) | assumption | refine all_keep ?_ | refine And.intro ?_ ?_), ?_⟩
      refine at_done (by kernel_rfl) (hK15 _ _ ?_)
      clear hK15 K15
      refine cw_region fun K16 hK16 => ?_
      -- region 11
      refine as_q rfl rfl (q_move rfl) ?_
      refine as_q rfl rfl (q_move rfl) ?_
      refine as_q rfl rfl (q_move rfl) ?_
      refine as_q rfl rfl (q_move rfl) ?_
      refine as_q rfl rfl (q_move rfl) ?_
      refine as_h rfl (h_call (by kernel_rfl) rfl ?_)
      refine (srt_sift (lo := 0) (hi := k) (f := a) hs4.sat hn hd (by omega) (by omega)).mono ?_
      rintro _ w5 ⟨hs5, hd5⟩
      replace hT := hT.also hs5
      clear hd; have hd := hd5; clear hd5
      refine as_nil (hK16 _ _ ?_)
      clear hK16 K16
      refine hK14 _ _ ?_
      clear hK14 K14
      refine cw_region fun K17 hK17 => ?_
      -- region 9
      refine as_q rfl rfl (q_move rfl) ?_
      refine as_q rfl rfl (q_subx rfl rfl (by omega) (by omega)) ?_
      refine as_q rfl rfl (q_assign rfl) ?_
      refine as_nil (hK17 _ _ ?_)
      clear hK17 K17
      exact ⟨k, _, by omega, (.cons rfl (.cons rfl (.cons rfl (.cons rfl (.cons rfl (.cons rfl (.nil _))))))), (k : Int) - 1, _, by omega, by omega, hpd, rfl, hT, hd⟩
    · skip
      obtain rfl : mm = 0 := by have := of_decide_eq_false hc1; omega
      refine cw_exit ?_
      replace hpd : d2 = _ := hpd
      subst hpd
      exact ⟨_, res_nil, hT, hd⟩

theorem srt_reverse {w : World} {M : Mem} {g n cap : Nat} {d : Array El} {a b : Nat} (hs : Sat M w) (hn : n ≤ 100000) (hd : ElRow 23 w M g n cap d) (hab : a < b) (hb : b ≤ n) :
    Does Tryd.prog 45 #[.slice (some ⟨g, 0, none⟩) n cap, .int .i64 a, .int .i64 b, (.func (.func 16) #[] #[])] w (fun _ w' => Step (Just g) M w M w' ∧ ElRow 23 w' M g n cap (Go.Sort.reverseRange d a b)) := by
  have hT := Step.refl (Just g) hs
  have hsz := hd.size
  refine fn_enter Tryd.func45 rfl (rs := []) rfl rfl rfl rfl ?_
  refine cw_rs fun K1 hK1 => ?_
  -- region 0
  refine as_q rfl rfl (q_move rfl) ?_
  refine as_q rfl rfl (q_assign rfl) ?_
  refine as_nil (hK1 _ _ ?_)
  clear hK1 K1
  refine cw_rs fun K2 hK2 => ?_
  -- region 1
  refine as_q rfl rfl (q_move rfl) ?_
  refine as_q rfl rfl (q_congr (q_subx rfl rfl (by omega) (by omega)) (v' := .int .i64 (((b - 1 : Nat) : Int))) (congrArg (Value.int .i64) (by omega))) ?_
  refine as_q rfl rfl (q_assign rfl) ?_
  refine as_nil (hK2 _ _ ?_)
  clear hK2 K2
  refine cw_block ?_
  refine cw_loop (fun mm l w1 => ∃ (i j : Nat) (d2 : Array El), mm = j - i ∧ j < n ∧ Go.Sort.reverseLoop i j d2 = Go.Sort.reverseRange d a b ∧ l = [(0, .slice (some ⟨g, 0, none⟩) n cap), (8, .int .i64 i), (9, .int .i64 j)] ∧ Step (Just g) M w M w1 ∧ ElRow 23 w1 M g n cap d2) (b - 1 - a) [(0, .slice (some ⟨g, 0, none⟩) n cap), (8, .int .i64 a), (9, .int .i64 ((b - 1 : Nat) : Int))] (.cons rfl (.cons rfl (.cons rfl (.nil _)))) ?_ ?_
  · skip
    exact ⟨a, b - 1, d, rfl, by omega, rfl, rfl, hT, hd⟩
  clear hT hd
  rintro mm l w1 ⟨i, j, d2, rfl, hjn, hrv, rfl, hT, hd⟩
  refine cw_seq fun K3 hK3 => ?_
  refine cw_rs fun K4 hK4 => ?_
  -- region 2
  refine as_q rfl rfl (q_move rfl) ?_
  refine as_q rfl rfl (q_move rfl) ?_
  first | refine as_q rfl rfl (q_ltT rfl rfl (by omega)) ?_ | refine as_q rfl rfl (q_ltF rfl rfl (by omega)) ?_ | refine as_q rfl rfl (q_lt rfl rfl) ?_
  refine as_nil (hK4 _ _ ?_)
  clear hK4 K4
  refine cw_cond rfl (fun hc0 => ?_) (fun hc0 => ?_)
  · skip
    have hij : i < j := by have := of_decide_eq_true hc0; omega
    refine cw_skip ?_
    refine hK3 _ _ ?_
    clear hK3 K3
    refine cw_block ?_
    refine cw_rd (by kernel_rfl) (by kernel_rfl) (by kernel_rfl) rfl rfl fun K5 hK5 => ?_
    -- region 3
    have hs1 := Step.drew hT.sat
    replace hd := hd.then hs1
    replace hT := hT.then hs1
    refine at_q (i := 0) (li := #[true, false, false, false, false, false, false, false, false, false, false, false, false, false, false, false]) rfl (by kernel_rfl) rfl (fun _ => (q_move rfl)) (by kernel_rfl) ?_
    refine at_q (i := 1) (li := #[true, true, false, false, false, false, false, false, false, false, false, false, false, false, false, false]) rfl (by kernel_rfl) rfl (fun _ => (q_move rfl)) (by kernel_rfl) ?_
    refine at_q (i := 2) (li := #[true, true, true, false, false, false, false, false, false, false, false, false, false, false, false, false]) rfl (by kernel_rfl) rfl (fun _ => (q_move rfl)) (by kernel_rfl) ?_
    refine at_q (i := 3) (li := #[true, true, true, true, false, false, false, false, false, false, false, false, false, false, false, false]) rfl (by kernel_rfl) rfl (fun _ => (q_move rfl)) (by kernel_rfl) ?_
    refine at_q (i := 4) (li := #[true, true, true, true, true, false, false, false, false, false, false, false, false, false, false, false]) rfl (by kernel_rfl) rfl (fun _ => (q_move rfl)) (by kernel_rfl) ?_
    refine at_q (i := 5) (li := #[true, true, true, true, true, true, false, false, false, false, false, false, false, false, false, false]) rfl (by kernel_rfl) rfl (fun _ => (q_move rfl)) (by kernel_rfl) ?_
    refine at_q (i := 6) (li := #[true, true, true, true, true, true, true, false, false, false, false, false, false, false, false, false]) rfl (by kernel_rfl) rfl (fun _ => (q_indexAddr (e := 23) (size := 2) (by kernel_rfl) (by kernel_rfl) rfl rfl (by omega) (by omega))) (by kernel_rfl) ?_
    refine at_l (i := 7) (li := #[true, true, true, true, true, true, true, true, false, false, false, false, false, false, false, false]) (cellsAre _ _ 2 _) rfl (by kernel_rfl) rfl (fun _ h => q_loadc (n := 2) (by kernel_rfl) rfl h) (hd.elem (i := ((j : Nat) : Int)) (by omega) (by omega)) (by kernel_rfl) ?_
    refine at_q (i := 8) (li := #[true, true, true, true, true, true, true, true, true, false, false, false, false, false, false, false]) rfl (by kernel_rfl) rfl (fun _ => (q_move rfl)) (by kernel_rfl) ?_
    refine at_q (i := 9) (li := #[true, true, true, true, true, true, true, true, true, true, false, false, false, false, false, false]) rfl (by kernel_rfl) rfl (fun _ => (q_move rfl)) (by kernel_rfl) ?_
    refine at_q (i := 10) (li := #[true, true, true, true, true, true, true, true, true, true, true, false, false, false, false, false]) rfl (by kernel_rfl) rfl (fun _ => (q_indexAddr (e := 23) (size := 2) (by kernel_rfl) (by kernel_rfl) rfl rfl (by omega) (by omega))) (by kernel_rfl) ?_
    refine at_l (i := 11) (li := #[true, true, true, true, true, true, true, true, true, true, true, true, false, false, false, false]) (cellsAre _ _ 2 _) rfl (by kernel_rfl) rfl (fun _ h => q_loadc (n := 2) (by kernel_rfl) rfl h) (hd.elem (i := ((i : Nat) : Int)) (by omega) (by omega)) (by kernel_rfl) ?_
    refine at_q (i := 12) (li := #[true, true, true, true, true, true, true, true, true, true, true, true, true, false, false, false]) rfl (by kernel_rfl) rfl (fun _ => (q_indexAddr (e := 23) (size := 2) (by kernel_rfl) (by kernel_rfl) rfl rfl (by omega) (by omega))) (by kernel_rfl) ?_
    refine at_h0 (i := 13) (li := #[true, true, true, true, true, true, true, true, true, true, true, true, true, true, false, false]) rfl (by kernel_rfl) (keep_sift (bs := [true, true]) (by kernel_rfl)) (by kernel_rfl) (h_storeD (i := ((i : Nat) : Int)) (e := d2[((j : Nat) : Int).toNat]!) hs1.sat hd rfl rfl (by kernel_rfl) (by omega) (by omega) fun w2 hs2 hd2 => ?_)
    replace hT := hT.also hs2
    clear hd; have hd := hd2; clear hd2
    refine ⟨(by repeat' first | exact trivial | exact (hd.elem (i := ((j : Nat) : Int)) (by omega) (by omega)) | exact (hd.elem (i := ((i : Nat) : Int)) (by omega) (by omega)) | assumption | refine all_keep ?_ | refine And.intro ?_ ?_), ?_⟩
    refine at_q (i := 14) (li := #[true, true, true, true, true, true, true, true, true, true, true, true, true, true, true, false]) rfl (by kernel_rfl) rfl (fun _ => (q_indexAddr (e := 23) (size := 2) (by kernel_rfl) (by kernel_rfl) rfl rfl (by omega) (by omega))) (by kernel_rfl) ?_
    refine at_h0 (i := 15) (li := #[true, true, true, true, true, true, true, true, true, true, true, true, true, true, true, true]) rfl (by kernel_rfl) rfl (by kernel_rfl) (h_storeD (i := ((j : Nat) : Int)) (e := d2[((i : Nat) : Int).toNat]!) hs2.sat hd rfl rfl (by kernel_rfl) (by omega) (by omega) fun w3 hs3 hd3 => ?_)
    replace hT := hT.also hs3
    clear hd; have hd := hd3; clear hd3
    refine ⟨(by repeat' first | exact trivial | exact (hd.elem (i := ((j : Nat) : Int)) (by omega) (by omega)) | exact (hd.elem (i := ((i : Nat) : Int)) (by omega) (by omega)) | assumption | refine all_keep ?_ | refine And.intro ?_ ?_), ?_⟩
    refine at_done (by kernel_rfl) (hK5 _ _ ?_)
    clear hK5 K5
    refine cw_rs fun K6 hK6 => ?_
    -- region 4
    refine as_q rfl rfl (q_move rfl) ?_
    refine as_q rfl rfl (q_addx rfl rfl (by omega) (by omega)) ?_
    refine as_q rfl rfl (q_assign rfl) ?_
    refine as_nil (hK6 _ _ ?_)
    clear hK6 K6
    refine cw_region fun K7 hK7 => ?_
    -- region 5
    refine as_q rfl rfl (q_move rfl) ?_
    refine as_q rfl rfl (q_congr (q_subx rfl rfl (by omega) (by omega)) (v' := .int .i64 (((j - 1 : Nat) : Int))) (congrArg (Value.int .i64) (by omega))) ?_
    refine as_q rfl rfl (q_assign rfl) ?_
    refine as_nil (hK7 _ _ ?_)
    clear hK7 K7
    refine ⟨_, _, ?_, (.cons rfl (.cons rfl (.cons rfl (.nil _)))), i + 1, j - 1, Go.Sort.swp d2 i j, rfl, by omega, ?_, rfl, hT, hd⟩
    · omega
    · rw [← hrv]
      conv => rhs; rw [Go.Sort.reverseLoop]
      rw [if_pos hij]
  · skip
    have hij : j ≤ i := by have := of_decide_eq_false hc0; omega
    refine cw_exit ?_
    rw [Go.Sort.reverseLoop, if_neg (by omega)] at hrv
    subst hrv
    exact ⟨_, res_nil, hT, hd⟩

end Go.Proofs.YtbfjkclijjhlhaaDoor
