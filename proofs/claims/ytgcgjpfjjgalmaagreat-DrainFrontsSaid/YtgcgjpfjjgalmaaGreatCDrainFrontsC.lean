/- Steps of the proof that the law of this claim answers true, part 3. No conditions. -/
import Derived.Test.YtgcgjpfjjgalmaaGreatProg
import Derived.KernelRfl
import Derived.Shelf.Strings.OnBuilder
import Derived.Shelf.Strconv.Itoa4
import Derived.Test.YtgcgjpfjjgalmaaGreatRows
import Derived.Test.YtgcgjpfjjgalmaaGreatCDrainFrontsB
/- Elements in order, and steps that nobody counts, part 1. -/
namespace Go.Proofs.YtgcgjpfjjgalmaaGreat
open Go Go.Eng
theorem srt_isNaN {w : World} {M : Mem} {a : Int} (hs : Sat M w) :
  Does Tryz.prog 154 #[.int .i64 a] w (fun v w' => v = .bool false ∧ Step Nope M w M w') := by
 have hT := Step.refl Nope hs
 refine fn_enter Tryz.func154 rfl (rs := [.tmp 2]) rfl rfl rfl rfl ?_
 refine cw_rs fun _ κ => ?_
 refine Sa rfl rfl ?_
 refine as_nil (κ _ _ ?_)
 refine cw_rs fun _ κ => ?_
 refine Sm rfl rfl ?_
 refine Sm rfl rfl ?_
 refine as_q rfl rfl (q_neF rfl rfl (by omega)) ?_
 refine Sa rfl rfl ?_
 refine as_nil (κ _ _ ?_)
 refine cw_ret ?_
 exact ⟨_, (res_tmp rfl res_nil), rfl, hT⟩
theorem srt_cmp1 {w : World} {M : Mem} {a b : Int} (hs : Sat M w) :
  Does Tryz.prog 153 #[.int .i64 a, .int .i64 b] w (fun v w' => v = .int .i64 (cmp1 a b) ∧ Step Nope M w M w') := by
 have hT := Step.refl Nope hs
 refine fn_enter Tryz.func153 rfl (rs := [.tmp 4]) rfl rfl rfl rfl ?_
 refine cw_rs fun _ κ => ?_
 refine Sa rfl rfl ?_
 refine as_nil (κ _ _ ?_)
 refine cw_rs fun _ κ => ?_
 refine Sm rfl rfl ?_
 refine as_h rfl (h_call (by kernel_rfl) rfl ?_)
 refine (srt_isNaN hs).mono ?_
 rintro _ w1 ⟨rfl, hs1⟩
 have hT:=hT.then hs1
 refine Sa rfl rfl ?_
 refine as_nil (κ _ _ ?_)
 refine cw_rs fun _ κ => ?_
 refine Sm rfl rfl ?_
 refine as_h rfl (h_call (by kernel_rfl) rfl ?_)
 refine (srt_isNaN hs1.sat).mono ?_
 rintro _ w2 ⟨rfl, hs2⟩
 have hT:=hT.then hs2
 refine Sa rfl rfl ?_
 refine as_nil (κ _ _ ?_)
 refine cw_seq fun _ hK4 => ?_
 refine cw_rs fun _ κ => ?_
 refine Sm rfl rfl ?_
 refine as_nil (κ _ _ ?_)
 refine cw_false rfl ?_
 refine cw_skip ?_
 refine hK4 _ _ ?_
 refine cw_seq fun _ hK6 => ?_
 refine cw_rs fun _ κ => ?_
 refine Sm rfl rfl ?_
 refine as_nil (κ _ _ ?_)
 refine cw_false rfl ?_
 refine cw_skip ?_
 refine hK6 _ _ ?_
 refine cw_seq fun _ hK8 => ?_
 refine cw_rs fun _ κ => ?_
 refine Sm rfl rfl ?_
 refine Sm rfl rfl ?_
 refine as_q rfl rfl (q_lt rfl rfl) ?_
 refine as_nil (κ _ _ ?_)
 refine cw_cond rfl (fun hc3 => ?_) (fun hc3 => ?_)
 ·
  have hc3:=of_decide_eq_true hc3
  refine cw_rs fun _ κ => ?_
  refine Sa rfl rfl ?_
  refine as_nil (κ _ _ ?_)
  refine cw_ret ?_
  exact ⟨_, (res_tmp rfl res_nil), by rw [show cmp1 a b = -1 from if_pos (by omega)]; rfl, hT⟩
 ·
  have hc3:=of_decide_eq_false hc3
  refine cw_skip ?_
  refine hK8 _ _ ?_
  refine cw_seq fun _ hK11 => ?_
  refine cw_rs fun _ κ => ?_
  refine Sm rfl rfl ?_
  refine Sm rfl rfl ?_
  refine as_q rfl rfl (q_gt rfl rfl) ?_
  refine as_nil (κ _ _ ?_)
  refine cw_cond rfl (fun hc4 => ?_) (fun hc4 => ?_)
  ·
   have hc4:=of_decide_eq_true hc4
   refine cw_rs fun _ κ => ?_
   refine Sa rfl rfl ?_
   refine as_nil (κ _ _ ?_)
   refine cw_ret ?_
   exact ⟨_, (res_tmp rfl res_nil), by rw [show cmp1 a b = 1 from (if_neg (by omega)).trans (if_pos (by omega))]; rfl, hT⟩
  ·
   have hc4:=of_decide_eq_false hc4
   refine cw_skip ?_
   refine hK11 _ _ ?_
   refine cw_rs fun _ κ => ?_
   refine Sa rfl rfl ?_
   refine as_nil (κ _ _ ?_)
   refine cw_ret ?_
   exact ⟨_, (res_tmp rfl res_nil), by rw [show cmp1 a b = 0 from (if_neg (by omega)).trans (if_neg (by omega))]; rfl, hT⟩
theorem or_get {x y z : Int} {i : Nat} (h : [x, y][i]? = some z) : [Value.int .i64 x, Value.int .i64 y][i]? = some (.int .i64 z) := by
 match i, h with
 | 0, h => cases h; rfl
 | 1, h => cases h; rfl
 | _ + 2, h => simp at h
theorem or_first {x y z : Int} {i : Nat} (h : [x, y][i]? = some z) (hz : z ≠ 0) (h0 : ∀ j z, j < i → [x, y][j]? = some z → z = 0) : (if x = 0 then y else x) = z := by
 match i, h with
 | 0, h => cases h; exact if_neg hz
 | 1, h => cases h; exact if_pos (h0 0 x (by omega) rfl)
 | _ + 2, h => simp at h
theorem or_none {x y : Int} (h0 : ∀ j z, j < 2 → [x, y][j]? = some z → z = 0) : (if x = 0 then y else x) = 0 := by
 rw [if_pos (h0 0 x (by omega) rfl)]
 exact h0 1 y (by omega) rfl
theorem srt_or {w : World} {M : Mem} {x y : Int} {g o c : Nat} (hs : Sat M w) (hr : RdM M 1 (.slice (some ⟨g, o, none⟩) 2 c) 2 [.int .i64 x, .int .i64 y]) :
  Does Tryz.prog 152 #[.slice (some ⟨g, o, none⟩) 2 c] w (fun v w' => v = .int .i64 (if x = 0 then y else x) ∧ Step Nope M w M w') := by
 have hT := Step.refl Nope hs
 refine fn_enter Tryz.func152 rfl (rs := [.tmp 2]) rfl rfl rfl rfl ?_
 refine cw_rs fun _ κ => ?_
 refine Sa rfl rfl ?_
 refine as_nil (κ _ _ ?_)
 refine cw_rs fun _ κ => ?_
 refine Sa rfl rfl ?_
 refine as_nil (κ _ _ ?_)
 refine cw_seq fun _ hK3 => ?_
 refine cw_rs fun _ κ => ?_
 refine Sm rfl rfl ?_
 refine as_q rfl rfl (q_len (by kernel_rfl) rfl _) ?_
 refine Sm rfl rfl ?_
 refine as_nil (κ _ _ ?_)
 refine cw_block ?_
 refine cw_loop (fun mm l w1 => ∃ i : Nat, mm = 2 - i ∧ i ≤ 2 ∧ (∀ j z, j < i → [x, y][j]? = some z → z = 0) ∧ l = [(3, .int .i64 0), (6, .slice (some ⟨g, o, none⟩) 2 c), (7, .int .i64 (2 : Nat)), (8, .int .i64 i)] ∧ Step Nope M w M w1) (2) [(3, .int .i64 0), (6, .slice (some ⟨g, o, none⟩) 2 c), (7, .int .i64 (2 : Nat)), (8, .int .i64 (0 : Nat))] (.cons rfl (.cons rfl (.cons rfl (.cons rfl (.nil _))))) ?_ ?_
 ·
  exact ⟨0, rfl, by omega, fun j z hj => by omega, rfl, hT⟩
 clear hT
 rintro mm l w1 ⟨i, rfl, hi, hx0, rfl, hT⟩
 refine cw_rs fun _ κ => ?_
 refine as_q rfl rfl (q_lt rfl rfl) ?_
 refine as_nil (κ _ _ ?_)
 refine cw_seq fun _ hK6 => ?_
 refine cw_cond rfl (fun hc0 => ?_) (fun hc0 => ?_)
 ·
  have hlt : i < 2 := by have := of_decide_eq_true hc0; omega
  obtain ⟨z, hz⟩ : ∃ z, [x, y][i]? = some z := ⟨[x, y][i], by simp⟩
  refine cw_skip ?_
  refine hK6 _ _ ?_
  refine cw_seq fun _ hK7 => ?_
  refine cw_block ?_
  refine cw_rs fun _ κ => ?_
  refine as_q rfl rfl (q_indexAddr (e := 3) (size := 1) (by kernel_rfl) (by kernel_rfl) rfl rfl (by omega) (by omega)) ?_
  refine S1 rfl (by kernel_rfl) rfl (hr.cell hT.sat (u := .int .i64 z) (by rw [show (i : Int).toNat * 1 = i from by omega]; exact or_get hz)) ?_
  refine Sa rfl rfl ?_
  refine as_nil (κ _ _ ?_)
  refine cw_rs fun _ κ => ?_
  refine Sm rfl rfl ?_
  refine Sm rfl rfl ?_
  refine as_q rfl rfl (q_ne rfl rfl) ?_
  refine as_nil (κ _ _ ?_)
  refine cw_cond rfl (fun hc1 => ?_) (fun hc1 => ?_)
  ·
   have hz0 : z ≠ 0 := by simpa using hc1
   refine cw_rs fun _ κ => ?_
   refine Sm rfl rfl ?_
   refine Sa rfl rfl ?_
   refine as_nil (κ _ _ ?_)
   refine cw_ret ?_
   exact ⟨_, (res_tmp rfl res_nil), by rw [or_first hz hz0 hx0]; rfl, hT⟩
  ·
   have hz0 : z = 0 := by simpa using hc1
   refine cw_skip ?_
   refine hK7 _ _ ?_
   refine cw_region fun _ κ => ?_
   refine as_q rfl rfl (q_addx rfl rfl (by omega) (by omega)) ?_
   refine Sm rfl rfl ?_
   refine as_nil (κ _ _ ?_)
   refine ⟨_, _, ?_, (.cons rfl (.cons rfl (.cons rfl (.cons rfl (.nil _))))), i + 1, rfl, by omega, fun j z2 hj hz2 => ?_, rfl, hT⟩
   · omega
   ·
    rcases Nat.lt_or_ge j i with h | h
    · exact hx0 j z2 h hz2
    ·
     obtain rfl : j = i := by omega
     rw [hz] at hz2
     cases hz2
     exact hz0
 ·
  have hge : i = 2 := by have := of_decide_eq_false hc0; omega
  refine cw_exit ?_
  refine hK3 _ _ ?_
  refine cw_rs fun _ κ => ?_
  refine Sm rfl rfl ?_
  refine Sa rfl rfl ?_
  refine as_nil (κ _ _ ?_)
  refine cw_ret ?_
  subst hge
  exact ⟨_, (res_tmp rfl res_nil), by rw [or_none hx0]; rfl, hT⟩
theorem srt_compare {w : World} {M : Mem} {a b : El} (hs : Sat M w) :
  Does Tryz.prog 149 #[.agg (elc a).toArray, .agg (elc b).toArray] w (fun v w' => v = .int .i64 (cmpE a b) ∧ Step Nope M w M w') := by
 have hT := Step.refl Nope hs
 refine fn_enter Tryz.func149 rfl (rs := [.tmp 4]) rfl rfl rfl rfl ?_
 refine cw_rs fun _ κ => ?_
 have hqa1 := hT.size
 refine as_h rfl (h_boxO hs rfl rfl fun b1 w1 hs1 ho1 e1 => ?_)
 have hT:=hT.then hs1
 have hz1 := hs1.size
 have hl1 := ho1.1.lt
 have hqa2 := hT.size
 refine as_h rfl (h_boxO hs1.sat rfl rfl fun b2 w2 hs2 ho2 e2 => ?_)
 have ho1:=ho1.then hs2
 have hT:=hT.then hs2
 have hz2 := hs2.size
 have hl2 := ho2.1.lt
 refine Sa rfl rfl ?_
 refine as_nil (κ _ _ ?_)
 refine cw_seq fun _ hK2 => ?_
 refine cw_rs fun _ κ => ?_
 refine Sc 2 rfl (by kernel_rfl) rfl (by exact Blk.cells ho1.1 rfl) ?_
 refine Sc 2 rfl (by kernel_rfl) rfl (by exact Blk.cells ho2.1 rfl) ?_
 refine as_q rfl rfl (q_eqE (a := a) (b := b) (e := 2) (by kernel_rfl) (by kernel_rfl) (by kernel_rfl) (by kernel_rfl) (by kernel_rfl) (by kernel_rfl) rfl rfl) ?_
 refine as_nil (κ _ _ ?_)
 refine cw_cond rfl (fun hc0 => ?_) (fun hc0 => ?_)
 ·
  obtain rfl := of_decide_eq_true hc0
  refine cw_rs fun _ κ => ?_
  refine Sa rfl rfl ?_
  refine as_nil (κ _ _ ?_)
  refine cw_ret ?_
  exact ⟨_, (res_tmp rfl res_nil), by rw [show cmpE a a = 0 by unfold cmpE; rw [cmp1_zero.2 rfl, if_pos rfl, cmp1_zero.2 rfl]]; rfl, hT.forget⟩
 ·
  skip
  refine cw_skip ?_
  refine hK2 _ _ ?_
  refine cw_dr (by kernel_rfl) fun _ κ => ?_
  have hs3 := Step.drew hs2.sat
  have hz3 := hs3.size
  have ho1:=ho1.then hs3
  have ho2:=ho2.then hs3
  have hT:=hT.then hs3
  refine Df 0 1 0 rfl (by kernel_rfl) (by kernel_rfl) rfl ?_
  refine Dl1 1 3 rfl (by kernel_rfl) (by kernel_rfl) rfl (by exact Blk.cell ho1.1 rfl) ?_
  refine Df 2 7 0 rfl (by kernel_rfl) (by kernel_rfl) rfl ?_
  refine Dl1 3 15 rfl (by kernel_rfl) (by kernel_rfl) rfl (by exact Blk.cell ho2.1 rfl) ?_
  refine Df 5 47 1 rfl (by kernel_rfl) (by kernel_rfl) rfl ?_
  refine Dl1 6 111 rfl (by kernel_rfl) (by kernel_rfl) rfl (by exact Blk.cell ho1.1 rfl) ?_
  refine Df 7 239 1 rfl (by kernel_rfl) (by kernel_rfl) rfl ?_
  refine Dl1 8 495 rfl (by kernel_rfl) (by kernel_rfl) rfl (by exact Blk.cell ho2.1 rfl) ?_
  refine Dh 4 511 rfl (by kernel_rfl) (keep_sift (bs := [F,F,T,T]) (by kernel_rfl)) (h_call (by kernel_rfl) rfl ?_)
  refine (srt_cmp1 hs3.sat).mono ?_
  rintro _ w4 ⟨rfl, hs4⟩
  have ho1:=ho1.then hs4
  have ho2:=ho2.then hs4
  have hT:=hT.then hs4
  have hz4 := hs4.size
  refine ⟨(by repeat' first | exact trivial | exact Blk.cell ho1.1 rfl | exact Blk.cells ho1.1 rfl | exact Blk.cell ho2.1 rfl | exact Blk.cells ho2.1 rfl | assumption | refine all_keep ?_ | refine And.intro ?_ ?_), ?_⟩
  refine Dh 9 1023 rfl (by kernel_rfl) (keep_sift (bs := [T,T]) (by kernel_rfl)) (h_call (by kernel_rfl) rfl ?_)
  refine (srt_cmp1 hs4.sat).mono ?_
  rintro _ w5 ⟨rfl, hs5⟩
  have hT:=hT.then hs5
  have hz5 := hs5.size
  refine ⟨trivial, ?_⟩
  refine Dh 10 2047 rfl (by kernel_rfl) rfl (h_buildM (e := 3) (size := 1) (zs := [(.int .i64 0), (.int .i64 0)]) (cs := [_, _]) (by kernel_rfl) (by kernel_rfl) (by kernel_rfl) rfl hs5.sat rfl rfl rfl fun bO MO w6 hs6 hrO eO => ?_)
  have hT:=hT.then hs6
  have hz6 := hs6.size
  refine ⟨trivial, ?_⟩
  refine Dh 11 4095 rfl (by kernel_rfl) rfl (h_call (by kernel_rfl) rfl ?_)
  refine (srt_or hs6.sat hrO).mono ?_
  rintro _ w7 ⟨rfl, hs7⟩
  have hT:=hT.then hs7
  have hz7 := hs7.size
  refine ⟨trivial, ?_⟩
  refine Da 12 8191 rfl (by kernel_rfl) rfl ?_
  refine Dd (by kernel_rfl) (κ _ _ ?_)
  refine cw_ret ?_
  exact ⟨_, (res_tmp rfl res_nil), rfl, hT.forget⟩
theorem el_less {w : World} {M : Mem} {a b : El} (hs : Sat M w) :
  Does Tryz.prog 145 #[.agg (elc a).toArray, .agg (elc b).toArray] w (fun v w' => v = .bool (ltE a b) ∧ Step Nope M w M w') := by
 have hT := Step.refl Nope hs
 refine fn_enter Tryz.func145 rfl (rs := [.tmp 4]) rfl rfl rfl rfl ?_
 refine cw_rs fun _ κ => ?_
 refine as_h rfl (h_boxM hs rfl rfl fun b1 M1 w1 hs1 hb1 e1 => ?_)
 have hT:=hT.then hs1
 refine as_h rfl (h_boxM hs1.sat rfl rfl fun b2 M2 w2 hs2 hb2 e2 => ?_)
 have hb1:=hs2.le _ _ hb1
 have hT:=hT.then hs2
 refine Sa rfl rfl ?_
 refine as_nil (κ _ _ ?_)
 refine cw_rs fun _ κ => ?_
 refine Sc 2 rfl (by kernel_rfl) rfl (by exact BlkR.cells (hs2.sat _ _ _ hb1) rfl) ?_
 refine Sc 2 rfl (by kernel_rfl) rfl (by exact BlkR.cells (hs2.sat _ _ _ hb2) rfl) ?_
 refine as_h rfl (h_call (by kernel_rfl) rfl ?_)
 refine (srt_compare (a := a) (b := b) hs2.sat).mono ?_
 rintro _ w3 ⟨rfl, hs3⟩
 have hT:=hT.then hs3
 refine as_q rfl rfl (q_lt rfl rfl) ?_
 refine Sa rfl rfl ?_
 refine as_nil (κ _ _ ?_)
 refine cw_ret ?_
 exact ⟨_, (res_tmp rfl res_nil), rfl, hT.forget⟩
theorem m_less {w : World} {M : Mem} {a b : El} (hs : Sat M w) :
  Does Tryz.prog 137 #[.pointer none, .agg (elc a).toArray, .agg (elc b).toArray] w (fun v w' => v = .bool (ltE a b) ∧ Step Nope M w M w') := by
 have hT := Step.refl Nope hs
 refine fn_enter Tryz.func137 rfl (rs := [.tmp 6]) rfl rfl rfl rfl ?_
 refine cw_rs fun _ κ => ?_
 refine as_h rfl (h_boxM hs rfl rfl fun b1 M1 w1 hs1 hb1 e1 => ?_)
 have hT:=hT.then hs1
 refine as_h rfl (h_boxM hs1.sat rfl rfl fun b2 M2 w2 hs2 hb2 e2 => ?_)
 have hb1:=hs2.le _ _ hb1
 have hT:=hT.then hs2
 refine Sa rfl rfl ?_
 refine as_nil (κ _ _ ?_)
 refine cw_seq fun _ hK2 => ?_
 refine cw_rs fun _ κ => ?_
 refine Sm rfl rfl ?_
 refine as_q rfl rfl (q_nenil (by kernel_rfl) rfl) ?_
 refine as_nil (κ _ _ ?_)
 refine cw_false rfl ?_
 refine cw_skip ?_
 refine hK2 _ _ ?_
 refine cw_rs fun _ κ => ?_
 refine Sc 2 rfl (by kernel_rfl) rfl (by exact BlkR.cells (hs2.sat _ _ _ hb1) rfl) ?_
 refine Sc 2 rfl (by kernel_rfl) rfl (by exact BlkR.cells (hs2.sat _ _ _ hb2) rfl) ?_
 refine as_h rfl (h_call (by kernel_rfl) rfl ?_)
 refine (el_less (a := a) (b := b) hs2.sat).mono ?_
 rintro _ w3 ⟨rfl, hs3⟩
 have hT:=hT.then hs3
 refine Sa rfl rfl ?_
 refine as_nil (κ _ _ ?_)
 refine cw_ret ?_
 exact ⟨_, (res_tmp rfl res_nil), rfl, hT.forget⟩
theorem m_made {w : World} {M : Mem} {k : Int} (hs : Sat M w) :
  Does Tryz.prog 88 #[.pointer none, .int .i64 k] w (fun _ w' => Step Nope M w M w') := by
 have hT := Step.refl Nope hs
 refine fn_enter Tryz.func88 rfl (rs := []) rfl rfl rfl rfl ?_
 refine cw_rs fun _ κ => ?_
 refine Sm rfl rfl ?_
 refine as_q rfl rfl (q_nenil (by kernel_rfl) rfl) ?_
 refine as_nil (κ _ _ ?_)
 refine cw_false rfl ?_
 refine cw_skip ?_
 exact ⟨_, res_nil, hT⟩
end Go.Proofs.YtgcgjpfjjgalmaaGreat
/- The variable that holds the powers of ten: numbers, whichever. -/
namespace Go.Proofs.YtgcgjpfjjgalmaaGreat
open Go Go.Eng
theorem tab_of {W : World} (h : W.ShapedOpen Tryz.prog) : ∃ ns : List Int, ns.length = 20 ∧ (∀ x ∈ ns, IntKind.u64.has x) ∧ memOf W 0 = some (ns.map (Value.int .u64), 189) :=
 shaped_ints (n := 20) (u := 181) (zero := Array.replicate 20 (.int .u64 0)) (ts := List.replicate 20 181) h (of_decide_eq_true (by kernel_rfl)) (by kernel_rfl) (by simp) (by kernel_rfl) (by kernel_rfl) (by simp) Tryz.underlying181
end Go.Proofs.YtgcgjpfjjgalmaaGreat
/- Numbers as letters, part 1. -/
namespace Go.Proofs.YtgcgjpfjjgalmaaGreat
open Go Go.Eng
set_option maxRecDepth 4000 in
theorem fmt_base {w : World} {M : Mem} {b off n cap u0 : Nat} {cs R : List Value} {E : TypeId} (hs : Sat M w) (ho : Own w M b cs E) (hl : off + n ≤ cs.length) (hn : n ≤ 1000) (hu : u0 < 18446744073709551616) (hR : fmt8 off n u0 cs = R) :
  Does Tryz.prog 101 #[.slice (some ⟨b, off, none⟩) n cap, .int .u64 (u0 : Nat)] w (fun _ w' => Step (Just b) M w M w' ∧ Own w' M b R E) := by
 have hT := Step.refl (Just b) hs
 refine fn_enter Tryz.func101 rfl (rs := []) rfl rfl rfl rfl ?_
 refine cw_rs fun _ κ => ?_
 refine Sm rfl rfl ?_
 refine as_q rfl rfl (q_len (by kernel_rfl) rfl _) ?_
 refine Sa rfl rfl ?_
 refine as_nil (κ _ _ ?_)
 refine cw_seq fun _ hK2 => ?_
 refine cw_block ?_
 refine cw_loop (fun mm l1 wL => ∃ (i u : Nat) (cs1 : List Value), i = mm ∧ u < 18446744073709551616 ∧ fmt8 off i u cs1 = R ∧ l1 = [(0, .slice (some ⟨b, off, none⟩) n cap), (1, .int .u64 (u : Nat)), (4, .int .i64 (i : Nat))] ∧ cs1.length = cs.length ∧ i ≤ n ∧ Step (Just b) M w M wL ∧ Own wL M b cs1 E) (n) [(0, .slice (some ⟨b, off, none⟩) n cap), (1, .int .u64 (u0 : Nat)), (4, .int .i64 (n : Nat))] (.cons rfl (.cons rfl (.cons rfl (.nil _)))) ?_ ?_
 ·
  exact ⟨n, u0, cs, rfl, hu, hR, rfl, rfl, Nat.le_refl _, hT, ho⟩
 clear hT ho
 rintro mm l1 wL ⟨i, u, cs1, rfl, hu1, hF, rfl, hl1, hi, hT, ho⟩
 refine cw_seq fun _ hK3 => ?_
 refine cw_rs fun _ κ => ?_
 refine Sm rfl rfl ?_
 refine as_q rfl rfl (q_ge rfl rfl) ?_
 refine as_nil (κ _ _ ?_)
 refine cw_cond rfl (fun hc0 => ?_) (fun hc0 => ?_)
 ·
  have hge : 8 ≤ i := by have := of_decide_eq_true hc0; omega
  rw [fmt8, dif_pos hge] at hF
  refine cw_skip ?_
  refine hK3 _ _ ?_
  refine cw_block ?_
  refine cw_rs fun _ κ => ?_
  refine Sm rfl rfl ?_
  refine as_q rfl rfl (q_remN 100000000 (by decide) rfl rfl) ?_
  refine as_q rfl rfl (q_conv32x (by omega) (by kernel_rfl) (by kernel_rfl) rfl) ?_
  refine Sa rfl rfl ?_
  refine as_nil (κ _ _ ?_)
  refine cw_rs fun _ κ => ?_
  refine Sm rfl rfl ?_
  refine as_q rfl rfl (q_quoN 100000000 (by decide) rfl rfl (.inr rfl) (.inr ⟨rfl, by omega⟩)) ?_
  refine Sa rfl rfl ?_
  refine as_nil (κ _ _ ?_)
  refine cw_rs fun _ κ => ?_
  refine Sm rfl rfl ?_
  refine as_q rfl rfl (q_quoN 10000 (by decide) rfl rfl (.inl rfl) (.inl (by omega))) ?_
  refine Sm rfl rfl ?_
  refine as_q rfl rfl (q_remN 10000 (by decide) rfl rfl) ?_
  refine Sa rfl rfl ?_
  refine Sa rfl rfl ?_
  refine as_nil (κ _ _ ?_)
  refine cw_rs fun _ κ => ?_
  refine Sm rfl rfl ?_
  refine as_q rfl rfl (q_quoN 100 (by decide) rfl rfl (.inl rfl) (.inl (by omega))) ?_
  refine as_q rfl rfl (q_mulN 2 rfl rfl (by omega)) ?_
  refine Sm rfl rfl ?_
  refine as_q rfl rfl (q_remN 100 (by decide) rfl rfl) ?_
  refine as_q rfl rfl (q_mulN 2 rfl rfl (by omega)) ?_
  refine Sa rfl rfl ?_
  refine Sa rfl rfl ?_
  refine as_nil (κ _ _ ?_)
  refine cw_rs fun _ κ => ?_
  refine Sm rfl rfl ?_
  refine as_q rfl rfl (q_quoN 100 (by decide) rfl rfl (.inl rfl) (.inl (by omega))) ?_
  refine as_q rfl rfl (q_mulN 2 rfl rfl (by omega)) ?_
  refine Sm rfl rfl ?_
  refine as_q rfl rfl (q_remN 100 (by decide) rfl rfl) ?_
  refine as_q rfl rfl (q_mulN 2 rfl rfl (by omega)) ?_
  refine Sa rfl rfl ?_
  refine Sa rfl rfl ?_
  refine as_nil (κ _ _ ?_)
  refine cw_dr (by kernel_rfl) fun _ κ => ?_
  have hs1 := Step.drew hT.sat
  have ho:=ho.then hs1
  have hT:=hT.then hs1
  refine Dm 0 1 rfl (by kernel_rfl) rfl ?_
  refine Dm 1 3 rfl (by kernel_rfl) rfl ?_
  refine Dq 2 7 rfl (by kernel_rfl) (fun _ => (q_subx rfl rfl (by omega) (by omega))) ?_
  refine Dm 3 15 rfl (by kernel_rfl) rfl ?_
  refine Dm 4 31 rfl (by kernel_rfl) rfl ?_
  refine Dq 5 63 rfl (by kernel_rfl) (fun _ => (q_subx rfl rfl (by omega) (by omega))) ?_
  refine Dm 6 127 rfl (by kernel_rfl) rfl ?_
  refine Dq 7 255 rfl (by kernel_rfl) (fun _ => (q_addN 1 rfl rfl (by omega))) ?_
  refine Dq 8 511 rfl (by kernel_rfl) (fun _ => (q_sm (by decide +kernel) (by kernel_rfl) rfl (by omega))) ?_
  refine Dm 9 1023 rfl (by kernel_rfl) rfl ?_
  refine Dq 10 2047 rfl (by kernel_rfl) (fun _ => (q_sm (by decide +kernel) (by kernel_rfl) rfl (by omega))) ?_
  refine Dq 11 4095 rfl (by kernel_rfl) (fun _ => (q_indexAddr (e := 5) (size := 1) (by kernel_rfl) (by kernel_rfl) rfl rfl (by omega) (by omega))) ?_
  refine Dh0 12 8191 rfl (by kernel_rfl) rfl (h_store hs1.sat ho rfl rfl rfl (by kernel_rfl) (show Nat.ble (_ + 1) _ = true from Nat.ble_eq_true_of_le (by omega)) rfl (puts_one (p := off + i - 1) (by omega)) fun w2 hs2 hn2 => ?_)
  clear ho; have ho := hn2; clear hn2
  have hT:=hT.also hs2
  refine ⟨trivial, ?_⟩
  refine Dq 13 16383 rfl (by kernel_rfl) (fun _ => (q_indexAddr (e := 5) (size := 1) (by kernel_rfl) (by kernel_rfl) rfl rfl (by omega) (by omega))) ?_
  refine Dh0 14 32767 rfl (by kernel_rfl) rfl (h_store hs2.sat ho rfl rfl rfl (by kernel_rfl) (show Nat.ble (_ + 1) _ = true from Nat.ble_eq_true_of_le (by (simp only [List.length_set]; omega))) rfl (puts_one (p := off + i - 2) (by omega)) fun w3 hs3 hn3 => ?_)
  clear ho; have ho := hn3; clear hn3
  have hT:=hT.also hs3
  refine ⟨trivial, ?_⟩
  refine Dd (by kernel_rfl) (κ _ _ ?_)
  refine cw_dr (by kernel_rfl) fun _ κ => ?_
  have hs4 := Step.drew hs3.sat
  have ho:=ho.then hs4
  have hT:=hT.then hs4
  refine Dm 0 1 rfl (by kernel_rfl) rfl ?_
  refine Dm 1 3 rfl (by kernel_rfl) rfl ?_
  refine Dq 2 7 rfl (by kernel_rfl) (fun _ => (q_subx rfl rfl (by omega) (by omega))) ?_
  refine Dm 3 15 rfl (by kernel_rfl) rfl ?_
  refine Dm 4 31 rfl (by kernel_rfl) rfl ?_
  refine Dq 5 63 rfl (by kernel_rfl) (fun _ => (q_subx rfl rfl (by omega) (by omega))) ?_
  refine Dm 6 127 rfl (by kernel_rfl) rfl ?_
  refine Dq 7 255 rfl (by kernel_rfl) (fun _ => (q_addN 1 rfl rfl (by omega))) ?_
  refine Dq 8 511 rfl (by kernel_rfl) (fun _ => (q_sm (by decide +kernel) (by kernel_rfl) rfl (by omega))) ?_
  refine Dm 9 1023 rfl (by kernel_rfl) rfl ?_
  refine Dq 10 2047 rfl (by kernel_rfl) (fun _ => (q_sm (by decide +kernel) (by kernel_rfl) rfl (by omega))) ?_
  refine Dq 11 4095 rfl (by kernel_rfl) (fun _ => (q_indexAddr (e := 5) (size := 1) (by kernel_rfl) (by kernel_rfl) rfl rfl (by omega) (by omega))) ?_
  refine Dh0 12 8191 rfl (by kernel_rfl) rfl (h_store hs4.sat ho rfl rfl rfl (by kernel_rfl) (show Nat.ble (_ + 1) _ = true from Nat.ble_eq_true_of_le (by (simp only [List.length_set]; omega))) rfl (puts_one (p := off + i - 2 - 1) (by omega)) fun w5 hs5 hn5 => ?_)
  clear ho; have ho := hn5; clear hn5
  have hT:=hT.also hs5
  refine ⟨trivial, ?_⟩
  refine Dq 13 16383 rfl (by kernel_rfl) (fun _ => (q_indexAddr (e := 5) (size := 1) (by kernel_rfl) (by kernel_rfl) rfl rfl (by omega) (by omega))) ?_
  refine Dh0 14 32767 rfl (by kernel_rfl) rfl (h_store hs5.sat ho rfl rfl rfl (by kernel_rfl) (show Nat.ble (_ + 1) _ = true from Nat.ble_eq_true_of_le (by (simp only [List.length_set]; omega))) rfl (puts_one (p := off + i - 2 - 2) (by omega)) fun w6 hs6 hn6 => ?_)
  clear ho; have ho := hn6; clear hn6
  have hT:=hT.also hs6
  refine ⟨trivial, ?_⟩
  refine Dd (by kernel_rfl) (κ _ _ ?_)
  refine cw_dr (by kernel_rfl) fun _ κ => ?_
  have hs7 := Step.drew hs6.sat
  have ho:=ho.then hs7
  have hT:=hT.then hs7
  refine Dm 0 1 rfl (by kernel_rfl) rfl ?_
  refine Dm 1 3 rfl (by kernel_rfl) rfl ?_
  refine Dq 2 7 rfl (by kernel_rfl) (fun _ => (q_subx rfl rfl (by omega) (by omega))) ?_
  refine Dm 3 15 rfl (by kernel_rfl) rfl ?_
  refine Dm 4 31 rfl (by kernel_rfl) rfl ?_
  refine Dq 5 63 rfl (by kernel_rfl) (fun _ => (q_subx rfl rfl (by omega) (by omega))) ?_
  refine Dm 6 127 rfl (by kernel_rfl) rfl ?_
  refine Dq 7 255 rfl (by kernel_rfl) (fun _ => (q_addN 1 rfl rfl (by omega))) ?_
  refine Dq 8 511 rfl (by kernel_rfl) (fun _ => (q_sm (by decide +kernel) (by kernel_rfl) rfl (by omega))) ?_
  refine Dm 9 1023 rfl (by kernel_rfl) rfl ?_
  refine Dq 10 2047 rfl (by kernel_rfl) (fun _ => (q_sm (by decide +kernel) (by kernel_rfl) rfl (by omega))) ?_
  refine Dq 11 4095 rfl (by kernel_rfl) (fun _ => (q_indexAddr (e := 5) (size := 1) (by kernel_rfl) (by kernel_rfl) rfl rfl (by omega) (by omega))) ?_
  refine Dh0 12 8191 rfl (by kernel_rfl) rfl (h_store hs7.sat ho rfl rfl rfl (by kernel_rfl) (show Nat.ble (_ + 1) _ = true from Nat.ble_eq_true_of_le (by (simp only [List.length_set]; omega))) rfl (puts_one (p := off + i - 4 - 1) (by omega)) fun w8 hs8 hn8 => ?_)
  clear ho; have ho := hn8; clear hn8
  have hT:=hT.also hs8
  refine ⟨trivial, ?_⟩
  refine Dq 13 16383 rfl (by kernel_rfl) (fun _ => (q_indexAddr (e := 5) (size := 1) (by kernel_rfl) (by kernel_rfl) rfl rfl (by omega) (by omega))) ?_
  refine Dh0 14 32767 rfl (by kernel_rfl) rfl (h_store hs8.sat ho rfl rfl rfl (by kernel_rfl) (show Nat.ble (_ + 1) _ = true from Nat.ble_eq_true_of_le (by (simp only [List.length_set]; omega))) rfl (puts_one (p := off + i - 4 - 2) (by omega)) fun w9 hs9 hn9 => ?_)
  clear ho; have ho := hn9; clear hn9
  have hT:=hT.also hs9
  refine ⟨trivial, ?_⟩
  refine Dd (by kernel_rfl) (κ _ _ ?_)
  refine cw_dr (by kernel_rfl) fun _ κ => ?_
  have hs10 := Step.drew hs9.sat
  have ho:=ho.then hs10
  have hT:=hT.then hs10
  refine Dm 0 1 rfl (by kernel_rfl) rfl ?_
  refine Dm 1 3 rfl (by kernel_rfl) rfl ?_
  refine Dq 2 7 rfl (by kernel_rfl) (fun _ => (q_subx rfl rfl (by omega) (by omega))) ?_
  refine Dm 3 15 rfl (by kernel_rfl) rfl ?_
  refine Dm 4 31 rfl (by kernel_rfl) rfl ?_
  refine Dq 5 63 rfl (by kernel_rfl) (fun _ => (q_subx rfl rfl (by omega) (by omega))) ?_
  refine Dm 6 127 rfl (by kernel_rfl) rfl ?_
  refine Dq 7 255 rfl (by kernel_rfl) (fun _ => (q_addN 1 rfl rfl (by omega))) ?_
  refine Dq 8 511 rfl (by kernel_rfl) (fun _ => (q_sm (by decide +kernel) (by kernel_rfl) rfl (by omega))) ?_
  refine Dm 9 1023 rfl (by kernel_rfl) rfl ?_
  refine Dq 10 2047 rfl (by kernel_rfl) (fun _ => (q_sm (by decide +kernel) (by kernel_rfl) rfl (by omega))) ?_
  refine Dq 11 4095 rfl (by kernel_rfl) (fun _ => (q_indexAddr (e := 5) (size := 1) (by kernel_rfl) (by kernel_rfl) rfl rfl (by omega) (by omega))) ?_
  refine Dh0 12 8191 rfl (by kernel_rfl) rfl (h_store hs10.sat ho rfl rfl rfl (by kernel_rfl) (show Nat.ble (_ + 1) _ = true from Nat.ble_eq_true_of_le (by (simp only [List.length_set]; omega))) rfl (puts_one (p := off + i - 6 - 1) (by omega)) fun w11 hs11 hn11 => ?_)
  clear ho; have ho := hn11; clear hn11
  have hT:=hT.also hs11
  refine ⟨trivial, ?_⟩
  refine Dq 13 16383 rfl (by kernel_rfl) (fun _ => (q_indexAddr (e := 5) (size := 1) (by kernel_rfl) (by kernel_rfl) rfl rfl (by omega) (by omega))) ?_
  refine Dh0 14 32767 rfl (by kernel_rfl) rfl (h_store hs11.sat ho rfl rfl rfl (by kernel_rfl) (show Nat.ble (_ + 1) _ = true from Nat.ble_eq_true_of_le (by (simp only [List.length_set]; omega))) rfl (puts_one (p := off + i - 6 - 2) (by omega)) fun w12 hs12 hn12 => ?_)
  clear ho; have ho := hn12; clear hn12
  have hT:=hT.also hs12
  refine ⟨trivial, ?_⟩
  refine Dd (by kernel_rfl) (κ _ _ ?_)
  refine cw_region fun _ κ => ?_
  refine Sm rfl rfl ?_
  refine as_q rfl rfl (q_congr (q_subx rfl rfl (by omega) (by omega)) (v' := .int .i64 ((i - 8 : Nat) : Int)) (congrArg (Value.int .i64) (by omega))) ?_
  refine Sa rfl rfl ?_
  refine as_nil (κ _ _ ?_)
  refine ⟨_, _, ?_, (.cons rfl (.cons rfl (.cons rfl (.nil _)))), i - 8, u / 100000000, _, rfl, ?_, hF, rfl, ?_, by omega, hT, ho⟩
  · omega
  · omega
  · simp only [pair2_length, List.length_set]; exact hl1
 ·
  have hlt : i < 8 := by have := of_decide_eq_false hc0; omega
  rw [fmt8, dif_neg (by omega)] at hF
  have hm32 := m32_lt u
  obtain ⟨v, hv⟩ : ∃ v, v = m32 u := ⟨_, rfl⟩
  rw [← hv] at hm32 hF
  refine cw_exit ?_
  refine hK2 _ _ ?_
  refine cw_rs fun _ κ => ?_
  refine Sm rfl rfl ?_
  refine as_q rfl rfl (q_congr (q_conv32N (by kernel_rfl) (by kernel_rfl) rfl) (v' := .int .u32 (v : Nat)) (by rw [hv])) ?_
  refine Sa rfl rfl ?_
  refine as_nil (κ _ _ ?_)
  refine cw_cutS (fun l1 w2 => ∃ (i v : Nat) (cs1 : List Value), fmt2 off i v cs1 = R ∧ i < 4 ∧ v < 4294967296 ∧ l1 = [(0, .slice (some ⟨b, off, none⟩) n cap), (4, .int .i64 (i : Nat)), (12, .int .u32 (v : Nat))] ∧ cs1.length = cs.length ∧ i ≤ n ∧ Step (Just b) M w M w2 ∧ Own w2 M b cs1 E) ?_ ?_
  ·
   refine cw_rs fun _ κ => ?_
   refine Sm rfl rfl ?_
   refine as_q rfl rfl (q_ge rfl rfl) ?_
   refine as_nil (κ _ _ ?_)
   refine cw_cond rfl (fun hc1 => ?_) (fun hc1 => ?_)
   ·
    have h4 : 4 ≤ i := by have := of_decide_eq_true hc1; omega
    rw [fmt4, if_pos h4] at hF
    refine cw_rs fun _ κ => ?_
    refine Sm rfl rfl ?_
    refine as_q rfl rfl (q_remN 10000 (by decide) rfl rfl) ?_
    refine Sa rfl rfl ?_
    refine as_nil (κ _ _ ?_)
    refine cw_rs fun _ κ => ?_
    refine Sm rfl rfl ?_
    refine as_q rfl rfl (q_quoN 10000 (by decide) rfl rfl (.inl rfl) (.inl (by omega))) ?_
    refine Sa rfl rfl ?_
    refine as_nil (κ _ _ ?_)
    refine cw_rs fun _ κ => ?_
    refine Sm rfl rfl ?_
    refine as_q rfl rfl (q_quoN 100 (by decide) rfl rfl (.inl rfl) (.inl (by omega))) ?_
    refine as_q rfl rfl (q_mulN 2 rfl rfl (by omega)) ?_
    refine Sm rfl rfl ?_
    refine as_q rfl rfl (q_remN 100 (by decide) rfl rfl) ?_
    refine as_q rfl rfl (q_mulN 2 rfl rfl (by omega)) ?_
    refine Sa rfl rfl ?_
    refine Sa rfl rfl ?_
    refine as_nil (κ _ _ ?_)
    refine cw_dr (by kernel_rfl) fun _ κ => ?_
    have hs13 := Step.drew hT.sat
    have ho:=ho.then hs13
    have hT:=hT.then hs13
    refine Dm 0 1 rfl (by kernel_rfl) rfl ?_
    refine Dm 1 3 rfl (by kernel_rfl) rfl ?_
    refine Dq 2 7 rfl (by kernel_rfl) (fun _ => (q_subx rfl rfl (by omega) (by omega))) ?_
    refine Dm 3 15 rfl (by kernel_rfl) rfl ?_
    refine Dm 4 31 rfl (by kernel_rfl) rfl ?_
    refine Dq 5 63 rfl (by kernel_rfl) (fun _ => (q_subx rfl rfl (by omega) (by omega))) ?_
    refine Dm 6 127 rfl (by kernel_rfl) rfl ?_
    refine Dq 7 255 rfl (by kernel_rfl) (fun _ => (q_addN 1 rfl rfl (by omega))) ?_
    refine Dq 8 511 rfl (by kernel_rfl) (fun _ => (q_sm (by decide +kernel) (by kernel_rfl) rfl (by omega))) ?_
    refine Dm 9 1023 rfl (by kernel_rfl) rfl ?_
    refine Dq 10 2047 rfl (by kernel_rfl) (fun _ => (q_sm (by decide +kernel) (by kernel_rfl) rfl (by omega))) ?_
    refine Dq 11 4095 rfl (by kernel_rfl) (fun _ => (q_indexAddr (e := 5) (size := 1) (by kernel_rfl) (by kernel_rfl) rfl rfl (by omega) (by omega))) ?_
    refine Dh0 12 8191 rfl (by kernel_rfl) rfl (h_store hs13.sat ho rfl rfl rfl (by kernel_rfl) (show Nat.ble (_ + 1) _ = true from Nat.ble_eq_true_of_le (by omega)) rfl (puts_one (p := off + i - 1) (by omega)) fun w14 hs14 hn14 => ?_)
    clear ho; have ho := hn14; clear hn14
    have hT:=hT.also hs14
    refine ⟨trivial, ?_⟩
    refine Dq 13 16383 rfl (by kernel_rfl) (fun _ => (q_indexAddr (e := 5) (size := 1) (by kernel_rfl) (by kernel_rfl) rfl rfl (by omega) (by omega))) ?_
    refine Dh0 14 32767 rfl (by kernel_rfl) rfl (h_store hs14.sat ho rfl rfl rfl (by kernel_rfl) (show Nat.ble (_ + 1) _ = true from Nat.ble_eq_true_of_le (by (simp only [List.length_set]; omega))) rfl (puts_one (p := off + i - 2) (by omega)) fun w15 hs15 hn15 => ?_)
    clear ho; have ho := hn15; clear hn15
    have hT:=hT.also hs15
    refine ⟨trivial, ?_⟩
    refine Dd (by kernel_rfl) (κ _ _ ?_)
    refine cw_dr (by kernel_rfl) fun _ κ => ?_
    have hs16 := Step.drew hs15.sat
    have ho:=ho.then hs16
    have hT:=hT.then hs16
    refine Dm 0 1 rfl (by kernel_rfl) rfl ?_
    refine Dm 1 3 rfl (by kernel_rfl) rfl ?_
    refine Dq 2 7 rfl (by kernel_rfl) (fun _ => (q_subx rfl rfl (by omega) (by omega))) ?_
    refine Dm 3 15 rfl (by kernel_rfl) rfl ?_
    refine Dm 4 31 rfl (by kernel_rfl) rfl ?_
    refine Dq 5 63 rfl (by kernel_rfl) (fun _ => (q_subx rfl rfl (by omega) (by omega))) ?_
    refine Dm 6 127 rfl (by kernel_rfl) rfl ?_
    refine Dq 7 255 rfl (by kernel_rfl) (fun _ => (q_addN 1 rfl rfl (by omega))) ?_
    refine Dq 8 511 rfl (by kernel_rfl) (fun _ => (q_sm (by decide +kernel) (by kernel_rfl) rfl (by omega))) ?_
    refine Dm 9 1023 rfl (by kernel_rfl) rfl ?_
    refine Dq 10 2047 rfl (by kernel_rfl) (fun _ => (q_sm (by decide +kernel) (by kernel_rfl) rfl (by omega))) ?_
    refine Dq 11 4095 rfl (by kernel_rfl) (fun _ => (q_indexAddr (e := 5) (size := 1) (by kernel_rfl) (by kernel_rfl) rfl rfl (by omega) (by omega))) ?_
    refine Dh0 12 8191 rfl (by kernel_rfl) rfl (h_store hs16.sat ho rfl rfl rfl (by kernel_rfl) (show Nat.ble (_ + 1) _ = true from Nat.ble_eq_true_of_le (by (simp only [List.length_set]; omega))) rfl (puts_one (p := off + i - 2 - 1) (by omega)) fun w17 hs17 hn17 => ?_)
    clear ho; have ho := hn17; clear hn17
    have hT:=hT.also hs17
    refine ⟨trivial, ?_⟩
    refine Dq 13 16383 rfl (by kernel_rfl) (fun _ => (q_indexAddr (e := 5) (size := 1) (by kernel_rfl) (by kernel_rfl) rfl rfl (by omega) (by omega))) ?_
    refine Dh0 14 32767 rfl (by kernel_rfl) rfl (h_store hs17.sat ho rfl rfl rfl (by kernel_rfl) (show Nat.ble (_ + 1) _ = true from Nat.ble_eq_true_of_le (by (simp only [List.length_set]; omega))) rfl (puts_one (p := off + i - 2 - 2) (by omega)) fun w18 hs18 hn18 => ?_)
    clear ho; have ho := hn18; clear hn18
    have hT:=hT.also hs18
    refine ⟨trivial, ?_⟩
    refine Dd (by kernel_rfl) (κ _ _ ?_)
    refine cw_region fun _ κ => ?_
    refine Sm rfl rfl ?_
    refine as_q rfl rfl (q_congr (q_subx rfl rfl (by omega) (by omega)) (v' := .int .i64 ((i - 4 : Nat) : Int)) (congrArg (Value.int .i64) (by omega))) ?_
    refine Sa rfl rfl ?_
    refine as_nil (κ _ _ ?_)
    exact ⟨_, (.cons rfl (.cons rfl (.cons rfl (.nil _)))), i - 4, v / 10000, _, hF, by omega, by omega, rfl, by simp only [pair2_length, List.length_set]; exact hl1, by omega, hT, ho⟩
   ·
    have h4 : i < 4 := by have := of_decide_eq_false hc1; omega
    rw [fmt4, if_neg (by omega)] at hF
    refine cw_skip ?_
    exact ⟨_, (.cons rfl (.cons rfl (.cons rfl (.nil _)))), i, v, _, hF, by omega, by omega, rfl, hl1, by omega, hT, ho⟩
  clear ho hT hF hl1
  rintro l1 w4c ⟨i, v, cs1, hF, hib, hm32, rfl, hl1, hi, hT, ho⟩
  refine cw_cutS (fun l1 w2 => ∃ (i v : Nat) (cs1 : List Value), fmt1 off i v cs1 = R ∧ i < 2 ∧ v < 4294967296 ∧ l1 = [(0, .slice (some ⟨b, off, none⟩) n cap), (4, .int .i64 (i : Nat)), (12, .int .u32 (v : Nat))] ∧ cs1.length = cs.length ∧ i ≤ n ∧ Step (Just b) M w M w2 ∧ Own w2 M b cs1 E) ?_ ?_
  ·
   refine cw_rs fun _ κ => ?_
   refine Sm rfl rfl ?_
   refine as_q rfl rfl (q_ge rfl rfl) ?_
   refine as_nil (κ _ _ ?_)
   refine cw_cond rfl (fun hc2 => ?_) (fun hc2 => ?_)
   ·
    have h4 : 2 ≤ i := by have := of_decide_eq_true hc2; omega
    rw [fmt2, if_pos h4] at hF
    refine cw_rs fun _ κ => ?_
    refine Sm rfl rfl ?_
    refine as_q rfl rfl (q_remN 100 (by decide) rfl rfl) ?_
    refine as_q rfl rfl (q_mulN 2 rfl rfl (by omega)) ?_
    refine Sa rfl rfl ?_
    refine as_nil (κ _ _ ?_)
    refine cw_rs fun _ κ => ?_
    refine Sm rfl rfl ?_
    refine as_q rfl rfl (q_quoN 100 (by decide) rfl rfl (.inl rfl) (.inl (by omega))) ?_
    refine Sa rfl rfl ?_
    refine as_nil (κ _ _ ?_)
    refine cw_dr (by kernel_rfl) fun _ κ => ?_
    have hs19 := Step.drew hT.sat
    have ho:=ho.then hs19
    have hT:=hT.then hs19
    refine Dm 0 1 rfl (by kernel_rfl) rfl ?_
    refine Dm 1 3 rfl (by kernel_rfl) rfl ?_
    refine Dq 2 7 rfl (by kernel_rfl) (fun _ => (q_subx rfl rfl (by omega) (by omega))) ?_
    refine Dm 3 15 rfl (by kernel_rfl) rfl ?_
    refine Dm 4 31 rfl (by kernel_rfl) rfl ?_
    refine Dq 5 63 rfl (by kernel_rfl) (fun _ => (q_subx rfl rfl (by omega) (by omega))) ?_
    refine Dm 6 127 rfl (by kernel_rfl) rfl ?_
    refine Dq 7 255 rfl (by kernel_rfl) (fun _ => (q_addN 1 rfl rfl (by omega))) ?_
    refine Dq 8 511 rfl (by kernel_rfl) (fun _ => (q_sm (by decide +kernel) (by kernel_rfl) rfl (by omega))) ?_
    refine Dm 9 1023 rfl (by kernel_rfl) rfl ?_
    refine Dq 10 2047 rfl (by kernel_rfl) (fun _ => (q_sm (by decide +kernel) (by kernel_rfl) rfl (by omega))) ?_
    refine Dq 11 4095 rfl (by kernel_rfl) (fun _ => (q_indexAddr (e := 5) (size := 1) (by kernel_rfl) (by kernel_rfl) rfl rfl (by omega) (by omega))) ?_
    refine Dh0 12 8191 rfl (by kernel_rfl) rfl (h_store hs19.sat ho rfl rfl rfl (by kernel_rfl) (show Nat.ble (_ + 1) _ = true from Nat.ble_eq_true_of_le (by omega)) rfl (puts_one (p := off + i - 1) (by omega)) fun w20 hs20 hn20 => ?_)
    clear ho; have ho := hn20; clear hn20
    have hT:=hT.also hs20
    refine ⟨trivial, ?_⟩
    refine Dq 13 16383 rfl (by kernel_rfl) (fun _ => (q_indexAddr (e := 5) (size := 1) (by kernel_rfl) (by kernel_rfl) rfl rfl (by omega) (by omega))) ?_
    refine Dh0 14 32767 rfl (by kernel_rfl) rfl (h_store hs20.sat ho rfl rfl rfl (by kernel_rfl) (show Nat.ble (_ + 1) _ = true from Nat.ble_eq_true_of_le (by (simp only [List.length_set]; omega))) rfl (puts_one (p := off + i - 2) (by omega)) fun w21 hs21 hn21 => ?_)
    clear ho; have ho := hn21; clear hn21
    have hT:=hT.also hs21
    refine ⟨trivial, ?_⟩
    refine Dd (by kernel_rfl) (κ _ _ ?_)
    refine cw_region fun _ κ => ?_
    refine Sm rfl rfl ?_
    refine as_q rfl rfl (q_congr (q_subx rfl rfl (by omega) (by omega)) (v' := .int .i64 ((i - 2 : Nat) : Int)) (congrArg (Value.int .i64) (by omega))) ?_
    refine Sa rfl rfl ?_
    refine as_nil (κ _ _ ?_)
    exact ⟨_, (.cons rfl (.cons rfl (.cons rfl (.nil _)))), i - 2, v / 100, _, hF, by omega, by omega, rfl, by simp only [pair2_length, List.length_set]; exact hl1, by omega, hT, ho⟩
   ·
    have h4 : i < 2 := by have := of_decide_eq_false hc2; omega
    rw [fmt2, if_neg (by omega)] at hF
    refine cw_skip ?_
    exact ⟨_, (.cons rfl (.cons rfl (.cons rfl (.nil _)))), i, v, _, hF, by omega, by omega, rfl, hl1, by omega, hT, ho⟩
  clear ho hT hF hl1
  rintro l1 w2c ⟨i, v, cs1, hF, hib, hm32, rfl, hl1, hi, hT, ho⟩
  refine cw_rs fun _ κ => ?_
  refine Sm rfl rfl ?_
  refine as_q rfl rfl (q_gt rfl rfl) ?_
  refine as_nil (κ _ _ ?_)
  refine cw_cond rfl (fun hc3 => ?_) (fun hc3 => ?_)
  ·
   have h4 : 0 < i := by have := of_decide_eq_true hc3; omega
   rw [fmt1, if_pos h4] at hF
   refine cw_region fun _ κ => ?_
   refine Sm rfl rfl ?_
   refine Sm rfl rfl ?_
   refine as_q rfl rfl (q_add rfl rfl) ?_
   refine as_q rfl rfl (q_conv (k' := .u8) (by kernel_rfl) (by kernel_rfl) rfl) ?_
   refine as_q rfl rfl (q_indexAddr (e := 5) (size := 1) (by kernel_rfl) (by kernel_rfl) rfl rfl (by omega) (by omega)) ?_
   refine as_h0 (h_store hT.sat ho rfl rfl rfl (by kernel_rfl) (show Nat.ble (_ + 1) _ = true from Nat.ble_eq_true_of_le (by omega)) rfl (puts_one (p := off) (by omega)) fun w22 hs22 hn22 => ?_)
   clear ho; have ho := hn22; clear hn22
   have hT:=hT.also hs22
   refine as_nil (κ _ _ ?_)
   exact ⟨_, res_nil, hT, hF ▸ ho⟩
  ·
   have h4 : i = 0 := by have := of_decide_eq_false hc3; omega
   rw [fmt1, if_neg (by omega)] at hF
   refine cw_skip ?_
   exact ⟨_, res_nil, hT, hF ▸ ho⟩
end Go.Proofs.YtgcgjpfjjgalmaaGreat
/- Contracts of the library at this program: FormatInt of small numbers, Join. Laid by the kit's lay-plain. -/
namespace Go.Proofs
open Go.Shelf
def Tryz.lays156_ren : Go.Shelf.Ren := ⟨fun | 156 => 128 | 165 => 141 | 166 => 139 | 169 => 140 | 240 => 146 | 241 => 147 | 276 => 150 | 277 => 151 | n => n, fun | 31 => 211 | 9 => 9 | 3 => 3 | 4 => 4 | 0 => 0 | 20 => 20 | 72 => 227 | 76 => 230 | 70 => 225 | 37 => 184 | 75 => 229 | 127 => 158 | 164 => 143 | 5 => 5 | 80 => 61 | n => n, fun | n => n⟩
theorem Tryz.lays156 : Go.Proofs.Lays.n156 Tryz.prog Tryz.lays156_ren := {
  mixed := by kernel_rfl
  f156 := Tryz.func128.trans (congrArg some (by kernel_rfl))
  f165 := Tryz.func141.trans (congrArg some (by kernel_rfl))
  f166 := Tryz.func139.trans (congrArg some (by kernel_rfl))
  f169 := Tryz.func140.trans (congrArg some (by kernel_rfl))
  f240 := Tryz.func146.trans (congrArg some (by kernel_rfl))
  f241 := Tryz.func147.trans (congrArg some (by kernel_rfl))
  f276 := Tryz.func150.trans (congrArg some (by kernel_rfl))
  f277 := Tryz.func151.trans (congrArg some (by kernel_rfl))
  t0 := Tryz.underlying0
  a0 := Tryz.isAgg0
  z0 := Tryz.sizeOf0
  v0 := Tryz.zeroValue0
  t3 := Tryz.underlying3
  a3 := Tryz.isAgg3
  z3 := Tryz.sizeOf3
  v3 := Tryz.zeroValue3
  t4 := Tryz.underlying4
  a4 := Tryz.isAgg4
  z4 := Tryz.sizeOf4
  v4 := Tryz.zeroValue4
  t9 := Tryz.underlying9
  a9 := Tryz.isAgg9
  z9 := Tryz.sizeOf9
  v9 := Tryz.zeroValue9
  t20 := Tryz.underlying20
  a20 := Tryz.isAgg20
  z20 := Tryz.sizeOf20
  v20 := Tryz.zeroValue20
  t31 := Tryz.underlying211
  a31 := Tryz.isAgg211
  z31 := Tryz.sizeOf211
  v31 := Tryz.zeroValue211
  t37 := Tryz.underlying184
  a37 := Tryz.isAgg184
  z37 := Tryz.sizeOf184
  v37 := Tryz.zeroValue184
  t70 := Tryz.underlying225
  a70 := Tryz.isAgg225
  z70 := Tryz.sizeOf225
  v70 := Tryz.zeroValue225
  t72 := Tryz.underlying227
  a72 := Tryz.isAgg227
  z72 := Tryz.sizeOf227
  v72 := Tryz.zeroValue227
  t75 := Tryz.underlying229
  a75 := Tryz.isAgg229
  z75 := Tryz.sizeOf229
  v75 := Tryz.zeroValue229
  t76 := Tryz.underlying230
  a76 := Tryz.isAgg230
  z76 := Tryz.sizeOf230
  v76 := Tryz.zeroValue230
  t127 := Tryz.underlying158
  a127 := Tryz.isAgg158
  z127 := Tryz.sizeOf158
  v127 := Tryz.zeroValue158
  t164 := Tryz.underlying143
  a164 := Tryz.isAgg143
  z164 := Tryz.sizeOf143
  v164 := Tryz.zeroValue143 }
theorem Tryz.Builder_Extra_156 : Builder.Extra Tryz.prog Tryz.lays156_ren := {
  sizeBuilder := by kernel_rfl
  liesBuilder := by kernel_rfl
  t5 := Tryz.underlying5
  a5 := Tryz.isAgg5
  z5 := Tryz.sizeOf5
  v5 := Tryz.zeroValue5
  infoByte := by kernel_rfl
  cellsByte := by kernel_rfl
  sizeByte := by kernel_rfl
  neB5 := by decide }
open Go.RowKit in
theorem Tryz.strings_Join (bk o c : Nat) (xs : List ByteArray) (sep : ByteArray) (w : World) (hcells : ∀ (j : Nat) x, xs[j]? = some x → w.cell? ⟨bk, o + j, none⟩ = some (.string x)) (hbk : bk < w.heap.size) (hN : xs.length ≤ 140737488355328) (hcap : xs.length ≤ c) (hlen : (Lib.join (xs.map (·.data.toList)) sep.data.toList).length ≤ 140737488355328) :
    Calls Tryz.prog 128 #[.slice (some ⟨bk, o, none⟩) xs.length c, .string sep] w fun e w' => e = .returned (.string ⟨(Lib.join (xs.map (·.data.toList)) sep.data.toList).toArray⟩) ∧ Below w.heap.size w w' := Any.strings_Join Tryz.lays156 Tryz.Builder_Extra_156 bk o c xs sep w hcells hbk hN hcap hlen
def Tryz.lays173_ren : Go.Shelf.Ren := ⟨fun | 173 => 97 | 246 => 98 | 283 => 99 | 284 => 100 | 285 => 101 | 286 => 102 | 129 => 104 | 317 => 103 | 318 => 105 | 319 => 106 | 320 => 107 | 337 => 108 | 338 => 109 | n => n, fun | 2 => 2 | 3 => 3 | 9 => 9 | 4 => 4 | 171 => 180 | 0 => 0 | 53 => 181 | 37 => 184 | 5 => 5 | 173 => 185 | 212 => 189 | 51 => 103 | 20 => 20 | 213 => 190 | 46 => 146 | 232 => 193 | 233 => 194 | n => n, fun | 17 => 0 | 18 => 1 | 19 => 2 | n => n⟩
theorem Tryz.lays173 : Go.Proofs.Lays.n173 Tryz.prog Tryz.lays173_ren := {
  mixed := by kernel_rfl
  f129 := Tryz.func104.trans (congrArg some (by kernel_rfl))
  f173 := Tryz.func97.trans (congrArg some (by kernel_rfl))
  f246 := Tryz.func98.trans (congrArg some (by kernel_rfl))
  f283 := Tryz.func99.trans (congrArg some (by kernel_rfl))
  f284 := Tryz.func100.trans (congrArg some (by kernel_rfl))
  f285 := Tryz.func101.trans (congrArg some (by kernel_rfl))
  f286 := Tryz.func102.trans (congrArg some (by kernel_rfl))
  f317 := Tryz.func103.trans (congrArg some (by kernel_rfl))
  f318 := Tryz.func105.trans (congrArg some (by kernel_rfl))
  f319 := Tryz.func106.trans (congrArg some (by kernel_rfl))
  f320 := Tryz.func107.trans (congrArg some (by kernel_rfl))
  f337 := Tryz.func108.trans (congrArg some (by kernel_rfl))
  f338 := Tryz.func109.trans (congrArg some (by kernel_rfl))
  t0 := Tryz.underlying0
  a0 := Tryz.isAgg0
  z0 := Tryz.sizeOf0
  v0 := Tryz.zeroValue0
  t2 := Tryz.underlying2
  a2 := Tryz.isAgg2
  z2 := Tryz.sizeOf2
  v2 := Tryz.zeroValue2
  t3 := Tryz.underlying3
  a3 := Tryz.isAgg3
  z3 := Tryz.sizeOf3
  v3 := Tryz.zeroValue3
  t4 := Tryz.underlying4
  a4 := Tryz.isAgg4
  z4 := Tryz.sizeOf4
  v4 := Tryz.zeroValue4
  t5 := Tryz.underlying5
  a5 := Tryz.isAgg5
  z5 := Tryz.sizeOf5
  v5 := Tryz.zeroValue5
  t9 := Tryz.underlying9
  a9 := Tryz.isAgg9
  z9 := Tryz.sizeOf9
  v9 := Tryz.zeroValue9
  t20 := Tryz.underlying20
  a20 := Tryz.isAgg20
  z20 := Tryz.sizeOf20
  v20 := Tryz.zeroValue20
  t37 := Tryz.underlying184
  a37 := Tryz.isAgg184
  z37 := Tryz.sizeOf184
  v37 := Tryz.zeroValue184
  t46 := Tryz.underlying146
  a46 := Tryz.isAgg146
  z46 := Tryz.sizeOf146
  v46 := Tryz.zeroValue146
  t51 := Tryz.underlying103
  a51 := Tryz.isAgg103
  z51 := Tryz.sizeOf103
  v51 := Tryz.zeroValue103
  t53 := Tryz.underlying181
  a53 := Tryz.isAgg181
  z53 := Tryz.sizeOf181
  v53 := Tryz.zeroValue181
  t171 := Tryz.underlying180
  a171 := Tryz.isAgg180
  z171 := Tryz.sizeOf180
  v171 := Tryz.zeroValue180
  t173 := Tryz.underlying185
  a173 := Tryz.isAgg185
  z173 := Tryz.sizeOf185
  v173 := Tryz.zeroValue185
  t212 := Tryz.underlying189
  a212 := Tryz.isAgg189
  z212 := Tryz.sizeOf189
  v212 := Tryz.zeroValue189
  t213 := Tryz.underlying190
  a213 := Tryz.isAgg190
  z213 := Tryz.sizeOf190
  t232 := Tryz.underlying193
  a232 := Tryz.isAgg193
  z232 := Tryz.sizeOf193
  v232 := Tryz.zeroValue193
  t233 := Tryz.underlying194
  a233 := Tryz.isAgg194
  z233 := Tryz.sizeOf194
  v233 := Tryz.zeroValue194
  g17 := by kernel_rfl
  g18 := by kernel_rfl
  g19 := by kernel_rfl }
end Go.Proofs
/- Numbers as letters: how many, part 1. -/
namespace Go.Proofs.YtgcgjpfjjgalmaaGreat
open Go Go.Eng
theorem len_64 {w : World} {M : Mem} {u : Nat} (hs : Sat M w) (hu : u < 18446744073709551616) : Does Tryz.prog 104 #[.int .u64 (u : Nat)] w (fun v w' => v = .int .i64 (Lib.bitLen u : Nat) ∧ Step Nope M w M w') :=
 Does.of_calls (Go.Proofs.Any.bits_Len64 { Tryz.lays173 with } (u : Int) w (by omega) (by omega)) fun e w' ⟨he, hw⟩ => ⟨_, he, by rw [Int.toNat_natCast], by subst hw; exact Step.refl _ hs⟩
theorem log_10 {w : World} {M : Mem} {u : Nat} (hs : Sat M w) (hu : u ≤ 64) : Does Tryz.prog 103 #[.int .i64 (u : Nat)] w (fun v w' => v = .int .i64 (Lib.l10 u : Nat) ∧ Step Nope M w M w') :=
 Does.of_calls (Go.Proofs.Any.internal_strconv_log10Pow2 { Tryz.lays173 with } u hu w) fun e w' ⟨he, hw⟩ => ⟨_, he, rfl, by subst hw; exact Step.refl _ hs⟩
theorem bool_2 {w : World} {M : Mem} {b : Bool} (hs : Sat M w) : Does Tryz.prog 105 #[.bool b] w (fun v w' => v = .int .i64 (if b then 1 else 0 : Nat) ∧ Step Nope M w M w') :=
 Does.of_calls (Go.Proofs.Any.internal_strconv_bool2_int { Tryz.lays173 with } b w) fun e w' ⟨he, hw⟩ => ⟨_, he, by cases b <;> rfl, by subst hw; exact Step.refl _ hs⟩
theorem small_ {w : World} {M : Mem} {i : Nat} (hs : Sat M w) (hi : i < 100) : Does Tryz.prog 99 #[.int .i64 (i : Nat)] w (fun v w' => v = .string ⟨(Lib.decDigits i).toArray⟩ ∧ Step Nope M w M w') :=
 Does.of_calls (Go.Proofs.Any.internal_strconv_small { Tryz.lays173 with } i hi w) fun e w' ⟨he, hw⟩ => ⟨_, he, rfl, by subst hw; exact Step.refl _ hs⟩
theorem bitAux_le : ∀ (f x : Nat), Lib.bitLenAux f x ≤ f
 | 0, _ => Nat.le_refl _
 | f + 1, x => by
  have := bitAux_le f (x / 2)
  unfold Lib.bitLenAux
  split <;> omega
theorem bitLen_le (x : Nat) : Lib.bitLen x ≤ 64 := bitAux_le 64 x
theorem l10_le {x : Nat} (h : x ≤ 64) : Lib.l10 x ≤ 19 := by unfold Lib.l10; omega
def nd (ns : List Int) (u : Nat) : Nat := Lib.l10 (Lib.bitLen u) + if decide ((u : Int) ≥ ns.getD (Lib.l10 (Lib.bitLen u)) 0) then 1 else 0
theorem nd_le (ns : List Int) (u : Nat) : nd ns u ≤ 20 := by
 have := l10_le (bitLen_le u)
 unfold nd
 split <;> omega
def TabM (ns : List Int) (M : Mem) : Prop := M 0 = some (ns.map (Value.int .u64), 189)
theorem tab_at {w : World} {M : Mem} {ns : List Int} (hs : Sat M w) (ht : TabM ns M) (hn : ns.length = 20) {j : Nat} (hj : j < 20) : w.cell? ⟨0, 0 + ((j : Nat) : Int).toNat * 1, none⟩ = some (.int .u64 (ns.getD j 0)) := by
 refine BlkR.cell (hs _ _ _ ht) ?_
 rw [show 0 + ((j : Nat) : Int).toNat * 1 = j by omega, nth_eq, List.getElem?_map, List.getD_eq_getElem?_getD, List.getElem?_eq_getElem (by omega)]
 rfl
theorem TabM.mono {ns : List Int} {M M' : Mem} (h : TabM ns M) (k : Le M M') : TabM ns M' := k _ _ h
theorem num_digits {w : World} {M : Mem} {ns : List Int} {u : Nat} (hs : Sat M w) (ht : TabM ns M) (hn : ns.length = 20) (hu : u < 18446744073709551616) :
  Does Tryz.prog 100 #[.int .u64 (u : Nat)] w (fun v w' => v = .int .i64 (nd ns u : Nat) ∧ Step Nope M w M w') := by
 have hT := Step.refl Nope hs
 have hl19 := l10_le (bitLen_le u)
 refine fn_enter Tryz.func100 rfl (rs := [.tmp 2]) rfl rfl rfl rfl ?_
 refine cw_rs fun _ κ => ?_
 refine Sa rfl rfl ?_
 refine as_nil (κ _ _ ?_)
 refine cw_rs fun _ κ => ?_
 refine Sm rfl rfl ?_
 refine as_h rfl (h_call (by kernel_rfl) rfl ?_)
 refine (len_64 hs hu).mono ?_
 rintro _ w1 ⟨rfl, hs1⟩
 have ht:=ht.mono hs1.le
 have hT:=hT.then hs1
 refine as_h rfl (h_call (by kernel_rfl) rfl ?_)
 refine (log_10 hs1.sat (bitLen_le u)).mono ?_
 rintro _ w2 ⟨rfl, hs2⟩
 have ht:=ht.mono hs2.le
 have hT:=hT.then hs2
 refine Sa rfl rfl ?_
 refine as_nil (κ _ _ ?_)
 refine cw_rs fun _ κ => ?_
 refine Sm rfl rfl ?_
 refine Sm rfl rfl ?_
 refine Sm rfl rfl ?_
 refine as_q rfl rfl (q_indexAP (e := 181) (n := 20) (size := 1) (by kernel_rfl) (by kernel_rfl) rfl rfl (by omega) (by omega)) ?_
 refine S1 rfl (by kernel_rfl) rfl (tab_at hT.sat ht hn (j := Lib.l10 (Lib.bitLen u)) (by omega)) ?_
 refine as_q rfl rfl (q_ge rfl rfl) ?_
 refine as_h rfl (h_call (by kernel_rfl) rfl ?_)
 refine (bool_2 hs2.sat).mono ?_
 rintro _ w3 ⟨rfl, hs3⟩
 have hT:=hT.then hs3
 refine as_q rfl rfl (q_congr (q_addx rfl rfl (by omega) (by (split <;> omega))) (v' := .int .i64 ((nd ns u : Nat) : Int)) (congrArg (Value.int .i64) (by unfold nd; rw [Int.natCast_add]))) ?_
 refine Sa rfl rfl ?_
 refine as_nil (κ _ _ ?_)
 refine cw_ret ?_
 exact ⟨_, (res_tmp rfl res_nil), rfl, hT⟩
theorem wrap_u64_abs {z : Int} (h0 : -9223372036854775808 ≤ z) (h1 : z ≤ 9223372036854775807) : (0 ≤ z → IntKind.u64.wrap z = (z.natAbs : Int)) ∧ (z < 0 → IntKind.u64.wrap (-(IntKind.u64.wrap z)) = (z.natAbs : Int)) := by
 rw [IntKind.wrap_u64, IntKind.wrap_u64]
 constructor <;> intro h <;> omega
def FmtI (ns : List Int) (z : Int) (s : List UInt8) : Prop := ∀ M w, Sat M w → TabM ns M → Does Tryz.prog 97 #[.int .i64 z, .int .i64 10] w (fun v w' => v = .string ⟨s.toArray⟩ ∧ Step Nope M w M w')
def Z24 : List Value := [.int .u8 0, .int .u8 0, .int .u8 0, .int .u8 0, .int .u8 0, .int .u8 0, .int .u8 0, .int .u8 0, .int .u8 0, .int .u8 0, .int .u8 0, .int .u8 0, .int .u8 0, .int .u8 0, .int .u8 0, .int .u8 0, .int .u8 0, .int .u8 0, .int .u8 0, .int .u8 0, .int .u8 0, .int .u8 0, .int .u8 0, .int .u8 0]
theorem Z24_bytes : Bytes Z24 := fun v hv => ⟨0, by simpa [Z24] using hv⟩
theorem fi_small {w : World} {M : Mem} {i : Nat} (hs : Sat M w) (hi : i < 100) :
  Does Tryz.prog 98 #[.int .i64 (i : Nat), .int .i64 10] w (fun v w' => v = .string ⟨(Lib.decDigits i).toArray⟩ ∧ Step Nope M w M w') := by
 have hT := Step.refl Nope hs
 refine fn_enter Tryz.func98 rfl (rs := [.tmp 4]) rfl rfl rfl rfl ?_
 refine cw_rs fun _ κ => ?_
 refine Sa rfl rfl ?_
 refine as_nil (κ _ _ ?_)
 refine cw_seq fun _ hK2 => ?_
 refine cw_rs fun _ κ => ?_
 refine Sm rfl rfl ?_
 refine as_q rfl rfl (q_eqT rfl rfl (by omega)) ?_
 refine as_nil (κ _ _ ?_)
 refine cw_true rfl ?_
 refine cw_seq fun _ hK4 => ?_
 refine cw_rs fun _ κ => ?_
 refine Sm rfl rfl ?_
 refine as_q rfl rfl (q_leT rfl rfl (by omega)) ?_
 refine Sm rfl rfl ?_
 refine as_gh rfl rfl rfl rfl (h_q rfl (q_move rfl) ?_)
 refine as_gh rfl rfl rfl rfl (h_q rfl (q_ltT rfl rfl (by omega)) ?_)
 refine as_q rfl rfl (q_pick_t rfl rfl) ?_
 refine as_nil (κ _ _ ?_)
 refine cw_true rfl ?_
 refine cw_rs fun _ κ => ?_
 refine Sm rfl rfl ?_
 refine as_h rfl (h_call (by kernel_rfl) rfl ?_)
 refine (small_ (i := i) hs hi).mono ?_
 rintro _ w1 ⟨rfl, hs1⟩
 have hT:=hT.then hs1
 refine Sa rfl rfl ?_
 refine as_nil (κ _ _ ?_)
 refine cw_ret ?_
 exact ⟨_, (res_tmp rfl res_nil), rfl, hT⟩
set_option maxRecDepth 4000 in
theorem fi_neg {w : World} {M : Mem} {z : Int} {ns : List Int} {bs : List UInt8} (hs : Sat M w) (ht : TabM ns M) (hn : ns.length = 20) (h0 : -9223372036854775808 ≤ z) (h1 : z ≤ 9223372036854775807) (hz : z < 0) (hbl : bs.length = 1 + nd ns z.natAbs) (hbc : ∀ (j : Nat) (b : UInt8), bs[j]? = some b → ((fmt8 1 (nd ns z.natAbs) z.natAbs Z24).set 0 (.int .u8 45))[0 + j]? = some (.int .u8 (b.toNat : Int))) :
  Does Tryz.prog 98 #[.int .i64 z, .int .i64 10] w (fun v w' => v = .string ⟨bs.toArray⟩ ∧ Step Nope M w M w') := by
 have hT := Step.refl Nope hs
 have hnd := nd_le ns z.natAbs
 have hR24 : (fmt8 1 (nd ns z.natAbs) z.natAbs Z24).length = 24 := (Bytes.fmt8 _ 1 _ Z24_bytes).2
 refine fn_enter Tryz.func98 rfl (rs := [.tmp 4]) rfl rfl rfl rfl ?_
 refine cw_rs fun _ κ => ?_
 refine Sa rfl rfl ?_
 refine as_nil (κ _ _ ?_)
 refine cw_seq fun _ hK2 => ?_
 refine cw_rs fun _ κ => ?_
 refine Sm rfl rfl ?_
 refine as_q rfl rfl (q_eqT rfl rfl (by omega)) ?_
 refine as_nil (κ _ _ ?_)
 refine cw_true rfl ?_
 refine cw_seq fun _ hK4 => ?_
 refine cw_rs fun _ κ => ?_
 refine Sm rfl rfl ?_
 refine as_q rfl rfl (q_leF rfl rfl (by omega)) ?_
 refine Sm rfl rfl ?_
 refine as_gskip rfl rfl rfl rfl rfl ?_
 refine as_gskip rfl rfl rfl rfl rfl ?_
 refine as_q rfl rfl (q_pick_f rfl rfl) ?_
 refine as_nil (κ _ _ ?_)
 refine cw_false rfl ?_
 refine cw_skip ?_
 refine hK4 _ _ ?_
 refine cw_rs fun _ κ => ?_
 have hqaa := hT.size
 refine as_h rfl (h_allocO (z := (.agg #[(.int .u8 0), (.int .u8 0), (.int .u8 0), (.int .u8 0), (.int .u8 0), (.int .u8 0), (.int .u8 0), (.int .u8 0), (.int .u8 0), (.int .u8 0), (.int .u8 0), (.int .u8 0), (.int .u8 0), (.int .u8 0), (.int .u8 0), (.int .u8 0), (.int .u8 0), (.int .u8 0), (.int .u8 0), (.int .u8 0), (.int .u8 0), (.int .u8 0), (.int .u8 0), (.int .u8 0)])) hs (by kernel_rfl) rfl fun ba w1 hs1 hoa ea => ?_)
 have ht:=ht.mono hs1.le
 have hT:=hT.then hs1
 have hla := hoa.1.lt
 refine as_nil (κ _ _ ?_)
 refine cw_rs fun _ κ => ?_
 refine Sm rfl rfl ?_
 refine as_q rfl rfl (q_conv (k' := .u64) (by kernel_rfl) (by kernel_rfl) rfl) ?_
 refine Sa rfl rfl ?_
 refine as_nil (κ _ _ ?_)
 refine cw_seq fun _ hK8 => ?_
 refine cw_rs fun _ κ => ?_
 refine Sm rfl rfl ?_
 refine as_q rfl rfl (q_ltT rfl rfl (by omega)) ?_
 refine as_nil (κ _ _ ?_)
 refine cw_true rfl ?_
 refine cw_region fun _ κ => ?_
 refine Sm rfl rfl ?_
 refine as_q rfl rfl (q_congr (q_neg rfl) (v' := .int .u64 (z.natAbs : Nat)) (congrArg (Value.int .u64) ((wrap_u64_abs h0 h1).2 (by omega)))) ?_
 refine Sa rfl rfl ?_
 refine as_nil (κ _ _ ?_)
 refine hK8 _ _ ?_
 refine cw_rs fun _ κ => ?_
 refine Sm rfl rfl ?_
 refine as_h rfl (h_call (by kernel_rfl) rfl ?_)
 refine (num_digits (u := z.natAbs) hs1.sat ht hn (by omega)).mono ?_
 rintro _ w2 ⟨rfl, hs2⟩
 have hoa:=hoa.then hs2
 have hT:=hT.then hs2
 refine Sa rfl rfl ?_
 refine as_nil (κ _ _ ?_)
 refine cw_rs fun _ κ => ?_
 refine Sm rfl rfl ?_
 refine as_q rfl rfl (q_congr (q_addx rfl rfl (by omega) (by omega)) (v' := .int .i64 ((1 + nd ns z.natAbs : Nat) : Int)) (congrArg (Value.int .i64) (by omega))) ?_
 refine as_q rfl rfl (q_congr (q_sliceAP1 (e := 5) (n := 24) (j := 1 + nd ns z.natAbs) (by kernel_rfl) (by kernel_rfl) rfl rfl rfl (by omega) (by omega) (by decide)) (v' := .slice (some ⟨ba, 1, none⟩) (nd ns z.natAbs) 23) (by congr 1 <;> omega)) ?_
 refine Sm rfl rfl ?_
 refine as_h rfl (h_call (by kernel_rfl) rfl ?_)
 refine (fmt_base (off := 1) (n := nd ns z.natAbs) (u0 := z.natAbs) hs2.sat hoa (by rw [show List.length _ = 24 from rfl]; omega) (by omega) (by omega) rfl).mono ?_
 rintro _ w3 ⟨hs3, hoa2⟩
 have hT:=hT.trans hs3 (fun k hk h => by have h : k = ba := h; omega)
 clear hoa; have hoa : Own w3 M ba (fmt8 1 (nd ns z.natAbs) z.natAbs Z24) 180 := hoa2; clear hoa2
 refine as_nil (κ _ _ ?_)
 refine cw_seq fun _ hK13 => ?_
 refine cw_rs fun _ κ => ?_
 refine Sm rfl rfl ?_
 refine as_q rfl rfl (q_ltT rfl rfl (by omega)) ?_
 refine as_nil (κ _ _ ?_)
 refine cw_true rfl ?_
 refine cw_rs fun _ κ => ?_
 refine as_q rfl rfl (q_indexAP (e := 5) (n := 24) (size := 1) (by kernel_rfl) (by kernel_rfl) rfl rfl (by omega) (by omega)) ?_
 refine as_h0 (h_store hs3.sat hoa rfl rfl rfl (by kernel_rfl) (show Nat.ble (_ + 1) _ = true from Nat.ble_eq_true_of_le (by rw [hR24]; decide)) rfl (puts_one (p := 0) rfl) fun w4 hs4 hn4 => ?_)
 clear hoa; have hoa := hn4; clear hn4
 have hT:=hT.own hs4 (by omega)
 refine as_nil (κ _ _ ?_)
 refine cw_rs fun _ κ => ?_
 refine Sm rfl rfl ?_
 refine as_q rfl rfl (q_congr (q_addx rfl rfl (by omega) (by omega)) (v' := .int .i64 ((1 + nd ns z.natAbs : Nat) : Int)) (congrArg (Value.int .i64) (by omega))) ?_
 refine as_q rfl rfl (q_sliceAP0 (e := 5) (n := 24) (j := 1 + nd ns z.natAbs) (by kernel_rfl) (by kernel_rfl) rfl rfl (by omega) (by decide)) ?_
 refine as_q rfl rfl (q_bytesS (e := 5) (bs := bs) (by kernel_rfl) (by kernel_rfl) (by kernel_rfl) rfl hbl (fun j b hj => hoa.1.cell ((nth_eq _ _).trans (hbc j b hj)))) ?_
 refine Sa rfl rfl ?_
 refine as_nil (κ _ _ ?_)
 refine cw_ret ?_
 exact ⟨_, (res_tmp rfl res_nil), rfl, hT⟩
set_option maxRecDepth 4000 in
theorem fi_pos {w : World} {M : Mem} {z : Int} {ns : List Int} {bs : List UInt8} (hs : Sat M w) (ht : TabM ns M) (hn : ns.length = 20) (h0 : -9223372036854775808 ≤ z) (h1 : z ≤ 9223372036854775807) (hz : 100 ≤ z) (hbl : bs.length = nd ns z.natAbs) (hbc : ∀ (j : Nat) (b : UInt8), bs[j]? = some b → (fmt8 1 (nd ns z.natAbs) z.natAbs Z24)[1 + j]? = some (.int .u8 (b.toNat : Int))) :
  Does Tryz.prog 98 #[.int .i64 z, .int .i64 10] w (fun v w' => v = .string ⟨bs.toArray⟩ ∧ Step Nope M w M w') := by
 have hT := Step.refl Nope hs
 have hnd := nd_le ns z.natAbs
 have hR24 : (fmt8 1 (nd ns z.natAbs) z.natAbs Z24).length = 24 := (Bytes.fmt8 _ 1 _ Z24_bytes).2
 refine fn_enter Tryz.func98 rfl (rs := [.tmp 4]) rfl rfl rfl rfl ?_
 refine cw_rs fun _ κ => ?_
 refine Sa rfl rfl ?_
 refine as_nil (κ _ _ ?_)
 refine cw_seq fun _ hK2 => ?_
 refine cw_rs fun _ κ => ?_
 refine Sm rfl rfl ?_
 refine as_q rfl rfl (q_eqT rfl rfl (by omega)) ?_
 refine as_nil (κ _ _ ?_)
 refine cw_true rfl ?_
 refine cw_seq fun _ hK4 => ?_
 refine cw_rs fun _ κ => ?_
 refine Sm rfl rfl ?_
 refine as_q rfl rfl (q_leT rfl rfl (by omega)) ?_
 refine Sm rfl rfl ?_
 refine as_gh rfl rfl rfl rfl (h_q rfl (q_move rfl) ?_)
 refine as_gh rfl rfl rfl rfl (h_q rfl (q_ltF rfl rfl (by omega)) ?_)
 refine as_q rfl rfl (q_pick_t rfl rfl) ?_
 refine as_nil (κ _ _ ?_)
 refine cw_false rfl ?_
 refine cw_skip ?_
 refine hK4 _ _ ?_
 refine cw_rs fun _ κ => ?_
 have hqaa := hT.size
 refine as_h rfl (h_allocO (z := (.agg #[(.int .u8 0), (.int .u8 0), (.int .u8 0), (.int .u8 0), (.int .u8 0), (.int .u8 0), (.int .u8 0), (.int .u8 0), (.int .u8 0), (.int .u8 0), (.int .u8 0), (.int .u8 0), (.int .u8 0), (.int .u8 0), (.int .u8 0), (.int .u8 0), (.int .u8 0), (.int .u8 0), (.int .u8 0), (.int .u8 0), (.int .u8 0), (.int .u8 0), (.int .u8 0), (.int .u8 0)])) hs (by kernel_rfl) rfl fun ba w1 hs1 hoa ea => ?_)
 have ht:=ht.mono hs1.le
 have hT:=hT.then hs1
 have hla := hoa.1.lt
 refine as_nil (κ _ _ ?_)
 refine cw_rs fun _ κ => ?_
 refine Sm rfl rfl ?_
 refine as_q rfl rfl (q_congr (q_conv (k' := .u64) (by kernel_rfl) (by kernel_rfl) rfl) (v' := .int .u64 (z.natAbs : Nat)) (congrArg (Value.int .u64) ((wrap_u64_abs h0 h1).1 (by omega)))) ?_
 refine Sa rfl rfl ?_
 refine as_nil (κ _ _ ?_)
 refine cw_seq fun _ hK8 => ?_
 refine cw_rs fun _ κ => ?_
 refine Sm rfl rfl ?_
 refine as_q rfl rfl (q_ltF rfl rfl (by omega)) ?_
 refine as_nil (κ _ _ ?_)
 refine cw_false rfl ?_
 refine cw_skip ?_
 refine hK8 _ _ ?_
 refine cw_rs fun _ κ => ?_
 refine Sm rfl rfl ?_
 refine as_h rfl (h_call (by kernel_rfl) rfl ?_)
 refine (num_digits (u := z.natAbs) hs1.sat ht hn (by omega)).mono ?_
 rintro _ w2 ⟨rfl, hs2⟩
 have hoa:=hoa.then hs2
 have hT:=hT.then hs2
 refine Sa rfl rfl ?_
 refine as_nil (κ _ _ ?_)
 refine cw_rs fun _ κ => ?_
 refine Sm rfl rfl ?_
 refine as_q rfl rfl (q_congr (q_addx rfl rfl (by omega) (by omega)) (v' := .int .i64 ((1 + nd ns z.natAbs : Nat) : Int)) (congrArg (Value.int .i64) (by omega))) ?_
 refine as_q rfl rfl (q_congr (q_sliceAP1 (e := 5) (n := 24) (j := 1 + nd ns z.natAbs) (by kernel_rfl) (by kernel_rfl) rfl rfl rfl (by omega) (by omega) (by decide)) (v' := .slice (some ⟨ba, 1, none⟩) (nd ns z.natAbs) 23) (by congr 1 <;> omega)) ?_
 refine Sm rfl rfl ?_
 refine as_h rfl (h_call (by kernel_rfl) rfl ?_)
 refine (fmt_base (off := 1) (n := nd ns z.natAbs) (u0 := z.natAbs) hs2.sat hoa (by rw [show List.length _ = 24 from rfl]; omega) (by omega) (by omega) rfl).mono ?_
 rintro _ w3 ⟨hs3, hoa2⟩
 have hT:=hT.trans hs3 (fun k hk h => by have h : k = ba := h; omega)
 clear hoa; have hoa : Own w3 M ba (fmt8 1 (nd ns z.natAbs) z.natAbs Z24) 180 := hoa2; clear hoa2
 refine as_nil (κ _ _ ?_)
 refine cw_seq fun _ hK12 => ?_
 refine cw_rs fun _ κ => ?_
 refine Sm rfl rfl ?_
 refine as_q rfl rfl (q_ltF rfl rfl (by omega)) ?_
 refine as_nil (κ _ _ ?_)
 refine cw_false rfl ?_
 refine cw_skip ?_
 refine hK12 _ _ ?_
 refine cw_rs fun _ κ => ?_
 refine Sm rfl rfl ?_
 refine as_q rfl rfl (q_congr (q_addx rfl rfl (by omega) (by omega)) (v' := .int .i64 ((1 + nd ns z.natAbs : Nat) : Int)) (congrArg (Value.int .i64) (by omega))) ?_
 refine as_q rfl rfl (q_congr (q_sliceAP1 (e := 5) (n := 24) (j := 1 + nd ns z.natAbs) (by kernel_rfl) (by kernel_rfl) rfl rfl rfl (by omega) (by omega) (by decide)) (v' := .slice (some ⟨ba, 1, none⟩) (nd ns z.natAbs) 23) (by congr 1 <;> omega)) ?_
 refine as_q rfl rfl (q_bytesS (e := 5) (bs := bs) (by kernel_rfl) (by kernel_rfl) (by kernel_rfl) rfl hbl (fun j b hj => hoa.1.cell ((nth_eq _ _).trans (hbc j b hj)))) ?_
 refine Sa rfl rfl ?_
 refine as_nil (κ _ _ ?_)
 refine cw_ret ?_
 exact ⟨_, (res_tmp rfl res_nil), rfl, hT⟩
end Go.Proofs.YtgcgjpfjjgalmaaGreat
/- Elements, and rows of them, among a law s arguments. -/
namespace Go.Proofs.YtgcgjpfjjgalmaaGreat
open Go Go.Eng Go.ChangeShapes Go.WideShapes Go.RowKit
theorem two_cells {α : Type} : ∀ {cs : List α}, cs.length = 2 → ∃ a b, cs = [a, b]
  | [a, b], _ => ⟨a, b, rfl⟩
def ElOk (e : El) : Prop := (-9223372036854775808 ≤ e.1 ∧ e.1 ≤ 9223372036854775807) ∧ (-9223372036854775808 ≤ e.2 ∧ e.2 ≤ 9223372036854775807)
section
variable {H : Type} {enc : TypeId × Value → H} {W : World} {spare : Nat → Bool} {held : Bool} {v : Value} {x : DataW H × List MemPlace} {fuel : Nat} {d : DataW H} {p : List MemPlace}
theorem read_el {cs : List Value} (h : DataW.trod enc Tryz.prog W 0 spare held fuel 24 cs = some x) : ∃ e : El, cs = elc e ∧ ElOk e := by
  obtain ⟨xs, n, _, _, hl, hx, hf⟩ := DataW.trod_struct Tryz.underlying24 h
  rw [show Tryz.prog.cellsOf 24 = 2 by kernel_rfl] at hl
  obtain ⟨a, b, rfl⟩ := two_cells hl
  have h0 := hf 0 _ rfl
  have h1 := hf 1 _ rfl
  rw [show Tryz.prog.cellsOf _ = 1 by kernel_rfl] at h0 h1
  rw [List.getElem?_eq_getElem (by rw [hx]; decide)] at h0 h1
  obtain ⟨m, hm, wm⟩ := DataW.trod_int Tryz.underlying2 h0
  obtain ⟨k, hk, wk⟩ := DataW.trod_int Tryz.underlying2 h1
  cases hm
  cases hk
  exact ⟨(m, k), rfl, by simpa [Lit.wf, IntKind.min, IntKind.max, IntKind.signed, IntKind.bits] using wm.2, by simpa [Lit.wf, IntKind.min, IntKind.max, IntKind.signed, IntKind.bits] using wk.2⟩
theorem read_els (hv : ∃ a n c, v = .slice a n c) (h : DataW.Trod enc Tryz.prog W 0 spare held 22 v d p) : ∃ (n : Nat) (xs : List El), RdM (memOf W) 2 v n (els xs) ∧ ∀ e ∈ xs, ElOk e := by
  obtain ⟨fuel, h⟩ := h
  obtain ⟨a, k, c, rfl⟩ := hv
  obtain ⟨n, ys, _, h1, h2⟩ := read_rows elc ElOk elc_length Tryz.underlying22 (show Tryz.prog.cellsOf 24 = 2 by kernel_rfl) (by decide) (fun _ cs x hx => read_el hx) (v := .slice a k c) h
  exact ⟨n, ys, h1, h2⟩
end
end Go.Proofs.YtgcgjpfjjgalmaaGreat
/- An element as a text, part 1. -/
namespace Go.Proofs.YtgcgjpfjjgalmaaGreat
open Go Go.Eng
theorem fmt_small {w : World} {M : Mem} {i : Nat} (hs : Sat M w) (hi : i < 100) :
  Does Tryz.prog 97 #[.int .i64 (i : Nat), .int .i64 10] w (fun v w' => v = .string ⟨(Lib.decDigits i).toArray⟩ ∧ Step Nope M w M w') := by
 have hT := Step.refl Nope hs
 refine fn_enter Tryz.func97 rfl (rs := [.tmp 4]) rfl rfl rfl rfl ?_
 refine cw_rs fun _ κ => ?_
 refine Sa rfl rfl ?_
 refine as_nil (κ _ _ ?_)
 refine cw_rs fun _ κ => ?_
 refine Sm rfl rfl ?_
 refine Sm rfl rfl ?_
 refine as_h rfl (h_call (by kernel_rfl) rfl ?_)
 refine (fi_small (i := i) hs hi).mono ?_
 rintro _ w1 ⟨rfl, hs1⟩
 have hT:=hT.then hs1
 refine Sa rfl rfl ?_
 refine as_nil (κ _ _ ?_)
 refine cw_ret ?_
 exact ⟨_, (res_tmp rfl res_nil), rfl, hT⟩
theorem fmt_neg {w : World} {M : Mem} {z : Int} {ns : List Int} {bs : List UInt8} (hs : Sat M w) (ht : TabM ns M) (hn : ns.length = 20) (h0 : -9223372036854775808 ≤ z) (h1 : z ≤ 9223372036854775807) (hz : z < 0) (hbl : bs.length = 1 + nd ns z.natAbs) (hbc : ∀ (j : Nat) (b : UInt8), bs[j]? = some b → ((fmt8 1 (nd ns z.natAbs) z.natAbs Z24).set 0 (.int .u8 45))[0 + j]? = some (.int .u8 (b.toNat : Int))) :
  Does Tryz.prog 97 #[.int .i64 z, .int .i64 10] w (fun v w' => v = .string ⟨bs.toArray⟩ ∧ Step Nope M w M w') := by
 have hT := Step.refl Nope hs
 refine fn_enter Tryz.func97 rfl (rs := [.tmp 4]) rfl rfl rfl rfl ?_
 refine cw_rs fun _ κ => ?_
 refine Sa rfl rfl ?_
 refine as_nil (κ _ _ ?_)
 refine cw_rs fun _ κ => ?_
 refine Sm rfl rfl ?_
 refine Sm rfl rfl ?_
 refine as_h rfl (h_call (by kernel_rfl) rfl ?_)
 refine (fi_neg hs ht hn h0 h1 hz hbl hbc).mono ?_
 rintro _ w1 ⟨rfl, hs1⟩
 have hT:=hT.then hs1
 refine Sa rfl rfl ?_
 refine as_nil (κ _ _ ?_)
 refine cw_ret ?_
 exact ⟨_, (res_tmp rfl res_nil), rfl, hT⟩
theorem fmt_pos {w : World} {M : Mem} {z : Int} {ns : List Int} {bs : List UInt8} (hs : Sat M w) (ht : TabM ns M) (hn : ns.length = 20) (h0 : -9223372036854775808 ≤ z) (h1 : z ≤ 9223372036854775807) (hz : 100 ≤ z) (hbl : bs.length = nd ns z.natAbs) (hbc : ∀ (j : Nat) (b : UInt8), bs[j]? = some b → (fmt8 1 (nd ns z.natAbs) z.natAbs Z24)[1 + j]? = some (.int .u8 (b.toNat : Int))) :
  Does Tryz.prog 97 #[.int .i64 z, .int .i64 10] w (fun v w' => v = .string ⟨bs.toArray⟩ ∧ Step Nope M w M w') := by
 have hT := Step.refl Nope hs
 refine fn_enter Tryz.func97 rfl (rs := [.tmp 4]) rfl rfl rfl rfl ?_
 refine cw_rs fun _ κ => ?_
 refine Sa rfl rfl ?_
 refine as_nil (κ _ _ ?_)
 refine cw_rs fun _ κ => ?_
 refine Sm rfl rfl ?_
 refine Sm rfl rfl ?_
 refine as_h rfl (h_call (by kernel_rfl) rfl ?_)
 refine (fi_pos hs ht hn h0 h1 hz hbl hbc).mono ?_
 rintro _ w1 ⟨rfl, hs1⟩
 have hT:=hT.then hs1
 refine Sa rfl rfl ?_
 refine as_nil (κ _ _ ?_)
 refine cw_ret ?_
 exact ⟨_, (res_tmp rfl res_nil), rfl, hT⟩
theorem dec_len : ∀ i : Fin 100, (Lib.decDigits i.val).length ≤ 24 := by decide +kernel
theorem fmtI_ex {z : Int} {ns : List Int} (hn : ns.length = 20) (h0 : -9223372036854775808 ≤ z) (h1 : z ≤ 9223372036854775807) : ∃ s, s.length ≤ 24 ∧ FmtI ns z s := by
 have hnd := nd_le ns z.natAbs
 have hR24 := Bytes.fmt8 (nd ns z.natAbs) 1 z.natAbs Z24_bytes
 have h24 : (fmt8 1 (nd ns z.natAbs) z.natAbs Z24).length = 24 := hR24.2
 by_cases hz : z < 0
 ·
  have hb : Bytes ((fmt8 1 (nd ns z.natAbs) z.natAbs Z24).set 0 (.int .u8 45)) := hR24.1.set 0 45
  obtain ⟨bs, e1, e2⟩ := hb.text 0 (1 + nd ns z.natAbs) (by rw [List.length_set, h24]; omega)
  exact ⟨bs, by omega, fun M w hs ht => fmt_neg hs ht hn h0 h1 hz e1 e2⟩
 ·
  by_cases h2 : z < 100
  ·
   obtain ⟨i, rfl⟩ : ∃ i : Nat, z = i := ⟨z.toNat, by omega⟩
   exact ⟨_, dec_len ⟨i, by omega⟩, fun M w hs ht => fmt_small hs (by omega)⟩
  ·
   obtain ⟨bs, e1, e2⟩ := hR24.1.text 1 (nd ns z.natAbs) (by rw [h24]; omega)
   exact ⟨bs, by omega, fun M w hs ht => fmt_pos hs ht hn h0 h1 (by omega) e1 e2⟩
def TextE (ns : List Int) (x : El) (s : List UInt8) : Prop := ∀ M w, Sat M w → TabM ns M → Does Tryz.prog 96 #[.agg (elc x).toArray] w (fun v w' => v = .string ⟨s.toArray⟩ ∧ ∃ M', Step Nope M w M' w')
theorem text_ {w : World} {M : Mem} {x : El} {ns : List Int} {s s2 : List UInt8} (hs : Sat M w) (ht : TabM ns M) (hp : FmtI ns x.1 s) (hq : FmtI ns x.2 s2) (hl : s.length ≤ 24) (hl2 : s2.length ≤ 24) :
  Does Tryz.prog 96 #[.agg (elc x).toArray] w (fun v w' => v = .string ⟨(s ++ [58] ++ s2).toArray⟩ ∧ ∃ M', Step Nope M w M' w') := by
 have hT := Step.refl Nope hs
 refine fn_enter Tryz.func96 rfl (rs := [.tmp 2]) rfl rfl rfl rfl ?_
 refine cw_rs fun _ κ => ?_
 have hqax := hT.size
 refine as_h rfl (h_boxO hs rfl rfl fun bx w1 hs1 hox ex => ?_)
 have ht:=ht.mono hs1.le
 have hT:=hT.then hs1
 have hz1 := hs1.size
 have hlx := hox.1.lt
 refine Sa rfl rfl ?_
 refine as_nil (κ _ _ ?_)
 refine cw_dr (by kernel_rfl) fun _ κ => ?_
 have hs2 := Step.drew hs1.sat
 have hz2 := hs2.size
 have ht:=ht.mono hs2.le
 have hox:=hox.then hs2
 have hT:=hT.then hs2
 refine Df 0 1 0 rfl (by kernel_rfl) (by kernel_rfl) rfl ?_
 refine Dl1 1 3 rfl (by kernel_rfl) (by kernel_rfl) rfl (by exact Blk.cell hox.1 rfl) ?_
 refine Df 4 19 1 rfl (by kernel_rfl) (by kernel_rfl) rfl ?_
 refine Dl1 5 51 rfl (by kernel_rfl) (by kernel_rfl) rfl (by exact Blk.cell hox.1 rfl) ?_
 refine Dh 2 55 rfl (by kernel_rfl) (keep_sift (bs := [F,T]) (by kernel_rfl)) (h_call (by kernel_rfl) rfl ?_)
 refine (hp _ _ hs2.sat ht).mono ?_
 rintro _ w3 ⟨rfl, hs3⟩
 have ht:=ht.mono hs3.le
 have hox:=hox.then hs3
 have hT:=hT.then hs3
 have hz3 := hs3.size
 refine ⟨(by repeat' first | exact trivial | exact Blk.cell hox.1 rfl | exact Blk.cells hox.1 rfl | assumption | refine all_keep ?_ | refine And.intro ?_ ?_), ?_⟩
 refine Dq 3 63 rfl (by kernel_rfl) (fun _ => (q_catL rfl rfl (by simp only [List.length_cons, List.length_nil]; omega))) ?_
 refine Dh 6 127 rfl (by kernel_rfl) (keep_sift (bs := [T]) (by kernel_rfl)) (h_call (by kernel_rfl) rfl ?_)
 refine (hq _ _ hs3.sat ht).mono ?_
 rintro _ w4 ⟨rfl, hs4⟩
 have hT:=hT.then hs4
 have hz4 := hs4.size
 refine ⟨trivial, ?_⟩
 refine Dq 7 255 rfl (by kernel_rfl) (fun _ => (q_catL rfl rfl (by simp only [List.length_append, List.length_cons, List.length_nil]; omega))) ?_
 refine Da 8 511 rfl (by kernel_rfl) rfl ?_
 refine Dd (by kernel_rfl) (κ _ _ ?_)
 refine cw_ret ?_
 exact ⟨_, (res_tmp rfl res_nil), rfl, _, hT⟩
theorem textE_ex {x : El} {ns : List Int} (hn : ns.length = 20) (hx : ElOk x) : ∃ s, s.length ≤ 60 ∧ TextE ns x s := by
 obtain ⟨s, h1, h2⟩ := fmtI_ex (z := x.1) hn hx.1.1 hx.1.2
 obtain ⟨s2, h3, h4⟩ := fmtI_ex (z := x.2) hn hx.2.1 hx.2.2
 exact ⟨s ++ [58] ++ s2, by simp only [List.length_append, List.length_cons, List.length_nil]; omega, fun M w hs ht => text_ hs ht h2 h4 h1 h3⟩
end Go.Proofs.YtgcgjpfjjgalmaaGreat
/- Lists of trees of heaps, part 1. -/
namespace Go.Proofs.YtgcgjpfjjgalmaaGreat
open Go Go.Eng
theorem ch_len_n {w : World} {M : Mem} (hs : Sat M w) :
  Does Tryz.prog 250 #[.agg #[.pointer none]] w (fun v w' => v = .int .i64 0 ∧ Step Nope M w M w') := by
 have hT := Step.refl Nope hs
 refine fn_enter Tryz.func250 rfl (rs := [.tmp 2]) rfl rfl rfl rfl ?_
 refine cw_rs fun _ κ => ?_
 refine as_h rfl (h_boxM hs rfl rfl fun b1 M1 w1 hs1 hb1 e1 => ?_)
 have hT:=hT.then hs1
 refine Sa rfl rfl ?_
 refine as_nil (κ _ _ ?_)
 refine cw_seq fun _ hK2 => ?_
 refine cw_rs fun _ κ => ?_
 refine Sf 0 rfl (by kernel_rfl) rfl ?_
 refine S1 rfl (by kernel_rfl) rfl (by exact BlkR.cell (hs1.sat _ _ _ hb1) rfl) ?_
 refine as_q rfl rfl (q_eqnil (by kernel_rfl) rfl) ?_
 refine as_nil (κ _ _ ?_)
 refine cw_true rfl ?_
 refine cw_rs fun _ κ => ?_
 refine Sa rfl rfl ?_
 refine as_nil (κ _ _ ?_)
 refine cw_ret ?_
 exact ⟨_, (res_tmp rfl res_nil), rfl, hT.forget⟩
theorem ch_len_c {w : World} {M : Mem} {x : Option Addr} {r : List (Option Addr)} {p : Value} (hs : Sat M w) (h : CRep 330 M (x :: r) p) :
  Does Tryz.prog 250 #[.agg #[p]] w (fun v w' => v = .int .i64 ((r.length : Int) + 1) ∧ Step Nope M w M w') := by
 have hT := Step.refl Nope hs
 obtain ⟨b, q, rfl, hb, hc⟩ := h
 refine fn_enter Tryz.func250 rfl (rs := [.tmp 2]) rfl rfl rfl rfl ?_
 refine cw_rs fun _ κ => ?_
 refine as_h rfl (h_boxM hs rfl rfl fun b1 M1 w1 hs1 hb1 e1 => ?_)
 have hb:=hs1.le _ _ hb
 have hT:=hT.then hs1
 refine Sa rfl rfl ?_
 refine as_nil (κ _ _ ?_)
 refine cw_seq fun _ hK2 => ?_
 refine cw_rs fun _ κ => ?_
 refine Sf 0 rfl (by kernel_rfl) rfl ?_
 refine S1 rfl (by kernel_rfl) rfl (by exact BlkR.cell (hs1.sat _ _ _ hb1) rfl) ?_
 refine as_q rfl rfl (q_eqnil (by kernel_rfl) rfl) ?_
 refine as_nil (κ _ _ ?_)
 refine cw_false rfl ?_
 refine cw_skip ?_
 refine hK2 _ _ ?_
 refine cw_rs fun _ κ => ?_
 refine Sf 0 rfl (by kernel_rfl) rfl ?_
 refine S1 rfl (by kernel_rfl) rfl (by exact BlkR.cell (hs1.sat _ _ _ hb1) rfl) ?_
 refine as_q rfl rfl (q_nilp rfl) ?_
 refine Sf 2 rfl (by kernel_rfl) rfl ?_
 refine S1 rfl (by kernel_rfl) rfl (by exact BlkR.cell (hs1.sat _ _ _ hb) rfl) ?_
 refine Sa rfl rfl ?_
 refine as_nil (κ _ _ ?_)
 refine cw_ret ?_
 exact ⟨_, (res_tmp rfl res_nil), rfl, hT.forget⟩
theorem ch_len {w : World} {M : Mem} {vs : List (Option Addr)} {p : Value} (hs : Sat M w) (h : CRep 330 M vs p) : Does Tryz.prog 250 #[.agg #[p]] w (fun v w' => v = .int .i64 (vs.length : Nat) ∧ Step Nope M w M w') := by
 cases vs with
 | nil => cases h; exact ch_len_n hs
 | cons x r => exact (ch_len_c hs h).mono fun v w' ⟨h1, h2⟩ => ⟨by rw [h1]; simp, h2⟩
theorem ch_first_n {w : World} {M : Mem} (hs : Sat M w) :
  Does Tryz.prog 231 #[.agg #[.pointer none]] w (fun v w' => v = .tuple #[.pointer none, .bool false] ∧ Step Nope M w M w') := by
 have hT := Step.refl Nope hs
 refine fn_enter Tryz.func231 rfl (rs := [.tmp 2, .tmp 3]) rfl rfl rfl rfl ?_
 refine cw_rs fun _ κ => ?_
 refine as_h rfl (h_boxM hs rfl rfl fun b1 M1 w1 hs1 hb1 e1 => ?_)
 have hT:=hT.then hs1
 refine Sa rfl rfl ?_
 refine Sa rfl rfl ?_
 refine as_nil (κ _ _ ?_)
 refine cw_seq fun _ hK2 => ?_
 refine cw_rs fun _ κ => ?_
 refine Sf 0 rfl (by kernel_rfl) rfl ?_
 refine S1 rfl (by kernel_rfl) rfl (by exact BlkR.cell (hs1.sat _ _ _ hb1) rfl) ?_
 refine as_q rfl rfl (q_eqnil (by kernel_rfl) rfl) ?_
 refine as_nil (κ _ _ ?_)
 refine cw_true rfl ?_
 refine cw_rs fun _ κ => ?_
 refine Sa rfl rfl ?_
 refine as_nil (κ _ _ ?_)
 refine cw_rs fun _ κ => ?_
 refine Sm rfl rfl ?_
 refine Sa rfl rfl ?_
 refine Sa rfl rfl ?_
 refine as_nil (κ _ _ ?_)
 refine cw_ret ?_
 exact ⟨_, (res_tmp rfl (res_tmp rfl res_nil)), rfl, hT.forget⟩
theorem ch_first {w : World} {M : Mem} {x : Option Addr} {r : List (Option Addr)} {p : Value} (hs : Sat M w) (h : CRep 330 M (x :: r) p) :
  Does Tryz.prog 231 #[.agg #[p]] w (fun v w' => v = .tuple #[.pointer x, .bool true] ∧ Step Nope M w M w') := by
 have hT := Step.refl Nope hs
 obtain ⟨b, q, rfl, hb, hc⟩ := h
 refine fn_enter Tryz.func231 rfl (rs := [.tmp 2, .tmp 3]) rfl rfl rfl rfl ?_
 refine cw_rs fun _ κ => ?_
 refine as_h rfl (h_boxM hs rfl rfl fun b1 M1 w1 hs1 hb1 e1 => ?_)
 have hb:=hs1.le _ _ hb
 have hT:=hT.then hs1
 refine Sa rfl rfl ?_
 refine Sa rfl rfl ?_
 refine as_nil (κ _ _ ?_)
 refine cw_seq fun _ hK2 => ?_
 refine cw_rs fun _ κ => ?_
 refine Sf 0 rfl (by kernel_rfl) rfl ?_
 refine S1 rfl (by kernel_rfl) rfl (by exact BlkR.cell (hs1.sat _ _ _ hb1) rfl) ?_
 refine as_q rfl rfl (q_eqnil (by kernel_rfl) rfl) ?_
 refine as_nil (κ _ _ ?_)
 refine cw_false rfl ?_
 refine cw_skip ?_
 refine hK2 _ _ ?_
 refine cw_rs fun _ κ => ?_
 refine Sf 0 rfl (by kernel_rfl) rfl ?_
 refine S1 rfl (by kernel_rfl) rfl (by exact BlkR.cell (hs1.sat _ _ _ hb1) rfl) ?_
 refine as_q rfl rfl (q_nilp rfl) ?_
 refine Sf 0 rfl (by kernel_rfl) rfl ?_
 refine S1 rfl (by kernel_rfl) rfl (by exact BlkR.cell (hs1.sat _ _ _ hb) rfl) ?_
 refine Sa rfl rfl ?_
 refine Sa rfl rfl ?_
 refine as_nil (κ _ _ ?_)
 refine cw_ret ?_
 exact ⟨_, (res_tmp rfl (res_tmp rfl res_nil)), rfl, hT.forget⟩
theorem ch_rest_n {w : World} {M : Mem} (hs : Sat M w) :
  Does Tryz.prog 232 #[.agg #[.pointer none]] w (fun v w' => v = .agg #[.pointer none] ∧ Step Nope M w M w') := by
 have hT := Step.refl Nope hs
 refine fn_enter Tryz.func232 rfl (rs := [.cell 2 292]) rfl rfl rfl rfl ?_
 refine cw_rs fun _ κ => ?_
 refine as_h rfl (h_boxM hs rfl rfl fun b1 M1 w1 hs1 hb1 e1 => ?_)
 have hT:=hT.then hs1
 have hz1 := hs1.size
 have hqar := hT.size
 refine as_h rfl (h_allocO (z := (.agg #[(.pointer none)])) hs1.sat (by kernel_rfl) rfl fun br w2 hs2 hor er => ?_)
 have hb1:=hs2.le _ _ hb1
 have hT:=hT.then hs2
 have hz2 := hs2.size
 have hlr := hor.1.lt
 refine as_nil (κ _ _ ?_)
 refine cw_seq fun _ hK2 => ?_
 refine cw_rs fun _ κ => ?_
 refine Sf 0 rfl (by kernel_rfl) rfl ?_
 refine S1 rfl (by kernel_rfl) rfl (by exact BlkR.cell (hs2.sat _ _ _ hb1) rfl) ?_
 refine as_q rfl rfl (q_eqnil (by kernel_rfl) rfl) ?_
 refine as_nil (κ _ _ ?_)
 refine cw_true rfl ?_
 refine cw_rs fun _ κ => ?_
 refine Sc 1 rfl (by kernel_rfl) rfl (by exact BlkR.cells (hs2.sat _ _ _ hb1) rfl) ?_
 refine as_h0 (h_store hs2.sat hor rfl rfl rfl (by kernel_rfl) rfl rfl rfl fun w3 hs3 hn3 => ?_)
 clear hor; have hor := hn3; clear hn3
 have hT:=hT.own hs3 (by omega)
 have hz3 := hs3.size
 refine as_nil (κ _ _ ?_)
 refine cw_ret ?_
 exact ⟨_, (res_cell rfl (loadVar_n (n := 1) (by kernel_rfl) (by exact Blk.cells hor.1 rfl)) res_nil), rfl, hT.forget⟩
theorem ch_rest {w : World} {M : Mem} {x : Option Addr} {r : List (Option Addr)} {p : Value} (hs : Sat M w) (h : CRep 330 M (x :: r) p) :
  Does Tryz.prog 232 #[.agg #[p]] w (fun v w' => ∃ q, v = .agg #[.pointer q] ∧ Step Nope M w M w' ∧ CRep 330 M r (.pointer q)) := by
 have hT := Step.refl Nope hs
 obtain ⟨b, q, rfl, hb, hc⟩ := h
 have hc0 := hc
 refine fn_enter Tryz.func232 rfl (rs := [.cell 2 292]) rfl rfl rfl rfl ?_
 refine cw_rs fun _ κ => ?_
 refine as_h rfl (h_boxM hs rfl rfl fun b1 M1 w1 hs1 hb1 e1 => ?_)
 have hb:=hs1.le _ _ hb
 have hT:=hT.then hs1
 have hz1 := hs1.size
 have hqar := hT.size
 refine as_h rfl (h_allocO (z := (.agg #[(.pointer none)])) hs1.sat (by kernel_rfl) rfl fun br w2 hs2 hor er => ?_)
 have hb:=hs2.le _ _ hb
 have hb1:=hs2.le _ _ hb1
 have hT:=hT.then hs2
 have hz2 := hs2.size
 have hlr := hor.1.lt
 refine as_nil (κ _ _ ?_)
 refine cw_seq fun _ hK2 => ?_
 refine cw_rs fun _ κ => ?_
 refine Sf 0 rfl (by kernel_rfl) rfl ?_
 refine S1 rfl (by kernel_rfl) rfl (by exact BlkR.cell (hs2.sat _ _ _ hb1) rfl) ?_
 refine as_q rfl rfl (q_eqnil (by kernel_rfl) rfl) ?_
 refine as_nil (κ _ _ ?_)
 refine cw_false rfl ?_
 refine cw_skip ?_
 refine hK2 _ _ ?_
 refine cw_rs fun _ κ => ?_
 refine Sf 0 rfl (by kernel_rfl) rfl ?_
 refine S1 rfl (by kernel_rfl) rfl (by exact BlkR.cell (hs2.sat _ _ _ hb1) rfl) ?_
 refine as_q rfl rfl (q_nilp rfl) ?_
 refine Sf 1 rfl (by kernel_rfl) rfl ?_
 refine S1 rfl (by kernel_rfl) rfl (by exact BlkR.cell (hs2.sat _ _ _ hb) rfl) ?_
 refine as_q rfl rfl (q_build (zs := [(.pointer none)]) (places := [(0, 1)]) (cs := [_]) (by kernel_rfl) (by kernel_rfl) rfl rfl) ?_
 refine as_h0 (h_store hs2.sat hor rfl rfl rfl (by kernel_rfl) rfl rfl rfl fun w3 hs3 hn3 => ?_)
 clear hor; have hor := hn3; clear hn3
 have hT:=hT.own hs3 (by omega)
 have hz3 := hs3.size
 refine as_nil (κ _ _ ?_)
 refine cw_ret ?_
 exact ⟨_, (res_cell rfl (loadVar_n (n := 1) (by kernel_rfl) (by exact Blk.cells hor.1 rfl)) res_nil), q, rfl, hT.forget, hc0⟩
theorem ch_push {w : World} {M : Mem} {x : Option Addr} {vs : List (Option Addr)} {p : Value} (hs : Sat M w) (h : CRep 330 M vs p) (hz : vs.length ≤ 1000000000) :
  Does Tryz.prog 235 #[.agg #[p], .pointer x] w (fun v w' => ∃ q M', v = .agg #[.pointer q] ∧ Step Nope M w M' w' ∧ CRep 330 M' (x :: vs) (.pointer q)) := by
 have hT := Step.refl Nope hs
 obtain ⟨q, rfl⟩ := h.ptr
 refine fn_enter Tryz.func235 rfl (rs := [.cell 4 292]) rfl rfl rfl rfl ?_
 refine cw_rs fun _ κ => ?_
 refine as_h rfl (h_boxM hs rfl rfl fun b1 M1 w1 hs1 hb1 e1 => ?_)
 have h:=h.mono hs1.le
 have hT:=hT.then hs1
 have hz1 := hs1.size
 have hqar := hT.size
 refine as_h rfl (h_allocO (z := (.agg #[(.pointer none)])) hs1.sat (by kernel_rfl) rfl fun br w2 hs2 hor er => ?_)
 have h:=h.mono hs2.le
 have hb1:=hs2.le _ _ hb1
 have hT:=hT.then hs2
 have hz2 := hs2.size
 have hlr := hor.1.lt
 refine as_nil (κ _ _ ?_)
 refine cw_dr (by kernel_rfl) fun _ κ => ?_
 have hs3 := Step.drew hs2.sat
 have hz3 := hs3.size
 have h:=h.mono hs3.le
 have hb1:=hs3.le _ _ hb1
 have hor:=hor.then hs3
 have hT:=hT.then hs3
 refine Dm 0 1 rfl (by kernel_rfl) rfl ?_
 refine Df 1 3 0 rfl (by kernel_rfl) (by kernel_rfl) rfl ?_
 refine Dl1 2 7 rfl (by kernel_rfl) (by kernel_rfl) rfl (by exact BlkR.cell (hs3.sat _ _ _ hb1) rfl) ?_
 refine Dlc 3 15 1 rfl (by kernel_rfl) (by kernel_rfl) rfl (by exact BlkR.cells (hs3.sat _ _ _ hb1) rfl) ?_
 refine Dh 4 31 rfl (by kernel_rfl) (keep_sift (bs := [T,F]) (by kernel_rfl)) (h_call (by kernel_rfl) rfl ?_)
 refine (ch_len hs3.sat h).mono ?_
 rintro _ w4 ⟨rfl, hs4⟩
 have h:=h.mono hs4.le
 have hb1:=hs4.le _ _ hb1
 have hor:=hor.then hs4
 have hT:=hT.then hs4
 have hz4 := hs4.size
 refine ⟨(by repeat' first | exact trivial | exact BlkR.cell (hs4.sat _ _ _ hb1) rfl | exact BlkR.cells (hs4.sat _ _ _ hb1) rfl | exact Blk.cell hor.1 rfl | exact Blk.cells hor.1 rfl | assumption | refine all_keep ?_ | refine And.intro ?_ ?_), ?_⟩
 refine Dq 5 63 rfl (by kernel_rfl) (fun _ => (q_addx rfl rfl (by omega) (by omega))) ?_
 refine Dq 6 127 rfl (by kernel_rfl) (fun _ => (q_build (zs := [(.pointer none), (.pointer none), (.int .i64 0)]) (places := [(0, 1), (1, 1), (2, 1)]) (cs := [_, _, _]) (by kernel_rfl) (by kernel_rfl) rfl rfl)) ?_
 refine Dh 7 255 rfl (by kernel_rfl) (keep_sift (bs := [F]) (by kernel_rfl)) (h_boxM hs4.sat rfl rfl fun b5 M5 w5 hs5 hb5 e5 => ?_)
 have h:=h.mono hs5.le
 have hb1:=hs5.le _ _ hb1
 have hor:=hor.then hs5
 have hT:=hT.then hs5
 have hz5 := hs5.size
 refine ⟨(by repeat' first | exact trivial | exact BlkR.cell (hs5.sat _ _ _ hb1) rfl | exact BlkR.cells (hs5.sat _ _ _ hb1) rfl | exact Blk.cell hor.1 rfl | exact Blk.cells hor.1 rfl | exact BlkR.cell (hs5.sat _ _ _ hb5) rfl | exact BlkR.cells (hs5.sat _ _ _ hb5) rfl | assumption | refine all_keep ?_ | refine And.intro ?_ ?_), ?_⟩
 refine Dq 8 511 rfl (by kernel_rfl) (fun _ => (q_build (zs := [(.pointer none)]) (places := [(0, 1)]) (cs := [_]) (by kernel_rfl) (by kernel_rfl) rfl rfl)) ?_
 refine Dh0 9 1023 rfl (by kernel_rfl) (keep_sift (bs := [T]) (by kernel_rfl)) (h_store hs5.sat hor rfl rfl rfl (by kernel_rfl) rfl rfl rfl fun w6 hs6 hn6 => ?_)
 have h:=h.mono hs6.le
 have hb5:=hs6.le _ _ hb5
 clear hor; have hor := hn6; clear hn6
 have hT:=hT.own hs6 (by omega)
 have hz6 := hs6.size
 refine ⟨trivial, ?_⟩
 refine Dd (by kernel_rfl) (κ _ _ ?_)
 refine cw_ret ?_
 exact ⟨_, (res_cell rfl (loadVar_n (n := 1) (by kernel_rfl) (by exact Blk.cells hor.1 rfl)) res_nil), _, _, rfl, hT, _, _, rfl, hb5, h⟩
theorem ch_drop {w : World} {M : Mem} {vs : List (Option Addr)} {q : Option Addr} {n : Nat} (hs : Sat M w) (h : CRep 330 M vs (.pointer q)) (hn : n ≤ 1000000000) :
  Does Tryz.prog 234 #[.agg #[.pointer q], .int .i64 n] w (fun v w' => ∃ q, v = .agg #[.pointer q] ∧ Step Nope M w M w' ∧ CRep 330 M (vs.drop n) (.pointer q)) := by
 have hT := Step.refl Nope hs
 have hzn : (0:Int) ≤ n := Int.natCast_nonneg n
 refine fn_enter Tryz.func234 rfl (rs := [.cell 4 292]) rfl rfl rfl rfl ?_
 refine cw_rs fun _ κ => ?_
 have hqal := hT.size
 refine as_h rfl (h_boxO hs rfl rfl fun bl w1 hs1 hol el => ?_)
 have hT:=hT.then hs1
 have hz1 := hs1.size
 have hll := hol.1.lt
 have hqar := hT.size
 refine as_h rfl (h_allocO (z := (.agg #[(.pointer none)])) hs1.sat (by kernel_rfl) rfl fun br w2 hs2 hor er => ?_)
 have hol:=hol.then hs2
 have hT:=hT.then hs2
 have hz2 := hs2.size
 have hlr := hor.1.lt
 refine as_nil (κ _ _ ?_)
 refine cw_seq fun _ hK2 => ?_
 refine cw_block ?_
 refine cw_loop (fun mm l w1 => ∃ (i : Nat) (z : Int) (rest : List (Option Addr)) (p1 : Option Addr), mm = rest.length ∧ z = n - i ∧ 0 ≤ z ∧ vs.drop i = rest ∧ CRep 330 M rest (.pointer p1) ∧ l = [(2, .pointer (some ⟨bl, 0, none⟩)), (4, .pointer (some ⟨br, 0, none⟩)), (1, .int .i64 z)] ∧ Step Nope M w M w1 ∧ Own w1 M bl [.pointer p1] 292 ∧ Own w1 M br [.pointer none] 292) (vs.length) [(2, .pointer (some ⟨bl, 0, none⟩)), (4, .pointer (some ⟨br, 0, none⟩)), (1, .int .i64 (n : Int))] (.cons rfl (.cons rfl (.cons rfl (.nil _)))) ?_ ?_
 ·
  exact ⟨0, n, vs, q, rfl, by simp, by omega, rfl, h, rfl, hT, hol, hor⟩
 have hblw : w.heap.size ≤ bl := by omega
 have hbrw : w.heap.size ≤ br ∧ bl ≠ br := by omega
 clear hT hol hor
 rintro mm l w1 ⟨i, z, rest, p1, rfl, hz, hz0, hdr, hc, rfl, hT, hol, hor⟩
 refine cw_seq fun _ hK3 => ?_
 have hcs : (z = 0) ∨ (0 < z ∧ p1 = none) ∨ (0 < z ∧ ∃ a, p1 = some a) := by
  rcases p1 with _ | a
  ·
   rcases Int.lt_or_le 0 z with h | h
   · exact .inr (.inl ⟨h, rfl⟩)
   · left; omega
  ·
   rcases Int.lt_or_le 0 z with h | h
   · exact .inr (.inr ⟨h, a, rfl⟩)
   · left; omega
 rcases hcs with h0 | ⟨h0, rfl⟩ | ⟨h0, a, rfl⟩
 ·
  refine cw_rs fun _ κ => ?_
  refine Sm rfl rfl ?_
  refine as_q rfl rfl (q_gtF rfl rfl (by omega)) ?_
  refine Sm rfl rfl ?_
  refine as_gskip rfl rfl rfl rfl rfl ?_
  refine as_gskip rfl rfl rfl rfl rfl ?_
  refine as_gskip rfl rfl rfl rfl rfl ?_
  refine as_q rfl rfl (q_pick_f rfl rfl) ?_
  refine as_nil (κ _ _ ?_)
  refine cw_false rfl ?_
  refine cw_exit ?_
  refine hK2 _ _ ?_
  refine cw_rs fun _ κ => ?_
  refine Sc 1 rfl (by kernel_rfl) rfl (by exact Blk.cells hol.1 rfl) ?_
  refine as_h0 (h_store hT.sat hor rfl rfl rfl (by kernel_rfl) rfl rfl rfl fun w3 hs3 hn3 => ?_)
  have hol:=hol.step hs3 (fun h => by have h : _ = _ := h; omega)
  have hc:=hc.mono hs3.le
  clear hor; have hor := hn3; clear hn3
  have hT:=hT.own hs3 (by omega)
  have hz3 := hs3.size
  refine as_nil (κ _ _ ?_)
  refine cw_ret ?_
  have e : vs.drop n = rest := by rw [← hdr]; congr 1; omega
  exact ⟨_, (res_cell rfl (loadVar_n (n := 1) (by kernel_rfl) (by exact Blk.cells hor.1 rfl)) res_nil), _, rfl, hT, by rw [e]; exact hc⟩
 ·
  refine cw_rs fun _ κ => ?_
  refine Sm rfl rfl ?_
  refine as_q rfl rfl (q_gtT rfl rfl (by omega)) ?_
  refine Sm rfl rfl ?_
  refine as_gh rfl rfl rfl rfl (h_q rfl (q_fieldAddr (off := 0) (by kernel_rfl) rfl) ?_)
  refine as_gh rfl rfl rfl rfl (h_q rfl (q_load1 (by kernel_rfl) rfl (by exact Blk.cell hol.1 rfl)) ?_)
  refine as_gh rfl rfl rfl rfl (h_q rfl (q_nenil (by kernel_rfl) rfl) ?_)
  refine as_q rfl rfl (q_pick_t rfl rfl) ?_
  refine as_nil (κ _ _ ?_)
  refine cw_false rfl ?_
  refine cw_exit ?_
  refine hK2 _ _ ?_
  refine cw_rs fun _ κ => ?_
  refine Sc 1 rfl (by kernel_rfl) rfl (by exact Blk.cells hol.1 rfl) ?_
  refine as_h0 (h_store hT.sat hor rfl rfl rfl (by kernel_rfl) rfl rfl rfl fun w4 hs4 hn4 => ?_)
  have hol:=hol.step hs4 (fun h => by have h : _ = _ := h; omega)
  have hc:=hc.mono hs4.le
  clear hor; have hor := hn4; clear hn4
  have hT:=hT.own hs4 (by omega)
  have hz4 := hs4.size
  refine as_nil (κ _ _ ?_)
  refine cw_ret ?_
  have e : vs.drop n = rest := by
   have h2 : rest = [] := by
    rcases rest with _ | ⟨x, rest⟩
    · rfl
    · obtain ⟨_, _, h, _⟩ := hc; cases h
   subst h2
   refine List.drop_eq_nil_of_le ?_
   have := List.drop_eq_nil_iff.1 hdr
   omega
  exact ⟨_, (res_cell rfl (loadVar_n (n := 1) (by kernel_rfl) (by exact Blk.cells hor.1 rfl)) res_nil), _, rfl, hT, by rw [e]; exact hc⟩
 ·
  refine cw_rs fun _ κ => ?_
  refine Sm rfl rfl ?_
  refine as_q rfl rfl (q_gtT rfl rfl (by omega)) ?_
  refine Sm rfl rfl ?_
  refine as_gh rfl rfl rfl rfl (h_q rfl (q_fieldAddr (off := 0) (by kernel_rfl) rfl) ?_)
  refine as_gh rfl rfl rfl rfl (h_q rfl (q_load1 (by kernel_rfl) rfl (by exact Blk.cell hol.1 rfl)) ?_)
  refine as_gh rfl rfl rfl rfl (h_q rfl (q_nenil (by kernel_rfl) rfl) ?_)
  refine as_q rfl rfl (q_pick_t rfl rfl) ?_
  refine as_nil (κ _ _ ?_)
  refine cw_true rfl ?_
  refine cw_skip ?_
  refine hK3 _ _ ?_
  refine cw_seq fun _ hK9 => ?_
  refine cw_block ?_
  refine cw_region fun _ κ => ?_
  refine Sc 1 rfl (by kernel_rfl) rfl (by exact Blk.cells hol.1 rfl) ?_
  refine as_h rfl (h_call (by kernel_rfl) rfl ?_)
  rcases rest with _ | ⟨x, rest⟩
  ·
   have h : Value.pointer (some a) = .pointer none := hc
   cases h
  refine (ch_rest hT.sat hc).mono ?_
  rintro _ w5 ⟨q, rfl, hs5, hc⟩
  have hol:=hol.then hs5
  have hor:=hor.then hs5
  have hc:=hc.mono hs5.le
  have hT:=hT.then hs5
  have hz5 := hs5.size
  refine as_h0 (h_store hs5.sat hol rfl rfl rfl (by kernel_rfl) rfl rfl rfl fun w6 hs6 hn6 => ?_)
  have hor:=hor.step hs6 (fun h => by have h : _ = _ := h; omega)
  have hc:=hc.mono hs6.le
  clear hol; have hol := hn6; clear hn6
  have hT:=hT.own hs6 (by omega)
  have hz6 := hs6.size
  refine as_nil (κ _ _ ?_)
  refine hK9 _ _ ?_
  refine cw_region fun _ κ => ?_
  refine Sm rfl rfl ?_
  refine as_q rfl rfl (q_subx rfl rfl (by omega) (by omega)) ?_
  refine Sa rfl rfl ?_
  refine as_nil (κ _ _ ?_)
  refine ⟨_, _, ?_, (.cons rfl (.cons rfl (.cons rfl (.nil _)))), i + 1, _, rest, q, rfl, by omega, by omega, by rw [← List.drop_drop, hdr]; rfl, hc, rfl, hT, hol, hor⟩
  simp
theorem ch_each1 {w : World} {M : Mem} {vs : List (Option Addr)} {bx : Nat} {p : Option Addr} (hb : M bx = some ([.pointer p], 292)) (hc : CRep 330 M vs (.pointer p)) :
  IterOk Tryz.prog 260 [.pointer (some ⟨bx, 0, none⟩)] Nope (vs.map fun q => .pointer q) M w := by
 intro r J M0 W0 h0 _ _ hround hJ
 have hb:=h0.le _ _ hb
 have hc:=hc.mono h0.le
 refine fn_enter Tryz.func260 rfl (rs := []) rfl rfl rfl rfl ?_
 refine cw_rs fun _ κ => ?_
 refine Sf 0 rfl (by kernel_rfl) rfl ?_
 refine S1 rfl (by kernel_rfl) rfl (by exact BlkR.cell (h0.sat _ _ _ hb) rfl) ?_
 refine Sa rfl rfl ?_
 refine as_nil (κ _ _ ?_)
 refine cw_block ?_
 refine cw_loop (fun mm l w1 => ∃ (i : Nat) (rest : List (Option Addr)) (p1 : Option Addr) (M1 : Mem), mm = rest.length ∧ vs.drop i = rest ∧ i + rest.length = vs.length ∧ CRep 330 M1 rest (.pointer p1) ∧ l = [(0, .func (.yield r) #[] #[]), (1, .pointer (some ⟨bx, 0, none⟩)), (3, .pointer p1)] ∧ Le M0 M1 ∧ Sat M1 w1 ∧ J i M1 w1) (vs.length) [(0, .func (.yield r) #[] #[]), (1, .pointer (some ⟨bx, 0, none⟩)), (3, .pointer p)] (.cons rfl (.cons rfl (.cons rfl (.nil _)))) ?_ ?_
 ·
  exact ⟨0, vs, p, M0, rfl, rfl, by omega, hc, rfl, Le.refl _, h0.sat, hJ⟩
 clear hc hJ
 rintro mm l w1 ⟨i, rest, p1, M1, rfl, hdr, hi, hc, rfl, hle, hst, hJ⟩
 refine cw_seq fun _ hK2 => ?_
 refine cw_rs fun _ κ => ?_
 refine Sm rfl rfl ?_
 refine as_q rfl rfl (q_nenil (by kernel_rfl) rfl) ?_
 refine as_nil (κ _ _ ?_)
 refine cw_cond rfl (fun hc0 => ?_) (fun hc0 => ?_)
 ·
  rcases rest with _ | ⟨x, rest⟩
  ·
   have h : Value.pointer p1 = .pointer none := hc
   cases h; cases hc0
  obtain ⟨b, q, hpb, hb1, hc⟩ := hc
  cases hpb
  have hx : vs[i]? = some x := by rw [← List.head?_drop, hdr]; rfl
  refine cw_skip ?_
  refine hK2 _ _ ?_
  refine cw_seq fun _ hK4 => ?_
  refine cw_block ?_
  refine cw_rs fun _ κ => ?_
  refine Sm rfl rfl ?_
  refine Sm rfl rfl ?_
  refine as_q rfl rfl (q_nilp rfl) ?_
  refine Sf 0 rfl (by kernel_rfl) rfl ?_
  refine S1 rfl (by kernel_rfl) rfl (by exact BlkR.cell (hst _ _ _ hb1) rfl) ?_
  refine as_h rfl (h_yield rfl rfl ?_)
  obtain ⟨fn_, tm_, as_, bo_, hy1, hy2⟩ := hround i (.pointer x) M1 w1 (by show (vs.map _)[i]? = _; rw [List.getElem?_map, hx]; rfl) hJ hst hle
  refine ⟨fn_, tm_, as_, bo_, hy1, RoundIn.mono hy2 fun e w1 he => ?_⟩
  cases e <;> try exact (he : False).elim
  obtain ⟨rfl, M2, hs1, hJ2⟩ := he
  have hb1:=hs1.le _ _ hb1
  have hc:=hc.mono hs1.le
  refine as_q rfl rfl (q_not rfl) ?_
  refine as_nil (κ _ _ ?_)
  refine cw_false rfl ?_
  refine cw_skip ?_
  refine hK4 _ _ ?_
  refine cw_region fun _ κ => ?_
  refine Sm rfl rfl ?_
  refine as_q rfl rfl (q_nilp rfl) ?_
  refine Sf 1 rfl (by kernel_rfl) rfl ?_
  refine S1 rfl (by kernel_rfl) rfl (by exact BlkR.cell (hs1.sat _ _ _ hb1) rfl) ?_
  refine Sa rfl rfl ?_
  refine as_nil (κ _ _ ?_)
  refine ⟨_, _, ?_, (.cons rfl (.cons rfl (.cons rfl (.nil _)))), i + 1, rest, q, _, rfl, by rw [← List.drop_drop, hdr]; rfl, by simp only [List.length_cons] at hi ⊢; omega, hc, rfl, hle.trans hs1.le, hs1.sat, hJ2⟩
  simp
 ·
  have hrn : rest = [] := by
   rcases rest with _ | ⟨x, rest⟩
   · rfl
   ·
    obtain ⟨b, q, h, _⟩ := hc
    cases h; cases hc0
  subst hrn
  refine cw_exit ?_
  have e : i = vs.length := by simpa using hi
  exact ⟨_, res_nil, M1, hst, hle, by rw [List.length_map, ← e]; exact hJ⟩
theorem ch_each {w : World} {M : Mem} {p : Option Addr} (hs : Sat M w) :
  Does Tryz.prog 254 #[.agg #[.pointer p]] w (fun v w' => ∃ bx M', v = .func (.func 260) #[] #[.pointer (some ⟨bx, 0, none⟩)] ∧ Step Nope M w M' w' ∧ M' bx = some ([.pointer p], 292)) := by
 have hT := Step.refl Nope hs
 refine fn_enter Tryz.func254 rfl (rs := [.tmp 2]) rfl rfl rfl rfl ?_
 refine cw_rs fun _ κ => ?_
 refine as_h rfl (h_boxM hs rfl rfl fun b1 M1 w1 hs1 hb1 e1 => ?_)
 have hT:=hT.then hs1
 refine Sa rfl rfl ?_
 refine as_nil (κ _ _ ?_)
 refine cw_rs fun _ κ => ?_
 refine as_q rfl rfl (q_func rfl rfl) ?_
 refine Sa rfl rfl ?_
 refine as_nil (κ _ _ ?_)
 refine cw_ret ?_
 exact ⟨_, (res_tmp rfl res_nil), _, _, rfl, hT, hb1⟩
theorem ch_all {w : World} {M : Mem} {vs : List (Option Addr)} {p : Value} (hs : Sat M w) (h : CRep 330 M vs p) (hz : vs.length ≤ 1000000000) :
  Does Tryz.prog 238 #[.agg #[p]] w (fun v w' => ∃ M', Step Nope M w M' w' ∧ Buf w' M' 311 1 v vs.length (ptrs vs) ∧ ∀ g, v.ownBlock = some g → w.heap.size ≤ g) := by
 have hT := Step.refl Nope hs
 obtain ⟨p, rfl⟩ := h.ptr
 refine fn_enterM (K' := fun v w' => ∃ M', Step Nope M w M' w' ∧ Buf w' M' 311 1 v vs.length (ptrs vs) ∧ ∀ g, v.ownBlock = some g → w.heap.size ≤ g) Tryz.func238 rfl (rs := [.tmp 2]) rfl rfl rfl rfl ?_ (fun _ _ _ _ _ _ h => resT rfl h) ?_
 ·
  refine cm_seq fun K0a hK0a => cw_region fun K0b hK0b => ?_
  refine as_h rfl (h_boxM hs rfl rfl fun b1 M1 w1 hs1 hb1 e1 => ?_)
  have h:=h.mono hs1.le
  have hT:=hT.then hs1
  have hz1 := hs1.size
  refine Sa rfl rfl ?_
  refine as_nil (hK0b _ _ (hK0a _ _ ?_))
  clear hK0b hK0a K0b K0a
  refine cm_seq fun K1a hK1a => cw_region fun K1b hK1b => ?_
  have hqao := hT.size
  refine as_h rfl (h_allocO (z := (.slice none 0 0)) hs1.sat (by kernel_rfl) rfl fun bo w2 hs2 hoo eo => ?_)
  have h:=h.mono hs2.le
  have hb1:=hs2.le _ _ hb1
  have hT:=hT.then hs2
  have hz2 := hs2.size
  have hlo := hoo.1.lt
  refine as_nil (hK1b _ _ (hK1a _ _ ?_))
  clear hK1b hK1a K1b K1a
  refine cm_seqM ?_
  refine cm_seq fun K2a hK2a => cw_region fun K2b hK2b => ?_
  refine Sc 1 rfl (by kernel_rfl) rfl (by exact BlkR.cells (hs2.sat _ _ _ hb1) rfl) ?_
  refine as_h rfl (h_call (by kernel_rfl) rfl ?_)
  refine (ch_each hs2.sat).mono ?_
  rintro _ w3 ⟨bx, Mx, rfl, hs3, hbx⟩
  have h:=h.mono hs3.le
  have hoo:=hoo.then hs3
  have hT:=hT.then hs3
  have hz3 := hs3.size
  refine as_nil (hK2b _ _ (hK2a _ _ ?_))
  clear hK2b hK2a K2b K2a
  have hTs := hT.size
  have hbo := hoo.1.lt
  have hboo : w.heap.size ≤ bo := by omega
  refine cm_block ?_
  refine cm_rangeC (M := Mx) (S := Nope) (vs := vs.map fun q => .pointer q) (lb := [.pointer (some ⟨bx, 0, none⟩)]) (gf := 260) rfl rfl rfl (by kernel_rfl) rfl hs3.sat hTs (ch_each1 hbx h) (fun _ h => h.elim) (fun i M' W' => ∃ sv, Own W' M' bo [sv] 319 ∧ Buf W' M' 311 1 sv i (ptrs (vs.take i)) ∧ Step Nope M w M' W' ∧ ∀ g, sv.ownBlock = some g → w.heap.size ≤ g ∧ g ≠ bo ∧ g ≠ w3.heap.size ∧ g ≠ w3.heap.size + 1) (fun i v la M' W' => la = [(3, .pointer (some ⟨bo, 0, none⟩)), (4, v)] ∧ ∃ sv, Own W' M' bo [sv] 319 ∧ Buf W' M' 311 1 sv i (ptrs (vs.take i)) ∧ Step Nope M w M' W' ∧ ∀ g, sv.ownBlock = some g → w.heap.size ≤ g ∧ g ≠ bo ∧ g ≠ w3.heap.size ∧ g ≠ w3.heap.size + 1) ?_ ?_ ?_ ?_ ?_ ?_
  ·
   rintro i M' W' M'' W'' ⟨sv, h1, h2, h3, h4⟩ k
   refine ⟨sv, h1.step k (by rintro (h | h | h); exact h; all_goals omega), h2.step k (fun g hg => by rintro (h | h | h); exact h; exact (h4 g hg).2.2.1 h; exact (h4 g hg).2.2.2 h), h3.trans k (fun b hb => by rintro (h | h | h); exact h; all_goals omega), h4⟩
  · exact ⟨_, hoo, by rw [List.take_zero]; exact Buf.nil _ _ _ _, hT, fun g hg => by cases hg⟩
  ·
   rintro i v la M' W' M'' W'' ⟨rfl, sv, h1, h2, h3, h4⟩ k
   refine ⟨rfl, ?_⟩
   refine ⟨sv, h1.step k (by rintro (h | h | h); exact h; all_goals omega), h2.step k (fun g hg => by rintro (h | h | h); exact h; exact (h4 g hg).2.2.1 h; exact (h4 g hg).2.2.2 h), h3.trans k (fun b hb => by rintro (h | h | h); exact h; all_goals omega), h4⟩
  ·
   rintro i v r M' W' hv ⟨sv, h1, h2, h3, h4⟩ hs' hle hlt
   refine cw_region fun _ κ => ?_
   refine Sa rfl rfl ?_
   refine as_nil (κ _ _ ⟨_, M', .cons rfl (.cons rfl (.nil _)), Step.refl _ hs', rfl, sv, h1, h2, h3, h4⟩)
  ·
   rintro i v la r M' W' hv ⟨rfl, sv, h1, h2, h3, h4⟩ hs' hle hlt
   obtain ⟨x, hx, hxv⟩ : ∃ x, vs[i]? = some x ∧ .pointer x = v := by
    rw [List.getElem?_map] at hv
    exact Option.map_eq_some_iff.1 hv
   have h1l := h1.1.lt
   have h2l := h2.lt
   have hin : i < vs.length := (List.getElem?_eq_some_iff.1 hx).1
   subst hxv
   refine cw_block (cw_region fun K4 hK4 => ?_)
   refine S1 rfl (by kernel_rfl) rfl (by exact Blk.cell h1.1 rfl) ?_
   refine Sm rfl rfl ?_
   refine as_h rfl (h_buildO (e := 311) (size := 1) (zs := [.pointer none]) (cs := [_]) (by kernel_rfl) (by kernel_rfl) (by kernel_rfl) rfl hs' rfl rfl fun b4 w4 hs4 ho4 e4 => ?_)
   have hsB := hs4
   have h1:=h1.then hs4
   have hz4 := hs4.size
   have hrx := Buf.rd (Own.buf ho4 (n := 1) (size := 1) rfl (by decide))
   have h2b := h2.then hsB
   refine as_h rfl (h_append (e := 311) (size := 1) (bytes := 8) (by kernel_rfl) hs4.sat h2b hrx rfl rfl (fun y hy => by obtain rfl := List.mem_singleton.1 hy; rfl) (by omega) rfl fun sv2 w5 hs5 h2c hor => ?_)
   have hsv : ∃ a k c, sv2 = .slice a k c := by obtain ⟨a, c, h, _⟩ := h2c.slice; exact ⟨a, _, c, h⟩
   have h1:=h1.step hs5 (fun h => (h4 _ h).2.1 rfl)
   obtain ⟨sa, sk, sc, rfl⟩ := hsv
   refine as_h0 (h_store hs5.sat h1 rfl rfl rfl (by kernel_rfl) rfl rfl rfl fun w6 hs6 h1n => ?_)
   have hzb := hs4.size
   have hza := hs5.size
   have hownf : ∀ g, (Value.slice sa sk sc).ownBlock = some g → w.heap.size ≤ g ∧ g ≠ bo ∧ g ≠ w3.heap.size ∧ g ≠ w3.heap.size + 1 := fun g hg => by
    rcases hor with h | h
    · rw [h] at hg; exact h4 g hg
    · rw [h] at hg; have hg := Option.some.inj hg; omega
   have k1 : Step (fun k => ¬ Nope k ∧ k ≠ w3.heap.size ∧ k ≠ w3.heap.size + 1) M' w4 M' w5 := hs5.wide fun k _ h => ⟨id, (h4 k h).2.2.1, (h4 k h).2.2.2⟩
   have k2 : Step (fun k => ¬ Nope k ∧ k ≠ w3.heap.size ∧ k ≠ w3.heap.size + 1) M' w5 M' w6 := hs6.wide fun k _ h => by have h : k = bo := h; exact ⟨id, by omega, by omega⟩
   refine as_nil (hK4 _ _ ⟨M', ((hs4.any _).also k1).also k2, _, h1n, ?_, ?_, hownf⟩)
   ·
    have h5 := h2c.step hs6 (fun g hg h => (hownf g hg).2.1 h)
    rw [ptrs_take hx] at h5
    exact h5
   · exact ((h3.also hs4).trans hs5 (fun k hk h => by have := (h4 k h).1; omega)).trans hs6 (fun k hk h => by have h : k = bo := h; omega)
  ·
   rintro M' W' hs' hle ⟨sv, h1, h2, h3, h4⟩ D hD hDd
   refine cw_rs fun _ κ => ?_
   refine S1 rfl (by kernel_rfl) rfl (by exact Blk.cell h1.1 rfl) ?_
   refine Sa rfl rfl ?_
   refine as_nil (κ _ _ ?_)
   refine cw_ret ⟨hDd, _, res_tmp rfl res_nil, M', h3, ?_, fun g hg => (h4 g hg).1⟩
   rw [List.length_map] at h2
   rw [List.take_length] at h2
   exact h2
 ·
  rintro v w' D hB hD ⟨M', h1, h2, h3⟩
  have k := Step.putObj h1.sat hD (by simp) (.deferred none)
  refine ⟨M', h1.trans k (fun b hb h => by have h : b = D := h; omega), h2.step k (fun g hg h => ?_), h3⟩
  have h : g = D := h
  subst h
  obtain ⟨⟨_, hh⟩, _⟩ := h2
  rcases hh with ⟨rfl, _⟩ | ⟨g2, cap, cur, rfl, _, hh, _⟩
  · cases hg
  · cases hg; rw [hD] at hh; cases hh
end Go.Proofs.YtgcgjpfjjgalmaaGreat
/- Lists of trees of elements, part 1. -/
namespace Go.Proofs.YtgcgjpfjjgalmaaGreat
open Go Go.Eng
theorem ce_len_n {w : World} {M : Mem} (hs : Sat M w) :
  Does Tryz.prog 110 #[.agg #[.pointer none]] w (fun v w' => v = .int .i64 0 ∧ Step Nope M w M w') := by
 have hT := Step.refl Nope hs
 refine fn_enter Tryz.func110 rfl (rs := [.tmp 2]) rfl rfl rfl rfl ?_
 refine cw_rs fun _ κ => ?_
 refine as_h rfl (h_boxM hs rfl rfl fun b1 M1 w1 hs1 hb1 e1 => ?_)
 have hT:=hT.then hs1
 refine Sa rfl rfl ?_
 refine as_nil (κ _ _ ?_)
 refine cw_seq fun _ hK2 => ?_
 refine cw_rs fun _ κ => ?_
 refine Sf 0 rfl (by kernel_rfl) rfl ?_
 refine S1 rfl (by kernel_rfl) rfl (by exact BlkR.cell (hs1.sat _ _ _ hb1) rfl) ?_
 refine as_q rfl rfl (q_eqnil (by kernel_rfl) rfl) ?_
 refine as_nil (κ _ _ ?_)
 refine cw_true rfl ?_
 refine cw_rs fun _ κ => ?_
 refine Sa rfl rfl ?_
 refine as_nil (κ _ _ ?_)
 refine cw_ret ?_
 exact ⟨_, (res_tmp rfl res_nil), rfl, hT.forget⟩
theorem ce_len_c {w : World} {M : Mem} {x : Option Addr} {r : List (Option Addr)} {p : Value} (hs : Sat M w) (h : CRep 197 M (x :: r) p) :
  Does Tryz.prog 110 #[.agg #[p]] w (fun v w' => v = .int .i64 ((r.length : Int) + 1) ∧ Step Nope M w M w') := by
 have hT := Step.refl Nope hs
 obtain ⟨b, q, rfl, hb, hc⟩ := h
 refine fn_enter Tryz.func110 rfl (rs := [.tmp 2]) rfl rfl rfl rfl ?_
 refine cw_rs fun _ κ => ?_
 refine as_h rfl (h_boxM hs rfl rfl fun b1 M1 w1 hs1 hb1 e1 => ?_)
 have hb:=hs1.le _ _ hb
 have hT:=hT.then hs1
 refine Sa rfl rfl ?_
 refine as_nil (κ _ _ ?_)
 refine cw_seq fun _ hK2 => ?_
 refine cw_rs fun _ κ => ?_
 refine Sf 0 rfl (by kernel_rfl) rfl ?_
 refine S1 rfl (by kernel_rfl) rfl (by exact BlkR.cell (hs1.sat _ _ _ hb1) rfl) ?_
 refine as_q rfl rfl (q_eqnil (by kernel_rfl) rfl) ?_
 refine as_nil (κ _ _ ?_)
 refine cw_false rfl ?_
 refine cw_skip ?_
 refine hK2 _ _ ?_
 refine cw_rs fun _ κ => ?_
 refine Sf 0 rfl (by kernel_rfl) rfl ?_
 refine S1 rfl (by kernel_rfl) rfl (by exact BlkR.cell (hs1.sat _ _ _ hb1) rfl) ?_
 refine as_q rfl rfl (q_nilp rfl) ?_
 refine Sf 2 rfl (by kernel_rfl) rfl ?_
 refine S1 rfl (by kernel_rfl) rfl (by exact BlkR.cell (hs1.sat _ _ _ hb) rfl) ?_
 refine Sa rfl rfl ?_
 refine as_nil (κ _ _ ?_)
 refine cw_ret ?_
 exact ⟨_, (res_tmp rfl res_nil), rfl, hT.forget⟩
theorem ce_len {w : World} {M : Mem} {vs : List (Option Addr)} {p : Value} (hs : Sat M w) (h : CRep 197 M vs p) : Does Tryz.prog 110 #[.agg #[p]] w (fun v w' => v = .int .i64 (vs.length : Nat) ∧ Step Nope M w M w') := by
 cases vs with
 | nil => cases h; exact ce_len_n hs
 | cons x r => exact (ce_len_c hs h).mono fun v w' ⟨h1, h2⟩ => ⟨by rw [h1]; simp, h2⟩
theorem ce_first_n {w : World} {M : Mem} (hs : Sat M w) :
  Does Tryz.prog 130 #[.agg #[.pointer none]] w (fun v w' => v = .tuple #[.pointer none, .bool false] ∧ Step Nope M w M w') := by
 have hT := Step.refl Nope hs
 refine fn_enter Tryz.func130 rfl (rs := [.tmp 2, .tmp 3]) rfl rfl rfl rfl ?_
 refine cw_rs fun _ κ => ?_
 refine as_h rfl (h_boxM hs rfl rfl fun b1 M1 w1 hs1 hb1 e1 => ?_)
 have hT:=hT.then hs1
 refine Sa rfl rfl ?_
 refine Sa rfl rfl ?_
 refine as_nil (κ _ _ ?_)
 refine cw_seq fun _ hK2 => ?_
 refine cw_rs fun _ κ => ?_
 refine Sf 0 rfl (by kernel_rfl) rfl ?_
 refine S1 rfl (by kernel_rfl) rfl (by exact BlkR.cell (hs1.sat _ _ _ hb1) rfl) ?_
 refine as_q rfl rfl (q_eqnil (by kernel_rfl) rfl) ?_
 refine as_nil (κ _ _ ?_)
 refine cw_true rfl ?_
 refine cw_rs fun _ κ => ?_
 refine Sa rfl rfl ?_
 refine as_nil (κ _ _ ?_)
 refine cw_rs fun _ κ => ?_
 refine Sm rfl rfl ?_
 refine Sa rfl rfl ?_
 refine Sa rfl rfl ?_
 refine as_nil (κ _ _ ?_)
 refine cw_ret ?_
 exact ⟨_, (res_tmp rfl (res_tmp rfl res_nil)), rfl, hT.forget⟩
theorem ce_first {w : World} {M : Mem} {x : Option Addr} {r : List (Option Addr)} {p : Value} (hs : Sat M w) (h : CRep 197 M (x :: r) p) :
  Does Tryz.prog 130 #[.agg #[p]] w (fun v w' => v = .tuple #[.pointer x, .bool true] ∧ Step Nope M w M w') := by
 have hT := Step.refl Nope hs
 obtain ⟨b, q, rfl, hb, hc⟩ := h
 refine fn_enter Tryz.func130 rfl (rs := [.tmp 2, .tmp 3]) rfl rfl rfl rfl ?_
 refine cw_rs fun _ κ => ?_
 refine as_h rfl (h_boxM hs rfl rfl fun b1 M1 w1 hs1 hb1 e1 => ?_)
 have hb:=hs1.le _ _ hb
 have hT:=hT.then hs1
 refine Sa rfl rfl ?_
 refine Sa rfl rfl ?_
 refine as_nil (κ _ _ ?_)
 refine cw_seq fun _ hK2 => ?_
 refine cw_rs fun _ κ => ?_
 refine Sf 0 rfl (by kernel_rfl) rfl ?_
 refine S1 rfl (by kernel_rfl) rfl (by exact BlkR.cell (hs1.sat _ _ _ hb1) rfl) ?_
 refine as_q rfl rfl (q_eqnil (by kernel_rfl) rfl) ?_
 refine as_nil (κ _ _ ?_)
 refine cw_false rfl ?_
 refine cw_skip ?_
 refine hK2 _ _ ?_
 refine cw_rs fun _ κ => ?_
 refine Sf 0 rfl (by kernel_rfl) rfl ?_
 refine S1 rfl (by kernel_rfl) rfl (by exact BlkR.cell (hs1.sat _ _ _ hb1) rfl) ?_
 refine as_q rfl rfl (q_nilp rfl) ?_
 refine Sf 0 rfl (by kernel_rfl) rfl ?_
 refine S1 rfl (by kernel_rfl) rfl (by exact BlkR.cell (hs1.sat _ _ _ hb) rfl) ?_
 refine Sa rfl rfl ?_
 refine Sa rfl rfl ?_
 refine as_nil (κ _ _ ?_)
 refine cw_ret ?_
 exact ⟨_, (res_tmp rfl (res_tmp rfl res_nil)), rfl, hT.forget⟩
theorem ce_rest_n {w : World} {M : Mem} (hs : Sat M w) :
  Does Tryz.prog 133 #[.agg #[.pointer none]] w (fun v w' => v = .agg #[.pointer none] ∧ Step Nope M w M w') := by
 have hT := Step.refl Nope hs
 refine fn_enter Tryz.func133 rfl (rs := [.cell 2 72]) rfl rfl rfl rfl ?_
 refine cw_rs fun _ κ => ?_
 refine as_h rfl (h_boxM hs rfl rfl fun b1 M1 w1 hs1 hb1 e1 => ?_)
 have hT:=hT.then hs1
 have hz1 := hs1.size
 have hqar := hT.size
 refine as_h rfl (h_allocO (z := (.agg #[(.pointer none)])) hs1.sat (by kernel_rfl) rfl fun br w2 hs2 hor er => ?_)
 have hb1:=hs2.le _ _ hb1
 have hT:=hT.then hs2
 have hz2 := hs2.size
 have hlr := hor.1.lt
 refine as_nil (κ _ _ ?_)
 refine cw_seq fun _ hK2 => ?_
 refine cw_rs fun _ κ => ?_
 refine Sf 0 rfl (by kernel_rfl) rfl ?_
 refine S1 rfl (by kernel_rfl) rfl (by exact BlkR.cell (hs2.sat _ _ _ hb1) rfl) ?_
 refine as_q rfl rfl (q_eqnil (by kernel_rfl) rfl) ?_
 refine as_nil (κ _ _ ?_)
 refine cw_true rfl ?_
 refine cw_rs fun _ κ => ?_
 refine Sc 1 rfl (by kernel_rfl) rfl (by exact BlkR.cells (hs2.sat _ _ _ hb1) rfl) ?_
 refine as_h0 (h_store hs2.sat hor rfl rfl rfl (by kernel_rfl) rfl rfl rfl fun w3 hs3 hn3 => ?_)
 clear hor; have hor := hn3; clear hn3
 have hT:=hT.own hs3 (by omega)
 have hz3 := hs3.size
 refine as_nil (κ _ _ ?_)
 refine cw_ret ?_
 exact ⟨_, (res_cell rfl (loadVar_n (n := 1) (by kernel_rfl) (by exact Blk.cells hor.1 rfl)) res_nil), rfl, hT.forget⟩
theorem ce_rest {w : World} {M : Mem} {x : Option Addr} {r : List (Option Addr)} {p : Value} (hs : Sat M w) (h : CRep 197 M (x :: r) p) :
  Does Tryz.prog 133 #[.agg #[p]] w (fun v w' => ∃ q, v = .agg #[.pointer q] ∧ Step Nope M w M w' ∧ CRep 197 M r (.pointer q)) := by
 have hT := Step.refl Nope hs
 obtain ⟨b, q, rfl, hb, hc⟩ := h
 have hc0 := hc
 refine fn_enter Tryz.func133 rfl (rs := [.cell 2 72]) rfl rfl rfl rfl ?_
 refine cw_rs fun _ κ => ?_
 refine as_h rfl (h_boxM hs rfl rfl fun b1 M1 w1 hs1 hb1 e1 => ?_)
 have hb:=hs1.le _ _ hb
 have hT:=hT.then hs1
 have hz1 := hs1.size
 have hqar := hT.size
 refine as_h rfl (h_allocO (z := (.agg #[(.pointer none)])) hs1.sat (by kernel_rfl) rfl fun br w2 hs2 hor er => ?_)
 have hb:=hs2.le _ _ hb
 have hb1:=hs2.le _ _ hb1
 have hT:=hT.then hs2
 have hz2 := hs2.size
 have hlr := hor.1.lt
 refine as_nil (κ _ _ ?_)
 refine cw_seq fun _ hK2 => ?_
 refine cw_rs fun _ κ => ?_
 refine Sf 0 rfl (by kernel_rfl) rfl ?_
 refine S1 rfl (by kernel_rfl) rfl (by exact BlkR.cell (hs2.sat _ _ _ hb1) rfl) ?_
 refine as_q rfl rfl (q_eqnil (by kernel_rfl) rfl) ?_
 refine as_nil (κ _ _ ?_)
 refine cw_false rfl ?_
 refine cw_skip ?_
 refine hK2 _ _ ?_
 refine cw_rs fun _ κ => ?_
 refine Sf 0 rfl (by kernel_rfl) rfl ?_
 refine S1 rfl (by kernel_rfl) rfl (by exact BlkR.cell (hs2.sat _ _ _ hb1) rfl) ?_
 refine as_q rfl rfl (q_nilp rfl) ?_
 refine Sf 1 rfl (by kernel_rfl) rfl ?_
 refine S1 rfl (by kernel_rfl) rfl (by exact BlkR.cell (hs2.sat _ _ _ hb) rfl) ?_
 refine as_q rfl rfl (q_build (zs := [(.pointer none)]) (places := [(0, 1)]) (cs := [_]) (by kernel_rfl) (by kernel_rfl) rfl rfl) ?_
 refine as_h0 (h_store hs2.sat hor rfl rfl rfl (by kernel_rfl) rfl rfl rfl fun w3 hs3 hn3 => ?_)
 clear hor; have hor := hn3; clear hn3
 have hT:=hT.own hs3 (by omega)
 have hz3 := hs3.size
 refine as_nil (κ _ _ ?_)
 refine cw_ret ?_
 exact ⟨_, (res_cell rfl (loadVar_n (n := 1) (by kernel_rfl) (by exact Blk.cells hor.1 rfl)) res_nil), q, rfl, hT.forget, hc0⟩
theorem ce_push {w : World} {M : Mem} {x : Option Addr} {vs : List (Option Addr)} {p : Value} (hs : Sat M w) (h : CRep 197 M vs p) (hz : vs.length ≤ 1000000000) :
  Does Tryz.prog 134 #[.agg #[p], .pointer x] w (fun v w' => ∃ q M', v = .agg #[.pointer q] ∧ Step Nope M w M' w' ∧ CRep 197 M' (x :: vs) (.pointer q)) := by
 have hT := Step.refl Nope hs
 obtain ⟨q, rfl⟩ := h.ptr
 refine fn_enter Tryz.func134 rfl (rs := [.cell 4 72]) rfl rfl rfl rfl ?_
 refine cw_rs fun _ κ => ?_
 refine as_h rfl (h_boxM hs rfl rfl fun b1 M1 w1 hs1 hb1 e1 => ?_)
 have h:=h.mono hs1.le
 have hT:=hT.then hs1
 have hz1 := hs1.size
 have hqar := hT.size
 refine as_h rfl (h_allocO (z := (.agg #[(.pointer none)])) hs1.sat (by kernel_rfl) rfl fun br w2 hs2 hor er => ?_)
 have h:=h.mono hs2.le
 have hb1:=hs2.le _ _ hb1
 have hT:=hT.then hs2
 have hz2 := hs2.size
 have hlr := hor.1.lt
 refine as_nil (κ _ _ ?_)
 refine cw_dr (by kernel_rfl) fun _ κ => ?_
 have hs3 := Step.drew hs2.sat
 have hz3 := hs3.size
 have h:=h.mono hs3.le
 have hb1:=hs3.le _ _ hb1
 have hor:=hor.then hs3
 have hT:=hT.then hs3
 refine Dm 0 1 rfl (by kernel_rfl) rfl ?_
 refine Df 1 3 0 rfl (by kernel_rfl) (by kernel_rfl) rfl ?_
 refine Dl1 2 7 rfl (by kernel_rfl) (by kernel_rfl) rfl (by exact BlkR.cell (hs3.sat _ _ _ hb1) rfl) ?_
 refine Dlc 3 15 1 rfl (by kernel_rfl) (by kernel_rfl) rfl (by exact BlkR.cells (hs3.sat _ _ _ hb1) rfl) ?_
 refine Dh 4 31 rfl (by kernel_rfl) (keep_sift (bs := [T,F]) (by kernel_rfl)) (h_call (by kernel_rfl) rfl ?_)
 refine (ce_len hs3.sat h).mono ?_
 rintro _ w4 ⟨rfl, hs4⟩
 have h:=h.mono hs4.le
 have hb1:=hs4.le _ _ hb1
 have hor:=hor.then hs4
 have hT:=hT.then hs4
 have hz4 := hs4.size
 refine ⟨(by repeat' first | exact trivial | exact BlkR.cell (hs4.sat _ _ _ hb1) rfl | exact BlkR.cells (hs4.sat _ _ _ hb1) rfl | exact Blk.cell hor.1 rfl | exact Blk.cells hor.1 rfl | assumption | refine all_keep ?_ | refine And.intro ?_ ?_), ?_⟩
 refine Dq 5 63 rfl (by kernel_rfl) (fun _ => (q_addx rfl rfl (by omega) (by omega))) ?_
 refine Dq 6 127 rfl (by kernel_rfl) (fun _ => (q_build (zs := [(.pointer none), (.pointer none), (.int .i64 0)]) (places := [(0, 1), (1, 1), (2, 1)]) (cs := [_, _, _]) (by kernel_rfl) (by kernel_rfl) rfl rfl)) ?_
 refine Dh 7 255 rfl (by kernel_rfl) (keep_sift (bs := [F]) (by kernel_rfl)) (h_boxM hs4.sat rfl rfl fun b5 M5 w5 hs5 hb5 e5 => ?_)
 have h:=h.mono hs5.le
 have hb1:=hs5.le _ _ hb1
 have hor:=hor.then hs5
 have hT:=hT.then hs5
 have hz5 := hs5.size
 refine ⟨(by repeat' first | exact trivial | exact BlkR.cell (hs5.sat _ _ _ hb1) rfl | exact BlkR.cells (hs5.sat _ _ _ hb1) rfl | exact Blk.cell hor.1 rfl | exact Blk.cells hor.1 rfl | exact BlkR.cell (hs5.sat _ _ _ hb5) rfl | exact BlkR.cells (hs5.sat _ _ _ hb5) rfl | assumption | refine all_keep ?_ | refine And.intro ?_ ?_), ?_⟩
 refine Dq 8 511 rfl (by kernel_rfl) (fun _ => (q_build (zs := [(.pointer none)]) (places := [(0, 1)]) (cs := [_]) (by kernel_rfl) (by kernel_rfl) rfl rfl)) ?_
 refine Dh0 9 1023 rfl (by kernel_rfl) (keep_sift (bs := [T]) (by kernel_rfl)) (h_store hs5.sat hor rfl rfl rfl (by kernel_rfl) rfl rfl rfl fun w6 hs6 hn6 => ?_)
 have h:=h.mono hs6.le
 have hb5:=hs6.le _ _ hb5
 clear hor; have hor := hn6; clear hn6
 have hT:=hT.own hs6 (by omega)
 have hz6 := hs6.size
 refine ⟨trivial, ?_⟩
 refine Dd (by kernel_rfl) (κ _ _ ?_)
 refine cw_ret ?_
 exact ⟨_, (res_cell rfl (loadVar_n (n := 1) (by kernel_rfl) (by exact Blk.cells hor.1 rfl)) res_nil), _, _, rfl, hT, _, _, rfl, hb5, h⟩
theorem ce_drop {w : World} {M : Mem} {vs : List (Option Addr)} {q : Option Addr} {n : Nat} (hs : Sat M w) (h : CRep 197 M vs (.pointer q)) (hn : n ≤ 1000000000) :
  Does Tryz.prog 188 #[.agg #[.pointer q], .int .i64 n] w (fun v w' => ∃ q, v = .agg #[.pointer q] ∧ Step Nope M w M w' ∧ CRep 197 M (vs.drop n) (.pointer q)) := by
 have hT := Step.refl Nope hs
 have hzn : (0:Int) ≤ n := Int.natCast_nonneg n
 refine fn_enter Tryz.func188 rfl (rs := [.cell 4 72]) rfl rfl rfl rfl ?_
 refine cw_rs fun _ κ => ?_
 have hqal := hT.size
 refine as_h rfl (h_boxO hs rfl rfl fun bl w1 hs1 hol el => ?_)
 have hT:=hT.then hs1
 have hz1 := hs1.size
 have hll := hol.1.lt
 have hqar := hT.size
 refine as_h rfl (h_allocO (z := (.agg #[(.pointer none)])) hs1.sat (by kernel_rfl) rfl fun br w2 hs2 hor er => ?_)
 have hol:=hol.then hs2
 have hT:=hT.then hs2
 have hz2 := hs2.size
 have hlr := hor.1.lt
 refine as_nil (κ _ _ ?_)
 refine cw_seq fun _ hK2 => ?_
 refine cw_block ?_
 refine cw_loop (fun mm l w1 => ∃ (i : Nat) (z : Int) (rest : List (Option Addr)) (p1 : Option Addr), mm = rest.length ∧ z = n - i ∧ 0 ≤ z ∧ vs.drop i = rest ∧ CRep 197 M rest (.pointer p1) ∧ l = [(2, .pointer (some ⟨bl, 0, none⟩)), (4, .pointer (some ⟨br, 0, none⟩)), (1, .int .i64 z)] ∧ Step Nope M w M w1 ∧ Own w1 M bl [.pointer p1] 72 ∧ Own w1 M br [.pointer none] 72) (vs.length) [(2, .pointer (some ⟨bl, 0, none⟩)), (4, .pointer (some ⟨br, 0, none⟩)), (1, .int .i64 (n : Int))] (.cons rfl (.cons rfl (.cons rfl (.nil _)))) ?_ ?_
 ·
  exact ⟨0, n, vs, q, rfl, by simp, by omega, rfl, h, rfl, hT, hol, hor⟩
 have hblw : w.heap.size ≤ bl := by omega
 have hbrw : w.heap.size ≤ br ∧ bl ≠ br := by omega
 clear hT hol hor
 rintro mm l w1 ⟨i, z, rest, p1, rfl, hz, hz0, hdr, hc, rfl, hT, hol, hor⟩
 refine cw_seq fun _ hK3 => ?_
 have hcs : (z = 0) ∨ (0 < z ∧ p1 = none) ∨ (0 < z ∧ ∃ a, p1 = some a) := by
  rcases p1 with _ | a
  ·
   rcases Int.lt_or_le 0 z with h | h
   · exact .inr (.inl ⟨h, rfl⟩)
   · left; omega
  ·
   rcases Int.lt_or_le 0 z with h | h
   · exact .inr (.inr ⟨h, a, rfl⟩)
   · left; omega
 rcases hcs with h0 | ⟨h0, rfl⟩ | ⟨h0, a, rfl⟩
 ·
  refine cw_rs fun _ κ => ?_
  refine Sm rfl rfl ?_
  refine as_q rfl rfl (q_gtF rfl rfl (by omega)) ?_
  refine Sm rfl rfl ?_
  refine as_gskip rfl rfl rfl rfl rfl ?_
  refine as_gskip rfl rfl rfl rfl rfl ?_
  refine as_gskip rfl rfl rfl rfl rfl ?_
  refine as_q rfl rfl (q_pick_f rfl rfl) ?_
  refine as_nil (κ _ _ ?_)
  refine cw_false rfl ?_
  refine cw_exit ?_
  refine hK2 _ _ ?_
  refine cw_rs fun _ κ => ?_
  refine Sc 1 rfl (by kernel_rfl) rfl (by exact Blk.cells hol.1 rfl) ?_
  refine as_h0 (h_store hT.sat hor rfl rfl rfl (by kernel_rfl) rfl rfl rfl fun w3 hs3 hn3 => ?_)
  have hol:=hol.step hs3 (fun h => by have h : _ = _ := h; omega)
  have hc:=hc.mono hs3.le
  clear hor; have hor := hn3; clear hn3
  have hT:=hT.own hs3 (by omega)
  have hz3 := hs3.size
  refine as_nil (κ _ _ ?_)
  refine cw_ret ?_
  have e : vs.drop n = rest := by rw [← hdr]; congr 1; omega
  exact ⟨_, (res_cell rfl (loadVar_n (n := 1) (by kernel_rfl) (by exact Blk.cells hor.1 rfl)) res_nil), _, rfl, hT, by rw [e]; exact hc⟩
 ·
  refine cw_rs fun _ κ => ?_
  refine Sm rfl rfl ?_
  refine as_q rfl rfl (q_gtT rfl rfl (by omega)) ?_
  refine Sm rfl rfl ?_
  refine as_gh rfl rfl rfl rfl (h_q rfl (q_fieldAddr (off := 0) (by kernel_rfl) rfl) ?_)
  refine as_gh rfl rfl rfl rfl (h_q rfl (q_load1 (by kernel_rfl) rfl (by exact Blk.cell hol.1 rfl)) ?_)
  refine as_gh rfl rfl rfl rfl (h_q rfl (q_nenil (by kernel_rfl) rfl) ?_)
  refine as_q rfl rfl (q_pick_t rfl rfl) ?_
  refine as_nil (κ _ _ ?_)
  refine cw_false rfl ?_
  refine cw_exit ?_
  refine hK2 _ _ ?_
  refine cw_rs fun _ κ => ?_
  refine Sc 1 rfl (by kernel_rfl) rfl (by exact Blk.cells hol.1 rfl) ?_
  refine as_h0 (h_store hT.sat hor rfl rfl rfl (by kernel_rfl) rfl rfl rfl fun w4 hs4 hn4 => ?_)
  have hol:=hol.step hs4 (fun h => by have h : _ = _ := h; omega)
  have hc:=hc.mono hs4.le
  clear hor; have hor := hn4; clear hn4
  have hT:=hT.own hs4 (by omega)
  have hz4 := hs4.size
  refine as_nil (κ _ _ ?_)
  refine cw_ret ?_
  have e : vs.drop n = rest := by
   have h2 : rest = [] := by
    rcases rest with _ | ⟨x, rest⟩
    · rfl
    · obtain ⟨_, _, h, _⟩ := hc; cases h
   subst h2
   refine List.drop_eq_nil_of_le ?_
   have := List.drop_eq_nil_iff.1 hdr
   omega
  exact ⟨_, (res_cell rfl (loadVar_n (n := 1) (by kernel_rfl) (by exact Blk.cells hor.1 rfl)) res_nil), _, rfl, hT, by rw [e]; exact hc⟩
 ·
  refine cw_rs fun _ κ => ?_
  refine Sm rfl rfl ?_
  refine as_q rfl rfl (q_gtT rfl rfl (by omega)) ?_
  refine Sm rfl rfl ?_
  refine as_gh rfl rfl rfl rfl (h_q rfl (q_fieldAddr (off := 0) (by kernel_rfl) rfl) ?_)
  refine as_gh rfl rfl rfl rfl (h_q rfl (q_load1 (by kernel_rfl) rfl (by exact Blk.cell hol.1 rfl)) ?_)
  refine as_gh rfl rfl rfl rfl (h_q rfl (q_nenil (by kernel_rfl) rfl) ?_)
  refine as_q rfl rfl (q_pick_t rfl rfl) ?_
  refine as_nil (κ _ _ ?_)
  refine cw_true rfl ?_
  refine cw_skip ?_
  refine hK3 _ _ ?_
  refine cw_seq fun _ hK9 => ?_
  refine cw_block ?_
  refine cw_region fun _ κ => ?_
  refine Sc 1 rfl (by kernel_rfl) rfl (by exact Blk.cells hol.1 rfl) ?_
  refine as_h rfl (h_call (by kernel_rfl) rfl ?_)
  rcases rest with _ | ⟨x, rest⟩
  ·
   have h : Value.pointer (some a) = .pointer none := hc
   cases h
  refine (ce_rest hT.sat hc).mono ?_
  rintro _ w5 ⟨q, rfl, hs5, hc⟩
  have hol:=hol.then hs5
  have hor:=hor.then hs5
  have hc:=hc.mono hs5.le
  have hT:=hT.then hs5
  have hz5 := hs5.size
  refine as_h0 (h_store hs5.sat hol rfl rfl rfl (by kernel_rfl) rfl rfl rfl fun w6 hs6 hn6 => ?_)
  have hor:=hor.step hs6 (fun h => by have h : _ = _ := h; omega)
  have hc:=hc.mono hs6.le
  clear hol; have hol := hn6; clear hn6
  have hT:=hT.own hs6 (by omega)
  have hz6 := hs6.size
  refine as_nil (κ _ _ ?_)
  refine hK9 _ _ ?_
  refine cw_region fun _ κ => ?_
  refine Sm rfl rfl ?_
  refine as_q rfl rfl (q_subx rfl rfl (by omega) (by omega)) ?_
  refine Sa rfl rfl ?_
  refine as_nil (κ _ _ ?_)
  refine ⟨_, _, ?_, (.cons rfl (.cons rfl (.cons rfl (.nil _)))), i + 1, _, rest, q, rfl, by omega, by omega, by rw [← List.drop_drop, hdr]; rfl, hc, rfl, hT, hol, hor⟩
  simp
theorem ce_each1 {w : World} {M : Mem} {vs : List (Option Addr)} {bx : Nat} {p : Option Addr} (hb : M bx = some ([.pointer p], 72)) (hc : CRep 197 M vs (.pointer p)) :
  IterOk Tryz.prog 144 [.pointer (some ⟨bx, 0, none⟩)] Nope (vs.map fun q => .pointer q) M w := by
 intro r J M0 W0 h0 _ _ hround hJ
 have hb:=h0.le _ _ hb
 have hc:=hc.mono h0.le
 refine fn_enter Tryz.func144 rfl (rs := []) rfl rfl rfl rfl ?_
 refine cw_rs fun _ κ => ?_
 refine Sf 0 rfl (by kernel_rfl) rfl ?_
 refine S1 rfl (by kernel_rfl) rfl (by exact BlkR.cell (h0.sat _ _ _ hb) rfl) ?_
 refine Sa rfl rfl ?_
 refine as_nil (κ _ _ ?_)
 refine cw_block ?_
 refine cw_loop (fun mm l w1 => ∃ (i : Nat) (rest : List (Option Addr)) (p1 : Option Addr) (M1 : Mem), mm = rest.length ∧ vs.drop i = rest ∧ i + rest.length = vs.length ∧ CRep 197 M1 rest (.pointer p1) ∧ l = [(0, .func (.yield r) #[] #[]), (1, .pointer (some ⟨bx, 0, none⟩)), (3, .pointer p1)] ∧ Le M0 M1 ∧ Sat M1 w1 ∧ J i M1 w1) (vs.length) [(0, .func (.yield r) #[] #[]), (1, .pointer (some ⟨bx, 0, none⟩)), (3, .pointer p)] (.cons rfl (.cons rfl (.cons rfl (.nil _)))) ?_ ?_
 ·
  exact ⟨0, vs, p, M0, rfl, rfl, by omega, hc, rfl, Le.refl _, h0.sat, hJ⟩
 clear hc hJ
 rintro mm l w1 ⟨i, rest, p1, M1, rfl, hdr, hi, hc, rfl, hle, hst, hJ⟩
 refine cw_seq fun _ hK2 => ?_
 refine cw_rs fun _ κ => ?_
 refine Sm rfl rfl ?_
 refine as_q rfl rfl (q_nenil (by kernel_rfl) rfl) ?_
 refine as_nil (κ _ _ ?_)
 refine cw_cond rfl (fun hc0 => ?_) (fun hc0 => ?_)
 ·
  rcases rest with _ | ⟨x, rest⟩
  ·
   have h : Value.pointer p1 = .pointer none := hc
   cases h; cases hc0
  obtain ⟨b, q, hpb, hb1, hc⟩ := hc
  cases hpb
  have hx : vs[i]? = some x := by rw [← List.head?_drop, hdr]; rfl
  refine cw_skip ?_
  refine hK2 _ _ ?_
  refine cw_seq fun _ hK4 => ?_
  refine cw_block ?_
  refine cw_rs fun _ κ => ?_
  refine Sm rfl rfl ?_
  refine Sm rfl rfl ?_
  refine as_q rfl rfl (q_nilp rfl) ?_
  refine Sf 0 rfl (by kernel_rfl) rfl ?_
  refine S1 rfl (by kernel_rfl) rfl (by exact BlkR.cell (hst _ _ _ hb1) rfl) ?_
  refine as_h rfl (h_yield rfl rfl ?_)
  obtain ⟨fn_, tm_, as_, bo_, hy1, hy2⟩ := hround i (.pointer x) M1 w1 (by show (vs.map _)[i]? = _; rw [List.getElem?_map, hx]; rfl) hJ hst hle
  refine ⟨fn_, tm_, as_, bo_, hy1, RoundIn.mono hy2 fun e w1 he => ?_⟩
  cases e <;> try exact (he : False).elim
  obtain ⟨rfl, M2, hs1, hJ2⟩ := he
  have hb1:=hs1.le _ _ hb1
  have hc:=hc.mono hs1.le
  refine as_q rfl rfl (q_not rfl) ?_
  refine as_nil (κ _ _ ?_)
  refine cw_false rfl ?_
  refine cw_skip ?_
  refine hK4 _ _ ?_
  refine cw_region fun _ κ => ?_
  refine Sm rfl rfl ?_
  refine as_q rfl rfl (q_nilp rfl) ?_
  refine Sf 1 rfl (by kernel_rfl) rfl ?_
  refine S1 rfl (by kernel_rfl) rfl (by exact BlkR.cell (hs1.sat _ _ _ hb1) rfl) ?_
  refine Sa rfl rfl ?_
  refine as_nil (κ _ _ ?_)
  refine ⟨_, _, ?_, (.cons rfl (.cons rfl (.cons rfl (.nil _)))), i + 1, rest, q, _, rfl, by rw [← List.drop_drop, hdr]; rfl, by simp only [List.length_cons] at hi ⊢; omega, hc, rfl, hle.trans hs1.le, hs1.sat, hJ2⟩
  simp
 ·
  have hrn : rest = [] := by
   rcases rest with _ | ⟨x, rest⟩
   · rfl
   ·
    obtain ⟨b, q, h, _⟩ := hc
    cases h; cases hc0
  subst hrn
  refine cw_exit ?_
  have e : i = vs.length := by simpa using hi
  exact ⟨_, res_nil, M1, hst, hle, by rw [List.length_map, ← e]; exact hJ⟩
theorem ce_each {w : World} {M : Mem} {p : Option Addr} (hs : Sat M w) :
  Does Tryz.prog 136 #[.agg #[.pointer p]] w (fun v w' => ∃ bx M', v = .func (.func 144) #[] #[.pointer (some ⟨bx, 0, none⟩)] ∧ Step Nope M w M' w' ∧ M' bx = some ([.pointer p], 72)) := by
 have hT := Step.refl Nope hs
 refine fn_enter Tryz.func136 rfl (rs := [.tmp 2]) rfl rfl rfl rfl ?_
 refine cw_rs fun _ κ => ?_
 refine as_h rfl (h_boxM hs rfl rfl fun b1 M1 w1 hs1 hb1 e1 => ?_)
 have hT:=hT.then hs1
 refine Sa rfl rfl ?_
 refine as_nil (κ _ _ ?_)
 refine cw_rs fun _ κ => ?_
 refine as_q rfl rfl (q_func rfl rfl) ?_
 refine Sa rfl rfl ?_
 refine as_nil (κ _ _ ?_)
 refine cw_ret ?_
 exact ⟨_, (res_tmp rfl res_nil), _, _, rfl, hT, hb1⟩
theorem ce_all {w : World} {M : Mem} {vs : List (Option Addr)} {p : Value} (hs : Sat M w) (h : CRep 197 M vs p) (hz : vs.length ≤ 1000000000) :
  Does Tryz.prog 120 #[.agg #[p]] w (fun v w' => ∃ M', Step Nope M w M' w' ∧ Buf w' M' 195 1 v vs.length (ptrs vs) ∧ ∀ g, v.ownBlock = some g → w.heap.size ≤ g) := by
 have hT := Step.refl Nope hs
 obtain ⟨p, rfl⟩ := h.ptr
 refine fn_enterM (K' := fun v w' => ∃ M', Step Nope M w M' w' ∧ Buf w' M' 195 1 v vs.length (ptrs vs) ∧ ∀ g, v.ownBlock = some g → w.heap.size ≤ g) Tryz.func120 rfl (rs := [.tmp 2]) rfl rfl rfl rfl ?_ (fun _ _ _ _ _ _ h => resT rfl h) ?_
 ·
  refine cm_seq fun K0a hK0a => cw_region fun K0b hK0b => ?_
  refine as_h rfl (h_boxM hs rfl rfl fun b1 M1 w1 hs1 hb1 e1 => ?_)
  have h:=h.mono hs1.le
  have hT:=hT.then hs1
  have hz1 := hs1.size
  refine Sa rfl rfl ?_
  refine as_nil (hK0b _ _ (hK0a _ _ ?_))
  clear hK0b hK0a K0b K0a
  refine cm_seq fun K1a hK1a => cw_region fun K1b hK1b => ?_
  have hqao := hT.size
  refine as_h rfl (h_allocO (z := (.slice none 0 0)) hs1.sat (by kernel_rfl) rfl fun bo w2 hs2 hoo eo => ?_)
  have h:=h.mono hs2.le
  have hb1:=hs2.le _ _ hb1
  have hT:=hT.then hs2
  have hz2 := hs2.size
  have hlo := hoo.1.lt
  refine as_nil (hK1b _ _ (hK1a _ _ ?_))
  clear hK1b hK1a K1b K1a
  refine cm_seqM ?_
  refine cm_seq fun K2a hK2a => cw_region fun K2b hK2b => ?_
  refine Sc 1 rfl (by kernel_rfl) rfl (by exact BlkR.cells (hs2.sat _ _ _ hb1) rfl) ?_
  refine as_h rfl (h_call (by kernel_rfl) rfl ?_)
  refine (ce_each hs2.sat).mono ?_
  rintro _ w3 ⟨bx, Mx, rfl, hs3, hbx⟩
  have h:=h.mono hs3.le
  have hoo:=hoo.then hs3
  have hT:=hT.then hs3
  have hz3 := hs3.size
  refine as_nil (hK2b _ _ (hK2a _ _ ?_))
  clear hK2b hK2a K2b K2a
  have hTs := hT.size
  have hbo := hoo.1.lt
  have hboo : w.heap.size ≤ bo := by omega
  refine cm_block ?_
  refine cm_rangeC (M := Mx) (S := Nope) (vs := vs.map fun q => .pointer q) (lb := [.pointer (some ⟨bx, 0, none⟩)]) (gf := 144) rfl rfl rfl (by kernel_rfl) rfl hs3.sat hTs (ce_each1 hbx h) (fun _ h => h.elim) (fun i M' W' => ∃ sv, Own W' M' bo [sv] 204 ∧ Buf W' M' 195 1 sv i (ptrs (vs.take i)) ∧ Step Nope M w M' W' ∧ ∀ g, sv.ownBlock = some g → w.heap.size ≤ g ∧ g ≠ bo ∧ g ≠ w3.heap.size ∧ g ≠ w3.heap.size + 1) (fun i v la M' W' => la = [(3, .pointer (some ⟨bo, 0, none⟩)), (4, v)] ∧ ∃ sv, Own W' M' bo [sv] 204 ∧ Buf W' M' 195 1 sv i (ptrs (vs.take i)) ∧ Step Nope M w M' W' ∧ ∀ g, sv.ownBlock = some g → w.heap.size ≤ g ∧ g ≠ bo ∧ g ≠ w3.heap.size ∧ g ≠ w3.heap.size + 1) ?_ ?_ ?_ ?_ ?_ ?_
  ·
   rintro i M' W' M'' W'' ⟨sv, h1, h2, h3, h4⟩ k
   refine ⟨sv, h1.step k (by rintro (h | h | h); exact h; all_goals omega), h2.step k (fun g hg => by rintro (h | h | h); exact h; exact (h4 g hg).2.2.1 h; exact (h4 g hg).2.2.2 h), h3.trans k (fun b hb => by rintro (h | h | h); exact h; all_goals omega), h4⟩
  · exact ⟨_, hoo, by rw [List.take_zero]; exact Buf.nil _ _ _ _, hT, fun g hg => by cases hg⟩
  ·
   rintro i v la M' W' M'' W'' ⟨rfl, sv, h1, h2, h3, h4⟩ k
   refine ⟨rfl, ?_⟩
   refine ⟨sv, h1.step k (by rintro (h | h | h); exact h; all_goals omega), h2.step k (fun g hg => by rintro (h | h | h); exact h; exact (h4 g hg).2.2.1 h; exact (h4 g hg).2.2.2 h), h3.trans k (fun b hb => by rintro (h | h | h); exact h; all_goals omega), h4⟩
  ·
   rintro i v r M' W' hv ⟨sv, h1, h2, h3, h4⟩ hs' hle hlt
   refine cw_region fun _ κ => ?_
   refine Sa rfl rfl ?_
   refine as_nil (κ _ _ ⟨_, M', .cons rfl (.cons rfl (.nil _)), Step.refl _ hs', rfl, sv, h1, h2, h3, h4⟩)
  ·
   rintro i v la r M' W' hv ⟨rfl, sv, h1, h2, h3, h4⟩ hs' hle hlt
   obtain ⟨x, hx, hxv⟩ : ∃ x, vs[i]? = some x ∧ .pointer x = v := by
    rw [List.getElem?_map] at hv
    exact Option.map_eq_some_iff.1 hv
   have h1l := h1.1.lt
   have h2l := h2.lt
   have hin : i < vs.length := (List.getElem?_eq_some_iff.1 hx).1
   subst hxv
   refine cw_block (cw_region fun K4 hK4 => ?_)
   refine S1 rfl (by kernel_rfl) rfl (by exact Blk.cell h1.1 rfl) ?_
   refine Sm rfl rfl ?_
   refine as_h rfl (h_buildO (e := 195) (size := 1) (zs := [.pointer none]) (cs := [_]) (by kernel_rfl) (by kernel_rfl) (by kernel_rfl) rfl hs' rfl rfl fun b4 w4 hs4 ho4 e4 => ?_)
   have hsB := hs4
   have h1:=h1.then hs4
   have hz4 := hs4.size
   have hrx := Buf.rd (Own.buf ho4 (n := 1) (size := 1) rfl (by decide))
   have h2b := h2.then hsB
   refine as_h rfl (h_append (e := 195) (size := 1) (bytes := 8) (by kernel_rfl) hs4.sat h2b hrx rfl rfl (fun y hy => by obtain rfl := List.mem_singleton.1 hy; rfl) (by omega) rfl fun sv2 w5 hs5 h2c hor => ?_)
   have hsv : ∃ a k c, sv2 = .slice a k c := by obtain ⟨a, c, h, _⟩ := h2c.slice; exact ⟨a, _, c, h⟩
   have h1:=h1.step hs5 (fun h => (h4 _ h).2.1 rfl)
   obtain ⟨sa, sk, sc, rfl⟩ := hsv
   refine as_h0 (h_store hs5.sat h1 rfl rfl rfl (by kernel_rfl) rfl rfl rfl fun w6 hs6 h1n => ?_)
   have hzb := hs4.size
   have hza := hs5.size
   have hownf : ∀ g, (Value.slice sa sk sc).ownBlock = some g → w.heap.size ≤ g ∧ g ≠ bo ∧ g ≠ w3.heap.size ∧ g ≠ w3.heap.size + 1 := fun g hg => by
    rcases hor with h | h
    · rw [h] at hg; exact h4 g hg
    · rw [h] at hg; have hg := Option.some.inj hg; omega
   have k1 : Step (fun k => ¬ Nope k ∧ k ≠ w3.heap.size ∧ k ≠ w3.heap.size + 1) M' w4 M' w5 := hs5.wide fun k _ h => ⟨id, (h4 k h).2.2.1, (h4 k h).2.2.2⟩
   have k2 : Step (fun k => ¬ Nope k ∧ k ≠ w3.heap.size ∧ k ≠ w3.heap.size + 1) M' w5 M' w6 := hs6.wide fun k _ h => by have h : k = bo := h; exact ⟨id, by omega, by omega⟩
   refine as_nil (hK4 _ _ ⟨M', ((hs4.any _).also k1).also k2, _, h1n, ?_, ?_, hownf⟩)
   ·
    have h5 := h2c.step hs6 (fun g hg h => (hownf g hg).2.1 h)
    rw [ptrs_take hx] at h5
    exact h5
   · exact ((h3.also hs4).trans hs5 (fun k hk h => by have := (h4 k h).1; omega)).trans hs6 (fun k hk h => by have h : k = bo := h; omega)
  ·
   rintro M' W' hs' hle ⟨sv, h1, h2, h3, h4⟩ D hD hDd
   refine cw_rs fun _ κ => ?_
   refine S1 rfl (by kernel_rfl) rfl (by exact Blk.cell h1.1 rfl) ?_
   refine Sa rfl rfl ?_
   refine as_nil (κ _ _ ?_)
   refine cw_ret ⟨hDd, _, res_tmp rfl res_nil, M', h3, ?_, fun g hg => (h4 g hg).1⟩
   rw [List.length_map] at h2
   rw [List.take_length] at h2
   exact h2
 ·
  rintro v w' D hB hD ⟨M', h1, h2, h3⟩
  have k := Step.putObj h1.sat hD (by simp) (.deferred none)
  refine ⟨M', h1.trans k (fun b hb h => by have h : b = D := h; omega), h2.step k (fun g hg h => ?_), h3⟩
  have h : g = D := h
  subst h
  obtain ⟨⟨_, hh⟩, _⟩ := h2
  rcases hh with ⟨rfl, _⟩ | ⟨g2, cap, cur, rfl, _, hh, _⟩
  · cases hg
  · cases hg; rw [hD] at hh; cases hh
end Go.Proofs.YtgcgjpfjjgalmaaGreat
/- Trees of elements, part 1. -/
namespace Go.Proofs.YtgcgjpfjjgalmaaGreat
open Go Go.Eng
theorem te_rank_n {w : World} {M : Mem} {x : El} {bs : List El} {ks : List (RT El)} {q : Option Addr} (hs : Sat M w) (h : TRep 220 2 EncE M (.node x bs ks) q) :
  Does Tryz.prog 131 #[.pointer q] w (fun v w' => v = .int .i64 (ks.length : Int) ∧ Step Nope M w M w') := by
 have hT := Step.refl Nope hs
 obtain ⟨b, xc, bv, bcs, kv, ka, rfl, hb, hx, hxl, hbs, hbl, hks, hkl⟩ := trep_node.1 h
 obtain rfl := (show xc = elc _ from hx)
 obtain ⟨ba, bk, rfl, _, _⟩ := hbs.slice
 obtain ⟨kp, kk, rfl, _, _⟩ := hks.slice
 refine fn_enter Tryz.func131 rfl (rs := [.tmp 2]) rfl rfl rfl rfl ?_
 refine cw_rs fun _ κ => ?_
 refine Sa rfl rfl ?_
 refine as_nil (κ _ _ ?_)
 refine cw_seq fun _ hK2 => ?_
 refine cw_rs fun _ κ => ?_
 refine Sm rfl rfl ?_
 refine as_q rfl rfl (q_eqnil (by kernel_rfl) rfl) ?_
 refine as_nil (κ _ _ ?_)
 refine cw_false rfl ?_
 refine cw_skip ?_
 refine hK2 _ _ ?_
 refine cw_rs fun _ κ => ?_
 refine Sm rfl rfl ?_
 refine as_q rfl rfl (q_nilp rfl) ?_
 refine Sf 0 rfl (by kernel_rfl) rfl ?_
 refine S1 rfl (by kernel_rfl) rfl (by exact BlkR.cell (hs _ _ _ hb) rfl) ?_
 refine Sa rfl rfl ?_
 refine as_nil (κ _ _ ?_)
 refine cw_ret ?_
 exact ⟨_, (res_tmp rfl res_nil), rfl, hT.forget⟩
theorem te_rank {w : World} {M : Mem} {t : RT El} {q : Option Addr} (hs : Sat M w) (h : TRep 220 2 EncE M t q) : Does Tryz.prog 131 #[.pointer q] w (fun v w' => v = .int .i64 (t.rank : Nat) ∧ Step Nope M w M w') := by
 cases t with
 | node x bs ks => exact te_rank_n hs h
theorem te_size_n {w : World} {M : Mem} {x : El} {bs : List El} {ks : List (RT El)} {q : Option Addr} (hs : Sat M w) (h : TRep 220 2 EncE M (.node x bs ks) q) :
  Does Tryz.prog 129 #[.pointer q] w (fun v w' => v = .int .i64 ((1 + bs.length + RT.sizes ks : Nat) : Int) ∧ Step Nope M w M w') := by
 have hT := Step.refl Nope hs
 obtain ⟨b, xc, bv, bcs, kv, ka, rfl, hb, hx, hxl, hbs, hbl, hks, hkl⟩ := trep_node.1 h
 obtain rfl := (show xc = elc _ from hx)
 obtain ⟨ba, bk, rfl, _, _⟩ := hbs.slice
 obtain ⟨kp, kk, rfl, _, _⟩ := hks.slice
 refine fn_enter Tryz.func129 rfl (rs := [.tmp 2]) rfl rfl rfl rfl ?_
 refine cw_rs fun _ κ => ?_
 refine Sa rfl rfl ?_
 refine as_nil (κ _ _ ?_)
 refine cw_seq fun _ hK2 => ?_
 refine cw_rs fun _ κ => ?_
 refine Sm rfl rfl ?_
 refine as_q rfl rfl (q_eqnil (by kernel_rfl) rfl) ?_
 refine as_nil (κ _ _ ?_)
 refine cw_false rfl ?_
 refine cw_skip ?_
 refine hK2 _ _ ?_
 refine cw_rs fun _ κ => ?_
 refine Sm rfl rfl ?_
 refine as_q rfl rfl (q_nilp rfl) ?_
 refine Sf 5 rfl (by kernel_rfl) rfl ?_
 refine S1 rfl (by kernel_rfl) rfl (by exact BlkR.cell (hs _ _ _ hb) rfl) ?_
 refine Sa rfl rfl ?_
 refine as_nil (κ _ _ ?_)
 refine cw_ret ?_
 exact ⟨_, (res_tmp rfl res_nil), rfl, hT.forget⟩
theorem te_size {w : World} {M : Mem} {t : RT El} {q : Option Addr} (hs : Sat M w) (h : TRep 220 2 EncE M t q) : Does Tryz.prog 129 #[.pointer q] w (fun v w' => v = .int .i64 (t.size : Nat) ∧ Step Nope M w M w') := by
 cases t with
 | node x bs ks => rw [RT.size]; exact te_size_n hs h
theorem te_root_n {w : World} {M : Mem} {x : El} {bs : List El} {ks : List (RT El)} {q : Option Addr} (hs : Sat M w) (h : TRep 220 2 EncE M (.node x bs ks) q) :
  Does Tryz.prog 122 #[.pointer q] w (fun v w' => v = .tuple #[.agg (elc x).toArray, .bool true] ∧ Step Nope M w M w') := by
 have hT := Step.refl Nope hs
 obtain ⟨b, xc, bv, bcs, kv, ka, rfl, hb, hx, hxl, hbs, hbl, hks, hkl⟩ := trep_node.1 h
 obtain rfl := (show xc = elc _ from hx)
 obtain ⟨ba, bk, rfl, _, _⟩ := hbs.slice
 obtain ⟨kp, kk, rfl, _, _⟩ := hks.slice
 refine fn_enter Tryz.func122 rfl (rs := [.cell 2 24, .tmp 3]) rfl rfl rfl rfl ?_
 refine cw_rs fun _ κ => ?_
 have hqar := hT.size
 refine as_h rfl (h_allocO (z := (.agg #[(.int .i64 0), (.int .i64 0)])) hs (by kernel_rfl) rfl fun br w1 hs1 hor er => ?_)
 have hb:=hs1.le _ _ hb
 have hT:=hT.then hs1
 have hz1 := hs1.size
 have hlr := hor.1.lt
 refine Sa rfl rfl ?_
 refine as_nil (κ _ _ ?_)
 refine cw_seq fun _ hK2 => ?_
 refine cw_rs fun _ κ => ?_
 refine Sm rfl rfl ?_
 refine as_q rfl rfl (q_eqnil (by kernel_rfl) rfl) ?_
 refine as_nil (κ _ _ ?_)
 refine cw_false rfl ?_
 refine cw_skip ?_
 refine hK2 _ _ ?_
 refine cw_rs fun _ κ => ?_
 refine Sm rfl rfl ?_
 refine as_q rfl rfl (q_nilp rfl) ?_
 refine Sf 1 rfl (by kernel_rfl) rfl ?_
 refine Sc 2 rfl (by kernel_rfl) rfl (by exact BlkR.cells (hs1.sat _ _ _ hb) rfl) ?_
 refine as_h0 (h_store hs1.sat hor rfl rfl rfl (by kernel_rfl) rfl rfl rfl fun w2 hs2 hn2 => ?_)
 clear hor; have hor := hn2; clear hn2
 have hT:=hT.own hs2 (by omega)
 have hz2 := hs2.size
 refine Sa rfl rfl ?_
 refine as_nil (κ _ _ ?_)
 refine cw_ret ?_
 exact ⟨_, (res_cell rfl (loadVar_n (n := 2) (by kernel_rfl) (by exact Blk.cells hor.1 rfl)) (res_tmp rfl res_nil)), rfl, hT.forget⟩
theorem te_root {w : World} {M : Mem} {t : RT El} {q : Option Addr} (hs : Sat M w) (h : TRep 220 2 EncE M t q) : Does Tryz.prog 122 #[.pointer q] w (fun v w' => v = .tuple #[.agg (elc t.root).toArray, .bool true] ∧ Step Nope M w M w') := by
 cases t with
 | node x bs ks => exact te_root_n hs h
theorem te_made {w : World} {M : Mem} {x : El} {bs : List El} {ks : List (RT El)} {ba kp : Option Addr} {bk kk : Nat} {bcs : List Value} {ka : List (Option Addr)} {s0 : Int} (hs : Sat M w) (hbs : RdM M 2 (.slice ba bs.length bk) bs.length bcs) (hbl : EncL EncE 2 M bs bcs) (hks : RdM M 1 (.slice kp ks.length kk) ks.length (ptrs ka)) (hkl : TReps 220 2 EncE M ks ka) (hz : 1 + bs.length + RT.sizes ks ≤ 1000000000) :
  Does Tryz.prog 135 #[.pointer none, .agg (.int .i64 (ks.length : Int) :: (elc x ++ [.slice ba bs.length bk, .slice kp ks.length kk, .int .i64 s0])).toArray] w (fun v w' => ∃ q M', v = .pointer q ∧ Step Nope M w M' w' ∧ TRep 220 2 EncE M' (.node x bs ks) q) := by
 have hT := Step.refl Nope hs
 have hzk := fun i => RT.sizes_take_le ks i
 refine fn_enter Tryz.func135 rfl (rs := [.tmp 4]) rfl rfl rfl rfl ?_
 refine cw_rs fun _ κ => ?_
 have hqat := hT.size
 refine as_h rfl (h_boxO hs rfl rfl fun bt w1 hs1 hot et => ?_)
 have hT:=hT.then hs1
 have hz1 := hs1.size
 have hlt := hot.1.lt
 refine Sa rfl rfl ?_
 refine as_nil (κ _ _ ?_)
 refine cw_rs fun _ κ => ?_
 refine Sm rfl rfl ?_
 refine as_h rfl (h_call (by kernel_rfl) rfl ?_)
 refine (m_made hs1.sat).mono ?_
 rintro _ w2 hs2
 have hot:=hot.then hs2
 have hT:=hT.then hs2
 have hz2 := hs2.size
 refine as_nil (κ _ _ ?_)
 refine cw_rs fun _ κ => ?_
 refine Sf 3 rfl (by kernel_rfl) rfl ?_
 refine S1 rfl (by kernel_rfl) rfl (by exact Blk.cell hot.1 rfl) ?_
 refine as_q rfl rfl (q_len (by kernel_rfl) rfl _) ?_
 refine as_q rfl rfl (q_addx rfl rfl (by omega) (by omega)) ?_
 refine Sf 5 rfl (by kernel_rfl) rfl ?_
 refine as_h0 (h_store hs2.sat hot rfl rfl rfl (by kernel_rfl) rfl rfl rfl fun w3 hs3 hn3 => ?_)
 clear hot; have hot := hn3; clear hn3
 have hT:=hT.own hs3 (by omega)
 have hz3 := hs3.size
 refine as_nil (κ _ _ ?_)
 refine cw_seq fun _ hK4 => ?_
 refine cw_rs fun _ κ => ?_
 refine Sf 4 rfl (by kernel_rfl) rfl ?_
 refine S1 rfl (by kernel_rfl) rfl (by exact Blk.cell hot.1 rfl) ?_
 refine as_q rfl rfl (q_len (by kernel_rfl) rfl _) ?_
 refine Sm rfl rfl ?_
 refine as_nil (κ _ _ ?_)
 refine cw_block ?_
 refine cw_loop (fun mm l w1 => ∃ i : Nat, mm = ks.length - i ∧ i ≤ ks.length ∧ l = [(0, .pointer none), (3, .pointer (some ⟨bt, 0, none⟩)), (15, .slice kp ks.length kk), (16, .int .i64 (ks.length : Nat)), (17, .int .i64 i)] ∧ Step Nope M w M w1 ∧ Own w1 M bt (.int .i64 (ks.length : Int) :: (elc x ++ [.slice ba bs.length bk, .slice kp ks.length kk, .int .i64 ((1 + bs.length + RT.sizes (ks.take i) : Nat) : Int)])) 220) (ks.length) [(0, .pointer none), (3, .pointer (some ⟨bt, 0, none⟩)), (15, .slice kp ks.length kk), (16, .int .i64 (ks.length : Nat)), (17, .int .i64 (0 : Nat))] (.cons rfl (.cons rfl (.cons rfl (.cons rfl (.cons rfl (.nil _)))))) ?_ ?_
 ·
  refine ⟨0, rfl, Nat.zero_le _, rfl, hT, ?_⟩
  exact hot
 have hbtw : w.heap.size ≤ bt := by omega
 clear hT hot
 rintro mm l w1 ⟨i, rfl, hi, rfl, hT, hot⟩
 refine cw_rs fun _ κ => ?_
 refine as_q rfl rfl (q_lt rfl rfl) ?_
 refine as_nil (κ _ _ ?_)
 refine cw_seq fun _ hK7 => ?_
 refine cw_cond rfl (fun hc0 => ?_) (fun hc0 => ?_)
 ·
  have hlt : i < ks.length := by have := of_decide_eq_true hc0; omega
  obtain ⟨k, hk⟩ : ∃ k, ks[i]? = some k := ⟨ks[i], by simp [hlt]⟩
  obtain ⟨kq, hkq, hkr⟩ := hkl.get hk
  obtain ⟨kb, ko, hkp⟩ := hks.there (by omega)
  subst hkp
  obtain ⟨c, rfl, hksz⟩ := trep_size hkr
  have hks1 := RT.sizes_take hk
  have hks2 := RT.sizes_take_le ks (i + 1)
  have hksl := RT.sizes_length ks
  refine cw_skip ?_
  refine hK7 _ _ ?_
  refine cw_seq fun _ hK8 => ?_
  refine cw_block ?_
  refine cw_rs fun _ κ => ?_
  refine as_q rfl rfl (q_indexAddr (e := 195) (size := 1) (by kernel_rfl) (by kernel_rfl) rfl rfl (by omega) (by omega)) ?_
  refine S1 rfl (by kernel_rfl) rfl (hks.cell hT.sat (u := .pointer (some ⟨c, 0, none⟩)) (by rw [show (i : Int).toNat * 1 = i from by omega]; simp [ptrs, hkq])) ?_
  refine Sa rfl rfl ?_
  refine as_nil (κ _ _ ?_)
  refine cw_drawn (by kernel_rfl) (by kernel_rfl) (by kernel_rfl) rfl rfl fun K10 hK10 => ?_
  have hs4 := Step.drew hT.sat
  have hz4 := hs4.size
  have hot:=hot.then hs4
  have hT:=hT.then hs4
  refine Df 0 1 5 rfl (by kernel_rfl) (by kernel_rfl) rfl ?_
  refine Dl1 1 3 rfl (by kernel_rfl) (by kernel_rfl) rfl (by exact Blk.cell hot.1 rfl) ?_
  refine Dm 2 7 rfl (by kernel_rfl) rfl ?_
  refine Dq 3 15 rfl (by kernel_rfl) (fun _ => (q_nilp rfl)) ?_
  refine Df 4 31 5 rfl (by kernel_rfl) (by kernel_rfl) rfl ?_
  refine Dl1 5 63 rfl (by kernel_rfl) (by kernel_rfl) rfl (cellM_cell hT.sat hksz) ?_
  refine Dq 6 127 rfl (by kernel_rfl) (fun _ => (q_addx rfl rfl (by omega) (by omega))) ?_
  refine Df 7 255 5 rfl (by kernel_rfl) (by kernel_rfl) rfl ?_
  refine Dh0 8 511 rfl (by kernel_rfl) (keep_sift (bs := [T,T]) (by kernel_rfl)) (h_store hs4.sat hot rfl rfl rfl (by kernel_rfl) rfl rfl rfl fun w5 hs5 hn5 => ?_)
  clear hot; have hot := hn5; clear hn5
  have hT:=hT.own hs5 (by omega)
  have hz5 := hs5.size
  refine ⟨trivial, ?_⟩
  refine Dd (by kernel_rfl) (hK10 _ _ ?_)
  refine hK8 _ _ ?_
  refine cw_region fun _ κ => ?_
  refine as_q rfl rfl (q_addx rfl rfl (by omega) (by omega)) ?_
  refine Sm rfl rfl ?_
  refine as_nil (κ _ _ ?_)
  refine ⟨_, _, ?_, (.cons rfl (.cons rfl (.cons rfl (.cons rfl (.cons rfl (.nil _)))))), i + 1, rfl, by omega, rfl, hT, ?_⟩
  · omega
  · rw [show ((1 + bs.length + RT.sizes (ks.take (i + 1)) : Nat) : Int) = ((1 + bs.length + RT.sizes (ks.take i) : Nat) : Int) + (k.size : Int) by omega]; exact hot
 ·
  have hge : i = ks.length := by have := of_decide_eq_false hc0; omega
  refine cw_exit ?_
  refine hK4 _ _ ?_
  refine cw_rs fun _ κ => ?_
  refine Sa rfl rfl ?_
  refine as_nil (κ _ _ ?_)
  refine cw_ret ?_
  subst hge
  rw [List.take_length] at hot
  obtain ⟨hbx, hTx⟩ := own_freeze hT hot hbtw
  exact ⟨_, (res_tmp rfl res_nil), _, _, rfl, hTx, trep_node.2 ⟨_, _, _, _, _, _, rfl, hbx, rfl, rfl, hbs.mono hTx.le, hbl.mono EncE.mono hTx.le, hks.mono hTx.le, hkl.mono' EncE.mono hTx.le⟩⟩
theorem te_aheadk {w : World} {M : Mem} {a : Option Addr} {l : Value} {n : Nat} {ka : List (Option Addr)} (hs : Sat M w) (hl : RdM M 1 l n (ptrs ka)) (hz : n ≤ 1000000000) :
  Does Tryz.prog 142 #[.pointer a, l] w (fun v w' => ∃ sa sc M', v = .slice sa (n + 1) sc ∧ Step Nope M w M' w' ∧ RdM M' 1 (.slice sa (n + 1) sc) (n + 1) (ptrs (a :: ka))) := by
 have hT := Step.refl Nope hs
 obtain ⟨la, lc, rfl, _, _⟩ := hl.slice
 refine fn_enter Tryz.func142 rfl (rs := [.tmp 4]) rfl rfl rfl rfl ?_
 refine cw_rs fun _ κ => ?_
 refine Sa rfl rfl ?_
 refine as_nil (κ _ _ ?_)
 refine cw_rs fun _ κ => ?_
 refine Sm rfl rfl ?_
 refine as_h rfl (h_buildO (e := 195) (size := 1) (zs := [(.pointer none)]) (cs := [_]) (by kernel_rfl) (by kernel_rfl) (by kernel_rfl) rfl hs rfl rfl fun bB w1 hs1 hoB eB => ?_)
 have hl:=hl.mono hs1.le
 have hT:=hT.then hs1
 have hz1 := hs1.size
 refine Sm rfl rfl ?_
 have hbb := Own.buf hoB (n := 1) (size := 1) rfl (by decide)
 refine as_h rfl (h_append (e := 195) (size := 1) (bytes := 8) (by kernel_rfl) hs1.sat hbb (hl.rd hs1.sat) rfl rfl (ptrs_one _) (by omega) rfl fun sv w2 hs2 hbu hor => ?_)
 have hqb := hT.size
 have hz_ := hs2.size
 have hT:=hT.trans hs2 (fun k hk h => by have h2 : bB = k := Option.some.inj h; omega)
 obtain ⟨M2, hT2, hle, hrd, _⟩ := hT.freezeB hbu (fun g hg => by
  rcases hor with h | h
  · rw [h] at hg; have h2 : bB = g := Option.some.inj hg; omega
  · rw [h] at hg; have h2 := Option.some.inj hg; omega)
 obtain ⟨sa, sc, rfl, _, _⟩ := hrd.slice
 refine Sa rfl rfl ?_
 refine as_nil (κ _ _ ?_)
 refine cw_ret ?_
 rw [show 1 + n = n + 1 by omega] at hrd
 exact ⟨_, (res_tmp rfl res_nil), _, _, _, congrArg (fun k => Value.slice sa k sc) (Nat.add_comm 1 n), hT2, hrd⟩
theorem te_aheadx {w : World} {M : Mem} {x : El} {l : Value} {n : Nat} {bcs : List Value} (hs : Sat M w) (hl : RdM M 2 l n bcs) (h1 : ∀ x ∈ bcs, x.oneCell' = true) (hz : n ≤ 1000000000) :
  Does Tryz.prog 194 #[.agg (elc x).toArray, l] w (fun v w' => ∃ sa sc M', v = .slice sa (n + 1) sc ∧ Step Nope M w M' w' ∧ RdM M' 2 (.slice sa (n + 1) sc) (n + 1) (elc x ++ bcs)) := by
 have hT := Step.refl Nope hs
 obtain ⟨la, lc, rfl, _, _⟩ := hl.slice
 refine fn_enter Tryz.func194 rfl (rs := [.tmp 4]) rfl rfl rfl rfl ?_
 refine cw_rs fun _ κ => ?_
 refine as_h rfl (h_boxM hs rfl rfl fun b1 M1 w1 hs1 hb1 e1 => ?_)
 have hl:=hl.mono hs1.le
 have hT:=hT.then hs1
 have hz1 := hs1.size
 refine Sa rfl rfl ?_
 refine as_nil (κ _ _ ?_)
 refine cw_rs fun _ κ => ?_
 refine Sc 2 rfl (by kernel_rfl) rfl (by exact BlkR.cells (hs1.sat _ _ _ hb1) rfl) ?_
 refine as_h rfl (h_buildO (e := 24) (size := 2) (zs := [(.int .i64 0), (.int .i64 0)]) (cs := [_, _]) (by kernel_rfl) (by kernel_rfl) (by kernel_rfl) rfl hs1.sat rfl rfl fun bB w2 hs2 hoB eB => ?_)
 have hl:=hl.mono hs2.le
 have hT:=hT.then hs2
 have hz2 := hs2.size
 refine Sm rfl rfl ?_
 have hbb := Own.buf hoB (n := 1) (size := 2) rfl (by decide)
 refine as_h rfl (h_append (e := 24) (size := 2) (bytes := 16) (by kernel_rfl) hs2.sat hbb (hl.rd hs2.sat) rfl rfl h1 (by omega) rfl fun sv w3 hs3 hbu hor => ?_)
 have hqb := hT.size
 have hz_ := hs3.size
 have hT:=hT.trans hs3 (fun k hk h => by have h2 : bB = k := Option.some.inj h; omega)
 obtain ⟨M2, hT2, hle, hrd, _⟩ := hT.freezeB hbu (fun g hg => by
  rcases hor with h | h
  · rw [h] at hg; have h2 : bB = g := Option.some.inj hg; omega
  · rw [h] at hg; have h2 := Option.some.inj hg; omega)
 obtain ⟨sa, sc, rfl, _, _⟩ := hrd.slice
 refine Sa rfl rfl ?_
 refine as_nil (κ _ _ ?_)
 refine cw_ret ?_
 rw [show 1 + n = n + 1 by omega] at hrd
 exact ⟨_, (res_tmp rfl res_nil), _, _, _, congrArg (fun k => Value.slice sa k sc) (Nat.add_comm 1 n), hT2, hrd⟩
theorem te_leaf {w : World} {M : Mem} {x : El} (hs : Sat M w) :
  Does Tryz.prog 118 #[.pointer none, .agg (elc x).toArray] w (fun v w' => ∃ q M', v = .pointer q ∧ Step Nope M w M' w' ∧ TRep 220 2 EncE M' (RT.leaf x) q) := by
 have hT := Step.refl Nope hs
 refine fn_enter Tryz.func118 rfl (rs := [.tmp 4]) rfl rfl rfl rfl ?_
 refine cw_rs fun _ κ => ?_
 refine as_h rfl (h_boxM hs rfl rfl fun b1 M1 w1 hs1 hb1 e1 => ?_)
 have hT:=hT.then hs1
 have hz1 := hs1.size
 refine Sa rfl rfl ?_
 refine as_nil (κ _ _ ?_)
 refine cw_rs fun _ κ => ?_
 refine Sm rfl rfl ?_
 refine Sc 2 rfl (by kernel_rfl) rfl (by exact BlkR.cells (hs1.sat _ _ _ hb1) rfl) ?_
 refine as_q rfl rfl (q_build (zs := [(.int .i64 0), (.int .i64 0), (.int .i64 0), (.slice none 0 0), (.slice none 0 0), (.int .i64 0)]) (places := [(0, 1), (1, 2), (3, 1), (4, 1), (5, 1)]) (cs := [_, _, _, _, _, _]) (by kernel_rfl) (by kernel_rfl) rfl rfl) ?_
 refine as_h rfl (h_call (by kernel_rfl) rfl ?_)
 refine (te_made (x := x) (bs := []) (ks := []) (ba := none) (kp := none) (bk := 0) (kk := 0) (bcs := []) (ka := []) hs1.sat (rdm_nil _ _) rfl (rdm_nil _ _) (treps_nil.2 rfl) (by simp [RT.sizes])).mono ?_
 rintro _ w2 ⟨qn, Mn, rfl, hs2, hn⟩
 have hT:=hT.then hs2
 have hz2 := hs2.size
 refine Sa rfl rfl ?_
 refine as_nil (κ _ _ ?_)
 refine cw_ret ?_
 exact ⟨_, (res_tmp rfl res_nil), _, _, rfl, hT, hn⟩
theorem el_key {w : World} {M : Mem} {x : El} (hs : Sat M w) :
  Does Tryz.prog 86 #[.agg (elc x).toArray] w (fun v w' => v = .agg (elc x).toArray ∧ Step Nope M w M w') := by
 have hT := Step.refl Nope hs
 refine fn_enter Tryz.func86 rfl (rs := [.cell 2 24]) rfl rfl rfl rfl ?_
 refine cw_rs fun _ κ => ?_
 refine as_h rfl (h_boxM hs rfl rfl fun b1 M1 w1 hs1 hb1 e1 => ?_)
 have hT:=hT.then hs1
 have hz1 := hs1.size
 have hqar := hT.size
 refine as_h rfl (h_allocO (z := (.agg #[(.int .i64 0), (.int .i64 0)])) hs1.sat (by kernel_rfl) rfl fun br w2 hs2 hor er => ?_)
 have hb1:=hs2.le _ _ hb1
 have hT:=hT.then hs2
 have hz2 := hs2.size
 have hlr := hor.1.lt
 refine as_nil (κ _ _ ?_)
 refine cw_rs fun _ κ => ?_
 refine Sc 2 rfl (by kernel_rfl) rfl (by exact BlkR.cells (hs2.sat _ _ _ hb1) rfl) ?_
 refine as_h0 (h_store hs2.sat hor rfl rfl rfl (by kernel_rfl) rfl rfl rfl fun w3 hs3 hn3 => ?_)
 clear hor; have hor := hn3; clear hn3
 have hT:=hT.own hs3 (by omega)
 have hz3 := hs3.size
 refine as_nil (κ _ _ ?_)
 refine cw_ret ?_
 exact ⟨_, (res_cell rfl (loadVar_n (n := 2) (by kernel_rfl) (by exact Blk.cells hor.1 rfl)) res_nil), rfl, hT.forget⟩
theorem te_link_n {w : World} {M : Mem} {x y : El} {bs ls : List El} {ks ms : List (RT El)} {q q2 : Option Addr} (hs : Sat M w) (h : TRep 220 2 EncE M (.node x bs ks) q) (h2 : TRep 220 2 EncE M (.node y ls ms) q2) (hz : (RT.node x bs ks).size + (RT.node y ls ms).size ≤ 1000000000) :
  Does Tryz.prog 132 #[.pointer none, .pointer q, .pointer q2] w (fun v w' => ∃ q M', v = .pointer q ∧ Step Nope M w M' w' ∧ TRep 220 2 EncE M' (RT.link ltE (.node x bs ks) (.node y ls ms)) q) := by
 have hT := Step.refl Nope hs
 obtain ⟨b, xc, bv, bcs, kv, ka, rfl, hb, hx, hxl, hbs, hbl, hks, hkl⟩ := trep_node.1 h
 obtain rfl := (show xc = elc _ from hx)
 obtain ⟨ba, bk, rfl, _, _⟩ := hbs.slice
 obtain ⟨kp, kk, rfl, _, _⟩ := hks.slice
 obtain ⟨b2, xc2, bv2, bcs2, kv2, ka2, rfl, hb2, hx2, hxl2, hbs2, hbl2, hks2, hkl2⟩ := trep_node.1 h2
 obtain rfl := (show xc2 = elc _ from hx2)
 obtain ⟨ba2, bk2, rfl, _, _⟩ := hbs2.slice
 obtain ⟨kp2, kk2, rfl, _, _⟩ := hks2.slice
 simp only [RT.size] at hz
 have hl1 := RT.sizes_length ks
 have hl2 := RT.sizes_length ms
 refine fn_enter Tryz.func132 rfl (rs := [.tmp 6]) rfl rfl rfl rfl ?_
 refine cw_rs fun _ κ => ?_
 refine Sa rfl rfl ?_
 refine as_nil (κ _ _ ?_)
 refine cw_seq fun _ hK2 => ?_
 refine cw_block ?_
 refine cw_rs fun _ κ => ?_
 refine Sm rfl rfl ?_
 refine as_q rfl rfl (q_eqnil (by kernel_rfl) rfl) ?_
 refine Sa rfl rfl ?_
 refine as_nil (κ _ _ ?_)
 refine cw_false rfl ?_
 refine cw_rs fun _ κ => ?_
 refine Sm rfl rfl ?_
 refine as_q rfl rfl (q_eqnil (by kernel_rfl) rfl) ?_
 refine Sa rfl rfl ?_
 refine as_nil (κ _ _ ?_)
 refine cw_false rfl ?_
 refine cw_skip ?_
 refine hK2 _ _ ?_
 refine cw_seq fun _ hK5 => ?_
 refine cw_dr (by kernel_rfl) fun _ κ => ?_
 have hs1 := Step.drew hs
 have hz1 := hs1.size
 have hb:=hs1.le _ _ hb
 have hbs:=hbs.mono hs1.le
 have hbl:=hbl.mono EncE.mono hs1.le
 have hks:=hks.mono hs1.le
 have hkl:=hkl.mono' EncE.mono hs1.le
 have hb2:=hs1.le _ _ hb2
 have hbs2:=hbs2.mono hs1.le
 have hbl2:=hbl2.mono EncE.mono hs1.le
 have hks2:=hks2.mono hs1.le
 have hkl2:=hkl2.mono' EncE.mono hs1.le
 have h:=h.mono' EncE.mono hs1.le
 have h2:=h2.mono' EncE.mono hs1.le
 have hT:=hT.then hs1
 refine Dm 0 1 rfl (by kernel_rfl) rfl ?_
 refine Dm 1 3 rfl (by kernel_rfl) rfl ?_
 refine Dq 2 7 rfl (by kernel_rfl) (fun _ => (q_nilp rfl)) ?_
 refine Df 3 15 1 rfl (by kernel_rfl) (by kernel_rfl) rfl ?_
 refine Dlc 4 31 2 rfl (by kernel_rfl) (by kernel_rfl) rfl (by exact BlkR.cells (hs1.sat _ _ _ hb2) rfl) ?_
 refine Dq 5 63 rfl (by kernel_rfl) (fun _ => (q_iface (by kernel_rfl) rfl)) ?_
 refine Dm 7 191 rfl (by kernel_rfl) rfl ?_
 refine Dq 8 447 rfl (by kernel_rfl) (fun _ => (q_nilp rfl)) ?_
 refine Df 9 959 1 rfl (by kernel_rfl) (by kernel_rfl) rfl ?_
 refine Dlc 10 1983 2 rfl (by kernel_rfl) (by kernel_rfl) rfl (by exact BlkR.cells (hs1.sat _ _ _ hb) rfl) ?_
 refine Dq 11 4031 rfl (by kernel_rfl) (fun _ => (q_iface (by kernel_rfl) rfl)) ?_
 refine Dh 6 4095 rfl (by kernel_rfl) (keep_sift (bs := [F,F]) (by kernel_rfl)) (h_invoke (f := 86) (r := .agg (elc y).toArray) (by kernel_rfl) rfl rfl (by kernel_rfl) ?_)
 refine (el_key (x := y) hs1.sat).mono ?_
 rintro _ w2 ⟨rfl, hs2⟩
 have hb:=hs2.le _ _ hb
 have hbs:=hbs.mono hs2.le
 have hbl:=hbl.mono EncE.mono hs2.le
 have hks:=hks.mono hs2.le
 have hkl:=hkl.mono' EncE.mono hs2.le
 have hb2:=hs2.le _ _ hb2
 have hbs2:=hbs2.mono hs2.le
 have hbl2:=hbl2.mono EncE.mono hs2.le
 have hks2:=hks2.mono hs2.le
 have hkl2:=hkl2.mono' EncE.mono hs2.le
 have h:=h.mono' EncE.mono hs2.le
 have h2:=h2.mono' EncE.mono hs2.le
 have hT:=hT.then hs2
 have hz2 := hs2.size
 refine ⟨(by repeat' first | exact trivial | exact BlkR.cell (hs2.sat _ _ _ hb) rfl | exact BlkR.cells (hs2.sat _ _ _ hb) rfl | exact BlkR.cell (hs2.sat _ _ _ hb2) rfl | exact BlkR.cells (hs2.sat _ _ _ hb2) rfl | assumption | refine all_keep ?_ | refine And.intro ?_ ?_), ?_⟩
 refine Dh 12 8191 rfl (by kernel_rfl) (keep_sift (bs := [F,F]) (by kernel_rfl)) (h_invoke (f := 86) (r := .agg (elc x).toArray) (by kernel_rfl) rfl rfl (by kernel_rfl) ?_)
 refine (el_key (x := x) hs2.sat).mono ?_
 rintro _ w3 ⟨rfl, hs3⟩
 have hb:=hs3.le _ _ hb
 have hbs:=hbs.mono hs3.le
 have hbl:=hbl.mono EncE.mono hs3.le
 have hks:=hks.mono hs3.le
 have hkl:=hkl.mono' EncE.mono hs3.le
 have hb2:=hs3.le _ _ hb2
 have hbs2:=hbs2.mono hs3.le
 have hbl2:=hbl2.mono EncE.mono hs3.le
 have hks2:=hks2.mono hs3.le
 have hkl2:=hkl2.mono' EncE.mono hs3.le
 have h:=h.mono' EncE.mono hs3.le
 have h2:=h2.mono' EncE.mono hs3.le
 have hT:=hT.then hs3
 have hz3 := hs3.size
 refine ⟨(by repeat' first | exact trivial | exact BlkR.cell (hs3.sat _ _ _ hb) rfl | exact BlkR.cells (hs3.sat _ _ _ hb) rfl | exact BlkR.cell (hs3.sat _ _ _ hb2) rfl | exact BlkR.cells (hs3.sat _ _ _ hb2) rfl | assumption | refine all_keep ?_ | refine And.intro ?_ ?_), ?_⟩
 refine Dh 13 16383 rfl (by kernel_rfl) (keep_sift (bs := [F,F]) (by kernel_rfl)) (h_call (by kernel_rfl) rfl ?_)
 refine (m_less (a := y) (b := x) hs3.sat).mono ?_
 rintro _ w4 ⟨rfl, hs4⟩
 have hb:=hs4.le _ _ hb
 have hbs:=hbs.mono hs4.le
 have hbl:=hbl.mono EncE.mono hs4.le
 have hks:=hks.mono hs4.le
 have hkl:=hkl.mono' EncE.mono hs4.le
 have hb2:=hs4.le _ _ hb2
 have hbs2:=hbs2.mono hs4.le
 have hbl2:=hbl2.mono EncE.mono hs4.le
 have hks2:=hks2.mono hs4.le
 have hkl2:=hkl2.mono' EncE.mono hs4.le
 have h:=h.mono' EncE.mono hs4.le
 have h2:=h2.mono' EncE.mono hs4.le
 have hT:=hT.then hs4
 have hz4 := hs4.size
 refine ⟨(by repeat' first | exact trivial | exact BlkR.cell (hs4.sat _ _ _ hb) rfl | exact BlkR.cells (hs4.sat _ _ _ hb) rfl | exact BlkR.cell (hs4.sat _ _ _ hb2) rfl | exact BlkR.cells (hs4.sat _ _ _ hb2) rfl | assumption | refine all_keep ?_ | refine And.intro ?_ ?_), ?_⟩
 refine Dd (by kernel_rfl) (κ _ _ ?_)
 refine cw_cond rfl (fun hc2 => ?_) (fun hc2 => ?_)
 ·
  skip
  refine cw_region fun _ κ => ?_
  refine Sm rfl rfl ?_
  refine Sm rfl rfl ?_
  refine Sa rfl rfl ?_
  refine Sa rfl rfl ?_
  refine as_nil (κ _ _ ?_)
  refine hK5 _ _ ?_
  refine cw_dr (by kernel_rfl) fun _ κ => ?_
  have hs5 := Step.drew hs4.sat
  have hz5 := hs5.size
  have hb:=hs5.le _ _ hb
  have hbs:=hbs.mono hs5.le
  have hbl:=hbl.mono EncE.mono hs5.le
  have hks:=hks.mono hs5.le
  have hkl:=hkl.mono' EncE.mono hs5.le
  have hb2:=hs5.le _ _ hb2
  have hbs2:=hbs2.mono hs5.le
  have hbl2:=hbl2.mono EncE.mono hs5.le
  have hks2:=hks2.mono hs5.le
  have hkl2:=hkl2.mono' EncE.mono hs5.le
  have h:=h.mono' EncE.mono hs5.le
  have h2:=h2.mono' EncE.mono hs5.le
  have hT:=hT.then hs5
  refine Dm 0 1 rfl (by kernel_rfl) rfl ?_
  refine Dm 1 3 rfl (by kernel_rfl) rfl ?_
  refine Dq 2 7 rfl (by kernel_rfl) (fun _ => (q_nilp rfl)) ?_
  refine Df 3 15 0 rfl (by kernel_rfl) (by kernel_rfl) rfl ?_
  refine Dl1 4 31 rfl (by kernel_rfl) (by kernel_rfl) rfl (by exact BlkR.cell (hs5.sat _ _ _ hb2) rfl) ?_
  refine Dq 5 63 rfl (by kernel_rfl) (fun _ => (q_addx rfl rfl (by omega) (by omega))) ?_
  refine Dm 6 127 rfl (by kernel_rfl) rfl ?_
  refine Dq 7 255 rfl (by kernel_rfl) (fun _ => (q_nilp rfl)) ?_
  refine Df 8 511 1 rfl (by kernel_rfl) (by kernel_rfl) rfl ?_
  refine Dlc 9 1023 2 rfl (by kernel_rfl) (by kernel_rfl) rfl (by exact BlkR.cells (hs5.sat _ _ _ hb2) rfl) ?_
  refine Dm 10 2047 rfl (by kernel_rfl) rfl ?_
  refine Dq 11 4095 rfl (by kernel_rfl) (fun _ => (q_nilp rfl)) ?_
  refine Df 12 8191 3 rfl (by kernel_rfl) (by kernel_rfl) rfl ?_
  refine Dl1 13 16383 rfl (by kernel_rfl) (by kernel_rfl) rfl (by exact BlkR.cell (hs5.sat _ _ _ hb2) rfl) ?_
  refine Dm 14 32767 rfl (by kernel_rfl) rfl ?_
  refine Dm 15 65535 rfl (by kernel_rfl) rfl ?_
  refine Dq 16 131071 rfl (by kernel_rfl) (fun _ => (q_nilp rfl)) ?_
  refine Df 17 262143 4 rfl (by kernel_rfl) (by kernel_rfl) rfl ?_
  refine Dl1 18 524287 rfl (by kernel_rfl) (by kernel_rfl) rfl (by exact BlkR.cell (hs5.sat _ _ _ hb2) rfl) ?_
  refine Dh 19 1048575 rfl (by kernel_rfl) (keep_sift (bs := [T,F,F,F]) (by kernel_rfl)) (h_call (by kernel_rfl) rfl ?_)
  refine (te_aheadk hs5.sat hks2 (by omega)).mono ?_
  rintro _ w6 ⟨sa, sc, Mn, rfl, hs6, hn⟩
  have hb:=hs6.le _ _ hb
  have hbs:=hbs.mono hs6.le
  have hbl:=hbl.mono EncE.mono hs6.le
  have hks:=hks.mono hs6.le
  have hkl:=hkl.mono' EncE.mono hs6.le
  have hb2:=hs6.le _ _ hb2
  have hbs2:=hbs2.mono hs6.le
  have hbl2:=hbl2.mono EncE.mono hs6.le
  have hkl2:=hkl2.mono' EncE.mono hs6.le
  have h:=h.mono' EncE.mono hs6.le
  have h2:=h2.mono' EncE.mono hs6.le
  have hT:=hT.then hs6
  have hz6 := hs6.size
  refine ⟨(by repeat' first | exact trivial | exact BlkR.cell (hs6.sat _ _ _ hb) rfl | exact BlkR.cells (hs6.sat _ _ _ hb) rfl | exact BlkR.cell (hs6.sat _ _ _ hb2) rfl | exact BlkR.cells (hs6.sat _ _ _ hb2) rfl | assumption | refine all_keep ?_ | refine And.intro ?_ ?_), ?_⟩
  refine Dq 20 2097151 rfl (by kernel_rfl) (fun _ => (q_build (zs := [(.int .i64 0), (.int .i64 0), (.int .i64 0), (.slice none 0 0), (.slice none 0 0), (.int .i64 0)]) (places := [(0, 1), (1, 2), (3, 1), (4, 1), (5, 1)]) (cs := [_, _, _, _, _, _]) (by kernel_rfl) (by kernel_rfl) rfl rfl)) ?_
  refine Dh 21 4194303 rfl (by kernel_rfl) (keep_sift (bs := [F,F,F]) (by kernel_rfl)) (h_call (by kernel_rfl) rfl ?_)
  refine (te_made (x := y) (bs := ls) (ks := (.node x bs ks) :: ms) hs6.sat hbs2 hbl2 hn (treps_cons.2 ⟨_, _, rfl, h, hkl2⟩) (by simp only [RT.sizes, RT.size]; omega)).mono ?_
  rintro _ w7 ⟨qn, Mn2, rfl, hs7, hm⟩
  have hb:=hs7.le _ _ hb
  have hbs:=hbs.mono hs7.le
  have hbl:=hbl.mono EncE.mono hs7.le
  have hks:=hks.mono hs7.le
  have hkl:=hkl.mono' EncE.mono hs7.le
  have hb2:=hs7.le _ _ hb2
  have h:=h.mono' EncE.mono hs7.le
  have h2:=h2.mono' EncE.mono hs7.le
  have hn:=hn.mono hs7.le
  have hT:=hT.then hs7
  have hz7 := hs7.size
  refine ⟨(by repeat' first | exact trivial | exact BlkR.cell (hs7.sat _ _ _ hb) rfl | exact BlkR.cells (hs7.sat _ _ _ hb) rfl | exact BlkR.cell (hs7.sat _ _ _ hb2) rfl | exact BlkR.cells (hs7.sat _ _ _ hb2) rfl | assumption | refine all_keep ?_ | refine And.intro ?_ ?_), ?_⟩
  refine Da 22 8388607 rfl (by kernel_rfl) rfl ?_
  refine Dd (by kernel_rfl) (κ _ _ ?_)
  refine cw_ret ?_
  refine ⟨_, (res_tmp rfl res_nil), _, _, rfl, hT, ?_⟩
  rw [RT.link, if_pos (show ltE (RT.node y ls ms).root (RT.node x bs ks).root = true from hc2)]
  exact hm
 ·
  skip
  refine cw_skip ?_
  refine hK5 _ _ ?_
  refine cw_dr (by kernel_rfl) fun _ κ => ?_
  have hs8 := Step.drew hs4.sat
  have hz8 := hs8.size
  have hb:=hs8.le _ _ hb
  have hbs:=hbs.mono hs8.le
  have hbl:=hbl.mono EncE.mono hs8.le
  have hks:=hks.mono hs8.le
  have hkl:=hkl.mono' EncE.mono hs8.le
  have hb2:=hs8.le _ _ hb2
  have h:=h.mono' EncE.mono hs8.le
  have h2:=h2.mono' EncE.mono hs8.le
  have hT:=hT.then hs8
  refine Dm 0 1 rfl (by kernel_rfl) rfl ?_
  refine Dm 1 3 rfl (by kernel_rfl) rfl ?_
  refine Dq 2 7 rfl (by kernel_rfl) (fun _ => (q_nilp rfl)) ?_
  refine Df 3 15 0 rfl (by kernel_rfl) (by kernel_rfl) rfl ?_
  refine Dl1 4 31 rfl (by kernel_rfl) (by kernel_rfl) rfl (by exact BlkR.cell (hs8.sat _ _ _ hb) rfl) ?_
  refine Dq 5 63 rfl (by kernel_rfl) (fun _ => (q_addx rfl rfl (by omega) (by omega))) ?_
  refine Dm 6 127 rfl (by kernel_rfl) rfl ?_
  refine Dq 7 255 rfl (by kernel_rfl) (fun _ => (q_nilp rfl)) ?_
  refine Df 8 511 1 rfl (by kernel_rfl) (by kernel_rfl) rfl ?_
  refine Dlc 9 1023 2 rfl (by kernel_rfl) (by kernel_rfl) rfl (by exact BlkR.cells (hs8.sat _ _ _ hb) rfl) ?_
  refine Dm 10 2047 rfl (by kernel_rfl) rfl ?_
  refine Dq 11 4095 rfl (by kernel_rfl) (fun _ => (q_nilp rfl)) ?_
  refine Df 12 8191 3 rfl (by kernel_rfl) (by kernel_rfl) rfl ?_
  refine Dl1 13 16383 rfl (by kernel_rfl) (by kernel_rfl) rfl (by exact BlkR.cell (hs8.sat _ _ _ hb) rfl) ?_
  refine Dm 14 32767 rfl (by kernel_rfl) rfl ?_
  refine Dm 15 65535 rfl (by kernel_rfl) rfl ?_
  refine Dq 16 131071 rfl (by kernel_rfl) (fun _ => (q_nilp rfl)) ?_
  refine Df 17 262143 4 rfl (by kernel_rfl) (by kernel_rfl) rfl ?_
  refine Dl1 18 524287 rfl (by kernel_rfl) (by kernel_rfl) rfl (by exact BlkR.cell (hs8.sat _ _ _ hb) rfl) ?_
  refine Dh 19 1048575 rfl (by kernel_rfl) (keep_sift (bs := [T,F,F,F]) (by kernel_rfl)) (h_call (by kernel_rfl) rfl ?_)
  refine (te_aheadk hs8.sat hks (by omega)).mono ?_
  rintro _ w9 ⟨sa, sc, Mn, rfl, hs9, hn⟩
  have hb:=hs9.le _ _ hb
  have hbs:=hbs.mono hs9.le
  have hbl:=hbl.mono EncE.mono hs9.le
  have hkl:=hkl.mono' EncE.mono hs9.le
  have hb2:=hs9.le _ _ hb2
  have h:=h.mono' EncE.mono hs9.le
  have h2:=h2.mono' EncE.mono hs9.le
  have hT:=hT.then hs9
  have hz9 := hs9.size
  refine ⟨(by repeat' first | exact trivial | exact BlkR.cell (hs9.sat _ _ _ hb) rfl | exact BlkR.cells (hs9.sat _ _ _ hb) rfl | exact BlkR.cell (hs9.sat _ _ _ hb2) rfl | exact BlkR.cells (hs9.sat _ _ _ hb2) rfl | assumption | refine all_keep ?_ | refine And.intro ?_ ?_), ?_⟩
  refine Dq 20 2097151 rfl (by kernel_rfl) (fun _ => (q_build (zs := [(.int .i64 0), (.int .i64 0), (.int .i64 0), (.slice none 0 0), (.slice none 0 0), (.int .i64 0)]) (places := [(0, 1), (1, 2), (3, 1), (4, 1), (5, 1)]) (cs := [_, _, _, _, _, _]) (by kernel_rfl) (by kernel_rfl) rfl rfl)) ?_
  refine Dh 21 4194303 rfl (by kernel_rfl) (keep_sift (bs := [F,F,F]) (by kernel_rfl)) (h_call (by kernel_rfl) rfl ?_)
  refine (te_made (x := x) (bs := bs) (ks := (.node y ls ms) :: ks) hs9.sat hbs hbl hn (treps_cons.2 ⟨_, _, rfl, h2, hkl⟩) (by simp only [RT.sizes, RT.size]; omega)).mono ?_
  rintro _ w10 ⟨qn, Mn2, rfl, hs10, hm⟩
  have hb:=hs10.le _ _ hb
  have hb2:=hs10.le _ _ hb2
  have h:=h.mono' EncE.mono hs10.le
  have hT:=hT.then hs10
  have hz10 := hs10.size
  refine ⟨(by repeat' first | exact trivial | exact BlkR.cell (hs10.sat _ _ _ hb) rfl | exact BlkR.cells (hs10.sat _ _ _ hb) rfl | exact BlkR.cell (hs10.sat _ _ _ hb2) rfl | exact BlkR.cells (hs10.sat _ _ _ hb2) rfl | assumption | refine all_keep ?_ | refine And.intro ?_ ?_), ?_⟩
  refine Da 22 8388607 rfl (by kernel_rfl) rfl ?_
  refine Dd (by kernel_rfl) (κ _ _ ?_)
  refine cw_ret ?_
  refine ⟨_, (res_tmp rfl res_nil), _, _, rfl, hT, ?_⟩
  rw [RT.link, if_neg (show ¬ ltE (RT.node y ls ms).root (RT.node x bs ks).root = true by rw [show ltE (RT.node y ls ms).root (RT.node x bs ks).root = false from hc2]; decide)]
  exact hm
theorem te_link {w : World} {M : Mem} {a b : RT El} {q q2 : Option Addr} (hs : Sat M w) (h : TRep 220 2 EncE M a q) (h2 : TRep 220 2 EncE M b q2) (hz : a.size + b.size ≤ 1000000000) :
  Does Tryz.prog 132 #[.pointer none, .pointer q, .pointer q2] w (fun v w' => ∃ q M', v = .pointer q ∧ Step Nope M w M' w' ∧ TRep 220 2 EncE M' (RT.link ltE a b) q) := by
 cases a; cases b; exact te_link_n hs h h2 hz
theorem te_skew {w : World} {M : Mem} {x : El} {t u : RT El} {q q2 : Option Addr} (hs : Sat M w) (h : TRep 220 2 EncE M t q) (h2 : TRep 220 2 EncE M u q2) (hz : t.size + u.size < 1000000000) :
  Does Tryz.prog 189 #[.pointer none, .agg (elc x).toArray, .pointer q, .pointer q2] w (fun v w' => ∃ q M', v = .pointer q ∧ Step Nope M w M' w' ∧ TRep 220 2 EncE M' (RT.skew ltE x t u) q) := by
 have hT := Step.refl Nope hs
 obtain ⟨qa, rfl⟩ := h.some
 obtain ⟨qb, rfl⟩ := h2.some
 refine fn_enter Tryz.func189 rfl (rs := [.tmp 8]) rfl rfl rfl rfl ?_
 refine cw_rs fun _ κ => ?_
 have hqax := hT.size
 refine as_h rfl (h_boxO hs rfl rfl fun bx w1 hs1 hox ex => ?_)
 have h:=h.mono' EncE.mono hs1.le
 have h2:=h2.mono' EncE.mono hs1.le
 have hT:=hT.then hs1
 have hz1 := hs1.size
 have hlx := hox.1.lt
 refine Sa rfl rfl ?_
 refine as_nil (κ _ _ ?_)
 refine cw_rs fun _ κ => ?_
 refine Sm rfl rfl ?_
 refine Sm rfl rfl ?_
 refine Sm rfl rfl ?_
 refine as_h rfl (h_call (by kernel_rfl) rfl ?_)
 refine (te_link hs1.sat h h2 (by omega)).mono ?_
 rintro _ w2 ⟨qn, Mn, rfl, hs2, hn⟩
 have h:=h.mono' EncE.mono hs2.le
 have h2:=h2.mono' EncE.mono hs2.le
 have hox:=hox.then hs2
 have hT:=hT.then hs2
 have hz2 := hs2.size
 have hls := RT.link_size ltE t u
 obtain ⟨v, hv⟩ : ∃ v, RT.link ltE t u = v := ⟨_, rfl⟩
 rw [hv] at hn hls
 obtain ⟨y, cs, ls⟩ := v
 obtain ⟨b3, xc3, bv3, bcs3, kv3, ka3, rfl, hb3, hx3, hxl3, hbs3, hbl3, hks3, hkl3⟩ := trep_node.1 hn
 obtain rfl := (show xc3 = elc _ from hx3)
 obtain ⟨ba3, bk3, rfl, _, _⟩ := hbs3.slice
 obtain ⟨kp3, kk3, rfl, _, _⟩ := hks3.slice
 simp only [RT.size] at hls
 have hl3 := RT.sizes_length ls
 clear h h2
 refine Sa rfl rfl ?_
 refine as_nil (κ _ _ ?_)
 refine cw_seq fun _ hK3 => ?_
 refine cw_rs fun _ κ => ?_
 refine Sm rfl rfl ?_
 refine as_q rfl rfl (q_eqnil (by kernel_rfl) rfl) ?_
 refine as_nil (κ _ _ ?_)
 refine cw_false rfl ?_
 refine cw_skip ?_
 refine hK3 _ _ ?_
 refine cw_rs fun _ κ => ?_
 refine Sm rfl rfl ?_
 refine as_q rfl rfl (q_nilp rfl) ?_
 refine Sf 1 rfl (by kernel_rfl) rfl ?_
 refine Sc 2 rfl (by kernel_rfl) rfl (by exact BlkR.cells (hs2.sat _ _ _ hb3) rfl) ?_
 have hqar := hT.size
 refine as_h rfl (h_allocO (z := (.agg #[(.int .i64 0), (.int .i64 0)])) hs2.sat (by kernel_rfl) rfl fun br w3 hs3 hor er => ?_)
 have hox:=hox.then hs3
 have hb3:=hs3.le _ _ hb3
 have hbs3:=hbs3.mono hs3.le
 have hbl3:=hbl3.mono EncE.mono hs3.le
 have hks3:=hks3.mono hs3.le
 have hkl3:=hkl3.mono' EncE.mono hs3.le
 have hT:=hT.then hs3
 have hz3 := hs3.size
 have hlr := hor.1.lt
 refine as_h0 (h_store hs3.sat hor rfl rfl rfl (by kernel_rfl) rfl rfl rfl fun w4 hs4 hn4 => ?_)
 have hox:=hox.step hs4 (fun h => by have h : _ = _ := h; omega)
 have hb3:=hs4.le _ _ hb3
 have hbs3:=hbs3.mono hs4.le
 have hbl3:=hbl3.mono EncE.mono hs4.le
 have hks3:=hks3.mono hs4.le
 have hkl3:=hkl3.mono' EncE.mono hs4.le
 clear hor; have hor := hn4; clear hn4
 have hT:=hT.own hs4 (by omega)
 have hz4 := hs4.size
 refine as_nil (κ _ _ ?_)
 refine cw_seq fun _ hK6 => ?_
 refine cw_dr (by kernel_rfl) fun _ κ => ?_
 have hs5 := Step.drew hs4.sat
 have hz5 := hs5.size
 have hox:=hox.then hs5
 have hb3:=hs5.le _ _ hb3
 have hbs3:=hbs3.mono hs5.le
 have hbl3:=hbl3.mono EncE.mono hs5.le
 have hks3:=hks3.mono hs5.le
 have hkl3:=hkl3.mono' EncE.mono hs5.le
 have hor:=hor.then hs5
 have hT:=hT.then hs5
 refine Dm 0 1 rfl (by kernel_rfl) rfl ?_
 refine Dm 1 3 rfl (by kernel_rfl) rfl ?_
 refine Dq 2 7 rfl (by kernel_rfl) (fun _ => (q_nilp rfl)) ?_
 refine Df 3 15 1 rfl (by kernel_rfl) (by kernel_rfl) rfl ?_
 refine Dlc 4 31 2 rfl (by kernel_rfl) (by kernel_rfl) rfl (by exact BlkR.cells (hs5.sat _ _ _ hb3) rfl) ?_
 refine Dq 5 63 rfl (by kernel_rfl) (fun _ => (q_iface (by kernel_rfl) rfl)) ?_
 refine Dlc 7 191 2 rfl (by kernel_rfl) (by kernel_rfl) rfl (by exact Blk.cells hox.1 rfl) ?_
 refine Dq 8 447 rfl (by kernel_rfl) (fun _ => (q_iface (by kernel_rfl) rfl)) ?_
 refine Dh 6 511 rfl (by kernel_rfl) (keep_sift (bs := [F,F]) (by kernel_rfl)) (h_invoke (f := 86) (r := .agg (elc y).toArray) (by kernel_rfl) rfl rfl (by kernel_rfl) ?_)
 refine (el_key (x := y) hs5.sat).mono ?_
 rintro _ w6 ⟨rfl, hs6⟩
 have hox:=hox.then hs6
 have hb3:=hs6.le _ _ hb3
 have hbs3:=hbs3.mono hs6.le
 have hbl3:=hbl3.mono EncE.mono hs6.le
 have hks3:=hks3.mono hs6.le
 have hkl3:=hkl3.mono' EncE.mono hs6.le
 have hor:=hor.then hs6
 have hT:=hT.then hs6
 have hz6 := hs6.size
 refine ⟨(by repeat' first | exact trivial | exact Blk.cell hox.1 rfl | exact Blk.cells hox.1 rfl | exact BlkR.cell (hs6.sat _ _ _ hb3) rfl | exact BlkR.cells (hs6.sat _ _ _ hb3) rfl | exact Blk.cell hor.1 rfl | exact Blk.cells hor.1 rfl | assumption | refine all_keep ?_ | refine And.intro ?_ ?_), ?_⟩
 refine Dh 9 1023 rfl (by kernel_rfl) (keep_sift (bs := [F,F]) (by kernel_rfl)) (h_invoke (f := 86) (r := .agg (elc x).toArray) (by kernel_rfl) rfl rfl (by kernel_rfl) ?_)
 refine (el_key (x := x) hs6.sat).mono ?_
 rintro _ w7 ⟨rfl, hs7⟩
 have hox:=hox.then hs7
 have hb3:=hs7.le _ _ hb3
 have hbs3:=hbs3.mono hs7.le
 have hbl3:=hbl3.mono EncE.mono hs7.le
 have hks3:=hks3.mono hs7.le
 have hkl3:=hkl3.mono' EncE.mono hs7.le
 have hor:=hor.then hs7
 have hT:=hT.then hs7
 have hz7 := hs7.size
 refine ⟨(by repeat' first | exact trivial | exact Blk.cell hox.1 rfl | exact Blk.cells hox.1 rfl | exact BlkR.cell (hs7.sat _ _ _ hb3) rfl | exact BlkR.cells (hs7.sat _ _ _ hb3) rfl | exact Blk.cell hor.1 rfl | exact Blk.cells hor.1 rfl | assumption | refine all_keep ?_ | refine And.intro ?_ ?_), ?_⟩
 refine Dh 10 2047 rfl (by kernel_rfl) (keep_sift (bs := [F,F]) (by kernel_rfl)) (h_call (by kernel_rfl) rfl ?_)
 refine (m_less (a := y) (b := x) hs7.sat).mono ?_
 rintro _ w8 ⟨rfl, hs8⟩
 have hox:=hox.then hs8
 have hb3:=hs8.le _ _ hb3
 have hbs3:=hbs3.mono hs8.le
 have hbl3:=hbl3.mono EncE.mono hs8.le
 have hks3:=hks3.mono hs8.le
 have hkl3:=hkl3.mono' EncE.mono hs8.le
 have hor:=hor.then hs8
 have hT:=hT.then hs8
 have hz8 := hs8.size
 refine ⟨(by repeat' first | exact trivial | exact Blk.cell hox.1 rfl | exact Blk.cells hox.1 rfl | exact BlkR.cell (hs8.sat _ _ _ hb3) rfl | exact BlkR.cells (hs8.sat _ _ _ hb3) rfl | exact Blk.cell hor.1 rfl | exact Blk.cells hor.1 rfl | assumption | refine all_keep ?_ | refine And.intro ?_ ?_), ?_⟩
 refine Dq 11 4095 rfl (by kernel_rfl) (fun _ => (q_not rfl)) ?_
 refine Dd (by kernel_rfl) (κ _ _ ?_)
 refine cw_cond rfl (fun hc1 => ?_) (fun hc1 => ?_)
 ·
  skip
  refine cw_region fun _ κ => ?_
  refine Sc 2 rfl (by kernel_rfl) rfl (by exact Blk.cells hox.1 rfl) ?_
  refine Sc 2 rfl (by kernel_rfl) rfl (by exact Blk.cells hor.1 rfl) ?_
  refine as_h0 (h_store hs8.sat hor rfl rfl rfl (by kernel_rfl) rfl rfl rfl fun w9 hs9 hn9 => ?_)
  have hox:=hox.step hs9 (fun h => by have h : _ = _ := h; omega)
  have hb3:=hs9.le _ _ hb3
  have hbs3:=hbs3.mono hs9.le
  have hbl3:=hbl3.mono EncE.mono hs9.le
  have hks3:=hks3.mono hs9.le
  have hkl3:=hkl3.mono' EncE.mono hs9.le
  clear hor; have hor := hn9; clear hn9
  have hT:=hT.own hs9 (by omega)
  have hz9 := hs9.size
  refine as_h0 (h_store hs9.sat hox rfl rfl rfl (by kernel_rfl) rfl rfl rfl fun w10 hs10 hn10 => ?_)
  have hb3:=hs10.le _ _ hb3
  have hbs3:=hbs3.mono hs10.le
  have hbl3:=hbl3.mono EncE.mono hs10.le
  have hks3:=hks3.mono hs10.le
  have hkl3:=hkl3.mono' EncE.mono hs10.le
  have hor:=hor.step hs10 (fun h => by have h : _ = _ := h; omega)
  clear hox; have hox := hn10; clear hn10
  have hT:=hT.own hs10 (by omega)
  have hz10 := hs10.size
  refine as_nil (κ _ _ ?_)
  refine hK6 _ _ ?_
  refine cw_dr (by kernel_rfl) fun _ κ => ?_
  have hs11 := Step.drew hs10.sat
  have hz11 := hs11.size
  have hox:=hox.then hs11
  have hb3:=hs11.le _ _ hb3
  have hbs3:=hbs3.mono hs11.le
  have hbl3:=hbl3.mono EncE.mono hs11.le
  have hks3:=hks3.mono hs11.le
  have hkl3:=hkl3.mono' EncE.mono hs11.le
  have hor:=hor.then hs11
  have hT:=hT.then hs11
  refine Dm 0 1 rfl (by kernel_rfl) rfl ?_
  refine Dm 1 3 rfl (by kernel_rfl) rfl ?_
  refine Dq 2 7 rfl (by kernel_rfl) (fun _ => (q_nilp rfl)) ?_
  refine Df 3 15 0 rfl (by kernel_rfl) (by kernel_rfl) rfl ?_
  refine Dl1 4 31 rfl (by kernel_rfl) (by kernel_rfl) rfl (by exact BlkR.cell (hs11.sat _ _ _ hb3) rfl) ?_
  refine Dlc 5 63 2 rfl (by kernel_rfl) (by kernel_rfl) rfl (by exact Blk.cells hor.1 rfl) ?_
  refine Dlc 6 127 2 rfl (by kernel_rfl) (by kernel_rfl) rfl (by exact Blk.cells hox.1 rfl) ?_
  refine Dm 7 255 rfl (by kernel_rfl) rfl ?_
  refine Dq 8 511 rfl (by kernel_rfl) (fun _ => (q_nilp rfl)) ?_
  refine Df 9 1023 3 rfl (by kernel_rfl) (by kernel_rfl) rfl ?_
  refine Dl1 10 2047 rfl (by kernel_rfl) (by kernel_rfl) rfl (by exact BlkR.cell (hs11.sat _ _ _ hb3) rfl) ?_
  refine Dm 12 6143 rfl (by kernel_rfl) rfl ?_
  refine Dq 13 14335 rfl (by kernel_rfl) (fun _ => (q_nilp rfl)) ?_
  refine Df 14 30719 4 rfl (by kernel_rfl) (by kernel_rfl) rfl ?_
  refine Dl1 15 63487 rfl (by kernel_rfl) (by kernel_rfl) rfl (by exact BlkR.cell (hs11.sat _ _ _ hb3) rfl) ?_
  refine Dh 11 65535 rfl (by kernel_rfl) (keep_sift (bs := [F,T,T,F,F]) (by kernel_rfl)) (h_call (by kernel_rfl) rfl ?_)
  refine (te_aheadx (x := y) hs11.sat hbs3 (by rw [encE_list.1 hbl3]; exact els_one _) (by omega)).mono ?_
  rintro _ w12 ⟨sa, sc, Mn3, rfl, hs12, hn⟩
  have hox:=hox.then hs12
  have hb3:=hs12.le _ _ hb3
  have hbs3:=hbs3.mono hs12.le
  have hbl3:=hbl3.mono EncE.mono hs12.le
  have hks3:=hks3.mono hs12.le
  have hkl3:=hkl3.mono' EncE.mono hs12.le
  have hor:=hor.then hs12
  have hT:=hT.then hs12
  have hz12 := hs12.size
  refine ⟨(by repeat' first | exact trivial | exact Blk.cell hox.1 rfl | exact Blk.cells hox.1 rfl | exact BlkR.cell (hs12.sat _ _ _ hb3) rfl | exact BlkR.cells (hs12.sat _ _ _ hb3) rfl | exact Blk.cell hor.1 rfl | exact Blk.cells hor.1 rfl | assumption | refine all_keep ?_ | refine And.intro ?_ ?_), ?_⟩
  refine Dq 16 131071 rfl (by kernel_rfl) (fun _ => (q_build (zs := [(.int .i64 0), (.int .i64 0), (.int .i64 0), (.slice none 0 0), (.slice none 0 0), (.int .i64 0)]) (places := [(0, 1), (1, 2), (3, 1), (4, 1), (5, 1)]) (cs := [_, _, _, _, _, _]) (by kernel_rfl) (by kernel_rfl) rfl rfl)) ?_
  refine Dh 17 262143 rfl (by kernel_rfl) (keep_sift (bs := [F,F,F]) (by kernel_rfl)) (h_call (by kernel_rfl) rfl ?_)
  refine (te_made (x := x) (bs := y :: cs) (ks := ls) hs12.sat hn ⟨_, _, rfl, rfl, rfl, hbl3⟩ hks3 hkl3 (by simp only [List.length_cons]; omega)).mono ?_
  rintro _ w13 ⟨qn2, Mn4, rfl, hs13, hm⟩
  have hox:=hox.then hs13
  have hb3:=hs13.le _ _ hb3
  have hbs3:=hbs3.mono hs13.le
  have hbl3:=hbl3.mono EncE.mono hs13.le
  have hks3:=hks3.mono hs13.le
  have hkl3:=hkl3.mono' EncE.mono hs13.le
  have hor:=hor.then hs13
  have hn:=hn.mono hs13.le
  have hT:=hT.then hs13
  have hz13 := hs13.size
  refine ⟨(by repeat' first | exact trivial | exact Blk.cell hox.1 rfl | exact Blk.cells hox.1 rfl | exact BlkR.cell (hs13.sat _ _ _ hb3) rfl | exact BlkR.cells (hs13.sat _ _ _ hb3) rfl | exact Blk.cell hor.1 rfl | exact Blk.cells hor.1 rfl | assumption | refine all_keep ?_ | refine And.intro ?_ ?_), ?_⟩
  refine Da 18 524287 rfl (by kernel_rfl) rfl ?_
  refine Dd (by kernel_rfl) (κ _ _ ?_)
  refine cw_ret ?_
  refine ⟨_, (res_tmp rfl res_nil), _, _, rfl, hT, ?_⟩
  unfold RT.skew
  rw [hv, if_neg (show ¬ (ltE (RT.node y cs ls).root x = true) from fun h6 => by have h5 : (ltE y x) = false := (by simpa using hc1); have h6 : (ltE y x) = true := h6; rw [h5] at h6; cases h6)]
  exact hm
 ·
  skip
  refine cw_skip ?_
  refine hK6 _ _ ?_
  refine cw_dr (by kernel_rfl) fun _ κ => ?_
  have hs14 := Step.drew hs8.sat
  have hz14 := hs14.size
  have hox:=hox.then hs14
  have hb3:=hs14.le _ _ hb3
  have hbs3:=hbs3.mono hs14.le
  have hbl3:=hbl3.mono EncE.mono hs14.le
  have hks3:=hks3.mono hs14.le
  have hkl3:=hkl3.mono' EncE.mono hs14.le
  have hor:=hor.then hs14
  have hT:=hT.then hs14
  refine Dm 0 1 rfl (by kernel_rfl) rfl ?_
  refine Dm 1 3 rfl (by kernel_rfl) rfl ?_
  refine Dq 2 7 rfl (by kernel_rfl) (fun _ => (q_nilp rfl)) ?_
  refine Df 3 15 0 rfl (by kernel_rfl) (by kernel_rfl) rfl ?_
  refine Dl1 4 31 rfl (by kernel_rfl) (by kernel_rfl) rfl (by exact BlkR.cell (hs14.sat _ _ _ hb3) rfl) ?_
  refine Dlc 5 63 2 rfl (by kernel_rfl) (by kernel_rfl) rfl (by exact Blk.cells hor.1 rfl) ?_
  refine Dlc 6 127 2 rfl (by kernel_rfl) (by kernel_rfl) rfl (by exact Blk.cells hox.1 rfl) ?_
  refine Dm 7 255 rfl (by kernel_rfl) rfl ?_
  refine Dq 8 511 rfl (by kernel_rfl) (fun _ => (q_nilp rfl)) ?_
  refine Df 9 1023 3 rfl (by kernel_rfl) (by kernel_rfl) rfl ?_
  refine Dl1 10 2047 rfl (by kernel_rfl) (by kernel_rfl) rfl (by exact BlkR.cell (hs14.sat _ _ _ hb3) rfl) ?_
  refine Dm 12 6143 rfl (by kernel_rfl) rfl ?_
  refine Dq 13 14335 rfl (by kernel_rfl) (fun _ => (q_nilp rfl)) ?_
  refine Df 14 30719 4 rfl (by kernel_rfl) (by kernel_rfl) rfl ?_
  refine Dl1 15 63487 rfl (by kernel_rfl) (by kernel_rfl) rfl (by exact BlkR.cell (hs14.sat _ _ _ hb3) rfl) ?_
  refine Dh 11 65535 rfl (by kernel_rfl) (keep_sift (bs := [F,T,T,F,F]) (by kernel_rfl)) (h_call (by kernel_rfl) rfl ?_)
  refine (te_aheadx (x := x) hs14.sat hbs3 (by rw [encE_list.1 hbl3]; exact els_one _) (by omega)).mono ?_
  rintro _ w15 ⟨sa, sc, Mn3, rfl, hs15, hn⟩
  have hox:=hox.then hs15
  have hb3:=hs15.le _ _ hb3
  have hbl3:=hbl3.mono EncE.mono hs15.le
  have hks3:=hks3.mono hs15.le
  have hkl3:=hkl3.mono' EncE.mono hs15.le
  have hor:=hor.then hs15
  have hT:=hT.then hs15
  have hz15 := hs15.size
  refine ⟨(by repeat' first | exact trivial | exact Blk.cell hox.1 rfl | exact Blk.cells hox.1 rfl | exact BlkR.cell (hs15.sat _ _ _ hb3) rfl | exact BlkR.cells (hs15.sat _ _ _ hb3) rfl | exact Blk.cell hor.1 rfl | exact Blk.cells hor.1 rfl | assumption | refine all_keep ?_ | refine And.intro ?_ ?_), ?_⟩
  refine Dq 16 131071 rfl (by kernel_rfl) (fun _ => (q_build (zs := [(.int .i64 0), (.int .i64 0), (.int .i64 0), (.slice none 0 0), (.slice none 0 0), (.int .i64 0)]) (places := [(0, 1), (1, 2), (3, 1), (4, 1), (5, 1)]) (cs := [_, _, _, _, _, _]) (by kernel_rfl) (by kernel_rfl) rfl rfl)) ?_
  refine Dh 17 262143 rfl (by kernel_rfl) (keep_sift (bs := [F,F,F]) (by kernel_rfl)) (h_call (by kernel_rfl) rfl ?_)
  refine (te_made (x := y) (bs := x :: cs) (ks := ls) hs15.sat hn ⟨_, _, rfl, rfl, rfl, hbl3⟩ hks3 hkl3 (by simp only [List.length_cons]; omega)).mono ?_
  rintro _ w16 ⟨qn2, Mn4, rfl, hs16, hm⟩
  have hox:=hox.then hs16
  have hb3:=hs16.le _ _ hb3
  have hor:=hor.then hs16
  have hT:=hT.then hs16
  have hz16 := hs16.size
  refine ⟨(by repeat' first | exact trivial | exact Blk.cell hox.1 rfl | exact Blk.cells hox.1 rfl | exact BlkR.cell (hs16.sat _ _ _ hb3) rfl | exact BlkR.cells (hs16.sat _ _ _ hb3) rfl | exact Blk.cell hor.1 rfl | exact Blk.cells hor.1 rfl | assumption | refine all_keep ?_ | refine And.intro ?_ ?_), ?_⟩
  refine Da 18 524287 rfl (by kernel_rfl) rfl ?_
  refine Dd (by kernel_rfl) (κ _ _ ?_)
  refine cw_ret ?_
  refine ⟨_, (res_tmp rfl res_nil), _, _, rfl, hT, ?_⟩
  unfold RT.skew
  rw [hv, if_pos (show (ltE (RT.node y cs ls).root x = true) from (show (ltE y x) = true by simpa using hc1))]
  exact hm
end Go.Proofs.YtgcgjpfjjgalmaaGreat
/- Binomial heaps, part 1. -/
namespace Go.Proofs.YtgcgjpfjjgalmaaGreat
open Go Go.Eng
theorem b_size {w : World} {M : Mem} {ts : List (RT El)} {q : Option Addr} (hs : Sat M w) (h : FRep 197 220 2 EncE M ts q) (hz : RT.sizes ts ≤ 1000000000) :
  Does Tryz.prog 116 #[.agg #[.pointer q]] w (fun v w' => v = .int .i64 (RT.sizes ts : Nat) ∧ Step Nope M w M w') := by
 have hT := Step.refl Nope hs
 obtain ⟨l, hc, hk, hll, hlz⟩ := h.len
 refine fn_enter Tryz.func116 rfl (rs := [.tmp 2]) rfl rfl rfl rfl ?_
 refine cw_rs fun _ κ => ?_
 refine as_h rfl (h_boxM hs rfl rfl fun b1 M1 w1 hs1 hb1 e1 => ?_)
 have hc:=hc.mono hs1.le
 have hk:=hk.mono' EncE.mono hs1.le
 have hT:=hT.then hs1
 have hz1 := hs1.size
 refine Sa rfl rfl ?_
 refine as_nil (κ _ _ ?_)
 refine cw_rs fun _ κ => ?_
 refine Sa rfl rfl ?_
 refine as_nil (κ _ _ ?_)
 refine cw_seq fun _ hK3 => ?_
 refine cw_rs fun _ κ => ?_
 refine Sf 0 rfl (by kernel_rfl) rfl ?_
 refine Sc 1 rfl (by kernel_rfl) rfl (by exact BlkR.cells (hs1.sat _ _ _ hb1) rfl) ?_
 refine as_h rfl (h_call (by kernel_rfl) rfl ?_)
 refine (ce_all hs1.sat hc (by omega)).mono ?_
 rintro av w2 ⟨Ma, hs2, hba, hfa⟩
 have hk:=hk.mono' EncE.mono hs2.le
 have hT:=hT.then hs2
 have hz2 := hs2.size
 obtain ⟨aa, ac, rfl, _, _⟩ := hba.slice
 refine as_q rfl rfl (q_len (by kernel_rfl) rfl _) ?_
 refine Sm rfl rfl ?_
 refine as_nil (κ _ _ ?_)
 refine cw_block ?_
 refine cw_loop (fun mm l1 w1 => ∃ (i : Nat) (z : Int), mm = l.length - i ∧ i ≤ l.length ∧ z = (RT.sizes (ts.take i) : Nat) ∧ l1 = [(8, .slice aa l.length ac), (9, .int .i64 (l.length : Nat)), (10, .int .i64 i), (3, .int .i64 z)] ∧ Step Nope M w Ma w1 ∧ Buf w1 Ma 195 1 (.slice aa l.length ac) l.length (ptrs l)) (l.length) [(8, .slice aa l.length ac), (9, .int .i64 (l.length : Nat)), (10, .int .i64 (0 : Nat)), (3, .int .i64 (0 : Nat))] (.cons rfl (.cons rfl (.cons rfl (.cons rfl (.nil _))))) ?_ ?_
 ·
  exact ⟨0, _, rfl, Nat.zero_le _, rfl, rfl, hT, hba⟩
 clear hT hba
 rintro mm l1 w1 ⟨i, z, rfl, hi, rfl, rfl, hT, hba⟩
 refine cw_rs fun _ κ => ?_
 refine as_q rfl rfl (q_lt rfl rfl) ?_
 refine as_nil (κ _ _ ?_)
 refine cw_seq fun _ hK6 => ?_
 refine cw_cond rfl (fun hc0 => ?_) (fun hc0 => ?_)
 ·
  have hlt : i < l.length := by have := of_decide_eq_true hc0; omega
  obtain ⟨k, hkk⟩ : ∃ k, ts[i]? = some k := ⟨ts[i]'(by omega), by simp⟩
  obtain ⟨kq, hkq, hkr⟩ := hk.get hkk
  obtain ⟨g, o, rfl⟩ := hba.rd.there (by omega)
  have hks1 := RT.sizes_take hkk
  have hks2 := RT.sizes_take_le ts (i + 1)
  refine cw_skip ?_
  refine hK6 _ _ ?_
  refine cw_seq fun _ hK7 => ?_
  refine cw_block ?_
  refine cw_rs fun _ κ => ?_
  refine as_q rfl rfl (q_indexAddr (e := 195) (size := 1) (by kernel_rfl) (by kernel_rfl) rfl rfl (by omega) (by omega)) ?_
  refine S1 rfl (by kernel_rfl) rfl (Buf.cell hba (u := .pointer kq) (j := (i : Int).toNat * 1) (by rw [show (i : Int).toNat * 1 = i from by omega]; simp [ptrs, hkq])) ?_
  refine Sa rfl rfl ?_
  refine as_nil (κ _ _ ?_)
  refine cw_region fun _ κ => ?_
  refine Sm rfl rfl ?_
  refine Sm rfl rfl ?_
  refine as_h rfl (h_call (by kernel_rfl) rfl ?_)
  refine (te_size hT.sat hkr).mono ?_
  rintro _ w3 ⟨rfl, hs3⟩
  have hba:=hba.then hs3
  have hT:=hT.then hs3
  have hz3 := hs3.size
  refine as_q rfl rfl (q_addx rfl rfl (by omega) (by omega)) ?_
  refine Sa rfl rfl ?_
  refine as_nil (κ _ _ ?_)
  refine hK7 _ _ ?_
  refine cw_region fun _ κ => ?_
  refine as_q rfl rfl (q_addx rfl rfl (by omega) (by omega)) ?_
  refine Sm rfl rfl ?_
  refine as_nil (κ _ _ ?_)
  refine ⟨_, _, ?_, (.cons rfl (.cons rfl (.cons rfl (.cons rfl (.nil _))))), i + 1, _, rfl, by omega, ?_, rfl, hT, hba⟩
  · omega
  · omega
 ·
  have hge : i = l.length := by have := of_decide_eq_false hc0; omega
  refine cw_exit ?_
  refine hK3 _ _ ?_
  refine cw_rs fun _ κ => ?_
  refine Sm rfl rfl ?_
  refine Sa rfl rfl ?_
  refine as_nil (κ _ _ ?_)
  refine cw_ret ?_
  subst hge
  exact ⟨_, (res_tmp rfl res_nil), by rw [List.take_of_length_le (by omega)]; rfl, hT.forget⟩
theorem b_least {w : World} {M : Mem} {ts : List (RT El)} {l : List (Option Addr)} {sa : Option Addr} {sc : Nat} (hs : Sat M w) (hr : Rds M w 1 (.slice sa ts.length sc) ts.length (ptrs l)) (hk : TReps 220 2 EncE M ts l) (hz : ts.length ≤ 1000000000) :
  Does Tryz.prog 121 #[.pointer none, .slice sa ts.length sc] w (fun v w' => v = .int .i64 (leastN ltE (ts.map RT.root) (ts.length - 1) : Nat) ∧ Step Nope M w M w') := by
 have hT := Step.refl Nope hs
 have hrts : ∀ (j : Nat) (t : RT El), ts[j]? = some t → (ts.map RT.root)[j]? = some t.root := fun j t h => by rw [List.getElem?_map, h]; rfl
 have hr0 := hr
 refine fn_enter Tryz.func121 rfl (rs := [.tmp 4]) rfl rfl rfl rfl ?_
 refine cw_rs fun _ κ => ?_
 refine Sa rfl rfl ?_
 refine as_nil (κ _ _ ?_)
 refine cw_rs fun _ κ => ?_
 refine Sa rfl rfl ?_
 refine as_nil (κ _ _ ?_)
 refine cw_seq fun _ hK3 => ?_
 refine cw_rs fun _ κ => ?_
 refine Sa rfl rfl ?_
 refine as_nil (κ _ _ ?_)
 refine cw_block ?_
 refine cw_loop (fun mm l1 w1 => ∃ (i : Nat) (z : Int), mm = ts.length - i ∧ 1 ≤ i ∧ (i ≤ ts.length ∨ i = 1) ∧ z = (leastN ltE (ts.map RT.root) (i - 1) : Nat) ∧ l1 = [(0, .pointer none), (1, .slice sa ts.length sc), (5, .int .i64 z), (6, .int .i64 i)] ∧ Step Nope M w M w1) (ts.length - 1) [(0, .pointer none), (1, .slice sa ts.length sc), (5, .int .i64 (0 : Nat)), (6, .int .i64 (1 : Nat))] (.cons rfl (.cons rfl (.cons rfl (.cons rfl (.nil _))))) ?_ ?_
 ·
  exact ⟨1, _, by omega, by omega, by omega, rfl, rfl, hT⟩
 clear hT
 rintro mm l1 w1 ⟨i, z, rfl, hi1, hi, rfl, rfl, hT⟩
 refine cw_seq fun _ hK5 => ?_
 refine cw_rs fun _ κ => ?_
 refine Sm rfl rfl ?_
 refine Sm rfl rfl ?_
 refine as_q rfl rfl (q_len (by kernel_rfl) rfl _) ?_
 refine as_q rfl rfl (q_lt rfl rfl) ?_
 refine as_nil (κ _ _ ?_)
 refine cw_cond rfl (fun hc0 => ?_) (fun hc0 => ?_)
 ·
  have hlt : i < ts.length := by have := of_decide_eq_true hc0; omega
  obtain ⟨k, hkk⟩ : ∃ k, ts[i]? = some k := ⟨ts[i], by simp⟩
  obtain ⟨kq, hkq, hkr⟩ := hk.get hkk
  have hbl := leastN_le ltE (ts.map RT.root) (i - 1)
  obtain ⟨kb, hkb0⟩ : ∃ k, ts[leastN ltE (ts.map RT.root) (i - 1)]? = some k := ⟨ts[leastN ltE (ts.map RT.root) (i - 1)]'(by omega), by simp⟩
  obtain ⟨kbq, hkbq, hkb⟩ := hk.get hkb0
  obtain ⟨g, o, rfl⟩ := (hr0 _ _ hT).there (by omega)
  have hstep := leastN_step (lt := ltE) (i := i - 1) (hrts _ k (by rw [show i - 1 + 1 = i by omega]; exact hkk)) (hrts _ kb hkb0)
  rw [show i - 1 + 1 = i by omega] at hstep
  refine cw_skip ?_
  refine hK5 _ _ ?_
  refine cw_seq fun _ hK7 => ?_
  refine cw_block ?_
  refine cw_rs fun _ κ => ?_
  refine Sm rfl rfl ?_
  refine Sm rfl rfl ?_
  refine as_q rfl rfl (q_indexAddr (e := 195) (size := 1) (by kernel_rfl) (by kernel_rfl) rfl rfl (by omega) (by omega)) ?_
  refine S1 rfl (by kernel_rfl) rfl ((hr0 _ _ hT).cell (u := .pointer kq) (j := ((i : Nat) : Int).toNat * 1) (by rw [show ((i : Nat) : Int).toNat * 1 = i from by omega]; simp [ptrs, hkq])) ?_
  refine as_h rfl (h_call (by kernel_rfl) rfl ?_)
  refine (te_root hT.sat hkr).mono ?_
  rintro _ w1 ⟨rfl, hs1⟩
  have hT:=hT.then hs1
  have hz1 := hs1.size
  refine Sm rfl rfl ?_
  refine Se rfl rfl rfl ?_
  refine Se rfl rfl rfl ?_
  have hqau := hT.size
  refine as_h rfl (h_allocO (z := (.agg #[(.int .i64 0), (.int .i64 0)])) hs1.sat (by kernel_rfl) rfl fun bu w2 hs2 hou eu => ?_)
  have hT:=hT.then hs2
  have hz2 := hs2.size
  have hlu := hou.1.lt
  refine as_h0 (h_store hs2.sat hou rfl rfl rfl (by kernel_rfl) rfl rfl rfl fun w3 hs3 hn3 => ?_)
  clear hou; have hou := hn3; clear hn3
  have hT:=hT.own hs3 (by omega)
  have hz3 := hs3.size
  refine Sa rfl rfl ?_
  refine as_nil (κ _ _ ?_)
  refine cw_rs fun _ κ => ?_
  refine Sm rfl rfl ?_
  refine Sm rfl rfl ?_
  refine as_q rfl rfl (q_indexAddr (e := 195) (size := 1) (by kernel_rfl) (by kernel_rfl) rfl rfl (by omega) (by omega)) ?_
  refine S1 rfl (by kernel_rfl) rfl ((hr0 _ _ hT).cell (u := .pointer kbq) (j := ((leastN ltE (ts.map RT.root) (i - 1) : Nat) : Int).toNat * 1) (by rw [show ((leastN ltE (ts.map RT.root) (i - 1) : Nat) : Int).toNat * 1 = leastN ltE (ts.map RT.root) (i - 1) from by omega]; simp [ptrs, hkbq])) ?_
  refine as_h rfl (h_call (by kernel_rfl) rfl ?_)
  refine (te_root hs3.sat hkb).mono ?_
  rintro _ w4 ⟨rfl, hs4⟩
  have hou:=hou.then hs4
  have hT:=hT.then hs4
  have hz4 := hs4.size
  refine Sm rfl rfl ?_
  refine Se rfl rfl rfl ?_
  refine Se rfl rfl rfl ?_
  have hqav := hT.size
  refine as_h rfl (h_allocO (z := (.agg #[(.int .i64 0), (.int .i64 0)])) hs4.sat (by kernel_rfl) rfl fun bv w5 hs5 hov ev => ?_)
  have hou:=hou.then hs5
  have hT:=hT.then hs5
  have hz5 := hs5.size
  have hlv := hov.1.lt
  refine as_h0 (h_store hs5.sat hov rfl rfl rfl (by kernel_rfl) rfl rfl rfl fun w6 hs6 hn6 => ?_)
  have hou:=hou.step hs6 (fun h => by have h : _ = _ := h; omega)
  clear hov; have hov := hn6; clear hn6
  have hT:=hT.own hs6 (by omega)
  have hz6 := hs6.size
  refine Sa rfl rfl ?_
  refine as_nil (κ _ _ ?_)
  refine cw_rs fun _ κ => ?_
  refine Sm rfl rfl ?_
  refine Sc 2 rfl (by kernel_rfl) rfl (by exact Blk.cells hou.1 rfl) ?_
  refine Sc 2 rfl (by kernel_rfl) rfl (by exact Blk.cells hov.1 rfl) ?_
  refine as_h rfl (h_call (by kernel_rfl) rfl ?_)
  refine (m_less (a := k.root) (b := kb.root) hs6.sat).mono ?_
  rintro _ w7 ⟨rfl, hs7⟩
  have hT:=hT.then hs7
  have hz7 := hs7.size
  refine as_nil (κ _ _ ?_)
  refine cw_cond rfl (fun hc1 => ?_) (fun hc1 => ?_)
  ·
   rw [if_pos hc1] at hstep
   refine cw_region fun _ κ => ?_
   refine Sm rfl rfl ?_
   refine Sa rfl rfl ?_
   refine as_nil (κ _ _ ?_)
   refine hK7 _ _ ?_
   refine cw_region fun _ κ => ?_
   refine Sm rfl rfl ?_
   refine as_q rfl rfl (q_addx rfl rfl (by omega) (by omega)) ?_
   refine Sa rfl rfl ?_
   refine as_nil (κ _ _ ?_)
   refine ⟨_, _, ?_, (.cons rfl (.cons rfl (.cons rfl (.cons rfl (.nil _))))), i + 1, _, rfl, by omega, by omega, ?_, rfl, hT.forget⟩
   · omega
   · rw [show i + 1 - 1 = i by omega, hstep]
  ·
   rw [if_neg (by rw [hc1]; decide)] at hstep
   refine cw_skip ?_
   refine hK7 _ _ ?_
   refine cw_region fun _ κ => ?_
   refine Sm rfl rfl ?_
   refine as_q rfl rfl (q_addx rfl rfl (by omega) (by omega)) ?_
   refine Sa rfl rfl ?_
   refine as_nil (κ _ _ ?_)
   refine ⟨_, _, ?_, (.cons rfl (.cons rfl (.cons rfl (.cons rfl (.nil _))))), i + 1, _, rfl, by omega, by omega, ?_, rfl, hT.forget⟩
   · omega
   · rw [show i + 1 - 1 = i by omega, hstep]
 ·
  have hge : i - 1 = ts.length - 1 := by have := of_decide_eq_false hc0; omega
  refine cw_exit ?_
  refine hK3 _ _ ?_
  refine cw_rs fun _ κ => ?_
  refine Sm rfl rfl ?_
  refine Sa rfl rfl ?_
  refine as_nil (κ _ _ ?_)
  refine cw_ret ?_
  exact ⟨_, (res_tmp rfl res_nil), by rw [hge]; rfl, hT.forget⟩
theorem b_min {w : World} {M : Mem} {ts : List (RT El)} {t : RT El} {q : Option Addr} (hs : Sat M w) (h : FRep 197 220 2 EncE M ts q) (ht : ts[leastN ltE (ts.map RT.root) (ts.length - 1)]? = some t) (hz : RT.sizes ts ≤ 1000000000) :
  Does Tryz.prog 113 #[.agg #[.pointer q], .pointer none] w (fun v w' => v = .tuple #[.agg (elc t.root).toArray, .bool true] ∧ Step Nope M w M w') := by
 have hT := Step.refl Nope hs
 obtain ⟨l, hc, hk, hll, hlz⟩ := h.len
 obtain ⟨kq, hkq, hkr⟩ := hk.get ht
 have hpos : 0 < ts.length := Nat.lt_of_le_of_lt (Nat.zero_le _) (List.getElem?_eq_some_iff.1 ht).1
 have hbl := leastN_le ltE (ts.map RT.root) (ts.length - 1)
 refine fn_enter Tryz.func113 rfl (rs := [.cell 4 24, .tmp 5]) rfl rfl rfl rfl ?_
 refine cw_rs fun _ κ => ?_
 refine as_h rfl (h_boxM hs rfl rfl fun b1 M1 w1 hs1 hb1 e1 => ?_)
 have hc:=hc.mono hs1.le
 have hk:=hk.mono' EncE.mono hs1.le
 have hkr:=hkr.mono' EncE.mono hs1.le
 have hT:=hT.then hs1
 have hz1 := hs1.size
 have hqar := hT.size
 refine as_h rfl (h_allocO (z := (.agg #[(.int .i64 0), (.int .i64 0)])) hs1.sat (by kernel_rfl) rfl fun br w2 hs2 hor er => ?_)
 have hc:=hc.mono hs2.le
 have hk:=hk.mono' EncE.mono hs2.le
 have hkr:=hkr.mono' EncE.mono hs2.le
 have hb1:=hs2.le _ _ hb1
 have hT:=hT.then hs2
 have hz2 := hs2.size
 have hlr := hor.1.lt
 refine Sa rfl rfl ?_
 refine as_nil (κ _ _ ?_)
 refine cw_rs fun _ κ => ?_
 refine Sf 0 rfl (by kernel_rfl) rfl ?_
 refine Sc 1 rfl (by kernel_rfl) rfl (by exact BlkR.cells (hs2.sat _ _ _ hb1) rfl) ?_
 refine as_h rfl (h_call (by kernel_rfl) rfl ?_)
 refine (ce_all hs2.sat hc (by omega)).mono ?_
 rintro av w3 ⟨Ma, hs3, hba, hfa⟩
 have hk:=hk.mono' EncE.mono hs3.le
 have hkr:=hkr.mono' EncE.mono hs3.le
 have hor:=hor.then hs3
 have hT:=hT.then hs3
 have hz3 := hs3.size
 rw [hll] at hba
 obtain ⟨aa, ac, rfl, _, _⟩ := hba.slice
 obtain ⟨g, o, rfl⟩ := hba.rd.there (by omega)
 refine Sa rfl rfl ?_
 refine as_nil (κ _ _ ?_)
 refine cw_seq fun _ hK3 => ?_
 refine cw_rs fun _ κ => ?_
 refine Sm rfl rfl ?_
 refine as_q rfl rfl (q_len (by kernel_rfl) rfl _) ?_
 refine as_q rfl rfl (q_eqF rfl rfl (by omega)) ?_
 refine as_nil (κ _ _ ?_)
 refine cw_false rfl ?_
 refine cw_skip ?_
 refine hK3 _ _ ?_
 refine cw_rs fun _ κ => ?_
 refine Sm rfl rfl ?_
 refine Sm rfl rfl ?_
 refine Sm rfl rfl ?_
 refine as_h rfl (h_call (by kernel_rfl) rfl ?_)
 refine (b_least hs3.sat hba.rds hk (by omega)).mono ?_
 rintro _ w4 ⟨rfl, hs4⟩
 have hkr:=hkr.mono' EncE.mono hs4.le
 have hor:=hor.then hs4
 have hba:=hba.then hs4
 have hT:=hT.then hs4
 have hz4 := hs4.size
 refine as_q rfl rfl (q_indexAddr (e := 195) (size := 1) (by kernel_rfl) (by kernel_rfl) rfl rfl (by omega) (by omega)) ?_
 refine S1 rfl (by kernel_rfl) rfl (Buf.cell hba (u := .pointer kq) (j := ((leastN ltE (ts.map RT.root) (ts.length - 1) : Nat) : Int).toNat * 1) (by rw [show ((leastN ltE (ts.map RT.root) (ts.length - 1) : Nat) : Int).toNat * 1 = leastN ltE (ts.map RT.root) (ts.length - 1) from by omega]; simp [ptrs, hkq])) ?_
 refine as_h rfl (h_call (by kernel_rfl) rfl ?_)
 refine (te_root hs4.sat hkr).mono ?_
 rintro _ w5 ⟨rfl, hs5⟩
 have hor:=hor.then hs5
 have hT:=hT.then hs5
 have hz5 := hs5.size
 refine Se rfl rfl rfl ?_
 refine Se rfl rfl rfl ?_
 refine as_h0 (h_store hs5.sat hor rfl rfl rfl (by kernel_rfl) rfl rfl rfl fun w6 hs6 hn6 => ?_)
 clear hor; have hor := hn6; clear hn6
 have hT:=hT.own hs6 (by omega)
 have hz6 := hs6.size
 refine Sa rfl rfl ?_
 refine as_nil (κ _ _ ?_)
 refine cw_ret ?_
 exact ⟨_, (res_cell rfl (loadVar_n (n := 2) (by kernel_rfl) (by exact Blk.cells hor.1 rfl)) (res_tmp rfl res_nil)), rfl, hT.forget⟩
theorem b_put {w : World} {M : Mem} {t0 : RT El} {ts0 : List (RT El)} {qt0 q0 : Option Addr} (hs : Sat M w) (ht : TRep 220 2 EncE M t0 qt0) (h : FRep 197 220 2 EncE M ts0 q0) (hz : t0.size + RT.sizes ts0 ≤ 1000000000) :
  Does Tryz.prog 117 #[.pointer none, .pointer qt0, .agg #[.pointer q0]] w (fun v w' => ∃ q M', v = .agg #[.pointer q] ∧ Step Nope M w M' w' ∧ FRep 197 220 2 EncE M' (bput ltE t0 ts0) q) := by
 have hT := Step.refl Nope hs
 obtain ⟨l, hcl, hk⟩ := h
 refine fn_enter Tryz.func117 rfl (rs := [.cell 6 72]) rfl rfl rfl rfl ?_
 refine cw_rs fun _ κ => ?_
 have hqal := hT.size
 refine as_h rfl (h_boxO hs rfl rfl fun bl w1 hs1 hol el => ?_)
 have hcl:=hcl.mono hs1.le
 have hk:=hk.mono' EncE.mono hs1.le
 have ht:=ht.mono' EncE.mono hs1.le
 have hT:=hT.then hs1
 have hz1 := hs1.size
 have hll := hol.1.lt
 have hqar := hT.size
 refine as_h rfl (h_allocO (z := (.agg #[(.pointer none)])) hs1.sat (by kernel_rfl) rfl fun br w2 hs2 hor er => ?_)
 have hcl:=hcl.mono hs2.le
 have hk:=hk.mono' EncE.mono hs2.le
 have ht:=ht.mono' EncE.mono hs2.le
 have hol:=hol.then hs2
 have hT:=hT.then hs2
 have hz2 := hs2.size
 have hlr := hor.1.lt
 refine as_nil (κ _ _ ?_)
 refine cw_scope ?_
 refine cw_seq fun _ hK2 => ?_
 refine cw_label ?_
 refine hK2 _ _ ?_
 refine cw_seq fun _ hK3 => ?_
 refine cw_block ?_
 refine cw_loop (fun mm l1 w1 => ∃ (t : RT El) (ts : List (RT El)) (l : List (Option Addr)) (qt q : Option Addr) (M1 : Mem), mm = ts.length ∧ bput ltE t ts = bput ltE t0 ts0 ∧ t.size + RT.sizes ts ≤ 1000000000 ∧ l1 = [(0, .pointer none), (1, .pointer qt), (5, .pointer (some ⟨bl, 0, none⟩)), (6, .pointer (some ⟨br, 0, none⟩))] ∧ Step Nope M w M1 w1 ∧ CRep 197 M1 l (.pointer q) ∧ TReps 220 2 EncE M1 ts l ∧ TRep 220 2 EncE M1 t qt ∧ Own w1 M1 bl [.pointer q] 72 ∧ Own w1 M1 br [.pointer none] 72) (ts0.length) [(0, .pointer none), (1, .pointer qt0), (5, .pointer (some ⟨bl, 0, none⟩)), (6, .pointer (some ⟨br, 0, none⟩))] (.cons rfl (.cons rfl (.cons rfl (.cons rfl (.nil _))))) ?_ ?_
 ·
  exact ⟨t0, ts0, l, qt0, q0, M, rfl, rfl, hz, rfl, hT, hcl, hk, ht, hol, hor⟩
 have hblw : w.heap.size ≤ bl := by omega
 have hbrw : w.heap.size ≤ br ∧ bl ≠ br := by omega
 clear hT hcl hk ht hol hor hz
 rintro mm l1 w1 ⟨t, ts, l, qt, q, M1, rfl, hmod, hz, rfl, hT, hcl, hk, ht, hol, hor⟩
 refine cw_block ?_
 rcases ts with _ | ⟨f, r⟩
 ·
  have hl0 : l = [] := treps_nil.1 hk
  subst hl0
  have hq0 : q = none := by
   have h : Value.pointer q = .pointer none := hcl
   cases h; rfl
  subst hq0
  refine cw_rs fun _ κ => ?_
  refine Sc 1 rfl (by kernel_rfl) rfl (by exact Blk.cells hol.1 rfl) ?_
  refine as_h rfl (h_call (by kernel_rfl) rfl ?_)
  refine (ce_first_n hT.sat).mono ?_
  rintro _ w3 ⟨rfl, hs3⟩
  have hcl:=hcl.mono hs3.le
  have hk:=hk.mono' EncE.mono hs3.le
  have ht:=ht.mono' EncE.mono hs3.le
  have hol:=hol.then hs3
  have hor:=hor.then hs3
  have hT:=hT.then hs3
  have hz3 := hs3.size
  refine Sm rfl rfl ?_
  refine Se rfl rfl rfl ?_
  refine Se rfl rfl rfl ?_
  refine Sa rfl rfl ?_
  refine Sa rfl rfl ?_
  refine as_nil (κ _ _ ?_)
  refine cw_seq fun _ hK5 => ?_
  refine cw_block ?_
  refine cw_rs fun _ κ => ?_
  refine Sm rfl rfl ?_
  refine as_q rfl rfl (q_not rfl) ?_
  refine Sm rfl rfl ?_
  refine as_gskip rfl rfl rfl rfl rfl ?_
  refine as_gskip rfl rfl rfl rfl rfl ?_
  refine as_gskip rfl rfl rfl rfl rfl ?_
  refine as_gskip rfl rfl rfl rfl rfl ?_
  refine as_gskip rfl rfl rfl rfl rfl ?_
  refine as_q rfl rfl (q_pick_t rfl rfl) ?_
  refine Sa rfl rfl ?_
  refine as_nil (κ _ _ ?_)
  refine cw_true rfl ?_
  refine cw_exit ?_
  refine hK3 _ _ ?_
  refine cw_rs fun _ κ => ?_
  refine Sc 1 rfl (by kernel_rfl) rfl (by exact Blk.cells hol.1 rfl) ?_
  refine Sm rfl rfl ?_
  refine as_h rfl (h_call (by kernel_rfl) rfl ?_)
  have hpl := hk.length
  have hpz := RT.sizes_length ([] : List (RT El))
  refine (ce_push hs3.sat hcl (by rw [hpl]; omega)).mono ?_
  rintro _ w4 ⟨qp, Mp, rfl, hs4, hp⟩
  have hcl:=hcl.mono hs4.le
  have hk:=hk.mono' EncE.mono hs4.le
  have ht:=ht.mono' EncE.mono hs4.le
  have hol:=hol.then hs4
  have hor:=hor.then hs4
  have hT:=hT.then hs4
  have hz4 := hs4.size
  refine as_h0 (h_store hs4.sat hor rfl rfl rfl (by kernel_rfl) rfl rfl rfl fun w5 hs5 hn5 => ?_)
  have hcl:=hcl.mono hs5.le
  have hk:=hk.mono' EncE.mono hs5.le
  have ht:=ht.mono' EncE.mono hs5.le
  have hol:=hol.step hs5 (fun h => by have h : _ = _ := h; omega)
  have hp:=hp.mono hs5.le
  clear hor; have hor := hn5; clear hn5
  have hT:=hT.own hs5 (by omega)
  have hz5 := hs5.size
  refine as_nil (κ _ _ ?_)
  refine cw_ret ?_
  rw [show bput ltE t0 ts0 = [t] from by rw [← hmod]; rfl]
  exact ⟨_, (res_cell rfl (loadVar_n (n := 1) (by kernel_rfl) (by exact Blk.cells hor.1 rfl)) res_nil), _, _, rfl, hT, _, hp, treps_cons.2 ⟨_, _, rfl, ht, hk⟩⟩
 ·
  obtain ⟨fq, lr, rfl, hf, hk2⟩ := treps_cons.1 hk
  refine cw_rs fun _ κ => ?_
  refine Sc 1 rfl (by kernel_rfl) rfl (by exact Blk.cells hol.1 rfl) ?_
  refine as_h rfl (h_call (by kernel_rfl) rfl ?_)
  refine (ce_first hT.sat hcl).mono ?_
  rintro _ w6 ⟨rfl, hs6⟩
  have hcl:=hcl.mono hs6.le
  have hk:=hk.mono' EncE.mono hs6.le
  have ht:=ht.mono' EncE.mono hs6.le
  have hol:=hol.then hs6
  have hor:=hor.then hs6
  have hf:=hf.mono' EncE.mono hs6.le
  have hk2:=hk2.mono' EncE.mono hs6.le
  have hT:=hT.then hs6
  have hz6 := hs6.size
  refine Sm rfl rfl ?_
  refine Se rfl rfl rfl ?_
  refine Se rfl rfl rfl ?_
  refine Sa rfl rfl ?_
  refine Sa rfl rfl ?_
  refine as_nil (κ _ _ ?_)
  refine cw_seq fun _ hK9 => ?_
  refine cw_block ?_
  refine cw_rs fun _ κ => ?_
  refine Sm rfl rfl ?_
  refine as_q rfl rfl (q_not rfl) ?_
  refine Sm rfl rfl ?_
  refine as_gh rfl rfl rfl rfl (h_q rfl (q_move rfl) ?_)
  refine as_gh rfl rfl rfl rfl (h_call (by kernel_rfl) rfl ?_)
  refine (te_rank hs6.sat ht).mono ?_
  rintro _ w7 ⟨rfl, hs7⟩
  have hcl:=hcl.mono hs7.le
  have hk:=hk.mono' EncE.mono hs7.le
  have ht:=ht.mono' EncE.mono hs7.le
  have hol:=hol.then hs7
  have hor:=hor.then hs7
  have hf:=hf.mono' EncE.mono hs7.le
  have hk2:=hk2.mono' EncE.mono hs7.le
  have hT:=hT.then hs7
  have hz7 := hs7.size
  refine as_gh rfl rfl rfl rfl (h_q rfl (q_move rfl) ?_)
  refine as_gh rfl rfl rfl rfl (h_call (by kernel_rfl) rfl ?_)
  refine (te_rank hs7.sat hf).mono ?_
  rintro _ w8 ⟨rfl, hs8⟩
  have hcl:=hcl.mono hs8.le
  have hk:=hk.mono' EncE.mono hs8.le
  have ht:=ht.mono' EncE.mono hs8.le
  have hol:=hol.then hs8
  have hor:=hor.then hs8
  have hf:=hf.mono' EncE.mono hs8.le
  have hk2:=hk2.mono' EncE.mono hs8.le
  have hT:=hT.then hs8
  have hz8 := hs8.size
  refine as_gh rfl rfl rfl rfl (h_q rfl (q_lt rfl rfl) ?_)
  refine as_q rfl rfl (q_pick_f rfl rfl) ?_
  refine Sa rfl rfl ?_
  refine as_nil (κ _ _ ?_)
  refine cw_cond rfl (fun hc0 => ?_) (fun hc0 => ?_)
  ·
   skip
   refine cw_exit ?_
   refine hK3 _ _ ?_
   refine cw_rs fun _ κ => ?_
   refine Sc 1 rfl (by kernel_rfl) rfl (by exact Blk.cells hol.1 rfl) ?_
   refine Sm rfl rfl ?_
   refine as_h rfl (h_call (by kernel_rfl) rfl ?_)
   have hpl := hk.length
   have hpz := RT.sizes_length (f :: r)
   refine (ce_push hs8.sat hcl (by rw [hpl]; omega)).mono ?_
   rintro _ w9 ⟨qp, Mp, rfl, hs9, hp⟩
   have hcl:=hcl.mono hs9.le
   have hk:=hk.mono' EncE.mono hs9.le
   have ht:=ht.mono' EncE.mono hs9.le
   have hol:=hol.then hs9
   have hor:=hor.then hs9
   have hf:=hf.mono' EncE.mono hs9.le
   have hk2:=hk2.mono' EncE.mono hs9.le
   have hT:=hT.then hs9
   have hz9 := hs9.size
   refine as_h0 (h_store hs9.sat hor rfl rfl rfl (by kernel_rfl) rfl rfl rfl fun w10 hs10 hn10 => ?_)
   have hcl:=hcl.mono hs10.le
   have hk:=hk.mono' EncE.mono hs10.le
   have ht:=ht.mono' EncE.mono hs10.le
   have hol:=hol.step hs10 (fun h => by have h : _ = _ := h; omega)
   have hf:=hf.mono' EncE.mono hs10.le
   have hk2:=hk2.mono' EncE.mono hs10.le
   have hp:=hp.mono hs10.le
   clear hor; have hor := hn10; clear hn10
   have hT:=hT.own hs10 (by omega)
   have hz10 := hs10.size
   refine as_nil (κ _ _ ?_)
   refine cw_ret ?_
   rw [show bput ltE t0 ts0 = t :: f :: r from by rw [← hmod]; unfold bput; rw [if_pos (by simpa using hc0)]]
   exact ⟨_, (res_cell rfl (loadVar_n (n := 1) (by kernel_rfl) (by exact Blk.cells hor.1 rfl)) res_nil), _, _, rfl, hT, _, hp, treps_cons.2 ⟨_, _, rfl, ht, hk⟩⟩
  ·
   skip
   refine cw_skip ?_
   refine hK9 _ _ ?_
   refine cw_drawn (by kernel_rfl) (by kernel_rfl) (by kernel_rfl) rfl rfl fun K12 hK12 => ?_
   have hs11 := Step.drew hs8.sat
   have hz11 := hs11.size
   have hcl:=hcl.mono hs11.le
   have ht:=ht.mono' EncE.mono hs11.le
   have hol:=hol.then hs11
   have hor:=hor.then hs11
   have hf:=hf.mono' EncE.mono hs11.le
   have hk2:=hk2.mono' EncE.mono hs11.le
   have hT:=hT.then hs11
   refine Dm 0 1 rfl (by kernel_rfl) rfl ?_
   refine Dm 1 3 rfl (by kernel_rfl) rfl ?_
   refine Dm 2 7 rfl (by kernel_rfl) rfl ?_
   refine Dlc 4 23 1 rfl (by kernel_rfl) (by kernel_rfl) rfl (by exact Blk.cells hol.1 rfl) ?_
   refine Dh 3 31 rfl (by kernel_rfl) (keep_sift (bs := [F]) (by kernel_rfl)) (h_call (by kernel_rfl) rfl ?_)
   refine (te_link hs11.sat ht hf (by simp only [RT.sizes] at hz; omega)).mono ?_
   rintro _ w12 ⟨qn, Mn, rfl, hs12, hn⟩
   have hcl:=hcl.mono hs12.le
   have hol:=hol.then hs12
   have hor:=hor.then hs12
   have hk2:=hk2.mono' EncE.mono hs12.le
   have hT:=hT.then hs12
   have hz12 := hs12.size
   refine ⟨(by repeat' first | exact trivial | exact Blk.cell hol.1 rfl | exact Blk.cells hol.1 rfl | exact Blk.cell hor.1 rfl | exact Blk.cells hor.1 rfl | assumption | refine all_keep ?_ | refine And.intro ?_ ?_), ?_⟩
   refine Dh 5 63 rfl (by kernel_rfl) (keep_sift (bs := [T]) (by kernel_rfl)) (h_call (by kernel_rfl) rfl ?_)
   refine (ce_rest hs12.sat hcl).mono ?_
   rintro _ w13 ⟨qr, rfl, hs13, hcl⟩
   have hcl:=hcl.mono hs13.le
   have hol:=hol.then hs13
   have hor:=hor.then hs13
   have hk2:=hk2.mono' EncE.mono hs13.le
   have hn:=hn.mono' EncE.mono hs13.le
   have hT:=hT.then hs13
   have hz13 := hs13.size
   refine ⟨trivial, ?_⟩
   refine Da 6 127 rfl (by kernel_rfl) rfl ?_
   refine Dh0 7 255 rfl (by kernel_rfl) rfl (h_store hs13.sat hol rfl rfl rfl (by kernel_rfl) rfl rfl rfl fun w14 hs14 hn14 => ?_)
   have hcl:=hcl.mono hs14.le
   have hor:=hor.step hs14 (fun h => by have h : _ = _ := h; omega)
   have hk2:=hk2.mono' EncE.mono hs14.le
   have hn:=hn.mono' EncE.mono hs14.le
   clear hol; have hol := hn14; clear hn14
   have hT:=hT.own hs14 (by omega)
   have hz14 := hs14.size
   refine ⟨trivial, ?_⟩
   refine Dd (by kernel_rfl) (hK12 _ _ ?_)
   refine ⟨_, _, ?_, (.cons rfl (.cons rfl (.cons rfl (.cons rfl (.nil _))))), _, r, _, _, _, _, rfl, ?_, ?_, rfl, hT, hcl, hk2, hn, hol, hor⟩
   · simp
   ·
    rw [← hmod]
    conv => rhs; unfold bput
    rw [if_neg (by simpa using hc0)]
   · rw [RT.link_size]; simp only [RT.sizes] at hz; omega
theorem b_insert {w : World} {M : Mem} {x : El} {ts : List (RT El)} {q : Option Addr} (hs : Sat M w) (h : FRep 197 220 2 EncE M ts q) (hz : RT.sizes ts < 1000000000) :
  Does Tryz.prog 111 #[.agg #[.pointer q], .pointer none, .agg (elc x).toArray] w (fun v w' => ∃ q M', v = .agg #[.pointer q] ∧ Step Nope M w M' w' ∧ FRep 197 220 2 EncE M' (bput ltE (RT.leaf x) ts) q) := by
 have hT := Step.refl Nope hs
 refine fn_enter Tryz.func111 rfl (rs := [.cell 6 74]) rfl rfl rfl rfl ?_
 refine cw_rs fun _ κ => ?_
 refine as_h rfl (h_boxM hs rfl rfl fun b1 M1 w1 hs1 hb1 e1 => ?_)
 have h:=h.mono' EncE.mono hs1.le
 have hT:=hT.then hs1
 have hz1 := hs1.size
 refine as_h rfl (h_boxM hs1.sat rfl rfl fun b2 M2 w2 hs2 hb2 e2 => ?_)
 have h:=h.mono' EncE.mono hs2.le
 have hb1:=hs2.le _ _ hb1
 have hT:=hT.then hs2
 have hz2 := hs2.size
 have hqar := hT.size
 refine as_h rfl (h_allocO (z := (.agg #[(.pointer none)])) hs2.sat (by kernel_rfl) rfl fun br w3 hs3 hor er => ?_)
 have h:=h.mono' EncE.mono hs3.le
 have hb1:=hs3.le _ _ hb1
 have hb2:=hs3.le _ _ hb2
 have hT:=hT.then hs3
 have hz3 := hs3.size
 have hlr := hor.1.lt
 refine as_nil (κ _ _ ?_)
 refine cw_dr (by kernel_rfl) fun _ κ => ?_
 have hs4 := Step.drew hs3.sat
 have hz4 := hs4.size
 have h:=h.mono' EncE.mono hs4.le
 have hb1:=hs4.le _ _ hb1
 have hb2:=hs4.le _ _ hb2
 have hor:=hor.then hs4
 have hT:=hT.then hs4
 refine Dm 0 1 rfl (by kernel_rfl) rfl ?_
 refine Dm 1 3 rfl (by kernel_rfl) rfl ?_
 refine Dlc 2 7 2 rfl (by kernel_rfl) (by kernel_rfl) rfl (by exact BlkR.cells (hs4.sat _ _ _ hb2) rfl) ?_
 refine Df 4 23 0 rfl (by kernel_rfl) (by kernel_rfl) rfl ?_
 refine Dlc 5 55 1 rfl (by kernel_rfl) (by kernel_rfl) rfl (by exact BlkR.cells (hs4.sat _ _ _ hb1) rfl) ?_
 refine Dh 3 63 rfl (by kernel_rfl) (keep_sift (bs := [F,T]) (by kernel_rfl)) (h_call (by kernel_rfl) rfl ?_)
 refine (te_leaf (x := x) hs4.sat).mono ?_
 rintro _ w5 ⟨qn, Mn, rfl, hs5, hn⟩
 have h:=h.mono' EncE.mono hs5.le
 have hb1:=hs5.le _ _ hb1
 have hb2:=hs5.le _ _ hb2
 have hor:=hor.then hs5
 have hT:=hT.then hs5
 have hz5 := hs5.size
 refine ⟨(by repeat' first | exact trivial | exact BlkR.cell (hs5.sat _ _ _ hb1) rfl | exact BlkR.cells (hs5.sat _ _ _ hb1) rfl | exact BlkR.cell (hs5.sat _ _ _ hb2) rfl | exact BlkR.cells (hs5.sat _ _ _ hb2) rfl | exact Blk.cell hor.1 rfl | exact Blk.cells hor.1 rfl | assumption | refine all_keep ?_ | refine And.intro ?_ ?_), ?_⟩
 refine Dh 6 127 rfl (by kernel_rfl) (keep_sift (bs := [T]) (by kernel_rfl)) (h_call (by kernel_rfl) rfl ?_)
 refine (b_put hs5.sat hn h (by rw [leaf_size]; omega)).mono ?_
 rintro _ w6 ⟨qm, Mm, rfl, hs6, hm⟩
 have h:=h.mono' EncE.mono hs6.le
 have hor:=hor.then hs6
 have hT:=hT.then hs6
 have hz6 := hs6.size
 refine ⟨trivial, ?_⟩
 refine Dq 7 255 rfl (by kernel_rfl) (fun _ => (q_build (zs := [(.pointer none)]) (places := [(0, 1)]) (cs := [_]) (by kernel_rfl) (by kernel_rfl) rfl rfl)) ?_
 refine Dh0 8 511 rfl (by kernel_rfl) rfl (h_store hs6.sat hor rfl rfl rfl (by kernel_rfl) rfl rfl rfl fun w7 hs7 hn7 => ?_)
 have h:=h.mono' EncE.mono hs7.le
 have hm:=hm.mono' EncE.mono hs7.le
 clear hor; have hor := hn7; clear hn7
 have hT:=hT.own hs7 (by omega)
 have hz7 := hs7.size
 refine ⟨trivial, ?_⟩
 refine Dd (by kernel_rfl) (κ _ _ ?_)
 refine cw_ret ?_
 exact ⟨_, (res_cell rfl (loadVar_n (n := 1) (by kernel_rfl) (by exact Blk.cells hor.1 rfl)) res_nil), _, _, rfl, hT, hm⟩
def BMeld (k : Nat) : Prop := ∀ (w : World) (M : Mem) (a b : List (RT El)) (qa qb : Option Addr), Sat M w → FRep 197 220 2 EncE M a qa → FRep 197 220 2 EncE M b qb → a.length + b.length < k → RT.sizes a + RT.sizes b ≤ 1000000000 →
  Does Tryz.prog 119 #[.pointer none, .agg #[.pointer qa], .agg #[.pointer qb]] w (fun v w' => ∃ q M', v = .agg #[.pointer q] ∧ Step Nope M w M' w' ∧ FRep 197 220 2 EncE M' (bmeld ltE a b) q)
theorem b_meld_00 {w : World} {M : Mem} (hs : Sat M w) :
  Does Tryz.prog 119 #[.pointer none, .agg #[.pointer none], .agg #[.pointer none]] w (fun v w' => ∃ q M', v = .agg #[.pointer q] ∧ Step Nope M w M' w' ∧ FRep 197 220 2 EncE M' ([] : List (RT El)) q) := by
 have hT := Step.refl Nope hs
 refine fn_enter Tryz.func119 rfl (rs := [.cell 6 72]) rfl rfl rfl rfl ?_
 refine cw_rs fun _ κ => ?_
 refine as_h rfl (h_boxM hs rfl rfl fun b1 M1 w1 hs1 hb1 e1 => ?_)
 have hT:=hT.then hs1
 have hz1 := hs1.size
 refine as_h rfl (h_boxM hs1.sat rfl rfl fun b2 M2 w2 hs2 hb2 e2 => ?_)
 have hb1:=hs2.le _ _ hb1
 have hT:=hT.then hs2
 have hz2 := hs2.size
 have hqar := hT.size
 refine as_h rfl (h_allocO (z := (.agg #[(.pointer none)])) hs2.sat (by kernel_rfl) rfl fun br w3 hs3 hor er => ?_)
 have hb1:=hs3.le _ _ hb1
 have hb2:=hs3.le _ _ hb2
 have hT:=hT.then hs3
 have hz3 := hs3.size
 have hlr := hor.1.lt
 refine as_nil (κ _ _ ?_)
 refine cw_rs fun _ κ => ?_
 refine Sc 1 rfl (by kernel_rfl) rfl (by exact BlkR.cells (hs3.sat _ _ _ hb1) rfl) ?_
 refine as_h rfl (h_call (by kernel_rfl) rfl ?_)
 refine (ce_first_n hs3.sat).mono ?_
 rintro _ w4 ⟨rfl, hs4⟩
 have hb2:=hs4.le _ _ hb2
 have hor:=hor.then hs4
 have hT:=hT.then hs4
 have hz4 := hs4.size
 refine Sm rfl rfl ?_
 refine Se rfl rfl rfl ?_
 refine Se rfl rfl rfl ?_
 refine Sa rfl rfl ?_
 refine Sa rfl rfl ?_
 refine as_nil (κ _ _ ?_)
 refine cw_rs fun _ κ => ?_
 refine Sc 1 rfl (by kernel_rfl) rfl (by exact BlkR.cells (hs4.sat _ _ _ hb2) rfl) ?_
 refine as_h rfl (h_call (by kernel_rfl) rfl ?_)
 refine (ce_first_n hs4.sat).mono ?_
 rintro _ w5 ⟨rfl, hs5⟩
 have hb2:=hs5.le _ _ hb2
 have hor:=hor.then hs5
 have hT:=hT.then hs5
 have hz5 := hs5.size
 refine Sm rfl rfl ?_
 refine Se rfl rfl rfl ?_
 refine Se rfl rfl rfl ?_
 refine Sa rfl rfl ?_
 refine Sa rfl rfl ?_
 refine as_nil (κ _ _ ?_)
 refine cw_seq fun _ hK4 => ?_
 refine cw_block ?_
 refine cw_rs fun _ κ => ?_
 refine Sm rfl rfl ?_
 refine as_q rfl rfl (q_not rfl) ?_
 refine Sa rfl rfl ?_
 refine as_nil (κ _ _ ?_)
 refine cw_true rfl ?_
 refine cw_rs fun _ κ => ?_
 refine Sc 1 rfl (by kernel_rfl) rfl (by exact BlkR.cells (hs5.sat _ _ _ hb2) rfl) ?_
 refine as_h0 (h_store hs5.sat hor rfl rfl rfl (by kernel_rfl) rfl rfl rfl fun w6 hs6 hn6 => ?_)
 clear hor; have hor := hn6; clear hn6
 have hT:=hT.own hs6 (by omega)
 have hz6 := hs6.size
 refine as_nil (κ _ _ ?_)
 refine cw_ret ?_
 exact ⟨_, (res_cell rfl (loadVar_n (n := 1) (by kernel_rfl) (by exact Blk.cells hor.1 rfl)) res_nil), _, _, rfl, hT, frep_nil.2 rfl⟩
theorem b_meld_01 {w : World} {M : Mem} {g : RT El} {b : List (RT El)} {qb : Option Addr} (hs : Sat M w) (h2 : FRep 197 220 2 EncE M (g :: b) qb) :
  Does Tryz.prog 119 #[.pointer none, .agg #[.pointer none], .agg #[.pointer qb]] w (fun v w' => ∃ q M', v = .agg #[.pointer q] ∧ Step Nope M w M' w' ∧ FRep 197 220 2 EncE M' (g :: b) q) := by
 have hT := Step.refl Nope hs
 obtain ⟨lb, hcb, hkb⟩ := h2
 have hlnb := hkb.length
 obtain ⟨gq, lbr, rfl, hg, hkb2⟩ := treps_cons.1 hkb
 have hlcb : (g :: b).length = b.length + 1 := rfl
 have hgp := g.size_pos
 have hmg := RT.sizes_cons g b
 refine fn_enter Tryz.func119 rfl (rs := [.cell 6 72]) rfl rfl rfl rfl ?_
 refine cw_rs fun _ κ => ?_
 refine as_h rfl (h_boxM hs rfl rfl fun b1 M1 w1 hs1 hb1 e1 => ?_)
 have hcb:=hcb.mono hs1.le
 have hkb:=hkb.mono' EncE.mono hs1.le
 have hT:=hT.then hs1
 have hz1 := hs1.size
 refine as_h rfl (h_boxM hs1.sat rfl rfl fun b2 M2 w2 hs2 hb2 e2 => ?_)
 have hcb:=hcb.mono hs2.le
 have hkb:=hkb.mono' EncE.mono hs2.le
 have hb1:=hs2.le _ _ hb1
 have hT:=hT.then hs2
 have hz2 := hs2.size
 have hqar := hT.size
 refine as_h rfl (h_allocO (z := (.agg #[(.pointer none)])) hs2.sat (by kernel_rfl) rfl fun br w3 hs3 hor er => ?_)
 have hcb:=hcb.mono hs3.le
 have hkb:=hkb.mono' EncE.mono hs3.le
 have hb1:=hs3.le _ _ hb1
 have hb2:=hs3.le _ _ hb2
 have hT:=hT.then hs3
 have hz3 := hs3.size
 have hlr := hor.1.lt
 refine as_nil (κ _ _ ?_)
 refine cw_rs fun _ κ => ?_
 refine Sc 1 rfl (by kernel_rfl) rfl (by exact BlkR.cells (hs3.sat _ _ _ hb1) rfl) ?_
 refine as_h rfl (h_call (by kernel_rfl) rfl ?_)
 refine (ce_first_n hs3.sat).mono ?_
 rintro _ w4 ⟨rfl, hs4⟩
 have hcb:=hcb.mono hs4.le
 have hkb:=hkb.mono' EncE.mono hs4.le
 have hb2:=hs4.le _ _ hb2
 have hor:=hor.then hs4
 have hT:=hT.then hs4
 have hz4 := hs4.size
 refine Sm rfl rfl ?_
 refine Se rfl rfl rfl ?_
 refine Se rfl rfl rfl ?_
 refine Sa rfl rfl ?_
 refine Sa rfl rfl ?_
 refine as_nil (κ _ _ ?_)
 refine cw_rs fun _ κ => ?_
 refine Sc 1 rfl (by kernel_rfl) rfl (by exact BlkR.cells (hs4.sat _ _ _ hb2) rfl) ?_
 refine as_h rfl (h_call (by kernel_rfl) rfl ?_)
 refine (ce_first hs4.sat hcb).mono ?_
 rintro _ w5 ⟨rfl, hs5⟩
 have hcb:=hcb.mono hs5.le
 have hkb:=hkb.mono' EncE.mono hs5.le
 have hb2:=hs5.le _ _ hb2
 have hor:=hor.then hs5
 have hT:=hT.then hs5
 have hz5 := hs5.size
 refine Sm rfl rfl ?_
 refine Se rfl rfl rfl ?_
 refine Se rfl rfl rfl ?_
 refine Sa rfl rfl ?_
 refine Sa rfl rfl ?_
 refine as_nil (κ _ _ ?_)
 refine cw_seq fun _ hK4 => ?_
 refine cw_block ?_
 refine cw_rs fun _ κ => ?_
 refine Sm rfl rfl ?_
 refine as_q rfl rfl (q_not rfl) ?_
 refine Sa rfl rfl ?_
 refine as_nil (κ _ _ ?_)
 refine cw_true rfl ?_
 refine cw_rs fun _ κ => ?_
 refine Sc 1 rfl (by kernel_rfl) rfl (by exact BlkR.cells (hs5.sat _ _ _ hb2) rfl) ?_
 refine as_h0 (h_store hs5.sat hor rfl rfl rfl (by kernel_rfl) rfl rfl rfl fun w6 hs6 hn6 => ?_)
 have hcb:=hcb.mono hs6.le
 have hkb:=hkb.mono' EncE.mono hs6.le
 clear hor; have hor := hn6; clear hn6
 have hT:=hT.own hs6 (by omega)
 have hz6 := hs6.size
 refine as_nil (κ _ _ ?_)
 refine cw_ret ?_
 exact ⟨_, (res_cell rfl (loadVar_n (n := 1) (by kernel_rfl) (by exact Blk.cells hor.1 rfl)) res_nil), _, _, rfl, hT, _, hcb, hkb⟩
theorem b_meld_10 {w : World} {M : Mem} {f : RT El} {a : List (RT El)} {qa : Option Addr} (hs : Sat M w) (h : FRep 197 220 2 EncE M (f :: a) qa) :
  Does Tryz.prog 119 #[.pointer none, .agg #[.pointer qa], .agg #[.pointer none]] w (fun v w' => ∃ q M', v = .agg #[.pointer q] ∧ Step Nope M w M' w' ∧ FRep 197 220 2 EncE M' (f :: a) q) := by
 have hT := Step.refl Nope hs
 obtain ⟨la, hca, hka⟩ := h
 have hlna := hka.length
 obtain ⟨fq, lr, rfl, hf, hka2⟩ := treps_cons.1 hka
 have hlc : (f :: a).length = a.length + 1 := rfl
 have hfp := f.size_pos
 have hmf := RT.sizes_cons f a
 refine fn_enter Tryz.func119 rfl (rs := [.cell 6 72]) rfl rfl rfl rfl ?_
 refine cw_rs fun _ κ => ?_
 refine as_h rfl (h_boxM hs rfl rfl fun b1 M1 w1 hs1 hb1 e1 => ?_)
 have hca:=hca.mono hs1.le
 have hka:=hka.mono' EncE.mono hs1.le
 have hT:=hT.then hs1
 have hz1 := hs1.size
 refine as_h rfl (h_boxM hs1.sat rfl rfl fun b2 M2 w2 hs2 hb2 e2 => ?_)
 have hca:=hca.mono hs2.le
 have hka:=hka.mono' EncE.mono hs2.le
 have hb1:=hs2.le _ _ hb1
 have hT:=hT.then hs2
 have hz2 := hs2.size
 have hqar := hT.size
 refine as_h rfl (h_allocO (z := (.agg #[(.pointer none)])) hs2.sat (by kernel_rfl) rfl fun br w3 hs3 hor er => ?_)
 have hca:=hca.mono hs3.le
 have hka:=hka.mono' EncE.mono hs3.le
 have hb1:=hs3.le _ _ hb1
 have hb2:=hs3.le _ _ hb2
 have hT:=hT.then hs3
 have hz3 := hs3.size
 have hlr := hor.1.lt
 refine as_nil (κ _ _ ?_)
 refine cw_rs fun _ κ => ?_
 refine Sc 1 rfl (by kernel_rfl) rfl (by exact BlkR.cells (hs3.sat _ _ _ hb1) rfl) ?_
 refine as_h rfl (h_call (by kernel_rfl) rfl ?_)
 refine (ce_first hs3.sat hca).mono ?_
 rintro _ w4 ⟨rfl, hs4⟩
 have hca:=hca.mono hs4.le
 have hka:=hka.mono' EncE.mono hs4.le
 have hb1:=hs4.le _ _ hb1
 have hb2:=hs4.le _ _ hb2
 have hor:=hor.then hs4
 have hT:=hT.then hs4
 have hz4 := hs4.size
 refine Sm rfl rfl ?_
 refine Se rfl rfl rfl ?_
 refine Se rfl rfl rfl ?_
 refine Sa rfl rfl ?_
 refine Sa rfl rfl ?_
 refine as_nil (κ _ _ ?_)
 refine cw_rs fun _ κ => ?_
 refine Sc 1 rfl (by kernel_rfl) rfl (by exact BlkR.cells (hs4.sat _ _ _ hb2) rfl) ?_
 refine as_h rfl (h_call (by kernel_rfl) rfl ?_)
 refine (ce_first_n hs4.sat).mono ?_
 rintro _ w5 ⟨rfl, hs5⟩
 have hca:=hca.mono hs5.le
 have hka:=hka.mono' EncE.mono hs5.le
 have hb1:=hs5.le _ _ hb1
 have hor:=hor.then hs5
 have hT:=hT.then hs5
 have hz5 := hs5.size
 refine Sm rfl rfl ?_
 refine Se rfl rfl rfl ?_
 refine Se rfl rfl rfl ?_
 refine Sa rfl rfl ?_
 refine Sa rfl rfl ?_
 refine as_nil (κ _ _ ?_)
 refine cw_seq fun _ hK4 => ?_
 refine cw_block ?_
 refine cw_rs fun _ κ => ?_
 refine Sm rfl rfl ?_
 refine as_q rfl rfl (q_not rfl) ?_
 refine Sa rfl rfl ?_
 refine as_nil (κ _ _ ?_)
 refine cw_false rfl ?_
 refine cw_rs fun _ κ => ?_
 refine Sm rfl rfl ?_
 refine as_q rfl rfl (q_not rfl) ?_
 refine Sa rfl rfl ?_
 refine as_nil (κ _ _ ?_)
 refine cw_true rfl ?_
 refine cw_rs fun _ κ => ?_
 refine Sc 1 rfl (by kernel_rfl) rfl (by exact BlkR.cells (hs5.sat _ _ _ hb1) rfl) ?_
 refine as_h0 (h_store hs5.sat hor rfl rfl rfl (by kernel_rfl) rfl rfl rfl fun w6 hs6 hn6 => ?_)
 have hca:=hca.mono hs6.le
 have hka:=hka.mono' EncE.mono hs6.le
 clear hor; have hor := hn6; clear hn6
 have hT:=hT.own hs6 (by omega)
 have hz6 := hs6.size
 refine as_nil (κ _ _ ?_)
 refine cw_ret ?_
 exact ⟨_, (res_cell rfl (loadVar_n (n := 1) (by kernel_rfl) (by exact Blk.cells hor.1 rfl)) res_nil), _, _, rfl, hT, _, hca, hka⟩
theorem b_meld_11 {w : World} {M : Mem} {f : RT El} {a : List (RT El)} {qa : Option Addr} {g : RT El} {b : List (RT El)} {qb : Option Addr} {k : Nat} (ih : BMeld k) (hs : Sat M w) (h : FRep 197 220 2 EncE M (f :: a) qa) (h2 : FRep 197 220 2 EncE M (g :: b) qb) (hk : (f :: a).length + (g :: b).length < k + 1) (hz : RT.sizes (f :: a) + RT.sizes (g :: b) ≤ 1000000000) :
  Does Tryz.prog 119 #[.pointer none, .agg #[.pointer qa], .agg #[.pointer qb]] w (fun v w' => ∃ q M', v = .agg #[.pointer q] ∧ Step Nope M w M' w' ∧ FRep 197 220 2 EncE M' (bmeld ltE (f :: a) (g :: b)) q) := by
 have hT := Step.refl Nope hs
 obtain ⟨la, hca, hka⟩ := h
 have hlna := hka.length
 obtain ⟨fq, lr, rfl, hf, hka2⟩ := treps_cons.1 hka
 have hlc : (f :: a).length = a.length + 1 := rfl
 have hfp := f.size_pos
 have hmf := RT.sizes_cons f a
 obtain ⟨lb, hcb, hkb⟩ := h2
 have hlnb := hkb.length
 obtain ⟨gq, lbr, rfl, hg, hkb2⟩ := treps_cons.1 hkb
 have hlcb : (g :: b).length = b.length + 1 := rfl
 have hgp := g.size_pos
 have hmg := RT.sizes_cons g b
 refine fn_enter Tryz.func119 rfl (rs := [.cell 6 72]) rfl rfl rfl rfl ?_
 refine cw_rs fun _ κ => ?_
 refine as_h rfl (h_boxM hs rfl rfl fun b1 M1 w1 hs1 hb1 e1 => ?_)
 have hca:=hca.mono hs1.le
 have hka:=hka.mono' EncE.mono hs1.le
 have hka2:=hka2.mono' EncE.mono hs1.le
 have hf:=hf.mono' EncE.mono hs1.le
 have hcb:=hcb.mono hs1.le
 have hkb:=hkb.mono' EncE.mono hs1.le
 have hkb2:=hkb2.mono' EncE.mono hs1.le
 have hg:=hg.mono' EncE.mono hs1.le
 have hT:=hT.then hs1
 have hz1 := hs1.size
 refine as_h rfl (h_boxM hs1.sat rfl rfl fun b2 M2 w2 hs2 hb2 e2 => ?_)
 have hca:=hca.mono hs2.le
 have hka:=hka.mono' EncE.mono hs2.le
 have hka2:=hka2.mono' EncE.mono hs2.le
 have hf:=hf.mono' EncE.mono hs2.le
 have hcb:=hcb.mono hs2.le
 have hkb:=hkb.mono' EncE.mono hs2.le
 have hkb2:=hkb2.mono' EncE.mono hs2.le
 have hg:=hg.mono' EncE.mono hs2.le
 have hb1:=hs2.le _ _ hb1
 have hT:=hT.then hs2
 have hz2 := hs2.size
 have hqar := hT.size
 refine as_h rfl (h_allocO (z := (.agg #[(.pointer none)])) hs2.sat (by kernel_rfl) rfl fun br w3 hs3 hor er => ?_)
 have hca:=hca.mono hs3.le
 have hka:=hka.mono' EncE.mono hs3.le
 have hka2:=hka2.mono' EncE.mono hs3.le
 have hf:=hf.mono' EncE.mono hs3.le
 have hcb:=hcb.mono hs3.le
 have hkb:=hkb.mono' EncE.mono hs3.le
 have hkb2:=hkb2.mono' EncE.mono hs3.le
 have hg:=hg.mono' EncE.mono hs3.le
 have hb1:=hs3.le _ _ hb1
 have hb2:=hs3.le _ _ hb2
 have hT:=hT.then hs3
 have hz3 := hs3.size
 have hlr := hor.1.lt
 refine as_nil (κ _ _ ?_)
 refine cw_rs fun _ κ => ?_
 refine Sc 1 rfl (by kernel_rfl) rfl (by exact BlkR.cells (hs3.sat _ _ _ hb1) rfl) ?_
 refine as_h rfl (h_call (by kernel_rfl) rfl ?_)
 refine (ce_first hs3.sat hca).mono ?_
 rintro _ w4 ⟨rfl, hs4⟩
 have hca:=hca.mono hs4.le
 have hka:=hka.mono' EncE.mono hs4.le
 have hka2:=hka2.mono' EncE.mono hs4.le
 have hf:=hf.mono' EncE.mono hs4.le
 have hcb:=hcb.mono hs4.le
 have hkb:=hkb.mono' EncE.mono hs4.le
 have hkb2:=hkb2.mono' EncE.mono hs4.le
 have hg:=hg.mono' EncE.mono hs4.le
 have hb1:=hs4.le _ _ hb1
 have hb2:=hs4.le _ _ hb2
 have hor:=hor.then hs4
 have hT:=hT.then hs4
 have hz4 := hs4.size
 refine Sm rfl rfl ?_
 refine Se rfl rfl rfl ?_
 refine Se rfl rfl rfl ?_
 refine Sa rfl rfl ?_
 refine Sa rfl rfl ?_
 refine as_nil (κ _ _ ?_)
 refine cw_rs fun _ κ => ?_
 refine Sc 1 rfl (by kernel_rfl) rfl (by exact BlkR.cells (hs4.sat _ _ _ hb2) rfl) ?_
 refine as_h rfl (h_call (by kernel_rfl) rfl ?_)
 refine (ce_first hs4.sat hcb).mono ?_
 rintro _ w5 ⟨rfl, hs5⟩
 have hca:=hca.mono hs5.le
 have hka:=hka.mono' EncE.mono hs5.le
 have hka2:=hka2.mono' EncE.mono hs5.le
 have hf:=hf.mono' EncE.mono hs5.le
 have hcb:=hcb.mono hs5.le
 have hkb:=hkb.mono' EncE.mono hs5.le
 have hkb2:=hkb2.mono' EncE.mono hs5.le
 have hg:=hg.mono' EncE.mono hs5.le
 have hb1:=hs5.le _ _ hb1
 have hb2:=hs5.le _ _ hb2
 have hor:=hor.then hs5
 have hT:=hT.then hs5
 have hz5 := hs5.size
 refine Sm rfl rfl ?_
 refine Se rfl rfl rfl ?_
 refine Se rfl rfl rfl ?_
 refine Sa rfl rfl ?_
 refine Sa rfl rfl ?_
 refine as_nil (κ _ _ ?_)
 refine cw_seq fun _ hK4 => ?_
 refine cw_block ?_
 refine cw_rs fun _ κ => ?_
 refine Sm rfl rfl ?_
 refine as_q rfl rfl (q_not rfl) ?_
 refine Sa rfl rfl ?_
 refine as_nil (κ _ _ ?_)
 refine cw_false rfl ?_
 refine cw_rs fun _ κ => ?_
 refine Sm rfl rfl ?_
 refine as_q rfl rfl (q_not rfl) ?_
 refine Sa rfl rfl ?_
 refine as_nil (κ _ _ ?_)
 refine cw_false rfl ?_
 refine cw_rs fun _ κ => ?_
 refine Sm rfl rfl ?_
 refine as_h rfl (h_call (by kernel_rfl) rfl ?_)
 refine (te_rank hs5.sat hf).mono ?_
 rintro _ w6 ⟨rfl, hs6⟩
 have hca:=hca.mono hs6.le
 have hka:=hka.mono' EncE.mono hs6.le
 have hka2:=hka2.mono' EncE.mono hs6.le
 have hf:=hf.mono' EncE.mono hs6.le
 have hcb:=hcb.mono hs6.le
 have hkb:=hkb.mono' EncE.mono hs6.le
 have hkb2:=hkb2.mono' EncE.mono hs6.le
 have hg:=hg.mono' EncE.mono hs6.le
 have hb1:=hs6.le _ _ hb1
 have hb2:=hs6.le _ _ hb2
 have hor:=hor.then hs6
 have hT:=hT.then hs6
 have hz6 := hs6.size
 refine Sm rfl rfl ?_
 refine as_h rfl (h_call (by kernel_rfl) rfl ?_)
 refine (te_rank hs6.sat hg).mono ?_
 rintro _ w7 ⟨rfl, hs7⟩
 have hca:=hca.mono hs7.le
 have hka:=hka.mono' EncE.mono hs7.le
 have hka2:=hka2.mono' EncE.mono hs7.le
 have hf:=hf.mono' EncE.mono hs7.le
 have hcb:=hcb.mono hs7.le
 have hkb:=hkb.mono' EncE.mono hs7.le
 have hkb2:=hkb2.mono' EncE.mono hs7.le
 have hg:=hg.mono' EncE.mono hs7.le
 have hb1:=hs7.le _ _ hb1
 have hb2:=hs7.le _ _ hb2
 have hor:=hor.then hs7
 have hT:=hT.then hs7
 have hz7 := hs7.size
 refine as_q rfl rfl (q_lt rfl rfl) ?_
 refine Sa rfl rfl ?_
 refine as_nil (κ _ _ ?_)
 refine cw_cond rfl (fun hc2 => ?_) (fun hc2 => ?_)
 ·
  replace hc2 : f.rank < g.rank := by have := of_decide_eq_true hc2; omega
  refine cw_dr (by kernel_rfl) fun _ κ => ?_
  have hs8 := Step.drew hs7.sat
  have hz8 := hs8.size
  have hca:=hca.mono hs8.le
  have hka:=hka.mono' EncE.mono hs8.le
  have hka2:=hka2.mono' EncE.mono hs8.le
  have hf:=hf.mono' EncE.mono hs8.le
  have hcb:=hcb.mono hs8.le
  have hkb:=hkb.mono' EncE.mono hs8.le
  have hkb2:=hkb2.mono' EncE.mono hs8.le
  have hg:=hg.mono' EncE.mono hs8.le
  have hb1:=hs8.le _ _ hb1
  have hb2:=hs8.le _ _ hb2
  have hor:=hor.then hs8
  have hT:=hT.then hs8
  refine Dm 0 1 rfl (by kernel_rfl) rfl ?_
  refine Dlc 1 3 1 rfl (by kernel_rfl) (by kernel_rfl) rfl (by exact BlkR.cells (hs8.sat _ _ _ hb1) rfl) ?_
  refine Dlc 3 11 1 rfl (by kernel_rfl) (by kernel_rfl) rfl (by exact BlkR.cells (hs8.sat _ _ _ hb2) rfl) ?_
  refine Dm 5 43 rfl (by kernel_rfl) rfl ?_
  refine Dh 2 47 rfl (by kernel_rfl) (keep_sift (bs := [F,T]) (by kernel_rfl)) (h_call (by kernel_rfl) rfl ?_)
  refine (ce_rest hs8.sat hca).mono ?_
  rintro _ w9 ⟨qa2, rfl, hs9, hca2⟩
  have hca:=hca.mono hs9.le
  have hka:=hka.mono' EncE.mono hs9.le
  have hka2:=hka2.mono' EncE.mono hs9.le
  have hf:=hf.mono' EncE.mono hs9.le
  have hcb:=hcb.mono hs9.le
  have hkb:=hkb.mono' EncE.mono hs9.le
  have hkb2:=hkb2.mono' EncE.mono hs9.le
  have hg:=hg.mono' EncE.mono hs9.le
  have hb1:=hs9.le _ _ hb1
  have hb2:=hs9.le _ _ hb2
  have hor:=hor.then hs9
  have hT:=hT.then hs9
  have hz9 := hs9.size
  refine ⟨(by repeat' first | exact trivial | exact BlkR.cell (hs9.sat _ _ _ hb1) rfl | exact BlkR.cells (hs9.sat _ _ _ hb1) rfl | exact BlkR.cell (hs9.sat _ _ _ hb2) rfl | exact BlkR.cells (hs9.sat _ _ _ hb2) rfl | exact Blk.cell hor.1 rfl | exact Blk.cells hor.1 rfl | assumption | refine all_keep ?_ | refine And.intro ?_ ?_), ?_⟩
  refine Dh 4 63 rfl (by kernel_rfl) (keep_sift (bs := [T]) (by kernel_rfl)) (h_call (by kernel_rfl) rfl ?_)
  have hml := RT.sizes_length (bmeld ltE a (g :: b))
  have hms := bmeld_size ltE a (g :: b)
  refine (ih _ _ a (g :: b) _ _ hs9.sat ⟨_, hca2, hka2⟩ ⟨_, hcb, hkb⟩ (by omega) (by omega)).mono ?_
  rintro v w10 ⟨qm, Mm, rfl, hs10, hm⟩
  obtain ⟨lm, hm1, hm2⟩ := hm
  have hmn := hm2.length
  have hca:=hca.mono hs10.le
  have hka:=hka.mono' EncE.mono hs10.le
  have hka2:=hka2.mono' EncE.mono hs10.le
  have hf:=hf.mono' EncE.mono hs10.le
  have hcb:=hcb.mono hs10.le
  have hkb2:=hkb2.mono' EncE.mono hs10.le
  have hg:=hg.mono' EncE.mono hs10.le
  have hb1:=hs10.le _ _ hb1
  have hb2:=hs10.le _ _ hb2
  have hor:=hor.then hs10
  have hca2:=hca2.mono hs10.le
  have hT:=hT.then hs10
  have hz10 := hs10.size
  refine ⟨trivial, ?_⟩
  refine Dh 6 127 rfl (by kernel_rfl) rfl (h_call (by kernel_rfl) rfl ?_)
  refine (ce_push hs10.sat hm1 (by omega)).mono ?_
  rintro _ w11 ⟨qp, Mp, rfl, hs11, hp⟩
  have hca:=hca.mono hs11.le
  have hka:=hka.mono' EncE.mono hs11.le
  have hka2:=hka2.mono' EncE.mono hs11.le
  have hf:=hf.mono' EncE.mono hs11.le
  have hcb:=hcb.mono hs11.le
  have hkb2:=hkb2.mono' EncE.mono hs11.le
  have hg:=hg.mono' EncE.mono hs11.le
  have hb1:=hs11.le _ _ hb1
  have hb2:=hs11.le _ _ hb2
  have hor:=hor.then hs11
  have hca2:=hca2.mono hs11.le
  have hm1:=hm1.mono hs11.le
  have hm2:=hm2.mono' EncE.mono hs11.le
  have hT:=hT.then hs11
  have hz11 := hs11.size
  refine ⟨trivial, ?_⟩
  refine Dh0 7 255 rfl (by kernel_rfl) rfl (h_store hs11.sat hor rfl rfl rfl (by kernel_rfl) rfl rfl rfl fun w12 hs12 hn12 => ?_)
  have hca:=hca.mono hs12.le
  have hka:=hka.mono' EncE.mono hs12.le
  have hka2:=hka2.mono' EncE.mono hs12.le
  have hf:=hf.mono' EncE.mono hs12.le
  have hcb:=hcb.mono hs12.le
  have hkb2:=hkb2.mono' EncE.mono hs12.le
  have hg:=hg.mono' EncE.mono hs12.le
  have hb1:=hs12.le _ _ hb1
  have hb2:=hs12.le _ _ hb2
  have hca2:=hca2.mono hs12.le
  have hm1:=hm1.mono hs12.le
  have hm2:=hm2.mono' EncE.mono hs12.le
  have hp:=hp.mono hs12.le
  clear hor; have hor := hn12; clear hn12
  have hT:=hT.own hs12 (by omega)
  have hz12 := hs12.size
  refine ⟨trivial, ?_⟩
  refine Dd (by kernel_rfl) (κ _ _ ?_)
  refine cw_ret ?_
  rw [show bmeld ltE (f :: a) (g :: b) = f :: bmeld ltE a (g :: b) from by rw [bmeld, if_pos hc2]]
  exact ⟨_, (res_cell rfl (loadVar_n (n := 1) (by kernel_rfl) (by exact Blk.cells hor.1 rfl)) res_nil), _, _, rfl, hT, _, hp, treps_cons.2 ⟨_, _, rfl, hf, hm2⟩⟩
 ·
  replace hc2 : ¬ f.rank < g.rank := by have := of_decide_eq_false hc2; omega
  refine cw_rs fun _ κ => ?_
  refine Sm rfl rfl ?_
  refine as_h rfl (h_call (by kernel_rfl) rfl ?_)
  refine (te_rank hs7.sat hg).mono ?_
  rintro _ w13 ⟨rfl, hs13⟩
  have hca:=hca.mono hs13.le
  have hka:=hka.mono' EncE.mono hs13.le
  have hka2:=hka2.mono' EncE.mono hs13.le
  have hf:=hf.mono' EncE.mono hs13.le
  have hcb:=hcb.mono hs13.le
  have hkb2:=hkb2.mono' EncE.mono hs13.le
  have hg:=hg.mono' EncE.mono hs13.le
  have hb1:=hs13.le _ _ hb1
  have hb2:=hs13.le _ _ hb2
  have hor:=hor.then hs13
  have hT:=hT.then hs13
  have hz13 := hs13.size
  refine Sm rfl rfl ?_
  refine as_h rfl (h_call (by kernel_rfl) rfl ?_)
  refine (te_rank hs13.sat hf).mono ?_
  rintro _ w14 ⟨rfl, hs14⟩
  have hca:=hca.mono hs14.le
  have hka:=hka.mono' EncE.mono hs14.le
  have hka2:=hka2.mono' EncE.mono hs14.le
  have hf:=hf.mono' EncE.mono hs14.le
  have hcb:=hcb.mono hs14.le
  have hkb2:=hkb2.mono' EncE.mono hs14.le
  have hg:=hg.mono' EncE.mono hs14.le
  have hb1:=hs14.le _ _ hb1
  have hb2:=hs14.le _ _ hb2
  have hor:=hor.then hs14
  have hT:=hT.then hs14
  have hz14 := hs14.size
  refine as_q rfl rfl (q_lt rfl rfl) ?_
  refine Sa rfl rfl ?_
  refine as_nil (κ _ _ ?_)
  refine cw_cond rfl (fun hc3 => ?_) (fun hc3 => ?_)
  ·
   replace hc3 : g.rank < f.rank := by have := of_decide_eq_true hc3; omega
   refine cw_dr (by kernel_rfl) fun _ κ => ?_
   have hs15 := Step.drew hs14.sat
   have hz15 := hs15.size
   have hca:=hca.mono hs15.le
   have hka:=hka.mono' EncE.mono hs15.le
   have hka2:=hka2.mono' EncE.mono hs15.le
   have hf:=hf.mono' EncE.mono hs15.le
   have hcb:=hcb.mono hs15.le
   have hkb2:=hkb2.mono' EncE.mono hs15.le
   have hg:=hg.mono' EncE.mono hs15.le
   have hb1:=hs15.le _ _ hb1
   have hb2:=hs15.le _ _ hb2
   have hor:=hor.then hs15
   have hT:=hT.then hs15
   refine Dm 0 1 rfl (by kernel_rfl) rfl ?_
   refine Dlc 1 3 1 rfl (by kernel_rfl) (by kernel_rfl) rfl (by exact BlkR.cells (hs15.sat _ _ _ hb1) rfl) ?_
   refine Dlc 2 7 1 rfl (by kernel_rfl) (by kernel_rfl) rfl (by exact BlkR.cells (hs15.sat _ _ _ hb2) rfl) ?_
   refine Dm 5 39 rfl (by kernel_rfl) rfl ?_
   refine Dh 3 47 rfl (by kernel_rfl) (keep_sift (bs := [T,F]) (by kernel_rfl)) (h_call (by kernel_rfl) rfl ?_)
   refine (ce_rest hs15.sat hcb).mono ?_
   rintro _ w16 ⟨qb2, rfl, hs16, hcb2⟩
   have hca:=hca.mono hs16.le
   have hka:=hka.mono' EncE.mono hs16.le
   have hka2:=hka2.mono' EncE.mono hs16.le
   have hf:=hf.mono' EncE.mono hs16.le
   have hcb:=hcb.mono hs16.le
   have hkb2:=hkb2.mono' EncE.mono hs16.le
   have hg:=hg.mono' EncE.mono hs16.le
   have hb1:=hs16.le _ _ hb1
   have hb2:=hs16.le _ _ hb2
   have hor:=hor.then hs16
   have hT:=hT.then hs16
   have hz16 := hs16.size
   refine ⟨(by repeat' first | exact trivial | exact BlkR.cell (hs16.sat _ _ _ hb1) rfl | exact BlkR.cells (hs16.sat _ _ _ hb1) rfl | exact BlkR.cell (hs16.sat _ _ _ hb2) rfl | exact BlkR.cells (hs16.sat _ _ _ hb2) rfl | exact Blk.cell hor.1 rfl | exact Blk.cells hor.1 rfl | assumption | refine all_keep ?_ | refine And.intro ?_ ?_), ?_⟩
   refine Dh 4 63 rfl (by kernel_rfl) (keep_sift (bs := [T]) (by kernel_rfl)) (h_call (by kernel_rfl) rfl ?_)
   have hml := RT.sizes_length (bmeld ltE (f :: a) b)
   have hms := bmeld_size ltE (f :: a) b
   refine (ih _ _ (f :: a) b _ _ hs16.sat ⟨_, hca, hka⟩ ⟨_, hcb2, hkb2⟩ (by omega) (by omega)).mono ?_
   rintro v w17 ⟨qm, Mm, rfl, hs17, hm⟩
   obtain ⟨lm, hm1, hm2⟩ := hm
   have hmn := hm2.length
   have hca:=hca.mono hs17.le
   have hka2:=hka2.mono' EncE.mono hs17.le
   have hf:=hf.mono' EncE.mono hs17.le
   have hcb:=hcb.mono hs17.le
   have hkb2:=hkb2.mono' EncE.mono hs17.le
   have hg:=hg.mono' EncE.mono hs17.le
   have hb1:=hs17.le _ _ hb1
   have hb2:=hs17.le _ _ hb2
   have hor:=hor.then hs17
   have hcb2:=hcb2.mono hs17.le
   have hT:=hT.then hs17
   have hz17 := hs17.size
   refine ⟨trivial, ?_⟩
   refine Dh 6 127 rfl (by kernel_rfl) rfl (h_call (by kernel_rfl) rfl ?_)
   refine (ce_push hs17.sat hm1 (by omega)).mono ?_
   rintro _ w18 ⟨qp, Mp, rfl, hs18, hp⟩
   have hca:=hca.mono hs18.le
   have hka2:=hka2.mono' EncE.mono hs18.le
   have hf:=hf.mono' EncE.mono hs18.le
   have hcb:=hcb.mono hs18.le
   have hkb2:=hkb2.mono' EncE.mono hs18.le
   have hg:=hg.mono' EncE.mono hs18.le
   have hb1:=hs18.le _ _ hb1
   have hb2:=hs18.le _ _ hb2
   have hor:=hor.then hs18
   have hcb2:=hcb2.mono hs18.le
   have hm1:=hm1.mono hs18.le
   have hm2:=hm2.mono' EncE.mono hs18.le
   have hT:=hT.then hs18
   have hz18 := hs18.size
   refine ⟨trivial, ?_⟩
   refine Dh0 7 255 rfl (by kernel_rfl) rfl (h_store hs18.sat hor rfl rfl rfl (by kernel_rfl) rfl rfl rfl fun w19 hs19 hn19 => ?_)
   have hca:=hca.mono hs19.le
   have hka2:=hka2.mono' EncE.mono hs19.le
   have hf:=hf.mono' EncE.mono hs19.le
   have hcb:=hcb.mono hs19.le
   have hkb2:=hkb2.mono' EncE.mono hs19.le
   have hg:=hg.mono' EncE.mono hs19.le
   have hb1:=hs19.le _ _ hb1
   have hb2:=hs19.le _ _ hb2
   have hcb2:=hcb2.mono hs19.le
   have hm1:=hm1.mono hs19.le
   have hm2:=hm2.mono' EncE.mono hs19.le
   have hp:=hp.mono hs19.le
   clear hor; have hor := hn19; clear hn19
   have hT:=hT.own hs19 (by omega)
   have hz19 := hs19.size
   refine ⟨trivial, ?_⟩
   refine Dd (by kernel_rfl) (κ _ _ ?_)
   refine cw_ret ?_
   rw [show bmeld ltE (f :: a) (g :: b) = g :: bmeld ltE (f :: a) b from by rw [bmeld, if_neg hc2, if_pos hc3]]
   exact ⟨_, (res_cell rfl (loadVar_n (n := 1) (by kernel_rfl) (by exact Blk.cells hor.1 rfl)) res_nil), _, _, rfl, hT, _, hp, treps_cons.2 ⟨_, _, rfl, hg, hm2⟩⟩
  ·
   replace hc3 : ¬ g.rank < f.rank := by have := of_decide_eq_false hc3; omega
   refine cw_skip ?_
   refine hK4 _ _ ?_
   refine cw_rdS (fun l2 w5 => ∃ (M5 : Mem) (bs : Nat) (qm : Option Addr) (lm : List (Option Addr)), bs ≠ br ∧ w.heap.size ≤ bs ∧ l2 = [(0, .pointer none), (6, .pointer (some ⟨br, 0, none⟩)), (7, .pointer fq), (9, .pointer gq), (11, .pointer (some ⟨bs, 0, none⟩))] ∧ Step Nope M w M5 w5 ∧ Own w5 M5 bs [.pointer qm] 72 ∧ Own w5 M5 br [.pointer none] 72 ∧ CRep 197 M5 lm (.pointer qm) ∧ TReps 220 2 EncE M5 (bmeld ltE a b) lm ∧ TRep 220 2 EncE M5 f fq ∧ TRep 220 2 EncE M5 g gq) (by kernel_rfl) (by kernel_rfl) (by kernel_rfl) rfl rfl ?_ ?_
   ·
    have hs20 := Step.drew hs14.sat
    have hz20 := hs20.size
    have hca:=hca.mono hs20.le
    have hka2:=hka2.mono' EncE.mono hs20.le
    have hf:=hf.mono' EncE.mono hs20.le
    have hcb:=hcb.mono hs20.le
    have hkb2:=hkb2.mono' EncE.mono hs20.le
    have hg:=hg.mono' EncE.mono hs20.le
    have hb1:=hs20.le _ _ hb1
    have hb2:=hs20.le _ _ hb2
    have hor:=hor.then hs20
    have hT:=hT.then hs20
    refine Dm 0 1 rfl (by kernel_rfl) rfl ?_
    refine Dlc 1 3 1 rfl (by kernel_rfl) (by kernel_rfl) rfl (by exact BlkR.cells (hs20.sat _ _ _ hb1) rfl) ?_
    refine Dlc 3 11 1 rfl (by kernel_rfl) (by kernel_rfl) rfl (by exact BlkR.cells (hs20.sat _ _ _ hb2) rfl) ?_
    refine at_two (i := 2) (j := 6) (by kernel_rfl) ?_ ?_
    ·
     refine Dah 2 15 rfl (by kernel_rfl) (keep_sift (bs := [F,T]) (by kernel_rfl)) (h_call (by kernel_rfl) rfl ?_)
     refine (ce_rest hs20.sat hca).mono ?_
     rintro _ w21 ⟨qa2, rfl, hs21, hca2⟩
     have hca:=hca.mono hs21.le
     have hka2:=hka2.mono' EncE.mono hs21.le
     have hf:=hf.mono' EncE.mono hs21.le
     have hcb:=hcb.mono hs21.le
     have hkb2:=hkb2.mono' EncE.mono hs21.le
     have hg:=hg.mono' EncE.mono hs21.le
     have hb1:=hs21.le _ _ hb1
     have hb2:=hs21.le _ _ hb2
     have hor:=hor.then hs21
     have hT:=hT.then hs21
     have hz21 := hs21.size
     refine ⟨(by repeat' first | exact trivial | exact BlkR.cell (hs21.sat _ _ _ hb1) rfl | exact BlkR.cells (hs21.sat _ _ _ hb1) rfl | exact BlkR.cell (hs21.sat _ _ _ hb2) rfl | exact BlkR.cells (hs21.sat _ _ _ hb2) rfl | exact Blk.cell hor.1 rfl | exact Blk.cells hor.1 rfl | assumption | refine all_keep ?_ | refine And.intro ?_ ?_), ?_⟩
     refine at_two (i := 4) (j := 6) (by kernel_rfl) ?_ ?_
     ·
      refine Dah 4 31 rfl (by kernel_rfl) (keep_sift (bs := [T]) (by kernel_rfl)) (h_call (by kernel_rfl) rfl ?_)
      refine (ce_rest hs21.sat hcb).mono ?_
      rintro _ w22 ⟨qb2, rfl, hs22, hcb2⟩
      have hca:=hca.mono hs22.le
      have hka2:=hka2.mono' EncE.mono hs22.le
      have hf:=hf.mono' EncE.mono hs22.le
      have hcb:=hcb.mono hs22.le
      have hkb2:=hkb2.mono' EncE.mono hs22.le
      have hg:=hg.mono' EncE.mono hs22.le
      have hb1:=hs22.le _ _ hb1
      have hb2:=hs22.le _ _ hb2
      have hor:=hor.then hs22
      have hca2:=hca2.mono hs22.le
      have hT:=hT.then hs22
      have hz22 := hs22.size
      refine ⟨trivial, ?_⟩
      refine at_two (i := 5) (j := 6) (by kernel_rfl) ?_ ?_
      ·
       refine Dah 5 63 rfl (by kernel_rfl) rfl (h_call (by kernel_rfl) rfl ?_)
       have hml := RT.sizes_length (bmeld ltE a b)
       have hms := bmeld_size ltE a b
       refine (ih _ _ a b _ _ hs22.sat ⟨_, hca2, hka2⟩ ⟨_, hcb2, hkb2⟩ (by omega) (by omega)).mono ?_
       rintro v w23 ⟨qm, Mm, rfl, hs23, hm⟩
       obtain ⟨lm, hm1, hm2⟩ := hm
       have hmn := hm2.length
       have hca:=hca.mono hs23.le
       have hka2:=hka2.mono' EncE.mono hs23.le
       have hf:=hf.mono' EncE.mono hs23.le
       have hcb:=hcb.mono hs23.le
       have hkb2:=hkb2.mono' EncE.mono hs23.le
       have hg:=hg.mono' EncE.mono hs23.le
       have hb1:=hs23.le _ _ hb1
       have hb2:=hs23.le _ _ hb2
       have hor:=hor.then hs23
       have hca2:=hca2.mono hs23.le
       have hcb2:=hcb2.mono hs23.le
       have hT:=hT.then hs23
       have hz23 := hs23.size
       refine ⟨trivial, ?_⟩
       have hqas := hT.size
       refine Dh 6 127 rfl (by kernel_rfl) rfl (h_allocO (z := (.agg #[(.pointer none)])) hs23.sat (by kernel_rfl) rfl fun bs w24 hs24 hos es => ?_)
       have hca:=hca.mono hs24.le
       have hka2:=hka2.mono' EncE.mono hs24.le
       have hf:=hf.mono' EncE.mono hs24.le
       have hcb:=hcb.mono hs24.le
       have hkb2:=hkb2.mono' EncE.mono hs24.le
       have hg:=hg.mono' EncE.mono hs24.le
       have hb1:=hs24.le _ _ hb1
       have hb2:=hs24.le _ _ hb2
       have hor:=hor.then hs24
       have hca2:=hca2.mono hs24.le
       have hcb2:=hcb2.mono hs24.le
       have hm1:=hm1.mono hs24.le
       have hm2:=hm2.mono' EncE.mono hs24.le
       have hT:=hT.then hs24
       have hz24 := hs24.size
       have hls := hos.1.lt
       refine ⟨trivial, ?_⟩
       refine Dh0 7 255 rfl (by kernel_rfl) rfl (h_store hs24.sat hos rfl rfl rfl (by kernel_rfl) rfl rfl rfl fun w25 hs25 hn25 => ?_)
       have hca:=hca.mono hs25.le
       have hka2:=hka2.mono' EncE.mono hs25.le
       have hf:=hf.mono' EncE.mono hs25.le
       have hcb:=hcb.mono hs25.le
       have hkb2:=hkb2.mono' EncE.mono hs25.le
       have hg:=hg.mono' EncE.mono hs25.le
       have hb1:=hs25.le _ _ hb1
       have hb2:=hs25.le _ _ hb2
       have hor:=hor.step hs25 (fun h => by have h : _ = _ := h; omega)
       have hca2:=hca2.mono hs25.le
       have hcb2:=hcb2.mono hs25.le
       have hm1:=hm1.mono hs25.le
       have hm2:=hm2.mono' EncE.mono hs25.le
       clear hos; have hos := hn25; clear hn25
       have hT:=hT.own hs25 (by omega)
       have hz25 := hs25.size
       refine ⟨trivial, ?_⟩
       refine Dd (by kernel_rfl) ?_
       have hTs := hT.size
       exact ⟨_, (.cons rfl (.cons rfl (.cons rfl (.cons rfl (.cons rfl (.nil _)))))), _, bs, _, _, by omega, by omega, rfl, hT, hos, hor, hm1, hm2, hf, hg⟩
      ·
       have hqas := hT.size
       refine Dah 6 95 rfl (by kernel_rfl) rfl (h_allocO (z := (.agg #[(.pointer none)])) hs22.sat (by kernel_rfl) rfl fun bs w26 hs26 hos es => ?_)
       have hca:=hca.mono hs26.le
       have hka2:=hka2.mono' EncE.mono hs26.le
       have hf:=hf.mono' EncE.mono hs26.le
       have hcb:=hcb.mono hs26.le
       have hkb2:=hkb2.mono' EncE.mono hs26.le
       have hg:=hg.mono' EncE.mono hs26.le
       have hb1:=hs26.le _ _ hb1
       have hb2:=hs26.le _ _ hb2
       have hor:=hor.then hs26
       have hca2:=hca2.mono hs26.le
       have hcb2:=hcb2.mono hs26.le
       have hT:=hT.then hs26
       have hz26 := hs26.size
       have hls := hos.1.lt
       refine ⟨trivial, ?_⟩
       refine Dh 5 127 rfl (by kernel_rfl) rfl (h_call (by kernel_rfl) rfl ?_)
       have hml := RT.sizes_length (bmeld ltE a b)
       have hms := bmeld_size ltE a b
       refine (ih _ _ a b _ _ hs26.sat ⟨_, hca2, hka2⟩ ⟨_, hcb2, hkb2⟩ (by omega) (by omega)).mono ?_
       rintro v w27 ⟨qm, Mm, rfl, hs27, hm⟩
       obtain ⟨lm, hm1, hm2⟩ := hm
       have hmn := hm2.length
       have hca:=hca.mono hs27.le
       have hka2:=hka2.mono' EncE.mono hs27.le
       have hf:=hf.mono' EncE.mono hs27.le
       have hcb:=hcb.mono hs27.le
       have hkb2:=hkb2.mono' EncE.mono hs27.le
       have hg:=hg.mono' EncE.mono hs27.le
       have hb1:=hs27.le _ _ hb1
       have hb2:=hs27.le _ _ hb2
       have hor:=hor.then hs27
       have hca2:=hca2.mono hs27.le
       have hcb2:=hcb2.mono hs27.le
       have hos:=hos.then hs27
       have hT:=hT.then hs27
       have hz27 := hs27.size
       refine ⟨trivial, ?_⟩
       refine Dh0 7 255 rfl (by kernel_rfl) rfl (h_store hs27.sat hos rfl rfl rfl (by kernel_rfl) rfl rfl rfl fun w28 hs28 hn28 => ?_)
       have hca:=hca.mono hs28.le
       have hka2:=hka2.mono' EncE.mono hs28.le
       have hf:=hf.mono' EncE.mono hs28.le
       have hcb:=hcb.mono hs28.le
       have hkb2:=hkb2.mono' EncE.mono hs28.le
       have hg:=hg.mono' EncE.mono hs28.le
       have hb1:=hs28.le _ _ hb1
       have hb2:=hs28.le _ _ hb2
       have hor:=hor.step hs28 (fun h => by have h : _ = _ := h; omega)
       have hca2:=hca2.mono hs28.le
       have hcb2:=hcb2.mono hs28.le
       have hm1:=hm1.mono hs28.le
       have hm2:=hm2.mono' EncE.mono hs28.le
       clear hos; have hos := hn28; clear hn28
       have hT:=hT.own hs28 (by omega)
       have hz28 := hs28.size
       refine ⟨trivial, ?_⟩
       refine Dd (by kernel_rfl) ?_
       have hTs := hT.size
       exact ⟨_, (.cons rfl (.cons rfl (.cons rfl (.cons rfl (.cons rfl (.nil _)))))), _, bs, _, _, by omega, by omega, rfl, hT, hos, hor, hm1, hm2, hf, hg⟩
     ·
      have hqas := hT.size
      refine Dah 6 79 rfl (by kernel_rfl) (keep_sift (bs := [F]) (by kernel_rfl)) (h_allocO (z := (.agg #[(.pointer none)])) hs21.sat (by kernel_rfl) rfl fun bs w29 hs29 hos es => ?_)
      have hca:=hca.mono hs29.le
      have hka2:=hka2.mono' EncE.mono hs29.le
      have hf:=hf.mono' EncE.mono hs29.le
      have hcb:=hcb.mono hs29.le
      have hkb2:=hkb2.mono' EncE.mono hs29.le
      have hg:=hg.mono' EncE.mono hs29.le
      have hb1:=hs29.le _ _ hb1
      have hb2:=hs29.le _ _ hb2
      have hor:=hor.then hs29
      have hca2:=hca2.mono hs29.le
      have hT:=hT.then hs29
      have hz29 := hs29.size
      have hls := hos.1.lt
      refine ⟨(by repeat' first | exact trivial | exact BlkR.cell (hs29.sat _ _ _ hb1) rfl | exact BlkR.cells (hs29.sat _ _ _ hb1) rfl | exact BlkR.cell (hs29.sat _ _ _ hb2) rfl | exact BlkR.cells (hs29.sat _ _ _ hb2) rfl | exact Blk.cell hor.1 rfl | exact Blk.cells hor.1 rfl | exact Blk.cell hos.1 rfl | exact Blk.cells hos.1 rfl | assumption | refine all_keep ?_ | refine And.intro ?_ ?_), ?_⟩
      refine Dh 4 95 rfl (by kernel_rfl) (keep_sift (bs := [T]) (by kernel_rfl)) (h_call (by kernel_rfl) rfl ?_)
      refine (ce_rest hs29.sat hcb).mono ?_
      rintro _ w30 ⟨qb2, rfl, hs30, hcb2⟩
      have hca:=hca.mono hs30.le
      have hka2:=hka2.mono' EncE.mono hs30.le
      have hf:=hf.mono' EncE.mono hs30.le
      have hcb:=hcb.mono hs30.le
      have hkb2:=hkb2.mono' EncE.mono hs30.le
      have hg:=hg.mono' EncE.mono hs30.le
      have hb1:=hs30.le _ _ hb1
      have hb2:=hs30.le _ _ hb2
      have hor:=hor.then hs30
      have hca2:=hca2.mono hs30.le
      have hos:=hos.then hs30
      have hT:=hT.then hs30
      have hz30 := hs30.size
      refine ⟨trivial, ?_⟩
      refine Dh 5 127 rfl (by kernel_rfl) rfl (h_call (by kernel_rfl) rfl ?_)
      have hml := RT.sizes_length (bmeld ltE a b)
      have hms := bmeld_size ltE a b
      refine (ih _ _ a b _ _ hs30.sat ⟨_, hca2, hka2⟩ ⟨_, hcb2, hkb2⟩ (by omega) (by omega)).mono ?_
      rintro v w31 ⟨qm, Mm, rfl, hs31, hm⟩
      obtain ⟨lm, hm1, hm2⟩ := hm
      have hmn := hm2.length
      have hca:=hca.mono hs31.le
      have hka2:=hka2.mono' EncE.mono hs31.le
      have hf:=hf.mono' EncE.mono hs31.le
      have hcb:=hcb.mono hs31.le
      have hkb2:=hkb2.mono' EncE.mono hs31.le
      have hg:=hg.mono' EncE.mono hs31.le
      have hb1:=hs31.le _ _ hb1
      have hb2:=hs31.le _ _ hb2
      have hor:=hor.then hs31
      have hca2:=hca2.mono hs31.le
      have hos:=hos.then hs31
      have hcb2:=hcb2.mono hs31.le
      have hT:=hT.then hs31
      have hz31 := hs31.size
      refine ⟨trivial, ?_⟩
      refine Dh0 7 255 rfl (by kernel_rfl) rfl (h_store hs31.sat hos rfl rfl rfl (by kernel_rfl) rfl rfl rfl fun w32 hs32 hn32 => ?_)
      have hca:=hca.mono hs32.le
      have hka2:=hka2.mono' EncE.mono hs32.le
      have hf:=hf.mono' EncE.mono hs32.le
      have hcb:=hcb.mono hs32.le
      have hkb2:=hkb2.mono' EncE.mono hs32.le
      have hg:=hg.mono' EncE.mono hs32.le
      have hb1:=hs32.le _ _ hb1
      have hb2:=hs32.le _ _ hb2
      have hor:=hor.step hs32 (fun h => by have h : _ = _ := h; omega)
      have hca2:=hca2.mono hs32.le
      have hcb2:=hcb2.mono hs32.le
      have hm1:=hm1.mono hs32.le
      have hm2:=hm2.mono' EncE.mono hs32.le
      clear hos; have hos := hn32; clear hn32
      have hT:=hT.own hs32 (by omega)
      have hz32 := hs32.size
      refine ⟨trivial, ?_⟩
      refine Dd (by kernel_rfl) ?_
      have hTs := hT.size
      exact ⟨_, (.cons rfl (.cons rfl (.cons rfl (.cons rfl (.cons rfl (.nil _)))))), _, bs, _, _, by omega, by omega, rfl, hT, hos, hor, hm1, hm2, hf, hg⟩
    ·
     have hqas := hT.size
     refine Dah 6 75 rfl (by kernel_rfl) (keep_sift (bs := [F,F]) (by kernel_rfl)) (h_allocO (z := (.agg #[(.pointer none)])) hs20.sat (by kernel_rfl) rfl fun bs w33 hs33 hos es => ?_)
     have hca:=hca.mono hs33.le
     have hka2:=hka2.mono' EncE.mono hs33.le
     have hf:=hf.mono' EncE.mono hs33.le
     have hcb:=hcb.mono hs33.le
     have hkb2:=hkb2.mono' EncE.mono hs33.le
     have hg:=hg.mono' EncE.mono hs33.le
     have hb1:=hs33.le _ _ hb1
     have hb2:=hs33.le _ _ hb2
     have hor:=hor.then hs33
     have hT:=hT.then hs33
     have hz33 := hs33.size
     have hls := hos.1.lt
     refine ⟨(by repeat' first | exact trivial | exact BlkR.cell (hs33.sat _ _ _ hb1) rfl | exact BlkR.cells (hs33.sat _ _ _ hb1) rfl | exact BlkR.cell (hs33.sat _ _ _ hb2) rfl | exact BlkR.cells (hs33.sat _ _ _ hb2) rfl | exact Blk.cell hor.1 rfl | exact Blk.cells hor.1 rfl | exact Blk.cell hos.1 rfl | exact Blk.cells hos.1 rfl | assumption | refine all_keep ?_ | refine And.intro ?_ ?_), ?_⟩
     refine Dh 2 79 rfl (by kernel_rfl) (keep_sift (bs := [F,T]) (by kernel_rfl)) (h_call (by kernel_rfl) rfl ?_)
     refine (ce_rest hs33.sat hca).mono ?_
     rintro _ w34 ⟨qa2, rfl, hs34, hca2⟩
     have hka2:=hka2.mono' EncE.mono hs34.le
     have hf:=hf.mono' EncE.mono hs34.le
     have hcb:=hcb.mono hs34.le
     have hkb2:=hkb2.mono' EncE.mono hs34.le
     have hg:=hg.mono' EncE.mono hs34.le
     have hb1:=hs34.le _ _ hb1
     have hb2:=hs34.le _ _ hb2
     have hor:=hor.then hs34
     have hos:=hos.then hs34
     have hT:=hT.then hs34
     have hz34 := hs34.size
     refine ⟨(by repeat' first | exact trivial | exact BlkR.cell (hs34.sat _ _ _ hb1) rfl | exact BlkR.cells (hs34.sat _ _ _ hb1) rfl | exact BlkR.cell (hs34.sat _ _ _ hb2) rfl | exact BlkR.cells (hs34.sat _ _ _ hb2) rfl | exact Blk.cell hor.1 rfl | exact Blk.cells hor.1 rfl | exact Blk.cell hos.1 rfl | exact Blk.cells hos.1 rfl | assumption | refine all_keep ?_ | refine And.intro ?_ ?_), ?_⟩
     refine Dh 4 95 rfl (by kernel_rfl) (keep_sift (bs := [T]) (by kernel_rfl)) (h_call (by kernel_rfl) rfl ?_)
     refine (ce_rest hs34.sat hcb).mono ?_
     rintro _ w35 ⟨qb2, rfl, hs35, hcb2⟩
     have hka2:=hka2.mono' EncE.mono hs35.le
     have hf:=hf.mono' EncE.mono hs35.le
     have hkb2:=hkb2.mono' EncE.mono hs35.le
     have hg:=hg.mono' EncE.mono hs35.le
     have hor:=hor.then hs35
     have hos:=hos.then hs35
     have hca2:=hca2.mono hs35.le
     have hT:=hT.then hs35
     have hz35 := hs35.size
     refine ⟨trivial, ?_⟩
     refine Dh 5 127 rfl (by kernel_rfl) rfl (h_call (by kernel_rfl) rfl ?_)
     have hml := RT.sizes_length (bmeld ltE a b)
     have hms := bmeld_size ltE a b
     refine (ih _ _ a b _ _ hs35.sat ⟨_, hca2, hka2⟩ ⟨_, hcb2, hkb2⟩ (by omega) (by omega)).mono ?_
     rintro v w36 ⟨qm, Mm, rfl, hs36, hm⟩
     obtain ⟨lm, hm1, hm2⟩ := hm
     have hmn := hm2.length
     have hf:=hf.mono' EncE.mono hs36.le
     have hg:=hg.mono' EncE.mono hs36.le
     have hor:=hor.then hs36
     have hos:=hos.then hs36
     have hT:=hT.then hs36
     have hz36 := hs36.size
     refine ⟨trivial, ?_⟩
     refine Dh0 7 255 rfl (by kernel_rfl) rfl (h_store hs36.sat hos rfl rfl rfl (by kernel_rfl) rfl rfl rfl fun w37 hs37 hn37 => ?_)
     have hf:=hf.mono' EncE.mono hs37.le
     have hg:=hg.mono' EncE.mono hs37.le
     have hor:=hor.step hs37 (fun h => by have h : _ = _ := h; omega)
     have hm1:=hm1.mono hs37.le
     have hm2:=hm2.mono' EncE.mono hs37.le
     clear hos; have hos := hn37; clear hn37
     have hT:=hT.own hs37 (by omega)
     have hz37 := hs37.size
     refine ⟨trivial, ?_⟩
     refine Dd (by kernel_rfl) ?_
     have hTs := hT.size
     exact ⟨_, (.cons rfl (.cons rfl (.cons rfl (.cons rfl (.cons rfl (.nil _)))))), _, bs, _, _, by omega, by omega, rfl, hT, hos, hor, hm1, hm2, hf, hg⟩
   have hml := RT.sizes_length (bmeld ltE a b)
   have hms := bmeld_size ltE a b
   have hbrw : w.heap.size ≤ br := by omega
   clear hT hor hf hg
   rintro l2 w5 ⟨M5, bs, qm, lm, hne, hbsw, rfl, hT, hos, hor, hm1, hm2, hf, hg⟩
   refine cw_dr (by kernel_rfl) fun _ κ => ?_
   have hs38 := Step.drew hT.sat
   have hz38 := hs38.size
   have hos:=hos.then hs38
   have hor:=hor.then hs38
   have hm1:=hm1.mono hs38.le
   have hm2:=hm2.mono' EncE.mono hs38.le
   have hf:=hf.mono' EncE.mono hs38.le
   have hg:=hg.mono' EncE.mono hs38.le
   have hT:=hT.then hs38
   refine Dm 0 1 rfl (by kernel_rfl) rfl ?_
   refine Dm 1 3 rfl (by kernel_rfl) rfl ?_
   refine Dm 2 7 rfl (by kernel_rfl) rfl ?_
   refine Dm 3 15 rfl (by kernel_rfl) rfl ?_
   refine Dlc 5 47 1 rfl (by kernel_rfl) (by kernel_rfl) rfl (by exact Blk.cells hos.1 rfl) ?_
   refine Dh 4 63 rfl (by kernel_rfl) (keep_sift (bs := [F]) (by kernel_rfl)) (h_call (by kernel_rfl) rfl ?_)
   refine (te_link hs38.sat hf hg (by omega)).mono ?_
   rintro _ w39 ⟨qn, Mn, rfl, hs39, hn⟩
   have hos:=hos.then hs39
   have hor:=hor.then hs39
   have hm1:=hm1.mono hs39.le
   have hm2:=hm2.mono' EncE.mono hs39.le
   have hT:=hT.then hs39
   have hz39 := hs39.size
   refine ⟨(by repeat' first | exact trivial | exact Blk.cell hos.1 rfl | exact Blk.cells hos.1 rfl | exact Blk.cell hor.1 rfl | exact Blk.cells hor.1 rfl | assumption | refine all_keep ?_ | refine And.intro ?_ ?_), ?_⟩
   refine Dh 6 127 rfl (by kernel_rfl) (keep_sift (bs := [T]) (by kernel_rfl)) (h_call (by kernel_rfl) rfl ?_)
   refine (b_put hs39.sat hn ⟨_, hm1, hm2⟩ (by rw [RT.link_size]; omega)).mono ?_
   rintro _ w40 ⟨qz, Mz, rfl, hs40, hzz⟩
   have hor:=hor.then hs40
   have hT:=hT.then hs40
   have hz40 := hs40.size
   refine ⟨trivial, ?_⟩
   refine Dh0 7 255 rfl (by kernel_rfl) rfl (h_store hs40.sat hor rfl rfl rfl (by kernel_rfl) rfl rfl rfl fun w41 hs41 hn41 => ?_)
   have hzz:=hzz.mono' EncE.mono hs41.le
   clear hor; have hor := hn41; clear hn41
   have hT:=hT.own hs41 (by omega)
   have hz41 := hs41.size
   refine ⟨trivial, ?_⟩
   refine Dd (by kernel_rfl) (κ _ _ ?_)
   refine cw_ret ?_
   rw [show bmeld ltE (f :: a) (g :: b) = bput ltE (RT.link ltE f g) (bmeld ltE a b) from by rw [bmeld, if_neg hc2, if_neg hc3]]
   exact ⟨_, (res_cell rfl (loadVar_n (n := 1) (by kernel_rfl) (by exact Blk.cells hor.1 rfl)) res_nil), _, _, rfl, hT, hzz⟩
theorem b_meld_all : ∀ k, BMeld k
 | 0 => fun _ _ _ _ _ _ _ _ _ h _ => absurd h (Nat.not_lt_zero _)
 | k + 1 => fun w M a b qa qb hs ha hb hk hz => by
  cases a with
  | nil =>
   obtain rfl := frep_nil.1 ha
   cases b with
   | nil => obtain rfl := frep_nil.1 hb; rw [show bmeld ltE ([] : List (RT El)) [] = [] by rw [bmeld]]; exact b_meld_00 hs
   | cons g b => rw [show bmeld ltE [] (g :: b) = g :: b by rw [bmeld]]; exact b_meld_01 hs hb
  | cons f a =>
   cases b with
   | nil => obtain rfl := frep_nil.1 hb; rw [show bmeld ltE (f :: a) [] = f :: a by rw [bmeld]]; exact b_meld_10 hs ha
   | cons g b => exact b_meld_11 (b_meld_all k) hs ha hb hk hz
end Go.Proofs.YtgcgjpfjjgalmaaGreat
