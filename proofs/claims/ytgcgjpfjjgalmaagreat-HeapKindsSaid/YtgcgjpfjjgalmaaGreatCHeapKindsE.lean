/- Steps of the proof that the law of this claim answers true, part 5. No conditions. -/
import Derived.Test.YtgcgjpfjjgalmaaGreatCHeapKindsD
/- Leftist heaps, part 1. -/
namespace Go.Proofs.YtgcgjpfjjgalmaaGreat
open Go Go.Eng
theorem l_rank_nil {w : World} {M : Mem} (hs : Sat M w) :
    Does Tryz.prog 284 #[.agg #[.pointer none]] w (fun v w' => v = .int .i64 ((Lft.nil.rank : Nat) : Int) ∧ Step Nope M w M w') := by
  have hT := Step.refl Nope hs
  refine fn_enter Tryz.func284 rfl (rs := [.tmp 2]) rfl rfl rfl rfl ?_
  refine cw_rs fun _ κ => ?_
  refine as_h rfl (h_boxM hs rfl rfl fun b1 M1 w1 hs1 hb1 e1 => ?_)
  replace hT := hT.then hs1
  refine Sa rfl rfl ?_
  refine as_nil (κ _ _ ?_)
  refine cw_seq fun _ hK2 => ?_
  refine cw_rs fun _ κ => ?_
  refine Sf 0 rfl (by kernel_rfl) rfl ?_
  refine S1 rfl (by kernel_rfl) rfl (by exact BlkR.cell (hs1.sat _ _ _ hb1) rfl) ?_
  refine as_q rfl rfl (q_eqnil (by kernel_rfl) rfl) ?_
  refine as_nil (κ _ _ ?_)
  refine cw_true rfl ?_
  refine cw_rs fun _ κ => ?_
  refine Sa rfl rfl ?_
  refine as_nil (κ _ _ ?_)
  refine cw_ret ?_
  exact ⟨_, (res_tmp rfl res_nil), rfl, hT.forget⟩
theorem l_rank_node {w : World} {M : Mem} {x : El} {l r : Lft} {p : Value} (hs : Sat M w) (h : LRep 171 M (.node x l r) p) :
    Does Tryz.prog 284 #[.agg #[p]] w (fun v w' => v = .int .i64 (((Lft.node x l r).rank : Nat) : Int) ∧ Step Nope M w M w') := by
  have hT := Step.refl Nope hs
  obtain ⟨b, pl, pr, rfl, hb, hl, hr⟩ := h
  refine fn_enter Tryz.func284 rfl (rs := [.tmp 2]) rfl rfl rfl rfl ?_
  refine cw_rs fun _ κ => ?_
  refine as_h rfl (h_boxM hs rfl rfl fun b1 M1 w1 hs1 hb1 e1 => ?_)
  replace hb := hs1.le _ _ hb
  replace hT := hT.then hs1
  refine Sa rfl rfl ?_
  refine as_nil (κ _ _ ?_)
  refine cw_seq fun _ hK2 => ?_
  refine cw_rs fun _ κ => ?_
  refine Sf 0 rfl (by kernel_rfl) rfl ?_
  refine S1 rfl (by kernel_rfl) rfl (by exact BlkR.cell (hs1.sat _ _ _ hb1) rfl) ?_
  refine as_q rfl rfl (q_eqnil (by kernel_rfl) rfl) ?_
  refine as_nil (κ _ _ ?_)
  refine cw_false rfl ?_
  refine cw_skip ?_
  refine hK2 _ _ ?_
  refine cw_rs fun _ κ => ?_
  refine Sf 0 rfl (by kernel_rfl) rfl ?_
  refine S1 rfl (by kernel_rfl) rfl (by exact BlkR.cell (hs1.sat _ _ _ hb1) rfl) ?_
  refine as_q rfl rfl (q_nilp rfl) ?_
  refine Sf 4 rfl (by kernel_rfl) rfl ?_
  refine S1 rfl (by kernel_rfl) rfl (by exact BlkR.cell (hs1.sat _ _ _ hb) rfl) ?_
  refine Sa rfl rfl ?_
  refine as_nil (κ _ _ ?_)
  refine cw_ret ?_
  exact ⟨_, (res_tmp rfl res_nil), congrArg (Value.int .i64) (by simp [Lft.rank]), hT.forget⟩
theorem l_rank {w : World} {M : Mem} {t : Lft} {p : Value} (hs : Sat M w) (h : LRep 171 M t p) :
    Does Tryz.prog 284 #[.agg #[p]] w (fun v w' => v = .int .i64 (t.rank : Nat) ∧ Step Nope M w M w') := by
  cases t with
  | nil => cases h; exact l_rank_nil hs
  | node x l r => exact l_rank_node hs h
theorem l_size_nil {w : World} {M : Mem} (hs : Sat M w) :
    Does Tryz.prog 282 #[.agg #[.pointer none]] w (fun v w' => v = .int .i64 ((Lft.nil.size : Nat) : Int) ∧ Step Nope M w M w') := by
  have hT := Step.refl Nope hs
  refine fn_enter Tryz.func282 rfl (rs := [.tmp 2]) rfl rfl rfl rfl ?_
  refine cw_rs fun _ κ => ?_
  refine as_h rfl (h_boxM hs rfl rfl fun b1 M1 w1 hs1 hb1 e1 => ?_)
  replace hT := hT.then hs1
  refine Sa rfl rfl ?_
  refine as_nil (κ _ _ ?_)
  refine cw_seq fun _ hK2 => ?_
  refine cw_rs fun _ κ => ?_
  refine Sf 0 rfl (by kernel_rfl) rfl ?_
  refine S1 rfl (by kernel_rfl) rfl (by exact BlkR.cell (hs1.sat _ _ _ hb1) rfl) ?_
  refine as_q rfl rfl (q_eqnil (by kernel_rfl) rfl) ?_
  refine as_nil (κ _ _ ?_)
  refine cw_true rfl ?_
  refine cw_rs fun _ κ => ?_
  refine Sa rfl rfl ?_
  refine as_nil (κ _ _ ?_)
  refine cw_ret ?_
  exact ⟨_, (res_tmp rfl res_nil), rfl, hT.forget⟩
theorem l_size_node {w : World} {M : Mem} {x : El} {l r : Lft} {p : Value} (hs : Sat M w) (h : LRep 171 M (.node x l r) p) :
    Does Tryz.prog 282 #[.agg #[p]] w (fun v w' => v = .int .i64 (((Lft.node x l r).size : Nat) : Int) ∧ Step Nope M w M w') := by
  have hT := Step.refl Nope hs
  obtain ⟨b, pl, pr, rfl, hb, hl, hr⟩ := h
  refine fn_enter Tryz.func282 rfl (rs := [.tmp 2]) rfl rfl rfl rfl ?_
  refine cw_rs fun _ κ => ?_
  refine as_h rfl (h_boxM hs rfl rfl fun b1 M1 w1 hs1 hb1 e1 => ?_)
  replace hb := hs1.le _ _ hb
  replace hT := hT.then hs1
  refine Sa rfl rfl ?_
  refine as_nil (κ _ _ ?_)
  refine cw_seq fun _ hK2 => ?_
  refine cw_rs fun _ κ => ?_
  refine Sf 0 rfl (by kernel_rfl) rfl ?_
  refine S1 rfl (by kernel_rfl) rfl (by exact BlkR.cell (hs1.sat _ _ _ hb1) rfl) ?_
  refine as_q rfl rfl (q_eqnil (by kernel_rfl) rfl) ?_
  refine as_nil (κ _ _ ?_)
  refine cw_false rfl ?_
  refine cw_skip ?_
  refine hK2 _ _ ?_
  refine cw_rs fun _ κ => ?_
  refine Sf 0 rfl (by kernel_rfl) rfl ?_
  refine S1 rfl (by kernel_rfl) rfl (by exact BlkR.cell (hs1.sat _ _ _ hb1) rfl) ?_
  refine as_q rfl rfl (q_nilp rfl) ?_
  refine Sf 5 rfl (by kernel_rfl) rfl ?_
  refine S1 rfl (by kernel_rfl) rfl (by exact BlkR.cell (hs1.sat _ _ _ hb) rfl) ?_
  refine Sa rfl rfl ?_
  refine as_nil (κ _ _ ?_)
  refine cw_ret ?_
  exact ⟨_, (res_tmp rfl res_nil), congrArg (Value.int .i64) (by simp [Lft.size]), hT.forget⟩
theorem l_size {w : World} {M : Mem} {t : Lft} {p : Value} (hs : Sat M w) (h : LRep 171 M t p) :
    Does Tryz.prog 282 #[.agg #[p]] w (fun v w' => v = .int .i64 (t.size : Nat) ∧ Step Nope M w M w') := by
  cases t with
  | nil => cases h; exact l_size_nil hs
  | node x l r => exact l_size_node hs h
theorem l_made {w : World} {M : Mem} {x : El} {a b : Lft} {pa pb : Value} (hs : Sat M w) (ha : LRep 171 M a pa) (hb : LRep 171 M b pb) (hz : a.size + b.size ≤ 1000000000) :
    Does Tryz.prog 283 #[.pointer none, .agg (elc x).toArray, .agg #[pa], .agg #[pb]] w (fun v w' => ∃ p M', v = .agg #[p] ∧ Step Nope M w M' w' ∧ LRep 171 M' (Lft.mk x a b) p) := by
  have hT := Step.refl Nope hs
  have hra := a.rank_le
  have hrb := b.rank_le
  obtain ⟨qa, rfl⟩ := ha.ptr
  obtain ⟨qb, rfl⟩ := hb.ptr
  refine fn_enter Tryz.func283 rfl (rs := [.cell 8 67]) rfl rfl rfl rfl ?_
  refine cw_rs fun _ κ => ?_
  refine as_h rfl (h_boxM hs rfl rfl fun b1 M1 w1 hs1 hb1 e1 => ?_)
  replace ha := ha.mono hs1.le
  replace hb := hb.mono hs1.le
  replace hT := hT.then hs1
  have hz1 := hs1.size
  have hqaa := hT.size
  refine as_h rfl (h_boxO hs1.sat rfl rfl fun ba w2 hs2 hoa ea => ?_)
  replace ha := ha.mono hs2.le
  replace hb := hb.mono hs2.le
  replace hb1 := hs2.le _ _ hb1
  replace hT := hT.then hs2
  have hz2 := hs2.size
  have hla := hoa.1.lt
  have hqab := hT.size
  refine as_h rfl (h_boxO hs2.sat rfl rfl fun bb w3 hs3 hob eb => ?_)
  replace ha := ha.mono hs3.le
  replace hb := hb.mono hs3.le
  replace hb1 := hs3.le _ _ hb1
  replace hoa := hoa.then hs3
  replace hT := hT.then hs3
  have hz3 := hs3.size
  have hlb := hob.1.lt
  have hqar := hT.size
  refine as_h rfl (h_allocO (z := (.agg #[(.pointer none)])) hs3.sat (by kernel_rfl) rfl fun br w4 hs4 hor er => ?_)
  replace ha := ha.mono hs4.le
  replace hb := hb.mono hs4.le
  replace hb1 := hs4.le _ _ hb1
  replace hoa := hoa.then hs4
  replace hob := hob.then hs4
  replace hT := hT.then hs4
  have hz4 := hs4.size
  have hlr := hor.1.lt
  refine as_nil (κ _ _ ?_)
  refine cw_rs fun _ κ => ?_
  refine Sm rfl rfl ?_
  refine as_h rfl (h_call (by kernel_rfl) rfl ?_)
  refine (m_made hs4.sat).mono ?_
  rintro _ w5 hs5
  replace ha := ha.mono hs5.le
  replace hb := hb.mono hs5.le
  replace hb1 := hs5.le _ _ hb1
  replace hoa := hoa.then hs5
  replace hob := hob.then hs5
  replace hor := hor.then hs5
  replace hT := hT.then hs5
  have hz5 := hs5.size
  refine as_nil (κ _ _ ?_)
  refine cw_seq fun _ hK3 => ?_
  refine cw_dr (by kernel_rfl) fun _ κ => ?_
  have hs6 := Step.drew hs5.sat
  have hz6 := hs6.size
  replace ha := ha.mono hs6.le
  replace hb := hb.mono hs6.le
  replace hb1 := hs6.le _ _ hb1
  replace hoa := hoa.then hs6
  replace hob := hob.then hs6
  replace hor := hor.then hs6
  replace hT := hT.then hs6
  refine Dlc 0 1 1 rfl (by kernel_rfl) (by kernel_rfl) rfl (by exact Blk.cells hoa.1 rfl) ?_
  refine Dlc 2 5 1 rfl (by kernel_rfl) (by kernel_rfl) rfl (by exact Blk.cells hob.1 rfl) ?_
  refine Dh 1 7 rfl (by kernel_rfl) (keep_sift (bs := [F,T]) (by kernel_rfl)) (h_call (by kernel_rfl) rfl ?_)
  refine (l_rank hs6.sat ha).mono ?_
  rintro _ w7 ⟨rfl, hs7⟩
  replace ha := ha.mono hs7.le
  replace hb := hb.mono hs7.le
  replace hb1 := hs7.le _ _ hb1
  replace hoa := hoa.then hs7
  replace hob := hob.then hs7
  replace hor := hor.then hs7
  replace hT := hT.then hs7
  have hz7 := hs7.size
  refine ⟨(by repeat' first | exact trivial | exact BlkR.cell (hs7.sat _ _ _ hb1) rfl | exact BlkR.cells (hs7.sat _ _ _ hb1) rfl | exact Blk.cell hoa.1 rfl | exact Blk.cells hoa.1 rfl | exact Blk.cell hob.1 rfl | exact Blk.cells hob.1 rfl | exact Blk.cell hor.1 rfl | exact Blk.cells hor.1 rfl | assumption | refine all_keep ?_ | refine And.intro ?_ ?_), ?_⟩
  refine Dh 3 15 rfl (by kernel_rfl) (keep_sift (bs := [T]) (by kernel_rfl)) (h_call (by kernel_rfl) rfl ?_)
  refine (l_rank hs7.sat hb).mono ?_
  rintro _ w8 ⟨rfl, hs8⟩
  replace ha := ha.mono hs8.le
  replace hb := hb.mono hs8.le
  replace hb1 := hs8.le _ _ hb1
  replace hoa := hoa.then hs8
  replace hob := hob.then hs8
  replace hor := hor.then hs8
  replace hT := hT.then hs8
  have hz8 := hs8.size
  refine ⟨trivial, ?_⟩
  refine Dq 4 31 rfl (by kernel_rfl) (fun _ => (q_lt rfl rfl)) ?_
  refine Dd (by kernel_rfl) (κ _ _ ?_)
  refine cw_cond rfl (fun hc0 => ?_) (fun hc0 => ?_)
  · skip
    replace hc0 := of_decide_eq_true hc0
    refine cw_region fun _ κ => ?_
    refine Sc 1 rfl (by kernel_rfl) rfl (by exact Blk.cells hob.1 rfl) ?_
    refine Sc 1 rfl (by kernel_rfl) rfl (by exact Blk.cells hoa.1 rfl) ?_
    refine as_h0 (h_store hs8.sat hoa rfl rfl rfl (by kernel_rfl) rfl rfl rfl fun w9 hs9 hn9 => ?_)
    replace ha := ha.mono hs9.le
    replace hb := hb.mono hs9.le
    replace hb1 := hs9.le _ _ hb1
    replace hob := hob.step hs9 (fun h => by have h : _ = _ := h; omega)
    replace hor := hor.step hs9 (fun h => by have h : _ = _ := h; omega)
    clear hoa; have hoa := hn9; clear hn9
    replace hT := hT.own hs9 (by omega)
    have hz9 := hs9.size
    refine as_h0 (h_store hs9.sat hob rfl rfl rfl (by kernel_rfl) rfl rfl rfl fun w10 hs10 hn10 => ?_)
    replace ha := ha.mono hs10.le
    replace hb := hb.mono hs10.le
    replace hb1 := hs10.le _ _ hb1
    replace hoa := hoa.step hs10 (fun h => by have h : _ = _ := h; omega)
    replace hor := hor.step hs10 (fun h => by have h : _ = _ := h; omega)
    clear hob; have hob := hn10; clear hn10
    replace hT := hT.own hs10 (by omega)
    have hz10 := hs10.size
    refine as_nil (κ _ _ ?_)
    refine hK3 _ _ ?_
    refine cw_dr (by kernel_rfl) fun _ κ => ?_
    have hs11 := Step.drew hs10.sat
    have hz11 := hs11.size
    replace ha := ha.mono hs11.le
    replace hb := hb.mono hs11.le
    replace hb1 := hs11.le _ _ hb1
    replace hoa := hoa.then hs11
    replace hob := hob.then hs11
    replace hor := hor.then hs11
    replace hT := hT.then hs11
    refine Dlc 0 1 2 rfl (by kernel_rfl) (by kernel_rfl) rfl (by exact BlkR.cells (hs11.sat _ _ _ hb1) rfl) ?_
    refine Dlc 1 3 1 rfl (by kernel_rfl) (by kernel_rfl) rfl (by exact Blk.cells hoa.1 rfl) ?_
    refine Dlc 2 7 1 rfl (by kernel_rfl) (by kernel_rfl) rfl (by exact Blk.cells hob.1 rfl) ?_
    refine Dlc 3 15 1 rfl (by kernel_rfl) (by kernel_rfl) rfl (by exact Blk.cells hob.1 rfl) ?_
    refine Dlc 6 79 1 rfl (by kernel_rfl) (by kernel_rfl) rfl (by exact Blk.cells hoa.1 rfl) ?_
    refine Dlc 9 591 1 rfl (by kernel_rfl) (by kernel_rfl) rfl (by exact Blk.cells hob.1 rfl) ?_
    refine Dh 4 607 rfl (by kernel_rfl) (keep_sift (bs := [F,F,T,F,F,F]) (by kernel_rfl)) (h_call (by kernel_rfl) rfl ?_)
    refine (l_rank hs11.sat ha).mono ?_
    rintro _ w12 ⟨rfl, hs12⟩
    replace ha := ha.mono hs12.le
    replace hb := hb.mono hs12.le
    replace hb1 := hs12.le _ _ hb1
    replace hoa := hoa.then hs12
    replace hob := hob.then hs12
    replace hor := hor.then hs12
    replace hT := hT.then hs12
    have hz12 := hs12.size
    refine ⟨(by repeat' first | exact trivial | exact BlkR.cell (hs12.sat _ _ _ hb1) rfl | exact BlkR.cells (hs12.sat _ _ _ hb1) rfl | exact Blk.cell hoa.1 rfl | exact Blk.cells hoa.1 rfl | exact Blk.cell hob.1 rfl | exact Blk.cells hob.1 rfl | exact Blk.cell hor.1 rfl | exact Blk.cells hor.1 rfl | assumption | refine all_keep ?_ | refine And.intro ?_ ?_), ?_⟩
    refine Dq 5 639 rfl (by kernel_rfl) (fun _ => (q_addx rfl rfl (by omega) (by omega))) ?_
    refine Dh 7 767 rfl (by kernel_rfl) (keep_sift (bs := [F,T,F,F,F]) (by kernel_rfl)) (h_call (by kernel_rfl) rfl ?_)
    refine (l_size hs12.sat hb).mono ?_
    rintro _ w13 ⟨rfl, hs13⟩
    replace ha := ha.mono hs13.le
    replace hb := hb.mono hs13.le
    replace hb1 := hs13.le _ _ hb1
    replace hoa := hoa.then hs13
    replace hob := hob.then hs13
    replace hor := hor.then hs13
    replace hT := hT.then hs13
    have hz13 := hs13.size
    refine ⟨(by repeat' first | exact trivial | exact BlkR.cell (hs13.sat _ _ _ hb1) rfl | exact BlkR.cells (hs13.sat _ _ _ hb1) rfl | exact Blk.cell hoa.1 rfl | exact Blk.cells hoa.1 rfl | exact Blk.cell hob.1 rfl | exact Blk.cells hob.1 rfl | exact Blk.cell hor.1 rfl | exact Blk.cells hor.1 rfl | assumption | refine all_keep ?_ | refine And.intro ?_ ?_), ?_⟩
    refine Dq 8 1023 rfl (by kernel_rfl) (fun _ => (q_addx rfl rfl (by omega) (by omega))) ?_
    refine Dh 10 2047 rfl (by kernel_rfl) (keep_sift (bs := [T,F,F,F]) (by kernel_rfl)) (h_call (by kernel_rfl) rfl ?_)
    refine (l_size hs13.sat ha).mono ?_
    rintro _ w14 ⟨rfl, hs14⟩
    replace ha := ha.mono hs14.le
    replace hb := hb.mono hs14.le
    replace hb1 := hs14.le _ _ hb1
    replace hoa := hoa.then hs14
    replace hob := hob.then hs14
    replace hor := hor.then hs14
    replace hT := hT.then hs14
    have hz14 := hs14.size
    refine ⟨(by repeat' first | exact trivial | exact BlkR.cell (hs14.sat _ _ _ hb1) rfl | exact BlkR.cells (hs14.sat _ _ _ hb1) rfl | exact Blk.cell hoa.1 rfl | exact Blk.cells hoa.1 rfl | exact Blk.cell hob.1 rfl | exact Blk.cells hob.1 rfl | exact Blk.cell hor.1 rfl | exact Blk.cells hor.1 rfl | assumption | refine all_keep ?_ | refine And.intro ?_ ?_), ?_⟩
    refine Dq 11 4095 rfl (by kernel_rfl) (fun _ => (q_addx rfl rfl (by omega) (by omega))) ?_
    refine Dq 12 8191 rfl (by kernel_rfl) (fun _ => (q_build (zs := [(.int .i64 0), (.int .i64 0), (.pointer none), (.pointer none), (.int .i64 0), (.int .i64 0)]) (places := [(0, 2), (2, 1), (3, 1), (4, 1), (5, 1)]) (cs := [_, _, _, _, _, _]) (by kernel_rfl) (by kernel_rfl) rfl rfl)) ?_
    refine Dh 13 16383 rfl (by kernel_rfl) (keep_sift (bs := [F,F,F]) (by kernel_rfl)) (h_boxM hs14.sat rfl rfl fun b15 M15 w15 hs15 hb15 e15 => ?_)
    replace ha := ha.mono hs15.le
    replace hb := hb.mono hs15.le
    replace hb1 := hs15.le _ _ hb1
    replace hoa := hoa.then hs15
    replace hob := hob.then hs15
    replace hor := hor.then hs15
    replace hT := hT.then hs15
    have hz15 := hs15.size
    refine ⟨(by repeat' first | exact trivial | exact BlkR.cell (hs15.sat _ _ _ hb1) rfl | exact BlkR.cells (hs15.sat _ _ _ hb1) rfl | exact Blk.cell hoa.1 rfl | exact Blk.cells hoa.1 rfl | exact Blk.cell hob.1 rfl | exact Blk.cells hob.1 rfl | exact Blk.cell hor.1 rfl | exact Blk.cells hor.1 rfl | exact BlkR.cell (hs15.sat _ _ _ hb15) rfl | exact BlkR.cells (hs15.sat _ _ _ hb15) rfl | assumption | refine all_keep ?_ | refine And.intro ?_ ?_), ?_⟩
    refine Dq 14 32767 rfl (by kernel_rfl) (fun _ => (q_build (zs := [(.pointer none)]) (places := [(0, 1)]) (cs := [_]) (by kernel_rfl) (by kernel_rfl) rfl rfl)) ?_
    refine Dh0 15 65535 rfl (by kernel_rfl) (keep_sift (bs := [T,T,T]) (by kernel_rfl)) (h_store hs15.sat hor rfl rfl rfl (by kernel_rfl) rfl rfl rfl fun w16 hs16 hn16 => ?_)
    replace ha := ha.mono hs16.le
    replace hb := hb.mono hs16.le
    replace hb1 := hs16.le _ _ hb1
    replace hoa := hoa.step hs16 (fun h => by have h : _ = _ := h; omega)
    replace hob := hob.step hs16 (fun h => by have h : _ = _ := h; omega)
    replace hb15 := hs16.le _ _ hb15
    clear hor; have hor := hn16; clear hn16
    replace hT := hT.own hs16 (by omega)
    have hz16 := hs16.size
    refine ⟨trivial, ?_⟩
    refine Dd (by kernel_rfl) (κ _ _ ?_)
    refine cw_ret ?_
    exact ⟨_, (res_cell rfl (loadVar_n (n := 1) (by kernel_rfl) (by exact Blk.cells hor.1 rfl)) res_nil), _, _, rfl, hT, by rw [Lft.mk, if_pos (by omega)]; exact ⟨_, _, _, rfl, hb15, hb, ha⟩⟩
  · skip
    replace hc0 := of_decide_eq_false hc0
    refine cw_skip ?_
    refine hK3 _ _ ?_
    refine cw_dr (by kernel_rfl) fun _ κ => ?_
    have hs17 := Step.drew hs8.sat
    have hz17 := hs17.size
    replace ha := ha.mono hs17.le
    replace hb := hb.mono hs17.le
    replace hb1 := hs17.le _ _ hb1
    replace hoa := hoa.then hs17
    replace hob := hob.then hs17
    replace hor := hor.then hs17
    replace hT := hT.then hs17
    refine Dlc 0 1 2 rfl (by kernel_rfl) (by kernel_rfl) rfl (by exact BlkR.cells (hs17.sat _ _ _ hb1) rfl) ?_
    refine Dlc 1 3 1 rfl (by kernel_rfl) (by kernel_rfl) rfl (by exact Blk.cells hoa.1 rfl) ?_
    refine Dlc 2 7 1 rfl (by kernel_rfl) (by kernel_rfl) rfl (by exact Blk.cells hob.1 rfl) ?_
    refine Dlc 3 15 1 rfl (by kernel_rfl) (by kernel_rfl) rfl (by exact Blk.cells hob.1 rfl) ?_
    refine Dlc 6 79 1 rfl (by kernel_rfl) (by kernel_rfl) rfl (by exact Blk.cells hoa.1 rfl) ?_
    refine Dlc 9 591 1 rfl (by kernel_rfl) (by kernel_rfl) rfl (by exact Blk.cells hob.1 rfl) ?_
    refine Dh 4 607 rfl (by kernel_rfl) (keep_sift (bs := [F,F,T,F,F,F]) (by kernel_rfl)) (h_call (by kernel_rfl) rfl ?_)
    refine (l_rank hs17.sat hb).mono ?_
    rintro _ w18 ⟨rfl, hs18⟩
    replace ha := ha.mono hs18.le
    replace hb := hb.mono hs18.le
    replace hb1 := hs18.le _ _ hb1
    replace hoa := hoa.then hs18
    replace hob := hob.then hs18
    replace hor := hor.then hs18
    replace hT := hT.then hs18
    have hz18 := hs18.size
    refine ⟨(by repeat' first | exact trivial | exact BlkR.cell (hs18.sat _ _ _ hb1) rfl | exact BlkR.cells (hs18.sat _ _ _ hb1) rfl | exact Blk.cell hoa.1 rfl | exact Blk.cells hoa.1 rfl | exact Blk.cell hob.1 rfl | exact Blk.cells hob.1 rfl | exact Blk.cell hor.1 rfl | exact Blk.cells hor.1 rfl | assumption | refine all_keep ?_ | refine And.intro ?_ ?_), ?_⟩
    refine Dq 5 639 rfl (by kernel_rfl) (fun _ => (q_addx rfl rfl (by omega) (by omega))) ?_
    refine Dh 7 767 rfl (by kernel_rfl) (keep_sift (bs := [F,T,F,F,F]) (by kernel_rfl)) (h_call (by kernel_rfl) rfl ?_)
    refine (l_size hs18.sat ha).mono ?_
    rintro _ w19 ⟨rfl, hs19⟩
    replace ha := ha.mono hs19.le
    replace hb := hb.mono hs19.le
    replace hb1 := hs19.le _ _ hb1
    replace hoa := hoa.then hs19
    replace hob := hob.then hs19
    replace hor := hor.then hs19
    replace hT := hT.then hs19
    have hz19 := hs19.size
    refine ⟨(by repeat' first | exact trivial | exact BlkR.cell (hs19.sat _ _ _ hb1) rfl | exact BlkR.cells (hs19.sat _ _ _ hb1) rfl | exact Blk.cell hoa.1 rfl | exact Blk.cells hoa.1 rfl | exact Blk.cell hob.1 rfl | exact Blk.cells hob.1 rfl | exact Blk.cell hor.1 rfl | exact Blk.cells hor.1 rfl | assumption | refine all_keep ?_ | refine And.intro ?_ ?_), ?_⟩
    refine Dq 8 1023 rfl (by kernel_rfl) (fun _ => (q_addx rfl rfl (by omega) (by omega))) ?_
    refine Dh 10 2047 rfl (by kernel_rfl) (keep_sift (bs := [T,F,F,F]) (by kernel_rfl)) (h_call (by kernel_rfl) rfl ?_)
    refine (l_size hs19.sat hb).mono ?_
    rintro _ w20 ⟨rfl, hs20⟩
    replace ha := ha.mono hs20.le
    replace hb := hb.mono hs20.le
    replace hb1 := hs20.le _ _ hb1
    replace hoa := hoa.then hs20
    replace hob := hob.then hs20
    replace hor := hor.then hs20
    replace hT := hT.then hs20
    have hz20 := hs20.size
    refine ⟨(by repeat' first | exact trivial | exact BlkR.cell (hs20.sat _ _ _ hb1) rfl | exact BlkR.cells (hs20.sat _ _ _ hb1) rfl | exact Blk.cell hoa.1 rfl | exact Blk.cells hoa.1 rfl | exact Blk.cell hob.1 rfl | exact Blk.cells hob.1 rfl | exact Blk.cell hor.1 rfl | exact Blk.cells hor.1 rfl | assumption | refine all_keep ?_ | refine And.intro ?_ ?_), ?_⟩
    refine Dq 11 4095 rfl (by kernel_rfl) (fun _ => (q_addx rfl rfl (by omega) (by omega))) ?_
    refine Dq 12 8191 rfl (by kernel_rfl) (fun _ => (q_build (zs := [(.int .i64 0), (.int .i64 0), (.pointer none), (.pointer none), (.int .i64 0), (.int .i64 0)]) (places := [(0, 2), (2, 1), (3, 1), (4, 1), (5, 1)]) (cs := [_, _, _, _, _, _]) (by kernel_rfl) (by kernel_rfl) rfl rfl)) ?_
    refine Dh 13 16383 rfl (by kernel_rfl) (keep_sift (bs := [F,F,F]) (by kernel_rfl)) (h_boxM hs20.sat rfl rfl fun b21 M21 w21 hs21 hb21 e21 => ?_)
    replace ha := ha.mono hs21.le
    replace hb := hb.mono hs21.le
    replace hb1 := hs21.le _ _ hb1
    replace hoa := hoa.then hs21
    replace hob := hob.then hs21
    replace hor := hor.then hs21
    replace hT := hT.then hs21
    have hz21 := hs21.size
    refine ⟨(by repeat' first | exact trivial | exact BlkR.cell (hs21.sat _ _ _ hb1) rfl | exact BlkR.cells (hs21.sat _ _ _ hb1) rfl | exact Blk.cell hoa.1 rfl | exact Blk.cells hoa.1 rfl | exact Blk.cell hob.1 rfl | exact Blk.cells hob.1 rfl | exact Blk.cell hor.1 rfl | exact Blk.cells hor.1 rfl | exact BlkR.cell (hs21.sat _ _ _ hb21) rfl | exact BlkR.cells (hs21.sat _ _ _ hb21) rfl | assumption | refine all_keep ?_ | refine And.intro ?_ ?_), ?_⟩
    refine Dq 14 32767 rfl (by kernel_rfl) (fun _ => (q_build (zs := [(.pointer none)]) (places := [(0, 1)]) (cs := [_]) (by kernel_rfl) (by kernel_rfl) rfl rfl)) ?_
    refine Dh0 15 65535 rfl (by kernel_rfl) (keep_sift (bs := [T,T,T]) (by kernel_rfl)) (h_store hs21.sat hor rfl rfl rfl (by kernel_rfl) rfl rfl rfl fun w22 hs22 hn22 => ?_)
    replace ha := ha.mono hs22.le
    replace hb := hb.mono hs22.le
    replace hb21 := hs22.le _ _ hb21
    clear hor; have hor := hn22; clear hn22
    replace hT := hT.own hs22 (by omega)
    have hz22 := hs22.size
    refine ⟨trivial, ?_⟩
    refine Dd (by kernel_rfl) (κ _ _ ?_)
    refine cw_ret ?_
    exact ⟨_, (res_cell rfl (loadVar_n (n := 1) (by kernel_rfl) (by exact Blk.cells hor.1 rfl)) res_nil), _, _, rfl, hT, by rw [Lft.mk, if_neg (by omega)]; exact ⟨_, _, _, rfl, hb21, ha, hb⟩⟩
theorem l_meld_a {w : World} {M : Mem} {o : Lft} {po : Value} (hs : Sat M w) (ho : LRep 171 M o po) :
    Does Tryz.prog 279 #[.agg #[.pointer none], .pointer none, .agg #[po]] w (fun v w' => ∃ p M', v = .agg #[p] ∧ Step Nope M w M' w' ∧ LRep 171 M' o p) := by
  have hT := Step.refl Nope hs
  obtain ⟨qo, rfl⟩ := ho.ptr
  refine fn_enter Tryz.func279 rfl (rs := [.cell 6 67]) rfl rfl rfl rfl ?_
  refine cw_rs fun _ κ => ?_
  have hqah := hT.size
  refine as_h rfl (h_boxO hs rfl rfl fun bh w1 hs1 hoh eh => ?_)
  replace ho := ho.mono hs1.le
  replace hT := hT.then hs1
  have hz1 := hs1.size
  have hlh := hoh.1.lt
  have hqao := hT.size
  refine as_h rfl (h_boxO hs1.sat rfl rfl fun bo w2 hs2 hoo eo => ?_)
  replace ho := ho.mono hs2.le
  replace hoh := hoh.then hs2
  replace hT := hT.then hs2
  have hz2 := hs2.size
  have hlo := hoo.1.lt
  have hqar := hT.size
  refine as_h rfl (h_allocO (z := (.agg #[(.pointer none)])) hs2.sat (by kernel_rfl) rfl fun br w3 hs3 hor er => ?_)
  replace ho := ho.mono hs3.le
  replace hoh := hoh.then hs3
  replace hoo := hoo.then hs3
  replace hT := hT.then hs3
  have hz3 := hs3.size
  have hlr := hor.1.lt
  refine as_nil (κ _ _ ?_)
  refine cw_seq fun _ hK2 => ?_
  refine cw_block ?_
  refine cw_rs fun _ κ => ?_
  refine Sf 0 rfl (by kernel_rfl) rfl ?_
  refine S1 rfl (by kernel_rfl) rfl (by exact Blk.cell hoh.1 rfl) ?_
  refine as_q rfl rfl (q_eqnil (by kernel_rfl) rfl) ?_
  refine Sa rfl rfl ?_
  refine as_nil (κ _ _ ?_)
  refine cw_true rfl ?_
  refine cw_rs fun _ κ => ?_
  refine Sc 1 rfl (by kernel_rfl) rfl (by exact Blk.cells hoo.1 rfl) ?_
  refine as_h0 (h_store hs3.sat hor rfl rfl rfl (by kernel_rfl) rfl rfl rfl fun w4 hs4 hn4 => ?_)
  replace ho := ho.mono hs4.le
  clear hor; have hor := hn4; clear hn4
  replace hT := hT.own hs4 (by omega)
  have hz4 := hs4.size
  refine as_nil (κ _ _ ?_)
  refine cw_ret ?_
  exact ⟨_, (res_cell rfl (loadVar_n (n := 1) (by kernel_rfl) (by exact Blk.cells hor.1 rfl)) res_nil), _, _, rfl, hT, ho⟩
theorem l_meld_b {w : World} {M : Mem} {x : El} {l r : Lft} {p : Value} (hs : Sat M w) (h : LRep 171 M (.node x l r) p) :
    Does Tryz.prog 279 #[.agg #[p], .pointer none, .agg #[.pointer none]] w (fun v w' => ∃ p M', v = .agg #[p] ∧ Step Nope M w M' w' ∧ LRep 171 M' (.node x l r) p) := by
  have hT := Step.refl Nope hs
  obtain ⟨b, pl, pr, rfl, hb, hl, hr⟩ := h
  refine fn_enter Tryz.func279 rfl (rs := [.cell 6 67]) rfl rfl rfl rfl ?_
  refine cw_rs fun _ κ => ?_
  have hqah := hT.size
  refine as_h rfl (h_boxO hs rfl rfl fun bh w1 hs1 hoh eh => ?_)
  replace hb := hs1.le _ _ hb
  replace hl := hl.mono hs1.le
  replace hr := hr.mono hs1.le
  replace hT := hT.then hs1
  have hz1 := hs1.size
  have hlh := hoh.1.lt
  have hqao := hT.size
  refine as_h rfl (h_boxO hs1.sat rfl rfl fun bo w2 hs2 hoo eo => ?_)
  replace hb := hs2.le _ _ hb
  replace hl := hl.mono hs2.le
  replace hr := hr.mono hs2.le
  replace hoh := hoh.then hs2
  replace hT := hT.then hs2
  have hz2 := hs2.size
  have hlo := hoo.1.lt
  have hqar := hT.size
  refine as_h rfl (h_allocO (z := (.agg #[(.pointer none)])) hs2.sat (by kernel_rfl) rfl fun br w3 hs3 hor er => ?_)
  replace hb := hs3.le _ _ hb
  replace hl := hl.mono hs3.le
  replace hr := hr.mono hs3.le
  replace hoh := hoh.then hs3
  replace hoo := hoo.then hs3
  replace hT := hT.then hs3
  have hz3 := hs3.size
  have hlr := hor.1.lt
  refine as_nil (κ _ _ ?_)
  refine cw_seq fun _ hK2 => ?_
  refine cw_block ?_
  refine cw_rs fun _ κ => ?_
  refine Sf 0 rfl (by kernel_rfl) rfl ?_
  refine S1 rfl (by kernel_rfl) rfl (by exact Blk.cell hoh.1 rfl) ?_
  refine as_q rfl rfl (q_eqnil (by kernel_rfl) rfl) ?_
  refine Sa rfl rfl ?_
  refine as_nil (κ _ _ ?_)
  refine cw_false rfl ?_
  refine cw_rs fun _ κ => ?_
  refine Sf 0 rfl (by kernel_rfl) rfl ?_
  refine S1 rfl (by kernel_rfl) rfl (by exact Blk.cell hoo.1 rfl) ?_
  refine as_q rfl rfl (q_eqnil (by kernel_rfl) rfl) ?_
  refine Sa rfl rfl ?_
  refine as_nil (κ _ _ ?_)
  refine cw_true rfl ?_
  refine cw_rs fun _ κ => ?_
  refine Sc 1 rfl (by kernel_rfl) rfl (by exact Blk.cells hoh.1 rfl) ?_
  refine as_h0 (h_store hs3.sat hor rfl rfl rfl (by kernel_rfl) rfl rfl rfl fun w4 hs4 hn4 => ?_)
  replace hb := hs4.le _ _ hb
  replace hl := hl.mono hs4.le
  replace hr := hr.mono hs4.le
  clear hor; have hor := hn4; clear hn4
  replace hT := hT.own hs4 (by omega)
  have hz4 := hs4.size
  refine as_nil (κ _ _ ?_)
  refine cw_ret ?_
  exact ⟨_, (res_cell rfl (loadVar_n (n := 1) (by kernel_rfl) (by exact Blk.cells hor.1 rfl)) res_nil), _, _, rfl, hT, _, _, _, rfl, hb, hl, hr⟩
def LMeld (k : Nat) : Prop := ∀ (w : World) (M : Mem) (a b : Lft) (pa pb : Value), Sat M w → LRep 171 M a pa → LRep 171 M b pb → a.size + b.size < k → a.size + b.size ≤ 1000000000 →
    Does Tryz.prog 279 #[.agg #[pa], .pointer none, .agg #[pb]] w (fun v w' => ∃ p M', v = .agg #[p] ∧ Step Nope M w M' w' ∧ LRep 171 M' (a.meld b) p)
theorem l_meld_c {w : World} {M : Mem} {x y : El} {l r l2 r2 : Lft} {p p2 : Value} {k : Nat} (ih : LMeld k) (hs : Sat M w) (h : LRep 171 M (.node x l r) p) (h2 : LRep 171 M (.node y l2 r2) p2) (hk : (Lft.node x l r).size + (Lft.node y l2 r2).size < k + 1) (hz : (Lft.node x l r).size + (Lft.node y l2 r2).size ≤ 1000000000) :
    Does Tryz.prog 279 #[.agg #[p], .pointer none, .agg #[p2]] w (fun v w' => ∃ p M', v = .agg #[p] ∧ Step Nope M w M' w' ∧ LRep 171 M' ((Lft.node x l r).meld (.node y l2 r2)) p) := by
  have hT := Step.refl Nope hs
  obtain ⟨b, pl, pr, rfl, hb, hl, hr⟩ := h
  obtain ⟨b2, pl2, pr2, rfl, hb2, hl2, hr2⟩ := h2
  obtain ⟨ql, rfl⟩ := hl.ptr
  obtain ⟨qr, rfl⟩ := hr.ptr
  obtain ⟨ql2, rfl⟩ := hl2.ptr
  obtain ⟨qr2, rfl⟩ := hr2.ptr
  refine fn_enter Tryz.func279 rfl (rs := [.cell 6 67]) rfl rfl rfl rfl ?_
  refine cw_rs fun _ κ => ?_
  have hqah := hT.size
  refine as_h rfl (h_boxO hs rfl rfl fun bh w1 hs1 hoh eh => ?_)
  replace hb := hs1.le _ _ hb
  replace hl := hl.mono hs1.le
  replace hr := hr.mono hs1.le
  replace hb2 := hs1.le _ _ hb2
  replace hl2 := hl2.mono hs1.le
  replace hr2 := hr2.mono hs1.le
  replace hT := hT.then hs1
  have hz1 := hs1.size
  have hlh := hoh.1.lt
  have hqao := hT.size
  refine as_h rfl (h_boxO hs1.sat rfl rfl fun bo w2 hs2 hoo eo => ?_)
  replace hb := hs2.le _ _ hb
  replace hl := hl.mono hs2.le
  replace hr := hr.mono hs2.le
  replace hb2 := hs2.le _ _ hb2
  replace hl2 := hl2.mono hs2.le
  replace hr2 := hr2.mono hs2.le
  replace hoh := hoh.then hs2
  replace hT := hT.then hs2
  have hz2 := hs2.size
  have hlo := hoo.1.lt
  have hqar := hT.size
  refine as_h rfl (h_allocO (z := (.agg #[(.pointer none)])) hs2.sat (by kernel_rfl) rfl fun br w3 hs3 hor er => ?_)
  replace hb := hs3.le _ _ hb
  replace hl := hl.mono hs3.le
  replace hr := hr.mono hs3.le
  replace hb2 := hs3.le _ _ hb2
  replace hl2 := hl2.mono hs3.le
  replace hr2 := hr2.mono hs3.le
  replace hoh := hoh.then hs3
  replace hoo := hoo.then hs3
  replace hT := hT.then hs3
  have hz3 := hs3.size
  have hlr := hor.1.lt
  refine as_nil (κ _ _ ?_)
  refine cw_seq fun _ hK2 => ?_
  refine cw_block ?_
  refine cw_rs fun _ κ => ?_
  refine Sf 0 rfl (by kernel_rfl) rfl ?_
  refine S1 rfl (by kernel_rfl) rfl (by exact Blk.cell hoh.1 rfl) ?_
  refine as_q rfl rfl (q_eqnil (by kernel_rfl) rfl) ?_
  refine Sa rfl rfl ?_
  refine as_nil (κ _ _ ?_)
  refine cw_false rfl ?_
  refine cw_rs fun _ κ => ?_
  refine Sf 0 rfl (by kernel_rfl) rfl ?_
  refine S1 rfl (by kernel_rfl) rfl (by exact Blk.cell hoo.1 rfl) ?_
  refine as_q rfl rfl (q_eqnil (by kernel_rfl) rfl) ?_
  refine Sa rfl rfl ?_
  refine as_nil (κ _ _ ?_)
  refine cw_false rfl ?_
  refine cw_skip ?_
  refine hK2 _ _ ?_
  refine cw_seq fun _ hK5 => ?_
  refine cw_dr (by kernel_rfl) fun _ κ => ?_
  have hs4 := Step.drew hs3.sat
  have hz4 := hs4.size
  replace hb := hs4.le _ _ hb
  replace hl := hl.mono hs4.le
  replace hr := hr.mono hs4.le
  replace hb2 := hs4.le _ _ hb2
  replace hl2 := hl2.mono hs4.le
  replace hr2 := hr2.mono hs4.le
  replace hoh := hoh.then hs4
  replace hoo := hoo.then hs4
  replace hor := hor.then hs4
  replace hT := hT.then hs4
  refine Dm 0 1 rfl (by kernel_rfl) rfl ?_
  refine Df 1 3 0 rfl (by kernel_rfl) (by kernel_rfl) rfl ?_
  refine Dl1 2 7 rfl (by kernel_rfl) (by kernel_rfl) rfl (by exact Blk.cell hoo.1 rfl) ?_
  refine Dq 3 15 rfl (by kernel_rfl) (fun _ => (q_nilp rfl)) ?_
  refine Df 4 31 0 rfl (by kernel_rfl) (by kernel_rfl) rfl ?_
  refine Dlc 5 63 2 rfl (by kernel_rfl) (by kernel_rfl) rfl (by exact BlkR.cells (hs4.sat _ _ _ hb2) rfl) ?_
  refine Df 6 127 0 rfl (by kernel_rfl) (by kernel_rfl) rfl ?_
  refine Dl1 7 255 rfl (by kernel_rfl) (by kernel_rfl) rfl (by exact Blk.cell hoh.1 rfl) ?_
  refine Dq 8 511 rfl (by kernel_rfl) (fun _ => (q_nilp rfl)) ?_
  refine Df 9 1023 0 rfl (by kernel_rfl) (by kernel_rfl) rfl ?_
  refine Dlc 10 2047 2 rfl (by kernel_rfl) (by kernel_rfl) rfl (by exact BlkR.cells (hs4.sat _ _ _ hb) rfl) ?_
  refine Dh 11 4095 rfl (by kernel_rfl) (keep_sift (bs := [T,F,T,F]) (by kernel_rfl)) (h_call (by kernel_rfl) rfl ?_)
  refine (m_less (a := y) (b := x) hs4.sat).mono ?_
  rintro _ w5 ⟨rfl, hs5⟩
  replace hb := hs5.le _ _ hb
  replace hl := hl.mono hs5.le
  replace hr := hr.mono hs5.le
  replace hb2 := hs5.le _ _ hb2
  replace hl2 := hl2.mono hs5.le
  replace hr2 := hr2.mono hs5.le
  replace hoh := hoh.then hs5
  replace hoo := hoo.then hs5
  replace hor := hor.then hs5
  replace hT := hT.then hs5
  have hz5 := hs5.size
  refine ⟨(by repeat' first | exact trivial | exact BlkR.cell (hs5.sat _ _ _ hb) rfl | exact BlkR.cells (hs5.sat _ _ _ hb) rfl | exact BlkR.cell (hs5.sat _ _ _ hb2) rfl | exact BlkR.cells (hs5.sat _ _ _ hb2) rfl | exact Blk.cell hoh.1 rfl | exact Blk.cells hoh.1 rfl | exact Blk.cell hoo.1 rfl | exact Blk.cells hoo.1 rfl | exact Blk.cell hor.1 rfl | exact Blk.cells hor.1 rfl | assumption | refine all_keep ?_ | refine And.intro ?_ ?_), ?_⟩
  refine Dd (by kernel_rfl) (κ _ _ ?_)
  refine cw_cond rfl (fun hc2 => ?_) (fun hc2 => ?_)
  · skip
    skip
    refine cw_region fun _ κ => ?_
    refine Sc 1 rfl (by kernel_rfl) rfl (by exact Blk.cells hoo.1 rfl) ?_
    refine Sc 1 rfl (by kernel_rfl) rfl (by exact Blk.cells hoh.1 rfl) ?_
    refine as_h0 (h_store hs5.sat hoh rfl rfl rfl (by kernel_rfl) rfl rfl rfl fun w6 hs6 hn6 => ?_)
    replace hb := hs6.le _ _ hb
    replace hl := hl.mono hs6.le
    replace hr := hr.mono hs6.le
    replace hb2 := hs6.le _ _ hb2
    replace hl2 := hl2.mono hs6.le
    replace hr2 := hr2.mono hs6.le
    replace hoo := hoo.step hs6 (fun h => by have h : _ = _ := h; omega)
    replace hor := hor.step hs6 (fun h => by have h : _ = _ := h; omega)
    clear hoh; have hoh := hn6; clear hn6
    replace hT := hT.own hs6 (by omega)
    have hz6 := hs6.size
    refine as_h0 (h_store hs6.sat hoo rfl rfl rfl (by kernel_rfl) rfl rfl rfl fun w7 hs7 hn7 => ?_)
    replace hb := hs7.le _ _ hb
    replace hl := hl.mono hs7.le
    replace hr := hr.mono hs7.le
    replace hb2 := hs7.le _ _ hb2
    replace hl2 := hl2.mono hs7.le
    replace hr2 := hr2.mono hs7.le
    replace hoh := hoh.step hs7 (fun h => by have h : _ = _ := h; omega)
    replace hor := hor.step hs7 (fun h => by have h : _ = _ := h; omega)
    clear hoo; have hoo := hn7; clear hn7
    replace hT := hT.own hs7 (by omega)
    have hz7 := hs7.size
    refine as_nil (κ _ _ ?_)
    refine hK5 _ _ ?_
    refine cw_dr (by kernel_rfl) fun _ κ => ?_
    have hs8 := Step.drew hs7.sat
    have hz8 := hs8.size
    replace hb := hs8.le _ _ hb
    replace hl := hl.mono hs8.le
    replace hr := hr.mono hs8.le
    replace hb2 := hs8.le _ _ hb2
    replace hl2 := hl2.mono hs8.le
    replace hr2 := hr2.mono hs8.le
    replace hoh := hoh.then hs8
    replace hoo := hoo.then hs8
    replace hor := hor.then hs8
    replace hT := hT.then hs8
    refine Dm 0 1 rfl (by kernel_rfl) rfl ?_
    refine Df 1 3 0 rfl (by kernel_rfl) (by kernel_rfl) rfl ?_
    refine Dl1 2 7 rfl (by kernel_rfl) (by kernel_rfl) rfl (by exact Blk.cell hoh.1 rfl) ?_
    refine Dq 3 15 rfl (by kernel_rfl) (fun _ => (q_nilp rfl)) ?_
    refine Df 4 31 0 rfl (by kernel_rfl) (by kernel_rfl) rfl ?_
    refine Dlc 5 63 2 rfl (by kernel_rfl) (by kernel_rfl) rfl (by exact BlkR.cells (hs8.sat _ _ _ hb2) rfl) ?_
    refine Df 6 127 0 rfl (by kernel_rfl) (by kernel_rfl) rfl ?_
    refine Dl1 7 255 rfl (by kernel_rfl) (by kernel_rfl) rfl (by exact Blk.cell hoh.1 rfl) ?_
    refine Dq 8 511 rfl (by kernel_rfl) (fun _ => (q_nilp rfl)) ?_
    refine Df 9 1023 2 rfl (by kernel_rfl) (by kernel_rfl) rfl ?_
    refine Dlc 10 2047 1 rfl (by kernel_rfl) (by kernel_rfl) rfl (by exact BlkR.cells (hs8.sat _ _ _ hb2) rfl) ?_
    refine Df 11 4095 0 rfl (by kernel_rfl) (by kernel_rfl) rfl ?_
    refine Dl1 12 8191 rfl (by kernel_rfl) (by kernel_rfl) rfl (by exact Blk.cell hoh.1 rfl) ?_
    refine Dq 13 16383 rfl (by kernel_rfl) (fun _ => (q_nilp rfl)) ?_
    refine Df 14 32767 3 rfl (by kernel_rfl) (by kernel_rfl) rfl ?_
    refine Dlc 15 65535 1 rfl (by kernel_rfl) (by kernel_rfl) rfl (by exact BlkR.cells (hs8.sat _ _ _ hb2) rfl) ?_
    refine Dm 16 131071 rfl (by kernel_rfl) rfl ?_
    refine Dlc 17 262143 1 rfl (by kernel_rfl) (by kernel_rfl) rfl (by exact Blk.cells hoo.1 rfl) ?_
    refine Dh 18 524287 rfl (by kernel_rfl) (keep_sift (bs := [T,T,F,F,F,F,F]) (by kernel_rfl)) (h_call (by kernel_rfl) rfl ?_)
    refine (ih _ _ _ _ _ _ hs8.sat hr2 (show LRep _ _ (.node x l r) _ from ⟨_, _, _, rfl, hb, hl, hr⟩) (by simp only [Lft.size] at hk ⊢; omega) (by simp only [Lft.size] at hz ⊢; omega)).mono ?_
    rintro _ w9 ⟨pm, Mm, rfl, hs9, hm⟩
    obtain ⟨qm, rfl⟩ := hm.ptr
    replace hb := hs9.le _ _ hb
    replace hl := hl.mono hs9.le
    replace hr := hr.mono hs9.le
    replace hb2 := hs9.le _ _ hb2
    replace hl2 := hl2.mono hs9.le
    replace hr2 := hr2.mono hs9.le
    replace hoh := hoh.then hs9
    replace hoo := hoo.then hs9
    replace hor := hor.then hs9
    replace hT := hT.then hs9
    have hz9 := hs9.size
    refine ⟨(by repeat' first | exact trivial | exact BlkR.cell (hs9.sat _ _ _ hb) rfl | exact BlkR.cells (hs9.sat _ _ _ hb) rfl | exact BlkR.cell (hs9.sat _ _ _ hb2) rfl | exact BlkR.cells (hs9.sat _ _ _ hb2) rfl | exact Blk.cell hoh.1 rfl | exact Blk.cells hoh.1 rfl | exact Blk.cell hoo.1 rfl | exact Blk.cells hoo.1 rfl | exact Blk.cell hor.1 rfl | exact Blk.cells hor.1 rfl | assumption | refine all_keep ?_ | refine And.intro ?_ ?_), ?_⟩
    refine Dh 19 1048575 rfl (by kernel_rfl) (keep_sift (bs := [F,T,F,T,F]) (by kernel_rfl)) (h_call (by kernel_rfl) rfl ?_)
    refine (l_made (x := y) hs9.sat hl2 hm (by rw [Lft.meld_size]; simp only [Lft.size] at hz ⊢; omega)).mono ?_
    rintro _ w10 ⟨pn, Mn, rfl, hs10, hn⟩
    obtain ⟨qn, rfl⟩ := hn.ptr
    replace hb := hs10.le _ _ hb
    replace hl := hl.mono hs10.le
    replace hr := hr.mono hs10.le
    replace hb2 := hs10.le _ _ hb2
    replace hl2 := hl2.mono hs10.le
    replace hr2 := hr2.mono hs10.le
    replace hoh := hoh.then hs10
    replace hoo := hoo.then hs10
    replace hor := hor.then hs10
    replace hm := hm.mono hs10.le
    replace hT := hT.then hs10
    have hz10 := hs10.size
    refine ⟨(by repeat' first | exact trivial | exact BlkR.cell (hs10.sat _ _ _ hb) rfl | exact BlkR.cells (hs10.sat _ _ _ hb) rfl | exact BlkR.cell (hs10.sat _ _ _ hb2) rfl | exact BlkR.cells (hs10.sat _ _ _ hb2) rfl | exact Blk.cell hoh.1 rfl | exact Blk.cells hoh.1 rfl | exact Blk.cell hoo.1 rfl | exact Blk.cells hoo.1 rfl | exact Blk.cell hor.1 rfl | exact Blk.cells hor.1 rfl | assumption | refine all_keep ?_ | refine And.intro ?_ ?_), ?_⟩
    refine Dh0 20 2097151 rfl (by kernel_rfl) (keep_sift (bs := [T,T,T]) (by kernel_rfl)) (h_store hs10.sat hor rfl rfl rfl (by kernel_rfl) rfl rfl rfl fun w11 hs11 hn11 => ?_)
    replace hb := hs11.le _ _ hb
    replace hl := hl.mono hs11.le
    replace hr := hr.mono hs11.le
    replace hb2 := hs11.le _ _ hb2
    replace hl2 := hl2.mono hs11.le
    replace hr2 := hr2.mono hs11.le
    replace hoh := hoh.step hs11 (fun h => by have h : _ = _ := h; omega)
    replace hoo := hoo.step hs11 (fun h => by have h : _ = _ := h; omega)
    replace hm := hm.mono hs11.le
    replace hn := hn.mono hs11.le
    clear hor; have hor := hn11; clear hn11
    replace hT := hT.own hs11 (by omega)
    have hz11 := hs11.size
    refine ⟨trivial, ?_⟩
    refine Dd (by kernel_rfl) (κ _ _ ?_)
    refine cw_ret ?_
    exact ⟨_, (res_cell rfl (loadVar_n (n := 1) (by kernel_rfl) (by exact Blk.cells hor.1 rfl)) res_nil), _, _, rfl, hT, by rw [Lft.meld, if_pos hc2]; exact hn⟩
  · skip
    skip
    refine cw_skip ?_
    refine hK5 _ _ ?_
    refine cw_dr (by kernel_rfl) fun _ κ => ?_
    have hs12 := Step.drew hs5.sat
    have hz12 := hs12.size
    replace hb := hs12.le _ _ hb
    replace hl := hl.mono hs12.le
    replace hr := hr.mono hs12.le
    replace hb2 := hs12.le _ _ hb2
    replace hl2 := hl2.mono hs12.le
    replace hr2 := hr2.mono hs12.le
    replace hoh := hoh.then hs12
    replace hoo := hoo.then hs12
    replace hor := hor.then hs12
    replace hT := hT.then hs12
    refine Dm 0 1 rfl (by kernel_rfl) rfl ?_
    refine Df 1 3 0 rfl (by kernel_rfl) (by kernel_rfl) rfl ?_
    refine Dl1 2 7 rfl (by kernel_rfl) (by kernel_rfl) rfl (by exact Blk.cell hoh.1 rfl) ?_
    refine Dq 3 15 rfl (by kernel_rfl) (fun _ => (q_nilp rfl)) ?_
    refine Df 4 31 0 rfl (by kernel_rfl) (by kernel_rfl) rfl ?_
    refine Dlc 5 63 2 rfl (by kernel_rfl) (by kernel_rfl) rfl (by exact BlkR.cells (hs12.sat _ _ _ hb) rfl) ?_
    refine Df 6 127 0 rfl (by kernel_rfl) (by kernel_rfl) rfl ?_
    refine Dl1 7 255 rfl (by kernel_rfl) (by kernel_rfl) rfl (by exact Blk.cell hoh.1 rfl) ?_
    refine Dq 8 511 rfl (by kernel_rfl) (fun _ => (q_nilp rfl)) ?_
    refine Df 9 1023 2 rfl (by kernel_rfl) (by kernel_rfl) rfl ?_
    refine Dlc 10 2047 1 rfl (by kernel_rfl) (by kernel_rfl) rfl (by exact BlkR.cells (hs12.sat _ _ _ hb) rfl) ?_
    refine Df 11 4095 0 rfl (by kernel_rfl) (by kernel_rfl) rfl ?_
    refine Dl1 12 8191 rfl (by kernel_rfl) (by kernel_rfl) rfl (by exact Blk.cell hoh.1 rfl) ?_
    refine Dq 13 16383 rfl (by kernel_rfl) (fun _ => (q_nilp rfl)) ?_
    refine Df 14 32767 3 rfl (by kernel_rfl) (by kernel_rfl) rfl ?_
    refine Dlc 15 65535 1 rfl (by kernel_rfl) (by kernel_rfl) rfl (by exact BlkR.cells (hs12.sat _ _ _ hb) rfl) ?_
    refine Dm 16 131071 rfl (by kernel_rfl) rfl ?_
    refine Dlc 17 262143 1 rfl (by kernel_rfl) (by kernel_rfl) rfl (by exact Blk.cells hoo.1 rfl) ?_
    refine Dh 18 524287 rfl (by kernel_rfl) (keep_sift (bs := [T,T,F,F,F,F,F]) (by kernel_rfl)) (h_call (by kernel_rfl) rfl ?_)
    refine (ih _ _ _ _ _ _ hs12.sat hr (show LRep _ _ (.node y l2 r2) _ from ⟨_, _, _, rfl, hb2, hl2, hr2⟩) (by simp only [Lft.size] at hk ⊢; omega) (by simp only [Lft.size] at hz ⊢; omega)).mono ?_
    rintro _ w13 ⟨pm, Mm, rfl, hs13, hm⟩
    obtain ⟨qm, rfl⟩ := hm.ptr
    replace hb := hs13.le _ _ hb
    replace hl := hl.mono hs13.le
    replace hb2 := hs13.le _ _ hb2
    replace hoh := hoh.then hs13
    replace hoo := hoo.then hs13
    replace hor := hor.then hs13
    replace hT := hT.then hs13
    have hz13 := hs13.size
    refine ⟨(by repeat' first | exact trivial | exact BlkR.cell (hs13.sat _ _ _ hb) rfl | exact BlkR.cells (hs13.sat _ _ _ hb) rfl | exact BlkR.cell (hs13.sat _ _ _ hb2) rfl | exact BlkR.cells (hs13.sat _ _ _ hb2) rfl | exact Blk.cell hoh.1 rfl | exact Blk.cells hoh.1 rfl | exact Blk.cell hoo.1 rfl | exact Blk.cells hoo.1 rfl | exact Blk.cell hor.1 rfl | exact Blk.cells hor.1 rfl | assumption | refine all_keep ?_ | refine And.intro ?_ ?_), ?_⟩
    refine Dh 19 1048575 rfl (by kernel_rfl) (keep_sift (bs := [F,T,F,T,F]) (by kernel_rfl)) (h_call (by kernel_rfl) rfl ?_)
    refine (l_made (x := x) hs13.sat hl hm (by rw [Lft.meld_size]; simp only [Lft.size] at hz ⊢; omega)).mono ?_
    rintro _ w14 ⟨pn, Mn, rfl, hs14, hn⟩
    obtain ⟨qn, rfl⟩ := hn.ptr
    replace hb := hs14.le _ _ hb
    replace hb2 := hs14.le _ _ hb2
    replace hoh := hoh.then hs14
    replace hoo := hoo.then hs14
    replace hor := hor.then hs14
    replace hT := hT.then hs14
    have hz14 := hs14.size
    refine ⟨(by repeat' first | exact trivial | exact BlkR.cell (hs14.sat _ _ _ hb) rfl | exact BlkR.cells (hs14.sat _ _ _ hb) rfl | exact BlkR.cell (hs14.sat _ _ _ hb2) rfl | exact BlkR.cells (hs14.sat _ _ _ hb2) rfl | exact Blk.cell hoh.1 rfl | exact Blk.cells hoh.1 rfl | exact Blk.cell hoo.1 rfl | exact Blk.cells hoo.1 rfl | exact Blk.cell hor.1 rfl | exact Blk.cells hor.1 rfl | assumption | refine all_keep ?_ | refine And.intro ?_ ?_), ?_⟩
    refine Dh0 20 2097151 rfl (by kernel_rfl) (keep_sift (bs := [T,T,T]) (by kernel_rfl)) (h_store hs14.sat hor rfl rfl rfl (by kernel_rfl) rfl rfl rfl fun w15 hs15 hn15 => ?_)
    replace hn := hn.mono hs15.le
    clear hor; have hor := hn15; clear hn15
    replace hT := hT.own hs15 (by omega)
    have hz15 := hs15.size
    refine ⟨trivial, ?_⟩
    refine Dd (by kernel_rfl) (κ _ _ ?_)
    refine cw_ret ?_
    exact ⟨_, (res_cell rfl (loadVar_n (n := 1) (by kernel_rfl) (by exact Blk.cells hor.1 rfl)) res_nil), _, _, rfl, hT, by rw [Lft.meld, if_neg (by rw [hc2]; decide)]; exact hn⟩
theorem l_meld_all : ∀ k, LMeld k
  | 0 => fun _ _ _ _ _ _ _ _ _ h _ => absurd h (Nat.not_lt_zero _)
  | k + 1 => fun w M a b pa pb hs ha hb hk hz => by
    cases a with
    | nil => cases ha; rw [show Lft.nil.meld b = b by rw [Lft.meld]]; exact l_meld_a hs hb
    | node x l r =>
      cases b with
      | nil => cases hb; rw [show (Lft.node x l r).meld .nil = .node x l r by rw [Lft.meld]]; exact l_meld_b hs ha
      | node y l2 r2 => exact l_meld_c (l_meld_all k) hs ha hb hk hz
theorem l_meld {w : World} {M : Mem} {a b : Lft} {pa pb : Value} (hs : Sat M w) (ha : LRep 171 M a pa) (hb : LRep 171 M b pb) (hz : a.size + b.size ≤ 1000000000) :
    Does Tryz.prog 279 #[.agg #[pa], .pointer none, .agg #[pb]] w (fun v w' => ∃ p M', v = .agg #[p] ∧ Step Nope M w M' w' ∧ LRep 171 M' (a.meld b) p) := l_meld_all _ _ _ _ _ _ _ hs ha hb (Nat.lt_succ_self _) hz
theorem l_insert {w : World} {M : Mem} {x : El} {t : Lft} {p : Value} (hs : Sat M w) (h : LRep 171 M t p) (hz : t.size < 1000000000) :
    Does Tryz.prog 278 #[.agg #[p], .pointer none, .agg (elc x).toArray] w (fun v w' => ∃ p M', v = .agg #[p] ∧ Step Nope M w M' w' ∧ LRep 171 M' (t.insert x) p) := by
  have hT := Step.refl Nope hs
  obtain ⟨q, rfl⟩ := h.ptr
  refine fn_enter Tryz.func278 rfl (rs := [.cell 6 67]) rfl rfl rfl rfl ?_
  refine cw_rs fun _ κ => ?_
  refine as_h rfl (h_boxM hs rfl rfl fun b1 M1 w1 hs1 hb1 e1 => ?_)
  replace h := h.mono hs1.le
  replace hT := hT.then hs1
  have hz1 := hs1.size
  refine as_h rfl (h_boxM hs1.sat rfl rfl fun b2 M2 w2 hs2 hb2 e2 => ?_)
  replace h := h.mono hs2.le
  replace hb1 := hs2.le _ _ hb1
  replace hT := hT.then hs2
  have hz2 := hs2.size
  have hqar := hT.size
  refine as_h rfl (h_allocO (z := (.agg #[(.pointer none)])) hs2.sat (by kernel_rfl) rfl fun br w3 hs3 hor er => ?_)
  replace h := h.mono hs3.le
  replace hb1 := hs3.le _ _ hb1
  replace hb2 := hs3.le _ _ hb2
  replace hT := hT.then hs3
  have hz3 := hs3.size
  have hlr := hor.1.lt
  refine as_nil (κ _ _ ?_)
  refine cw_dr (by kernel_rfl) fun _ κ => ?_
  have hs4 := Step.drew hs3.sat
  have hz4 := hs4.size
  replace h := h.mono hs4.le
  replace hb1 := hs4.le _ _ hb1
  replace hb2 := hs4.le _ _ hb2
  replace hor := hor.then hs4
  replace hT := hT.then hs4
  refine Dm 0 1 rfl (by kernel_rfl) rfl ?_
  refine Dlc 1 3 2 rfl (by kernel_rfl) (by kernel_rfl) rfl (by exact BlkR.cells (hs4.sat _ _ _ hb2) rfl) ?_
  refine Dq 2 7 rfl (by kernel_rfl) (fun _ => (q_build (zs := [(.pointer none)]) (places := [(0, 1)]) (cs := [_]) (by kernel_rfl) (by kernel_rfl) rfl rfl)) ?_
  refine Dq 3 15 rfl (by kernel_rfl) (fun _ => (q_build (zs := [(.pointer none)]) (places := [(0, 1)]) (cs := [_]) (by kernel_rfl) (by kernel_rfl) rfl rfl)) ?_
  refine Dm 5 47 rfl (by kernel_rfl) rfl ?_
  refine Dlc 6 111 1 rfl (by kernel_rfl) (by kernel_rfl) rfl (by exact BlkR.cells (hs4.sat _ _ _ hb1) rfl) ?_
  refine Dh 4 127 rfl (by kernel_rfl) (keep_sift (bs := [F,T]) (by kernel_rfl)) (h_call (by kernel_rfl) rfl ?_)
  refine (l_made (x := x) (a := .nil) (b := .nil) hs4.sat rfl rfl (by decide)).mono ?_
  rintro _ w5 ⟨pn, Mn, rfl, hs5, hn⟩
  obtain ⟨qn, rfl⟩ := hn.ptr
  replace h := h.mono hs5.le
  replace hb1 := hs5.le _ _ hb1
  replace hb2 := hs5.le _ _ hb2
  replace hor := hor.then hs5
  replace hT := hT.then hs5
  have hz5 := hs5.size
  refine ⟨(by repeat' first | exact trivial | exact BlkR.cell (hs5.sat _ _ _ hb1) rfl | exact BlkR.cells (hs5.sat _ _ _ hb1) rfl | exact BlkR.cell (hs5.sat _ _ _ hb2) rfl | exact BlkR.cells (hs5.sat _ _ _ hb2) rfl | exact Blk.cell hor.1 rfl | exact Blk.cells hor.1 rfl | assumption | refine all_keep ?_ | refine And.intro ?_ ?_), ?_⟩
  refine Dh 7 255 rfl (by kernel_rfl) (keep_sift (bs := [T]) (by kernel_rfl)) (h_call (by kernel_rfl) rfl ?_)
  refine (l_meld hs5.sat hn h (by rw [Lft.mk_size]; simp only [Lft.size]; omega)).mono ?_
  rintro _ w6 ⟨pm, Mm, rfl, hs6, hm⟩
  obtain ⟨qm, rfl⟩ := hm.ptr
  replace h := h.mono hs6.le
  replace hor := hor.then hs6
  replace hT := hT.then hs6
  have hz6 := hs6.size
  refine ⟨trivial, ?_⟩
  refine Dh0 8 511 rfl (by kernel_rfl) rfl (h_store hs6.sat hor rfl rfl rfl (by kernel_rfl) rfl rfl rfl fun w7 hs7 hn7 => ?_)
  replace h := h.mono hs7.le
  replace hm := hm.mono hs7.le
  clear hor; have hor := hn7; clear hn7
  replace hT := hT.own hs7 (by omega)
  have hz7 := hs7.size
  refine ⟨trivial, ?_⟩
  refine Dd (by kernel_rfl) (κ _ _ ?_)
  refine cw_ret ?_
  exact ⟨_, (res_cell rfl (loadVar_n (n := 1) (by kernel_rfl) (by exact Blk.cells hor.1 rfl)) res_nil), _, _, rfl, hT, hm⟩
theorem l_min {w : World} {M : Mem} {x : El} {l r : Lft} {p : Value} (hs : Sat M w) (h : LRep 171 M (.node x l r) p) :
    Does Tryz.prog 280 #[.agg #[p], .pointer none] w (fun v w' => v = .tuple #[.agg (elc x).toArray, .bool true] ∧ Step Nope M w M w') := by
  have hT := Step.refl Nope hs
  obtain ⟨b, pl, pr, rfl, hb, hl, hr⟩ := h
  refine fn_enter Tryz.func280 rfl (rs := [.cell 4 24, .tmp 5]) rfl rfl rfl rfl ?_
  refine cw_rs fun _ κ => ?_
  refine as_h rfl (h_boxM hs rfl rfl fun b1 M1 w1 hs1 hb1 e1 => ?_)
  replace hb := hs1.le _ _ hb
  replace hT := hT.then hs1
  have hz1 := hs1.size
  have hqar := hT.size
  refine as_h rfl (h_allocO (z := (.agg #[(.int .i64 0), (.int .i64 0)])) hs1.sat (by kernel_rfl) rfl fun br w2 hs2 hor er => ?_)
  replace hb := hs2.le _ _ hb
  replace hb1 := hs2.le _ _ hb1
  replace hT := hT.then hs2
  have hz2 := hs2.size
  have hlr := hor.1.lt
  refine Sa rfl rfl ?_
  refine as_nil (κ _ _ ?_)
  refine cw_seq fun _ hK2 => ?_
  refine cw_rs fun _ κ => ?_
  refine Sf 0 rfl (by kernel_rfl) rfl ?_
  refine S1 rfl (by kernel_rfl) rfl (by exact BlkR.cell (hs2.sat _ _ _ hb1) rfl) ?_
  refine as_q rfl rfl (q_eqnil (by kernel_rfl) rfl) ?_
  refine as_nil (κ _ _ ?_)
  refine cw_false rfl ?_
  refine cw_skip ?_
  refine hK2 _ _ ?_
  refine cw_rs fun _ κ => ?_
  refine Sf 0 rfl (by kernel_rfl) rfl ?_
  refine S1 rfl (by kernel_rfl) rfl (by exact BlkR.cell (hs2.sat _ _ _ hb1) rfl) ?_
  refine as_q rfl rfl (q_nilp rfl) ?_
  refine Sf 0 rfl (by kernel_rfl) rfl ?_
  refine Sc 2 rfl (by kernel_rfl) rfl (by exact BlkR.cells (hs2.sat _ _ _ hb) rfl) ?_
  refine as_h0 (h_store hs2.sat hor rfl rfl rfl (by kernel_rfl) rfl rfl rfl fun w3 hs3 hn3 => ?_)
  clear hor; have hor := hn3; clear hn3
  replace hT := hT.own hs3 (by omega)
  have hz3 := hs3.size
  refine Sa rfl rfl ?_
  refine as_nil (κ _ _ ?_)
  refine cw_ret ?_
  exact ⟨_, (res_cell rfl (loadVar_n (n := 2) (by kernel_rfl) (by exact Blk.cells hor.1 rfl)) (res_tmp rfl res_nil)), rfl, hT.forget⟩
theorem l_pop {w : World} {M : Mem} {x : El} {l r : Lft} {p : Value} (hs : Sat M w) (h : LRep 171 M (.node x l r) p) (hz : (Lft.node x l r).size ≤ 1000000000) :
    Does Tryz.prog 281 #[.agg #[p], .pointer none] w (fun v w' => ∃ p M', v = .tuple #[.agg #[p], .bool true] ∧ Step Nope M w M' w' ∧ LRep 171 M' (l.meld r) p) := by
  have hT := Step.refl Nope hs
  obtain ⟨b, pl, pr, rfl, hb, hl, hr⟩ := h
  obtain ⟨ql, rfl⟩ := hl.ptr
  obtain ⟨qr, rfl⟩ := hr.ptr
  refine fn_enter Tryz.func281 rfl (rs := [.cell 4 67, .tmp 5]) rfl rfl rfl rfl ?_
  refine cw_rs fun _ κ => ?_
  refine as_h rfl (h_boxM hs rfl rfl fun b1 M1 w1 hs1 hb1 e1 => ?_)
  replace hb := hs1.le _ _ hb
  replace hl := hl.mono hs1.le
  replace hr := hr.mono hs1.le
  replace hT := hT.then hs1
  have hz1 := hs1.size
  have hqar := hT.size
  refine as_h rfl (h_allocO (z := (.agg #[(.pointer none)])) hs1.sat (by kernel_rfl) rfl fun br w2 hs2 hor er => ?_)
  replace hb := hs2.le _ _ hb
  replace hl := hl.mono hs2.le
  replace hr := hr.mono hs2.le
  replace hb1 := hs2.le _ _ hb1
  replace hT := hT.then hs2
  have hz2 := hs2.size
  have hlr := hor.1.lt
  refine Sa rfl rfl ?_
  refine as_nil (κ _ _ ?_)
  refine cw_seq fun _ hK2 => ?_
  refine cw_rs fun _ κ => ?_
  refine Sf 0 rfl (by kernel_rfl) rfl ?_
  refine S1 rfl (by kernel_rfl) rfl (by exact BlkR.cell (hs2.sat _ _ _ hb1) rfl) ?_
  refine as_q rfl rfl (q_eqnil (by kernel_rfl) rfl) ?_
  refine as_nil (κ _ _ ?_)
  refine cw_false rfl ?_
  refine cw_skip ?_
  refine hK2 _ _ ?_
  refine cw_dr (by kernel_rfl) fun _ κ => ?_
  have hs3 := Step.drew hs2.sat
  have hz3 := hs3.size
  replace hb := hs3.le _ _ hb
  replace hl := hl.mono hs3.le
  replace hr := hr.mono hs3.le
  replace hb1 := hs3.le _ _ hb1
  replace hor := hor.then hs3
  replace hT := hT.then hs3
  refine Df 0 1 0 rfl (by kernel_rfl) (by kernel_rfl) rfl ?_
  refine Dl1 1 3 rfl (by kernel_rfl) (by kernel_rfl) rfl (by exact BlkR.cell (hs3.sat _ _ _ hb1) rfl) ?_
  refine Dq 2 7 rfl (by kernel_rfl) (fun _ => (q_nilp rfl)) ?_
  refine Df 3 15 2 rfl (by kernel_rfl) (by kernel_rfl) rfl ?_
  refine Dlc 4 31 1 rfl (by kernel_rfl) (by kernel_rfl) rfl (by exact BlkR.cells (hs3.sat _ _ _ hb) rfl) ?_
  refine Dm 5 63 rfl (by kernel_rfl) rfl ?_
  refine Df 6 127 0 rfl (by kernel_rfl) (by kernel_rfl) rfl ?_
  refine Dl1 7 255 rfl (by kernel_rfl) (by kernel_rfl) rfl (by exact BlkR.cell (hs3.sat _ _ _ hb1) rfl) ?_
  refine Dq 8 511 rfl (by kernel_rfl) (fun _ => (q_nilp rfl)) ?_
  refine Df 9 1023 3 rfl (by kernel_rfl) (by kernel_rfl) rfl ?_
  refine Dlc 10 2047 1 rfl (by kernel_rfl) (by kernel_rfl) rfl (by exact BlkR.cells (hs3.sat _ _ _ hb) rfl) ?_
  refine Dh 11 4095 rfl (by kernel_rfl) (keep_sift (bs := [T,F,T,F]) (by kernel_rfl)) (h_call (by kernel_rfl) rfl ?_)
  refine (l_meld hs3.sat hl hr (by simp only [Lft.size] at hz; omega)).mono ?_
  rintro _ w4 ⟨pm, Mm, rfl, hs4, hm⟩
  obtain ⟨qm, rfl⟩ := hm.ptr
  replace hb := hs4.le _ _ hb
  replace hb1 := hs4.le _ _ hb1
  replace hor := hor.then hs4
  replace hT := hT.then hs4
  have hz4 := hs4.size
  refine ⟨(by repeat' first | exact trivial | exact BlkR.cell (hs4.sat _ _ _ hb) rfl | exact BlkR.cells (hs4.sat _ _ _ hb) rfl | exact BlkR.cell (hs4.sat _ _ _ hb1) rfl | exact BlkR.cells (hs4.sat _ _ _ hb1) rfl | exact Blk.cell hor.1 rfl | exact Blk.cells hor.1 rfl | assumption | refine all_keep ?_ | refine And.intro ?_ ?_), ?_⟩
  refine Dh0 12 8191 rfl (by kernel_rfl) (keep_sift (bs := [T,T]) (by kernel_rfl)) (h_store hs4.sat hor rfl rfl rfl (by kernel_rfl) rfl rfl rfl fun w5 hs5 hn5 => ?_)
  replace hm := hm.mono hs5.le
  clear hor; have hor := hn5; clear hn5
  replace hT := hT.own hs5 (by omega)
  have hz5 := hs5.size
  refine ⟨trivial, ?_⟩
  refine Da 13 16383 rfl (by kernel_rfl) rfl ?_
  refine Dd (by kernel_rfl) (κ _ _ ?_)
  refine cw_ret ?_
  exact ⟨_, (res_cell rfl (loadVar_n (n := 1) (by kernel_rfl) (by exact Blk.cells hor.1 rfl)) (res_tmp rfl res_nil)), _, _, rfl, hT, hm⟩
end Go.Proofs.YtgcgjpfjjgalmaaGreat
/- Lists of heaps, part 1. -/
namespace Go.Proofs.YtgcgjpfjjgalmaaGreat
open Go Go.Eng
theorem cp_len_n {w : World} {M : Mem} (hs : Sat M w) :
    Does Tryz.prog 170 #[.agg #[.pointer none]] w (fun v w' => v = .int .i64 0 ∧ Step Nope M w M w') := by
  have hT := Step.refl Nope hs
  refine fn_enter Tryz.func170 rfl (rs := [.tmp 2]) rfl rfl rfl rfl ?_
  refine cw_rs fun _ κ => ?_
  refine as_h rfl (h_boxM hs rfl rfl fun b1 M1 w1 hs1 hb1 e1 => ?_)
  replace hT := hT.then hs1
  refine Sa rfl rfl ?_
  refine as_nil (κ _ _ ?_)
  refine cw_seq fun _ hK2 => ?_
  refine cw_rs fun _ κ => ?_
  refine Sf 0 rfl (by kernel_rfl) rfl ?_
  refine S1 rfl (by kernel_rfl) rfl (by exact BlkR.cell (hs1.sat _ _ _ hb1) rfl) ?_
  refine as_q rfl rfl (q_eqnil (by kernel_rfl) rfl) ?_
  refine as_nil (κ _ _ ?_)
  refine cw_true rfl ?_
  refine cw_rs fun _ κ => ?_
  refine Sa rfl rfl ?_
  refine as_nil (κ _ _ ?_)
  refine cw_ret ?_
  exact ⟨_, (res_tmp rfl res_nil), rfl, hT.forget⟩
theorem cp_len_c {w : World} {M : Mem} {x : Option Addr} {r : List (Option Addr)} {p : Value} (hs : Sat M w) (h : CRep 260 M (x :: r) p) :
    Does Tryz.prog 170 #[.agg #[p]] w (fun v w' => v = .int .i64 ((r.length : Int) + 1) ∧ Step Nope M w M w') := by
  have hT := Step.refl Nope hs
  obtain ⟨b, q, rfl, hb, hc⟩ := h
  refine fn_enter Tryz.func170 rfl (rs := [.tmp 2]) rfl rfl rfl rfl ?_
  refine cw_rs fun _ κ => ?_
  refine as_h rfl (h_boxM hs rfl rfl fun b1 M1 w1 hs1 hb1 e1 => ?_)
  replace hb := hs1.le _ _ hb
  replace hT := hT.then hs1
  refine Sa rfl rfl ?_
  refine as_nil (κ _ _ ?_)
  refine cw_seq fun _ hK2 => ?_
  refine cw_rs fun _ κ => ?_
  refine Sf 0 rfl (by kernel_rfl) rfl ?_
  refine S1 rfl (by kernel_rfl) rfl (by exact BlkR.cell (hs1.sat _ _ _ hb1) rfl) ?_
  refine as_q rfl rfl (q_eqnil (by kernel_rfl) rfl) ?_
  refine as_nil (κ _ _ ?_)
  refine cw_false rfl ?_
  refine cw_skip ?_
  refine hK2 _ _ ?_
  refine cw_rs fun _ κ => ?_
  refine Sf 0 rfl (by kernel_rfl) rfl ?_
  refine S1 rfl (by kernel_rfl) rfl (by exact BlkR.cell (hs1.sat _ _ _ hb1) rfl) ?_
  refine as_q rfl rfl (q_nilp rfl) ?_
  refine Sf 2 rfl (by kernel_rfl) rfl ?_
  refine S1 rfl (by kernel_rfl) rfl (by exact BlkR.cell (hs1.sat _ _ _ hb) rfl) ?_
  refine Sa rfl rfl ?_
  refine as_nil (κ _ _ ?_)
  refine cw_ret ?_
  exact ⟨_, (res_tmp rfl res_nil), rfl, hT.forget⟩
theorem cp_len {w : World} {M : Mem} {vs : List (Option Addr)} {p : Value} (hs : Sat M w) (h : CRep 260 M vs p) : Does Tryz.prog 170 #[.agg #[p]] w (fun v w' => v = .int .i64 (vs.length : Nat) ∧ Step Nope M w M w') := by
  cases vs with
  | nil => cases h; exact cp_len_n hs
  | cons x r => exact (cp_len_c hs h).mono fun v w' ⟨h1, h2⟩ => ⟨by rw [h1]; simp, h2⟩
theorem cp_first_n {w : World} {M : Mem} (hs : Sat M w) :
    Does Tryz.prog 171 #[.agg #[.pointer none]] w (fun v w' => v = .tuple #[(Value.agg #[.pointer none]), .bool false] ∧ Step Nope M w M w') := by
  have hT := Step.refl Nope hs
  refine fn_enter Tryz.func171 rfl (rs := [.cell 2 79, .tmp 3]) rfl rfl rfl rfl ?_
  refine cw_rs fun _ κ => ?_
  refine as_h rfl (h_boxM hs rfl rfl fun b1 M1 w1 hs1 hb1 e1 => ?_)
  replace hT := hT.then hs1
  have hz1 := hs1.size
  have hqar := hT.size
  refine as_h rfl (h_allocO (z := (.agg #[(.pointer none)])) hs1.sat (by kernel_rfl) rfl fun br w2 hs2 hor er => ?_)
  replace hb1 := hs2.le _ _ hb1
  replace hT := hT.then hs2
  have hz2 := hs2.size
  have hlr := hor.1.lt
  refine Sa rfl rfl ?_
  refine as_nil (κ _ _ ?_)
  refine cw_seq fun _ hK2 => ?_
  refine cw_rs fun _ κ => ?_
  refine Sf 0 rfl (by kernel_rfl) rfl ?_
  refine S1 rfl (by kernel_rfl) rfl (by exact BlkR.cell (hs2.sat _ _ _ hb1) rfl) ?_
  refine as_q rfl rfl (q_eqnil (by kernel_rfl) rfl) ?_
  refine as_nil (κ _ _ ?_)
  refine cw_true rfl ?_
  refine cw_rs fun _ κ => ?_
  have hqaz := hT.size
  refine as_h rfl (h_allocO (z := (.agg #[(.pointer none)])) hs2.sat (by kernel_rfl) rfl fun bz w3 hs3 hoz ez => ?_)
  replace hor := hor.then hs3
  replace hT := hT.then hs3
  have hz3 := hs3.size
  have hlz := hoz.1.lt
  refine as_nil (κ _ _ ?_)
  refine cw_rs fun _ κ => ?_
  refine Sc 1 rfl (by kernel_rfl) rfl (by exact Blk.cells hoz.1 rfl) ?_
  refine as_h0 (h_store hs3.sat hor rfl rfl rfl (by kernel_rfl) rfl rfl rfl fun w4 hs4 hn4 => ?_)
  clear hor; have hor := hn4; clear hn4
  replace hT := hT.own hs4 (by omega)
  have hz4 := hs4.size
  refine Sa rfl rfl ?_
  refine as_nil (κ _ _ ?_)
  refine cw_ret ?_
  exact ⟨_, (res_cell rfl (loadVar_n (n := 1) (by kernel_rfl) (by exact Blk.cells hor.1 rfl)) (res_tmp rfl res_nil)), rfl, hT.forget⟩
theorem cp_first {w : World} {M : Mem} {x : Option Addr} {r : List (Option Addr)} {p : Value} (hs : Sat M w) (h : CRep 260 M (x :: r) p) :
    Does Tryz.prog 171 #[.agg #[p]] w (fun v w' => v = .tuple #[(Value.agg #[.pointer x]), .bool true] ∧ Step Nope M w M w') := by
  have hT := Step.refl Nope hs
  obtain ⟨b, q, rfl, hb, hc⟩ := h
  refine fn_enter Tryz.func171 rfl (rs := [.cell 2 79, .tmp 3]) rfl rfl rfl rfl ?_
  refine cw_rs fun _ κ => ?_
  refine as_h rfl (h_boxM hs rfl rfl fun b1 M1 w1 hs1 hb1 e1 => ?_)
  replace hb := hs1.le _ _ hb
  replace hT := hT.then hs1
  have hz1 := hs1.size
  have hqar := hT.size
  refine as_h rfl (h_allocO (z := (.agg #[(.pointer none)])) hs1.sat (by kernel_rfl) rfl fun br w2 hs2 hor er => ?_)
  replace hb := hs2.le _ _ hb
  replace hb1 := hs2.le _ _ hb1
  replace hT := hT.then hs2
  have hz2 := hs2.size
  have hlr := hor.1.lt
  refine Sa rfl rfl ?_
  refine as_nil (κ _ _ ?_)
  refine cw_seq fun _ hK2 => ?_
  refine cw_rs fun _ κ => ?_
  refine Sf 0 rfl (by kernel_rfl) rfl ?_
  refine S1 rfl (by kernel_rfl) rfl (by exact BlkR.cell (hs2.sat _ _ _ hb1) rfl) ?_
  refine as_q rfl rfl (q_eqnil (by kernel_rfl) rfl) ?_
  refine as_nil (κ _ _ ?_)
  refine cw_false rfl ?_
  refine cw_skip ?_
  refine hK2 _ _ ?_
  refine cw_rs fun _ κ => ?_
  refine Sf 0 rfl (by kernel_rfl) rfl ?_
  refine S1 rfl (by kernel_rfl) rfl (by exact BlkR.cell (hs2.sat _ _ _ hb1) rfl) ?_
  refine as_q rfl rfl (q_nilp rfl) ?_
  refine Sf 0 rfl (by kernel_rfl) rfl ?_
  refine Sc 1 rfl (by kernel_rfl) rfl (by exact BlkR.cells (hs2.sat _ _ _ hb) rfl) ?_
  refine as_h0 (h_store hs2.sat hor rfl rfl rfl (by kernel_rfl) rfl rfl rfl fun w3 hs3 hn3 => ?_)
  clear hor; have hor := hn3; clear hn3
  replace hT := hT.own hs3 (by omega)
  have hz3 := hs3.size
  refine Sa rfl rfl ?_
  refine as_nil (κ _ _ ?_)
  refine cw_ret ?_
  exact ⟨_, (res_cell rfl (loadVar_n (n := 1) (by kernel_rfl) (by exact Blk.cells hor.1 rfl)) (res_tmp rfl res_nil)), rfl, hT.forget⟩
theorem cp_rest {w : World} {M : Mem} {x : Option Addr} {r : List (Option Addr)} {p : Value} (hs : Sat M w) (h : CRep 260 M (x :: r) p) :
    Does Tryz.prog 172 #[.agg #[p]] w (fun v w' => ∃ q, v = .agg #[.pointer q] ∧ Step Nope M w M w' ∧ CRep 260 M r (.pointer q)) := by
  have hT := Step.refl Nope hs
  obtain ⟨b, q, rfl, hb, hc⟩ := h
  have hc0 := hc
  refine fn_enter Tryz.func172 rfl (rs := [.cell 2 249]) rfl rfl rfl rfl ?_
  refine cw_rs fun _ κ => ?_
  refine as_h rfl (h_boxM hs rfl rfl fun b1 M1 w1 hs1 hb1 e1 => ?_)
  replace hb := hs1.le _ _ hb
  replace hT := hT.then hs1
  have hz1 := hs1.size
  have hqar := hT.size
  refine as_h rfl (h_allocO (z := (.agg #[(.pointer none)])) hs1.sat (by kernel_rfl) rfl fun br w2 hs2 hor er => ?_)
  replace hb := hs2.le _ _ hb
  replace hb1 := hs2.le _ _ hb1
  replace hT := hT.then hs2
  have hz2 := hs2.size
  have hlr := hor.1.lt
  refine as_nil (κ _ _ ?_)
  refine cw_seq fun _ hK2 => ?_
  refine cw_rs fun _ κ => ?_
  refine Sf 0 rfl (by kernel_rfl) rfl ?_
  refine S1 rfl (by kernel_rfl) rfl (by exact BlkR.cell (hs2.sat _ _ _ hb1) rfl) ?_
  refine as_q rfl rfl (q_eqnil (by kernel_rfl) rfl) ?_
  refine as_nil (κ _ _ ?_)
  refine cw_false rfl ?_
  refine cw_skip ?_
  refine hK2 _ _ ?_
  refine cw_rs fun _ κ => ?_
  refine Sf 0 rfl (by kernel_rfl) rfl ?_
  refine S1 rfl (by kernel_rfl) rfl (by exact BlkR.cell (hs2.sat _ _ _ hb1) rfl) ?_
  refine as_q rfl rfl (q_nilp rfl) ?_
  refine Sf 1 rfl (by kernel_rfl) rfl ?_
  refine S1 rfl (by kernel_rfl) rfl (by exact BlkR.cell (hs2.sat _ _ _ hb) rfl) ?_
  refine as_q rfl rfl (q_build (zs := [(.pointer none)]) (places := [(0, 1)]) (cs := [_]) (by kernel_rfl) (by kernel_rfl) rfl rfl) ?_
  refine as_h0 (h_store hs2.sat hor rfl rfl rfl (by kernel_rfl) rfl rfl rfl fun w3 hs3 hn3 => ?_)
  clear hor; have hor := hn3; clear hn3
  replace hT := hT.own hs3 (by omega)
  have hz3 := hs3.size
  refine as_nil (κ _ _ ?_)
  refine cw_ret ?_
  exact ⟨_, (res_cell rfl (loadVar_n (n := 1) (by kernel_rfl) (by exact Blk.cells hor.1 rfl)) res_nil), q, rfl, hT.forget, hc0⟩
theorem cp_push {w : World} {M : Mem} {x : Option Addr} {vs : List (Option Addr)} {p : Value} (hs : Sat M w) (h : CRep 260 M vs p) (hz : vs.length ≤ 1000000000) :
    Does Tryz.prog 167 #[.agg #[p], (Value.agg #[.pointer x])] w (fun v w' => ∃ q M', v = .agg #[.pointer q] ∧ Step Nope M w M' w' ∧ CRep 260 M' (x :: vs) (.pointer q)) := by
  have hT := Step.refl Nope hs
  obtain ⟨q, rfl⟩ := h.ptr
  refine fn_enter Tryz.func167 rfl (rs := [.cell 4 249]) rfl rfl rfl rfl ?_
  refine cw_rs fun _ κ => ?_
  refine as_h rfl (h_boxM hs rfl rfl fun b1 M1 w1 hs1 hb1 e1 => ?_)
  replace h := h.mono hs1.le
  replace hT := hT.then hs1
  have hz1 := hs1.size
  refine as_h rfl (h_boxM hs1.sat rfl rfl fun b2 M2 w2 hs2 hb2 e2 => ?_)
  replace h := h.mono hs2.le
  replace hb1 := hs2.le _ _ hb1
  replace hT := hT.then hs2
  have hz2 := hs2.size
  have hqar := hT.size
  refine as_h rfl (h_allocO (z := (.agg #[(.pointer none)])) hs2.sat (by kernel_rfl) rfl fun br w3 hs3 hor er => ?_)
  replace h := h.mono hs3.le
  replace hb1 := hs3.le _ _ hb1
  replace hb2 := hs3.le _ _ hb2
  replace hT := hT.then hs3
  have hz3 := hs3.size
  have hlr := hor.1.lt
  refine as_nil (κ _ _ ?_)
  refine cw_dr (by kernel_rfl) fun _ κ => ?_
  have hs4 := Step.drew hs3.sat
  have hz4 := hs4.size
  replace h := h.mono hs4.le
  replace hb1 := hs4.le _ _ hb1
  replace hb2 := hs4.le _ _ hb2
  replace hor := hor.then hs4
  replace hT := hT.then hs4
  refine Dlc 0 1 1 rfl (by kernel_rfl) (by kernel_rfl) rfl (by exact BlkR.cells (hs4.sat _ _ _ hb2) rfl) ?_
  refine Df 1 3 0 rfl (by kernel_rfl) (by kernel_rfl) rfl ?_
  refine Dl1 2 7 rfl (by kernel_rfl) (by kernel_rfl) rfl (by exact BlkR.cell (hs4.sat _ _ _ hb1) rfl) ?_
  refine Dlc 3 15 1 rfl (by kernel_rfl) (by kernel_rfl) rfl (by exact BlkR.cells (hs4.sat _ _ _ hb1) rfl) ?_
  refine Dh 4 31 rfl (by kernel_rfl) (keep_sift (bs := [T,F,F]) (by kernel_rfl)) (h_call (by kernel_rfl) rfl ?_)
  refine (cp_len hs4.sat h).mono ?_
  rintro _ w5 ⟨rfl, hs5⟩
  replace h := h.mono hs5.le
  replace hb1 := hs5.le _ _ hb1
  replace hb2 := hs5.le _ _ hb2
  replace hor := hor.then hs5
  replace hT := hT.then hs5
  have hz5 := hs5.size
  refine ⟨(by repeat' first | exact trivial | exact BlkR.cell (hs5.sat _ _ _ hb1) rfl | exact BlkR.cells (hs5.sat _ _ _ hb1) rfl | exact BlkR.cell (hs5.sat _ _ _ hb2) rfl | exact BlkR.cells (hs5.sat _ _ _ hb2) rfl | exact Blk.cell hor.1 rfl | exact Blk.cells hor.1 rfl | assumption | refine all_keep ?_ | refine And.intro ?_ ?_), ?_⟩
  refine Dq 5 63 rfl (by kernel_rfl) (fun _ => (q_addx rfl rfl (by omega) (by omega))) ?_
  refine Dq 6 127 rfl (by kernel_rfl) (fun _ => (q_build (zs := [(.pointer none), (.pointer none), (.int .i64 0)]) (places := [(0, 1), (1, 1), (2, 1)]) (cs := [_, _, _]) (by kernel_rfl) (by kernel_rfl) rfl rfl)) ?_
  refine Dh 7 255 rfl (by kernel_rfl) (keep_sift (bs := [F,F]) (by kernel_rfl)) (h_boxM hs5.sat rfl rfl fun b6 M6 w6 hs6 hb6 e6 => ?_)
  replace h := h.mono hs6.le
  replace hb1 := hs6.le _ _ hb1
  replace hb2 := hs6.le _ _ hb2
  replace hor := hor.then hs6
  replace hT := hT.then hs6
  have hz6 := hs6.size
  refine ⟨(by repeat' first | exact trivial | exact BlkR.cell (hs6.sat _ _ _ hb1) rfl | exact BlkR.cells (hs6.sat _ _ _ hb1) rfl | exact BlkR.cell (hs6.sat _ _ _ hb2) rfl | exact BlkR.cells (hs6.sat _ _ _ hb2) rfl | exact Blk.cell hor.1 rfl | exact Blk.cells hor.1 rfl | exact BlkR.cell (hs6.sat _ _ _ hb6) rfl | exact BlkR.cells (hs6.sat _ _ _ hb6) rfl | assumption | refine all_keep ?_ | refine And.intro ?_ ?_), ?_⟩
  refine Dq 8 511 rfl (by kernel_rfl) (fun _ => (q_build (zs := [(.pointer none)]) (places := [(0, 1)]) (cs := [_]) (by kernel_rfl) (by kernel_rfl) rfl rfl)) ?_
  refine Dh0 9 1023 rfl (by kernel_rfl) (keep_sift (bs := [T,T]) (by kernel_rfl)) (h_store hs6.sat hor rfl rfl rfl (by kernel_rfl) rfl rfl rfl fun w7 hs7 hn7 => ?_)
  replace h := h.mono hs7.le
  replace hb6 := hs7.le _ _ hb6
  clear hor; have hor := hn7; clear hn7
  replace hT := hT.own hs7 (by omega)
  have hz7 := hs7.size
  refine ⟨trivial, ?_⟩
  refine Dd (by kernel_rfl) (κ _ _ ?_)
  refine cw_ret ?_
  exact ⟨_, (res_cell rfl (loadVar_n (n := 1) (by kernel_rfl) (by exact Blk.cells hor.1 rfl)) res_nil), _, _, rfl, hT, _, _, rfl, hb6, h⟩
theorem cp_drop {w : World} {M : Mem} {vs : List (Option Addr)} {q : Option Addr} {n : Nat} (hs : Sat M w) (h : CRep 260 M vs (.pointer q)) (hn : n ≤ 1000000000) :
    Does Tryz.prog 173 #[.agg #[.pointer q], .int .i64 n] w (fun v w' => ∃ q, v = .agg #[.pointer q] ∧ Step Nope M w M w' ∧ CRep 260 M (vs.drop n) (.pointer q)) := by
  have hT := Step.refl Nope hs
  have hzn : (0:Int) ≤ n := Int.natCast_nonneg n
  refine fn_enter Tryz.func173 rfl (rs := [.cell 4 249]) rfl rfl rfl rfl ?_
  refine cw_rs fun _ κ => ?_
  have hqal := hT.size
  refine as_h rfl (h_boxO hs rfl rfl fun bl w1 hs1 hol el => ?_)
  replace hT := hT.then hs1
  have hz1 := hs1.size
  have hll := hol.1.lt
  have hqar := hT.size
  refine as_h rfl (h_allocO (z := (.agg #[(.pointer none)])) hs1.sat (by kernel_rfl) rfl fun br w2 hs2 hor er => ?_)
  replace hol := hol.then hs2
  replace hT := hT.then hs2
  have hz2 := hs2.size
  have hlr := hor.1.lt
  refine as_nil (κ _ _ ?_)
  refine cw_seq fun _ hK2 => ?_
  refine cw_block ?_
  refine cw_loop (fun mm l w1 => ∃ (i : Nat) (z : Int) (rest : List (Option Addr)) (p1 : Option Addr), mm = rest.length ∧ z = n - i ∧ 0 ≤ z ∧ vs.drop i = rest ∧ CRep 260 M rest (.pointer p1) ∧ l = [(2, .pointer (some ⟨bl, 0, none⟩)), (4, .pointer (some ⟨br, 0, none⟩)), (1, .int .i64 z)] ∧ Step Nope M w M w1 ∧ Own w1 M bl [.pointer p1] 249 ∧ Own w1 M br [.pointer none] 249) (vs.length) [(2, .pointer (some ⟨bl, 0, none⟩)), (4, .pointer (some ⟨br, 0, none⟩)), (1, .int .i64 (n : Int))] (.cons rfl (.cons rfl (.cons rfl (.nil _)))) ?_ ?_
  · skip
    exact ⟨0, n, vs, q, rfl, by simp, by omega, rfl, h, rfl, hT, hol, hor⟩
  have hblw : w.heap.size ≤ bl := by omega
  have hbrw : w.heap.size ≤ br ∧ bl ≠ br := by omega
  clear hT hol hor
  rintro mm l w1 ⟨i, z, rest, p1, rfl, hz, hz0, hdr, hc, rfl, hT, hol, hor⟩
  refine cw_seq fun _ hK3 => ?_
  have hcs : (z = 0) ∨ (0 < z ∧ p1 = none) ∨ (0 < z ∧ ∃ a, p1 = some a) := by
    rcases p1 with _ | a
    · rcases Int.lt_or_le 0 z with h | h
      · exact .inr (.inl ⟨h, rfl⟩)
      · left; omega
    · rcases Int.lt_or_le 0 z with h | h
      · exact .inr (.inr ⟨h, a, rfl⟩)
      · left; omega
  rcases hcs with h0 | ⟨h0, rfl⟩ | ⟨h0, a, rfl⟩
  · skip
    refine cw_rs fun _ κ => ?_
    refine Sm rfl rfl ?_
    refine as_q rfl rfl (q_gtF rfl rfl (by omega)) ?_
    refine Sm rfl rfl ?_
    refine as_gskip rfl rfl rfl rfl rfl ?_
    refine as_gskip rfl rfl rfl rfl rfl ?_
    refine as_gskip rfl rfl rfl rfl rfl ?_
    refine as_q rfl rfl (q_pick_f rfl rfl) ?_
    refine as_nil (κ _ _ ?_)
    refine cw_false rfl ?_
    refine cw_exit ?_
    refine hK2 _ _ ?_
    refine cw_rs fun _ κ => ?_
    refine Sc 1 rfl (by kernel_rfl) rfl (by exact Blk.cells hol.1 rfl) ?_
    refine as_h0 (h_store hT.sat hor rfl rfl rfl (by kernel_rfl) rfl rfl rfl fun w3 hs3 hn3 => ?_)
    replace hol := hol.step hs3 (fun h => by have h : _ = _ := h; omega)
    replace hc := hc.mono hs3.le
    clear hor; have hor := hn3; clear hn3
    replace hT := hT.own hs3 (by omega)
    have hz3 := hs3.size
    refine as_nil (κ _ _ ?_)
    refine cw_ret ?_
    have e : vs.drop n = rest := by rw [← hdr]; congr 1; omega
    exact ⟨_, (res_cell rfl (loadVar_n (n := 1) (by kernel_rfl) (by exact Blk.cells hor.1 rfl)) res_nil), _, rfl, hT, by rw [e]; exact hc⟩
  · skip
    refine cw_rs fun _ κ => ?_
    refine Sm rfl rfl ?_
    refine as_q rfl rfl (q_gtT rfl rfl (by omega)) ?_
    refine Sm rfl rfl ?_
    refine as_gh rfl rfl rfl rfl (h_q rfl (q_fieldAddr (off := 0) (by kernel_rfl) rfl) ?_)
    refine as_gh rfl rfl rfl rfl (h_q rfl (q_load1 (by kernel_rfl) rfl (by exact Blk.cell hol.1 rfl)) ?_)
    refine as_gh rfl rfl rfl rfl (h_q rfl (q_nenil (by kernel_rfl) rfl) ?_)
    refine as_q rfl rfl (q_pick_t rfl rfl) ?_
    refine as_nil (κ _ _ ?_)
    refine cw_false rfl ?_
    refine cw_exit ?_
    refine hK2 _ _ ?_
    refine cw_rs fun _ κ => ?_
    refine Sc 1 rfl (by kernel_rfl) rfl (by exact Blk.cells hol.1 rfl) ?_
    refine as_h0 (h_store hT.sat hor rfl rfl rfl (by kernel_rfl) rfl rfl rfl fun w4 hs4 hn4 => ?_)
    replace hol := hol.step hs4 (fun h => by have h : _ = _ := h; omega)
    replace hc := hc.mono hs4.le
    clear hor; have hor := hn4; clear hn4
    replace hT := hT.own hs4 (by omega)
    have hz4 := hs4.size
    refine as_nil (κ _ _ ?_)
    refine cw_ret ?_
    have e : vs.drop n = rest := by
      have h2 : rest = [] := by
        rcases rest with _ | ⟨x, rest⟩
        · rfl
        · obtain ⟨_, _, h, _⟩ := hc; cases h
      subst h2
      refine List.drop_eq_nil_of_le ?_
      have := List.drop_eq_nil_iff.1 hdr
      omega
    exact ⟨_, (res_cell rfl (loadVar_n (n := 1) (by kernel_rfl) (by exact Blk.cells hor.1 rfl)) res_nil), _, rfl, hT, by rw [e]; exact hc⟩
  · skip
    refine cw_rs fun _ κ => ?_
    refine Sm rfl rfl ?_
    refine as_q rfl rfl (q_gtT rfl rfl (by omega)) ?_
    refine Sm rfl rfl ?_
    refine as_gh rfl rfl rfl rfl (h_q rfl (q_fieldAddr (off := 0) (by kernel_rfl) rfl) ?_)
    refine as_gh rfl rfl rfl rfl (h_q rfl (q_load1 (by kernel_rfl) rfl (by exact Blk.cell hol.1 rfl)) ?_)
    refine as_gh rfl rfl rfl rfl (h_q rfl (q_nenil (by kernel_rfl) rfl) ?_)
    refine as_q rfl rfl (q_pick_t rfl rfl) ?_
    refine as_nil (κ _ _ ?_)
    refine cw_true rfl ?_
    refine cw_skip ?_
    refine hK3 _ _ ?_
    refine cw_seq fun _ hK9 => ?_
    refine cw_block ?_
    refine cw_region fun _ κ => ?_
    refine Sc 1 rfl (by kernel_rfl) rfl (by exact Blk.cells hol.1 rfl) ?_
    refine as_h rfl (h_call (by kernel_rfl) rfl ?_)
    rcases rest with _ | ⟨x, rest⟩
    · have h : Value.pointer (some a) = .pointer none := hc
      cases h
    refine (cp_rest hT.sat hc).mono ?_
    rintro _ w5 ⟨q, rfl, hs5, hc⟩
    replace hol := hol.then hs5
    replace hor := hor.then hs5
    replace hc := hc.mono hs5.le
    replace hT := hT.then hs5
    have hz5 := hs5.size
    refine as_h0 (h_store hs5.sat hol rfl rfl rfl (by kernel_rfl) rfl rfl rfl fun w6 hs6 hn6 => ?_)
    replace hor := hor.step hs6 (fun h => by have h : _ = _ := h; omega)
    replace hc := hc.mono hs6.le
    clear hol; have hol := hn6; clear hn6
    replace hT := hT.own hs6 (by omega)
    have hz6 := hs6.size
    refine as_nil (κ _ _ ?_)
    refine hK9 _ _ ?_
    refine cw_region fun _ κ => ?_
    refine Sm rfl rfl ?_
    refine as_q rfl rfl (q_subx rfl rfl (by omega) (by omega)) ?_
    refine Sa rfl rfl ?_
    refine as_nil (κ _ _ ?_)
    refine ⟨_, _, ?_, (.cons rfl (.cons rfl (.cons rfl (.nil _)))), i + 1, _, rest, q, rfl, by omega, by omega, by rw [← List.drop_drop, hdr]; rfl, hc, rfl, hT, hol, hor⟩
    simp
theorem cp_each1 {w : World} {M : Mem} {vs : List (Option Addr)} {bx : Nat} {p : Option Addr} (hb : M bx = some ([.pointer p], 249)) (hc : CRep 260 M vs (.pointer p)) :
    IterOk Tryz.prog 175 [.pointer (some ⟨bx, 0, none⟩)] Nope (vs.map fun q => (Value.agg #[.pointer q])) M w := by
  intro r J M0 W0 h0 _ _ hround hJ
  replace hb := h0.le _ _ hb
  replace hc := hc.mono h0.le
  refine fn_enter Tryz.func175 rfl (rs := []) rfl rfl rfl rfl ?_
  refine cw_rs fun _ κ => ?_
  refine Sf 0 rfl (by kernel_rfl) rfl ?_
  refine S1 rfl (by kernel_rfl) rfl (by exact BlkR.cell (h0.sat _ _ _ hb) rfl) ?_
  refine Sa rfl rfl ?_
  refine as_nil (κ _ _ ?_)
  refine cw_block ?_
  refine cw_loop (fun mm l w1 => ∃ (i : Nat) (rest : List (Option Addr)) (p1 : Option Addr) (M1 : Mem), mm = rest.length ∧ vs.drop i = rest ∧ i + rest.length = vs.length ∧ CRep 260 M1 rest (.pointer p1) ∧ l = [(0, .func (.yield r) #[] #[]), (1, .pointer (some ⟨bx, 0, none⟩)), (3, .pointer p1)] ∧ Le M0 M1 ∧ Sat M1 w1 ∧ J i M1 w1) (vs.length) [(0, .func (.yield r) #[] #[]), (1, .pointer (some ⟨bx, 0, none⟩)), (3, .pointer p)] (.cons rfl (.cons rfl (.cons rfl (.nil _)))) ?_ ?_
  · skip
    exact ⟨0, vs, p, M0, rfl, rfl, by omega, hc, rfl, Le.refl _, h0.sat, hJ⟩
  clear hc hJ
  rintro mm l w1 ⟨i, rest, p1, M1, rfl, hdr, hi, hc, rfl, hle, hst, hJ⟩
  refine cw_seq fun _ hK2 => ?_
  refine cw_rs fun _ κ => ?_
  refine Sm rfl rfl ?_
  refine as_q rfl rfl (q_nenil (by kernel_rfl) rfl) ?_
  refine as_nil (κ _ _ ?_)
  refine cw_cond rfl (fun hc0 => ?_) (fun hc0 => ?_)
  · skip
    rcases rest with _ | ⟨x, rest⟩
    · have h : Value.pointer p1 = .pointer none := hc
      cases h; cases hc0
    obtain ⟨b, q, hpb, hb1, hc⟩ := hc
    cases hpb
    have hx : vs[i]? = some x := by rw [← List.head?_drop, hdr]; rfl
    refine cw_skip ?_
    refine hK2 _ _ ?_
    refine cw_seq fun _ hK4 => ?_
    refine cw_block ?_
    refine cw_rs fun _ κ => ?_
    refine Sm rfl rfl ?_
    refine Sm rfl rfl ?_
    refine as_q rfl rfl (q_nilp rfl) ?_
    refine Sf 0 rfl (by kernel_rfl) rfl ?_
    refine Sc 1 rfl (by kernel_rfl) rfl (by exact BlkR.cells (hst _ _ _ hb1) rfl) ?_
    refine as_h rfl (h_yield rfl rfl ?_)
    obtain ⟨fn_, tm_, as_, bo_, hy1, hy2⟩ := hround i ((Value.agg #[.pointer x])) M1 w1 (by show (vs.map _)[i]? = _; rw [List.getElem?_map, hx]; rfl) hJ hst hle
    refine ⟨fn_, tm_, as_, bo_, hy1, RoundIn.mono hy2 fun e w1 he => ?_⟩
    cases e <;> try exact (he : False).elim
    obtain ⟨rfl, M2, hs1, hJ2⟩ := he
    replace hb1 := hs1.le _ _ hb1
    replace hc := hc.mono hs1.le
    refine as_q rfl rfl (q_not rfl) ?_
    refine as_nil (κ _ _ ?_)
    refine cw_false rfl ?_
    refine cw_skip ?_
    refine hK4 _ _ ?_
    refine cw_region fun _ κ => ?_
    refine Sm rfl rfl ?_
    refine as_q rfl rfl (q_nilp rfl) ?_
    refine Sf 1 rfl (by kernel_rfl) rfl ?_
    refine S1 rfl (by kernel_rfl) rfl (by exact BlkR.cell (hs1.sat _ _ _ hb1) rfl) ?_
    refine Sa rfl rfl ?_
    refine as_nil (κ _ _ ?_)
    refine ⟨_, _, ?_, (.cons rfl (.cons rfl (.cons rfl (.nil _)))), i + 1, rest, q, _, rfl, by rw [← List.drop_drop, hdr]; rfl, by simp only [List.length_cons] at hi ⊢; omega, hc, rfl, hle.trans hs1.le, hs1.sat, hJ2⟩
    simp
  · skip
    have hrn : rest = [] := by
      rcases rest with _ | ⟨x, rest⟩
      · rfl
      · obtain ⟨b, q, h, _⟩ := hc
        cases h; cases hc0
    subst hrn
    refine cw_exit ?_
    have e : i = vs.length := by simpa using hi
    exact ⟨_, res_nil, M1, hst, hle, by rw [List.length_map, ← e]; exact hJ⟩
theorem cp_each {w : World} {M : Mem} {p : Option Addr} (hs : Sat M w) :
    Does Tryz.prog 174 #[.agg #[.pointer p]] w (fun v w' => ∃ bx M', v = .func (.func 175) #[] #[.pointer (some ⟨bx, 0, none⟩)] ∧ Step Nope M w M' w' ∧ M' bx = some ([.pointer p], 249)) := by
  have hT := Step.refl Nope hs
  refine fn_enter Tryz.func174 rfl (rs := [.tmp 2]) rfl rfl rfl rfl ?_
  refine cw_rs fun _ κ => ?_
  refine as_h rfl (h_boxM hs rfl rfl fun b1 M1 w1 hs1 hb1 e1 => ?_)
  replace hT := hT.then hs1
  refine Sa rfl rfl ?_
  refine as_nil (κ _ _ ?_)
  refine cw_rs fun _ κ => ?_
  refine as_q rfl rfl (q_func rfl rfl) ?_
  refine Sa rfl rfl ?_
  refine as_nil (κ _ _ ?_)
  refine cw_ret ?_
  exact ⟨_, (res_tmp rfl res_nil), _, _, rfl, hT, hb1⟩
theorem cp_all {w : World} {M : Mem} {vs : List (Option Addr)} {p : Value} (hs : Sat M w) (h : CRep 260 M vs p) (hz : vs.length ≤ 1000000000) :
    Does Tryz.prog 169 #[.agg #[p]] w (fun v w' => ∃ M', Step Nope M w M' w' ∧ Buf w' M' 79 1 v vs.length (ptrs vs) ∧ ∀ g, v.ownBlock = some g → w.heap.size ≤ g) := by
  have hT := Step.refl Nope hs
  obtain ⟨p, rfl⟩ := h.ptr
  refine fn_enterM (K' := fun v w' => ∃ M', Step Nope M w M' w' ∧ Buf w' M' 79 1 v vs.length (ptrs vs) ∧ ∀ g, v.ownBlock = some g → w.heap.size ≤ g) Tryz.func169 rfl (rs := [.tmp 2]) rfl rfl rfl rfl ?_ (fun _ _ _ _ _ _ h => resT rfl h) ?_
  · skip
    refine cm_seq fun K0a hK0a => cw_region fun K0b hK0b => ?_
    refine as_h rfl (h_boxM hs rfl rfl fun b1 M1 w1 hs1 hb1 e1 => ?_)
    replace h := h.mono hs1.le
    replace hT := hT.then hs1
    have hz1 := hs1.size
    refine Sa rfl rfl ?_
    refine as_nil (hK0b _ _ (hK0a _ _ ?_))
    clear hK0b hK0a K0b K0a
    refine cm_seq fun K1a hK1a => cw_region fun K1b hK1b => ?_
    have hqao := hT.size
    refine as_h rfl (h_allocO (z := (.slice none 0 0)) hs1.sat (by kernel_rfl) rfl fun bo w2 hs2 hoo eo => ?_)
    replace h := h.mono hs2.le
    replace hb1 := hs2.le _ _ hb1
    replace hT := hT.then hs2
    have hz2 := hs2.size
    have hlo := hoo.1.lt
    refine as_nil (hK1b _ _ (hK1a _ _ ?_))
    clear hK1b hK1a K1b K1a
    refine cm_seqM ?_
    refine cm_seq fun K2a hK2a => cw_region fun K2b hK2b => ?_
    refine Sc 1 rfl (by kernel_rfl) rfl (by exact BlkR.cells (hs2.sat _ _ _ hb1) rfl) ?_
    refine as_h rfl (h_call (by kernel_rfl) rfl ?_)
    refine (cp_each hs2.sat).mono ?_
    rintro _ w3 ⟨bx, Mx, rfl, hs3, hbx⟩
    replace h := h.mono hs3.le
    replace hoo := hoo.then hs3
    replace hT := hT.then hs3
    have hz3 := hs3.size
    refine as_nil (hK2b _ _ (hK2a _ _ ?_))
    clear hK2b hK2a K2b K2a
    have hTs := hT.size
    have hbo := hoo.1.lt
    have hboo : w.heap.size ≤ bo := by omega
    refine cm_block ?_
    refine cm_rangeC (M := Mx) (S := Nope) (vs := vs.map fun q => (Value.agg #[.pointer q])) (lb := [.pointer (some ⟨bx, 0, none⟩)]) (gf := 175) rfl rfl rfl (by kernel_rfl) rfl hs3.sat hTs (cp_each1 hbx h) (fun _ h => h.elim) (fun i M' W' => ∃ sv, Own W' M' bo [sv] 257 ∧ Buf W' M' 79 1 sv i (ptrs (vs.take i)) ∧ Step Nope M w M' W' ∧ ∀ g, sv.ownBlock = some g → w.heap.size ≤ g ∧ g ≠ bo ∧ g ≠ w3.heap.size ∧ g ≠ w3.heap.size + 1) (fun i v la M' W' => ∃ bz q, v = .agg #[.pointer q] ∧ la = [(3, .pointer (some ⟨bo, 0, none⟩)), (4, .pointer (some ⟨bz, 0, none⟩))] ∧ Own W' M' bz [.pointer q] 79 ∧ bz ≠ w3.heap.size ∧ bz ≠ w3.heap.size + 1 ∧ ∃ sv, Own W' M' bo [sv] 257 ∧ Buf W' M' 79 1 sv i (ptrs (vs.take i)) ∧ Step Nope M w M' W' ∧ ∀ g, sv.ownBlock = some g → w.heap.size ≤ g ∧ g ≠ bo ∧ g ≠ w3.heap.size ∧ g ≠ w3.heap.size + 1) ?_ ?_ ?_ ?_ ?_ ?_
    · rintro i M' W' M'' W'' ⟨sv, h1, h2, h3, h4⟩ k
      refine ⟨sv, h1.step k (by rintro (h | h | h); exact h; all_goals omega), h2.step k (fun g hg => by rintro (h | h | h); exact h; exact (h4 g hg).2.2.1 h; exact (h4 g hg).2.2.2 h), h3.trans k (fun b hb => by rintro (h | h | h); exact h; all_goals omega), h4⟩
    · exact ⟨_, hoo, by rw [List.take_zero]; exact Buf.nil _ _ _ _, hT, fun g hg => by cases hg⟩
    · rintro i v la M' W' M'' W'' ⟨bz, q, rfl, rfl, h0, hz1, hz2, sv, h1, h2, h3, h4⟩ k
      refine ⟨bz, q, rfl, rfl, h0.step k (by rintro (h | h | h); exact h; all_goals omega), hz1, hz2, ?_⟩
      refine ⟨sv, h1.step k (by rintro (h | h | h); exact h; all_goals omega), h2.step k (fun g hg => by rintro (h | h | h); exact h; exact (h4 g hg).2.2.1 h; exact (h4 g hg).2.2.2 h), h3.trans k (fun b hb => by rintro (h | h | h); exact h; all_goals omega), h4⟩
    · rintro i v r M' W' hv ⟨sv, h1, h2, h3, h4⟩ hs' hle hlt
      obtain ⟨q, _, rfl⟩ : ∃ q, _ ∧ v = .agg #[.pointer q] := by
        rw [List.getElem?_map] at hv
        obtain ⟨q, h5, h6⟩ := Option.map_eq_some_iff.1 hv
        exact ⟨q, h5, h6.symm⟩
      refine cw_region fun _ κ => ?_
      refine as_h rfl (h_allocO (z := (.agg #[(.pointer none)])) hs' (by kernel_rfl) rfl fun bz w4 hs4 hz ez => ?_)
      have hz4 := hs4.size
      refine as_h0 (h_store hs4.sat hz rfl rfl rfl (by kernel_rfl) rfl rfl rfl fun w5 hs5 hz5 => ?_)
      have hst : Step Nope M' W' M' w5 := hs4.trans hs5 (fun b hb h => by have h : b = bz := h; omega)
      have hz0 := hs4.size
      have hb2 := h2.lt
      refine as_nil (κ _ _ ⟨_, M', .cons rfl (.cons rfl (.nil _)), hst, bz, q, rfl, rfl, hz5, by omega, by omega, sv, h1.then hst, h2.then hst, h3.also hst, h4⟩)
    · rintro i v la r M' W' hv ⟨bz, q, rfl, rfl, hz, hz1, hz2, sv, h1, h2, h3, h4⟩ hs' hle hlt
      obtain ⟨x, hx, hxv⟩ : ∃ x, vs[i]? = some x ∧ (Value.agg #[.pointer x]) = Value.agg #[.pointer q] := by
        rw [List.getElem?_map] at hv
        exact Option.map_eq_some_iff.1 hv
      have h1l := h1.1.lt
      have h2l := h2.lt
      have hin : i < vs.length := (List.getElem?_eq_some_iff.1 hx).1
      cases hxv
      refine cw_block (cw_region fun K4 hK4 => ?_)
      refine S1 rfl (by kernel_rfl) rfl (by exact Blk.cell h1.1 rfl) ?_
      refine Sc 1 rfl (by kernel_rfl) rfl (by exact Blk.cells hz.1 rfl) ?_
      refine as_h rfl (h_buildO (e := 79) (size := 1) (zs := [.pointer none]) (cs := [_]) (by kernel_rfl) (by kernel_rfl) (by kernel_rfl) rfl hs' rfl rfl fun b6 w6 hs6 ho6 e6 => ?_)
      have hsB := hs6
      replace h1 := h1.then hs6
      have hz6 := hs6.size
      have hrx := Buf.rd (Own.buf ho6 (n := 1) (size := 1) rfl (by decide))
      have h2b := h2.then hsB
      refine as_h rfl (h_append (e := 79) (size := 1) (bytes := 8) (by kernel_rfl) hs6.sat h2b hrx rfl rfl (fun y hy => by obtain rfl := List.mem_singleton.1 hy; rfl) (by omega) rfl fun sv2 w7 hs7 h2c hor => ?_)
      have hsv : ∃ a k c, sv2 = .slice a k c := by obtain ⟨a, c, h, _⟩ := h2c.slice; exact ⟨a, _, c, h⟩
      replace h1 := h1.step hs7 (fun h => (h4 _ h).2.1 rfl)
      obtain ⟨sa, sk, sc, rfl⟩ := hsv
      refine as_h0 (h_store hs7.sat h1 rfl rfl rfl (by kernel_rfl) rfl rfl rfl fun w8 hs8 h1n => ?_)
      have hzb := hs6.size
      have hza := hs7.size
      have hownf : ∀ g, (Value.slice sa sk sc).ownBlock = some g → w.heap.size ≤ g ∧ g ≠ bo ∧ g ≠ w3.heap.size ∧ g ≠ w3.heap.size + 1 := fun g hg => by
        rcases hor with h | h
        · rw [h] at hg; exact h4 g hg
        · rw [h] at hg; have hg := Option.some.inj hg; omega
      have k1 : Step (fun k => ¬ Nope k ∧ k ≠ w3.heap.size ∧ k ≠ w3.heap.size + 1) M' w6 M' w7 := hs7.wide fun k _ h => ⟨id, (h4 k h).2.2.1, (h4 k h).2.2.2⟩
      have k2 : Step (fun k => ¬ Nope k ∧ k ≠ w3.heap.size ∧ k ≠ w3.heap.size + 1) M' w7 M' w8 := hs8.wide fun k _ h => by have h : k = bo := h; exact ⟨id, by omega, by omega⟩
      refine as_nil (hK4 _ _ ⟨M', ((hs6.any _).also k1).also k2, _, h1n, ?_, ?_, hownf⟩)
      · have h5 := h2c.step hs8 (fun g hg h => (hownf g hg).2.1 h)
        rw [ptrs_take hx] at h5
        exact h5
      · exact ((h3.also hs6).trans hs7 (fun k hk h => by have := (h4 k h).1; omega)).trans hs8 (fun k hk h => by have h : k = bo := h; omega)
    · rintro M' W' hs' hle ⟨sv, h1, h2, h3, h4⟩ D hD hDd
      refine cw_rs fun _ κ => ?_
      refine S1 rfl (by kernel_rfl) rfl (by exact Blk.cell h1.1 rfl) ?_
      refine Sa rfl rfl ?_
      refine as_nil (κ _ _ ?_)
      refine cw_ret ⟨hDd, _, res_tmp rfl res_nil, M', h3, ?_, fun g hg => (h4 g hg).1⟩
      rw [List.length_map] at h2
      rw [List.take_length] at h2
      exact h2
  · rintro v w' D hB hD ⟨M', h1, h2, h3⟩
    have k := Step.putObj h1.sat hD (by simp) (.deferred none)
    refine ⟨M', h1.trans k (fun b hb h => by have h : b = D := h; omega), h2.step k (fun g hg h => ?_), h3⟩
    have h : g = D := h
    subst h
    obtain ⟨⟨_, hh⟩, _⟩ := h2
    rcases hh with ⟨rfl, _⟩ | ⟨g2, cap, cur, rfl, _, hh, _⟩
    · cases hg
    · cases hg; rw [hD] at hh; cases hh
end Go.Proofs.YtgcgjpfjjgalmaaGreat
/- Pairing heaps, part 1. -/
namespace Go.Proofs.YtgcgjpfjjgalmaaGreat
open Go Go.Eng
theorem p_size_n {w : World} {M : Mem} (hs : Sat M w) :
    Does Tryz.prog 166 #[.agg #[.pointer none]] w (fun v w' => v = .int .i64 (Pr.nil.size : Nat) ∧ Step Nope M w M w') := by
  have hT := Step.refl Nope hs
  refine fn_enter Tryz.func166 rfl (rs := [.tmp 2]) rfl rfl rfl rfl ?_
  refine cw_rs fun _ κ => ?_
  refine as_h rfl (h_boxM hs rfl rfl fun b1 M1 w1 hs1 hb1 e1 => ?_)
  replace hT := hT.then hs1
  refine Sa rfl rfl ?_
  refine as_nil (κ _ _ ?_)
  refine cw_seq fun _ hK2 => ?_
  refine cw_rs fun _ κ => ?_
  refine Sf 0 rfl (by kernel_rfl) rfl ?_
  refine S1 rfl (by kernel_rfl) rfl (by exact BlkR.cell (hs1.sat _ _ _ hb1) rfl) ?_
  refine as_q rfl rfl (q_eqnil (by kernel_rfl) rfl) ?_
  refine as_nil (κ _ _ ?_)
  refine cw_true rfl ?_
  refine cw_rs fun _ κ => ?_
  refine Sa rfl rfl ?_
  refine as_nil (κ _ _ ?_)
  refine cw_ret ?_
  exact ⟨_, (res_tmp rfl res_nil), rfl, hT.forget⟩
theorem p_size_c {w : World} {M : Mem} {x : El} {ks : List Pr} {q : Option Addr} (hs : Sat M w) (h : PRep 251 260 M (.node x ks) q) :
    Does Tryz.prog 166 #[.agg #[.pointer q]] w (fun v w' => v = .int .i64 ((Pr.node x ks).size : Nat) ∧ Step Nope M w M w') := by
  have hT := Step.refl Nope hs
  obtain ⟨b, kq, al, rfl, hb, hc, hk⟩ := prep_node.1 h
  refine fn_enter Tryz.func166 rfl (rs := [.tmp 2]) rfl rfl rfl rfl ?_
  refine cw_rs fun _ κ => ?_
  refine as_h rfl (h_boxM hs rfl rfl fun b1 M1 w1 hs1 hb1 e1 => ?_)
  replace hb := hs1.le _ _ hb
  replace hT := hT.then hs1
  refine Sa rfl rfl ?_
  refine as_nil (κ _ _ ?_)
  refine cw_seq fun _ hK2 => ?_
  refine cw_rs fun _ κ => ?_
  refine Sf 0 rfl (by kernel_rfl) rfl ?_
  refine S1 rfl (by kernel_rfl) rfl (by exact BlkR.cell (hs1.sat _ _ _ hb1) rfl) ?_
  refine as_q rfl rfl (q_eqnil (by kernel_rfl) rfl) ?_
  refine as_nil (κ _ _ ?_)
  refine cw_false rfl ?_
  refine cw_skip ?_
  refine hK2 _ _ ?_
  refine cw_rs fun _ κ => ?_
  refine Sf 0 rfl (by kernel_rfl) rfl ?_
  refine S1 rfl (by kernel_rfl) rfl (by exact BlkR.cell (hs1.sat _ _ _ hb1) rfl) ?_
  refine as_q rfl rfl (q_nilp rfl) ?_
  refine Sf 3 rfl (by kernel_rfl) rfl ?_
  refine S1 rfl (by kernel_rfl) rfl (by exact BlkR.cell (hs1.sat _ _ _ hb) rfl) ?_
  refine Sa rfl rfl ?_
  refine as_nil (κ _ _ ?_)
  refine cw_ret ?_
  exact ⟨_, (res_tmp rfl res_nil), by rw [Pr.size]; rfl, hT.forget⟩
theorem p_size {w : World} {M : Mem} {t : Pr} {q : Option Addr} (hs : Sat M w) (h : PRep 251 260 M t q) : Does Tryz.prog 166 #[.agg #[.pointer q]] w (fun v w' => v = .int .i64 (t.size : Nat) ∧ Step Nope M w M w') := by
  cases t with
  | nil => obtain rfl := prep_nil.1 h; exact p_size_n hs
  | node x ks => exact p_size_c hs h
theorem p_min {w : World} {M : Mem} {x : El} {ks : List Pr} {q : Option Addr} (hs : Sat M w) (h : PRep 251 260 M (.node x ks) q) :
    Does Tryz.prog 163 #[.agg #[.pointer q], .pointer none] w (fun v w' => v = .tuple #[.agg (elc x).toArray, .bool true] ∧ Step Nope M w M w') := by
  have hT := Step.refl Nope hs
  obtain ⟨b, kq, al, rfl, hb, hc, hk⟩ := prep_node.1 h
  refine fn_enter Tryz.func163 rfl (rs := [.cell 4 24, .tmp 5]) rfl rfl rfl rfl ?_
  refine cw_rs fun _ κ => ?_
  refine as_h rfl (h_boxM hs rfl rfl fun b1 M1 w1 hs1 hb1 e1 => ?_)
  replace hb := hs1.le _ _ hb
  replace hT := hT.then hs1
  have hz1 := hs1.size
  have hqar := hT.size
  refine as_h rfl (h_allocO (z := (.agg #[(.int .i64 0), (.int .i64 0)])) hs1.sat (by kernel_rfl) rfl fun br w2 hs2 hor er => ?_)
  replace hb := hs2.le _ _ hb
  replace hb1 := hs2.le _ _ hb1
  replace hT := hT.then hs2
  have hz2 := hs2.size
  have hlr := hor.1.lt
  refine Sa rfl rfl ?_
  refine as_nil (κ _ _ ?_)
  refine cw_seq fun _ hK2 => ?_
  refine cw_rs fun _ κ => ?_
  refine Sf 0 rfl (by kernel_rfl) rfl ?_
  refine S1 rfl (by kernel_rfl) rfl (by exact BlkR.cell (hs2.sat _ _ _ hb1) rfl) ?_
  refine as_q rfl rfl (q_eqnil (by kernel_rfl) rfl) ?_
  refine as_nil (κ _ _ ?_)
  refine cw_false rfl ?_
  refine cw_skip ?_
  refine hK2 _ _ ?_
  refine cw_rs fun _ κ => ?_
  refine Sf 0 rfl (by kernel_rfl) rfl ?_
  refine S1 rfl (by kernel_rfl) rfl (by exact BlkR.cell (hs2.sat _ _ _ hb1) rfl) ?_
  refine as_q rfl rfl (q_nilp rfl) ?_
  refine Sf 0 rfl (by kernel_rfl) rfl ?_
  refine Sc 2 rfl (by kernel_rfl) rfl (by exact BlkR.cells (hs2.sat _ _ _ hb) rfl) ?_
  refine as_h0 (h_store hs2.sat hor rfl rfl rfl (by kernel_rfl) rfl rfl rfl fun w3 hs3 hn3 => ?_)
  clear hor; have hor := hn3; clear hn3
  replace hT := hT.own hs3 (by omega)
  have hz3 := hs3.size
  refine Sa rfl rfl ?_
  refine as_nil (κ _ _ ?_)
  refine cw_ret ?_
  exact ⟨_, (res_cell rfl (loadVar_n (n := 2) (by kernel_rfl) (by exact Blk.cells hor.1 rfl)) (res_tmp rfl res_nil)), rfl, hT.forget⟩
theorem p_meld_a {w : World} {M : Mem} {o : Pr} {qo : Option Addr} (hs : Sat M w) (ho : PRep 251 260 M o qo) :
    Does Tryz.prog 162 #[.agg #[.pointer none], .pointer none, .agg #[.pointer qo]] w (fun v w' => ∃ q M', v = .agg #[.pointer q] ∧ Step Nope M w M' w' ∧ PRep 251 260 M' o q) := by
  have hT := Step.refl Nope hs
  refine fn_enter Tryz.func162 rfl (rs := [.cell 6 79]) rfl rfl rfl rfl ?_
  refine cw_rs fun _ κ => ?_
  have hqah := hT.size
  refine as_h rfl (h_boxO hs rfl rfl fun bh w1 hs1 hoh eh => ?_)
  replace ho := ho.mono hs1.le
  replace hT := hT.then hs1
  have hz1 := hs1.size
  have hlh := hoh.1.lt
  have hqao := hT.size
  refine as_h rfl (h_boxO hs1.sat rfl rfl fun bo w2 hs2 hoo eo => ?_)
  replace ho := ho.mono hs2.le
  replace hoh := hoh.then hs2
  replace hT := hT.then hs2
  have hz2 := hs2.size
  have hlo := hoo.1.lt
  have hqar := hT.size
  refine as_h rfl (h_allocO (z := (.agg #[(.pointer none)])) hs2.sat (by kernel_rfl) rfl fun br w3 hs3 hor er => ?_)
  replace ho := ho.mono hs3.le
  replace hoh := hoh.then hs3
  replace hoo := hoo.then hs3
  replace hT := hT.then hs3
  have hz3 := hs3.size
  have hlr := hor.1.lt
  refine as_nil (κ _ _ ?_)
  refine cw_seq fun _ hK2 => ?_
  refine cw_block ?_
  refine cw_rs fun _ κ => ?_
  refine Sf 0 rfl (by kernel_rfl) rfl ?_
  refine S1 rfl (by kernel_rfl) rfl (by exact Blk.cell hoh.1 rfl) ?_
  refine as_q rfl rfl (q_eqnil (by kernel_rfl) rfl) ?_
  refine Sa rfl rfl ?_
  refine as_nil (κ _ _ ?_)
  refine cw_true rfl ?_
  refine cw_rs fun _ κ => ?_
  refine Sc 1 rfl (by kernel_rfl) rfl (by exact Blk.cells hoo.1 rfl) ?_
  refine as_h0 (h_store hs3.sat hor rfl rfl rfl (by kernel_rfl) rfl rfl rfl fun w4 hs4 hn4 => ?_)
  replace ho := ho.mono hs4.le
  clear hor; have hor := hn4; clear hn4
  replace hT := hT.own hs4 (by omega)
  have hz4 := hs4.size
  refine as_nil (κ _ _ ?_)
  refine cw_ret ?_
  exact ⟨_, (res_cell rfl (loadVar_n (n := 1) (by kernel_rfl) (by exact Blk.cells hor.1 rfl)) res_nil), _, _, rfl, hT, ho⟩
theorem p_meld_b {w : World} {M : Mem} {t : Pr} {a : Addr} (hs : Sat M w) (h : PRep 251 260 M t (some a)) :
    Does Tryz.prog 162 #[.agg #[.pointer (some a)], .pointer none, .agg #[.pointer none]] w (fun v w' => ∃ q M', v = .agg #[.pointer q] ∧ Step Nope M w M' w' ∧ PRep 251 260 M' t q) := by
  have hT := Step.refl Nope hs
  refine fn_enter Tryz.func162 rfl (rs := [.cell 6 79]) rfl rfl rfl rfl ?_
  refine cw_rs fun _ κ => ?_
  have hqah := hT.size
  refine as_h rfl (h_boxO hs rfl rfl fun bh w1 hs1 hoh eh => ?_)
  replace h := h.mono hs1.le
  replace hT := hT.then hs1
  have hz1 := hs1.size
  have hlh := hoh.1.lt
  have hqao := hT.size
  refine as_h rfl (h_boxO hs1.sat rfl rfl fun bo w2 hs2 hoo eo => ?_)
  replace h := h.mono hs2.le
  replace hoh := hoh.then hs2
  replace hT := hT.then hs2
  have hz2 := hs2.size
  have hlo := hoo.1.lt
  have hqar := hT.size
  refine as_h rfl (h_allocO (z := (.agg #[(.pointer none)])) hs2.sat (by kernel_rfl) rfl fun br w3 hs3 hor er => ?_)
  replace h := h.mono hs3.le
  replace hoh := hoh.then hs3
  replace hoo := hoo.then hs3
  replace hT := hT.then hs3
  have hz3 := hs3.size
  have hlr := hor.1.lt
  refine as_nil (κ _ _ ?_)
  refine cw_seq fun _ hK2 => ?_
  refine cw_block ?_
  refine cw_rs fun _ κ => ?_
  refine Sf 0 rfl (by kernel_rfl) rfl ?_
  refine S1 rfl (by kernel_rfl) rfl (by exact Blk.cell hoh.1 rfl) ?_
  refine as_q rfl rfl (q_eqnil (by kernel_rfl) rfl) ?_
  refine Sa rfl rfl ?_
  refine as_nil (κ _ _ ?_)
  refine cw_false rfl ?_
  refine cw_rs fun _ κ => ?_
  refine Sf 0 rfl (by kernel_rfl) rfl ?_
  refine S1 rfl (by kernel_rfl) rfl (by exact Blk.cell hoo.1 rfl) ?_
  refine as_q rfl rfl (q_eqnil (by kernel_rfl) rfl) ?_
  refine Sa rfl rfl ?_
  refine as_nil (κ _ _ ?_)
  refine cw_true rfl ?_
  refine cw_rs fun _ κ => ?_
  refine Sc 1 rfl (by kernel_rfl) rfl (by exact Blk.cells hoh.1 rfl) ?_
  refine as_h0 (h_store hs3.sat hor rfl rfl rfl (by kernel_rfl) rfl rfl rfl fun w4 hs4 hn4 => ?_)
  replace h := h.mono hs4.le
  clear hor; have hor := hn4; clear hn4
  replace hT := hT.own hs4 (by omega)
  have hz4 := hs4.size
  refine as_nil (κ _ _ ?_)
  refine cw_ret ?_
  exact ⟨_, (res_cell rfl (loadVar_n (n := 1) (by kernel_rfl) (by exact Blk.cells hor.1 rfl)) res_nil), _, _, rfl, hT, h⟩
theorem p_meld_c {w : World} {M : Mem} {x y : El} {ks ls : List Pr} {q q2 : Option Addr} (hs : Sat M w) (h : PRep 251 260 M (.node x ks) q) (h2 : PRep 251 260 M (.node y ls) q2) (hz : (Pr.node x ks).size + (Pr.node y ls).size ≤ 1000000000) :
    Does Tryz.prog 162 #[.agg #[.pointer q], .pointer none, .agg #[.pointer q2]] w (fun v w' => ∃ q M', v = .agg #[.pointer q] ∧ Step Nope M w M' w' ∧ PRep 251 260 M' ((Pr.node x ks).meld (.node y ls)) q) := by
  have hT := Step.refl Nope hs
  obtain ⟨b, kq, al, rfl, hb, hc, hk⟩ := prep_node.1 h
  obtain ⟨b2, kq2, al2, rfl, hb2, hc2, hk2⟩ := prep_node.1 h2
  have hz0 : (1 + Pr.sizes ks) + (1 + Pr.sizes ls) ≤ 1000000000 := by simpa only [Pr.size] using hz
  refine fn_enter Tryz.func162 rfl (rs := [.cell 6 79]) rfl rfl rfl rfl ?_
  refine cw_rs fun _ κ => ?_
  have hqah := hT.size
  refine as_h rfl (h_boxO hs rfl rfl fun bh w1 hs1 hoh eh => ?_)
  replace hb := hs1.le _ _ hb
  replace hc := hc.mono hs1.le
  replace hk := hk.mono hs1.le
  replace hb2 := hs1.le _ _ hb2
  replace hc2 := hc2.mono hs1.le
  replace hk2 := hk2.mono hs1.le
  replace hT := hT.then hs1
  have hz1 := hs1.size
  have hlh := hoh.1.lt
  have hqao := hT.size
  refine as_h rfl (h_boxO hs1.sat rfl rfl fun bo w2 hs2 hoo eo => ?_)
  replace hb := hs2.le _ _ hb
  replace hc := hc.mono hs2.le
  replace hk := hk.mono hs2.le
  replace hb2 := hs2.le _ _ hb2
  replace hc2 := hc2.mono hs2.le
  replace hk2 := hk2.mono hs2.le
  replace hoh := hoh.then hs2
  replace hT := hT.then hs2
  have hz2 := hs2.size
  have hlo := hoo.1.lt
  have hqar := hT.size
  refine as_h rfl (h_allocO (z := (.agg #[(.pointer none)])) hs2.sat (by kernel_rfl) rfl fun br w3 hs3 hor er => ?_)
  replace hb := hs3.le _ _ hb
  replace hc := hc.mono hs3.le
  replace hk := hk.mono hs3.le
  replace hb2 := hs3.le _ _ hb2
  replace hc2 := hc2.mono hs3.le
  replace hk2 := hk2.mono hs3.le
  replace hoh := hoh.then hs3
  replace hoo := hoo.then hs3
  replace hT := hT.then hs3
  have hz3 := hs3.size
  have hlr := hor.1.lt
  refine as_nil (κ _ _ ?_)
  refine cw_seq fun _ hK2 => ?_
  refine cw_block ?_
  refine cw_rs fun _ κ => ?_
  refine Sf 0 rfl (by kernel_rfl) rfl ?_
  refine S1 rfl (by kernel_rfl) rfl (by exact Blk.cell hoh.1 rfl) ?_
  refine as_q rfl rfl (q_eqnil (by kernel_rfl) rfl) ?_
  refine Sa rfl rfl ?_
  refine as_nil (κ _ _ ?_)
  refine cw_false rfl ?_
  refine cw_rs fun _ κ => ?_
  refine Sf 0 rfl (by kernel_rfl) rfl ?_
  refine S1 rfl (by kernel_rfl) rfl (by exact Blk.cell hoo.1 rfl) ?_
  refine as_q rfl rfl (q_eqnil (by kernel_rfl) rfl) ?_
  refine Sa rfl rfl ?_
  refine as_nil (κ _ _ ?_)
  refine cw_false rfl ?_
  refine cw_skip ?_
  refine hK2 _ _ ?_
  refine cw_seq fun _ hK5 => ?_
  refine cw_dr (by kernel_rfl) fun _ κ => ?_
  have hs4 := Step.drew hs3.sat
  have hz4 := hs4.size
  replace hb := hs4.le _ _ hb
  replace hc := hc.mono hs4.le
  replace hk := hk.mono hs4.le
  replace hb2 := hs4.le _ _ hb2
  replace hc2 := hc2.mono hs4.le
  replace hk2 := hk2.mono hs4.le
  replace hoh := hoh.then hs4
  replace hoo := hoo.then hs4
  replace hor := hor.then hs4
  replace hT := hT.then hs4
  refine Dm 0 1 rfl (by kernel_rfl) rfl ?_
  refine Df 1 3 0 rfl (by kernel_rfl) (by kernel_rfl) rfl ?_
  refine Dl1 2 7 rfl (by kernel_rfl) (by kernel_rfl) rfl (by exact Blk.cell hoo.1 rfl) ?_
  refine Dq 3 15 rfl (by kernel_rfl) (fun _ => (q_nilp rfl)) ?_
  refine Df 4 31 0 rfl (by kernel_rfl) (by kernel_rfl) rfl ?_
  refine Dlc 5 63 2 rfl (by kernel_rfl) (by kernel_rfl) rfl (by exact BlkR.cells (hs4.sat _ _ _ hb2) rfl) ?_
  refine Df 6 127 0 rfl (by kernel_rfl) (by kernel_rfl) rfl ?_
  refine Dl1 7 255 rfl (by kernel_rfl) (by kernel_rfl) rfl (by exact Blk.cell hoh.1 rfl) ?_
  refine Dq 8 511 rfl (by kernel_rfl) (fun _ => (q_nilp rfl)) ?_
  refine Df 9 1023 0 rfl (by kernel_rfl) (by kernel_rfl) rfl ?_
  refine Dlc 10 2047 2 rfl (by kernel_rfl) (by kernel_rfl) rfl (by exact BlkR.cells (hs4.sat _ _ _ hb) rfl) ?_
  refine Dh 11 4095 rfl (by kernel_rfl) (keep_sift (bs := [T,F,T,F]) (by kernel_rfl)) (h_call (by kernel_rfl) rfl ?_)
  refine (m_less (a := y) (b := x) hs4.sat).mono ?_
  rintro _ w5 ⟨rfl, hs5⟩
  replace hb := hs5.le _ _ hb
  replace hc := hc.mono hs5.le
  replace hk := hk.mono hs5.le
  replace hb2 := hs5.le _ _ hb2
  replace hc2 := hc2.mono hs5.le
  replace hk2 := hk2.mono hs5.le
  replace hoh := hoh.then hs5
  replace hoo := hoo.then hs5
  replace hor := hor.then hs5
  replace hT := hT.then hs5
  have hz5 := hs5.size
  refine ⟨(by repeat' first | exact trivial | exact BlkR.cell (hs5.sat _ _ _ hb) rfl | exact BlkR.cells (hs5.sat _ _ _ hb) rfl | exact BlkR.cell (hs5.sat _ _ _ hb2) rfl | exact BlkR.cells (hs5.sat _ _ _ hb2) rfl | exact Blk.cell hoh.1 rfl | exact Blk.cells hoh.1 rfl | exact Blk.cell hoo.1 rfl | exact Blk.cells hoo.1 rfl | exact Blk.cell hor.1 rfl | exact Blk.cells hor.1 rfl | assumption | refine all_keep ?_ | refine And.intro ?_ ?_), ?_⟩
  refine Dd (by kernel_rfl) (κ _ _ ?_)
  refine cw_cond rfl (fun hC2 => ?_) (fun hC2 => ?_)
  · skip
    have hc2_ := hC2
    refine cw_region fun _ κ => ?_
    refine Sc 1 rfl (by kernel_rfl) rfl (by exact Blk.cells hoo.1 rfl) ?_
    refine Sc 1 rfl (by kernel_rfl) rfl (by exact Blk.cells hoh.1 rfl) ?_
    refine as_h0 (h_store hs5.sat hoh rfl rfl rfl (by kernel_rfl) rfl rfl rfl fun w6 hs6 hn6 => ?_)
    replace hb := hs6.le _ _ hb
    replace hc := hc.mono hs6.le
    replace hk := hk.mono hs6.le
    replace hb2 := hs6.le _ _ hb2
    replace hc2 := hc2.mono hs6.le
    replace hk2 := hk2.mono hs6.le
    replace hoo := hoo.step hs6 (fun h => by have h : _ = _ := h; omega)
    replace hor := hor.step hs6 (fun h => by have h : _ = _ := h; omega)
    clear hoh; have hoh := hn6; clear hn6
    replace hT := hT.own hs6 (by omega)
    have hz6 := hs6.size
    refine as_h0 (h_store hs6.sat hoo rfl rfl rfl (by kernel_rfl) rfl rfl rfl fun w7 hs7 hn7 => ?_)
    replace hb := hs7.le _ _ hb
    replace hc := hc.mono hs7.le
    replace hk := hk.mono hs7.le
    replace hb2 := hs7.le _ _ hb2
    replace hc2 := hc2.mono hs7.le
    replace hk2 := hk2.mono hs7.le
    replace hoh := hoh.step hs7 (fun h => by have h : _ = _ := h; omega)
    replace hor := hor.step hs7 (fun h => by have h : _ = _ := h; omega)
    clear hoo; have hoo := hn7; clear hn7
    replace hT := hT.own hs7 (by omega)
    have hz7 := hs7.size
    refine as_nil (κ _ _ ?_)
    refine hK5 _ _ ?_
    refine cw_rs fun _ κ => ?_
    refine Sm rfl rfl ?_
    refine as_h rfl (h_call (by kernel_rfl) rfl ?_)
    refine (m_made hs7.sat).mono ?_
    rintro _ w8 hs8
    replace hb := hs8.le _ _ hb
    replace hc := hc.mono hs8.le
    replace hk := hk.mono hs8.le
    replace hb2 := hs8.le _ _ hb2
    replace hc2 := hc2.mono hs8.le
    replace hk2 := hk2.mono hs8.le
    replace hoh := hoh.then hs8
    replace hoo := hoo.then hs8
    replace hor := hor.then hs8
    replace hT := hT.then hs8
    have hz8 := hs8.size
    refine as_nil (κ _ _ ?_)
    refine cw_dr (by kernel_rfl) fun _ κ => ?_
    have hs9 := Step.drew hs8.sat
    have hz9 := hs9.size
    replace hb := hs9.le _ _ hb
    replace hc := hc.mono hs9.le
    replace hk := hk.mono hs9.le
    replace hb2 := hs9.le _ _ hb2
    replace hc2 := hc2.mono hs9.le
    replace hk2 := hk2.mono hs9.le
    replace hoh := hoh.then hs9
    replace hoo := hoo.then hs9
    replace hor := hor.then hs9
    replace hT := hT.then hs9
    refine Df 0 1 0 rfl (by kernel_rfl) (by kernel_rfl) rfl ?_
    refine Dl1 1 3 rfl (by kernel_rfl) (by kernel_rfl) rfl (by exact Blk.cell hoh.1 rfl) ?_
    refine Dq 2 7 rfl (by kernel_rfl) (fun _ => (q_nilp rfl)) ?_
    refine Df 3 15 0 rfl (by kernel_rfl) (by kernel_rfl) rfl ?_
    refine Dlc 4 31 2 rfl (by kernel_rfl) (by kernel_rfl) rfl (by exact BlkR.cells (hs9.sat _ _ _ hb2) rfl) ?_
    refine Df 5 63 0 rfl (by kernel_rfl) (by kernel_rfl) rfl ?_
    refine Dl1 6 127 rfl (by kernel_rfl) (by kernel_rfl) rfl (by exact Blk.cell hoh.1 rfl) ?_
    refine Dq 7 255 rfl (by kernel_rfl) (fun _ => (q_nilp rfl)) ?_
    refine Df 8 511 2 rfl (by kernel_rfl) (by kernel_rfl) rfl ?_
    refine Dlc 9 1023 1 rfl (by kernel_rfl) (by kernel_rfl) rfl (by exact BlkR.cells (hs9.sat _ _ _ hb2) rfl) ?_
    refine Dlc 10 2047 1 rfl (by kernel_rfl) (by kernel_rfl) rfl (by exact Blk.cells hoo.1 rfl) ?_
    refine Df 12 6143 0 rfl (by kernel_rfl) (by kernel_rfl) rfl ?_
    refine Dl1 13 14335 rfl (by kernel_rfl) (by kernel_rfl) rfl (by exact Blk.cell hoh.1 rfl) ?_
    refine Dq 14 30719 rfl (by kernel_rfl) (fun _ => (q_nilp rfl)) ?_
    refine Df 15 63487 3 rfl (by kernel_rfl) (by kernel_rfl) rfl ?_
    refine Dl1 16 129023 rfl (by kernel_rfl) (by kernel_rfl) rfl (by exact BlkR.cell (hs9.sat _ _ _ hb2) rfl) ?_
    refine Df 17 260095 0 rfl (by kernel_rfl) (by kernel_rfl) rfl ?_
    refine Dl1 18 522239 rfl (by kernel_rfl) (by kernel_rfl) rfl (by exact Blk.cell hoo.1 rfl) ?_
    refine Dq 19 1046527 rfl (by kernel_rfl) (fun _ => (q_nilp rfl)) ?_
    refine Df 20 2095103 3 rfl (by kernel_rfl) (by kernel_rfl) rfl ?_
    refine Dl1 21 4192255 rfl (by kernel_rfl) (by kernel_rfl) rfl (by exact BlkR.cell (hs9.sat _ _ _ hb) rfl) ?_
    refine Dq 22 8386559 rfl (by kernel_rfl) (fun _ => (q_addx rfl rfl (by omega) (by omega))) ?_
    refine Dh 11 8388607 rfl (by kernel_rfl) (keep_sift (bs := [F,F,F,F,T,T,F,F,F]) (by kernel_rfl)) (h_call (by kernel_rfl) rfl ?_)
    refine (cp_push hs9.sat hc2 (by have := hk2.small; simp only [Pr.size] at hz; omega)).mono ?_
    rintro _ w10 ⟨qn, Mn, rfl, hs10, hn⟩
    replace hb := hs10.le _ _ hb
    replace hc := hc.mono hs10.le
    replace hk := hk.mono hs10.le
    replace hb2 := hs10.le _ _ hb2
    replace hc2 := hc2.mono hs10.le
    replace hk2 := hk2.mono hs10.le
    replace hoh := hoh.then hs10
    replace hoo := hoo.then hs10
    replace hor := hor.then hs10
    replace hT := hT.then hs10
    have hz10 := hs10.size
    refine ⟨(by repeat' first | exact trivial | exact BlkR.cell (hs10.sat _ _ _ hb) rfl | exact BlkR.cells (hs10.sat _ _ _ hb) rfl | exact BlkR.cell (hs10.sat _ _ _ hb2) rfl | exact BlkR.cells (hs10.sat _ _ _ hb2) rfl | exact Blk.cell hoh.1 rfl | exact Blk.cells hoh.1 rfl | exact Blk.cell hoo.1 rfl | exact Blk.cells hoo.1 rfl | exact Blk.cell hor.1 rfl | exact Blk.cells hor.1 rfl | assumption | refine all_keep ?_ | refine And.intro ?_ ?_), ?_⟩
    refine Dq 23 16777215 rfl (by kernel_rfl) (fun _ => (q_build (zs := [(.int .i64 0), (.int .i64 0), (.pointer none), (.int .i64 0)]) (places := [(0, 2), (2, 1), (3, 1)]) (cs := [_, _, _, _]) (by kernel_rfl) (by kernel_rfl) rfl rfl)) ?_
    refine Dh 24 33554431 rfl (by kernel_rfl) (keep_sift (bs := [F,F,F,F,F,F,F]) (by kernel_rfl)) (h_boxM hs10.sat rfl rfl fun b11 M11 w11 hs11 hb11 e11 => ?_)
    replace hb := hs11.le _ _ hb
    replace hc := hc.mono hs11.le
    replace hk := hk.mono hs11.le
    replace hb2 := hs11.le _ _ hb2
    replace hc2 := hc2.mono hs11.le
    replace hk2 := hk2.mono hs11.le
    replace hoh := hoh.then hs11
    replace hoo := hoo.then hs11
    replace hor := hor.then hs11
    replace hn := hn.mono hs11.le
    replace hT := hT.then hs11
    have hz11 := hs11.size
    refine ⟨(by repeat' first | exact trivial | exact BlkR.cell (hs11.sat _ _ _ hb) rfl | exact BlkR.cells (hs11.sat _ _ _ hb) rfl | exact BlkR.cell (hs11.sat _ _ _ hb2) rfl | exact BlkR.cells (hs11.sat _ _ _ hb2) rfl | exact Blk.cell hoh.1 rfl | exact Blk.cells hoh.1 rfl | exact Blk.cell hoo.1 rfl | exact Blk.cells hoo.1 rfl | exact Blk.cell hor.1 rfl | exact Blk.cells hor.1 rfl | exact BlkR.cell (hs11.sat _ _ _ hb11) rfl | exact BlkR.cells (hs11.sat _ _ _ hb11) rfl | assumption | refine all_keep ?_ | refine And.intro ?_ ?_), ?_⟩
    refine Dq 25 67108863 rfl (by kernel_rfl) (fun _ => (q_build (zs := [(.pointer none)]) (places := [(0, 1)]) (cs := [_]) (by kernel_rfl) (by kernel_rfl) rfl rfl)) ?_
    refine Dh0 26 134217727 rfl (by kernel_rfl) (keep_sift (bs := [T,T,T,T,T,T,T]) (by kernel_rfl)) (h_store hs11.sat hor rfl rfl rfl (by kernel_rfl) rfl rfl rfl fun w12 hs12 hn12 => ?_)
    replace hb := hs12.le _ _ hb
    replace hc := hc.mono hs12.le
    replace hk := hk.mono hs12.le
    replace hb2 := hs12.le _ _ hb2
    replace hc2 := hc2.mono hs12.le
    replace hk2 := hk2.mono hs12.le
    replace hoh := hoh.step hs12 (fun h => by have h : _ = _ := h; omega)
    replace hoo := hoo.step hs12 (fun h => by have h : _ = _ := h; omega)
    replace hn := hn.mono hs12.le
    replace hb11 := hs12.le _ _ hb11
    clear hor; have hor := hn12; clear hn12
    replace hT := hT.own hs12 (by omega)
    have hz12 := hs12.size
    refine ⟨trivial, ?_⟩
    refine Dd (by kernel_rfl) (κ _ _ ?_)
    refine cw_ret ?_
    refine ⟨_, (res_cell rfl (loadVar_n (n := 1) (by kernel_rfl) (by exact Blk.cells hor.1 rfl)) res_nil), _, _, rfl, hT, ?_⟩
    rw [Pr.meld, if_pos hc2_]
    exact prep_node.2 ⟨_, _, _, rfl, hb11.trans (cell4 (by simp only [Pr.sizes, Pr.size]; omega)), hn, preps_cons.2 ⟨by simp, _, _, rfl, (prep_node.2 ⟨_, _, _, rfl, hb, hc, hk⟩), hk2⟩⟩
  · skip
    have hc2_ := hC2
    refine cw_skip ?_
    refine hK5 _ _ ?_
    refine cw_rs fun _ κ => ?_
    refine Sm rfl rfl ?_
    refine as_h rfl (h_call (by kernel_rfl) rfl ?_)
    refine (m_made hs5.sat).mono ?_
    rintro _ w13 hs13
    replace hb := hs13.le _ _ hb
    replace hc := hc.mono hs13.le
    replace hk := hk.mono hs13.le
    replace hb2 := hs13.le _ _ hb2
    replace hc2 := hc2.mono hs13.le
    replace hk2 := hk2.mono hs13.le
    replace hoh := hoh.then hs13
    replace hoo := hoo.then hs13
    replace hor := hor.then hs13
    replace hT := hT.then hs13
    have hz13 := hs13.size
    refine as_nil (κ _ _ ?_)
    refine cw_dr (by kernel_rfl) fun _ κ => ?_
    have hs14 := Step.drew hs13.sat
    have hz14 := hs14.size
    replace hb := hs14.le _ _ hb
    replace hc := hc.mono hs14.le
    replace hk := hk.mono hs14.le
    replace hb2 := hs14.le _ _ hb2
    replace hc2 := hc2.mono hs14.le
    replace hk2 := hk2.mono hs14.le
    replace hoh := hoh.then hs14
    replace hoo := hoo.then hs14
    replace hor := hor.then hs14
    replace hT := hT.then hs14
    refine Df 0 1 0 rfl (by kernel_rfl) (by kernel_rfl) rfl ?_
    refine Dl1 1 3 rfl (by kernel_rfl) (by kernel_rfl) rfl (by exact Blk.cell hoh.1 rfl) ?_
    refine Dq 2 7 rfl (by kernel_rfl) (fun _ => (q_nilp rfl)) ?_
    refine Df 3 15 0 rfl (by kernel_rfl) (by kernel_rfl) rfl ?_
    refine Dlc 4 31 2 rfl (by kernel_rfl) (by kernel_rfl) rfl (by exact BlkR.cells (hs14.sat _ _ _ hb) rfl) ?_
    refine Df 5 63 0 rfl (by kernel_rfl) (by kernel_rfl) rfl ?_
    refine Dl1 6 127 rfl (by kernel_rfl) (by kernel_rfl) rfl (by exact Blk.cell hoh.1 rfl) ?_
    refine Dq 7 255 rfl (by kernel_rfl) (fun _ => (q_nilp rfl)) ?_
    refine Df 8 511 2 rfl (by kernel_rfl) (by kernel_rfl) rfl ?_
    refine Dlc 9 1023 1 rfl (by kernel_rfl) (by kernel_rfl) rfl (by exact BlkR.cells (hs14.sat _ _ _ hb) rfl) ?_
    refine Dlc 10 2047 1 rfl (by kernel_rfl) (by kernel_rfl) rfl (by exact Blk.cells hoo.1 rfl) ?_
    refine Df 12 6143 0 rfl (by kernel_rfl) (by kernel_rfl) rfl ?_
    refine Dl1 13 14335 rfl (by kernel_rfl) (by kernel_rfl) rfl (by exact Blk.cell hoh.1 rfl) ?_
    refine Dq 14 30719 rfl (by kernel_rfl) (fun _ => (q_nilp rfl)) ?_
    refine Df 15 63487 3 rfl (by kernel_rfl) (by kernel_rfl) rfl ?_
    refine Dl1 16 129023 rfl (by kernel_rfl) (by kernel_rfl) rfl (by exact BlkR.cell (hs14.sat _ _ _ hb) rfl) ?_
    refine Df 17 260095 0 rfl (by kernel_rfl) (by kernel_rfl) rfl ?_
    refine Dl1 18 522239 rfl (by kernel_rfl) (by kernel_rfl) rfl (by exact Blk.cell hoo.1 rfl) ?_
    refine Dq 19 1046527 rfl (by kernel_rfl) (fun _ => (q_nilp rfl)) ?_
    refine Df 20 2095103 3 rfl (by kernel_rfl) (by kernel_rfl) rfl ?_
    refine Dl1 21 4192255 rfl (by kernel_rfl) (by kernel_rfl) rfl (by exact BlkR.cell (hs14.sat _ _ _ hb2) rfl) ?_
    refine Dq 22 8386559 rfl (by kernel_rfl) (fun _ => (q_addx rfl rfl (by omega) (by omega))) ?_
    refine Dh 11 8388607 rfl (by kernel_rfl) (keep_sift (bs := [F,F,F,F,T,T,F,F,F]) (by kernel_rfl)) (h_call (by kernel_rfl) rfl ?_)
    refine (cp_push hs14.sat hc (by have := hk.small; simp only [Pr.size] at hz; omega)).mono ?_
    rintro _ w15 ⟨qn, Mn, rfl, hs15, hn⟩
    replace hb := hs15.le _ _ hb
    replace hk := hk.mono hs15.le
    replace hb2 := hs15.le _ _ hb2
    replace hc2 := hc2.mono hs15.le
    replace hk2 := hk2.mono hs15.le
    replace hoh := hoh.then hs15
    replace hoo := hoo.then hs15
    replace hor := hor.then hs15
    replace hT := hT.then hs15
    have hz15 := hs15.size
    refine ⟨(by repeat' first | exact trivial | exact BlkR.cell (hs15.sat _ _ _ hb) rfl | exact BlkR.cells (hs15.sat _ _ _ hb) rfl | exact BlkR.cell (hs15.sat _ _ _ hb2) rfl | exact BlkR.cells (hs15.sat _ _ _ hb2) rfl | exact Blk.cell hoh.1 rfl | exact Blk.cells hoh.1 rfl | exact Blk.cell hoo.1 rfl | exact Blk.cells hoo.1 rfl | exact Blk.cell hor.1 rfl | exact Blk.cells hor.1 rfl | assumption | refine all_keep ?_ | refine And.intro ?_ ?_), ?_⟩
    refine Dq 23 16777215 rfl (by kernel_rfl) (fun _ => (q_build (zs := [(.int .i64 0), (.int .i64 0), (.pointer none), (.int .i64 0)]) (places := [(0, 2), (2, 1), (3, 1)]) (cs := [_, _, _, _]) (by kernel_rfl) (by kernel_rfl) rfl rfl)) ?_
    refine Dh 24 33554431 rfl (by kernel_rfl) (keep_sift (bs := [F,F,F,F,F,F,F]) (by kernel_rfl)) (h_boxM hs15.sat rfl rfl fun b16 M16 w16 hs16 hb16 e16 => ?_)
    replace hb := hs16.le _ _ hb
    replace hk := hk.mono hs16.le
    replace hb2 := hs16.le _ _ hb2
    replace hc2 := hc2.mono hs16.le
    replace hk2 := hk2.mono hs16.le
    replace hoh := hoh.then hs16
    replace hoo := hoo.then hs16
    replace hor := hor.then hs16
    replace hn := hn.mono hs16.le
    replace hT := hT.then hs16
    have hz16 := hs16.size
    refine ⟨(by repeat' first | exact trivial | exact BlkR.cell (hs16.sat _ _ _ hb) rfl | exact BlkR.cells (hs16.sat _ _ _ hb) rfl | exact BlkR.cell (hs16.sat _ _ _ hb2) rfl | exact BlkR.cells (hs16.sat _ _ _ hb2) rfl | exact Blk.cell hoh.1 rfl | exact Blk.cells hoh.1 rfl | exact Blk.cell hoo.1 rfl | exact Blk.cells hoo.1 rfl | exact Blk.cell hor.1 rfl | exact Blk.cells hor.1 rfl | exact BlkR.cell (hs16.sat _ _ _ hb16) rfl | exact BlkR.cells (hs16.sat _ _ _ hb16) rfl | assumption | refine all_keep ?_ | refine And.intro ?_ ?_), ?_⟩
    refine Dq 25 67108863 rfl (by kernel_rfl) (fun _ => (q_build (zs := [(.pointer none)]) (places := [(0, 1)]) (cs := [_]) (by kernel_rfl) (by kernel_rfl) rfl rfl)) ?_
    refine Dh0 26 134217727 rfl (by kernel_rfl) (keep_sift (bs := [T,T,T,T,T,T,T]) (by kernel_rfl)) (h_store hs16.sat hor rfl rfl rfl (by kernel_rfl) rfl rfl rfl fun w17 hs17 hn17 => ?_)
    replace hk := hk.mono hs17.le
    replace hb2 := hs17.le _ _ hb2
    replace hc2 := hc2.mono hs17.le
    replace hk2 := hk2.mono hs17.le
    replace hn := hn.mono hs17.le
    replace hb16 := hs17.le _ _ hb16
    clear hor; have hor := hn17; clear hn17
    replace hT := hT.own hs17 (by omega)
    have hz17 := hs17.size
    refine ⟨trivial, ?_⟩
    refine Dd (by kernel_rfl) (κ _ _ ?_)
    refine cw_ret ?_
    refine ⟨_, (res_cell rfl (loadVar_n (n := 1) (by kernel_rfl) (by exact Blk.cells hor.1 rfl)) res_nil), _, _, rfl, hT, ?_⟩
    rw [Pr.meld, if_neg (by rw [hc2_]; decide)]
    exact prep_node.2 ⟨_, _, _, rfl, hb16.trans (cell4 (by simp only [Pr.sizes, Pr.size]; omega)), hn, preps_cons.2 ⟨by simp, _, _, rfl, (prep_node.2 ⟨_, _, _, rfl, hb2, hc2, hk2⟩), hk⟩⟩
theorem p_meld {w : World} {M : Mem} {t o : Pr} {q q2 : Option Addr} (hs : Sat M w) (h : PRep 251 260 M t q) (h2 : PRep 251 260 M o q2) (hz : t.size + o.size ≤ 1000000000) :
    Does Tryz.prog 162 #[.agg #[.pointer q], .pointer none, .agg #[.pointer q2]] w (fun v w' => ∃ q M', v = .agg #[.pointer q] ∧ Step Nope M w M' w' ∧ PRep 251 260 M' (t.meld o) q) := by
  cases t with
  | nil => obtain rfl := prep_nil.1 h; rw [show Pr.nil.meld o = o from rfl]; exact p_meld_a hs h2
  | node x ks =>
    cases o with
    | nil =>
      obtain rfl := prep_nil.1 h2
      obtain ⟨b, _, _, rfl, _⟩ := prep_node.1 h
      exact p_meld_b hs h
    | node y ls => exact p_meld_c hs h h2 hz
theorem p_insert {w : World} {M : Mem} {x : El} {t : Pr} {q : Option Addr} (hs : Sat M w) (h : PRep 251 260 M t q) (hz : t.size < 1000000000) :
    Does Tryz.prog 161 #[.agg #[.pointer q], .pointer none, .agg (elc x).toArray] w (fun v w' => ∃ q M', v = .agg #[.pointer q] ∧ Step Nope M w M' w' ∧ PRep 251 260 M' (t.insert x) q) := by
  have hT := Step.refl Nope hs
  refine fn_enter Tryz.func161 rfl (rs := [.cell 6 79]) rfl rfl rfl rfl ?_
  refine cw_rs fun _ κ => ?_
  refine as_h rfl (h_boxM hs rfl rfl fun b1 M1 w1 hs1 hb1 e1 => ?_)
  replace h := h.mono hs1.le
  replace hT := hT.then hs1
  have hz1 := hs1.size
  refine as_h rfl (h_boxM hs1.sat rfl rfl fun b2 M2 w2 hs2 hb2 e2 => ?_)
  replace h := h.mono hs2.le
  replace hb1 := hs2.le _ _ hb1
  replace hT := hT.then hs2
  have hz2 := hs2.size
  have hqar := hT.size
  refine as_h rfl (h_allocO (z := (.agg #[(.pointer none)])) hs2.sat (by kernel_rfl) rfl fun br w3 hs3 hor er => ?_)
  replace h := h.mono hs3.le
  replace hb1 := hs3.le _ _ hb1
  replace hb2 := hs3.le _ _ hb2
  replace hT := hT.then hs3
  have hz3 := hs3.size
  have hlr := hor.1.lt
  refine as_nil (κ _ _ ?_)
  refine cw_rs fun _ κ => ?_
  refine Sm rfl rfl ?_
  refine as_h rfl (h_call (by kernel_rfl) rfl ?_)
  refine (m_made hs3.sat).mono ?_
  rintro _ w4 hs4
  replace h := h.mono hs4.le
  replace hb1 := hs4.le _ _ hb1
  replace hb2 := hs4.le _ _ hb2
  replace hor := hor.then hs4
  replace hT := hT.then hs4
  have hz4 := hs4.size
  refine as_nil (κ _ _ ?_)
  refine cw_rs fun _ κ => ?_
  refine Sc 2 rfl (by kernel_rfl) rfl (by exact BlkR.cells (hs4.sat _ _ _ hb2) rfl) ?_
  refine as_q rfl rfl (q_build (zs := [(.int .i64 0), (.int .i64 0), (.pointer none), (.int .i64 0)]) (places := [(0, 2), (2, 1), (3, 1)]) (cs := [_, _, _, _]) (by kernel_rfl) (by kernel_rfl) rfl rfl) ?_
  refine as_h rfl (h_boxM hs4.sat rfl rfl fun b5 M5 w5 hs5 hb5 e5 => ?_)
  replace h := h.mono hs5.le
  replace hb1 := hs5.le _ _ hb1
  replace hor := hor.then hs5
  replace hT := hT.then hs5
  have hz5 := hs5.size
  refine as_q rfl rfl (q_build (zs := [(.pointer none)]) (places := [(0, 1)]) (cs := [_]) (by kernel_rfl) (by kernel_rfl) rfl rfl) ?_
  refine Sm rfl rfl ?_
  refine Sc 1 rfl (by kernel_rfl) rfl (by exact BlkR.cells (hs5.sat _ _ _ hb1) rfl) ?_
  refine as_h rfl (h_call (by kernel_rfl) rfl ?_)
  refine (p_meld (t := .node x []) hs5.sat (prep_node.2 ⟨_, none, [], rfl, hb5, rfl, preps_nil.2 rfl⟩) h (by simp only [Pr.size, Pr.sizes]; omega)).mono ?_
  rintro _ w6 ⟨qn, Mn, rfl, hs6, hn⟩
  replace h := h.mono hs6.le
  replace hor := hor.then hs6
  replace hT := hT.then hs6
  have hz6 := hs6.size
  refine as_h0 (h_store hs6.sat hor rfl rfl rfl (by kernel_rfl) rfl rfl rfl fun w7 hs7 hn7 => ?_)
  replace h := h.mono hs7.le
  replace hn := hn.mono hs7.le
  clear hor; have hor := hn7; clear hn7
  replace hT := hT.own hs7 (by omega)
  have hz7 := hs7.size
  refine as_nil (κ _ _ ?_)
  refine cw_ret ?_
  exact ⟨_, (res_cell rfl (loadVar_n (n := 1) (by kernel_rfl) (by exact Blk.cells hor.1 rfl)) res_nil), _, _, rfl, hT, hn⟩
end Go.Proofs.YtgcgjpfjjgalmaaGreat
/- Heaps of the kinds, as heaps of any kind, part 1. -/
namespace Go.Proofs.YtgcgjpfjjgalmaaGreat
open Go Go.Eng
theorem wa_insert {w : World} {M : Mem} {x : El} {t : Lft} {q : Option Addr} (hs : Sat M w) (h : LRep 171 M t (.pointer q)) (hz : t.size < 1000000000) :
    Does Tryz.prog 90 #[.agg #[.pointer q], .pointer none, .agg (elc x).toArray] w (fun v w' => ∃ q M', v = .iface 69 (.agg #[.pointer q]) ∧ Step Nope M w M' w' ∧ LRep 171 M' (Lft.insert x t) (.pointer q)) := by
  have hT := Step.refl Nope hs
  refine fn_enter Tryz.func90 rfl (rs := [.tmp 6]) rfl rfl rfl rfl ?_
  refine cw_rs fun _ κ => ?_
  refine as_h rfl (h_boxM hs rfl rfl fun b1 M1 w1 hs1 hb1 e1 => ?_)
  replace h := h.mono hs1.le
  replace hT := hT.then hs1
  refine as_h rfl (h_boxM hs1.sat rfl rfl fun b2 M2 w2 hs2 hb2 e2 => ?_)
  replace h := h.mono hs2.le
  replace hb1 := hs2.le _ _ hb1
  replace hT := hT.then hs2
  refine Sa rfl rfl ?_
  refine as_nil (κ _ _ ?_)
  refine cw_rs fun _ κ => ?_
  refine Sf 0 rfl (by kernel_rfl) rfl ?_
  refine Sc 1 rfl (by kernel_rfl) rfl (by exact BlkR.cells (hs2.sat _ _ _ hb1) rfl) ?_
  refine as_q rfl rfl (q_iface (by kernel_rfl) rfl) ?_
  refine Sm rfl rfl ?_
  refine Sc 2 rfl (by kernel_rfl) rfl (by exact BlkR.cells (hs2.sat _ _ _ hb2) rfl) ?_
  refine as_h rfl (h_invoke (f := 278) (r := .agg #[.pointer q]) (by kernel_rfl) rfl rfl (by kernel_rfl) ?_)
  refine (l_insert (x := x) hs2.sat h hz).mono ?_
  rintro _ w3 ⟨pn, Mn, rfl, hs3, hn⟩
  obtain ⟨qn, rfl⟩ := hn.ptr
  replace h := h.mono hs3.le
  replace hT := hT.then hs3
  refine as_q rfl rfl (q_build (zs := [(.pointer none)]) (places := [(0, 1)]) (cs := [_]) (by kernel_rfl) (by kernel_rfl) rfl rfl) ?_
  refine as_q rfl rfl (q_iface (by kernel_rfl) rfl) ?_
  refine Sa rfl rfl ?_
  refine as_nil (κ _ _ ?_)
  refine cw_ret ?_
  exact ⟨_, (res_tmp rfl res_nil), _, _, rfl, hT, hn⟩
theorem wa_meld {w : World} {M : Mem} {t u : Lft} {q q2 : Option Addr} (hs : Sat M w) (h : LRep 171 M t (.pointer q)) (h2 : LRep 171 M u (.pointer q2)) (hz : t.size + u.size ≤ 1000000000) :
    Does Tryz.prog 91 #[.agg #[.pointer q], .pointer none, .iface 69 (.agg #[.pointer q2])] w (fun v w' => ∃ q M', v = .iface 69 (.agg #[.pointer q]) ∧ Step Nope M w M' w' ∧ LRep 171 M' (t.meld u) (.pointer q)) := by
  have hT := Step.refl Nope hs
  refine fn_enter Tryz.func91 rfl (rs := [.tmp 6]) rfl rfl rfl rfl ?_
  refine cw_rs fun _ κ => ?_
  refine as_h rfl (h_boxM hs rfl rfl fun b1 M1 w1 hs1 hb1 e1 => ?_)
  replace h := h.mono hs1.le
  replace h2 := h2.mono hs1.le
  replace hT := hT.then hs1
  have hz1 := hs1.size
  refine Sa rfl rfl ?_
  refine as_nil (κ _ _ ?_)
  refine cw_rs fun _ κ => ?_
  refine Sm rfl rfl ?_
  refine as_q rfl rfl (q_isT (by kernel_rfl) rfl) ?_
  refine Sm rfl rfl ?_
  refine Se rfl rfl rfl ?_
  refine Se rfl rfl rfl ?_
  have hqao := hT.size
  refine as_h rfl (h_allocO (z := (.agg #[(.pointer none)])) hs1.sat (by kernel_rfl) rfl fun bo w2 hs2 hoo eo => ?_)
  replace h := h.mono hs2.le
  replace h2 := h2.mono hs2.le
  replace hb1 := hs2.le _ _ hb1
  replace hT := hT.then hs2
  have hz2 := hs2.size
  have hlo := hoo.1.lt
  refine as_h0 (h_store hs2.sat hoo rfl rfl rfl (by kernel_rfl) rfl rfl rfl fun w3 hs3 hn3 => ?_)
  replace h := h.mono hs3.le
  replace h2 := h2.mono hs3.le
  replace hb1 := hs3.le _ _ hb1
  clear hoo; have hoo := hn3; clear hn3
  replace hT := hT.own hs3 (by omega)
  have hz3 := hs3.size
  refine Sa rfl rfl ?_
  refine as_nil (κ _ _ ?_)
  refine cw_seq fun _ hK3 => ?_
  refine cw_rs fun _ κ => ?_
  refine Sm rfl rfl ?_
  refine as_q rfl rfl (q_not rfl) ?_
  refine as_nil (κ _ _ ?_)
  refine cw_false rfl ?_
  refine cw_skip ?_
  refine hK3 _ _ ?_
  refine cw_rs fun _ κ => ?_
  refine Sf 0 rfl (by kernel_rfl) rfl ?_
  refine Sc 1 rfl (by kernel_rfl) rfl (by exact BlkR.cells (hs3.sat _ _ _ hb1) rfl) ?_
  refine as_q rfl rfl (q_iface (by kernel_rfl) rfl) ?_
  refine Sm rfl rfl ?_
  refine Sf 0 rfl (by kernel_rfl) rfl ?_
  refine Sc 1 rfl (by kernel_rfl) rfl (by exact Blk.cells hoo.1 rfl) ?_
  refine as_h rfl (h_invoke (f := 279) (r := .agg #[.pointer q]) (by kernel_rfl) rfl rfl (by kernel_rfl) ?_)
  refine (l_meld hs3.sat h h2 hz).mono ?_
  rintro _ w4 ⟨pn, Mn, rfl, hs4, hn⟩
  obtain ⟨qn, rfl⟩ := hn.ptr
  replace h := h.mono hs4.le
  replace hT := hT.then hs4
  have hz4 := hs4.size
  refine as_q rfl rfl (q_build (zs := [(.pointer none)]) (places := [(0, 1)]) (cs := [_]) (by kernel_rfl) (by kernel_rfl) rfl rfl) ?_
  refine as_q rfl rfl (q_iface (by kernel_rfl) rfl) ?_
  refine Sa rfl rfl ?_
  refine as_nil (κ _ _ ?_)
  refine cw_ret ?_
  exact ⟨_, (res_tmp rfl res_nil), _, _, rfl, hT, hn⟩
theorem wa_size {w : World} {M : Mem} {t : Lft} {q : Option Addr} (hs : Sat M w) (h : LRep 171 M t (.pointer q)) :
    Does Tryz.prog 95 #[.agg #[.pointer q]] w (fun v w' => v = .int .i64 (t.size : Nat) ∧ Step Nope M w M w') := by
  have hT := Step.refl Nope hs
  refine fn_enter Tryz.func95 rfl (rs := [.tmp 2]) rfl rfl rfl rfl ?_
  refine cw_rs fun _ κ => ?_
  refine as_h rfl (h_boxM hs rfl rfl fun b1 M1 w1 hs1 hb1 e1 => ?_)
  replace h := h.mono hs1.le
  replace hT := hT.then hs1
  refine Sa rfl rfl ?_
  refine as_nil (κ _ _ ?_)
  refine cw_rs fun _ κ => ?_
  refine Sf 0 rfl (by kernel_rfl) rfl ?_
  refine Sc 1 rfl (by kernel_rfl) rfl (by exact BlkR.cells (hs1.sat _ _ _ hb1) rfl) ?_
  refine as_q rfl rfl (q_iface (by kernel_rfl) rfl) ?_
  refine as_h rfl (h_invoke (f := 282) (r := .agg #[.pointer q]) (by kernel_rfl) rfl rfl (by kernel_rfl) ?_)
  refine (l_size hs1.sat h).mono ?_
  rintro _ w2 ⟨rfl, hs2⟩
  replace h := h.mono hs2.le
  replace hT := hT.then hs2
  refine Sa rfl rfl ?_
  refine as_nil (κ _ _ ?_)
  refine cw_ret ?_
  exact ⟨_, (res_tmp rfl res_nil), rfl, hT.forget⟩
theorem wa_min {w : World} {M : Mem} {x : El} {l r : Lft} {q : Option Addr} (hs : Sat M w) (h : LRep 171 M (Lft.node x l r) (.pointer q)) :
    Does Tryz.prog 92 #[.agg #[.pointer q], .pointer none] w (fun v w' => v = .tuple #[.agg (elc x).toArray, .bool true] ∧ Step Nope M w M w') := by
  have hT := Step.refl Nope hs
  refine fn_enter Tryz.func92 rfl (rs := [.cell 4 24, .tmp 5]) rfl rfl rfl rfl ?_
  refine cw_rs fun _ κ => ?_
  refine as_h rfl (h_boxM hs rfl rfl fun b1 M1 w1 hs1 hb1 e1 => ?_)
  replace h := h.mono hs1.le
  replace hT := hT.then hs1
  have hz1 := hs1.size
  have hqar := hT.size
  refine as_h rfl (h_allocO (z := (.agg #[(.int .i64 0), (.int .i64 0)])) hs1.sat (by kernel_rfl) rfl fun br w2 hs2 hor er => ?_)
  replace h := h.mono hs2.le
  replace hb1 := hs2.le _ _ hb1
  replace hT := hT.then hs2
  have hz2 := hs2.size
  have hlr := hor.1.lt
  refine Sa rfl rfl ?_
  refine as_nil (κ _ _ ?_)
  refine cw_rs fun _ κ => ?_
  refine Sf 0 rfl (by kernel_rfl) rfl ?_
  refine Sc 1 rfl (by kernel_rfl) rfl (by exact BlkR.cells (hs2.sat _ _ _ hb1) rfl) ?_
  refine as_q rfl rfl (q_iface (by kernel_rfl) rfl) ?_
  refine Sm rfl rfl ?_
  refine as_h rfl (h_invoke (f := 280) (r := .agg #[.pointer q]) (by kernel_rfl) rfl rfl (by kernel_rfl) ?_)
  refine (l_min hs2.sat h).mono ?_
  rintro _ w3 ⟨rfl, hs3⟩
  replace h := h.mono hs3.le
  replace hor := hor.then hs3
  replace hT := hT.then hs3
  have hz3 := hs3.size
  refine Se rfl rfl rfl ?_
  refine Se rfl rfl rfl ?_
  refine as_h0 (h_store hs3.sat hor rfl rfl rfl (by kernel_rfl) rfl rfl rfl fun w4 hs4 hn4 => ?_)
  replace h := h.mono hs4.le
  clear hor; have hor := hn4; clear hn4
  replace hT := hT.own hs4 (by omega)
  have hz4 := hs4.size
  refine Sa rfl rfl ?_
  refine as_nil (κ _ _ ?_)
  refine cw_ret ?_
  exact ⟨_, (res_cell rfl (loadVar_n (n := 2) (by kernel_rfl) (by exact Blk.cells hor.1 rfl)) (res_tmp rfl res_nil)), rfl, hT.forget⟩
theorem wb_insert {w : World} {M : Mem} {x : El} {t : List (RT El)} {q : Option Addr} (hs : Sat M w) (h : FRep 197 220 2 EncE M t q) (hz : RT.sizes t < 1000000000) :
    Does Tryz.prog 155 #[.agg #[.pointer q], .pointer none, .agg (elc x).toArray] w (fun v w' => ∃ q M', v = .iface 76 (.agg #[.pointer q]) ∧ Step Nope M w M' w' ∧ FRep 197 220 2 EncE M' (bput ltE (RT.leaf x) t) q) := by
  have hT := Step.refl Nope hs
  refine fn_enter Tryz.func155 rfl (rs := [.tmp 6]) rfl rfl rfl rfl ?_
  refine cw_rs fun _ κ => ?_
  refine as_h rfl (h_boxM hs rfl rfl fun b1 M1 w1 hs1 hb1 e1 => ?_)
  replace h := h.mono' EncE.mono hs1.le
  replace hT := hT.then hs1
  refine as_h rfl (h_boxM hs1.sat rfl rfl fun b2 M2 w2 hs2 hb2 e2 => ?_)
  replace h := h.mono' EncE.mono hs2.le
  replace hb1 := hs2.le _ _ hb1
  replace hT := hT.then hs2
  refine Sa rfl rfl ?_
  refine as_nil (κ _ _ ?_)
  refine cw_rs fun _ κ => ?_
  refine Sf 0 rfl (by kernel_rfl) rfl ?_
  refine Sc 1 rfl (by kernel_rfl) rfl (by exact BlkR.cells (hs2.sat _ _ _ hb1) rfl) ?_
  refine as_q rfl rfl (q_iface (by kernel_rfl) rfl) ?_
  refine Sm rfl rfl ?_
  refine Sc 2 rfl (by kernel_rfl) rfl (by exact BlkR.cells (hs2.sat _ _ _ hb2) rfl) ?_
  refine as_h rfl (h_invoke (f := 111) (r := .agg #[.pointer q]) (by kernel_rfl) rfl rfl (by kernel_rfl) ?_)
  refine (b_insert (x := x) hs2.sat h hz).mono ?_
  rintro _ w3 ⟨qn, Mn, rfl, hs3, hn⟩
  replace h := h.mono' EncE.mono hs3.le
  replace hT := hT.then hs3
  refine as_q rfl rfl (q_build (zs := [(.pointer none)]) (places := [(0, 1)]) (cs := [_]) (by kernel_rfl) (by kernel_rfl) rfl rfl) ?_
  refine as_q rfl rfl (q_iface (by kernel_rfl) rfl) ?_
  refine Sa rfl rfl ?_
  refine as_nil (κ _ _ ?_)
  refine cw_ret ?_
  exact ⟨_, (res_tmp rfl res_nil), _, _, rfl, hT, hn⟩
theorem wb_meld {w : World} {M : Mem} {t u : List (RT El)} {q q2 : Option Addr} (hs : Sat M w) (h : FRep 197 220 2 EncE M t q) (h2 : FRep 197 220 2 EncE M u q2) (hz : RT.sizes t + RT.sizes u ≤ 1000000000) :
    Does Tryz.prog 156 #[.agg #[.pointer q], .pointer none, .iface 76 (.agg #[.pointer q2])] w (fun v w' => ∃ q M', v = .iface 76 (.agg #[.pointer q]) ∧ Step Nope M w M' w' ∧ FRep 197 220 2 EncE M' (bmeld ltE t u) q) := by
  have hT := Step.refl Nope hs
  refine fn_enter Tryz.func156 rfl (rs := [.tmp 6]) rfl rfl rfl rfl ?_
  refine cw_rs fun _ κ => ?_
  refine as_h rfl (h_boxM hs rfl rfl fun b1 M1 w1 hs1 hb1 e1 => ?_)
  replace h := h.mono' EncE.mono hs1.le
  replace h2 := h2.mono' EncE.mono hs1.le
  replace hT := hT.then hs1
  have hz1 := hs1.size
  refine Sa rfl rfl ?_
  refine as_nil (κ _ _ ?_)
  refine cw_rs fun _ κ => ?_
  refine Sm rfl rfl ?_
  refine as_q rfl rfl (q_isT (by kernel_rfl) rfl) ?_
  refine Sm rfl rfl ?_
  refine Se rfl rfl rfl ?_
  refine Se rfl rfl rfl ?_
  have hqao := hT.size
  refine as_h rfl (h_allocO (z := (.agg #[(.pointer none)])) hs1.sat (by kernel_rfl) rfl fun bo w2 hs2 hoo eo => ?_)
  replace h := h.mono' EncE.mono hs2.le
  replace h2 := h2.mono' EncE.mono hs2.le
  replace hb1 := hs2.le _ _ hb1
  replace hT := hT.then hs2
  have hz2 := hs2.size
  have hlo := hoo.1.lt
  refine as_h0 (h_store hs2.sat hoo rfl rfl rfl (by kernel_rfl) rfl rfl rfl fun w3 hs3 hn3 => ?_)
  replace h := h.mono' EncE.mono hs3.le
  replace h2 := h2.mono' EncE.mono hs3.le
  replace hb1 := hs3.le _ _ hb1
  clear hoo; have hoo := hn3; clear hn3
  replace hT := hT.own hs3 (by omega)
  have hz3 := hs3.size
  refine Sa rfl rfl ?_
  refine as_nil (κ _ _ ?_)
  refine cw_seq fun _ hK3 => ?_
  refine cw_rs fun _ κ => ?_
  refine Sm rfl rfl ?_
  refine as_q rfl rfl (q_not rfl) ?_
  refine as_nil (κ _ _ ?_)
  refine cw_false rfl ?_
  refine cw_skip ?_
  refine hK3 _ _ ?_
  refine cw_rs fun _ κ => ?_
  refine Sf 0 rfl (by kernel_rfl) rfl ?_
  refine Sc 1 rfl (by kernel_rfl) rfl (by exact BlkR.cells (hs3.sat _ _ _ hb1) rfl) ?_
  refine as_q rfl rfl (q_iface (by kernel_rfl) rfl) ?_
  refine Sm rfl rfl ?_
  refine Sf 0 rfl (by kernel_rfl) rfl ?_
  refine Sc 1 rfl (by kernel_rfl) rfl (by exact Blk.cells hoo.1 rfl) ?_
  refine as_h rfl (h_invoke (f := 112) (r := .agg #[.pointer q]) (by kernel_rfl) rfl rfl (by kernel_rfl) ?_)
  refine (b_meld hs3.sat h h2 hz).mono ?_
  rintro _ w4 ⟨qn, Mn, rfl, hs4, hn⟩
  replace h := h.mono' EncE.mono hs4.le
  replace hT := hT.then hs4
  have hz4 := hs4.size
  refine as_q rfl rfl (q_build (zs := [(.pointer none)]) (places := [(0, 1)]) (cs := [_]) (by kernel_rfl) (by kernel_rfl) rfl rfl) ?_
  refine as_q rfl rfl (q_iface (by kernel_rfl) rfl) ?_
  refine Sa rfl rfl ?_
  refine as_nil (κ _ _ ?_)
  refine cw_ret ?_
  exact ⟨_, (res_tmp rfl res_nil), _, _, rfl, hT, hn⟩
theorem wb_size {w : World} {M : Mem} {t : List (RT El)} {q : Option Addr} (hs : Sat M w) (h : FRep 197 220 2 EncE M t q) (hz : RT.sizes t ≤ 1000000000) :
    Does Tryz.prog 160 #[.agg #[.pointer q]] w (fun v w' => v = .int .i64 (RT.sizes t : Nat) ∧ Step Nope M w M w') := by
  have hT := Step.refl Nope hs
  refine fn_enter Tryz.func160 rfl (rs := [.tmp 2]) rfl rfl rfl rfl ?_
  refine cw_rs fun _ κ => ?_
  refine as_h rfl (h_boxM hs rfl rfl fun b1 M1 w1 hs1 hb1 e1 => ?_)
  replace h := h.mono' EncE.mono hs1.le
  replace hT := hT.then hs1
  refine Sa rfl rfl ?_
  refine as_nil (κ _ _ ?_)
  refine cw_rs fun _ κ => ?_
  refine Sf 0 rfl (by kernel_rfl) rfl ?_
  refine Sc 1 rfl (by kernel_rfl) rfl (by exact BlkR.cells (hs1.sat _ _ _ hb1) rfl) ?_
  refine as_q rfl rfl (q_iface (by kernel_rfl) rfl) ?_
  refine as_h rfl (h_invoke (f := 116) (r := .agg #[.pointer q]) (by kernel_rfl) rfl rfl (by kernel_rfl) ?_)
  refine (b_size hs1.sat h hz).mono ?_
  rintro _ w2 ⟨rfl, hs2⟩
  replace h := h.mono' EncE.mono hs2.le
  replace hT := hT.then hs2
  refine Sa rfl rfl ?_
  refine as_nil (κ _ _ ?_)
  refine cw_ret ?_
  exact ⟨_, (res_tmp rfl res_nil), rfl, hT.forget⟩
theorem wb_min {w : World} {M : Mem} {t : List (RT El)} {k : RT El} {q : Option Addr} (hs : Sat M w) (h : FRep 197 220 2 EncE M t q) (ht : t[leastN ltE (t.map RT.root) (t.length - 1)]? = some k) (hz : RT.sizes t ≤ 1000000000) :
    Does Tryz.prog 157 #[.agg #[.pointer q], .pointer none] w (fun v w' => v = .tuple #[.agg (elc k.root).toArray, .bool true] ∧ Step Nope M w M w') := by
  have hT := Step.refl Nope hs
  refine fn_enter Tryz.func157 rfl (rs := [.cell 4 24, .tmp 5]) rfl rfl rfl rfl ?_
  refine cw_rs fun _ κ => ?_
  refine as_h rfl (h_boxM hs rfl rfl fun b1 M1 w1 hs1 hb1 e1 => ?_)
  replace h := h.mono' EncE.mono hs1.le
  replace hT := hT.then hs1
  have hz1 := hs1.size
  have hqar := hT.size
  refine as_h rfl (h_allocO (z := (.agg #[(.int .i64 0), (.int .i64 0)])) hs1.sat (by kernel_rfl) rfl fun br w2 hs2 hor er => ?_)
  replace h := h.mono' EncE.mono hs2.le
  replace hb1 := hs2.le _ _ hb1
  replace hT := hT.then hs2
  have hz2 := hs2.size
  have hlr := hor.1.lt
  refine Sa rfl rfl ?_
  refine as_nil (κ _ _ ?_)
  refine cw_rs fun _ κ => ?_
  refine Sf 0 rfl (by kernel_rfl) rfl ?_
  refine Sc 1 rfl (by kernel_rfl) rfl (by exact BlkR.cells (hs2.sat _ _ _ hb1) rfl) ?_
  refine as_q rfl rfl (q_iface (by kernel_rfl) rfl) ?_
  refine Sm rfl rfl ?_
  refine as_h rfl (h_invoke (f := 113) (r := .agg #[.pointer q]) (by kernel_rfl) rfl rfl (by kernel_rfl) ?_)
  refine (b_min hs2.sat h ht hz).mono ?_
  rintro _ w3 ⟨rfl, hs3⟩
  replace h := h.mono' EncE.mono hs3.le
  replace hor := hor.then hs3
  replace hT := hT.then hs3
  have hz3 := hs3.size
  refine Se rfl rfl rfl ?_
  refine Se rfl rfl rfl ?_
  refine as_h0 (h_store hs3.sat hor rfl rfl rfl (by kernel_rfl) rfl rfl rfl fun w4 hs4 hn4 => ?_)
  replace h := h.mono' EncE.mono hs4.le
  clear hor; have hor := hn4; clear hn4
  replace hT := hT.own hs4 (by omega)
  have hz4 := hs4.size
  refine Sa rfl rfl ?_
  refine as_nil (κ _ _ ?_)
  refine cw_ret ?_
  exact ⟨_, (res_cell rfl (loadVar_n (n := 2) (by kernel_rfl) (by exact Blk.cells hor.1 rfl)) (res_tmp rfl res_nil)), rfl, hT.forget⟩
theorem wc_insert {w : World} {M : Mem} {x : El} {t : Pr} {q : Option Addr} (hs : Sat M w) (h : PRep 251 260 M t q) (hz : t.size < 1000000000) :
    Does Tryz.prog 176 #[.agg #[.pointer q], .pointer none, .agg (elc x).toArray] w (fun v w' => ∃ q M', v = .iface 81 (.agg #[.pointer q]) ∧ Step Nope M w M' w' ∧ PRep 251 260 M' (Pr.insert x t) q) := by
  have hT := Step.refl Nope hs
  refine fn_enter Tryz.func176 rfl (rs := [.tmp 6]) rfl rfl rfl rfl ?_
  refine cw_rs fun _ κ => ?_
  refine as_h rfl (h_boxM hs rfl rfl fun b1 M1 w1 hs1 hb1 e1 => ?_)
  replace h := h.mono hs1.le
  replace hT := hT.then hs1
  refine as_h rfl (h_boxM hs1.sat rfl rfl fun b2 M2 w2 hs2 hb2 e2 => ?_)
  replace h := h.mono hs2.le
  replace hb1 := hs2.le _ _ hb1
  replace hT := hT.then hs2
  refine Sa rfl rfl ?_
  refine as_nil (κ _ _ ?_)
  refine cw_rs fun _ κ => ?_
  refine Sf 0 rfl (by kernel_rfl) rfl ?_
  refine Sc 1 rfl (by kernel_rfl) rfl (by exact BlkR.cells (hs2.sat _ _ _ hb1) rfl) ?_
  refine as_q rfl rfl (q_iface (by kernel_rfl) rfl) ?_
  refine Sm rfl rfl ?_
  refine Sc 2 rfl (by kernel_rfl) rfl (by exact BlkR.cells (hs2.sat _ _ _ hb2) rfl) ?_
  refine as_h rfl (h_invoke (f := 161) (r := .agg #[.pointer q]) (by kernel_rfl) rfl rfl (by kernel_rfl) ?_)
  refine (p_insert (x := x) hs2.sat h hz).mono ?_
  rintro _ w3 ⟨qn, Mn, rfl, hs3, hn⟩
  replace h := h.mono hs3.le
  replace hT := hT.then hs3
  refine as_q rfl rfl (q_build (zs := [(.pointer none)]) (places := [(0, 1)]) (cs := [_]) (by kernel_rfl) (by kernel_rfl) rfl rfl) ?_
  refine as_q rfl rfl (q_iface (by kernel_rfl) rfl) ?_
  refine Sa rfl rfl ?_
  refine as_nil (κ _ _ ?_)
  refine cw_ret ?_
  exact ⟨_, (res_tmp rfl res_nil), _, _, rfl, hT, hn⟩
theorem wc_meld {w : World} {M : Mem} {t u : Pr} {q q2 : Option Addr} (hs : Sat M w) (h : PRep 251 260 M t q) (h2 : PRep 251 260 M u q2) (hz : t.size + u.size ≤ 1000000000) :
    Does Tryz.prog 177 #[.agg #[.pointer q], .pointer none, .iface 81 (.agg #[.pointer q2])] w (fun v w' => ∃ q M', v = .iface 81 (.agg #[.pointer q]) ∧ Step Nope M w M' w' ∧ PRep 251 260 M' (t.meld u) q) := by
  have hT := Step.refl Nope hs
  refine fn_enter Tryz.func177 rfl (rs := [.tmp 6]) rfl rfl rfl rfl ?_
  refine cw_rs fun _ κ => ?_
  refine as_h rfl (h_boxM hs rfl rfl fun b1 M1 w1 hs1 hb1 e1 => ?_)
  replace h := h.mono hs1.le
  replace h2 := h2.mono hs1.le
  replace hT := hT.then hs1
  have hz1 := hs1.size
  refine Sa rfl rfl ?_
  refine as_nil (κ _ _ ?_)
  refine cw_rs fun _ κ => ?_
  refine Sm rfl rfl ?_
  refine as_q rfl rfl (q_isT (by kernel_rfl) rfl) ?_
  refine Sm rfl rfl ?_
  refine Se rfl rfl rfl ?_
  refine Se rfl rfl rfl ?_
  have hqao := hT.size
  refine as_h rfl (h_allocO (z := (.agg #[(.pointer none)])) hs1.sat (by kernel_rfl) rfl fun bo w2 hs2 hoo eo => ?_)
  replace h := h.mono hs2.le
  replace h2 := h2.mono hs2.le
  replace hb1 := hs2.le _ _ hb1
  replace hT := hT.then hs2
  have hz2 := hs2.size
  have hlo := hoo.1.lt
  refine as_h0 (h_store hs2.sat hoo rfl rfl rfl (by kernel_rfl) rfl rfl rfl fun w3 hs3 hn3 => ?_)
  replace h := h.mono hs3.le
  replace h2 := h2.mono hs3.le
  replace hb1 := hs3.le _ _ hb1
  clear hoo; have hoo := hn3; clear hn3
  replace hT := hT.own hs3 (by omega)
  have hz3 := hs3.size
  refine Sa rfl rfl ?_
  refine as_nil (κ _ _ ?_)
  refine cw_seq fun _ hK3 => ?_
  refine cw_rs fun _ κ => ?_
  refine Sm rfl rfl ?_
  refine as_q rfl rfl (q_not rfl) ?_
  refine as_nil (κ _ _ ?_)
  refine cw_false rfl ?_
  refine cw_skip ?_
  refine hK3 _ _ ?_
  refine cw_rs fun _ κ => ?_
  refine Sf 0 rfl (by kernel_rfl) rfl ?_
  refine Sc 1 rfl (by kernel_rfl) rfl (by exact BlkR.cells (hs3.sat _ _ _ hb1) rfl) ?_
  refine as_q rfl rfl (q_iface (by kernel_rfl) rfl) ?_
  refine Sm rfl rfl ?_
  refine Sf 0 rfl (by kernel_rfl) rfl ?_
  refine Sc 1 rfl (by kernel_rfl) rfl (by exact Blk.cells hoo.1 rfl) ?_
  refine as_h rfl (h_invoke (f := 162) (r := .agg #[.pointer q]) (by kernel_rfl) rfl rfl (by kernel_rfl) ?_)
  refine (p_meld hs3.sat h h2 hz).mono ?_
  rintro _ w4 ⟨qn, Mn, rfl, hs4, hn⟩
  replace h := h.mono hs4.le
  replace hT := hT.then hs4
  have hz4 := hs4.size
  refine as_q rfl rfl (q_build (zs := [(.pointer none)]) (places := [(0, 1)]) (cs := [_]) (by kernel_rfl) (by kernel_rfl) rfl rfl) ?_
  refine as_q rfl rfl (q_iface (by kernel_rfl) rfl) ?_
  refine Sa rfl rfl ?_
  refine as_nil (κ _ _ ?_)
  refine cw_ret ?_
  exact ⟨_, (res_tmp rfl res_nil), _, _, rfl, hT, hn⟩
theorem wc_size {w : World} {M : Mem} {t : Pr} {q : Option Addr} (hs : Sat M w) (h : PRep 251 260 M t q) :
    Does Tryz.prog 181 #[.agg #[.pointer q]] w (fun v w' => v = .int .i64 (t.size : Nat) ∧ Step Nope M w M w') := by
  have hT := Step.refl Nope hs
  refine fn_enter Tryz.func181 rfl (rs := [.tmp 2]) rfl rfl rfl rfl ?_
  refine cw_rs fun _ κ => ?_
  refine as_h rfl (h_boxM hs rfl rfl fun b1 M1 w1 hs1 hb1 e1 => ?_)
  replace h := h.mono hs1.le
  replace hT := hT.then hs1
  refine Sa rfl rfl ?_
  refine as_nil (κ _ _ ?_)
  refine cw_rs fun _ κ => ?_
  refine Sf 0 rfl (by kernel_rfl) rfl ?_
  refine Sc 1 rfl (by kernel_rfl) rfl (by exact BlkR.cells (hs1.sat _ _ _ hb1) rfl) ?_
  refine as_q rfl rfl (q_iface (by kernel_rfl) rfl) ?_
  refine as_h rfl (h_invoke (f := 166) (r := .agg #[.pointer q]) (by kernel_rfl) rfl rfl (by kernel_rfl) ?_)
  refine (p_size hs1.sat h).mono ?_
  rintro _ w2 ⟨rfl, hs2⟩
  replace h := h.mono hs2.le
  replace hT := hT.then hs2
  refine Sa rfl rfl ?_
  refine as_nil (κ _ _ ?_)
  refine cw_ret ?_
  exact ⟨_, (res_tmp rfl res_nil), rfl, hT.forget⟩
theorem wc_min {w : World} {M : Mem} {x : El} {ks : List Pr} {q : Option Addr} (hs : Sat M w) (h : PRep 251 260 M (Pr.node x ks) q) :
    Does Tryz.prog 178 #[.agg #[.pointer q], .pointer none] w (fun v w' => v = .tuple #[.agg (elc x).toArray, .bool true] ∧ Step Nope M w M w') := by
  have hT := Step.refl Nope hs
  refine fn_enter Tryz.func178 rfl (rs := [.cell 4 24, .tmp 5]) rfl rfl rfl rfl ?_
  refine cw_rs fun _ κ => ?_
  refine as_h rfl (h_boxM hs rfl rfl fun b1 M1 w1 hs1 hb1 e1 => ?_)
  replace h := h.mono hs1.le
  replace hT := hT.then hs1
  have hz1 := hs1.size
  have hqar := hT.size
  refine as_h rfl (h_allocO (z := (.agg #[(.int .i64 0), (.int .i64 0)])) hs1.sat (by kernel_rfl) rfl fun br w2 hs2 hor er => ?_)
  replace h := h.mono hs2.le
  replace hb1 := hs2.le _ _ hb1
  replace hT := hT.then hs2
  have hz2 := hs2.size
  have hlr := hor.1.lt
  refine Sa rfl rfl ?_
  refine as_nil (κ _ _ ?_)
  refine cw_rs fun _ κ => ?_
  refine Sf 0 rfl (by kernel_rfl) rfl ?_
  refine Sc 1 rfl (by kernel_rfl) rfl (by exact BlkR.cells (hs2.sat _ _ _ hb1) rfl) ?_
  refine as_q rfl rfl (q_iface (by kernel_rfl) rfl) ?_
  refine Sm rfl rfl ?_
  refine as_h rfl (h_invoke (f := 163) (r := .agg #[.pointer q]) (by kernel_rfl) rfl rfl (by kernel_rfl) ?_)
  refine (p_min hs2.sat h).mono ?_
  rintro _ w3 ⟨rfl, hs3⟩
  replace h := h.mono hs3.le
  replace hor := hor.then hs3
  replace hT := hT.then hs3
  have hz3 := hs3.size
  refine Se rfl rfl rfl ?_
  refine Se rfl rfl rfl ?_
  refine as_h0 (h_store hs3.sat hor rfl rfl rfl (by kernel_rfl) rfl rfl rfl fun w4 hs4 hn4 => ?_)
  replace h := h.mono hs4.le
  clear hor; have hor := hn4; clear hn4
  replace hT := hT.own hs4 (by omega)
  have hz4 := hs4.size
  refine Sa rfl rfl ?_
  refine as_nil (κ _ _ ?_)
  refine cw_ret ?_
  exact ⟨_, (res_cell rfl (loadVar_n (n := 2) (by kernel_rfl) (by exact Blk.cells hor.1 rfl)) (res_tmp rfl res_nil)), rfl, hT.forget⟩
theorem wd_insert {w : World} {M : Mem} {x : El} {t : List (RT El)} {q : Option Addr} (hs : Sat M w) (h : FRep 197 220 2 EncE M t q) (hz : RT.sizes t < 1000000000) :
    Does Tryz.prog 197 #[.agg #[.pointer q], .pointer none, .agg (elc x).toArray] w (fun v w' => ∃ q M', v = .iface 85 (.agg #[.pointer q]) ∧ Step Nope M w M' w' ∧ FRep 197 220 2 EncE M' (sinsert ltE x t) q) := by
  have hT := Step.refl Nope hs
  refine fn_enter Tryz.func197 rfl (rs := [.tmp 6]) rfl rfl rfl rfl ?_
  refine cw_rs fun _ κ => ?_
  refine as_h rfl (h_boxM hs rfl rfl fun b1 M1 w1 hs1 hb1 e1 => ?_)
  replace h := h.mono' EncE.mono hs1.le
  replace hT := hT.then hs1
  refine as_h rfl (h_boxM hs1.sat rfl rfl fun b2 M2 w2 hs2 hb2 e2 => ?_)
  replace h := h.mono' EncE.mono hs2.le
  replace hb1 := hs2.le _ _ hb1
  replace hT := hT.then hs2
  refine Sa rfl rfl ?_
  refine as_nil (κ _ _ ?_)
  refine cw_rs fun _ κ => ?_
  refine Sf 0 rfl (by kernel_rfl) rfl ?_
  refine Sc 1 rfl (by kernel_rfl) rfl (by exact BlkR.cells (hs2.sat _ _ _ hb1) rfl) ?_
  refine as_q rfl rfl (q_iface (by kernel_rfl) rfl) ?_
  refine Sm rfl rfl ?_
  refine Sc 2 rfl (by kernel_rfl) rfl (by exact BlkR.cells (hs2.sat _ _ _ hb2) rfl) ?_
  refine as_h rfl (h_invoke (f := 182) (r := .agg #[.pointer q]) (by kernel_rfl) rfl rfl (by kernel_rfl) ?_)
  refine (se_insert (x := x) hs2.sat h hz).mono ?_
  rintro _ w3 ⟨qn, Mn, rfl, hs3, hn⟩
  replace h := h.mono' EncE.mono hs3.le
  replace hT := hT.then hs3
  refine as_q rfl rfl (q_build (zs := [(.pointer none)]) (places := [(0, 1)]) (cs := [_]) (by kernel_rfl) (by kernel_rfl) rfl rfl) ?_
  refine as_q rfl rfl (q_iface (by kernel_rfl) rfl) ?_
  refine Sa rfl rfl ?_
  refine as_nil (κ _ _ ?_)
  refine cw_ret ?_
  exact ⟨_, (res_tmp rfl res_nil), _, _, rfl, hT, hn⟩
theorem wd_meld {w : World} {M : Mem} {t u : List (RT El)} {q q2 : Option Addr} (hs : Sat M w) (h : FRep 197 220 2 EncE M t q) (h2 : FRep 197 220 2 EncE M u q2) (hz : RT.sizes t + RT.sizes u ≤ 1000000000) :
    Does Tryz.prog 198 #[.agg #[.pointer q], .pointer none, .iface 85 (.agg #[.pointer q2])] w (fun v w' => ∃ q M', v = .iface 85 (.agg #[.pointer q]) ∧ Step Nope M w M' w' ∧ FRep 197 220 2 EncE M' (smeld ltE t u) q) := by
  have hT := Step.refl Nope hs
  refine fn_enter Tryz.func198 rfl (rs := [.tmp 6]) rfl rfl rfl rfl ?_
  refine cw_rs fun _ κ => ?_
  refine as_h rfl (h_boxM hs rfl rfl fun b1 M1 w1 hs1 hb1 e1 => ?_)
  replace h := h.mono' EncE.mono hs1.le
  replace h2 := h2.mono' EncE.mono hs1.le
  replace hT := hT.then hs1
  have hz1 := hs1.size
  refine Sa rfl rfl ?_
  refine as_nil (κ _ _ ?_)
  refine cw_rs fun _ κ => ?_
  refine Sm rfl rfl ?_
  refine as_q rfl rfl (q_isT (by kernel_rfl) rfl) ?_
  refine Sm rfl rfl ?_
  refine Se rfl rfl rfl ?_
  refine Se rfl rfl rfl ?_
  have hqao := hT.size
  refine as_h rfl (h_allocO (z := (.agg #[(.pointer none)])) hs1.sat (by kernel_rfl) rfl fun bo w2 hs2 hoo eo => ?_)
  replace h := h.mono' EncE.mono hs2.le
  replace h2 := h2.mono' EncE.mono hs2.le
  replace hb1 := hs2.le _ _ hb1
  replace hT := hT.then hs2
  have hz2 := hs2.size
  have hlo := hoo.1.lt
  refine as_h0 (h_store hs2.sat hoo rfl rfl rfl (by kernel_rfl) rfl rfl rfl fun w3 hs3 hn3 => ?_)
  replace h := h.mono' EncE.mono hs3.le
  replace h2 := h2.mono' EncE.mono hs3.le
  replace hb1 := hs3.le _ _ hb1
  clear hoo; have hoo := hn3; clear hn3
  replace hT := hT.own hs3 (by omega)
  have hz3 := hs3.size
  refine Sa rfl rfl ?_
  refine as_nil (κ _ _ ?_)
  refine cw_seq fun _ hK3 => ?_
  refine cw_rs fun _ κ => ?_
  refine Sm rfl rfl ?_
  refine as_q rfl rfl (q_not rfl) ?_
  refine as_nil (κ _ _ ?_)
  refine cw_false rfl ?_
  refine cw_skip ?_
  refine hK3 _ _ ?_
  refine cw_rs fun _ κ => ?_
  refine Sf 0 rfl (by kernel_rfl) rfl ?_
  refine Sc 1 rfl (by kernel_rfl) rfl (by exact BlkR.cells (hs3.sat _ _ _ hb1) rfl) ?_
  refine as_q rfl rfl (q_iface (by kernel_rfl) rfl) ?_
  refine Sm rfl rfl ?_
  refine Sf 0 rfl (by kernel_rfl) rfl ?_
  refine Sc 1 rfl (by kernel_rfl) rfl (by exact Blk.cells hoo.1 rfl) ?_
  refine as_h rfl (h_invoke (f := 183) (r := .agg #[.pointer q]) (by kernel_rfl) rfl rfl (by kernel_rfl) ?_)
  refine (se_meld hs3.sat h h2 hz).mono ?_
  rintro _ w4 ⟨qn, Mn, rfl, hs4, hn⟩
  replace h := h.mono' EncE.mono hs4.le
  replace hT := hT.then hs4
  have hz4 := hs4.size
  refine as_q rfl rfl (q_build (zs := [(.pointer none)]) (places := [(0, 1)]) (cs := [_]) (by kernel_rfl) (by kernel_rfl) rfl rfl) ?_
  refine as_q rfl rfl (q_iface (by kernel_rfl) rfl) ?_
  refine Sa rfl rfl ?_
  refine as_nil (κ _ _ ?_)
  refine cw_ret ?_
  exact ⟨_, (res_tmp rfl res_nil), _, _, rfl, hT, hn⟩
theorem wd_size {w : World} {M : Mem} {t : List (RT El)} {q : Option Addr} (hs : Sat M w) (h : FRep 197 220 2 EncE M t q) (hz : RT.sizes t ≤ 1000000000) :
    Does Tryz.prog 202 #[.agg #[.pointer q]] w (fun v w' => v = .int .i64 (RT.sizes t : Nat) ∧ Step Nope M w M w') := by
  have hT := Step.refl Nope hs
  refine fn_enter Tryz.func202 rfl (rs := [.tmp 2]) rfl rfl rfl rfl ?_
  refine cw_rs fun _ κ => ?_
  refine as_h rfl (h_boxM hs rfl rfl fun b1 M1 w1 hs1 hb1 e1 => ?_)
  replace h := h.mono' EncE.mono hs1.le
  replace hT := hT.then hs1
  refine Sa rfl rfl ?_
  refine as_nil (κ _ _ ?_)
  refine cw_rs fun _ κ => ?_
  refine Sf 0 rfl (by kernel_rfl) rfl ?_
  refine Sc 1 rfl (by kernel_rfl) rfl (by exact BlkR.cells (hs1.sat _ _ _ hb1) rfl) ?_
  refine as_q rfl rfl (q_iface (by kernel_rfl) rfl) ?_
  refine as_h rfl (h_invoke (f := 187) (r := .agg #[.pointer q]) (by kernel_rfl) rfl rfl (by kernel_rfl) ?_)
  refine (se_size hs1.sat h hz).mono ?_
  rintro _ w2 ⟨rfl, hs2⟩
  replace h := h.mono' EncE.mono hs2.le
  replace hT := hT.then hs2
  refine Sa rfl rfl ?_
  refine as_nil (κ _ _ ?_)
  refine cw_ret ?_
  exact ⟨_, (res_tmp rfl res_nil), rfl, hT.forget⟩
theorem wd_min {w : World} {M : Mem} {t : List (RT El)} {k : RT El} {q : Option Addr} (hs : Sat M w) (h : FRep 197 220 2 EncE M t q) (ht : t[leastN ltE (t.map RT.root) (t.length - 1)]? = some k) (hz : RT.sizes t ≤ 1000000000) :
    Does Tryz.prog 199 #[.agg #[.pointer q], .pointer none] w (fun v w' => v = .tuple #[.agg (elc k.root).toArray, .bool true] ∧ Step Nope M w M w') := by
  have hT := Step.refl Nope hs
  refine fn_enter Tryz.func199 rfl (rs := [.cell 4 24, .tmp 5]) rfl rfl rfl rfl ?_
  refine cw_rs fun _ κ => ?_
  refine as_h rfl (h_boxM hs rfl rfl fun b1 M1 w1 hs1 hb1 e1 => ?_)
  replace h := h.mono' EncE.mono hs1.le
  replace hT := hT.then hs1
  have hz1 := hs1.size
  have hqar := hT.size
  refine as_h rfl (h_allocO (z := (.agg #[(.int .i64 0), (.int .i64 0)])) hs1.sat (by kernel_rfl) rfl fun br w2 hs2 hor er => ?_)
  replace h := h.mono' EncE.mono hs2.le
  replace hb1 := hs2.le _ _ hb1
  replace hT := hT.then hs2
  have hz2 := hs2.size
  have hlr := hor.1.lt
  refine Sa rfl rfl ?_
  refine as_nil (κ _ _ ?_)
  refine cw_rs fun _ κ => ?_
  refine Sf 0 rfl (by kernel_rfl) rfl ?_
  refine Sc 1 rfl (by kernel_rfl) rfl (by exact BlkR.cells (hs2.sat _ _ _ hb1) rfl) ?_
  refine as_q rfl rfl (q_iface (by kernel_rfl) rfl) ?_
  refine Sm rfl rfl ?_
  refine as_h rfl (h_invoke (f := 184) (r := .agg #[.pointer q]) (by kernel_rfl) rfl rfl (by kernel_rfl) ?_)
  refine (se_min hs2.sat h ht hz).mono ?_
  rintro _ w3 ⟨rfl, hs3⟩
  replace h := h.mono' EncE.mono hs3.le
  replace hor := hor.then hs3
  replace hT := hT.then hs3
  have hz3 := hs3.size
  refine Se rfl rfl rfl ?_
  refine Se rfl rfl rfl ?_
  refine as_h0 (h_store hs3.sat hor rfl rfl rfl (by kernel_rfl) rfl rfl rfl fun w4 hs4 hn4 => ?_)
  replace h := h.mono' EncE.mono hs4.le
  clear hor; have hor := hn4; clear hn4
  replace hT := hT.own hs4 (by omega)
  have hz4 := hs4.size
  refine Sa rfl rfl ?_
  refine as_nil (κ _ _ ?_)
  refine cw_ret ?_
  exact ⟨_, (res_cell rfl (loadVar_n (n := 2) (by kernel_rfl) (by exact Blk.cells hor.1 rfl)) (res_tmp rfl res_nil)), rfl, hT.forget⟩
theorem we_insert {w : World} {M : Mem} {x : El} {t : Ro} {q : Option Addr} (hs : Sat M w) (h : RoRep 283 197 220 M t q) (hz : t.size < 1000000000) :
    Does Tryz.prog 210 #[.agg #[.pointer q], .pointer none, .agg (elc x).toArray] w (fun v w' => ∃ q M', v = .iface 90 (.agg #[.pointer q]) ∧ Step Nope M w M' w' ∧ RoRep 283 197 220 M' (Ro.insert x t) q) := by
  have hT := Step.refl Nope hs
  refine fn_enter Tryz.func210 rfl (rs := [.tmp 6]) rfl rfl rfl rfl ?_
  refine cw_rs fun _ κ => ?_
  refine as_h rfl (h_boxM hs rfl rfl fun b1 M1 w1 hs1 hb1 e1 => ?_)
  replace h := h.mono hs1.le
  replace hT := hT.then hs1
  refine as_h rfl (h_boxM hs1.sat rfl rfl fun b2 M2 w2 hs2 hb2 e2 => ?_)
  replace h := h.mono hs2.le
  replace hb1 := hs2.le _ _ hb1
  replace hT := hT.then hs2
  refine Sa rfl rfl ?_
  refine as_nil (κ _ _ ?_)
  refine cw_rs fun _ κ => ?_
  refine Sf 0 rfl (by kernel_rfl) rfl ?_
  refine Sc 1 rfl (by kernel_rfl) rfl (by exact BlkR.cells (hs2.sat _ _ _ hb1) rfl) ?_
  refine as_q rfl rfl (q_iface (by kernel_rfl) rfl) ?_
  refine Sm rfl rfl ?_
  refine Sc 2 rfl (by kernel_rfl) rfl (by exact BlkR.cells (hs2.sat _ _ _ hb2) rfl) ?_
  refine as_h rfl (h_invoke (f := 203) (r := .agg #[.pointer q]) (by kernel_rfl) rfl rfl (by kernel_rfl) ?_)
  refine (r_insert (x := x) hs2.sat h hz).mono ?_
  rintro _ w3 ⟨qn, Mn, rfl, hs3, hn⟩
  replace h := h.mono hs3.le
  replace hT := hT.then hs3
  refine as_q rfl rfl (q_build (zs := [(.pointer none)]) (places := [(0, 1)]) (cs := [_]) (by kernel_rfl) (by kernel_rfl) rfl rfl) ?_
  refine as_q rfl rfl (q_iface (by kernel_rfl) rfl) ?_
  refine Sa rfl rfl ?_
  refine as_nil (κ _ _ ?_)
  refine cw_ret ?_
  exact ⟨_, (res_tmp rfl res_nil), _, _, rfl, hT, hn⟩
theorem we_meld {w : World} {M : Mem} {t u : Ro} {q q2 : Option Addr} (hs : Sat M w) (h : RoRep 283 197 220 M t q) (h2 : RoRep 283 197 220 M u q2) (hz : t.size + u.size ≤ 1000000000) :
    Does Tryz.prog 211 #[.agg #[.pointer q], .pointer none, .iface 90 (.agg #[.pointer q2])] w (fun v w' => ∃ q M', v = .iface 90 (.agg #[.pointer q]) ∧ Step Nope M w M' w' ∧ RoRep 283 197 220 M' (t.meld u) q) := by
  have hT := Step.refl Nope hs
  refine fn_enter Tryz.func211 rfl (rs := [.tmp 6]) rfl rfl rfl rfl ?_
  refine cw_rs fun _ κ => ?_
  refine as_h rfl (h_boxM hs rfl rfl fun b1 M1 w1 hs1 hb1 e1 => ?_)
  replace h := h.mono hs1.le
  replace h2 := h2.mono hs1.le
  replace hT := hT.then hs1
  have hz1 := hs1.size
  refine Sa rfl rfl ?_
  refine as_nil (κ _ _ ?_)
  refine cw_rs fun _ κ => ?_
  refine Sm rfl rfl ?_
  refine as_q rfl rfl (q_isT (by kernel_rfl) rfl) ?_
  refine Sm rfl rfl ?_
  refine Se rfl rfl rfl ?_
  refine Se rfl rfl rfl ?_
  have hqao := hT.size
  refine as_h rfl (h_allocO (z := (.agg #[(.pointer none)])) hs1.sat (by kernel_rfl) rfl fun bo w2 hs2 hoo eo => ?_)
  replace h := h.mono hs2.le
  replace h2 := h2.mono hs2.le
  replace hb1 := hs2.le _ _ hb1
  replace hT := hT.then hs2
  have hz2 := hs2.size
  have hlo := hoo.1.lt
  refine as_h0 (h_store hs2.sat hoo rfl rfl rfl (by kernel_rfl) rfl rfl rfl fun w3 hs3 hn3 => ?_)
  replace h := h.mono hs3.le
  replace h2 := h2.mono hs3.le
  replace hb1 := hs3.le _ _ hb1
  clear hoo; have hoo := hn3; clear hn3
  replace hT := hT.own hs3 (by omega)
  have hz3 := hs3.size
  refine Sa rfl rfl ?_
  refine as_nil (κ _ _ ?_)
  refine cw_seq fun _ hK3 => ?_
  refine cw_rs fun _ κ => ?_
  refine Sm rfl rfl ?_
  refine as_q rfl rfl (q_not rfl) ?_
  refine as_nil (κ _ _ ?_)
  refine cw_false rfl ?_
  refine cw_skip ?_
  refine hK3 _ _ ?_
  refine cw_rs fun _ κ => ?_
  refine Sf 0 rfl (by kernel_rfl) rfl ?_
  refine Sc 1 rfl (by kernel_rfl) rfl (by exact BlkR.cells (hs3.sat _ _ _ hb1) rfl) ?_
  refine as_q rfl rfl (q_iface (by kernel_rfl) rfl) ?_
  refine Sm rfl rfl ?_
  refine Sf 0 rfl (by kernel_rfl) rfl ?_
  refine Sc 1 rfl (by kernel_rfl) rfl (by exact Blk.cells hoo.1 rfl) ?_
  refine as_h rfl (h_invoke (f := 204) (r := .agg #[.pointer q]) (by kernel_rfl) rfl rfl (by kernel_rfl) ?_)
  refine (r_meld hs3.sat h h2 hz).mono ?_
  rintro _ w4 ⟨qn, Mn, rfl, hs4, hn⟩
  replace h := h.mono hs4.le
  replace hT := hT.then hs4
  have hz4 := hs4.size
  refine as_q rfl rfl (q_build (zs := [(.pointer none)]) (places := [(0, 1)]) (cs := [_]) (by kernel_rfl) (by kernel_rfl) rfl rfl) ?_
  refine as_q rfl rfl (q_iface (by kernel_rfl) rfl) ?_
  refine Sa rfl rfl ?_
  refine as_nil (κ _ _ ?_)
  refine cw_ret ?_
  exact ⟨_, (res_tmp rfl res_nil), _, _, rfl, hT, hn⟩
theorem we_size {w : World} {M : Mem} {t : Ro} {q : Option Addr} (hs : Sat M w) (h : RoRep 283 197 220 M t q) (hz : t.size ≤ 1000000000) :
    Does Tryz.prog 215 #[.agg #[.pointer q]] w (fun v w' => v = .int .i64 (t.size : Nat) ∧ Step Nope M w M w') := by
  have hT := Step.refl Nope hs
  refine fn_enter Tryz.func215 rfl (rs := [.tmp 2]) rfl rfl rfl rfl ?_
  refine cw_rs fun _ κ => ?_
  refine as_h rfl (h_boxM hs rfl rfl fun b1 M1 w1 hs1 hb1 e1 => ?_)
  replace h := h.mono hs1.le
  replace hT := hT.then hs1
  refine Sa rfl rfl ?_
  refine as_nil (κ _ _ ?_)
  refine cw_rs fun _ κ => ?_
  refine Sf 0 rfl (by kernel_rfl) rfl ?_
  refine Sc 1 rfl (by kernel_rfl) rfl (by exact BlkR.cells (hs1.sat _ _ _ hb1) rfl) ?_
  refine as_q rfl rfl (q_iface (by kernel_rfl) rfl) ?_
  refine as_h rfl (h_invoke (f := 208) (r := .agg #[.pointer q]) (by kernel_rfl) rfl rfl (by kernel_rfl) ?_)
  refine (r_size hs1.sat h hz).mono ?_
  rintro _ w2 ⟨rfl, hs2⟩
  replace h := h.mono hs2.le
  replace hT := hT.then hs2
  refine Sa rfl rfl ?_
  refine as_nil (κ _ _ ?_)
  refine cw_ret ?_
  exact ⟨_, (res_tmp rfl res_nil), rfl, hT.forget⟩
theorem we_min {w : World} {M : Mem} {x : El} {ts : List (RT El)} {q : Option Addr} (hs : Sat M w) (h : RoRep 283 197 220 M (Ro.node x ts) q) :
    Does Tryz.prog 212 #[.agg #[.pointer q], .pointer none] w (fun v w' => v = .tuple #[.agg (elc x).toArray, .bool true] ∧ Step Nope M w M w') := by
  have hT := Step.refl Nope hs
  refine fn_enter Tryz.func212 rfl (rs := [.cell 4 24, .tmp 5]) rfl rfl rfl rfl ?_
  refine cw_rs fun _ κ => ?_
  refine as_h rfl (h_boxM hs rfl rfl fun b1 M1 w1 hs1 hb1 e1 => ?_)
  replace h := h.mono hs1.le
  replace hT := hT.then hs1
  have hz1 := hs1.size
  have hqar := hT.size
  refine as_h rfl (h_allocO (z := (.agg #[(.int .i64 0), (.int .i64 0)])) hs1.sat (by kernel_rfl) rfl fun br w2 hs2 hor er => ?_)
  replace h := h.mono hs2.le
  replace hb1 := hs2.le _ _ hb1
  replace hT := hT.then hs2
  have hz2 := hs2.size
  have hlr := hor.1.lt
  refine Sa rfl rfl ?_
  refine as_nil (κ _ _ ?_)
  refine cw_rs fun _ κ => ?_
  refine Sf 0 rfl (by kernel_rfl) rfl ?_
  refine Sc 1 rfl (by kernel_rfl) rfl (by exact BlkR.cells (hs2.sat _ _ _ hb1) rfl) ?_
  refine as_q rfl rfl (q_iface (by kernel_rfl) rfl) ?_
  refine Sm rfl rfl ?_
  refine as_h rfl (h_invoke (f := 205) (r := .agg #[.pointer q]) (by kernel_rfl) rfl rfl (by kernel_rfl) ?_)
  refine (r_min hs2.sat h).mono ?_
  rintro _ w3 ⟨rfl, hs3⟩
  replace h := h.mono hs3.le
  replace hor := hor.then hs3
  replace hT := hT.then hs3
  have hz3 := hs3.size
  refine Se rfl rfl rfl ?_
  refine Se rfl rfl rfl ?_
  refine as_h0 (h_store hs3.sat hor rfl rfl rfl (by kernel_rfl) rfl rfl rfl fun w4 hs4 hn4 => ?_)
  replace h := h.mono hs4.le
  clear hor; have hor := hn4; clear hn4
  replace hT := hT.own hs4 (by omega)
  have hz4 := hs4.size
  refine Sa rfl rfl ?_
  refine as_nil (κ _ _ ?_)
  refine cw_ret ?_
  exact ⟨_, (res_cell rfl (loadVar_n (n := 2) (by kernel_rfl) (by exact Blk.cells hor.1 rfl)) (res_tmp rfl res_nil)), rfl, hT.forget⟩
theorem wf_insert {w : World} {M : Mem} {x : El} {t : Bt} {q : Option Addr} (hs : Sat M w) (h : BRep 296 330 332 M t q) (hz : RT.sizes t.queue < 1000000000) :
    Does Tryz.prog 261 #[.agg #[.pointer q], .pointer none, .agg (elc x).toArray] w (fun v w' => ∃ q M', v = .iface 95 (.agg #[.pointer q]) ∧ Step Nope M w M' w' ∧ BRep 296 330 332 M' (Bt.insert x t) q) := by
  have hT := Step.refl Nope hs
  refine fn_enter Tryz.func261 rfl (rs := [.tmp 6]) rfl rfl rfl rfl ?_
  refine cw_rs fun _ κ => ?_
  refine as_h rfl (h_boxM hs rfl rfl fun b1 M1 w1 hs1 hb1 e1 => ?_)
  replace h := h.mono hs1.le
  replace hT := hT.then hs1
  refine as_h rfl (h_boxM hs1.sat rfl rfl fun b2 M2 w2 hs2 hb2 e2 => ?_)
  replace h := h.mono hs2.le
  replace hb1 := hs2.le _ _ hb1
  replace hT := hT.then hs2
  refine Sa rfl rfl ?_
  refine as_nil (κ _ _ ?_)
  refine cw_rs fun _ κ => ?_
  refine Sf 0 rfl (by kernel_rfl) rfl ?_
  refine Sc 1 rfl (by kernel_rfl) rfl (by exact BlkR.cells (hs2.sat _ _ _ hb1) rfl) ?_
  refine as_q rfl rfl (q_iface (by kernel_rfl) rfl) ?_
  refine Sm rfl rfl ?_
  refine Sc 2 rfl (by kernel_rfl) rfl (by exact BlkR.cells (hs2.sat _ _ _ hb2) rfl) ?_
  refine as_h rfl (h_invoke (f := 216) (r := .agg #[.pointer q]) (by kernel_rfl) rfl rfl (by kernel_rfl) ?_)
  refine (bo_insert (x := x) hs2.sat h hz).mono ?_
  rintro _ w3 ⟨qn, Mn, rfl, hs3, hn⟩
  replace h := h.mono hs3.le
  replace hT := hT.then hs3
  refine as_q rfl rfl (q_build (zs := [(.pointer none)]) (places := [(0, 1)]) (cs := [_]) (by kernel_rfl) (by kernel_rfl) rfl rfl) ?_
  refine as_q rfl rfl (q_iface (by kernel_rfl) rfl) ?_
  refine Sa rfl rfl ?_
  refine as_nil (κ _ _ ?_)
  refine cw_ret ?_
  exact ⟨_, (res_tmp rfl res_nil), _, _, rfl, hT, hn⟩
theorem wf_meld {w : World} {M : Mem} {t u : Bt} {q q2 : Option Addr} (hs : Sat M w) (h : BRep 296 330 332 M t q) (h2 : BRep 296 330 332 M u q2) (hz : RT.sizes t.queue < 1000000000) (hzu : RT.sizes u.queue < 1000000000) :
    Does Tryz.prog 262 #[.agg #[.pointer q], .pointer none, .iface 95 (.agg #[.pointer q2])] w (fun v w' => ∃ q M', v = .iface 95 (.agg #[.pointer q]) ∧ Step Nope M w M' w' ∧ BRep 296 330 332 M' (t.meld u) q) := by
  have hT := Step.refl Nope hs
  refine fn_enter Tryz.func262 rfl (rs := [.tmp 6]) rfl rfl rfl rfl ?_
  refine cw_rs fun _ κ => ?_
  refine as_h rfl (h_boxM hs rfl rfl fun b1 M1 w1 hs1 hb1 e1 => ?_)
  replace h := h.mono hs1.le
  replace h2 := h2.mono hs1.le
  replace hT := hT.then hs1
  have hz1 := hs1.size
  refine Sa rfl rfl ?_
  refine as_nil (κ _ _ ?_)
  refine cw_rs fun _ κ => ?_
  refine Sm rfl rfl ?_
  refine as_q rfl rfl (q_isT (by kernel_rfl) rfl) ?_
  refine Sm rfl rfl ?_
  refine Se rfl rfl rfl ?_
  refine Se rfl rfl rfl ?_
  have hqao := hT.size
  refine as_h rfl (h_allocO (z := (.agg #[(.pointer none)])) hs1.sat (by kernel_rfl) rfl fun bo w2 hs2 hoo eo => ?_)
  replace h := h.mono hs2.le
  replace h2 := h2.mono hs2.le
  replace hb1 := hs2.le _ _ hb1
  replace hT := hT.then hs2
  have hz2 := hs2.size
  have hlo := hoo.1.lt
  refine as_h0 (h_store hs2.sat hoo rfl rfl rfl (by kernel_rfl) rfl rfl rfl fun w3 hs3 hn3 => ?_)
  replace h := h.mono hs3.le
  replace h2 := h2.mono hs3.le
  replace hb1 := hs3.le _ _ hb1
  clear hoo; have hoo := hn3; clear hn3
  replace hT := hT.own hs3 (by omega)
  have hz3 := hs3.size
  refine Sa rfl rfl ?_
  refine as_nil (κ _ _ ?_)
  refine cw_seq fun _ hK3 => ?_
  refine cw_rs fun _ κ => ?_
  refine Sm rfl rfl ?_
  refine as_q rfl rfl (q_not rfl) ?_
  refine as_nil (κ _ _ ?_)
  refine cw_false rfl ?_
  refine cw_skip ?_
  refine hK3 _ _ ?_
  refine cw_rs fun _ κ => ?_
  refine Sf 0 rfl (by kernel_rfl) rfl ?_
  refine Sc 1 rfl (by kernel_rfl) rfl (by exact BlkR.cells (hs3.sat _ _ _ hb1) rfl) ?_
  refine as_q rfl rfl (q_iface (by kernel_rfl) rfl) ?_
  refine Sm rfl rfl ?_
  refine Sf 0 rfl (by kernel_rfl) rfl ?_
  refine Sc 1 rfl (by kernel_rfl) rfl (by exact Blk.cells hoo.1 rfl) ?_
  refine as_h rfl (h_invoke (f := 218) (r := .agg #[.pointer q]) (by kernel_rfl) rfl rfl (by kernel_rfl) ?_)
  refine (bo_meld hs3.sat h h2 hz hzu).mono ?_
  rintro _ w4 ⟨qn, Mn, rfl, hs4, hn⟩
  replace h := h.mono hs4.le
  replace hT := hT.then hs4
  have hz4 := hs4.size
  refine as_q rfl rfl (q_build (zs := [(.pointer none)]) (places := [(0, 1)]) (cs := [_]) (by kernel_rfl) (by kernel_rfl) rfl rfl) ?_
  refine as_q rfl rfl (q_iface (by kernel_rfl) rfl) ?_
  refine Sa rfl rfl ?_
  refine as_nil (κ _ _ ?_)
  refine cw_ret ?_
  exact ⟨_, (res_tmp rfl res_nil), _, _, rfl, hT, hn⟩
theorem wf_min {w : World} {M : Mem} {x : El} {ts : List (RT Bt)} {q : Option Addr} (hs : Sat M w) (h : BRep 296 330 332 M (Bt.node x ts) q) :
    Does Tryz.prog 263 #[.agg #[.pointer q], .pointer none] w (fun v w' => v = .tuple #[.agg (elc x).toArray, .bool true] ∧ Step Nope M w M w') := by
  have hT := Step.refl Nope hs
  refine fn_enter Tryz.func263 rfl (rs := [.cell 4 24, .tmp 5]) rfl rfl rfl rfl ?_
  refine cw_rs fun _ κ => ?_
  refine as_h rfl (h_boxM hs rfl rfl fun b1 M1 w1 hs1 hb1 e1 => ?_)
  replace h := h.mono hs1.le
  replace hT := hT.then hs1
  have hz1 := hs1.size
  have hqar := hT.size
  refine as_h rfl (h_allocO (z := (.agg #[(.int .i64 0), (.int .i64 0)])) hs1.sat (by kernel_rfl) rfl fun br w2 hs2 hor er => ?_)
  replace h := h.mono hs2.le
  replace hb1 := hs2.le _ _ hb1
  replace hT := hT.then hs2
  have hz2 := hs2.size
  have hlr := hor.1.lt
  refine Sa rfl rfl ?_
  refine as_nil (κ _ _ ?_)
  refine cw_rs fun _ κ => ?_
  refine Sf 0 rfl (by kernel_rfl) rfl ?_
  refine Sc 1 rfl (by kernel_rfl) rfl (by exact BlkR.cells (hs2.sat _ _ _ hb1) rfl) ?_
  refine as_q rfl rfl (q_iface (by kernel_rfl) rfl) ?_
  refine Sm rfl rfl ?_
  refine as_h rfl (h_invoke (f := 219) (r := .agg #[.pointer q]) (by kernel_rfl) rfl rfl (by kernel_rfl) ?_)
  refine (bo_min hs2.sat h).mono ?_
  rintro _ w3 ⟨rfl, hs3⟩
  replace h := h.mono hs3.le
  replace hor := hor.then hs3
  replace hT := hT.then hs3
  have hz3 := hs3.size
  refine Se rfl rfl rfl ?_
  refine Se rfl rfl rfl ?_
  refine as_h0 (h_store hs3.sat hor rfl rfl rfl (by kernel_rfl) rfl rfl rfl fun w4 hs4 hn4 => ?_)
  replace h := h.mono hs4.le
  clear hor; have hor := hn4; clear hn4
  replace hT := hT.own hs4 (by omega)
  have hz4 := hs4.size
  refine Sa rfl rfl ?_
  refine as_nil (κ _ _ ?_)
  refine cw_ret ?_
  exact ⟨_, (res_cell rfl (loadVar_n (n := 2) (by kernel_rfl) (by exact Blk.cells hor.1 rfl)) (res_tmp rfl res_nil)), rfl, hT.forget⟩
end Go.Proofs.YtgcgjpfjjgalmaaGreat
/- Pairing heaps without their least element, part 1. -/
namespace Go.Proofs.YtgcgjpfjjgalmaaGreat
open Go Go.Eng
theorem pr_meld_ne {a b : Pr} (h : a ≠ .nil) : a.meld b ≠ .nil := by
  unfold Pr.meld
  split
  · exact absurd rfl h
  · simp
  · split <;> simp
theorem preps_snoc {M : Mem} {k : Pr} {q : Option Addr} : ∀ {l : List Pr} {al : List (Option Addr)}, PReps 251 260 M l al → k ≠ .nil → PRep 251 260 M k q → PReps 251 260 M (l ++ [k]) (al ++ [q])
  | [], _, h, hk, hq => by rw [preps_nil.1 h]; exact preps_cons.2 ⟨hk, _, _, rfl, hq, preps_nil.2 rfl⟩
  | _ :: _, _, h, hk, hq => by
    obtain ⟨h1, a, s, rfl, h2, h3⟩ := preps_cons.1 h
    exact preps_cons.2 ⟨h1, _, _, rfl, h2, preps_snoc h3 hk hq⟩
theorem preps_get {M : Mem} : ∀ {l : List Pr} {al : List (Option Addr)} {i : Nat} {k : Pr}, PReps 251 260 M l al → l[i]? = some k → ∃ a, al[i]? = some a ∧ PRep 251 260 M k a
  | _ :: _, _, 0, _, h, hi => by cases hi; obtain ⟨_, a, s, rfl, h2, _⟩ := preps_cons.1 h; exact ⟨a, rfl, h2⟩
  | _ :: _, _, i + 1, _, h, hi => by
    obtain ⟨_, a, s, rfl, _, h3⟩ := preps_cons.1 h
    obtain ⟨c, h4, h5⟩ := preps_get (i := i) h3 (by simpa using hi)
    exact ⟨c, by simpa using h4, h5⟩
theorem pr_sizes_append (l r : List Pr) : Pr.sizes (l ++ r) = Pr.sizes l + Pr.sizes r := by
  induction l with
  | nil => simp [Pr.sizes]
  | cons k l ih => simp only [List.cons_append, Pr.sizes, ih]; omega
theorem cells_one {b o : Nat} {v : Value} {w : World} (h : w.cell? ⟨b, o, none⟩ = some v) : cellsAre b o 1 [v] w := ⟨rfl, fun j u hj => by
  cases j with
  | zero => cases hj; exact h
  | succ j => simp at hj⟩
theorem p_pair {w : World} {M : Mem} {ks : List Pr} {l : List (Option Addr)} {q : Option Addr} (hs : Sat M w) (hcl : CRep 260 M l (.pointer q)) (hk : PReps 251 260 M ks l) (hz : Pr.sizes ks ≤ 1000000000) :
    Does Tryz.prog 168 #[.pointer none, .agg #[.pointer q]] w (fun v w' => ∃ q M', v = .agg #[.pointer q] ∧ Step Nope M w M' w' ∧ PRep 251 260 M' (Pr.pair ks) q) := by
  have hT := Step.refl Nope hs
  refine fn_enter Tryz.func168 rfl (rs := [.cell 4 79]) rfl rfl rfl rfl ?_
  refine cw_rs fun _ κ => ?_
  have hqal := hT.size
  refine as_h rfl (h_boxO hs rfl rfl fun bl w1 hs1 hol el => ?_)
  replace hcl := hcl.mono hs1.le
  replace hk := hk.mono hs1.le
  replace hT := hT.then hs1
  have hz1 := hs1.size
  have hll := hol.1.lt
  have hqar := hT.size
  refine as_h rfl (h_allocO (z := (.agg #[(.pointer none)])) hs1.sat (by kernel_rfl) rfl fun br w2 hs2 hor er => ?_)
  replace hcl := hcl.mono hs2.le
  replace hk := hk.mono hs2.le
  replace hol := hol.then hs2
  replace hT := hT.then hs2
  have hz2 := hs2.size
  have hlr := hor.1.lt
  refine as_nil (κ _ _ ?_)
  refine cw_rs fun _ κ => ?_
  refine Sa rfl rfl ?_
  refine as_nil (κ _ _ ?_)
  refine cw_rs fun _ κ => ?_
  refine Sa rfl rfl ?_
  refine as_nil (κ _ _ ?_)
  refine cw_seq fun _ hK4 => ?_
  refine cw_block ?_
  refine cw_loop (fun mm l1 w1 => ∃ (ms rest : List Pr) (al l : List (Option Addr)) (q sa : Option Addr) (sc n : Nat) (M1 : Mem), mm = rest.length ∧ n = ms.length ∧ Pr.pair ks = ms.foldr Pr.meld (Pr.pair rest) ∧ Pr.sizes ms + Pr.sizes rest ≤ 1000000000 ∧ l1 = [(0, .pointer none), (3, .pointer (some ⟨bl, 0, none⟩)), (4, .pointer (some ⟨br, 0, none⟩)), (5, .func (.func 162) #[] #[]), (6, .slice sa n sc)] ∧ Step Nope M w M1 w1 ∧ w2.heap.size ≤ w1.heap.size ∧ Buf w1 M1 79 1 (.slice sa n sc) n (ptrs al) ∧ PReps 251 260 M1 ms al ∧ CRep 260 M1 l (.pointer q) ∧ PReps 251 260 M1 rest l ∧ Own w1 M1 bl [.pointer q] 249 ∧ Own w1 M1 br [.pointer none] 79 ∧ (∀ g, (Value.slice sa n sc).ownBlock = some g → w2.heap.size ≤ g)) (ks.length) [(0, .pointer none), (3, .pointer (some ⟨bl, 0, none⟩)), (4, .pointer (some ⟨br, 0, none⟩)), (5, .func (.func 162) #[] #[]), (6, .slice none (0 : Nat) 0)] (.cons rfl (.cons rfl (.cons rfl (.cons rfl (.cons rfl (.nil _)))))) ?_ ?_
  · skip
    exact ⟨[], ks, [], l, q, none, 0, 0, M, rfl, rfl, rfl, by simpa [Pr.sizes] using hz, rfl, hT, Nat.le_refl _, Buf.nil _ _ _ _, preps_nil.2 rfl, hcl, hk, hol, hor, fun g hg => by cases hg⟩
  have hblw : w.heap.size ≤ bl ∧ w.heap.size ≤ br ∧ br ≠ bl := by omega
  clear hT hcl hk hol hor
  rintro mm l1 w1 ⟨ms, rest, al, l, q, sa, sc, n, M1, rfl, rfl, hmod, hzz, rfl, hT, hws, hbu, hmk, hcl, hk, hol, hor, hfr⟩
  have hmz := hmk.small
  have hml := hmk.length
  refine cw_seq fun _ hK5 => ?_
  rcases rest with _ | ⟨a, _ | ⟨b, rest⟩⟩
  · skip
    have hl0 := preps_nil.1 hk
    subst hl0
    have hq0 : q = none := by
      have h : Value.pointer q = .pointer none := hcl
      cases h; rfl
    subst hq0
    refine cw_rs fun _ κ => ?_
    refine Sc 1 rfl (by kernel_rfl) rfl (by exact Blk.cells hol.1 rfl) ?_
    refine as_h rfl (h_call (by kernel_rfl) rfl ?_)
    refine (cp_len hT.sat hcl).mono ?_
    rintro _ w3 ⟨rfl, hs3⟩
    replace hbu := hbu.then hs3
    replace hmk := hmk.mono hs3.le
    replace hcl := hcl.mono hs3.le
    replace hk := hk.mono hs3.le
    replace hol := hol.then hs3
    replace hor := hor.then hs3
    replace hT := hT.then hs3
    have hz3 := hs3.size
    refine as_q rfl rfl (q_gt rfl rfl) ?_
    refine as_nil (κ _ _ ?_)
    refine cw_false rfl ?_
    refine cw_exit ?_
    refine hK4 _ _ ?_
    refine cw_rs fun _ κ => ?_
    refine Sc 1 rfl (by kernel_rfl) rfl (by exact Blk.cells hol.1 rfl) ?_
    refine as_h rfl (h_call (by kernel_rfl) rfl ?_)
    refine (cp_first_n hs3.sat).mono ?_
    rintro _ w4 ⟨rfl, hs4⟩
    replace hbu := hbu.then hs4
    replace hmk := hmk.mono hs4.le
    replace hcl := hcl.mono hs4.le
    replace hk := hk.mono hs4.le
    replace hol := hol.then hs4
    replace hor := hor.then hs4
    replace hT := hT.then hs4
    have hz4 := hs4.size
    refine Sm rfl rfl ?_
    refine Se rfl rfl rfl ?_
    refine Se rfl rfl rfl ?_
    have hblt := hbu.lt
    have hqaz := hT.size
    refine as_h rfl (h_allocO (z := (.agg #[(.pointer none)])) hs4.sat (by kernel_rfl) rfl fun bz w5 hs5 hoz ez => ?_)
    replace hbu := hbu.then hs5
    replace hmk := hmk.mono hs5.le
    replace hcl := hcl.mono hs5.le
    replace hk := hk.mono hs5.le
    replace hol := hol.then hs5
    replace hor := hor.then hs5
    replace hT := hT.then hs5
    have hz5 := hs5.size
    have hlz := hoz.1.lt
    refine as_h0 (h_store hs5.sat hoz rfl rfl rfl (by kernel_rfl) rfl rfl rfl fun w6 hs6 hn6 => ?_)
    replace hbu := hbu.step hs6 (fun g hg h => by have h : g = bz := h; have := hblt g hg; omega)
    replace hmk := hmk.mono hs6.le
    replace hcl := hcl.mono hs6.le
    replace hk := hk.mono hs6.le
    replace hol := hol.step hs6 (fun h => by have h : _ = _ := h; omega)
    replace hor := hor.step hs6 (fun h => by have h : _ = _ := h; omega)
    clear hoz; have hoz := hn6; clear hn6
    replace hT := hT.own hs6 (by omega)
    have hz6 := hs6.size
    refine Sa rfl rfl ?_
    refine as_nil (κ _ _ ?_)
    refine cw_seq fun _ hK8 => ?_
    refine cw_rs fun _ κ => ?_
    refine Sm rfl rfl ?_
    refine as_q rfl rfl (q_len (by kernel_rfl) rfl _) ?_
    refine as_q rfl rfl (q_subx rfl rfl (by omega) (by omega)) ?_
    refine Sa rfl rfl ?_
    refine as_nil (κ _ _ ?_)
    refine cw_block ?_
    refine cw_loop (fun mm l1 w1 => ∃ (z : Int) (out : Pr) (oq : Option Addr) (M2 : Mem), mm = (z + 1).toNat ∧ -1 ≤ z ∧ z < ms.length ∧ Pr.pair ks = (ms.take (z + 1).toNat).foldr Pr.meld out ∧ Pr.sizes (ms.take (z + 1).toNat) + out.size ≤ 1000000000 ∧ l1 = [(0, .pointer none), (4, .pointer (some ⟨br, 0, none⟩)), (5, .func (.func 162) #[] #[]), (6, .slice sa ms.length sc), (11, .pointer (some ⟨bz, 0, none⟩)), (13, .int .i64 z)] ∧ Step Nope M w M2 w1 ∧ PRep 251 260 M2 out oq ∧ Own w1 M2 bz [.pointer oq] 79 ∧ Own w1 M2 br [.pointer none] 79 ∧ Buf w1 M2 79 1 (.slice sa ms.length sc) ms.length (ptrs al) ∧ PReps 251 260 M2 ms al) (ms.length) [(0, .pointer none), (4, .pointer (some ⟨br, 0, none⟩)), (5, .func (.func 162) #[] #[]), (6, .slice sa ms.length sc), (11, .pointer (some ⟨bz, 0, none⟩)), (13, .int .i64 ((ms.length : Int) - 1))] (.cons rfl (.cons rfl (.cons rfl (.cons rfl (.cons rfl (.cons rfl (.nil _))))))) ?_ ?_
    · skip
      refine ⟨(ms.length : Int) - 1, Pr.nil, none, _, by omega, by omega, by omega, ?_, ?_, rfl, hT, prep_nil.2 rfl, hoz, hor, hbu, hmk⟩
      · rw [List.take_of_length_le (by omega), hmod]; rfl
      · rw [List.take_of_length_le (by omega)]; simp only [Pr.sizes, Pr.size] at hzz ⊢; omega
    have hbzw : w.heap.size ≤ bz ∧ bz ≠ br := by omega
    have hwz : bz < w6.heap.size ∧ br < w6.heap.size := ⟨hoz.1.lt, hor.1.lt⟩
    have hbz2 : ∀ g, (Value.slice sa ms.length sc).ownBlock = some g → g ≠ bz ∧ g ≠ br := fun g hg => ⟨fun h => by have := hbu.lt g hg; have := hblt g hg; omega, fun h => by have := hfr g hg; omega⟩
    clear hT hoz hor hbu hmk
    rintro mm l1 w2 ⟨z, out, oq, M2, rfl, hz1, hz2, hmod2, hzz2, rfl, hT, hou, hoz, hor, hbu, hmk⟩
    refine cw_seq fun _ hK10 => ?_
    refine cw_rs fun _ κ => ?_
    refine Sm rfl rfl ?_
    refine as_q rfl rfl (q_ge rfl rfl) ?_
    refine as_nil (κ _ _ ?_)
    refine cw_cond rfl (fun hc1 => ?_) (fun hc1 => ?_)
    · skip
      replace hc1 := of_decide_eq_true hc1
      obtain ⟨m, hm⟩ : ∃ m, ms[z.toNat]? = some m := ⟨ms[z.toNat]'(by omega), by simp⟩
      have htk : ms.take (z + 1).toNat = ms.take z.toNat ++ [m] := by rw [show (z + 1).toNat = z.toNat + 1 by omega, List.take_add_one, hm]; rfl
      have hsz := pr_sizes_append (ms.take z.toNat) [m]
      rw [← htk] at hsz
      have hsz1 : Pr.sizes [m] = m.size + 0 := rfl
      obtain ⟨mq, hmq, hmr⟩ := preps_get hmk hm
      obtain ⟨g, o, rfl⟩ := hbu.rd.there (by omega)
      refine cw_skip ?_
      refine hK10 _ _ ?_
      refine cw_seq fun _ hK12 => ?_
      refine cw_block ?_
      refine cw_drawn (by kernel_rfl) (by kernel_rfl) (by kernel_rfl) rfl rfl fun K13 hK13 => ?_
      have hs7 := Step.drew hT.sat
      have hz7 := hs7.size
      replace hoz := hoz.then hs7
      replace hor := hor.then hs7
      replace hbu := hbu.then hs7
      replace hmk := hmk.mono hs7.le
      replace hou := hou.mono hs7.le
      replace hT := hT.then hs7
      refine Dm 0 1 rfl (by kernel_rfl) rfl ?_
      refine Dm 1 3 rfl (by kernel_rfl) rfl ?_
      refine Dm 2 7 rfl (by kernel_rfl) rfl ?_
      refine Dq 3 15 rfl (by kernel_rfl) (fun _ => (q_indexAddr (e := 79) (size := 1) (by kernel_rfl) (by kernel_rfl) rfl rfl (by omega) (by omega))) ?_
      refine Dlc 4 31 1 rfl (by kernel_rfl) (by kernel_rfl) rfl (cells_one (Buf.cell hbu (u := .pointer mq) (j := z.toNat * 1) (by simp [ptrs, hmq]))) ?_
      refine Dm 5 63 rfl (by kernel_rfl) rfl ?_
      refine Dlc 6 127 1 rfl (by kernel_rfl) (by kernel_rfl) rfl (by exact Blk.cells hoz.1 rfl) ?_
      refine Dh 7 255 rfl (by kernel_rfl) (keep_sift (bs := [T,T]) (by kernel_rfl)) (h_callv (f := 162) (first := []) (cap := []) (by kernel_rfl) rfl rfl rfl ?_)
      refine (p_meld (t := m) (o := out) hs7.sat hmr hou (by omega)).mono ?_
      rintro _ w8 ⟨nq, nM, rfl, hs8, hn⟩
      replace hoz := hoz.then hs8
      replace hor := hor.then hs8
      replace hbu := hbu.then hs8
      replace hmk := hmk.mono hs8.le
      replace hou := hou.mono hs8.le
      replace hT := hT.then hs8
      have hz8 := hs8.size
      refine ⟨trivial, ?_⟩
      refine Dh0 8 511 rfl (by kernel_rfl) rfl (h_store hs8.sat hoz rfl rfl rfl (by kernel_rfl) rfl rfl rfl fun w9 hs9 hn9 => ?_)
      replace hor := hor.step hs9 (fun h => by have h : _ = _ := h; omega)
      replace hbu := hbu.step hs9 (fun g hg h => (hbz2 g hg).1 h)
      replace hmk := hmk.mono hs9.le
      replace hou := hou.mono hs9.le
      replace hn := hn.mono hs9.le
      clear hoz; have hoz := hn9; clear hn9
      replace hT := hT.own hs9 (by omega)
      have hz9 := hs9.size
      refine ⟨trivial, ?_⟩
      refine Dd (by kernel_rfl) (hK13 _ _ ?_)
      refine hK12 _ _ ?_
      refine cw_region fun _ κ => ?_
      refine Sm rfl rfl ?_
      refine as_q rfl rfl (q_subx rfl rfl (by omega) (by omega)) ?_
      refine Sa rfl rfl ?_
      refine as_nil (κ _ _ ?_)
      refine ⟨_, _, ?_, (.cons rfl (.cons rfl (.cons rfl (.cons rfl (.cons rfl (.cons rfl (.nil _))))))), _, m.meld out, _, _, rfl, ?_, ?_, ?_, ?_, rfl, hT, hn, hoz, hor, hbu, hmk⟩
      · omega
      · omega
      · omega
      · rw [hmod2, htk, show (z - 1 + 1).toNat = z.toNat by omega, List.foldr_append]; rfl
      · rw [show (z - 1 + 1).toNat = z.toNat by omega, Pr.meld_size]; omega
    · skip
      replace hc1 := of_decide_eq_false hc1
      refine cw_exit ?_
      refine hK8 _ _ ?_
      refine cw_rs fun _ κ => ?_
      refine Sc 1 rfl (by kernel_rfl) rfl (by exact Blk.cells hoz.1 rfl) ?_
      refine as_h0 (h_store hT.sat hor rfl rfl rfl (by kernel_rfl) rfl rfl rfl fun w10 hs10 hn10 => ?_)
      replace hoz := hoz.step hs10 (fun h => by have h : _ = _ := h; omega)
      replace hbu := hbu.step hs10 (fun g hg h => (hbz2 g hg).2 h)
      replace hmk := hmk.mono hs10.le
      replace hou := hou.mono hs10.le
      clear hor; have hor := hn10; clear hn10
      replace hT := hT.own hs10 (by omega)
      have hz10 := hs10.size
      refine as_nil (κ _ _ ?_)
      refine cw_ret ?_
      rw [hmod2, show (z + 1).toNat = 0 by omega, List.take_zero]
      exact ⟨_, (res_cell rfl (loadVar_n (n := 1) (by kernel_rfl) (by exact Blk.cells hor.1 rfl)) res_nil), _, _, rfl, hT, hou⟩
  · skip
    have hsz1 : Pr.sizes [a] = a.size + 0 := rfl
    obtain ⟨hna, qa, l2, rfl, hka, hk2⟩ := preps_cons.1 hk
    have hl0 := preps_nil.1 hk2
    subst hl0
    clear hk2
    refine cw_rs fun _ κ => ?_
    refine Sc 1 rfl (by kernel_rfl) rfl (by exact Blk.cells hol.1 rfl) ?_
    refine as_h rfl (h_call (by kernel_rfl) rfl ?_)
    refine (cp_len hT.sat hcl).mono ?_
    rintro _ w11 ⟨rfl, hs11⟩
    replace hbu := hbu.then hs11
    replace hmk := hmk.mono hs11.le
    replace hcl := hcl.mono hs11.le
    replace hk := hk.mono hs11.le
    replace hol := hol.then hs11
    replace hor := hor.then hs11
    replace hka := hka.mono hs11.le
    replace hT := hT.then hs11
    have hz11 := hs11.size
    refine as_q rfl rfl (q_gt rfl rfl) ?_
    refine as_nil (κ _ _ ?_)
    refine cw_false rfl ?_
    refine cw_exit ?_
    refine hK4 _ _ ?_
    refine cw_rs fun _ κ => ?_
    refine Sc 1 rfl (by kernel_rfl) rfl (by exact Blk.cells hol.1 rfl) ?_
    refine as_h rfl (h_call (by kernel_rfl) rfl ?_)
    refine (cp_first hs11.sat hcl).mono ?_
    rintro _ w12 ⟨rfl, hs12⟩
    replace hbu := hbu.then hs12
    replace hmk := hmk.mono hs12.le
    replace hcl := hcl.mono hs12.le
    replace hk := hk.mono hs12.le
    replace hol := hol.then hs12
    replace hor := hor.then hs12
    replace hka := hka.mono hs12.le
    replace hT := hT.then hs12
    have hz12 := hs12.size
    refine Sm rfl rfl ?_
    refine Se rfl rfl rfl ?_
    refine Se rfl rfl rfl ?_
    have hblt := hbu.lt
    have hqaz := hT.size
    refine as_h rfl (h_allocO (z := (.agg #[(.pointer none)])) hs12.sat (by kernel_rfl) rfl fun bz w13 hs13 hoz ez => ?_)
    replace hbu := hbu.then hs13
    replace hmk := hmk.mono hs13.le
    replace hcl := hcl.mono hs13.le
    replace hk := hk.mono hs13.le
    replace hol := hol.then hs13
    replace hor := hor.then hs13
    replace hka := hka.mono hs13.le
    replace hT := hT.then hs13
    have hz13 := hs13.size
    have hlz := hoz.1.lt
    refine as_h0 (h_store hs13.sat hoz rfl rfl rfl (by kernel_rfl) rfl rfl rfl fun w14 hs14 hn14 => ?_)
    replace hbu := hbu.step hs14 (fun g hg h => by have h : g = bz := h; have := hblt g hg; omega)
    replace hmk := hmk.mono hs14.le
    replace hcl := hcl.mono hs14.le
    replace hk := hk.mono hs14.le
    replace hol := hol.step hs14 (fun h => by have h : _ = _ := h; omega)
    replace hor := hor.step hs14 (fun h => by have h : _ = _ := h; omega)
    replace hka := hka.mono hs14.le
    clear hoz; have hoz := hn14; clear hn14
    replace hT := hT.own hs14 (by omega)
    have hz14 := hs14.size
    refine Sa rfl rfl ?_
    refine as_nil (κ _ _ ?_)
    refine cw_seq fun _ hK18 => ?_
    refine cw_rs fun _ κ => ?_
    refine Sm rfl rfl ?_
    refine as_q rfl rfl (q_len (by kernel_rfl) rfl _) ?_
    refine as_q rfl rfl (q_subx rfl rfl (by omega) (by omega)) ?_
    refine Sa rfl rfl ?_
    refine as_nil (κ _ _ ?_)
    refine cw_block ?_
    refine cw_loop (fun mm l1 w1 => ∃ (z : Int) (out : Pr) (oq : Option Addr) (M2 : Mem), mm = (z + 1).toNat ∧ -1 ≤ z ∧ z < ms.length ∧ Pr.pair ks = (ms.take (z + 1).toNat).foldr Pr.meld out ∧ Pr.sizes (ms.take (z + 1).toNat) + out.size ≤ 1000000000 ∧ l1 = [(0, .pointer none), (4, .pointer (some ⟨br, 0, none⟩)), (5, .func (.func 162) #[] #[]), (6, .slice sa ms.length sc), (11, .pointer (some ⟨bz, 0, none⟩)), (13, .int .i64 z)] ∧ Step Nope M w M2 w1 ∧ PRep 251 260 M2 out oq ∧ Own w1 M2 bz [.pointer oq] 79 ∧ Own w1 M2 br [.pointer none] 79 ∧ Buf w1 M2 79 1 (.slice sa ms.length sc) ms.length (ptrs al) ∧ PReps 251 260 M2 ms al) (ms.length) [(0, .pointer none), (4, .pointer (some ⟨br, 0, none⟩)), (5, .func (.func 162) #[] #[]), (6, .slice sa ms.length sc), (11, .pointer (some ⟨bz, 0, none⟩)), (13, .int .i64 ((ms.length : Int) - 1))] (.cons rfl (.cons rfl (.cons rfl (.cons rfl (.cons rfl (.cons rfl (.nil _))))))) ?_ ?_
    · skip
      refine ⟨(ms.length : Int) - 1, a, qa, _, by omega, by omega, by omega, ?_, ?_, rfl, hT, hka, hoz, hor, hbu, hmk⟩
      · rw [List.take_of_length_le (by omega), hmod]; rfl
      · rw [List.take_of_length_le (by omega)]; simp only [Pr.sizes, Pr.size] at hzz ⊢; omega
    have hbzw : w.heap.size ≤ bz ∧ bz ≠ br := by omega
    have hwz : bz < w14.heap.size ∧ br < w14.heap.size := ⟨hoz.1.lt, hor.1.lt⟩
    have hbz2 : ∀ g, (Value.slice sa ms.length sc).ownBlock = some g → g ≠ bz ∧ g ≠ br := fun g hg => ⟨fun h => by have := hbu.lt g hg; have := hblt g hg; omega, fun h => by have := hfr g hg; omega⟩
    clear hT hoz hor hbu hmk
    rintro mm l1 w2 ⟨z, out, oq, M2, rfl, hz1, hz2, hmod2, hzz2, rfl, hT, hou, hoz, hor, hbu, hmk⟩
    refine cw_seq fun _ hK20 => ?_
    refine cw_rs fun _ κ => ?_
    refine Sm rfl rfl ?_
    refine as_q rfl rfl (q_ge rfl rfl) ?_
    refine as_nil (κ _ _ ?_)
    refine cw_cond rfl (fun hc1 => ?_) (fun hc1 => ?_)
    · skip
      replace hc1 := of_decide_eq_true hc1
      obtain ⟨m, hm⟩ : ∃ m, ms[z.toNat]? = some m := ⟨ms[z.toNat]'(by omega), by simp⟩
      have htk : ms.take (z + 1).toNat = ms.take z.toNat ++ [m] := by rw [show (z + 1).toNat = z.toNat + 1 by omega, List.take_add_one, hm]; rfl
      have hsz := pr_sizes_append (ms.take z.toNat) [m]
      rw [← htk] at hsz
      have hsz1 : Pr.sizes [m] = m.size + 0 := rfl
      obtain ⟨mq, hmq, hmr⟩ := preps_get hmk hm
      obtain ⟨g, o, rfl⟩ := hbu.rd.there (by omega)
      refine cw_skip ?_
      refine hK20 _ _ ?_
      refine cw_seq fun _ hK22 => ?_
      refine cw_block ?_
      refine cw_drawn (by kernel_rfl) (by kernel_rfl) (by kernel_rfl) rfl rfl fun K23 hK23 => ?_
      have hs15 := Step.drew hT.sat
      have hz15 := hs15.size
      replace hoz := hoz.then hs15
      replace hor := hor.then hs15
      replace hbu := hbu.then hs15
      replace hmk := hmk.mono hs15.le
      replace hou := hou.mono hs15.le
      replace hT := hT.then hs15
      refine Dm 0 1 rfl (by kernel_rfl) rfl ?_
      refine Dm 1 3 rfl (by kernel_rfl) rfl ?_
      refine Dm 2 7 rfl (by kernel_rfl) rfl ?_
      refine Dq 3 15 rfl (by kernel_rfl) (fun _ => (q_indexAddr (e := 79) (size := 1) (by kernel_rfl) (by kernel_rfl) rfl rfl (by omega) (by omega))) ?_
      refine Dlc 4 31 1 rfl (by kernel_rfl) (by kernel_rfl) rfl (cells_one (Buf.cell hbu (u := .pointer mq) (j := z.toNat * 1) (by simp [ptrs, hmq]))) ?_
      refine Dm 5 63 rfl (by kernel_rfl) rfl ?_
      refine Dlc 6 127 1 rfl (by kernel_rfl) (by kernel_rfl) rfl (by exact Blk.cells hoz.1 rfl) ?_
      refine Dh 7 255 rfl (by kernel_rfl) (keep_sift (bs := [T,T]) (by kernel_rfl)) (h_callv (f := 162) (first := []) (cap := []) (by kernel_rfl) rfl rfl rfl ?_)
      refine (p_meld (t := m) (o := out) hs15.sat hmr hou (by omega)).mono ?_
      rintro _ w16 ⟨nq, nM, rfl, hs16, hn⟩
      replace hoz := hoz.then hs16
      replace hor := hor.then hs16
      replace hbu := hbu.then hs16
      replace hmk := hmk.mono hs16.le
      replace hou := hou.mono hs16.le
      replace hT := hT.then hs16
      have hz16 := hs16.size
      refine ⟨trivial, ?_⟩
      refine Dh0 8 511 rfl (by kernel_rfl) rfl (h_store hs16.sat hoz rfl rfl rfl (by kernel_rfl) rfl rfl rfl fun w17 hs17 hn17 => ?_)
      replace hor := hor.step hs17 (fun h => by have h : _ = _ := h; omega)
      replace hbu := hbu.step hs17 (fun g hg h => (hbz2 g hg).1 h)
      replace hmk := hmk.mono hs17.le
      replace hou := hou.mono hs17.le
      replace hn := hn.mono hs17.le
      clear hoz; have hoz := hn17; clear hn17
      replace hT := hT.own hs17 (by omega)
      have hz17 := hs17.size
      refine ⟨trivial, ?_⟩
      refine Dd (by kernel_rfl) (hK23 _ _ ?_)
      refine hK22 _ _ ?_
      refine cw_region fun _ κ => ?_
      refine Sm rfl rfl ?_
      refine as_q rfl rfl (q_subx rfl rfl (by omega) (by omega)) ?_
      refine Sa rfl rfl ?_
      refine as_nil (κ _ _ ?_)
      refine ⟨_, _, ?_, (.cons rfl (.cons rfl (.cons rfl (.cons rfl (.cons rfl (.cons rfl (.nil _))))))), _, m.meld out, _, _, rfl, ?_, ?_, ?_, ?_, rfl, hT, hn, hoz, hor, hbu, hmk⟩
      · omega
      · omega
      · omega
      · rw [hmod2, htk, show (z - 1 + 1).toNat = z.toNat by omega, List.foldr_append]; rfl
      · rw [show (z - 1 + 1).toNat = z.toNat by omega, Pr.meld_size]; omega
    · skip
      replace hc1 := of_decide_eq_false hc1
      refine cw_exit ?_
      refine hK18 _ _ ?_
      refine cw_rs fun _ κ => ?_
      refine Sc 1 rfl (by kernel_rfl) rfl (by exact Blk.cells hoz.1 rfl) ?_
      refine as_h0 (h_store hT.sat hor rfl rfl rfl (by kernel_rfl) rfl rfl rfl fun w18 hs18 hn18 => ?_)
      replace hbu := hbu.step hs18 (fun g hg h => (hbz2 g hg).2 h)
      replace hmk := hmk.mono hs18.le
      replace hou := hou.mono hs18.le
      clear hor; have hor := hn18; clear hn18
      replace hT := hT.own hs18 (by omega)
      have hz18 := hs18.size
      refine as_nil (κ _ _ ?_)
      refine cw_ret ?_
      rw [hmod2, show (z + 1).toNat = 0 by omega, List.take_zero]
      exact ⟨_, (res_cell rfl (loadVar_n (n := 1) (by kernel_rfl) (by exact Blk.cells hor.1 rfl)) res_nil), _, _, rfl, hT, hou⟩
  · skip
    have hsz1 : Pr.sizes (a :: b :: rest) = a.size + (b.size + Pr.sizes rest) := rfl
    obtain ⟨hna, qa, l2, rfl, hka, hk1⟩ := preps_cons.1 hk
    obtain ⟨hnb, qb, l3, rfl, hkb, hk2⟩ := preps_cons.1 hk1
    clear hk1
    have hlc : (qa :: qb :: l3).length = l3.length + 2 := rfl
    refine cw_rs fun _ κ => ?_
    refine Sc 1 rfl (by kernel_rfl) rfl (by exact Blk.cells hol.1 rfl) ?_
    refine as_h rfl (h_call (by kernel_rfl) rfl ?_)
    refine (cp_len hT.sat hcl).mono ?_
    rintro _ w19 ⟨rfl, hs19⟩
    replace hbu := hbu.then hs19
    replace hmk := hmk.mono hs19.le
    replace hcl := hcl.mono hs19.le
    replace hk := hk.mono hs19.le
    replace hol := hol.then hs19
    replace hor := hor.then hs19
    replace hka := hka.mono hs19.le
    replace hkb := hkb.mono hs19.le
    replace hk2 := hk2.mono hs19.le
    replace hT := hT.then hs19
    have hz19 := hs19.size
    refine as_q rfl rfl (q_gtT rfl rfl (by omega)) ?_
    refine as_nil (κ _ _ ?_)
    refine cw_true rfl ?_
    refine cw_skip ?_
    refine hK5 _ _ ?_
    refine cw_block ?_
    refine cw_rs fun _ κ => ?_
    refine Sc 1 rfl (by kernel_rfl) rfl (by exact Blk.cells hol.1 rfl) ?_
    refine as_h rfl (h_call (by kernel_rfl) rfl ?_)
    refine (cp_first hs19.sat hcl).mono ?_
    rintro _ w20 ⟨rfl, hs20⟩
    replace hbu := hbu.then hs20
    replace hmk := hmk.mono hs20.le
    replace hcl := hcl.mono hs20.le
    replace hk := hk.mono hs20.le
    replace hol := hol.then hs20
    replace hor := hor.then hs20
    replace hka := hka.mono hs20.le
    replace hkb := hkb.mono hs20.le
    replace hk2 := hk2.mono hs20.le
    replace hT := hT.then hs20
    have hz20 := hs20.size
    refine Sm rfl rfl ?_
    refine Se rfl rfl rfl ?_
    refine Se rfl rfl rfl ?_
    have hblt := hbu.lt
    have hqax := hT.size
    refine as_h rfl (h_allocO (z := (.agg #[(.pointer none)])) hs20.sat (by kernel_rfl) rfl fun bx w21 hs21 hox ex => ?_)
    replace hbu := hbu.then hs21
    replace hmk := hmk.mono hs21.le
    replace hcl := hcl.mono hs21.le
    replace hk := hk.mono hs21.le
    replace hol := hol.then hs21
    replace hor := hor.then hs21
    replace hka := hka.mono hs21.le
    replace hkb := hkb.mono hs21.le
    replace hk2 := hk2.mono hs21.le
    replace hT := hT.then hs21
    have hz21 := hs21.size
    have hlx := hox.1.lt
    refine as_h0 (h_store hs21.sat hox rfl rfl rfl (by kernel_rfl) rfl rfl rfl fun w22 hs22 hn22 => ?_)
    replace hbu := hbu.step hs22 (fun g hg h => by have h : g = bx := h; have := hblt g hg; omega)
    replace hmk := hmk.mono hs22.le
    replace hcl := hcl.mono hs22.le
    replace hk := hk.mono hs22.le
    replace hol := hol.step hs22 (fun h => by have h : _ = _ := h; omega)
    replace hor := hor.step hs22 (fun h => by have h : _ = _ := h; omega)
    replace hka := hka.mono hs22.le
    replace hkb := hkb.mono hs22.le
    replace hk2 := hk2.mono hs22.le
    clear hox; have hox := hn22; clear hn22
    replace hT := hT.own hs22 (by omega)
    have hz22 := hs22.size
    refine Sa rfl rfl ?_
    refine as_nil (κ _ _ ?_)
    refine cw_rs fun _ κ => ?_
    refine Sc 1 rfl (by kernel_rfl) rfl (by exact Blk.cells hol.1 rfl) ?_
    refine as_h rfl (h_call (by kernel_rfl) rfl ?_)
    refine (cp_rest hs22.sat hcl).mono ?_
    rintro _ w23 ⟨qr, rfl, hs23, hcr⟩
    replace hbu := hbu.then hs23
    replace hmk := hmk.mono hs23.le
    replace hcl := hcl.mono hs23.le
    replace hk := hk.mono hs23.le
    replace hol := hol.then hs23
    replace hor := hor.then hs23
    replace hka := hka.mono hs23.le
    replace hkb := hkb.mono hs23.le
    replace hk2 := hk2.mono hs23.le
    replace hox := hox.then hs23
    replace hT := hT.then hs23
    have hz23 := hs23.size
    refine as_h rfl (h_call (by kernel_rfl) rfl ?_)
    refine (cp_first hs23.sat hcr).mono ?_
    rintro _ w24 ⟨rfl, hs24⟩
    replace hbu := hbu.then hs24
    replace hmk := hmk.mono hs24.le
    replace hcl := hcl.mono hs24.le
    replace hk := hk.mono hs24.le
    replace hol := hol.then hs24
    replace hor := hor.then hs24
    replace hka := hka.mono hs24.le
    replace hkb := hkb.mono hs24.le
    replace hk2 := hk2.mono hs24.le
    replace hox := hox.then hs24
    replace hT := hT.then hs24
    have hz24 := hs24.size
    refine Sm rfl rfl ?_
    refine Se rfl rfl rfl ?_
    refine Se rfl rfl rfl ?_
    have hblt := hbu.lt
    have hqav := hT.size
    refine as_h rfl (h_allocO (z := (.agg #[(.pointer none)])) hs24.sat (by kernel_rfl) rfl fun bv w25 hs25 hov ev => ?_)
    replace hbu := hbu.then hs25
    replace hmk := hmk.mono hs25.le
    replace hcl := hcl.mono hs25.le
    replace hk := hk.mono hs25.le
    replace hol := hol.then hs25
    replace hor := hor.then hs25
    replace hka := hka.mono hs25.le
    replace hkb := hkb.mono hs25.le
    replace hk2 := hk2.mono hs25.le
    replace hox := hox.then hs25
    replace hT := hT.then hs25
    have hz25 := hs25.size
    have hlv := hov.1.lt
    refine as_h0 (h_store hs25.sat hov rfl rfl rfl (by kernel_rfl) rfl rfl rfl fun w26 hs26 hn26 => ?_)
    replace hbu := hbu.step hs26 (fun g hg h => by have h : g = bv := h; have := hblt g hg; omega)
    replace hmk := hmk.mono hs26.le
    replace hcl := hcl.mono hs26.le
    replace hk := hk.mono hs26.le
    replace hol := hol.step hs26 (fun h => by have h : _ = _ := h; omega)
    replace hor := hor.step hs26 (fun h => by have h : _ = _ := h; omega)
    replace hka := hka.mono hs26.le
    replace hkb := hkb.mono hs26.le
    replace hk2 := hk2.mono hs26.le
    replace hox := hox.step hs26 (fun h => by have h : _ = _ := h; omega)
    clear hov; have hov := hn26; clear hn26
    replace hT := hT.own hs26 (by omega)
    have hz26 := hs26.size
    refine Sa rfl rfl ?_
    refine as_nil (κ _ _ ?_)
    refine cw_rs fun _ κ => ?_
    refine Sm rfl rfl ?_
    refine Sm rfl rfl ?_
    refine Sc 1 rfl (by kernel_rfl) rfl (by exact Blk.cells hox.1 rfl) ?_
    refine Sm rfl rfl ?_
    refine Sc 1 rfl (by kernel_rfl) rfl (by exact Blk.cells hov.1 rfl) ?_
    refine as_h rfl (h_callv (f := 162) (first := []) (cap := []) (by kernel_rfl) rfl rfl rfl ?_)
    refine (p_meld (t := a) (o := b) hs26.sat hka hkb (by omega)).mono ?_
    rintro _ w27 ⟨nq, nM, rfl, hs27, hn⟩
    replace hbu := hbu.then hs27
    replace hmk := hmk.mono hs27.le
    replace hcl := hcl.mono hs27.le
    replace hk := hk.mono hs27.le
    replace hol := hol.then hs27
    replace hor := hor.then hs27
    replace hk2 := hk2.mono hs27.le
    replace hox := hox.then hs27
    replace hov := hov.then hs27
    replace hT := hT.then hs27
    have hz27 := hs27.size
    refine as_h rfl (h_buildO (e := 79) (size := 1) (zs := [.pointer none]) (cs := [_]) (by kernel_rfl) (by kernel_rfl) (by kernel_rfl) rfl hs27.sat rfl rfl fun bB w28 hs28 hoB eB => ?_)
    replace hbu := hbu.then hs28
    replace hmk := hmk.mono hs28.le
    replace hcl := hcl.mono hs28.le
    replace hk := hk.mono hs28.le
    replace hol := hol.then hs28
    replace hor := hor.then hs28
    replace hk2 := hk2.mono hs28.le
    replace hox := hox.then hs28
    replace hov := hov.then hs28
    replace hn := hn.mono hs28.le
    replace hT := hT.then hs28
    have hz28 := hs28.size
    have hrx := Buf.rd (Own.buf hoB (n := 1) (size := 1) rfl (by decide))
    have hTq := hT.size
    refine as_h rfl (h_append (e := 79) (size := 1) (bytes := 8) (by kernel_rfl) hs28.sat hbu hrx rfl rfl (fun y hy => by obtain rfl := List.mem_singleton.1 hy; rfl) (by omega) rfl fun sv w29 hs29 hbu2 hor2 => ?_)
    replace hmk := hmk.mono hs29.le
    replace hcl := hcl.mono hs29.le
    replace hk := hk.mono hs29.le
    replace hol := hol.step hs29 (fun h => by have := hfr _ h; omega)
    replace hor := hor.step hs29 (fun h => by have := hfr _ h; omega)
    replace hk2 := hk2.mono hs29.le
    clear hox
    clear hov
    replace hn := hn.mono hs29.le
    replace hT := hT.trans hs29 (fun k hk h => by have := hfr k h; omega)
    have hz_ := hs29.size
    have hfr2 : ∀ g, sv.ownBlock = some g → w2.heap.size ≤ g := fun g hg => by
      rcases hor2 with h | h
      · rw [h] at hg; exact hfr g hg
      · rw [h] at hg; have h2 := Option.some.inj hg; omega
    clear hbu
    have hbu := hbu2
    clear hfr
    have hfr := hfr2
    obtain ⟨sva, svc, rfl, _, _⟩ := hbu.slice
    refine Sa rfl rfl ?_
    refine as_nil (κ _ _ ?_)
    refine cw_region fun _ κ => ?_
    refine Sc 1 rfl (by kernel_rfl) rfl (by exact Blk.cells hol.1 rfl) ?_
    refine as_h rfl (h_call (by kernel_rfl) rfl ?_)
    refine (cp_drop (n := 2) hs29.sat hcl (by decide)).mono ?_
    rintro _ w30 ⟨qd, rfl, hs30, hcd⟩
    replace hcd : CRep 260 _ l3 (.pointer qd) := hcd
    replace hmk := hmk.mono hs30.le
    replace hol := hol.then hs30
    replace hor := hor.then hs30
    replace hk2 := hk2.mono hs30.le
    replace hn := hn.mono hs30.le
    replace hbu := hbu.then hs30
    replace hT := hT.then hs30
    have hz30 := hs30.size
    refine as_h0 (h_store hs30.sat hol rfl rfl rfl (by kernel_rfl) rfl rfl rfl fun w31 hs31 hn31 => ?_)
    replace hmk := hmk.mono hs31.le
    replace hor := hor.step hs31 (fun h => by have h : _ = _ := h; omega)
    replace hk2 := hk2.mono hs31.le
    replace hn := hn.mono hs31.le
    replace hbu := hbu.step hs31 (fun g hg h => by have h : g = bl := h; have := hfr g hg; omega)
    replace hcd := hcd.mono hs31.le
    clear hol; have hol := hn31; clear hn31
    replace hT := hT.own hs31 (by omega)
    have hz31 := hs31.size
    refine as_nil (κ _ _ ?_)
    refine ⟨_, _, ?_, (.cons rfl (.cons rfl (.cons rfl (.cons rfl (.cons rfl (.nil _)))))), ms ++ [a.meld b], rest, al ++ [nq], l3, _, _, _, _, _, rfl, by simp, ?_, ?_, rfl, hT, by omega, ?_, preps_snoc hmk (pr_meld_ne hna) hn, hcd, hk2, hol, hor, hfr⟩
    · simp only [List.length_cons]; omega
    · rw [hmod, List.foldr_append]; rfl
    · rw [pr_sizes_append]; simp only [Pr.sizes, Pr.meld_size] at hzz ⊢; omega
    · simpa [ptrs] using hbu
theorem p_pop {w : World} {M : Mem} {x : El} {ks : List Pr} {q : Option Addr} (hs : Sat M w) (h : PRep 251 260 M (.node x ks) q) (hz : (Pr.node x ks).size ≤ 1000000000) :
    Does Tryz.prog 164 #[.agg #[.pointer q], .pointer none] w (fun v w' => ∃ q M', v = .tuple #[.agg #[.pointer q], .bool true] ∧ Step Nope M w M' w' ∧ PRep 251 260 M' (Pr.pair ks) q) := by
  have hT := Step.refl Nope hs
  obtain ⟨b, kq, al, rfl, hb, hc, hk⟩ := prep_node.1 h
  refine fn_enter Tryz.func164 rfl (rs := [.cell 4 79, .tmp 5]) rfl rfl rfl rfl ?_
  refine cw_rs fun _ κ => ?_
  refine as_h rfl (h_boxM hs rfl rfl fun b1 M1 w1 hs1 hb1 e1 => ?_)
  replace hb := hs1.le _ _ hb
  replace hc := hc.mono hs1.le
  replace hk := hk.mono hs1.le
  replace hT := hT.then hs1
  have hz1 := hs1.size
  have hqar := hT.size
  refine as_h rfl (h_allocO (z := (.agg #[(.pointer none)])) hs1.sat (by kernel_rfl) rfl fun br w2 hs2 hor er => ?_)
  replace hb := hs2.le _ _ hb
  replace hc := hc.mono hs2.le
  replace hk := hk.mono hs2.le
  replace hb1 := hs2.le _ _ hb1
  replace hT := hT.then hs2
  have hz2 := hs2.size
  have hlr := hor.1.lt
  refine Sa rfl rfl ?_
  refine as_nil (κ _ _ ?_)
  refine cw_seq fun _ hK2 => ?_
  refine cw_rs fun _ κ => ?_
  refine Sf 0 rfl (by kernel_rfl) rfl ?_
  refine S1 rfl (by kernel_rfl) rfl (by exact BlkR.cell (hs2.sat _ _ _ hb1) rfl) ?_
  refine as_q rfl rfl (q_eqnil (by kernel_rfl) rfl) ?_
  refine as_nil (κ _ _ ?_)
  refine cw_false rfl ?_
  refine cw_skip ?_
  refine hK2 _ _ ?_
  refine cw_rs fun _ κ => ?_
  refine Sm rfl rfl ?_
  refine Sf 0 rfl (by kernel_rfl) rfl ?_
  refine S1 rfl (by kernel_rfl) rfl (by exact BlkR.cell (hs2.sat _ _ _ hb1) rfl) ?_
  refine as_q rfl rfl (q_nilp rfl) ?_
  refine Sf 2 rfl (by kernel_rfl) rfl ?_
  refine Sc 1 rfl (by kernel_rfl) rfl (by exact BlkR.cells (hs2.sat _ _ _ hb) rfl) ?_
  refine as_h rfl (h_call (by kernel_rfl) rfl ?_)
  refine (p_pair hs2.sat hc hk (by simp only [Pr.size] at hz; omega)).mono ?_
  rintro _ w3 ⟨qm, Mm, rfl, hs3, hm⟩
  replace hor := hor.then hs3
  replace hT := hT.then hs3
  have hz3 := hs3.size
  refine as_h0 (h_store hs3.sat hor rfl rfl rfl (by kernel_rfl) rfl rfl rfl fun w4 hs4 hn4 => ?_)
  replace hm := hm.mono hs4.le
  clear hor; have hor := hn4; clear hn4
  replace hT := hT.own hs4 (by omega)
  have hz4 := hs4.size
  refine Sa rfl rfl ?_
  refine as_nil (κ _ _ ?_)
  refine cw_ret ?_
  exact ⟨_, (res_cell rfl (loadVar_n (n := 1) (by kernel_rfl) (by exact Blk.cells hor.1 rfl)) (res_tmp rfl res_nil)), _, _, rfl, hT, hm⟩
end Go.Proofs.YtgcgjpfjjgalmaaGreat
/- Heaps of the kinds without their least element, as heaps of any kind, part 1. -/
namespace Go.Proofs.YtgcgjpfjjgalmaaGreat
open Go Go.Eng
theorem wa_pop {w : World} {M : Mem} {x : El} {l r : Lft} {q : Option Addr} (hs : Sat M w) (h : LRep 171 M (.node x l r) (.pointer q)) (hz : (Lft.node x l r).size ≤ 1000000000) :
    Does Tryz.prog 93 #[.agg #[.pointer q], .pointer none] w (fun v w' => ∃ q M', v = .iface 69 (.agg #[.pointer q]) ∧ Step Nope M w M' w' ∧ LRep 171 M' (l.meld r) (.pointer q)) := by
  have hT := Step.refl Nope hs
  refine fn_enter Tryz.func93 rfl (rs := [.tmp 4]) rfl rfl rfl rfl ?_
  refine cw_rs fun _ κ => ?_
  refine as_h rfl (h_boxM hs rfl rfl fun b1 M1 w1 hs1 hb1 e1 => ?_)
  replace h := h.mono hs1.le
  replace hT := hT.then hs1
  have hz1 := hs1.size
  refine Sa rfl rfl ?_
  refine as_nil (κ _ _ ?_)
  refine cw_rs fun _ κ => ?_
  refine Sf 0 rfl (by kernel_rfl) rfl ?_
  refine Sc 1 rfl (by kernel_rfl) rfl (by exact BlkR.cells (hs1.sat _ _ _ hb1) rfl) ?_
  refine as_q rfl rfl (q_iface (by kernel_rfl) rfl) ?_
  refine Sm rfl rfl ?_
  refine as_h rfl (h_invoke (f := 281) (r := .agg #[.pointer q]) (by kernel_rfl) rfl rfl (by kernel_rfl) ?_)
  refine (l_pop hs1.sat h hz).mono ?_
  rintro _ w2 ⟨pn, Mn, rfl, hs2, hn⟩
  obtain ⟨qn, rfl⟩ := hn.ptr
  replace h := h.mono hs2.le
  replace hT := hT.then hs2
  have hz2 := hs2.size
  refine Sm rfl rfl ?_
  refine Se rfl rfl rfl ?_
  refine Se rfl rfl rfl ?_
  have hqap := hT.size
  refine as_h rfl (h_allocO (z := (.agg #[(.pointer none)])) hs2.sat (by kernel_rfl) rfl fun bp w3 hs3 hop ep => ?_)
  replace h := h.mono hs3.le
  replace hn := hn.mono hs3.le
  replace hT := hT.then hs3
  have hz3 := hs3.size
  have hlp := hop.1.lt
  refine as_h0 (h_store hs3.sat hop rfl rfl rfl (by kernel_rfl) rfl rfl rfl fun w4 hs4 hn4 => ?_)
  replace h := h.mono hs4.le
  replace hn := hn.mono hs4.le
  clear hop; have hop := hn4; clear hn4
  replace hT := hT.own hs4 (by omega)
  have hz4 := hs4.size
  refine Sa rfl rfl ?_
  refine as_nil (κ _ _ ?_)
  refine cw_rs fun _ κ => ?_
  refine Sc 1 rfl (by kernel_rfl) rfl (by exact Blk.cells hop.1 rfl) ?_
  refine as_q rfl rfl (q_build (zs := [(.pointer none)]) (places := [(0, 1)]) (cs := [_]) (by kernel_rfl) (by kernel_rfl) rfl rfl) ?_
  refine as_q rfl rfl (q_iface (by kernel_rfl) rfl) ?_
  refine Sa rfl rfl ?_
  refine as_nil (κ _ _ ?_)
  refine cw_ret ?_
  exact ⟨_, (res_tmp rfl res_nil), _, _, rfl, hT, hn⟩
theorem wc_pop {w : World} {M : Mem} {x : El} {ks : List Pr} {q : Option Addr} (hs : Sat M w) (h : PRep 251 260 M (.node x ks) q) (hz : (Pr.node x ks).size ≤ 1000000000) :
    Does Tryz.prog 179 #[.agg #[.pointer q], .pointer none] w (fun v w' => ∃ q M', v = .iface 81 (.agg #[.pointer q]) ∧ Step Nope M w M' w' ∧ PRep 251 260 M' (Pr.pair ks) q) := by
  have hT := Step.refl Nope hs
  refine fn_enter Tryz.func179 rfl (rs := [.tmp 4]) rfl rfl rfl rfl ?_
  refine cw_rs fun _ κ => ?_
  refine as_h rfl (h_boxM hs rfl rfl fun b1 M1 w1 hs1 hb1 e1 => ?_)
  replace h := h.mono hs1.le
  replace hT := hT.then hs1
  have hz1 := hs1.size
  refine Sa rfl rfl ?_
  refine as_nil (κ _ _ ?_)
  refine cw_rs fun _ κ => ?_
  refine Sf 0 rfl (by kernel_rfl) rfl ?_
  refine Sc 1 rfl (by kernel_rfl) rfl (by exact BlkR.cells (hs1.sat _ _ _ hb1) rfl) ?_
  refine as_q rfl rfl (q_iface (by kernel_rfl) rfl) ?_
  refine Sm rfl rfl ?_
  refine as_h rfl (h_invoke (f := 164) (r := .agg #[.pointer q]) (by kernel_rfl) rfl rfl (by kernel_rfl) ?_)
  refine (p_pop hs1.sat h hz).mono ?_
  rintro _ w2 ⟨qn, Mn, rfl, hs2, hn⟩
  replace h := h.mono hs2.le
  replace hT := hT.then hs2
  have hz2 := hs2.size
  refine Sm rfl rfl ?_
  refine Se rfl rfl rfl ?_
  refine Se rfl rfl rfl ?_
  have hqap := hT.size
  refine as_h rfl (h_allocO (z := (.agg #[(.pointer none)])) hs2.sat (by kernel_rfl) rfl fun bp w3 hs3 hop ep => ?_)
  replace h := h.mono hs3.le
  replace hn := hn.mono hs3.le
  replace hT := hT.then hs3
  have hz3 := hs3.size
  have hlp := hop.1.lt
  refine as_h0 (h_store hs3.sat hop rfl rfl rfl (by kernel_rfl) rfl rfl rfl fun w4 hs4 hn4 => ?_)
  replace h := h.mono hs4.le
  replace hn := hn.mono hs4.le
  clear hop; have hop := hn4; clear hn4
  replace hT := hT.own hs4 (by omega)
  have hz4 := hs4.size
  refine Sa rfl rfl ?_
  refine as_nil (κ _ _ ?_)
  refine cw_rs fun _ κ => ?_
  refine Sc 1 rfl (by kernel_rfl) rfl (by exact Blk.cells hop.1 rfl) ?_
  refine as_q rfl rfl (q_build (zs := [(.pointer none)]) (places := [(0, 1)]) (cs := [_]) (by kernel_rfl) (by kernel_rfl) rfl rfl) ?_
  refine as_q rfl rfl (q_iface (by kernel_rfl) rfl) ?_
  refine Sa rfl rfl ?_
  refine as_nil (κ _ _ ?_)
  refine cw_ret ?_
  exact ⟨_, (res_tmp rfl res_nil), _, _, rfl, hT, hn⟩
end Go.Proofs.YtgcgjpfjjgalmaaGreat
/- Heaps of the kinds without their least element, as heaps of any kind, part 1. -/
namespace Go.Proofs.YtgcgjpfjjgalmaaGreat
open Go Go.Eng
theorem wb_pop {w : World} {M : Mem} {t : List (RT El)} {y : El} {bs : List El} {ks : List (RT El)} {q : Option Addr} (hs : Sat M w) (h : FRep 197 220 2 EncE M t q) (ht : t[leastN ltE (t.map RT.root) (t.length - 1)]? = some (.node y bs ks)) (hz : RT.sizes t ≤ 1000000000) :
    Does Tryz.prog 158 #[.agg #[.pointer q], .pointer none] w (fun v w' => ∃ q M', v = .iface 76 (.agg #[.pointer q]) ∧ Step Nope M w M' w' ∧ FRep 197 220 2 EncE M' (bpop ltE t (.node y bs ks)) q) := by
  have hT := Step.refl Nope hs
  refine fn_enter Tryz.func158 rfl (rs := [.tmp 4]) rfl rfl rfl rfl ?_
  refine cw_rs fun _ κ => ?_
  refine as_h rfl (h_boxM hs rfl rfl fun b1 M1 w1 hs1 hb1 e1 => ?_)
  replace h := h.mono' EncE.mono hs1.le
  replace hT := hT.then hs1
  have hz1 := hs1.size
  refine Sa rfl rfl ?_
  refine as_nil (κ _ _ ?_)
  refine cw_rs fun _ κ => ?_
  refine Sf 0 rfl (by kernel_rfl) rfl ?_
  refine Sc 1 rfl (by kernel_rfl) rfl (by exact BlkR.cells (hs1.sat _ _ _ hb1) rfl) ?_
  refine as_q rfl rfl (q_iface (by kernel_rfl) rfl) ?_
  refine Sm rfl rfl ?_
  refine as_h rfl (h_invoke (f := 114) (r := .agg #[.pointer q]) (by kernel_rfl) rfl rfl (by kernel_rfl) ?_)
  refine (b_pop hs1.sat h ht hz).mono ?_
  rintro _ w2 ⟨qn, Mn, rfl, hs2, hn⟩
  replace h := h.mono' EncE.mono hs2.le
  replace hT := hT.then hs2
  have hz2 := hs2.size
  refine Sm rfl rfl ?_
  refine Se rfl rfl rfl ?_
  refine Se rfl rfl rfl ?_
  have hqap := hT.size
  refine as_h rfl (h_allocO (z := (.agg #[(.pointer none)])) hs2.sat (by kernel_rfl) rfl fun bp w3 hs3 hop ep => ?_)
  replace h := h.mono' EncE.mono hs3.le
  replace hn := hn.mono' EncE.mono hs3.le
  replace hT := hT.then hs3
  have hz3 := hs3.size
  have hlp := hop.1.lt
  refine as_h0 (h_store hs3.sat hop rfl rfl rfl (by kernel_rfl) rfl rfl rfl fun w4 hs4 hn4 => ?_)
  replace h := h.mono' EncE.mono hs4.le
  replace hn := hn.mono' EncE.mono hs4.le
  clear hop; have hop := hn4; clear hn4
  replace hT := hT.own hs4 (by omega)
  have hz4 := hs4.size
  refine Sa rfl rfl ?_
  refine as_nil (κ _ _ ?_)
  refine cw_rs fun _ κ => ?_
  refine Sc 1 rfl (by kernel_rfl) rfl (by exact Blk.cells hop.1 rfl) ?_
  refine as_q rfl rfl (q_build (zs := [(.pointer none)]) (places := [(0, 1)]) (cs := [_]) (by kernel_rfl) (by kernel_rfl) rfl rfl) ?_
  refine as_q rfl rfl (q_iface (by kernel_rfl) rfl) ?_
  refine Sa rfl rfl ?_
  refine as_nil (κ _ _ ?_)
  refine cw_ret ?_
  exact ⟨_, (res_tmp rfl res_nil), _, _, rfl, hT, hn⟩
theorem wd_pop {w : World} {M : Mem} {t : List (RT El)} {y : El} {bs : List El} {ks : List (RT El)} {q : Option Addr} (hs : Sat M w) (h : FRep 197 220 2 EncE M t q) (ht : t[leastN ltE (t.map RT.root) (t.length - 1)]? = some (.node y bs ks)) (hz : RT.sizes t ≤ 1000000000) :
    Does Tryz.prog 200 #[.agg #[.pointer q], .pointer none] w (fun v w' => ∃ q M', v = .iface 85 (.agg #[.pointer q]) ∧ Step Nope M w M' w' ∧ FRep 197 220 2 EncE M' (spop ltE t (.node y bs ks)) q) := by
  have hT := Step.refl Nope hs
  refine fn_enter Tryz.func200 rfl (rs := [.tmp 4]) rfl rfl rfl rfl ?_
  refine cw_rs fun _ κ => ?_
  refine as_h rfl (h_boxM hs rfl rfl fun b1 M1 w1 hs1 hb1 e1 => ?_)
  replace h := h.mono' EncE.mono hs1.le
  replace hT := hT.then hs1
  have hz1 := hs1.size
  refine Sa rfl rfl ?_
  refine as_nil (κ _ _ ?_)
  refine cw_rs fun _ κ => ?_
  refine Sf 0 rfl (by kernel_rfl) rfl ?_
  refine Sc 1 rfl (by kernel_rfl) rfl (by exact BlkR.cells (hs1.sat _ _ _ hb1) rfl) ?_
  refine as_q rfl rfl (q_iface (by kernel_rfl) rfl) ?_
  refine Sm rfl rfl ?_
  refine as_h rfl (h_invoke (f := 185) (r := .agg #[.pointer q]) (by kernel_rfl) rfl rfl (by kernel_rfl) ?_)
  refine (se_pop hs1.sat h ht hz).mono ?_
  rintro _ w2 ⟨qn, Mn, rfl, hs2, hn⟩
  replace h := h.mono' EncE.mono hs2.le
  replace hT := hT.then hs2
  have hz2 := hs2.size
  refine Sm rfl rfl ?_
  refine Se rfl rfl rfl ?_
  refine Se rfl rfl rfl ?_
  have hqap := hT.size
  refine as_h rfl (h_allocO (z := (.agg #[(.pointer none)])) hs2.sat (by kernel_rfl) rfl fun bp w3 hs3 hop ep => ?_)
  replace h := h.mono' EncE.mono hs3.le
  replace hn := hn.mono' EncE.mono hs3.le
  replace hT := hT.then hs3
  have hz3 := hs3.size
  have hlp := hop.1.lt
  refine as_h0 (h_store hs3.sat hop rfl rfl rfl (by kernel_rfl) rfl rfl rfl fun w4 hs4 hn4 => ?_)
  replace h := h.mono' EncE.mono hs4.le
  replace hn := hn.mono' EncE.mono hs4.le
  clear hop; have hop := hn4; clear hn4
  replace hT := hT.own hs4 (by omega)
  have hz4 := hs4.size
  refine Sa rfl rfl ?_
  refine as_nil (κ _ _ ?_)
  refine cw_rs fun _ κ => ?_
  refine Sc 1 rfl (by kernel_rfl) rfl (by exact Blk.cells hop.1 rfl) ?_
  refine as_q rfl rfl (q_build (zs := [(.pointer none)]) (places := [(0, 1)]) (cs := [_]) (by kernel_rfl) (by kernel_rfl) rfl rfl) ?_
  refine as_q rfl rfl (q_iface (by kernel_rfl) rfl) ?_
  refine Sa rfl rfl ?_
  refine as_nil (κ _ _ ?_)
  refine cw_ret ?_
  exact ⟨_, (res_tmp rfl res_nil), _, _, rfl, hT, hn⟩
theorem we_pop1 {w : World} {M : Mem} {x : El} {q : Option Addr} (hs : Sat M w) (h : RoRep 283 197 220 M (.node x []) q) :
    Does Tryz.prog 213 #[.agg #[.pointer q], .pointer none] w (fun v w' => ∃ q M', v = .iface 90 (.agg #[.pointer q]) ∧ Step Nope M w M' w' ∧ RoRep 283 197 220 M' .nil q) := by
  have hT := Step.refl Nope hs
  refine fn_enter Tryz.func213 rfl (rs := [.tmp 4]) rfl rfl rfl rfl ?_
  refine cw_rs fun _ κ => ?_
  refine as_h rfl (h_boxM hs rfl rfl fun b1 M1 w1 hs1 hb1 e1 => ?_)
  replace h := h.mono hs1.le
  replace hT := hT.then hs1
  have hz1 := hs1.size
  refine Sa rfl rfl ?_
  refine as_nil (κ _ _ ?_)
  refine cw_rs fun _ κ => ?_
  refine Sf 0 rfl (by kernel_rfl) rfl ?_
  refine Sc 1 rfl (by kernel_rfl) rfl (by exact BlkR.cells (hs1.sat _ _ _ hb1) rfl) ?_
  refine as_q rfl rfl (q_iface (by kernel_rfl) rfl) ?_
  refine Sm rfl rfl ?_
  refine as_h rfl (h_invoke (f := 206) (r := .agg #[.pointer q]) (by kernel_rfl) rfl rfl (by kernel_rfl) ?_)
  refine (r_pop_1 hs1.sat h).mono ?_
  rintro _ w2 ⟨qn, Mn, rfl, hs2, hn⟩
  replace h := h.mono hs2.le
  replace hT := hT.then hs2
  have hz2 := hs2.size
  refine Sm rfl rfl ?_
  refine Se rfl rfl rfl ?_
  refine Se rfl rfl rfl ?_
  have hqap := hT.size
  refine as_h rfl (h_allocO (z := (.agg #[(.pointer none)])) hs2.sat (by kernel_rfl) rfl fun bp w3 hs3 hop ep => ?_)
  replace h := h.mono hs3.le
  replace hn := hn.mono hs3.le
  replace hT := hT.then hs3
  have hz3 := hs3.size
  have hlp := hop.1.lt
  refine as_h0 (h_store hs3.sat hop rfl rfl rfl (by kernel_rfl) rfl rfl rfl fun w4 hs4 hn4 => ?_)
  replace h := h.mono hs4.le
  replace hn := hn.mono hs4.le
  clear hop; have hop := hn4; clear hn4
  replace hT := hT.own hs4 (by omega)
  have hz4 := hs4.size
  refine Sa rfl rfl ?_
  refine as_nil (κ _ _ ?_)
  refine cw_rs fun _ κ => ?_
  refine Sc 1 rfl (by kernel_rfl) rfl (by exact Blk.cells hop.1 rfl) ?_
  refine as_q rfl rfl (q_build (zs := [(.pointer none)]) (places := [(0, 1)]) (cs := [_]) (by kernel_rfl) (by kernel_rfl) rfl rfl) ?_
  refine as_q rfl rfl (q_iface (by kernel_rfl) rfl) ?_
  refine Sa rfl rfl ?_
  refine as_nil (κ _ _ ?_)
  refine cw_ret ?_
  exact ⟨_, (res_tmp rfl res_nil), _, _, rfl, hT, hn⟩
theorem we_pop2 {w : World} {M : Mem} {x y : El} {bs : List El} {ks t : List (RT El)} {q : Option Addr} (hs : Sat M w) (h : RoRep 283 197 220 M (.node x t) q) (ht : t[leastN ltE (t.map RT.root) (t.length - 1)]? = some (.node y bs ks)) (hz : RT.sizes t ≤ 1000000000) :
    Does Tryz.prog 213 #[.agg #[.pointer q], .pointer none] w (fun v w' => ∃ q M', v = .iface 90 (.agg #[.pointer q]) ∧ Step Nope M w M' w' ∧ RoRep 283 197 220 M' (.node y (spop ltE t (.node y bs ks))) q) := by
  have hT := Step.refl Nope hs
  refine fn_enter Tryz.func213 rfl (rs := [.tmp 4]) rfl rfl rfl rfl ?_
  refine cw_rs fun _ κ => ?_
  refine as_h rfl (h_boxM hs rfl rfl fun b1 M1 w1 hs1 hb1 e1 => ?_)
  replace h := h.mono hs1.le
  replace hT := hT.then hs1
  have hz1 := hs1.size
  refine Sa rfl rfl ?_
  refine as_nil (κ _ _ ?_)
  refine cw_rs fun _ κ => ?_
  refine Sf 0 rfl (by kernel_rfl) rfl ?_
  refine Sc 1 rfl (by kernel_rfl) rfl (by exact BlkR.cells (hs1.sat _ _ _ hb1) rfl) ?_
  refine as_q rfl rfl (q_iface (by kernel_rfl) rfl) ?_
  refine Sm rfl rfl ?_
  refine as_h rfl (h_invoke (f := 206) (r := .agg #[.pointer q]) (by kernel_rfl) rfl rfl (by kernel_rfl) ?_)
  refine (r_pop_2 hs1.sat h ht hz).mono ?_
  rintro _ w2 ⟨qn, Mn, rfl, hs2, hn⟩
  replace h := h.mono hs2.le
  replace hT := hT.then hs2
  have hz2 := hs2.size
  refine Sm rfl rfl ?_
  refine Se rfl rfl rfl ?_
  refine Se rfl rfl rfl ?_
  have hqap := hT.size
  refine as_h rfl (h_allocO (z := (.agg #[(.pointer none)])) hs2.sat (by kernel_rfl) rfl fun bp w3 hs3 hop ep => ?_)
  replace h := h.mono hs3.le
  replace hn := hn.mono hs3.le
  replace hT := hT.then hs3
  have hz3 := hs3.size
  have hlp := hop.1.lt
  refine as_h0 (h_store hs3.sat hop rfl rfl rfl (by kernel_rfl) rfl rfl rfl fun w4 hs4 hn4 => ?_)
  replace h := h.mono hs4.le
  replace hn := hn.mono hs4.le
  clear hop; have hop := hn4; clear hn4
  replace hT := hT.own hs4 (by omega)
  have hz4 := hs4.size
  refine Sa rfl rfl ?_
  refine as_nil (κ _ _ ?_)
  refine cw_rs fun _ κ => ?_
  refine Sc 1 rfl (by kernel_rfl) rfl (by exact Blk.cells hop.1 rfl) ?_
  refine as_q rfl rfl (q_build (zs := [(.pointer none)]) (places := [(0, 1)]) (cs := [_]) (by kernel_rfl) (by kernel_rfl) rfl rfl) ?_
  refine as_q rfl rfl (q_iface (by kernel_rfl) rfl) ?_
  refine Sa rfl rfl ?_
  refine as_nil (κ _ _ ?_)
  refine cw_ret ?_
  exact ⟨_, (res_tmp rfl res_nil), _, _, rfl, hT, hn⟩
theorem wf_pop1 {w : World} {M : Mem} {x : El} {q : Option Addr} (hs : Sat M w) (h : BRep 296 330 332 M (.node x []) q) :
    Does Tryz.prog 264 #[.agg #[.pointer q], .pointer none] w (fun v w' => ∃ q M', v = .iface 95 (.agg #[.pointer q]) ∧ Step Nope M w M' w' ∧ BRep 296 330 332 M' .nil q) := by
  have hT := Step.refl Nope hs
  refine fn_enter Tryz.func264 rfl (rs := [.tmp 4]) rfl rfl rfl rfl ?_
  refine cw_rs fun _ κ => ?_
  refine as_h rfl (h_boxM hs rfl rfl fun b1 M1 w1 hs1 hb1 e1 => ?_)
  replace h := h.mono hs1.le
  replace hT := hT.then hs1
  have hz1 := hs1.size
  refine Sa rfl rfl ?_
  refine as_nil (κ _ _ ?_)
  refine cw_rs fun _ κ => ?_
  refine Sf 0 rfl (by kernel_rfl) rfl ?_
  refine Sc 1 rfl (by kernel_rfl) rfl (by exact BlkR.cells (hs1.sat _ _ _ hb1) rfl) ?_
  refine as_q rfl rfl (q_iface (by kernel_rfl) rfl) ?_
  refine Sm rfl rfl ?_
  refine as_h rfl (h_invoke (f := 220) (r := .agg #[.pointer q]) (by kernel_rfl) rfl rfl (by kernel_rfl) ?_)
  refine (bo_pop_1 hs1.sat h).mono ?_
  rintro _ w2 ⟨qn, Mn, rfl, hs2, hn⟩
  replace h := h.mono hs2.le
  replace hT := hT.then hs2
  have hz2 := hs2.size
  refine Sm rfl rfl ?_
  refine Se rfl rfl rfl ?_
  refine Se rfl rfl rfl ?_
  have hqap := hT.size
  refine as_h rfl (h_allocO (z := (.agg #[(.pointer none)])) hs2.sat (by kernel_rfl) rfl fun bp w3 hs3 hop ep => ?_)
  replace h := h.mono hs3.le
  replace hn := hn.mono hs3.le
  replace hT := hT.then hs3
  have hz3 := hs3.size
  have hlp := hop.1.lt
  refine as_h0 (h_store hs3.sat hop rfl rfl rfl (by kernel_rfl) rfl rfl rfl fun w4 hs4 hn4 => ?_)
  replace h := h.mono hs4.le
  replace hn := hn.mono hs4.le
  clear hop; have hop := hn4; clear hn4
  replace hT := hT.own hs4 (by omega)
  have hz4 := hs4.size
  refine Sa rfl rfl ?_
  refine as_nil (κ _ _ ?_)
  refine cw_rs fun _ κ => ?_
  refine Sc 1 rfl (by kernel_rfl) rfl (by exact Blk.cells hop.1 rfl) ?_
  refine as_q rfl rfl (q_build (zs := [(.pointer none)]) (places := [(0, 1)]) (cs := [_]) (by kernel_rfl) (by kernel_rfl) rfl rfl) ?_
  refine as_q rfl rfl (q_iface (by kernel_rfl) rfl) ?_
  refine Sa rfl rfl ?_
  refine as_nil (κ _ _ ?_)
  refine cw_ret ?_
  exact ⟨_, (res_tmp rfl res_nil), _, _, rfl, hT, hn⟩
theorem wf_pop2 {w : World} {M : Mem} {x y : El} {bs : List Bt} {ks ts us : List (RT Bt)} {q : Option Addr} (hs : Sat M w) (h : BRep 296 330 332 M (.node x ts) q) (ht : ts[leastN ltB (ts.map RT.root) (ts.length - 1)]? = some (.node (.node y us) bs ks)) (hz : RT.sizes ts ≤ 1000000000) (hzm : RT.sizes us + RT.sizes (spop ltB ts (.node (.node y us) bs ks)) ≤ 1000000000) :
    Does Tryz.prog 264 #[.agg #[.pointer q], .pointer none] w (fun v w' => ∃ q M', v = .iface 95 (.agg #[.pointer q]) ∧ Step Nope M w M' w' ∧ BRep 296 330 332 M' (Bt.popped ts (.node (.node y us) bs ks) y us) q) := by
  have hT := Step.refl Nope hs
  refine fn_enter Tryz.func264 rfl (rs := [.tmp 4]) rfl rfl rfl rfl ?_
  refine cw_rs fun _ κ => ?_
  refine as_h rfl (h_boxM hs rfl rfl fun b1 M1 w1 hs1 hb1 e1 => ?_)
  replace h := h.mono hs1.le
  replace hT := hT.then hs1
  have hz1 := hs1.size
  refine Sa rfl rfl ?_
  refine as_nil (κ _ _ ?_)
  refine cw_rs fun _ κ => ?_
  refine Sf 0 rfl (by kernel_rfl) rfl ?_
  refine Sc 1 rfl (by kernel_rfl) rfl (by exact BlkR.cells (hs1.sat _ _ _ hb1) rfl) ?_
  refine as_q rfl rfl (q_iface (by kernel_rfl) rfl) ?_
  refine Sm rfl rfl ?_
  refine as_h rfl (h_invoke (f := 220) (r := .agg #[.pointer q]) (by kernel_rfl) rfl rfl (by kernel_rfl) ?_)
  refine (bo_pop_2 hs1.sat h ht hz hzm).mono ?_
  rintro _ w2 ⟨qn, Mn, rfl, hs2, hn⟩
  replace h := h.mono hs2.le
  replace hT := hT.then hs2
  have hz2 := hs2.size
  refine Sm rfl rfl ?_
  refine Se rfl rfl rfl ?_
  refine Se rfl rfl rfl ?_
  have hqap := hT.size
  refine as_h rfl (h_allocO (z := (.agg #[(.pointer none)])) hs2.sat (by kernel_rfl) rfl fun bp w3 hs3 hop ep => ?_)
  replace h := h.mono hs3.le
  replace hn := hn.mono hs3.le
  replace hT := hT.then hs3
  have hz3 := hs3.size
  have hlp := hop.1.lt
  refine as_h0 (h_store hs3.sat hop rfl rfl rfl (by kernel_rfl) rfl rfl rfl fun w4 hs4 hn4 => ?_)
  replace h := h.mono hs4.le
  replace hn := hn.mono hs4.le
  clear hop; have hop := hn4; clear hn4
  replace hT := hT.own hs4 (by omega)
  have hz4 := hs4.size
  refine Sa rfl rfl ?_
  refine as_nil (κ _ _ ?_)
  refine cw_rs fun _ κ => ?_
  refine Sc 1 rfl (by kernel_rfl) rfl (by exact Blk.cells hop.1 rfl) ?_
  refine as_q rfl rfl (q_build (zs := [(.pointer none)]) (places := [(0, 1)]) (cs := [_]) (by kernel_rfl) (by kernel_rfl) rfl rfl) ?_
  refine as_q rfl rfl (q_iface (by kernel_rfl) rfl) ?_
  refine Sa rfl rfl ?_
  refine as_nil (κ _ _ ?_)
  refine cw_ret ?_
  exact ⟨_, (res_tmp rfl res_nil), _, _, rfl, hT, hn⟩
theorem wf_size {w : World} {M : Mem} {t : Bt} {q : Option Addr} (hs : Sat M w) (h : BRep 296 330 332 M t q) (hz : Bt.cnt 1 t ≤ 1000000000) :
    Does Tryz.prog 266 #[.agg #[.pointer q]] w (fun v w' => v = .int .i64 (Bt.cnt 0 t : Nat) ∧ Step Nope M w M w') := by
  have hT := Step.refl Nope hs
  refine fn_enter Tryz.func266 rfl (rs := [.tmp 2]) rfl rfl rfl rfl ?_
  refine cw_rs fun _ κ => ?_
  refine as_h rfl (h_boxM hs rfl rfl fun b1 M1 w1 hs1 hb1 e1 => ?_)
  replace h := h.mono hs1.le
  replace hT := hT.then hs1
  refine Sa rfl rfl ?_
  refine as_nil (κ _ _ ?_)
  refine cw_rs fun _ κ => ?_
  refine Sf 0 rfl (by kernel_rfl) rfl ?_
  refine Sc 1 rfl (by kernel_rfl) rfl (by exact BlkR.cells (hs1.sat _ _ _ hb1) rfl) ?_
  refine as_q rfl rfl (q_iface (by kernel_rfl) rfl) ?_
  refine as_h rfl (h_invoke (f := 222) (r := .agg #[.pointer q]) (by kernel_rfl) rfl rfl (by kernel_rfl) ?_)
  refine (bo_size hs1.sat h hz).mono ?_
  rintro _ w2 ⟨rfl, hs2⟩
  replace h := h.mono hs2.le
  replace hT := hT.then hs2
  refine Sa rfl rfl ?_
  refine as_nil (κ _ _ ?_)
  refine cw_ret ?_
  exact ⟨_, (res_tmp rfl res_nil), rfl, hT.forget⟩
end Go.Proofs.YtgcgjpfjjgalmaaGreat
/- Heaps of any kind, by their elements in order, part 1. -/
namespace Go.Proofs.YtgcgjpfjjgalmaaGreat
open Go Go.Eng
/-- A heap of a kind, by its elements in order. -/
inductive HVal (M : Mem) : Nat → List El → Value → Prop where
  | z : HVal M 0 [] .nilIface
  | a {t : Lft} {q : Option Addr} {l : List El} (h : LRep 171 M t (.pointer q)) (hok : t.ok) (hl : l = srtE (t.els)) : HVal M 1 l (.iface 69 (.agg #[.pointer q]))
  | b {t : List (RT El)} {q : Option Addr} {l : List El} (h : FRep 197 220 2 EncE M t q) (hok : RT.oks ltE t ∧ RT.nobs t) (hl : l = srtE (RT.alls t)) : HVal M 2 l (.iface 76 (.agg #[.pointer q]))
  | c {t : Pr} {q : Option Addr} {l : List El} (h : PRep 251 260 M t q) (hok : t.ok) (hl : l = srtE (t.els)) : HVal M 3 l (.iface 81 (.agg #[.pointer q]))
  | d {t : List (RT El)} {q : Option Addr} {l : List El} (h : FRep 197 220 2 EncE M t q) (hok : RT.oks ltE t) (hl : l = srtE (RT.alls t)) : HVal M 4 l (.iface 85 (.agg #[.pointer q]))
  | e {t : Ro} {q : Option Addr} {l : List El} (h : RoRep 283 197 220 M t q) (hok : t.ok) (hl : l = srtE (t.els)) : HVal M 5 l (.iface 90 (.agg #[.pointer q]))
  | f {t : Bt} {q : Option Addr} {l : List El} (h : BRep 296 330 332 M t q) (hok : t.ok) (hl : l = srtE (t.els)) : HVal M 6 l (.iface 95 (.agg #[.pointer q]))
theorem HVal.mono {M M' : Mem} (k : Le M M') {n : Nat} {l : List El} {v : Value} (h : HVal M n l v) : HVal M' n l v := by
  cases h with
  | z => exact .z
  | a h hok hl => exact .a (h.mono k) hok hl
  | b h hok hl => exact .b (h.mono' EncE.mono k) hok hl
  | c h hok hl => exact .c (h.mono k) hok hl
  | d h hok hl => exact .d (h.mono' EncE.mono k) hok hl
  | e h hok hl => exact .e (h.mono k) hok hl
  | f h hok hl => exact .f (h.mono k) hok hl
theorem HVal.kind {M : Mem} {n : Nat} {l : List El} {v : Value} (h : HVal M n l v) : n ≤ 6 := by cases h <;> omega
theorem els_put {x : El} {l r : List El} (h : r.Perm (x :: l)) : putE (srtE l) x = srtE r := by rw [← srtE_put]; exact srtE_congr h.symm
theorem els_join {l r s : List El} (h : s.Perm (l ++ r)) : srtE (srtE l ++ srtE r) = srtE s := by rw [← srtE_app]; exact srtE_congr h.symm
theorem els_pop {x y : El} {l r s : List El} (h : x :: l = srtE r) (hp : r.Perm (y :: s)) (hg : AllGe y s) : x = y ∧ l = srtE s := by
  rw [srtE_congr hp, srtE_cons hg] at h
  exact ⟨(List.cons.inj h).1, (List.cons.inj h).2⟩
theorem els_none {x : El} {l : List El} {p : Prop} (h : x :: l = srtE []) : p := by cases h
theorem hv_insert {w : World} {M : Mem} {k : Nat} {l : List El} {v : Value} {x : El} (hs : Sat M w) (h : HVal M k l v) (hk : k ≠ 0) (hz : l.length < 1000000000) :
    ∃ (tid : TypeId) (u : Value) (f : FuncId) (r : Value), v = .iface tid u ∧ callable Tryz.prog f = true ∧ (∀ w, (method (Tryz.prog.types.size + Made.depth) tid u "slagheap/heap.insert").run Tryz.prog w = .ok (f, r) w) ∧
      Does Tryz.prog f #[r, .pointer none, .agg (elc x).toArray] w (fun v' w' => ∃ M', Step Nope M w M' w' ∧ HVal M' k (putE l x) v') := by
  cases h with
  | z => exact absurd rfl hk
  | @a t q _ h hok hl =>
    subst hl
    rw [srtE_length] at hz
    exact ⟨69, .agg #[.pointer _], 90, .agg #[.pointer _], rfl, by kernel_rfl, fun _ => by kernel_rfl, (wa_insert hs h (by rw [← t.els_size]; exact hz)).mono fun v' w' ⟨q', M', h1, h2, h3⟩ => ⟨M', h2, by subst h1; exact .a h3 (Lft.insert_ok x t hok) (els_put (Lft.insert_els x t))⟩⟩
  | @b t q _ h hok hl =>
    subst hl
    rw [srtE_length] at hz
    exact ⟨76, .agg #[.pointer _], 155, .agg #[.pointer _], rfl, by kernel_rfl, fun _ => by kernel_rfl, (wb_insert hs h (by rw [← RT.alls_length]; exact hz)).mono fun v' w' ⟨q', M', h1, h2, h3⟩ => ⟨M', h2, by subst h1; exact .b h3 (⟨bput_oks swoE (RT.leaf_ok x) hok.1, bput_nobs ⟨rfl, trivial⟩ hok.2⟩) (els_put (bput_alls t (RT.leaf x)))⟩⟩
  | @c t q _ h hok hl =>
    subst hl
    rw [srtE_length] at hz
    exact ⟨81, .agg #[.pointer _], 176, .agg #[.pointer _], rfl, by kernel_rfl, fun _ => by kernel_rfl, (wc_insert hs h (by rw [← t.els_size]; exact hz)).mono fun v' w' ⟨q', M', h1, h2, h3⟩ => ⟨M', h2, by subst h1; exact .c h3 (Pr.insert_ok x t hok) (els_put (Pr.insert_els x t))⟩⟩
  | @d t q _ h hok hl =>
    subst hl
    rw [srtE_length] at hz
    exact ⟨85, .agg #[.pointer _], 197, .agg #[.pointer _], rfl, by kernel_rfl, fun _ => by kernel_rfl, (wd_insert hs h (by rw [← RT.alls_length]; exact hz)).mono fun v' w' ⟨q', M', h1, h2, h3⟩ => ⟨M', h2, by subst h1; exact .d h3 (sinsert_oks swoE hok) (els_put (sinsert_alls x t))⟩⟩
  | @e t q _ h hok hl =>
    subst hl
    rw [srtE_length] at hz
    exact ⟨90, .agg #[.pointer _], 210, .agg #[.pointer _], rfl, by kernel_rfl, fun _ => by kernel_rfl, (we_insert hs h (by rw [← t.els_size]; exact hz)).mono fun v' w' ⟨q', M', h1, h2, h3⟩ => ⟨M', h2, by subst h1; exact .e h3 (Ro.insert_ok x hok) (els_put (Ro.insert_els x t))⟩⟩
  | @f t q _ h hok hl =>
    subst hl
    rw [srtE_length] at hz
    exact ⟨95, .agg #[.pointer _], 261, .agg #[.pointer _], rfl, by kernel_rfl, fun _ => by kernel_rfl, (wf_insert hs h (Nat.lt_of_le_of_lt (Bt.queue_els hok) hz)).mono fun v' w' ⟨q', M', h1, h2, h3⟩ => ⟨M', h2, by subst h1; exact .f h3 (Bt.insert_ok x hok) (els_put (Bt.insert_els x t))⟩⟩
theorem hv_meld {w : World} {M : Mem} {k : Nat} {l l2 : List El} {v v2 : Value} (hs : Sat M w) (h : HVal M k l v) (h2 : HVal M k l2 v2) (hk : k ≠ 0) (hz : l.length + l2.length < 1000000000) :
    ∃ (tid : TypeId) (u : Value) (f : FuncId) (r : Value), v = .iface tid u ∧ callable Tryz.prog f = true ∧ (∀ w, (method (Tryz.prog.types.size + Made.depth) tid u "slagheap/heap.meld").run Tryz.prog w = .ok (f, r) w) ∧
      Does Tryz.prog f #[r, .pointer none, v2] w (fun v' w' => ∃ M', Step Nope M w M' w' ∧ HVal M' k (srtE (l ++ l2)) v') := by
  cases h with
  | z => exact absurd rfl hk
  | @a t q _ h hok hl =>
    cases h2 with
    | @a u q2 _ h2 hok2 hl2 =>
      subst hl; subst hl2
      rw [srtE_length, srtE_length] at hz
      exact ⟨69, .agg #[.pointer _], 91, .agg #[.pointer _], rfl, by kernel_rfl, fun _ => by kernel_rfl, (wa_meld hs h h2 (by rw [← t.els_size, ← u.els_size]; omega)).mono fun v' w' ⟨q', M', h1, h2, h3⟩ => ⟨M', h2, by subst h1; exact .a h3 (Lft.meld_ok _ _ hok hok2) (els_join (Lft.meld_els t u))⟩⟩
  | @b t q _ h hok hl =>
    cases h2 with
    | @b u q2 _ h2 hok2 hl2 =>
      subst hl; subst hl2
      rw [srtE_length, srtE_length] at hz
      exact ⟨76, .agg #[.pointer _], 156, .agg #[.pointer _], rfl, by kernel_rfl, fun _ => by kernel_rfl, (wb_meld hs h h2 (by rw [← RT.alls_length, ← RT.alls_length]; omega)).mono fun v' w' ⟨q', M', h1, h2, h3⟩ => ⟨M', h2, by subst h1; exact .b h3 (⟨bmeld_oks swoE hok.1 hok2.1, bmeld_nobs hok.2 hok2.2⟩) (els_join (bmeld_alls t u))⟩⟩
  | @c t q _ h hok hl =>
    cases h2 with
    | @c u q2 _ h2 hok2 hl2 =>
      subst hl; subst hl2
      rw [srtE_length, srtE_length] at hz
      exact ⟨81, .agg #[.pointer _], 177, .agg #[.pointer _], rfl, by kernel_rfl, fun _ => by kernel_rfl, (wc_meld hs h h2 (by rw [← t.els_size, ← u.els_size]; omega)).mono fun v' w' ⟨q', M', h1, h2, h3⟩ => ⟨M', h2, by subst h1; exact .c h3 (Pr.meld_ok hok hok2) (els_join (Pr.meld_els t u))⟩⟩
  | @d t q _ h hok hl =>
    cases h2 with
    | @d u q2 _ h2 hok2 hl2 =>
      subst hl; subst hl2
      rw [srtE_length, srtE_length] at hz
      exact ⟨85, .agg #[.pointer _], 198, .agg #[.pointer _], rfl, by kernel_rfl, fun _ => by kernel_rfl, (wd_meld hs h h2 (by rw [← RT.alls_length, ← RT.alls_length]; omega)).mono fun v' w' ⟨q', M', h1, h2, h3⟩ => ⟨M', h2, by subst h1; exact .d h3 (smeld_oks swoE hok hok2) (els_join (smeld_alls t u))⟩⟩
  | @e t q _ h hok hl =>
    cases h2 with
    | @e u q2 _ h2 hok2 hl2 =>
      subst hl; subst hl2
      rw [srtE_length, srtE_length] at hz
      exact ⟨90, .agg #[.pointer _], 211, .agg #[.pointer _], rfl, by kernel_rfl, fun _ => by kernel_rfl, (we_meld hs h h2 (by rw [← t.els_size, ← u.els_size]; omega)).mono fun v' w' ⟨q', M', h1, h2, h3⟩ => ⟨M', h2, by subst h1; exact .e h3 (Ro.meld_ok hok hok2) (els_join (Ro.meld_els t u))⟩⟩
  | @f t q _ h hok hl =>
    cases h2 with
    | @f u q2 _ h2 hok2 hl2 =>
      subst hl; subst hl2
      rw [srtE_length, srtE_length] at hz
      exact ⟨95, .agg #[.pointer _], 262, .agg #[.pointer _], rfl, by kernel_rfl, fun _ => by kernel_rfl, (wf_meld hs h h2 (by have := Bt.queue_els hok; omega) (by have := Bt.queue_els hok2; omega)).mono fun v' w' ⟨q', M', h1, h2, h3⟩ => ⟨M', h2, by subst h1; exact .f h3 (Bt.meld_ok hok hok2) (els_join (Bt.meld_els t u))⟩⟩
theorem cnt0_els {t : Bt} (h : t.ok) : Bt.cnt 0 t = t.els.length := by
  cases t with
  | nil => rfl
  | node x ts => exact Bt.cnt_els 0 _ (by simp) h
theorem cnt1_le {t : Bt} (h : t.ok) (hz : t.els.length < 1000000000) : Bt.cnt 1 t ≤ 1000000000 := by
  cases t with
  | nil => decide
  | node x ts => rw [Bt.cnt_els 1 _ (by simp) h]; omega
theorem hv_size {w : World} {M : Mem} {k : Nat} {l : List El} {v : Value} (hs : Sat M w) (h : HVal M k l v) (hk : k ≠ 0) (hz : l.length < 1000000000) :
    ∃ (tid : TypeId) (u : Value) (f : FuncId) (r : Value), v = .iface tid u ∧ callable Tryz.prog f = true ∧ (∀ w, (method (Tryz.prog.types.size + Made.depth) tid u "slagheap/heap.size").run Tryz.prog w = .ok (f, r) w) ∧
      Does Tryz.prog f #[r] w (fun v' w' => v' = .int .i64 (l.length : Nat) ∧ Step Nope M w M w') := by
  cases h with
  | z => exact absurd rfl hk
  | @a t q _ h hok hl =>
    subst hl
    rw [srtE_length] at hz ⊢
    exact ⟨69, .agg #[.pointer _], 95, .agg #[.pointer _], rfl, by kernel_rfl, fun _ => by kernel_rfl, (wa_size hs h ).mono fun v' w' ⟨h1, h2⟩ => ⟨by rw [h1, t.els_size], h2⟩⟩
  | @b t q _ h hok hl =>
    subst hl
    rw [srtE_length] at hz ⊢
    exact ⟨76, .agg #[.pointer _], 160, .agg #[.pointer _], rfl, by kernel_rfl, fun _ => by kernel_rfl, (wb_size hs h (by rw [← RT.alls_length]; omega)).mono fun v' w' ⟨h1, h2⟩ => ⟨by rw [h1, RT.alls_length t], h2⟩⟩
  | @c t q _ h hok hl =>
    subst hl
    rw [srtE_length] at hz ⊢
    exact ⟨81, .agg #[.pointer _], 181, .agg #[.pointer _], rfl, by kernel_rfl, fun _ => by kernel_rfl, (wc_size hs h ).mono fun v' w' ⟨h1, h2⟩ => ⟨by rw [h1, t.els_size], h2⟩⟩
  | @d t q _ h hok hl =>
    subst hl
    rw [srtE_length] at hz ⊢
    exact ⟨85, .agg #[.pointer _], 202, .agg #[.pointer _], rfl, by kernel_rfl, fun _ => by kernel_rfl, (wd_size hs h (by rw [← RT.alls_length]; omega)).mono fun v' w' ⟨h1, h2⟩ => ⟨by rw [h1, RT.alls_length t], h2⟩⟩
  | @e t q _ h hok hl =>
    subst hl
    rw [srtE_length] at hz ⊢
    exact ⟨90, .agg #[.pointer _], 215, .agg #[.pointer _], rfl, by kernel_rfl, fun _ => by kernel_rfl, (we_size hs h (by rw [← t.els_size]; omega)).mono fun v' w' ⟨h1, h2⟩ => ⟨by rw [h1, t.els_size], h2⟩⟩
  | @f t q _ h hok hl =>
    subst hl
    rw [srtE_length] at hz ⊢
    exact ⟨95, .agg #[.pointer _], 266, .agg #[.pointer _], rfl, by kernel_rfl, fun _ => by kernel_rfl, (wf_size hs h (cnt1_le hok hz)).mono fun v' w' ⟨h1, h2⟩ => ⟨by rw [h1, (cnt0_els hok).symm], h2⟩⟩
end Go.Proofs.YtgcgjpfjjgalmaaGreat
/- Heaps of any kind, by their elements in order, part 2. -/
namespace Go.Proofs.YtgcgjpfjjgalmaaGreat
open Go Go.Eng
theorem hv_min {w : World} {M : Mem} {k : Nat} {x : El} {l : List El} {v : Value} (hs : Sat M w) (h : HVal M k (x :: l) v) (hz : (x :: l).length < 1000000000) :
    ∃ (tid : TypeId) (u : Value) (f : FuncId) (r : Value), v = .iface tid u ∧ callable Tryz.prog f = true ∧ (∀ w, (method (Tryz.prog.types.size + Made.depth) tid u "slagheap/heap.min").run Tryz.prog w = .ok (f, r) w) ∧
      Does Tryz.prog f #[r, .pointer none] w (fun v' w' => v' = .tuple #[.agg (elc x).toArray, .bool true] ∧ Step Nope M w M w') := by
  generalize hxl : x :: l = xl at h hz
  cases h with
  | z => cases hxl
  | @a t q _ h hok hl =>
    subst hl
    cases t with
    | nil => exact els_none hxl
    | node y tl tr =>
      have he := els_pop hxl (.refl _) hok.1
      exact ⟨69, .agg #[.pointer _], 92, .agg #[.pointer _], rfl, by kernel_rfl, fun _ => by kernel_rfl, (wa_min hs h).mono fun v' w' ⟨h1, h2⟩ => ⟨by rw [h1, he.1], h2⟩⟩
  | @b t q _ h hok hl =>
    subst hl
    rw [srtE_length] at hz
    have hne : t ≠ [] := by rintro rfl; exact els_none hxl
    obtain ⟨k, hk⟩ := least_is (lt := ltE) hne
    have hg := least_tree swoE hok.1 hk
    have hp := alls_out hk
    have he := els_pop hxl hp (fun y hy => hg y (hp.mem_iff.2 (List.mem_cons_of_mem _ hy)))
    exact ⟨76, .agg #[.pointer _], 157, .agg #[.pointer _], rfl, by kernel_rfl, fun _ => by kernel_rfl, (wb_min hs h hk (by rw [← RT.alls_length]; omega)).mono fun v' w' ⟨h1, h2⟩ => ⟨by rw [h1, he.1], h2⟩⟩
  | @c t q _ h hok hl =>
    subst hl
    cases t with
    | nil => exact els_none hxl
    | node y ks =>
      have he := els_pop hxl (by simp only [Pr.els]; exact .refl _) (by simp only [Pr.ok] at hok; exact hok.1)
      exact ⟨81, .agg #[.pointer _], 178, .agg #[.pointer _], rfl, by kernel_rfl, fun _ => by kernel_rfl, (wc_min hs h).mono fun v' w' ⟨h1, h2⟩ => ⟨by rw [h1, he.1], h2⟩⟩
  | @d t q _ h hok hl =>
    subst hl
    rw [srtE_length] at hz
    have hne : t ≠ [] := by rintro rfl; exact els_none hxl
    obtain ⟨k, hk⟩ := least_is (lt := ltE) hne
    have hg := least_tree swoE hok hk
    have hp := alls_out hk
    have he := els_pop hxl hp (fun y hy => hg y (hp.mem_iff.2 (List.mem_cons_of_mem _ hy)))
    exact ⟨85, .agg #[.pointer _], 199, .agg #[.pointer _], rfl, by kernel_rfl, fun _ => by kernel_rfl, (wd_min hs h hk (by rw [← RT.alls_length]; omega)).mono fun v' w' ⟨h1, h2⟩ => ⟨by rw [h1, he.1], h2⟩⟩
  | @e t q _ h hok hl =>
    subst hl
    cases t with
    | nil => exact els_none hxl
    | node y ts =>
      have he := els_pop hxl (.refl _) hok.1
      exact ⟨90, .agg #[.pointer _], 212, .agg #[.pointer _], rfl, by kernel_rfl, fun _ => by kernel_rfl, (we_min hs h).mono fun v' w' ⟨h1, h2⟩ => ⟨by rw [h1, he.1], h2⟩⟩
  | @f t q _ h hok hl =>
    subst hl
    cases t with
    | nil => exact els_none (by simpa only [Bt.els] using hxl)
    | node y ts =>
      have he := els_pop hxl (by simp only [Bt.els]; exact .refl _) (by simp only [Bt.ok] at hok; exact hok.1)
      exact ⟨95, .agg #[.pointer _], 263, .agg #[.pointer _], rfl, by kernel_rfl, fun _ => by kernel_rfl, (wf_min hs h).mono fun v' w' ⟨h1, h2⟩ => ⟨by rw [h1, he.1], h2⟩⟩
theorem hv_pop {w : World} {M : Mem} {k : Nat} {x : El} {l : List El} {v : Value} (hs : Sat M w) (h : HVal M k (x :: l) v) (hz : (x :: l).length < 1000000000) :
    ∃ (tid : TypeId) (u : Value) (f : FuncId) (r : Value), v = .iface tid u ∧ callable Tryz.prog f = true ∧ (∀ w, (method (Tryz.prog.types.size + Made.depth) tid u "slagheap/heap.pop").run Tryz.prog w = .ok (f, r) w) ∧
      Does Tryz.prog f #[r, .pointer none] w (fun v' w' => ∃ M', Step Nope M w M' w' ∧ HVal M' k l v') := by
  generalize hxl : x :: l = xl at h hz
  cases h with
  | z => cases hxl
  | @a t q _ h hok hl =>
    subst hl
    rw [srtE_length] at hz
    cases t with
    | nil => exact els_none hxl
    | node y tl tr =>
      have he := els_pop hxl (.refl _) hok.1
      exact ⟨69, .agg #[.pointer _], 93, .agg #[.pointer _], rfl, by kernel_rfl, fun _ => by kernel_rfl, (wa_pop hs h (by rw [← Lft.els_size]; omega)).mono fun v' w' ⟨q', M', h1, h2, h3⟩ => ⟨M', h2, by subst h1; exact .a h3 (Lft.meld_ok _ _ hok.2.1 hok.2.2) (by rw [he.2]; exact srtE_congr (Lft.meld_els tl tr).symm)⟩⟩
  | @b t q _ h hok hl =>
    subst hl
    rw [srtE_length] at hz
    have hne : t ≠ [] := by rintro rfl; exact els_none hxl
    obtain ⟨k, hk⟩ := least_is (lt := ltE) hne
    have hg := least_tree swoE hok.1 hk
    cases k with
    | node z bs ks =>
        have hnb := nobs_get hok.2 hk
        have hp := bpop_alls (k := .node z bs ks) hnb.1 hk
        have he := els_pop hxl hp (fun y hy => hg y (hp.mem_iff.2 (List.mem_cons_of_mem _ hy)))
        exact ⟨76, .agg #[.pointer _], 158, .agg #[.pointer _], rfl, by kernel_rfl, fun _ => by kernel_rfl, (wb_pop hs h hk (by rw [← RT.alls_length]; omega)).mono fun v' w' ⟨q', M', h1, h2, h3⟩ => ⟨M', h2, by subst h1; exact .b h3 (⟨bpop_oks swoE hok.1 hk, bpop_nobs hok.2 hk⟩) (he.2)⟩⟩
  | @c t q _ h hok hl =>
    subst hl
    rw [srtE_length] at hz
    cases t with
    | nil => exact els_none hxl
    | node y ks =>
      have hok' : AllGe y (Pr.elsL ks) ∧ Pr.okL ks := by simpa only [Pr.ok] using hok
      have he := els_pop hxl (by simp only [Pr.els]; exact .refl _) hok'.1
      exact ⟨81, .agg #[.pointer _], 179, .agg #[.pointer _], rfl, by kernel_rfl, fun _ => by kernel_rfl, (wc_pop hs h (by rw [← Pr.els_size]; omega)).mono fun v' w' ⟨q', M', h1, h2, h3⟩ => ⟨M', h2, by subst h1; exact .c h3 (Pr.pair_ok hok'.2) (by rw [he.2]; exact srtE_congr (Pr.pair_els ks).symm)⟩⟩
  | @d t q _ h hok hl =>
    subst hl
    rw [srtE_length] at hz
    have hne : t ≠ [] := by rintro rfl; exact els_none hxl
    obtain ⟨k, hk⟩ := least_is (lt := ltE) hne
    have hg := least_tree swoE hok hk
    cases k with
    | node z bs ks =>
        have hp := spop_alls hk
        have he := els_pop hxl hp (fun y hy => hg y (hp.mem_iff.2 (List.mem_cons_of_mem _ hy)))
        exact ⟨85, .agg #[.pointer _], 200, .agg #[.pointer _], rfl, by kernel_rfl, fun _ => by kernel_rfl, (wd_pop hs h hk (by rw [← RT.alls_length]; omega)).mono fun v' w' ⟨q', M', h1, h2, h3⟩ => ⟨M', h2, by subst h1; exact .d h3 (spop_oks swoE hok hk) (he.2)⟩⟩
  | @e t q _ h hok hl =>
    subst hl
    rw [srtE_length] at hz
    cases t with
    | nil => exact els_none hxl
    | node y ts =>
      have he := els_pop hxl (.refl _) hok.1
      by_cases hne : ts = []
      · subst hne
        exact ⟨90, .agg #[.pointer _], 213, .agg #[.pointer _], rfl, by kernel_rfl, fun _ => by kernel_rfl, (we_pop1 hs h).mono fun v' w' ⟨q', M', h1, h2, h3⟩ => ⟨M', h2, by subst h1; exact .e h3 (trivial) (he.2)⟩⟩
      · obtain ⟨k, hk⟩ := least_is (lt := ltE) hne
        cases k with
        | node z bs ks =>
          have hg := least_tree swoE hok.2 hk
          have hp := spop_alls hk
          exact ⟨90, .agg #[.pointer _], 213, .agg #[.pointer _], rfl, by kernel_rfl, fun _ => by kernel_rfl, (we_pop2 hs h hk (by simp only [Ro.els, List.length_cons, RT.alls_length] at hz; omega)).mono fun v' w' ⟨q', M', h1, h2, h3⟩ => ⟨M', h2, by subst h1; exact .e h3 (⟨fun w hw => hg w (hp.mem_iff.2 (List.mem_cons_of_mem _ hw)), spop_oks swoE hok.2 hk⟩) (by rw [he.2]; exact srtE_congr hp)⟩⟩
  | @f t q _ h hok hl =>
    subst hl
    rw [srtE_length] at hz
    cases t with
    | nil => exact els_none (by simpa only [Bt.els] using hxl)
    | node y ts =>
      have hok' : AllGe y (Bt.elsQ ts) ∧ RT.oks ltB ts ∧ Bt.okQ ts := by simpa only [Bt.ok] using hok
      have he := els_pop hxl (by simp only [Bt.els]; exact .refl _) hok'.1
      by_cases hne : ts = []
      · subst hne
        exact ⟨95, .agg #[.pointer _], 264, .agg #[.pointer _], rfl, by kernel_rfl, fun _ => by kernel_rfl, (wf_pop1 hs h).mono fun v' w' ⟨q', M', h1, h2, h3⟩ => ⟨M', h2, by subst h1; exact .f h3 (trivial) (by rw [he.2]; simp only [Bt.els, Bt.elsQ])⟩⟩
      · obtain ⟨k, hk⟩ := least_is (lt := ltB) hne
        have hqs := Bt.queue_els hok
        simp only [Bt.queue] at hqs
        cases k with
        | node z bs ks =>
          have hp := spop_alls hk
          have hzok := (Bt.okL_iff _).1 ((Bt.okQ_alls ts).2 hok'.2.2) z (hp.mem_iff.2 (List.mem_cons_self ..))
          cases z with
          | nil => exact absurd rfl hzok.1
          | node z us =>
            have hpo := Bt.popped_ok hok hk rfl
            have hpe := Bt.popped_els (x := y) hk rfl
            have hpz := Bt.queue_els hpo
            have hpl := hpe.length_eq
            simp only [List.length_cons] at hpl
            simp only [Bt.popped, Bt.queue, smeld_size] at hpz
            exact ⟨95, .agg #[.pointer _], 264, .agg #[.pointer _], rfl, by kernel_rfl, fun _ => by kernel_rfl, (wf_pop2 hs h hk (by omega) (by simp only [Bt.popped] at hpl; omega)).mono fun v' w' ⟨q', M', h1, h2, h3⟩ => ⟨M', h2, by subst h1; exact .f h3 (hpo) (by rw [he.2]; exact srtE_congr (List.Perm.cons_inv (by simpa only [Bt.els] using hpe)))⟩⟩
end Go.Proofs.YtgcgjpfjjgalmaaGreat
/- The calls of heap, part 1. -/
namespace Go.Proofs.YtgcgjpfjjgalmaaGreat
open Go Go.Eng
theorem HVal.iface {M : Mem} {k : Nat} {l : List El} {v : Value} (h : HVal M k l v) (hk : k ≠ 0) : ∃ d u, v = .iface d u := by
  cases h with
  | z => exact absurd rfl hk
  | a h hok hl => exact ⟨_, _, rfl⟩
  | b h hok hl => exact ⟨_, _, rfl⟩
  | c h hok hl => exact ⟨_, _, rfl⟩
  | d h hok hl => exact ⟨_, _, rfl⟩
  | e h hok hl => exact ⟨_, _, rfl⟩
  | f h hok hl => exact ⟨_, _, rfl⟩
theorem HVal.zero {M : Mem} {l : List El} {v : Value} (h : HVal M 0 l v) : l = [] ∧ v = .nilIface := by
  cases h; exact ⟨rfl, rfl⟩
def fullE (k : Nat) (l : List El) : Int := if k = 0 then 22 else if l = [] then 23 else 0
def insL (k : Nat) (l : List El) (x : El) : List El := if k = 0 then [] else putE l x
def insE (k : Nat) : Int := if k = 0 then 22 else 0
def badM (k k2 : Nat) : Prop := k = 0 ∨ k2 = 0 ∨ k ≠ k2
instance (k k2 : Nat) : Decidable (badM k k2) := by unfold badM; infer_instance
def melK (k k2 : Nat) : Nat := if badM k k2 then 0 else k
def melL (k k2 : Nat) (l l2 : List El) : List El := if badM k k2 then [] else srtE (l ++ l2)
def melE (k k2 : Nat) : Int := if badM k k2 then 22 else 0
def popK (k : Nat) (l : List El) : Nat := if l = [] then 0 else k
def emK (z : Int) : Nat := if 1 ≤ z ∧ z ≤ 6 then z.toNat else 0
def emE (z : Int) : Int := if 1 ≤ z ∧ z ≤ 6 then 0 else 22
def ofL (z : Int) (l : List El) : List El := if 1 ≤ z ∧ z ≤ 6 then srtE l else []
theorem hp_kind_z {w : World} {M : Mem} (hs : Sat M w) :
    Does Tryz.prog 30 #[.agg #[.nilIface]] w (fun r w' => r = .int .i64 (0 : Nat) ∧ Step Nope M w M w') := by
  have hT := Step.refl Nope hs
  refine fn_enter Tryz.func30 rfl (rs := [.tmp 2]) rfl rfl rfl rfl ?_
  refine cw_rs fun _ κ => ?_
  refine as_h rfl (h_boxM hs rfl rfl fun b1 M1 w1 hs1 hb1 e1 => ?_)
  replace hT := hT.then hs1
  refine Sa rfl rfl ?_
  refine as_nil (κ _ _ ?_)
  refine cw_seq fun _ hK2 => ?_
  refine cw_rs fun _ κ => ?_
  refine Sf 0 rfl (by kernel_rfl) rfl ?_
  refine S1 rfl (by kernel_rfl) rfl (by exact BlkR.cell (hs1.sat _ _ _ hb1) rfl) ?_
  refine as_nil (κ _ _ ?_)
  refine cw_block ?_
  refine cw_rs fun _ κ => ?_
  refine as_q rfl rfl (q_isNil (r := .agg #[.pointer none]) (by kernel_rfl) (by kernel_rfl) rfl) ?_
  refine Se rfl rfl rfl ?_
  refine Se rfl rfl rfl ?_
  refine as_nil (κ _ _ ?_)
  refine cw_false rfl ?_
  refine cw_rs fun _ κ => ?_
  refine as_q rfl rfl (q_isNil (r := .agg #[.pointer none]) (by kernel_rfl) (by kernel_rfl) rfl) ?_
  refine Se rfl rfl rfl ?_
  refine Se rfl rfl rfl ?_
  refine as_nil (κ _ _ ?_)
  refine cw_false rfl ?_
  refine cw_rs fun _ κ => ?_
  refine as_q rfl rfl (q_isNil (r := .agg #[.pointer none]) (by kernel_rfl) (by kernel_rfl) rfl) ?_
  refine Se rfl rfl rfl ?_
  refine Se rfl rfl rfl ?_
  refine as_nil (κ _ _ ?_)
  refine cw_false rfl ?_
  refine cw_rs fun _ κ => ?_
  refine as_q rfl rfl (q_isNil (r := .agg #[.pointer none]) (by kernel_rfl) (by kernel_rfl) rfl) ?_
  refine Se rfl rfl rfl ?_
  refine Se rfl rfl rfl ?_
  refine as_nil (κ _ _ ?_)
  refine cw_false rfl ?_
  refine cw_rs fun _ κ => ?_
  refine as_q rfl rfl (q_isNil (r := .agg #[.pointer none]) (by kernel_rfl) (by kernel_rfl) rfl) ?_
  refine Se rfl rfl rfl ?_
  refine Se rfl rfl rfl ?_
  refine as_nil (κ _ _ ?_)
  refine cw_false rfl ?_
  refine cw_rs fun _ κ => ?_
  refine as_q rfl rfl (q_isNil (r := .agg #[.pointer none]) (by kernel_rfl) (by kernel_rfl) rfl) ?_
  refine Se rfl rfl rfl ?_
  refine Se rfl rfl rfl ?_
  refine as_nil (κ _ _ ?_)
  refine cw_false rfl ?_
  refine cw_skip ?_
  refine hK2 _ _ ?_
  refine cw_rs fun _ κ => ?_
  refine Sa rfl rfl ?_
  refine as_nil (κ _ _ ?_)
  refine cw_ret ?_
  exact ⟨_, (res_tmp rfl res_nil), rfl, hT.forget⟩
theorem hp_kind_a {w : World} {M : Mem} {q : Option Addr} (hs : Sat M w) :
    Does Tryz.prog 30 #[.agg #[.iface 69 (.agg #[.pointer q])]] w (fun r w' => r = .int .i64 (1 : Nat) ∧ Step Nope M w M w') := by
  have hT := Step.refl Nope hs
  refine fn_enter Tryz.func30 rfl (rs := [.tmp 2]) rfl rfl rfl rfl ?_
  refine cw_rs fun _ κ => ?_
  refine as_h rfl (h_boxM hs rfl rfl fun b1 M1 w1 hs1 hb1 e1 => ?_)
  replace hT := hT.then hs1
  refine Sa rfl rfl ?_
  refine as_nil (κ _ _ ?_)
  refine cw_seq fun _ hK2 => ?_
  refine cw_rs fun _ κ => ?_
  refine Sf 0 rfl (by kernel_rfl) rfl ?_
  refine S1 rfl (by kernel_rfl) rfl (by exact BlkR.cell (hs1.sat _ _ _ hb1) rfl) ?_
  refine as_nil (κ _ _ ?_)
  refine cw_block ?_
  refine cw_rs fun _ κ => ?_
  refine as_q rfl rfl (q_isT (by kernel_rfl) rfl) ?_
  refine Se rfl rfl rfl ?_
  refine Se rfl rfl rfl ?_
  refine as_nil (κ _ _ ?_)
  refine cw_true rfl ?_
  refine cw_rs fun _ κ => ?_
  refine Sa rfl rfl ?_
  refine as_nil (κ _ _ ?_)
  refine cw_ret ?_
  exact ⟨_, (res_tmp rfl res_nil), rfl, hT.forget⟩
theorem hp_kind_b {w : World} {M : Mem} {q : Option Addr} (hs : Sat M w) :
    Does Tryz.prog 30 #[.agg #[.iface 76 (.agg #[.pointer q])]] w (fun r w' => r = .int .i64 (2 : Nat) ∧ Step Nope M w M w') := by
  have hT := Step.refl Nope hs
  refine fn_enter Tryz.func30 rfl (rs := [.tmp 2]) rfl rfl rfl rfl ?_
  refine cw_rs fun _ κ => ?_
  refine as_h rfl (h_boxM hs rfl rfl fun b1 M1 w1 hs1 hb1 e1 => ?_)
  replace hT := hT.then hs1
  refine Sa rfl rfl ?_
  refine as_nil (κ _ _ ?_)
  refine cw_seq fun _ hK2 => ?_
  refine cw_rs fun _ κ => ?_
  refine Sf 0 rfl (by kernel_rfl) rfl ?_
  refine S1 rfl (by kernel_rfl) rfl (by exact BlkR.cell (hs1.sat _ _ _ hb1) rfl) ?_
  refine as_nil (κ _ _ ?_)
  refine cw_block ?_
  refine cw_rs fun _ κ => ?_
  refine as_q rfl rfl (q_isF (r := .agg #[.pointer none]) (by kernel_rfl) (by kernel_rfl) rfl rfl) ?_
  refine Se rfl rfl rfl ?_
  refine Se rfl rfl rfl ?_
  refine as_nil (κ _ _ ?_)
  refine cw_false rfl ?_
  refine cw_rs fun _ κ => ?_
  refine as_q rfl rfl (q_isT (by kernel_rfl) rfl) ?_
  refine Se rfl rfl rfl ?_
  refine Se rfl rfl rfl ?_
  refine as_nil (κ _ _ ?_)
  refine cw_true rfl ?_
  refine cw_rs fun _ κ => ?_
  refine Sa rfl rfl ?_
  refine as_nil (κ _ _ ?_)
  refine cw_ret ?_
  exact ⟨_, (res_tmp rfl res_nil), rfl, hT.forget⟩
theorem hp_kind_c {w : World} {M : Mem} {q : Option Addr} (hs : Sat M w) :
    Does Tryz.prog 30 #[.agg #[.iface 81 (.agg #[.pointer q])]] w (fun r w' => r = .int .i64 (3 : Nat) ∧ Step Nope M w M w') := by
  have hT := Step.refl Nope hs
  refine fn_enter Tryz.func30 rfl (rs := [.tmp 2]) rfl rfl rfl rfl ?_
  refine cw_rs fun _ κ => ?_
  refine as_h rfl (h_boxM hs rfl rfl fun b1 M1 w1 hs1 hb1 e1 => ?_)
  replace hT := hT.then hs1
  refine Sa rfl rfl ?_
  refine as_nil (κ _ _ ?_)
  refine cw_seq fun _ hK2 => ?_
  refine cw_rs fun _ κ => ?_
  refine Sf 0 rfl (by kernel_rfl) rfl ?_
  refine S1 rfl (by kernel_rfl) rfl (by exact BlkR.cell (hs1.sat _ _ _ hb1) rfl) ?_
  refine as_nil (κ _ _ ?_)
  refine cw_block ?_
  refine cw_rs fun _ κ => ?_
  refine as_q rfl rfl (q_isF (r := .agg #[.pointer none]) (by kernel_rfl) (by kernel_rfl) rfl rfl) ?_
  refine Se rfl rfl rfl ?_
  refine Se rfl rfl rfl ?_
  refine as_nil (κ _ _ ?_)
  refine cw_false rfl ?_
  refine cw_rs fun _ κ => ?_
  refine as_q rfl rfl (q_isF (r := .agg #[.pointer none]) (by kernel_rfl) (by kernel_rfl) rfl rfl) ?_
  refine Se rfl rfl rfl ?_
  refine Se rfl rfl rfl ?_
  refine as_nil (κ _ _ ?_)
  refine cw_false rfl ?_
  refine cw_rs fun _ κ => ?_
  refine as_q rfl rfl (q_isT (by kernel_rfl) rfl) ?_
  refine Se rfl rfl rfl ?_
  refine Se rfl rfl rfl ?_
  refine as_nil (κ _ _ ?_)
  refine cw_true rfl ?_
  refine cw_rs fun _ κ => ?_
  refine Sa rfl rfl ?_
  refine as_nil (κ _ _ ?_)
  refine cw_ret ?_
  exact ⟨_, (res_tmp rfl res_nil), rfl, hT.forget⟩
theorem hp_kind_d {w : World} {M : Mem} {q : Option Addr} (hs : Sat M w) :
    Does Tryz.prog 30 #[.agg #[.iface 85 (.agg #[.pointer q])]] w (fun r w' => r = .int .i64 (4 : Nat) ∧ Step Nope M w M w') := by
  have hT := Step.refl Nope hs
  refine fn_enter Tryz.func30 rfl (rs := [.tmp 2]) rfl rfl rfl rfl ?_
  refine cw_rs fun _ κ => ?_
  refine as_h rfl (h_boxM hs rfl rfl fun b1 M1 w1 hs1 hb1 e1 => ?_)
  replace hT := hT.then hs1
  refine Sa rfl rfl ?_
  refine as_nil (κ _ _ ?_)
  refine cw_seq fun _ hK2 => ?_
  refine cw_rs fun _ κ => ?_
  refine Sf 0 rfl (by kernel_rfl) rfl ?_
  refine S1 rfl (by kernel_rfl) rfl (by exact BlkR.cell (hs1.sat _ _ _ hb1) rfl) ?_
  refine as_nil (κ _ _ ?_)
  refine cw_block ?_
  refine cw_rs fun _ κ => ?_
  refine as_q rfl rfl (q_isF (r := .agg #[.pointer none]) (by kernel_rfl) (by kernel_rfl) rfl rfl) ?_
  refine Se rfl rfl rfl ?_
  refine Se rfl rfl rfl ?_
  refine as_nil (κ _ _ ?_)
  refine cw_false rfl ?_
  refine cw_rs fun _ κ => ?_
  refine as_q rfl rfl (q_isF (r := .agg #[.pointer none]) (by kernel_rfl) (by kernel_rfl) rfl rfl) ?_
  refine Se rfl rfl rfl ?_
  refine Se rfl rfl rfl ?_
  refine as_nil (κ _ _ ?_)
  refine cw_false rfl ?_
  refine cw_rs fun _ κ => ?_
  refine as_q rfl rfl (q_isF (r := .agg #[.pointer none]) (by kernel_rfl) (by kernel_rfl) rfl rfl) ?_
  refine Se rfl rfl rfl ?_
  refine Se rfl rfl rfl ?_
  refine as_nil (κ _ _ ?_)
  refine cw_false rfl ?_
  refine cw_rs fun _ κ => ?_
  refine as_q rfl rfl (q_isT (by kernel_rfl) rfl) ?_
  refine Se rfl rfl rfl ?_
  refine Se rfl rfl rfl ?_
  refine as_nil (κ _ _ ?_)
  refine cw_true rfl ?_
  refine cw_rs fun _ κ => ?_
  refine Sa rfl rfl ?_
  refine as_nil (κ _ _ ?_)
  refine cw_ret ?_
  exact ⟨_, (res_tmp rfl res_nil), rfl, hT.forget⟩
theorem hp_kind_e {w : World} {M : Mem} {q : Option Addr} (hs : Sat M w) :
    Does Tryz.prog 30 #[.agg #[.iface 90 (.agg #[.pointer q])]] w (fun r w' => r = .int .i64 (5 : Nat) ∧ Step Nope M w M w') := by
  have hT := Step.refl Nope hs
  refine fn_enter Tryz.func30 rfl (rs := [.tmp 2]) rfl rfl rfl rfl ?_
  refine cw_rs fun _ κ => ?_
  refine as_h rfl (h_boxM hs rfl rfl fun b1 M1 w1 hs1 hb1 e1 => ?_)
  replace hT := hT.then hs1
  refine Sa rfl rfl ?_
  refine as_nil (κ _ _ ?_)
  refine cw_seq fun _ hK2 => ?_
  refine cw_rs fun _ κ => ?_
  refine Sf 0 rfl (by kernel_rfl) rfl ?_
  refine S1 rfl (by kernel_rfl) rfl (by exact BlkR.cell (hs1.sat _ _ _ hb1) rfl) ?_
  refine as_nil (κ _ _ ?_)
  refine cw_block ?_
  refine cw_rs fun _ κ => ?_
  refine as_q rfl rfl (q_isF (r := .agg #[.pointer none]) (by kernel_rfl) (by kernel_rfl) rfl rfl) ?_
  refine Se rfl rfl rfl ?_
  refine Se rfl rfl rfl ?_
  refine as_nil (κ _ _ ?_)
  refine cw_false rfl ?_
  refine cw_rs fun _ κ => ?_
  refine as_q rfl rfl (q_isF (r := .agg #[.pointer none]) (by kernel_rfl) (by kernel_rfl) rfl rfl) ?_
  refine Se rfl rfl rfl ?_
  refine Se rfl rfl rfl ?_
  refine as_nil (κ _ _ ?_)
  refine cw_false rfl ?_
  refine cw_rs fun _ κ => ?_
  refine as_q rfl rfl (q_isF (r := .agg #[.pointer none]) (by kernel_rfl) (by kernel_rfl) rfl rfl) ?_
  refine Se rfl rfl rfl ?_
  refine Se rfl rfl rfl ?_
  refine as_nil (κ _ _ ?_)
  refine cw_false rfl ?_
  refine cw_rs fun _ κ => ?_
  refine as_q rfl rfl (q_isF (r := .agg #[.pointer none]) (by kernel_rfl) (by kernel_rfl) rfl rfl) ?_
  refine Se rfl rfl rfl ?_
  refine Se rfl rfl rfl ?_
  refine as_nil (κ _ _ ?_)
  refine cw_false rfl ?_
  refine cw_rs fun _ κ => ?_
  refine as_q rfl rfl (q_isT (by kernel_rfl) rfl) ?_
  refine Se rfl rfl rfl ?_
  refine Se rfl rfl rfl ?_
  refine as_nil (κ _ _ ?_)
  refine cw_true rfl ?_
  refine cw_rs fun _ κ => ?_
  refine Sa rfl rfl ?_
  refine as_nil (κ _ _ ?_)
  refine cw_ret ?_
  exact ⟨_, (res_tmp rfl res_nil), rfl, hT.forget⟩
theorem hp_kind_f {w : World} {M : Mem} {q : Option Addr} (hs : Sat M w) :
    Does Tryz.prog 30 #[.agg #[.iface 95 (.agg #[.pointer q])]] w (fun r w' => r = .int .i64 (6 : Nat) ∧ Step Nope M w M w') := by
  have hT := Step.refl Nope hs
  refine fn_enter Tryz.func30 rfl (rs := [.tmp 2]) rfl rfl rfl rfl ?_
  refine cw_rs fun _ κ => ?_
  refine as_h rfl (h_boxM hs rfl rfl fun b1 M1 w1 hs1 hb1 e1 => ?_)
  replace hT := hT.then hs1
  refine Sa rfl rfl ?_
  refine as_nil (κ _ _ ?_)
  refine cw_seq fun _ hK2 => ?_
  refine cw_rs fun _ κ => ?_
  refine Sf 0 rfl (by kernel_rfl) rfl ?_
  refine S1 rfl (by kernel_rfl) rfl (by exact BlkR.cell (hs1.sat _ _ _ hb1) rfl) ?_
  refine as_nil (κ _ _ ?_)
  refine cw_block ?_
  refine cw_rs fun _ κ => ?_
  refine as_q rfl rfl (q_isF (r := .agg #[.pointer none]) (by kernel_rfl) (by kernel_rfl) rfl rfl) ?_
  refine Se rfl rfl rfl ?_
  refine Se rfl rfl rfl ?_
  refine as_nil (κ _ _ ?_)
  refine cw_false rfl ?_
  refine cw_rs fun _ κ => ?_
  refine as_q rfl rfl (q_isF (r := .agg #[.pointer none]) (by kernel_rfl) (by kernel_rfl) rfl rfl) ?_
  refine Se rfl rfl rfl ?_
  refine Se rfl rfl rfl ?_
  refine as_nil (κ _ _ ?_)
  refine cw_false rfl ?_
  refine cw_rs fun _ κ => ?_
  refine as_q rfl rfl (q_isF (r := .agg #[.pointer none]) (by kernel_rfl) (by kernel_rfl) rfl rfl) ?_
  refine Se rfl rfl rfl ?_
  refine Se rfl rfl rfl ?_
  refine as_nil (κ _ _ ?_)
  refine cw_false rfl ?_
  refine cw_rs fun _ κ => ?_
  refine as_q rfl rfl (q_isF (r := .agg #[.pointer none]) (by kernel_rfl) (by kernel_rfl) rfl rfl) ?_
  refine Se rfl rfl rfl ?_
  refine Se rfl rfl rfl ?_
  refine as_nil (κ _ _ ?_)
  refine cw_false rfl ?_
  refine cw_rs fun _ κ => ?_
  refine as_q rfl rfl (q_isF (r := .agg #[.pointer none]) (by kernel_rfl) (by kernel_rfl) rfl rfl) ?_
  refine Se rfl rfl rfl ?_
  refine Se rfl rfl rfl ?_
  refine as_nil (κ _ _ ?_)
  refine cw_false rfl ?_
  refine cw_rs fun _ κ => ?_
  refine as_q rfl rfl (q_isT (by kernel_rfl) rfl) ?_
  refine Se rfl rfl rfl ?_
  refine Se rfl rfl rfl ?_
  refine as_nil (κ _ _ ?_)
  refine cw_true rfl ?_
  refine cw_rs fun _ κ => ?_
  refine Sa rfl rfl ?_
  refine as_nil (κ _ _ ?_)
  refine cw_ret ?_
  exact ⟨_, (res_tmp rfl res_nil), rfl, hT.forget⟩
theorem hp_kind {w : World} {M : Mem} {k : Nat} {l : List El} {v : Value} (hs : Sat M w) (h : HVal M k l v) : Does Tryz.prog 30 #[.agg #[v]] w (fun r w' => r = .int .i64 (k : Nat) ∧ Step Nope M w M w') := by
  cases h with
  | z => exact hp_kind_z hs
  | a h hok hl => exact hp_kind_a hs
  | b h hok hl => exact hp_kind_b hs
  | c h hok hl => exact hp_kind_c hs
  | d h hok hl => exact hp_kind_d hs
  | e h hok hl => exact hp_kind_e hs
  | f h hok hl => exact hp_kind_f hs
theorem hp_size_0 {w : World} {M : Mem} (hs : Sat M w) :
    Does Tryz.prog 21 #[.agg #[.nilIface]] w (fun r w' => r = .int .i64 ((0 : Nat) : Int) ∧ Step Nope M w M w') := by
  have hT := Step.refl Nope hs
  refine fn_enter Tryz.func21 rfl (rs := [.tmp 2]) rfl rfl rfl rfl ?_
  refine cw_rs fun _ κ => ?_
  refine as_h rfl (h_boxM hs rfl rfl fun b1 M1 w1 hs1 hb1 e1 => ?_)
  replace hT := hT.then hs1
  refine Sa rfl rfl ?_
  refine as_nil (κ _ _ ?_)
  refine cw_seq fun _ hK2 => ?_
  refine cw_rs fun _ κ => ?_
  refine Sf 0 rfl (by kernel_rfl) rfl ?_
  refine S1 rfl (by kernel_rfl) rfl (by exact BlkR.cell (hs1.sat _ _ _ hb1) rfl) ?_
  refine as_q rfl rfl (q_ifNil (by kernel_rfl) rfl) ?_
  refine as_nil (κ _ _ ?_)
  refine cw_true rfl ?_
  refine cw_rs fun _ κ => ?_
  refine Sa rfl rfl ?_
  refine as_nil (κ _ _ ?_)
  refine cw_ret ?_
  exact ⟨_, (res_tmp rfl res_nil), rfl, hT.forget⟩
theorem hp_size_1 {w : World} {M : Mem} {k : Nat} {l : List El} {v : Value} (hs : Sat M w) (h : HVal M k l v) (hk : k ≠ 0) (hz : l.length < 1000000000) :
    Does Tryz.prog 21 #[.agg #[v]] w (fun r w' => r = .int .i64 (l.length : Nat) ∧ Step Nope M w M w') := by
  have hT := Step.refl Nope hs
  obtain ⟨d, u, rfl⟩ := h.iface hk
  refine fn_enter Tryz.func21 rfl (rs := [.tmp 2]) rfl rfl rfl rfl ?_
  refine cw_rs fun _ κ => ?_
  refine as_h rfl (h_boxM hs rfl rfl fun b1 M1 w1 hs1 hb1 e1 => ?_)
  replace h := h.mono hs1.le
  replace hT := hT.then hs1
  refine Sa rfl rfl ?_
  refine as_nil (κ _ _ ?_)
  refine cw_seq fun _ hK2 => ?_
  refine cw_rs fun _ κ => ?_
  refine Sf 0 rfl (by kernel_rfl) rfl ?_
  refine S1 rfl (by kernel_rfl) rfl (by exact BlkR.cell (hs1.sat _ _ _ hb1) rfl) ?_
  refine as_q rfl rfl (q_ifSome (by kernel_rfl) rfl) ?_
  refine as_nil (κ _ _ ?_)
  refine cw_false rfl ?_
  refine cw_skip ?_
  refine hK2 _ _ ?_
  refine cw_rs fun _ κ => ?_
  refine Sf 0 rfl (by kernel_rfl) rfl ?_
  refine S1 rfl (by kernel_rfl) rfl (by exact BlkR.cell (hs1.sat _ _ _ hb1) rfl) ?_
  obtain ⟨d0, u0, f0, r0, hv0, hc0_, hm0, hd0⟩ := hv_size hs1.sat h hk hz
  cases hv0
  refine as_h rfl (h_invokeP hc0_ rfl rfl (hm0 _) ?_)
  refine hd0.mono ?_
  rintro _ w2 ⟨rfl, hs2⟩
  replace h := h.mono hs2.le
  replace hT := hT.then hs2
  refine Sa rfl rfl ?_
  refine as_nil (κ _ _ ?_)
  refine cw_ret ?_
  exact ⟨_, (res_tmp rfl res_nil), rfl, hT.forget⟩
theorem hp_size {w : World} {M : Mem} {k : Nat} {l : List El} {v : Value} (hs : Sat M w) (h : HVal M k l v) (hz : l.length < 1000000000) : Does Tryz.prog 21 #[.agg #[v]] w (fun r w' => r = .int .i64 (l.length : Nat) ∧ Step Nope M w M w') := by
  by_cases hk : k = 0
  · subst hk; obtain ⟨rfl, rfl⟩ := h.zero; exact hp_size_0 hs
  · exact hp_size_1 hs h hk hz
theorem hp_full_0 {w : World} {M : Mem} (hs : Sat M w) :
    Does Tryz.prog 40 #[.agg #[.nilIface]] w (fun r w' => r = .int .i64 22 ∧ Step Nope M w M w') := by
  have hT := Step.refl Nope hs
  refine fn_enter Tryz.func40 rfl (rs := [.tmp 2]) rfl rfl rfl rfl ?_
  refine cw_rs fun _ κ => ?_
  refine as_h rfl (h_boxM hs rfl rfl fun b1 M1 w1 hs1 hb1 e1 => ?_)
  replace hT := hT.then hs1
  refine Sa rfl rfl ?_
  refine as_nil (κ _ _ ?_)
  refine cw_seq fun _ hK2 => ?_
  refine cw_block ?_
  refine cw_rs fun _ κ => ?_
  refine Sf 0 rfl (by kernel_rfl) rfl ?_
  refine S1 rfl (by kernel_rfl) rfl (by exact BlkR.cell (hs1.sat _ _ _ hb1) rfl) ?_
  refine as_q rfl rfl (q_ifNil (by kernel_rfl) rfl) ?_
  refine Sa rfl rfl ?_
  refine as_nil (κ _ _ ?_)
  refine cw_true rfl ?_
  refine cw_rs fun _ κ => ?_
  refine Sa rfl rfl ?_
  refine as_nil (κ _ _ ?_)
  refine cw_ret ?_
  exact ⟨_, (res_tmp rfl res_nil), rfl, hT.forget⟩
theorem hp_full_1 {w : World} {M : Mem} {k : Nat} {v : Value} (hs : Sat M w) (h : HVal M k [] v) (hk : k ≠ 0) :
    Does Tryz.prog 40 #[.agg #[v]] w (fun r w' => r = .int .i64 23 ∧ Step Nope M w M w') := by
  have hT := Step.refl Nope hs
  obtain ⟨d, u, rfl⟩ := h.iface hk
  refine fn_enter Tryz.func40 rfl (rs := [.tmp 2]) rfl rfl rfl rfl ?_
  refine cw_rs fun _ κ => ?_
  refine as_h rfl (h_boxM hs rfl rfl fun b1 M1 w1 hs1 hb1 e1 => ?_)
  replace h := h.mono hs1.le
  replace hT := hT.then hs1
  refine Sa rfl rfl ?_
  refine as_nil (κ _ _ ?_)
  refine cw_seq fun _ hK2 => ?_
  refine cw_block ?_
  refine cw_rs fun _ κ => ?_
  refine Sf 0 rfl (by kernel_rfl) rfl ?_
  refine S1 rfl (by kernel_rfl) rfl (by exact BlkR.cell (hs1.sat _ _ _ hb1) rfl) ?_
  refine as_q rfl rfl (q_ifSome (by kernel_rfl) rfl) ?_
  refine Sa rfl rfl ?_
  refine as_nil (κ _ _ ?_)
  refine cw_false rfl ?_
  refine cw_rs fun _ κ => ?_
  refine Sc 1 rfl (by kernel_rfl) rfl (by exact BlkR.cells (hs1.sat _ _ _ hb1) rfl) ?_
  refine as_h rfl (h_call (by kernel_rfl) rfl ?_)
  refine (hp_size hs1.sat h (by decide)).mono ?_
  rintro _ w2 ⟨rfl, hs2⟩
  replace h := h.mono hs2.le
  replace hT := hT.then hs2
  refine as_q rfl rfl (q_eqT rfl rfl (by simp)) ?_
  refine Sa rfl rfl ?_
  refine as_nil (κ _ _ ?_)
  refine cw_true rfl ?_
  refine cw_rs fun _ κ => ?_
  refine Sa rfl rfl ?_
  refine as_nil (κ _ _ ?_)
  refine cw_ret ?_
  exact ⟨_, (res_tmp rfl res_nil), rfl, hT.forget⟩
theorem hp_full_2 {w : World} {M : Mem} {k : Nat} {x : El} {l : List El} {v : Value} (hs : Sat M w) (h : HVal M k (x :: l) v) (hk : k ≠ 0) (hz : (x :: l).length < 1000000000) :
    Does Tryz.prog 40 #[.agg #[v]] w (fun r w' => r = .int .i64 0 ∧ Step Nope M w M w') := by
  have hT := Step.refl Nope hs
  obtain ⟨d, u, rfl⟩ := h.iface hk
  refine fn_enter Tryz.func40 rfl (rs := [.tmp 2]) rfl rfl rfl rfl ?_
  refine cw_rs fun _ κ => ?_
  refine as_h rfl (h_boxM hs rfl rfl fun b1 M1 w1 hs1 hb1 e1 => ?_)
  replace h := h.mono hs1.le
  replace hT := hT.then hs1
  refine Sa rfl rfl ?_
  refine as_nil (κ _ _ ?_)
  refine cw_seq fun _ hK2 => ?_
  refine cw_block ?_
  refine cw_rs fun _ κ => ?_
  refine Sf 0 rfl (by kernel_rfl) rfl ?_
  refine S1 rfl (by kernel_rfl) rfl (by exact BlkR.cell (hs1.sat _ _ _ hb1) rfl) ?_
  refine as_q rfl rfl (q_ifSome (by kernel_rfl) rfl) ?_
  refine Sa rfl rfl ?_
  refine as_nil (κ _ _ ?_)
  refine cw_false rfl ?_
  refine cw_rs fun _ κ => ?_
  refine Sc 1 rfl (by kernel_rfl) rfl (by exact BlkR.cells (hs1.sat _ _ _ hb1) rfl) ?_
  refine as_h rfl (h_call (by kernel_rfl) rfl ?_)
  refine (hp_size hs1.sat h (by exact hz)).mono ?_
  rintro _ w2 ⟨rfl, hs2⟩
  replace h := h.mono hs2.le
  replace hT := hT.then hs2
  refine as_q rfl rfl (q_eqF rfl rfl (by simp only [List.length_cons]; omega)) ?_
  refine Sa rfl rfl ?_
  refine as_nil (κ _ _ ?_)
  refine cw_false rfl ?_
  refine cw_skip ?_
  refine hK2 _ _ ?_
  refine cw_rs fun _ κ => ?_
  refine Sa rfl rfl ?_
  refine as_nil (κ _ _ ?_)
  refine cw_ret ?_
  exact ⟨_, (res_tmp rfl res_nil), rfl, hT.forget⟩
theorem hp_full {w : World} {M : Mem} {k : Nat} {l : List El} {v : Value} (hs : Sat M w) (h : HVal M k l v) (hz : l.length < 1000000000) : Does Tryz.prog 40 #[.agg #[v]] w (fun r w' => r = .int .i64 (fullE k l) ∧ Step Nope M w M w') := by
  by_cases hk : k = 0
  · subst hk; obtain ⟨rfl, rfl⟩ := h.zero; exact hp_full_0 hs
  · unfold fullE
    rw [if_neg hk]
    cases l with
    | nil => exact hp_full_1 hs h hk
    | cons x l => exact hp_full_2 hs h hk hz
end Go.Proofs.YtgcgjpfjjgalmaaGreat
