/- Steps of the proof that the law of this claim answers true, part 4. No conditions. -/
import Derived.Shelf.Strings.OnBuilder
import Derived.Shelf.Strconv.Itoa4
import Derived.Test.YtgcgjpfjjgalmaaGreatProg
import Derived.Test.YtgcgjpfjjgalmaaGreatCHeapNoneC
/- Leftist heaps, part 1. -/
namespace Go.Proofs.YtgcgjpfjjgalmaaGreat
open Go Go.Eng
theorem l_rank_nil {w : World} {M : Mem} (hs : Sat M w) :
    Does Tryz.prog 284 #[.agg #[.pointer none]] w (fun v w' => v = .int .i64 ((Lft.nil.rank : Nat) : Int) ∧ Step Nope M w M w') := by
  have hT := Step.refl Nope hs
  refine fn_enter Tryz.func284 rfl (rs := [.tmp 2]) rfl rfl rfl rfl ?_
  refine cw_rs fun _ κ => ?_
  refine as_h rfl (h_boxM hs rfl rfl fun b1 M1 w1 hs1 hb1 e1 => ?_)
  replace hT := hT.then hs1
  refine Sa rfl rfl ?_
  refine as_nil (κ _ _ ?_)
  refine cw_seq fun _ hK2 => ?_
  refine cw_rs fun _ κ => ?_
  refine Sf 0 rfl (by kernel_rfl) rfl ?_
  refine S1 rfl (by kernel_rfl) rfl (by exact BlkR.cell (hs1.sat _ _ _ hb1) rfl) ?_
  refine as_q rfl rfl (q_eqnil (by kernel_rfl) rfl) ?_
  refine as_nil (κ _ _ ?_)
  refine cw_true rfl ?_
  refine cw_rs fun _ κ => ?_
  refine Sa rfl rfl ?_
  refine as_nil (κ _ _ ?_)
  refine cw_ret ?_
  exact ⟨_, (res_tmp rfl res_nil), rfl, hT.forget⟩
theorem l_rank_node {w : World} {M : Mem} {x : El} {l r : Lft} {p : Value} (hs : Sat M w) (h : LRep 171 M (.node x l r) p) :
    Does Tryz.prog 284 #[.agg #[p]] w (fun v w' => v = .int .i64 (((Lft.node x l r).rank : Nat) : Int) ∧ Step Nope M w M w') := by
  have hT := Step.refl Nope hs
  obtain ⟨b, pl, pr, rfl, hb, hl, hr⟩ := h
  refine fn_enter Tryz.func284 rfl (rs := [.tmp 2]) rfl rfl rfl rfl ?_
  refine cw_rs fun _ κ => ?_
  refine as_h rfl (h_boxM hs rfl rfl fun b1 M1 w1 hs1 hb1 e1 => ?_)
  replace hb := hs1.le _ _ hb
  replace hT := hT.then hs1
  refine Sa rfl rfl ?_
  refine as_nil (κ _ _ ?_)
  refine cw_seq fun _ hK2 => ?_
  refine cw_rs fun _ κ => ?_
  refine Sf 0 rfl (by kernel_rfl) rfl ?_
  refine S1 rfl (by kernel_rfl) rfl (by exact BlkR.cell (hs1.sat _ _ _ hb1) rfl) ?_
  refine as_q rfl rfl (q_eqnil (by kernel_rfl) rfl) ?_
  refine as_nil (κ _ _ ?_)
  refine cw_false rfl ?_
  refine cw_skip ?_
  refine hK2 _ _ ?_
  refine cw_rs fun _ κ => ?_
  refine Sf 0 rfl (by kernel_rfl) rfl ?_
  refine S1 rfl (by kernel_rfl) rfl (by exact BlkR.cell (hs1.sat _ _ _ hb1) rfl) ?_
  refine as_q rfl rfl (q_nilp rfl) ?_
  refine Sf 4 rfl (by kernel_rfl) rfl ?_
  refine S1 rfl (by kernel_rfl) rfl (by exact BlkR.cell (hs1.sat _ _ _ hb) rfl) ?_
  refine Sa rfl rfl ?_
  refine as_nil (κ _ _ ?_)
  refine cw_ret ?_
  exact ⟨_, (res_tmp rfl res_nil), congrArg (Value.int .i64) (by simp [Lft.rank]), hT.forget⟩
theorem l_rank {w : World} {M : Mem} {t : Lft} {p : Value} (hs : Sat M w) (h : LRep 171 M t p) :
    Does Tryz.prog 284 #[.agg #[p]] w (fun v w' => v = .int .i64 (t.rank : Nat) ∧ Step Nope M w M w') := by
  cases t with
  | nil => cases h; exact l_rank_nil hs
  | node x l r => exact l_rank_node hs h
theorem l_size_nil {w : World} {M : Mem} (hs : Sat M w) :
    Does Tryz.prog 282 #[.agg #[.pointer none]] w (fun v w' => v = .int .i64 ((Lft.nil.size : Nat) : Int) ∧ Step Nope M w M w') := by
  have hT := Step.refl Nope hs
  refine fn_enter Tryz.func282 rfl (rs := [.tmp 2]) rfl rfl rfl rfl ?_
  refine cw_rs fun _ κ => ?_
  refine as_h rfl (h_boxM hs rfl rfl fun b1 M1 w1 hs1 hb1 e1 => ?_)
  replace hT := hT.then hs1
  refine Sa rfl rfl ?_
  refine as_nil (κ _ _ ?_)
  refine cw_seq fun _ hK2 => ?_
  refine cw_rs fun _ κ => ?_
  refine Sf 0 rfl (by kernel_rfl) rfl ?_
  refine S1 rfl (by kernel_rfl) rfl (by exact BlkR.cell (hs1.sat _ _ _ hb1) rfl) ?_
  refine as_q rfl rfl (q_eqnil (by kernel_rfl) rfl) ?_
  refine as_nil (κ _ _ ?_)
  refine cw_true rfl ?_
  refine cw_rs fun _ κ => ?_
  refine Sa rfl rfl ?_
  refine as_nil (κ _ _ ?_)
  refine cw_ret ?_
  exact ⟨_, (res_tmp rfl res_nil), rfl, hT.forget⟩
theorem l_size_node {w : World} {M : Mem} {x : El} {l r : Lft} {p : Value} (hs : Sat M w) (h : LRep 171 M (.node x l r) p) :
    Does Tryz.prog 282 #[.agg #[p]] w (fun v w' => v = .int .i64 (((Lft.node x l r).size : Nat) : Int) ∧ Step Nope M w M w') := by
  have hT := Step.refl Nope hs
  obtain ⟨b, pl, pr, rfl, hb, hl, hr⟩ := h
  refine fn_enter Tryz.func282 rfl (rs := [.tmp 2]) rfl rfl rfl rfl ?_
  refine cw_rs fun _ κ => ?_
  refine as_h rfl (h_boxM hs rfl rfl fun b1 M1 w1 hs1 hb1 e1 => ?_)
  replace hb := hs1.le _ _ hb
  replace hT := hT.then hs1
  refine Sa rfl rfl ?_
  refine as_nil (κ _ _ ?_)
  refine cw_seq fun _ hK2 => ?_
  refine cw_rs fun _ κ => ?_
  refine Sf 0 rfl (by kernel_rfl) rfl ?_
  refine S1 rfl (by kernel_rfl) rfl (by exact BlkR.cell (hs1.sat _ _ _ hb1) rfl) ?_
  refine as_q rfl rfl (q_eqnil (by kernel_rfl) rfl) ?_
  refine as_nil (κ _ _ ?_)
  refine cw_false rfl ?_
  refine cw_skip ?_
  refine hK2 _ _ ?_
  refine cw_rs fun _ κ => ?_
  refine Sf 0 rfl (by kernel_rfl) rfl ?_
  refine S1 rfl (by kernel_rfl) rfl (by exact BlkR.cell (hs1.sat _ _ _ hb1) rfl) ?_
  refine as_q rfl rfl (q_nilp rfl) ?_
  refine Sf 5 rfl (by kernel_rfl) rfl ?_
  refine S1 rfl (by kernel_rfl) rfl (by exact BlkR.cell (hs1.sat _ _ _ hb) rfl) ?_
  refine Sa rfl rfl ?_
  refine as_nil (κ _ _ ?_)
  refine cw_ret ?_
  exact ⟨_, (res_tmp rfl res_nil), congrArg (Value.int .i64) (by simp [Lft.size]), hT.forget⟩
theorem l_size {w : World} {M : Mem} {t : Lft} {p : Value} (hs : Sat M w) (h : LRep 171 M t p) :
    Does Tryz.prog 282 #[.agg #[p]] w (fun v w' => v = .int .i64 (t.size : Nat) ∧ Step Nope M w M w') := by
  cases t with
  | nil => cases h; exact l_size_nil hs
  | node x l r => exact l_size_node hs h
theorem l_made {w : World} {M : Mem} {x : El} {a b : Lft} {pa pb : Value} (hs : Sat M w) (ha : LRep 171 M a pa) (hb : LRep 171 M b pb) (hz : a.size + b.size ≤ 1000000000) :
    Does Tryz.prog 283 #[.pointer none, .agg (elc x).toArray, .agg #[pa], .agg #[pb]] w (fun v w' => ∃ p M', v = .agg #[p] ∧ Step Nope M w M' w' ∧ LRep 171 M' (Lft.mk x a b) p) := by
  have hT := Step.refl Nope hs
  have hra := a.rank_le
  have hrb := b.rank_le
  obtain ⟨qa, rfl⟩ := ha.ptr
  obtain ⟨qb, rfl⟩ := hb.ptr
  refine fn_enter Tryz.func283 rfl (rs := [.cell 8 67]) rfl rfl rfl rfl ?_
  refine cw_rs fun _ κ => ?_
  refine as_h rfl (h_boxM hs rfl rfl fun b1 M1 w1 hs1 hb1 e1 => ?_)
  replace ha := ha.mono hs1.le
  replace hb := hb.mono hs1.le
  replace hT := hT.then hs1
  have hz1 := hs1.size
  have hqaa := hT.size
  refine as_h rfl (h_boxO hs1.sat rfl rfl fun ba w2 hs2 hoa ea => ?_)
  replace ha := ha.mono hs2.le
  replace hb := hb.mono hs2.le
  replace hb1 := hs2.le _ _ hb1
  replace hT := hT.then hs2
  have hz2 := hs2.size
  have hla := hoa.1.lt
  have hqab := hT.size
  refine as_h rfl (h_boxO hs2.sat rfl rfl fun bb w3 hs3 hob eb => ?_)
  replace ha := ha.mono hs3.le
  replace hb := hb.mono hs3.le
  replace hb1 := hs3.le _ _ hb1
  replace hoa := hoa.then hs3
  replace hT := hT.then hs3
  have hz3 := hs3.size
  have hlb := hob.1.lt
  have hqar := hT.size
  refine as_h rfl (h_allocO (z := (.agg #[(.pointer none)])) hs3.sat (by kernel_rfl) rfl fun br w4 hs4 hor er => ?_)
  replace ha := ha.mono hs4.le
  replace hb := hb.mono hs4.le
  replace hb1 := hs4.le _ _ hb1
  replace hoa := hoa.then hs4
  replace hob := hob.then hs4
  replace hT := hT.then hs4
  have hz4 := hs4.size
  have hlr := hor.1.lt
  refine as_nil (κ _ _ ?_)
  refine cw_rs fun _ κ => ?_
  refine Sm rfl rfl ?_
  refine as_h rfl (h_call (by kernel_rfl) rfl ?_)
  refine (m_made hs4.sat).mono ?_
  rintro _ w5 hs5
  replace ha := ha.mono hs5.le
  replace hb := hb.mono hs5.le
  replace hb1 := hs5.le _ _ hb1
  replace hoa := hoa.then hs5
  replace hob := hob.then hs5
  replace hor := hor.then hs5
  replace hT := hT.then hs5
  have hz5 := hs5.size
  refine as_nil (κ _ _ ?_)
  refine cw_seq fun _ hK3 => ?_
  refine cw_dr (by kernel_rfl) fun _ κ => ?_
  have hs6 := Step.drew hs5.sat
  have hz6 := hs6.size
  replace ha := ha.mono hs6.le
  replace hb := hb.mono hs6.le
  replace hb1 := hs6.le _ _ hb1
  replace hoa := hoa.then hs6
  replace hob := hob.then hs6
  replace hor := hor.then hs6
  replace hT := hT.then hs6
  refine Dlc 0 1 1 rfl (by kernel_rfl) (by kernel_rfl) rfl (by exact Blk.cells hoa.1 rfl) ?_
  refine Dlc 2 5 1 rfl (by kernel_rfl) (by kernel_rfl) rfl (by exact Blk.cells hob.1 rfl) ?_
  refine Dh 1 7 rfl (by kernel_rfl) (keep_sift (bs := [F,T]) (by kernel_rfl)) (h_call (by kernel_rfl) rfl ?_)
  refine (l_rank hs6.sat ha).mono ?_
  rintro _ w7 ⟨rfl, hs7⟩
  replace ha := ha.mono hs7.le
  replace hb := hb.mono hs7.le
  replace hb1 := hs7.le _ _ hb1
  replace hoa := hoa.then hs7
  replace hob := hob.then hs7
  replace hor := hor.then hs7
  replace hT := hT.then hs7
  have hz7 := hs7.size
  refine ⟨(by repeat' first | exact trivial | exact BlkR.cell (hs7.sat _ _ _ hb1) rfl | exact BlkR.cells (hs7.sat _ _ _ hb1) rfl | exact Blk.cell hoa.1 rfl | exact Blk.cells hoa.1 rfl | exact Blk.cell hob.1 rfl | exact Blk.cells hob.1 rfl | exact Blk.cell hor.1 rfl | exact Blk.cells hor.1 rfl | assumption | refine all_keep ?_ | refine And.intro ?_ ?_), ?_⟩
  refine Dh 3 15 rfl (by kernel_rfl) (keep_sift (bs := [T]) (by kernel_rfl)) (h_call (by kernel_rfl) rfl ?_)
  refine (l_rank hs7.sat hb).mono ?_
  rintro _ w8 ⟨rfl, hs8⟩
  replace ha := ha.mono hs8.le
  replace hb := hb.mono hs8.le
  replace hb1 := hs8.le _ _ hb1
  replace hoa := hoa.then hs8
  replace hob := hob.then hs8
  replace hor := hor.then hs8
  replace hT := hT.then hs8
  have hz8 := hs8.size
  refine ⟨trivial, ?_⟩
  refine Dq 4 31 rfl (by kernel_rfl) (fun _ => (q_lt rfl rfl)) ?_
  refine Dd (by kernel_rfl) (κ _ _ ?_)
  refine cw_cond rfl (fun hc0 => ?_) (fun hc0 => ?_)
  · skip
    replace hc0 := of_decide_eq_true hc0
    refine cw_region fun _ κ => ?_
    refine Sc 1 rfl (by kernel_rfl) rfl (by exact Blk.cells hob.1 rfl) ?_
    refine Sc 1 rfl (by kernel_rfl) rfl (by exact Blk.cells hoa.1 rfl) ?_
    refine as_h0 (h_store hs8.sat hoa rfl rfl rfl (by kernel_rfl) rfl rfl rfl fun w9 hs9 hn9 => ?_)
    replace ha := ha.mono hs9.le
    replace hb := hb.mono hs9.le
    replace hb1 := hs9.le _ _ hb1
    replace hob := hob.step hs9 (fun h => by have h : _ = _ := h; omega)
    replace hor := hor.step hs9 (fun h => by have h : _ = _ := h; omega)
    clear hoa; have hoa := hn9; clear hn9
    replace hT := hT.own hs9 (by omega)
    have hz9 := hs9.size
    refine as_h0 (h_store hs9.sat hob rfl rfl rfl (by kernel_rfl) rfl rfl rfl fun w10 hs10 hn10 => ?_)
    replace ha := ha.mono hs10.le
    replace hb := hb.mono hs10.le
    replace hb1 := hs10.le _ _ hb1
    replace hoa := hoa.step hs10 (fun h => by have h : _ = _ := h; omega)
    replace hor := hor.step hs10 (fun h => by have h : _ = _ := h; omega)
    clear hob; have hob := hn10; clear hn10
    replace hT := hT.own hs10 (by omega)
    have hz10 := hs10.size
    refine as_nil (κ _ _ ?_)
    refine hK3 _ _ ?_
    refine cw_dr (by kernel_rfl) fun _ κ => ?_
    have hs11 := Step.drew hs10.sat
    have hz11 := hs11.size
    replace ha := ha.mono hs11.le
    replace hb := hb.mono hs11.le
    replace hb1 := hs11.le _ _ hb1
    replace hoa := hoa.then hs11
    replace hob := hob.then hs11
    replace hor := hor.then hs11
    replace hT := hT.then hs11
    refine Dlc 0 1 2 rfl (by kernel_rfl) (by kernel_rfl) rfl (by exact BlkR.cells (hs11.sat _ _ _ hb1) rfl) ?_
    refine Dlc 1 3 1 rfl (by kernel_rfl) (by kernel_rfl) rfl (by exact Blk.cells hoa.1 rfl) ?_
    refine Dlc 2 7 1 rfl (by kernel_rfl) (by kernel_rfl) rfl (by exact Blk.cells hob.1 rfl) ?_
    refine Dlc 3 15 1 rfl (by kernel_rfl) (by kernel_rfl) rfl (by exact Blk.cells hob.1 rfl) ?_
    refine Dlc 6 79 1 rfl (by kernel_rfl) (by kernel_rfl) rfl (by exact Blk.cells hoa.1 rfl) ?_
    refine Dlc 9 591 1 rfl (by kernel_rfl) (by kernel_rfl) rfl (by exact Blk.cells hob.1 rfl) ?_
    refine Dh 4 607 rfl (by kernel_rfl) (keep_sift (bs := [F,F,T,F,F,F]) (by kernel_rfl)) (h_call (by kernel_rfl) rfl ?_)
    refine (l_rank hs11.sat ha).mono ?_
    rintro _ w12 ⟨rfl, hs12⟩
    replace ha := ha.mono hs12.le
    replace hb := hb.mono hs12.le
    replace hb1 := hs12.le _ _ hb1
    replace hoa := hoa.then hs12
    replace hob := hob.then hs12
    replace hor := hor.then hs12
    replace hT := hT.then hs12
    have hz12 := hs12.size
    refine ⟨(by repeat' first | exact trivial | exact BlkR.cell (hs12.sat _ _ _ hb1) rfl | exact BlkR.cells (hs12.sat _ _ _ hb1) rfl | exact Blk.cell hoa.1 rfl | exact Blk.cells hoa.1 rfl | exact Blk.cell hob.1 rfl | exact Blk.cells hob.1 rfl | exact Blk.cell hor.1 rfl | exact Blk.cells hor.1 rfl | assumption | refine all_keep ?_ | refine And.intro ?_ ?_), ?_⟩
    refine Dq 5 639 rfl (by kernel_rfl) (fun _ => (q_addx rfl rfl (by omega) (by omega))) ?_
    refine Dh 7 767 rfl (by kernel_rfl) (keep_sift (bs := [F,T,F,F,F]) (by kernel_rfl)) (h_call (by kernel_rfl) rfl ?_)
    refine (l_size hs12.sat hb).mono ?_
    rintro _ w13 ⟨rfl, hs13⟩
    replace ha := ha.mono hs13.le
    replace hb := hb.mono hs13.le
    replace hb1 := hs13.le _ _ hb1
    replace hoa := hoa.then hs13
    replace hob := hob.then hs13
    replace hor := hor.then hs13
    replace hT := hT.then hs13
    have hz13 := hs13.size
    refine ⟨(by repeat' first | exact trivial | exact BlkR.cell (hs13.sat _ _ _ hb1) rfl | exact BlkR.cells (hs13.sat _ _ _ hb1) rfl | exact Blk.cell hoa.1 rfl | exact Blk.cells hoa.1 rfl | exact Blk.cell hob.1 rfl | exact Blk.cells hob.1 rfl | exact Blk.cell hor.1 rfl | exact Blk.cells hor.1 rfl | assumption | refine all_keep ?_ | refine And.intro ?_ ?_), ?_⟩
    refine Dq 8 1023 rfl (by kernel_rfl) (fun _ => (q_addx rfl rfl (by omega) (by omega))) ?_
    refine Dh 10 2047 rfl (by kernel_rfl) (keep_sift (bs := [T,F,F,F]) (by kernel_rfl)) (h_call (by kernel_rfl) rfl ?_)
    refine (l_size hs13.sat ha).mono ?_
    rintro _ w14 ⟨rfl, hs14⟩
    replace ha := ha.mono hs14.le
    replace hb := hb.mono hs14.le
    replace hb1 := hs14.le _ _ hb1
    replace hoa := hoa.then hs14
    replace hob := hob.then hs14
    replace hor := hor.then hs14
    replace hT := hT.then hs14
    have hz14 := hs14.size
    refine ⟨(by repeat' first | exact trivial | exact BlkR.cell (hs14.sat _ _ _ hb1) rfl | exact BlkR.cells (hs14.sat _ _ _ hb1) rfl | exact Blk.cell hoa.1 rfl | exact Blk.cells hoa.1 rfl | exact Blk.cell hob.1 rfl | exact Blk.cells hob.1 rfl | exact Blk.cell hor.1 rfl | exact Blk.cells hor.1 rfl | assumption | refine all_keep ?_ | refine And.intro ?_ ?_), ?_⟩
    refine Dq 11 4095 rfl (by kernel_rfl) (fun _ => (q_addx rfl rfl (by omega) (by omega))) ?_
    refine Dq 12 8191 rfl (by kernel_rfl) (fun _ => (q_build (zs := [(.int .i64 0), (.int .i64 0), (.pointer none), (.pointer none), (.int .i64 0), (.int .i64 0)]) (places := [(0, 2), (2, 1), (3, 1), (4, 1), (5, 1)]) (cs := [_, _, _, _, _, _]) (by kernel_rfl) (by kernel_rfl) rfl rfl)) ?_
    refine Dh 13 16383 rfl (by kernel_rfl) (keep_sift (bs := [F,F,F]) (by kernel_rfl)) (h_boxM hs14.sat rfl rfl fun b15 M15 w15 hs15 hb15 e15 => ?_)
    replace ha := ha.mono hs15.le
    replace hb := hb.mono hs15.le
    replace hb1 := hs15.le _ _ hb1
    replace hoa := hoa.then hs15
    replace hob := hob.then hs15
    replace hor := hor.then hs15
    replace hT := hT.then hs15
    have hz15 := hs15.size
    refine ⟨(by repeat' first | exact trivial | exact BlkR.cell (hs15.sat _ _ _ hb1) rfl | exact BlkR.cells (hs15.sat _ _ _ hb1) rfl | exact Blk.cell hoa.1 rfl | exact Blk.cells hoa.1 rfl | exact Blk.cell hob.1 rfl | exact Blk.cells hob.1 rfl | exact Blk.cell hor.1 rfl | exact Blk.cells hor.1 rfl | exact BlkR.cell (hs15.sat _ _ _ hb15) rfl | exact BlkR.cells (hs15.sat _ _ _ hb15) rfl | assumption | refine all_keep ?_ | refine And.intro ?_ ?_), ?_⟩
    refine Dq 14 32767 rfl (by kernel_rfl) (fun _ => (q_build (zs := [(.pointer none)]) (places := [(0, 1)]) (cs := [_]) (by kernel_rfl) (by kernel_rfl) rfl rfl)) ?_
    refine Dh0 15 65535 rfl (by kernel_rfl) (keep_sift (bs := [T,T,T]) (by kernel_rfl)) (h_store hs15.sat hor rfl rfl rfl (by kernel_rfl) rfl rfl rfl fun w16 hs16 hn16 => ?_)
    replace ha := ha.mono hs16.le
    replace hb := hb.mono hs16.le
    replace hb1 := hs16.le _ _ hb1
    replace hoa := hoa.step hs16 (fun h => by have h : _ = _ := h; omega)
    replace hob := hob.step hs16 (fun h => by have h : _ = _ := h; omega)
    replace hb15 := hs16.le _ _ hb15
    clear hor; have hor := hn16; clear hn16
    replace hT := hT.own hs16 (by omega)
    have hz16 := hs16.size
    refine ⟨trivial, ?_⟩
    refine Dd (by kernel_rfl) (κ _ _ ?_)
    refine cw_ret ?_
    exact ⟨_, (res_cell rfl (loadVar_n (n := 1) (by kernel_rfl) (by exact Blk.cells hor.1 rfl)) res_nil), _, _, rfl, hT, by rw [Lft.mk, if_pos (by omega)]; exact ⟨_, _, _, rfl, hb15, hb, ha⟩⟩
  · skip
    replace hc0 := of_decide_eq_false hc0
    refine cw_skip ?_
    refine hK3 _ _ ?_
    refine cw_dr (by kernel_rfl) fun _ κ => ?_
    have hs17 := Step.drew hs8.sat
    have hz17 := hs17.size
    replace ha := ha.mono hs17.le
    replace hb := hb.mono hs17.le
    replace hb1 := hs17.le _ _ hb1
    replace hoa := hoa.then hs17
    replace hob := hob.then hs17
    replace hor := hor.then hs17
    replace hT := hT.then hs17
    refine Dlc 0 1 2 rfl (by kernel_rfl) (by kernel_rfl) rfl (by exact BlkR.cells (hs17.sat _ _ _ hb1) rfl) ?_
    refine Dlc 1 3 1 rfl (by kernel_rfl) (by kernel_rfl) rfl (by exact Blk.cells hoa.1 rfl) ?_
    refine Dlc 2 7 1 rfl (by kernel_rfl) (by kernel_rfl) rfl (by exact Blk.cells hob.1 rfl) ?_
    refine Dlc 3 15 1 rfl (by kernel_rfl) (by kernel_rfl) rfl (by exact Blk.cells hob.1 rfl) ?_
    refine Dlc 6 79 1 rfl (by kernel_rfl) (by kernel_rfl) rfl (by exact Blk.cells hoa.1 rfl) ?_
    refine Dlc 9 591 1 rfl (by kernel_rfl) (by kernel_rfl) rfl (by exact Blk.cells hob.1 rfl) ?_
    refine Dh 4 607 rfl (by kernel_rfl) (keep_sift (bs := [F,F,T,F,F,F]) (by kernel_rfl)) (h_call (by kernel_rfl) rfl ?_)
    refine (l_rank hs17.sat hb).mono ?_
    rintro _ w18 ⟨rfl, hs18⟩
    replace ha := ha.mono hs18.le
    replace hb := hb.mono hs18.le
    replace hb1 := hs18.le _ _ hb1
    replace hoa := hoa.then hs18
    replace hob := hob.then hs18
    replace hor := hor.then hs18
    replace hT := hT.then hs18
    have hz18 := hs18.size
    refine ⟨(by repeat' first | exact trivial | exact BlkR.cell (hs18.sat _ _ _ hb1) rfl | exact BlkR.cells (hs18.sat _ _ _ hb1) rfl | exact Blk.cell hoa.1 rfl | exact Blk.cells hoa.1 rfl | exact Blk.cell hob.1 rfl | exact Blk.cells hob.1 rfl | exact Blk.cell hor.1 rfl | exact Blk.cells hor.1 rfl | assumption | refine all_keep ?_ | refine And.intro ?_ ?_), ?_⟩
    refine Dq 5 639 rfl (by kernel_rfl) (fun _ => (q_addx rfl rfl (by omega) (by omega))) ?_
    refine Dh 7 767 rfl (by kernel_rfl) (keep_sift (bs := [F,T,F,F,F]) (by kernel_rfl)) (h_call (by kernel_rfl) rfl ?_)
    refine (l_size hs18.sat ha).mono ?_
    rintro _ w19 ⟨rfl, hs19⟩
    replace ha := ha.mono hs19.le
    replace hb := hb.mono hs19.le
    replace hb1 := hs19.le _ _ hb1
    replace hoa := hoa.then hs19
    replace hob := hob.then hs19
    replace hor := hor.then hs19
    replace hT := hT.then hs19
    have hz19 := hs19.size
    refine ⟨(by repeat' first | exact trivial | exact BlkR.cell (hs19.sat _ _ _ hb1) rfl | exact BlkR.cells (hs19.sat _ _ _ hb1) rfl | exact Blk.cell hoa.1 rfl | exact Blk.cells hoa.1 rfl | exact Blk.cell hob.1 rfl | exact Blk.cells hob.1 rfl | exact Blk.cell hor.1 rfl | exact Blk.cells hor.1 rfl | assumption | refine all_keep ?_ | refine And.intro ?_ ?_), ?_⟩
    refine Dq 8 1023 rfl (by kernel_rfl) (fun _ => (q_addx rfl rfl (by omega) (by omega))) ?_
    refine Dh 10 2047 rfl (by kernel_rfl) (keep_sift (bs := [T,F,F,F]) (by kernel_rfl)) (h_call (by kernel_rfl) rfl ?_)
    refine (l_size hs19.sat hb).mono ?_
    rintro _ w20 ⟨rfl, hs20⟩
    replace ha := ha.mono hs20.le
    replace hb := hb.mono hs20.le
    replace hb1 := hs20.le _ _ hb1
    replace hoa := hoa.then hs20
    replace hob := hob.then hs20
    replace hor := hor.then hs20
    replace hT := hT.then hs20
    have hz20 := hs20.size
    refine ⟨(by repeat' first | exact trivial | exact BlkR.cell (hs20.sat _ _ _ hb1) rfl | exact BlkR.cells (hs20.sat _ _ _ hb1) rfl | exact Blk.cell hoa.1 rfl | exact Blk.cells hoa.1 rfl | exact Blk.cell hob.1 rfl | exact Blk.cells hob.1 rfl | exact Blk.cell hor.1 rfl | exact Blk.cells hor.1 rfl | assumption | refine all_keep ?_ | refine And.intro ?_ ?_), ?_⟩
    refine Dq 11 4095 rfl (by kernel_rfl) (fun _ => (q_addx rfl rfl (by omega) (by omega))) ?_
    refine Dq 12 8191 rfl (by kernel_rfl) (fun _ => (q_build (zs := [(.int .i64 0), (.int .i64 0), (.pointer none), (.pointer none), (.int .i64 0), (.int .i64 0)]) (places := [(0, 2), (2, 1), (3, 1), (4, 1), (5, 1)]) (cs := [_, _, _, _, _, _]) (by kernel_rfl) (by kernel_rfl) rfl rfl)) ?_
    refine Dh 13 16383 rfl (by kernel_rfl) (keep_sift (bs := [F,F,F]) (by kernel_rfl)) (h_boxM hs20.sat rfl rfl fun b21 M21 w21 hs21 hb21 e21 => ?_)
    replace ha := ha.mono hs21.le
    replace hb := hb.mono hs21.le
    replace hb1 := hs21.le _ _ hb1
    replace hoa := hoa.then hs21
    replace hob := hob.then hs21
    replace hor := hor.then hs21
    replace hT := hT.then hs21
    have hz21 := hs21.size
    refine ⟨(by repeat' first | exact trivial | exact BlkR.cell (hs21.sat _ _ _ hb1) rfl | exact BlkR.cells (hs21.sat _ _ _ hb1) rfl | exact Blk.cell hoa.1 rfl | exact Blk.cells hoa.1 rfl | exact Blk.cell hob.1 rfl | exact Blk.cells hob.1 rfl | exact Blk.cell hor.1 rfl | exact Blk.cells hor.1 rfl | exact BlkR.cell (hs21.sat _ _ _ hb21) rfl | exact BlkR.cells (hs21.sat _ _ _ hb21) rfl | assumption | refine all_keep ?_ | refine And.intro ?_ ?_), ?_⟩
    refine Dq 14 32767 rfl (by kernel_rfl) (fun _ => (q_build (zs := [(.pointer none)]) (places := [(0, 1)]) (cs := [_]) (by kernel_rfl) (by kernel_rfl) rfl rfl)) ?_
    refine Dh0 15 65535 rfl (by kernel_rfl) (keep_sift (bs := [T,T,T]) (by kernel_rfl)) (h_store hs21.sat hor rfl rfl rfl (by kernel_rfl) rfl rfl rfl fun w22 hs22 hn22 => ?_)
    replace ha := ha.mono hs22.le
    replace hb := hb.mono hs22.le
    replace hb21 := hs22.le _ _ hb21
    clear hor; have hor := hn22; clear hn22
    replace hT := hT.own hs22 (by omega)
    have hz22 := hs22.size
    refine ⟨trivial, ?_⟩
    refine Dd (by kernel_rfl) (κ _ _ ?_)
    refine cw_ret ?_
    exact ⟨_, (res_cell rfl (loadVar_n (n := 1) (by kernel_rfl) (by exact Blk.cells hor.1 rfl)) res_nil), _, _, rfl, hT, by rw [Lft.mk, if_neg (by omega)]; exact ⟨_, _, _, rfl, hb21, ha, hb⟩⟩
theorem l_meld_a {w : World} {M : Mem} {o : Lft} {po : Value} (hs : Sat M w) (ho : LRep 171 M o po) :
    Does Tryz.prog 279 #[.agg #[.pointer none], .pointer none, .agg #[po]] w (fun v w' => ∃ p M', v = .agg #[p] ∧ Step Nope M w M' w' ∧ LRep 171 M' o p) := by
  have hT := Step.refl Nope hs
  obtain ⟨qo, rfl⟩ := ho.ptr
  refine fn_enter Tryz.func279 rfl (rs := [.cell 6 67]) rfl rfl rfl rfl ?_
  refine cw_rs fun _ κ => ?_
  have hqah := hT.size
  refine as_h rfl (h_boxO hs rfl rfl fun bh w1 hs1 hoh eh => ?_)
  replace ho := ho.mono hs1.le
  replace hT := hT.then hs1
  have hz1 := hs1.size
  have hlh := hoh.1.lt
  have hqao := hT.size
  refine as_h rfl (h_boxO hs1.sat rfl rfl fun bo w2 hs2 hoo eo => ?_)
  replace ho := ho.mono hs2.le
  replace hoh := hoh.then hs2
  replace hT := hT.then hs2
  have hz2 := hs2.size
  have hlo := hoo.1.lt
  have hqar := hT.size
  refine as_h rfl (h_allocO (z := (.agg #[(.pointer none)])) hs2.sat (by kernel_rfl) rfl fun br w3 hs3 hor er => ?_)
  replace ho := ho.mono hs3.le
  replace hoh := hoh.then hs3
  replace hoo := hoo.then hs3
  replace hT := hT.then hs3
  have hz3 := hs3.size
  have hlr := hor.1.lt
  refine as_nil (κ _ _ ?_)
  refine cw_seq fun _ hK2 => ?_
  refine cw_block ?_
  refine cw_rs fun _ κ => ?_
  refine Sf 0 rfl (by kernel_rfl) rfl ?_
  refine S1 rfl (by kernel_rfl) rfl (by exact Blk.cell hoh.1 rfl) ?_
  refine as_q rfl rfl (q_eqnil (by kernel_rfl) rfl) ?_
  refine Sa rfl rfl ?_
  refine as_nil (κ _ _ ?_)
  refine cw_true rfl ?_
  refine cw_rs fun _ κ => ?_
  refine Sc 1 rfl (by kernel_rfl) rfl (by exact Blk.cells hoo.1 rfl) ?_
  refine as_h0 (h_store hs3.sat hor rfl rfl rfl (by kernel_rfl) rfl rfl rfl fun w4 hs4 hn4 => ?_)
  replace ho := ho.mono hs4.le
  clear hor; have hor := hn4; clear hn4
  replace hT := hT.own hs4 (by omega)
  have hz4 := hs4.size
  refine as_nil (κ _ _ ?_)
  refine cw_ret ?_
  exact ⟨_, (res_cell rfl (loadVar_n (n := 1) (by kernel_rfl) (by exact Blk.cells hor.1 rfl)) res_nil), _, _, rfl, hT, ho⟩
theorem l_meld_b {w : World} {M : Mem} {x : El} {l r : Lft} {p : Value} (hs : Sat M w) (h : LRep 171 M (.node x l r) p) :
    Does Tryz.prog 279 #[.agg #[p], .pointer none, .agg #[.pointer none]] w (fun v w' => ∃ p M', v = .agg #[p] ∧ Step Nope M w M' w' ∧ LRep 171 M' (.node x l r) p) := by
  have hT := Step.refl Nope hs
  obtain ⟨b, pl, pr, rfl, hb, hl, hr⟩ := h
  refine fn_enter Tryz.func279 rfl (rs := [.cell 6 67]) rfl rfl rfl rfl ?_
  refine cw_rs fun _ κ => ?_
  have hqah := hT.size
  refine as_h rfl (h_boxO hs rfl rfl fun bh w1 hs1 hoh eh => ?_)
  replace hb := hs1.le _ _ hb
  replace hl := hl.mono hs1.le
  replace hr := hr.mono hs1.le
  replace hT := hT.then hs1
  have hz1 := hs1.size
  have hlh := hoh.1.lt
  have hqao := hT.size
  refine as_h rfl (h_boxO hs1.sat rfl rfl fun bo w2 hs2 hoo eo => ?_)
  replace hb := hs2.le _ _ hb
  replace hl := hl.mono hs2.le
  replace hr := hr.mono hs2.le
  replace hoh := hoh.then hs2
  replace hT := hT.then hs2
  have hz2 := hs2.size
  have hlo := hoo.1.lt
  have hqar := hT.size
  refine as_h rfl (h_allocO (z := (.agg #[(.pointer none)])) hs2.sat (by kernel_rfl) rfl fun br w3 hs3 hor er => ?_)
  replace hb := hs3.le _ _ hb
  replace hl := hl.mono hs3.le
  replace hr := hr.mono hs3.le
  replace hoh := hoh.then hs3
  replace hoo := hoo.then hs3
  replace hT := hT.then hs3
  have hz3 := hs3.size
  have hlr := hor.1.lt
  refine as_nil (κ _ _ ?_)
  refine cw_seq fun _ hK2 => ?_
  refine cw_block ?_
  refine cw_rs fun _ κ => ?_
  refine Sf 0 rfl (by kernel_rfl) rfl ?_
  refine S1 rfl (by kernel_rfl) rfl (by exact Blk.cell hoh.1 rfl) ?_
  refine as_q rfl rfl (q_eqnil (by kernel_rfl) rfl) ?_
  refine Sa rfl rfl ?_
  refine as_nil (κ _ _ ?_)
  refine cw_false rfl ?_
  refine cw_rs fun _ κ => ?_
  refine Sf 0 rfl (by kernel_rfl) rfl ?_
  refine S1 rfl (by kernel_rfl) rfl (by exact Blk.cell hoo.1 rfl) ?_
  refine as_q rfl rfl (q_eqnil (by kernel_rfl) rfl) ?_
  refine Sa rfl rfl ?_
  refine as_nil (κ _ _ ?_)
  refine cw_true rfl ?_
  refine cw_rs fun _ κ => ?_
  refine Sc 1 rfl (by kernel_rfl) rfl (by exact Blk.cells hoh.1 rfl) ?_
  refine as_h0 (h_store hs3.sat hor rfl rfl rfl (by kernel_rfl) rfl rfl rfl fun w4 hs4 hn4 => ?_)
  replace hb := hs4.le _ _ hb
  replace hl := hl.mono hs4.le
  replace hr := hr.mono hs4.le
  clear hor; have hor := hn4; clear hn4
  replace hT := hT.own hs4 (by omega)
  have hz4 := hs4.size
  refine as_nil (κ _ _ ?_)
  refine cw_ret ?_
  exact ⟨_, (res_cell rfl (loadVar_n (n := 1) (by kernel_rfl) (by exact Blk.cells hor.1 rfl)) res_nil), _, _, rfl, hT, _, _, _, rfl, hb, hl, hr⟩
def LMeld (k : Nat) : Prop := ∀ (w : World) (M : Mem) (a b : Lft) (pa pb : Value), Sat M w → LRep 171 M a pa → LRep 171 M b pb → a.size + b.size < k → a.size + b.size ≤ 1000000000 →
    Does Tryz.prog 279 #[.agg #[pa], .pointer none, .agg #[pb]] w (fun v w' => ∃ p M', v = .agg #[p] ∧ Step Nope M w M' w' ∧ LRep 171 M' (a.meld b) p)
theorem l_meld_c {w : World} {M : Mem} {x y : El} {l r l2 r2 : Lft} {p p2 : Value} {k : Nat} (ih : LMeld k) (hs : Sat M w) (h : LRep 171 M (.node x l r) p) (h2 : LRep 171 M (.node y l2 r2) p2) (hk : (Lft.node x l r).size + (Lft.node y l2 r2).size < k + 1) (hz : (Lft.node x l r).size + (Lft.node y l2 r2).size ≤ 1000000000) :
    Does Tryz.prog 279 #[.agg #[p], .pointer none, .agg #[p2]] w (fun v w' => ∃ p M', v = .agg #[p] ∧ Step Nope M w M' w' ∧ LRep 171 M' ((Lft.node x l r).meld (.node y l2 r2)) p) := by
  have hT := Step.refl Nope hs
  obtain ⟨b, pl, pr, rfl, hb, hl, hr⟩ := h
  obtain ⟨b2, pl2, pr2, rfl, hb2, hl2, hr2⟩ := h2
  obtain ⟨ql, rfl⟩ := hl.ptr
  obtain ⟨qr, rfl⟩ := hr.ptr
  obtain ⟨ql2, rfl⟩ := hl2.ptr
  obtain ⟨qr2, rfl⟩ := hr2.ptr
  refine fn_enter Tryz.func279 rfl (rs := [.cell 6 67]) rfl rfl rfl rfl ?_
  refine cw_rs fun _ κ => ?_
  have hqah := hT.size
  refine as_h rfl (h_boxO hs rfl rfl fun bh w1 hs1 hoh eh => ?_)
  replace hb := hs1.le _ _ hb
  replace hl := hl.mono hs1.le
  replace hr := hr.mono hs1.le
  replace hb2 := hs1.le _ _ hb2
  replace hl2 := hl2.mono hs1.le
  replace hr2 := hr2.mono hs1.le
  replace hT := hT.then hs1
  have hz1 := hs1.size
  have hlh := hoh.1.lt
  have hqao := hT.size
  refine as_h rfl (h_boxO hs1.sat rfl rfl fun bo w2 hs2 hoo eo => ?_)
  replace hb := hs2.le _ _ hb
  replace hl := hl.mono hs2.le
  replace hr := hr.mono hs2.le
  replace hb2 := hs2.le _ _ hb2
  replace hl2 := hl2.mono hs2.le
  replace hr2 := hr2.mono hs2.le
  replace hoh := hoh.then hs2
  replace hT := hT.then hs2
  have hz2 := hs2.size
  have hlo := hoo.1.lt
  have hqar := hT.size
  refine as_h rfl (h_allocO (z := (.agg #[(.pointer none)])) hs2.sat (by kernel_rfl) rfl fun br w3 hs3 hor er => ?_)
  replace hb := hs3.le _ _ hb
  replace hl := hl.mono hs3.le
  replace hr := hr.mono hs3.le
  replace hb2 := hs3.le _ _ hb2
  replace hl2 := hl2.mono hs3.le
  replace hr2 := hr2.mono hs3.le
  replace hoh := hoh.then hs3
  replace hoo := hoo.then hs3
  replace hT := hT.then hs3
  have hz3 := hs3.size
  have hlr := hor.1.lt
  refine as_nil (κ _ _ ?_)
  refine cw_seq fun _ hK2 => ?_
  refine cw_block ?_
  refine cw_rs fun _ κ => ?_
  refine Sf 0 rfl (by kernel_rfl) rfl ?_
  refine S1 rfl (by kernel_rfl) rfl (by exact Blk.cell hoh.1 rfl) ?_
  refine as_q rfl rfl (q_eqnil (by kernel_rfl) rfl) ?_
  refine Sa rfl rfl ?_
  refine as_nil (κ _ _ ?_)
  refine cw_false rfl ?_
  refine cw_rs fun _ κ => ?_
  refine Sf 0 rfl (by kernel_rfl) rfl ?_
  refine S1 rfl (by kernel_rfl) rfl (by exact Blk.cell hoo.1 rfl) ?_
  refine as_q rfl rfl (q_eqnil (by kernel_rfl) rfl) ?_
  refine Sa rfl rfl ?_
  refine as_nil (κ _ _ ?_)
  refine cw_false rfl ?_
  refine cw_skip ?_
  refine hK2 _ _ ?_
  refine cw_seq fun _ hK5 => ?_
  refine cw_dr (by kernel_rfl) fun _ κ => ?_
  have hs4 := Step.drew hs3.sat
  have hz4 := hs4.size
  replace hb := hs4.le _ _ hb
  replace hl := hl.mono hs4.le
  replace hr := hr.mono hs4.le
  replace hb2 := hs4.le _ _ hb2
  replace hl2 := hl2.mono hs4.le
  replace hr2 := hr2.mono hs4.le
  replace hoh := hoh.then hs4
  replace hoo := hoo.then hs4
  replace hor := hor.then hs4
  replace hT := hT.then hs4
  refine Dm 0 1 rfl (by kernel_rfl) rfl ?_
  refine Df 1 3 0 rfl (by kernel_rfl) (by kernel_rfl) rfl ?_
  refine Dl1 2 7 rfl (by kernel_rfl) (by kernel_rfl) rfl (by exact Blk.cell hoo.1 rfl) ?_
  refine Dq 3 15 rfl (by kernel_rfl) (fun _ => (q_nilp rfl)) ?_
  refine Df 4 31 0 rfl (by kernel_rfl) (by kernel_rfl) rfl ?_
  refine Dlc 5 63 2 rfl (by kernel_rfl) (by kernel_rfl) rfl (by exact BlkR.cells (hs4.sat _ _ _ hb2) rfl) ?_
  refine Df 6 127 0 rfl (by kernel_rfl) (by kernel_rfl) rfl ?_
  refine Dl1 7 255 rfl (by kernel_rfl) (by kernel_rfl) rfl (by exact Blk.cell hoh.1 rfl) ?_
  refine Dq 8 511 rfl (by kernel_rfl) (fun _ => (q_nilp rfl)) ?_
  refine Df 9 1023 0 rfl (by kernel_rfl) (by kernel_rfl) rfl ?_
  refine Dlc 10 2047 2 rfl (by kernel_rfl) (by kernel_rfl) rfl (by exact BlkR.cells (hs4.sat _ _ _ hb) rfl) ?_
  refine Dh 11 4095 rfl (by kernel_rfl) (keep_sift (bs := [T,F,T,F]) (by kernel_rfl)) (h_call (by kernel_rfl) rfl ?_)
  refine (m_less (a := y) (b := x) hs4.sat).mono ?_
  rintro _ w5 ⟨rfl, hs5⟩
  replace hb := hs5.le _ _ hb
  replace hl := hl.mono hs5.le
  replace hr := hr.mono hs5.le
  replace hb2 := hs5.le _ _ hb2
  replace hl2 := hl2.mono hs5.le
  replace hr2 := hr2.mono hs5.le
  replace hoh := hoh.then hs5
  replace hoo := hoo.then hs5
  replace hor := hor.then hs5
  replace hT := hT.then hs5
  have hz5 := hs5.size
  refine ⟨(by repeat' first | exact trivial | exact BlkR.cell (hs5.sat _ _ _ hb) rfl | exact BlkR.cells (hs5.sat _ _ _ hb) rfl | exact BlkR.cell (hs5.sat _ _ _ hb2) rfl | exact BlkR.cells (hs5.sat _ _ _ hb2) rfl | exact Blk.cell hoh.1 rfl | exact Blk.cells hoh.1 rfl | exact Blk.cell hoo.1 rfl | exact Blk.cells hoo.1 rfl | exact Blk.cell hor.1 rfl | exact Blk.cells hor.1 rfl | assumption | refine all_keep ?_ | refine And.intro ?_ ?_), ?_⟩
  refine Dd (by kernel_rfl) (κ _ _ ?_)
  refine cw_cond rfl (fun hc2 => ?_) (fun hc2 => ?_)
  · skip
    skip
    refine cw_region fun _ κ => ?_
    refine Sc 1 rfl (by kernel_rfl) rfl (by exact Blk.cells hoo.1 rfl) ?_
    refine Sc 1 rfl (by kernel_rfl) rfl (by exact Blk.cells hoh.1 rfl) ?_
    refine as_h0 (h_store hs5.sat hoh rfl rfl rfl (by kernel_rfl) rfl rfl rfl fun w6 hs6 hn6 => ?_)
    replace hb := hs6.le _ _ hb
    replace hl := hl.mono hs6.le
    replace hr := hr.mono hs6.le
    replace hb2 := hs6.le _ _ hb2
    replace hl2 := hl2.mono hs6.le
    replace hr2 := hr2.mono hs6.le
    replace hoo := hoo.step hs6 (fun h => by have h : _ = _ := h; omega)
    replace hor := hor.step hs6 (fun h => by have h : _ = _ := h; omega)
    clear hoh; have hoh := hn6; clear hn6
    replace hT := hT.own hs6 (by omega)
    have hz6 := hs6.size
    refine as_h0 (h_store hs6.sat hoo rfl rfl rfl (by kernel_rfl) rfl rfl rfl fun w7 hs7 hn7 => ?_)
    replace hb := hs7.le _ _ hb
    replace hl := hl.mono hs7.le
    replace hr := hr.mono hs7.le
    replace hb2 := hs7.le _ _ hb2
    replace hl2 := hl2.mono hs7.le
    replace hr2 := hr2.mono hs7.le
    replace hoh := hoh.step hs7 (fun h => by have h : _ = _ := h; omega)
    replace hor := hor.step hs7 (fun h => by have h : _ = _ := h; omega)
    clear hoo; have hoo := hn7; clear hn7
    replace hT := hT.own hs7 (by omega)
    have hz7 := hs7.size
    refine as_nil (κ _ _ ?_)
    refine hK5 _ _ ?_
    refine cw_dr (by kernel_rfl) fun _ κ => ?_
    have hs8 := Step.drew hs7.sat
    have hz8 := hs8.size
    replace hb := hs8.le _ _ hb
    replace hl := hl.mono hs8.le
    replace hr := hr.mono hs8.le
    replace hb2 := hs8.le _ _ hb2
    replace hl2 := hl2.mono hs8.le
    replace hr2 := hr2.mono hs8.le
    replace hoh := hoh.then hs8
    replace hoo := hoo.then hs8
    replace hor := hor.then hs8
    replace hT := hT.then hs8
    refine Dm 0 1 rfl (by kernel_rfl) rfl ?_
    refine Df 1 3 0 rfl (by kernel_rfl) (by kernel_rfl) rfl ?_
    refine Dl1 2 7 rfl (by kernel_rfl) (by kernel_rfl) rfl (by exact Blk.cell hoh.1 rfl) ?_
    refine Dq 3 15 rfl (by kernel_rfl) (fun _ => (q_nilp rfl)) ?_
    refine Df 4 31 0 rfl (by kernel_rfl) (by kernel_rfl) rfl ?_
    refine Dlc 5 63 2 rfl (by kernel_rfl) (by kernel_rfl) rfl (by exact BlkR.cells (hs8.sat _ _ _ hb2) rfl) ?_
    refine Df 6 127 0 rfl (by kernel_rfl) (by kernel_rfl) rfl ?_
    refine Dl1 7 255 rfl (by kernel_rfl) (by kernel_rfl) rfl (by exact Blk.cell hoh.1 rfl) ?_
    refine Dq 8 511 rfl (by kernel_rfl) (fun _ => (q_nilp rfl)) ?_
    refine Df 9 1023 2 rfl (by kernel_rfl) (by kernel_rfl) rfl ?_
    refine Dlc 10 2047 1 rfl (by kernel_rfl) (by kernel_rfl) rfl (by exact BlkR.cells (hs8.sat _ _ _ hb2) rfl) ?_
    refine Df 11 4095 0 rfl (by kernel_rfl) (by kernel_rfl) rfl ?_
    refine Dl1 12 8191 rfl (by kernel_rfl) (by kernel_rfl) rfl (by exact Blk.cell hoh.1 rfl) ?_
    refine Dq 13 16383 rfl (by kernel_rfl) (fun _ => (q_nilp rfl)) ?_
    refine Df 14 32767 3 rfl (by kernel_rfl) (by kernel_rfl) rfl ?_
    refine Dlc 15 65535 1 rfl (by kernel_rfl) (by kernel_rfl) rfl (by exact BlkR.cells (hs8.sat _ _ _ hb2) rfl) ?_
    refine Dm 16 131071 rfl (by kernel_rfl) rfl ?_
    refine Dlc 17 262143 1 rfl (by kernel_rfl) (by kernel_rfl) rfl (by exact Blk.cells hoo.1 rfl) ?_
    refine Dh 18 524287 rfl (by kernel_rfl) (keep_sift (bs := [T,T,F,F,F,F,F]) (by kernel_rfl)) (h_call (by kernel_rfl) rfl ?_)
    refine (ih _ _ _ _ _ _ hs8.sat hr2 (show LRep _ _ (.node x l r) _ from ⟨_, _, _, rfl, hb, hl, hr⟩) (by simp only [Lft.size] at hk ⊢; omega) (by simp only [Lft.size] at hz ⊢; omega)).mono ?_
    rintro _ w9 ⟨pm, Mm, rfl, hs9, hm⟩
    obtain ⟨qm, rfl⟩ := hm.ptr
    replace hb := hs9.le _ _ hb
    replace hl := hl.mono hs9.le
    replace hr := hr.mono hs9.le
    replace hb2 := hs9.le _ _ hb2
    replace hl2 := hl2.mono hs9.le
    replace hr2 := hr2.mono hs9.le
    replace hoh := hoh.then hs9
    replace hoo := hoo.then hs9
    replace hor := hor.then hs9
    replace hT := hT.then hs9
    have hz9 := hs9.size
    refine ⟨(by repeat' first | exact trivial | exact BlkR.cell (hs9.sat _ _ _ hb) rfl | exact BlkR.cells (hs9.sat _ _ _ hb) rfl | exact BlkR.cell (hs9.sat _ _ _ hb2) rfl | exact BlkR.cells (hs9.sat _ _ _ hb2) rfl | exact Blk.cell hoh.1 rfl | exact Blk.cells hoh.1 rfl | exact Blk.cell hoo.1 rfl | exact Blk.cells hoo.1 rfl | exact Blk.cell hor.1 rfl | exact Blk.cells hor.1 rfl | assumption | refine all_keep ?_ | refine And.intro ?_ ?_), ?_⟩
    refine Dh 19 1048575 rfl (by kernel_rfl) (keep_sift (bs := [F,T,F,T,F]) (by kernel_rfl)) (h_call (by kernel_rfl) rfl ?_)
    refine (l_made (x := y) hs9.sat hl2 hm (by rw [Lft.meld_size]; simp only [Lft.size] at hz ⊢; omega)).mono ?_
    rintro _ w10 ⟨pn, Mn, rfl, hs10, hn⟩
    obtain ⟨qn, rfl⟩ := hn.ptr
    replace hb := hs10.le _ _ hb
    replace hl := hl.mono hs10.le
    replace hr := hr.mono hs10.le
    replace hb2 := hs10.le _ _ hb2
    replace hl2 := hl2.mono hs10.le
    replace hr2 := hr2.mono hs10.le
    replace hoh := hoh.then hs10
    replace hoo := hoo.then hs10
    replace hor := hor.then hs10
    replace hm := hm.mono hs10.le
    replace hT := hT.then hs10
    have hz10 := hs10.size
    refine ⟨(by repeat' first | exact trivial | exact BlkR.cell (hs10.sat _ _ _ hb) rfl | exact BlkR.cells (hs10.sat _ _ _ hb) rfl | exact BlkR.cell (hs10.sat _ _ _ hb2) rfl | exact BlkR.cells (hs10.sat _ _ _ hb2) rfl | exact Blk.cell hoh.1 rfl | exact Blk.cells hoh.1 rfl | exact Blk.cell hoo.1 rfl | exact Blk.cells hoo.1 rfl | exact Blk.cell hor.1 rfl | exact Blk.cells hor.1 rfl | assumption | refine all_keep ?_ | refine And.intro ?_ ?_), ?_⟩
    refine Dh0 20 2097151 rfl (by kernel_rfl) (keep_sift (bs := [T,T,T]) (by kernel_rfl)) (h_store hs10.sat hor rfl rfl rfl (by kernel_rfl) rfl rfl rfl fun w11 hs11 hn11 => ?_)
    replace hb := hs11.le _ _ hb
    replace hl := hl.mono hs11.le
    replace hr := hr.mono hs11.le
    replace hb2 := hs11.le _ _ hb2
    replace hl2 := hl2.mono hs11.le
    replace hr2 := hr2.mono hs11.le
    replace hoh := hoh.step hs11 (fun h => by have h : _ = _ := h; omega)
    replace hoo := hoo.step hs11 (fun h => by have h : _ = _ := h; omega)
    replace hm := hm.mono hs11.le
    replace hn := hn.mono hs11.le
    clear hor; have hor := hn11; clear hn11
    replace hT := hT.own hs11 (by omega)
    have hz11 := hs11.size
    refine ⟨trivial, ?_⟩
    refine Dd (by kernel_rfl) (κ _ _ ?_)
    refine cw_ret ?_
    exact ⟨_, (res_cell rfl (loadVar_n (n := 1) (by kernel_rfl) (by exact Blk.cells hor.1 rfl)) res_nil), _, _, rfl, hT, by rw [Lft.meld, if_pos hc2]; exact hn⟩
  · skip
    skip
    refine cw_skip ?_
    refine hK5 _ _ ?_
    refine cw_dr (by kernel_rfl) fun _ κ => ?_
    have hs12 := Step.drew hs5.sat
    have hz12 := hs12.size
    replace hb := hs12.le _ _ hb
    replace hl := hl.mono hs12.le
    replace hr := hr.mono hs12.le
    replace hb2 := hs12.le _ _ hb2
    replace hl2 := hl2.mono hs12.le
    replace hr2 := hr2.mono hs12.le
    replace hoh := hoh.then hs12
    replace hoo := hoo.then hs12
    replace hor := hor.then hs12
    replace hT := hT.then hs12
    refine Dm 0 1 rfl (by kernel_rfl) rfl ?_
    refine Df 1 3 0 rfl (by kernel_rfl) (by kernel_rfl) rfl ?_
    refine Dl1 2 7 rfl (by kernel_rfl) (by kernel_rfl) rfl (by exact Blk.cell hoh.1 rfl) ?_
    refine Dq 3 15 rfl (by kernel_rfl) (fun _ => (q_nilp rfl)) ?_
    refine Df 4 31 0 rfl (by kernel_rfl) (by kernel_rfl) rfl ?_
    refine Dlc 5 63 2 rfl (by kernel_rfl) (by kernel_rfl) rfl (by exact BlkR.cells (hs12.sat _ _ _ hb) rfl) ?_
    refine Df 6 127 0 rfl (by kernel_rfl) (by kernel_rfl) rfl ?_
    refine Dl1 7 255 rfl (by kernel_rfl) (by kernel_rfl) rfl (by exact Blk.cell hoh.1 rfl) ?_
    refine Dq 8 511 rfl (by kernel_rfl) (fun _ => (q_nilp rfl)) ?_
    refine Df 9 1023 2 rfl (by kernel_rfl) (by kernel_rfl) rfl ?_
    refine Dlc 10 2047 1 rfl (by kernel_rfl) (by kernel_rfl) rfl (by exact BlkR.cells (hs12.sat _ _ _ hb) rfl) ?_
    refine Df 11 4095 0 rfl (by kernel_rfl) (by kernel_rfl) rfl ?_
    refine Dl1 12 8191 rfl (by kernel_rfl) (by kernel_rfl) rfl (by exact Blk.cell hoh.1 rfl) ?_
    refine Dq 13 16383 rfl (by kernel_rfl) (fun _ => (q_nilp rfl)) ?_
    refine Df 14 32767 3 rfl (by kernel_rfl) (by kernel_rfl) rfl ?_
    refine Dlc 15 65535 1 rfl (by kernel_rfl) (by kernel_rfl) rfl (by exact BlkR.cells (hs12.sat _ _ _ hb) rfl) ?_
    refine Dm 16 131071 rfl (by kernel_rfl) rfl ?_
    refine Dlc 17 262143 1 rfl (by kernel_rfl) (by kernel_rfl) rfl (by exact Blk.cells hoo.1 rfl) ?_
    refine Dh 18 524287 rfl (by kernel_rfl) (keep_sift (bs := [T,T,F,F,F,F,F]) (by kernel_rfl)) (h_call (by kernel_rfl) rfl ?_)
    refine (ih _ _ _ _ _ _ hs12.sat hr (show LRep _ _ (.node y l2 r2) _ from ⟨_, _, _, rfl, hb2, hl2, hr2⟩) (by simp only [Lft.size] at hk ⊢; omega) (by simp only [Lft.size] at hz ⊢; omega)).mono ?_
    rintro _ w13 ⟨pm, Mm, rfl, hs13, hm⟩
    obtain ⟨qm, rfl⟩ := hm.ptr
    replace hb := hs13.le _ _ hb
    replace hl := hl.mono hs13.le
    replace hb2 := hs13.le _ _ hb2
    replace hoh := hoh.then hs13
    replace hoo := hoo.then hs13
    replace hor := hor.then hs13
    replace hT := hT.then hs13
    have hz13 := hs13.size
    refine ⟨(by repeat' first | exact trivial | exact BlkR.cell (hs13.sat _ _ _ hb) rfl | exact BlkR.cells (hs13.sat _ _ _ hb) rfl | exact BlkR.cell (hs13.sat _ _ _ hb2) rfl | exact BlkR.cells (hs13.sat _ _ _ hb2) rfl | exact Blk.cell hoh.1 rfl | exact Blk.cells hoh.1 rfl | exact Blk.cell hoo.1 rfl | exact Blk.cells hoo.1 rfl | exact Blk.cell hor.1 rfl | exact Blk.cells hor.1 rfl | assumption | refine all_keep ?_ | refine And.intro ?_ ?_), ?_⟩
    refine Dh 19 1048575 rfl (by kernel_rfl) (keep_sift (bs := [F,T,F,T,F]) (by kernel_rfl)) (h_call (by kernel_rfl) rfl ?_)
    refine (l_made (x := x) hs13.sat hl hm (by rw [Lft.meld_size]; simp only [Lft.size] at hz ⊢; omega)).mono ?_
    rintro _ w14 ⟨pn, Mn, rfl, hs14, hn⟩
    obtain ⟨qn, rfl⟩ := hn.ptr
    replace hb := hs14.le _ _ hb
    replace hb2 := hs14.le _ _ hb2
    replace hoh := hoh.then hs14
    replace hoo := hoo.then hs14
    replace hor := hor.then hs14
    replace hT := hT.then hs14
    have hz14 := hs14.size
    refine ⟨(by repeat' first | exact trivial | exact BlkR.cell (hs14.sat _ _ _ hb) rfl | exact BlkR.cells (hs14.sat _ _ _ hb) rfl | exact BlkR.cell (hs14.sat _ _ _ hb2) rfl | exact BlkR.cells (hs14.sat _ _ _ hb2) rfl | exact Blk.cell hoh.1 rfl | exact Blk.cells hoh.1 rfl | exact Blk.cell hoo.1 rfl | exact Blk.cells hoo.1 rfl | exact Blk.cell hor.1 rfl | exact Blk.cells hor.1 rfl | assumption | refine all_keep ?_ | refine And.intro ?_ ?_), ?_⟩
    refine Dh0 20 2097151 rfl (by kernel_rfl) (keep_sift (bs := [T,T,T]) (by kernel_rfl)) (h_store hs14.sat hor rfl rfl rfl (by kernel_rfl) rfl rfl rfl fun w15 hs15 hn15 => ?_)
    replace hn := hn.mono hs15.le
    clear hor; have hor := hn15; clear hn15
    replace hT := hT.own hs15 (by omega)
    have hz15 := hs15.size
    refine ⟨trivial, ?_⟩
    refine Dd (by kernel_rfl) (κ _ _ ?_)
    refine cw_ret ?_
    exact ⟨_, (res_cell rfl (loadVar_n (n := 1) (by kernel_rfl) (by exact Blk.cells hor.1 rfl)) res_nil), _, _, rfl, hT, by rw [Lft.meld, if_neg (by rw [hc2]; decide)]; exact hn⟩
theorem l_meld_all : ∀ k, LMeld k
  | 0 => fun _ _ _ _ _ _ _ _ _ h _ => absurd h (Nat.not_lt_zero _)
  | k + 1 => fun w M a b pa pb hs ha hb hk hz => by
    cases a with
    | nil => cases ha; rw [show Lft.nil.meld b = b by rw [Lft.meld]]; exact l_meld_a hs hb
    | node x l r =>
      cases b with
      | nil => cases hb; rw [show (Lft.node x l r).meld .nil = .node x l r by rw [Lft.meld]]; exact l_meld_b hs ha
      | node y l2 r2 => exact l_meld_c (l_meld_all k) hs ha hb hk hz
theorem l_meld {w : World} {M : Mem} {a b : Lft} {pa pb : Value} (hs : Sat M w) (ha : LRep 171 M a pa) (hb : LRep 171 M b pb) (hz : a.size + b.size ≤ 1000000000) :
    Does Tryz.prog 279 #[.agg #[pa], .pointer none, .agg #[pb]] w (fun v w' => ∃ p M', v = .agg #[p] ∧ Step Nope M w M' w' ∧ LRep 171 M' (a.meld b) p) := l_meld_all _ _ _ _ _ _ _ hs ha hb (Nat.lt_succ_self _) hz
theorem l_insert {w : World} {M : Mem} {x : El} {t : Lft} {p : Value} (hs : Sat M w) (h : LRep 171 M t p) (hz : t.size < 1000000000) :
    Does Tryz.prog 278 #[.agg #[p], .pointer none, .agg (elc x).toArray] w (fun v w' => ∃ p M', v = .agg #[p] ∧ Step Nope M w M' w' ∧ LRep 171 M' (t.insert x) p) := by
  have hT := Step.refl Nope hs
  obtain ⟨q, rfl⟩ := h.ptr
  refine fn_enter Tryz.func278 rfl (rs := [.cell 6 67]) rfl rfl rfl rfl ?_
  refine cw_rs fun _ κ => ?_
  refine as_h rfl (h_boxM hs rfl rfl fun b1 M1 w1 hs1 hb1 e1 => ?_)
  replace h := h.mono hs1.le
  replace hT := hT.then hs1
  have hz1 := hs1.size
  refine as_h rfl (h_boxM hs1.sat rfl rfl fun b2 M2 w2 hs2 hb2 e2 => ?_)
  replace h := h.mono hs2.le
  replace hb1 := hs2.le _ _ hb1
  replace hT := hT.then hs2
  have hz2 := hs2.size
  have hqar := hT.size
  refine as_h rfl (h_allocO (z := (.agg #[(.pointer none)])) hs2.sat (by kernel_rfl) rfl fun br w3 hs3 hor er => ?_)
  replace h := h.mono hs3.le
  replace hb1 := hs3.le _ _ hb1
  replace hb2 := hs3.le _ _ hb2
  replace hT := hT.then hs3
  have hz3 := hs3.size
  have hlr := hor.1.lt
  refine as_nil (κ _ _ ?_)
  refine cw_dr (by kernel_rfl) fun _ κ => ?_
  have hs4 := Step.drew hs3.sat
  have hz4 := hs4.size
  replace h := h.mono hs4.le
  replace hb1 := hs4.le _ _ hb1
  replace hb2 := hs4.le _ _ hb2
  replace hor := hor.then hs4
  replace hT := hT.then hs4
  refine Dm 0 1 rfl (by kernel_rfl) rfl ?_
  refine Dlc 1 3 2 rfl (by kernel_rfl) (by kernel_rfl) rfl (by exact BlkR.cells (hs4.sat _ _ _ hb2) rfl) ?_
  refine Dq 2 7 rfl (by kernel_rfl) (fun _ => (q_build (zs := [(.pointer none)]) (places := [(0, 1)]) (cs := [_]) (by kernel_rfl) (by kernel_rfl) rfl rfl)) ?_
  refine Dq 3 15 rfl (by kernel_rfl) (fun _ => (q_build (zs := [(.pointer none)]) (places := [(0, 1)]) (cs := [_]) (by kernel_rfl) (by kernel_rfl) rfl rfl)) ?_
  refine Dm 5 47 rfl (by kernel_rfl) rfl ?_
  refine Dlc 6 111 1 rfl (by kernel_rfl) (by kernel_rfl) rfl (by exact BlkR.cells (hs4.sat _ _ _ hb1) rfl) ?_
  refine Dh 4 127 rfl (by kernel_rfl) (keep_sift (bs := [F,T]) (by kernel_rfl)) (h_call (by kernel_rfl) rfl ?_)
  refine (l_made (x := x) (a := .nil) (b := .nil) hs4.sat rfl rfl (by decide)).mono ?_
  rintro _ w5 ⟨pn, Mn, rfl, hs5, hn⟩
  obtain ⟨qn, rfl⟩ := hn.ptr
  replace h := h.mono hs5.le
  replace hb1 := hs5.le _ _ hb1
  replace hb2 := hs5.le _ _ hb2
  replace hor := hor.then hs5
  replace hT := hT.then hs5
  have hz5 := hs5.size
  refine ⟨(by repeat' first | exact trivial | exact BlkR.cell (hs5.sat _ _ _ hb1) rfl | exact BlkR.cells (hs5.sat _ _ _ hb1) rfl | exact BlkR.cell (hs5.sat _ _ _ hb2) rfl | exact BlkR.cells (hs5.sat _ _ _ hb2) rfl | exact Blk.cell hor.1 rfl | exact Blk.cells hor.1 rfl | assumption | refine all_keep ?_ | refine And.intro ?_ ?_), ?_⟩
  refine Dh 7 255 rfl (by kernel_rfl) (keep_sift (bs := [T]) (by kernel_rfl)) (h_call (by kernel_rfl) rfl ?_)
  refine (l_meld hs5.sat hn h (by rw [Lft.mk_size]; simp only [Lft.size]; omega)).mono ?_
  rintro _ w6 ⟨pm, Mm, rfl, hs6, hm⟩
  obtain ⟨qm, rfl⟩ := hm.ptr
  replace h := h.mono hs6.le
  replace hor := hor.then hs6
  replace hT := hT.then hs6
  have hz6 := hs6.size
  refine ⟨trivial, ?_⟩
  refine Dh0 8 511 rfl (by kernel_rfl) rfl (h_store hs6.sat hor rfl rfl rfl (by kernel_rfl) rfl rfl rfl fun w7 hs7 hn7 => ?_)
  replace h := h.mono hs7.le
  replace hm := hm.mono hs7.le
  clear hor; have hor := hn7; clear hn7
  replace hT := hT.own hs7 (by omega)
  have hz7 := hs7.size
  refine ⟨trivial, ?_⟩
  refine Dd (by kernel_rfl) (κ _ _ ?_)
  refine cw_ret ?_
  exact ⟨_, (res_cell rfl (loadVar_n (n := 1) (by kernel_rfl) (by exact Blk.cells hor.1 rfl)) res_nil), _, _, rfl, hT, hm⟩
theorem l_min {w : World} {M : Mem} {x : El} {l r : Lft} {p : Value} (hs : Sat M w) (h : LRep 171 M (.node x l r) p) :
    Does Tryz.prog 280 #[.agg #[p], .pointer none] w (fun v w' => v = .tuple #[.agg (elc x).toArray, .bool true] ∧ Step Nope M w M w') := by
  have hT := Step.refl Nope hs
  obtain ⟨b, pl, pr, rfl, hb, hl, hr⟩ := h
  refine fn_enter Tryz.func280 rfl (rs := [.cell 4 24, .tmp 5]) rfl rfl rfl rfl ?_
  refine cw_rs fun _ κ => ?_
  refine as_h rfl (h_boxM hs rfl rfl fun b1 M1 w1 hs1 hb1 e1 => ?_)
  replace hb := hs1.le _ _ hb
  replace hT := hT.then hs1
  have hz1 := hs1.size
  have hqar := hT.size
  refine as_h rfl (h_allocO (z := (.agg #[(.int .i64 0), (.int .i64 0)])) hs1.sat (by kernel_rfl) rfl fun br w2 hs2 hor er => ?_)
  replace hb := hs2.le _ _ hb
  replace hb1 := hs2.le _ _ hb1
  replace hT := hT.then hs2
  have hz2 := hs2.size
  have hlr := hor.1.lt
  refine Sa rfl rfl ?_
  refine as_nil (κ _ _ ?_)
  refine cw_seq fun _ hK2 => ?_
  refine cw_rs fun _ κ => ?_
  refine Sf 0 rfl (by kernel_rfl) rfl ?_
  refine S1 rfl (by kernel_rfl) rfl (by exact BlkR.cell (hs2.sat _ _ _ hb1) rfl) ?_
  refine as_q rfl rfl (q_eqnil (by kernel_rfl) rfl) ?_
  refine as_nil (κ _ _ ?_)
  refine cw_false rfl ?_
  refine cw_skip ?_
  refine hK2 _ _ ?_
  refine cw_rs fun _ κ => ?_
  refine Sf 0 rfl (by kernel_rfl) rfl ?_
  refine S1 rfl (by kernel_rfl) rfl (by exact BlkR.cell (hs2.sat _ _ _ hb1) rfl) ?_
  refine as_q rfl rfl (q_nilp rfl) ?_
  refine Sf 0 rfl (by kernel_rfl) rfl ?_
  refine Sc 2 rfl (by kernel_rfl) rfl (by exact BlkR.cells (hs2.sat _ _ _ hb) rfl) ?_
  refine as_h0 (h_store hs2.sat hor rfl rfl rfl (by kernel_rfl) rfl rfl rfl fun w3 hs3 hn3 => ?_)
  clear hor; have hor := hn3; clear hn3
  replace hT := hT.own hs3 (by omega)
  have hz3 := hs3.size
  refine Sa rfl rfl ?_
  refine as_nil (κ _ _ ?_)
  refine cw_ret ?_
  exact ⟨_, (res_cell rfl (loadVar_n (n := 2) (by kernel_rfl) (by exact Blk.cells hor.1 rfl)) (res_tmp rfl res_nil)), rfl, hT.forget⟩
end Go.Proofs.YtgcgjpfjjgalmaaGreat
/- Lists of heaps, part 1. -/
namespace Go.Proofs.YtgcgjpfjjgalmaaGreat
open Go Go.Eng
theorem cp_len_n {w : World} {M : Mem} (hs : Sat M w) :
    Does Tryz.prog 170 #[.agg #[.pointer none]] w (fun v w' => v = .int .i64 0 ∧ Step Nope M w M w') := by
  have hT := Step.refl Nope hs
  refine fn_enter Tryz.func170 rfl (rs := [.tmp 2]) rfl rfl rfl rfl ?_
  refine cw_rs fun _ κ => ?_
  refine as_h rfl (h_boxM hs rfl rfl fun b1 M1 w1 hs1 hb1 e1 => ?_)
  replace hT := hT.then hs1
  refine Sa rfl rfl ?_
  refine as_nil (κ _ _ ?_)
  refine cw_seq fun _ hK2 => ?_
  refine cw_rs fun _ κ => ?_
  refine Sf 0 rfl (by kernel_rfl) rfl ?_
  refine S1 rfl (by kernel_rfl) rfl (by exact BlkR.cell (hs1.sat _ _ _ hb1) rfl) ?_
  refine as_q rfl rfl (q_eqnil (by kernel_rfl) rfl) ?_
  refine as_nil (κ _ _ ?_)
  refine cw_true rfl ?_
  refine cw_rs fun _ κ => ?_
  refine Sa rfl rfl ?_
  refine as_nil (κ _ _ ?_)
  refine cw_ret ?_
  exact ⟨_, (res_tmp rfl res_nil), rfl, hT.forget⟩
theorem cp_len_c {w : World} {M : Mem} {x : Option Addr} {r : List (Option Addr)} {p : Value} (hs : Sat M w) (h : CRep 260 M (x :: r) p) :
    Does Tryz.prog 170 #[.agg #[p]] w (fun v w' => v = .int .i64 ((r.length : Int) + 1) ∧ Step Nope M w M w') := by
  have hT := Step.refl Nope hs
  obtain ⟨b, q, rfl, hb, hc⟩ := h
  refine fn_enter Tryz.func170 rfl (rs := [.tmp 2]) rfl rfl rfl rfl ?_
  refine cw_rs fun _ κ => ?_
  refine as_h rfl (h_boxM hs rfl rfl fun b1 M1 w1 hs1 hb1 e1 => ?_)
  replace hb := hs1.le _ _ hb
  replace hT := hT.then hs1
  refine Sa rfl rfl ?_
  refine as_nil (κ _ _ ?_)
  refine cw_seq fun _ hK2 => ?_
  refine cw_rs fun _ κ => ?_
  refine Sf 0 rfl (by kernel_rfl) rfl ?_
  refine S1 rfl (by kernel_rfl) rfl (by exact BlkR.cell (hs1.sat _ _ _ hb1) rfl) ?_
  refine as_q rfl rfl (q_eqnil (by kernel_rfl) rfl) ?_
  refine as_nil (κ _ _ ?_)
  refine cw_false rfl ?_
  refine cw_skip ?_
  refine hK2 _ _ ?_
  refine cw_rs fun _ κ => ?_
  refine Sf 0 rfl (by kernel_rfl) rfl ?_
  refine S1 rfl (by kernel_rfl) rfl (by exact BlkR.cell (hs1.sat _ _ _ hb1) rfl) ?_
  refine as_q rfl rfl (q_nilp rfl) ?_
  refine Sf 2 rfl (by kernel_rfl) rfl ?_
  refine S1 rfl (by kernel_rfl) rfl (by exact BlkR.cell (hs1.sat _ _ _ hb) rfl) ?_
  refine Sa rfl rfl ?_
  refine as_nil (κ _ _ ?_)
  refine cw_ret ?_
  exact ⟨_, (res_tmp rfl res_nil), rfl, hT.forget⟩
theorem cp_len {w : World} {M : Mem} {vs : List (Option Addr)} {p : Value} (hs : Sat M w) (h : CRep 260 M vs p) : Does Tryz.prog 170 #[.agg #[p]] w (fun v w' => v = .int .i64 (vs.length : Nat) ∧ Step Nope M w M w') := by
  cases vs with
  | nil => cases h; exact cp_len_n hs
  | cons x r => exact (cp_len_c hs h).mono fun v w' ⟨h1, h2⟩ => ⟨by rw [h1]; simp, h2⟩
theorem cp_push {w : World} {M : Mem} {x : Option Addr} {vs : List (Option Addr)} {p : Value} (hs : Sat M w) (h : CRep 260 M vs p) (hz : vs.length ≤ 1000000000) :
    Does Tryz.prog 167 #[.agg #[p], (Value.agg #[.pointer x])] w (fun v w' => ∃ q M', v = .agg #[.pointer q] ∧ Step Nope M w M' w' ∧ CRep 260 M' (x :: vs) (.pointer q)) := by
  have hT := Step.refl Nope hs
  obtain ⟨q, rfl⟩ := h.ptr
  refine fn_enter Tryz.func167 rfl (rs := [.cell 4 249]) rfl rfl rfl rfl ?_
  refine cw_rs fun _ κ => ?_
  refine as_h rfl (h_boxM hs rfl rfl fun b1 M1 w1 hs1 hb1 e1 => ?_)
  replace h := h.mono hs1.le
  replace hT := hT.then hs1
  have hz1 := hs1.size
  refine as_h rfl (h_boxM hs1.sat rfl rfl fun b2 M2 w2 hs2 hb2 e2 => ?_)
  replace h := h.mono hs2.le
  replace hb1 := hs2.le _ _ hb1
  replace hT := hT.then hs2
  have hz2 := hs2.size
  have hqar := hT.size
  refine as_h rfl (h_allocO (z := (.agg #[(.pointer none)])) hs2.sat (by kernel_rfl) rfl fun br w3 hs3 hor er => ?_)
  replace h := h.mono hs3.le
  replace hb1 := hs3.le _ _ hb1
  replace hb2 := hs3.le _ _ hb2
  replace hT := hT.then hs3
  have hz3 := hs3.size
  have hlr := hor.1.lt
  refine as_nil (κ _ _ ?_)
  refine cw_dr (by kernel_rfl) fun _ κ => ?_
  have hs4 := Step.drew hs3.sat
  have hz4 := hs4.size
  replace h := h.mono hs4.le
  replace hb1 := hs4.le _ _ hb1
  replace hb2 := hs4.le _ _ hb2
  replace hor := hor.then hs4
  replace hT := hT.then hs4
  refine Dlc 0 1 1 rfl (by kernel_rfl) (by kernel_rfl) rfl (by exact BlkR.cells (hs4.sat _ _ _ hb2) rfl) ?_
  refine Df 1 3 0 rfl (by kernel_rfl) (by kernel_rfl) rfl ?_
  refine Dl1 2 7 rfl (by kernel_rfl) (by kernel_rfl) rfl (by exact BlkR.cell (hs4.sat _ _ _ hb1) rfl) ?_
  refine Dlc 3 15 1 rfl (by kernel_rfl) (by kernel_rfl) rfl (by exact BlkR.cells (hs4.sat _ _ _ hb1) rfl) ?_
  refine Dh 4 31 rfl (by kernel_rfl) (keep_sift (bs := [T,F,F]) (by kernel_rfl)) (h_call (by kernel_rfl) rfl ?_)
  refine (cp_len hs4.sat h).mono ?_
  rintro _ w5 ⟨rfl, hs5⟩
  replace h := h.mono hs5.le
  replace hb1 := hs5.le _ _ hb1
  replace hb2 := hs5.le _ _ hb2
  replace hor := hor.then hs5
  replace hT := hT.then hs5
  have hz5 := hs5.size
  refine ⟨(by repeat' first | exact trivial | exact BlkR.cell (hs5.sat _ _ _ hb1) rfl | exact BlkR.cells (hs5.sat _ _ _ hb1) rfl | exact BlkR.cell (hs5.sat _ _ _ hb2) rfl | exact BlkR.cells (hs5.sat _ _ _ hb2) rfl | exact Blk.cell hor.1 rfl | exact Blk.cells hor.1 rfl | assumption | refine all_keep ?_ | refine And.intro ?_ ?_), ?_⟩
  refine Dq 5 63 rfl (by kernel_rfl) (fun _ => (q_addx rfl rfl (by omega) (by omega))) ?_
  refine Dq 6 127 rfl (by kernel_rfl) (fun _ => (q_build (zs := [(.pointer none), (.pointer none), (.int .i64 0)]) (places := [(0, 1), (1, 1), (2, 1)]) (cs := [_, _, _]) (by kernel_rfl) (by kernel_rfl) rfl rfl)) ?_
  refine Dh 7 255 rfl (by kernel_rfl) (keep_sift (bs := [F,F]) (by kernel_rfl)) (h_boxM hs5.sat rfl rfl fun b6 M6 w6 hs6 hb6 e6 => ?_)
  replace h := h.mono hs6.le
  replace hb1 := hs6.le _ _ hb1
  replace hb2 := hs6.le _ _ hb2
  replace hor := hor.then hs6
  replace hT := hT.then hs6
  have hz6 := hs6.size
  refine ⟨(by repeat' first | exact trivial | exact BlkR.cell (hs6.sat _ _ _ hb1) rfl | exact BlkR.cells (hs6.sat _ _ _ hb1) rfl | exact BlkR.cell (hs6.sat _ _ _ hb2) rfl | exact BlkR.cells (hs6.sat _ _ _ hb2) rfl | exact Blk.cell hor.1 rfl | exact Blk.cells hor.1 rfl | exact BlkR.cell (hs6.sat _ _ _ hb6) rfl | exact BlkR.cells (hs6.sat _ _ _ hb6) rfl | assumption | refine all_keep ?_ | refine And.intro ?_ ?_), ?_⟩
  refine Dq 8 511 rfl (by kernel_rfl) (fun _ => (q_build (zs := [(.pointer none)]) (places := [(0, 1)]) (cs := [_]) (by kernel_rfl) (by kernel_rfl) rfl rfl)) ?_
  refine Dh0 9 1023 rfl (by kernel_rfl) (keep_sift (bs := [T,T]) (by kernel_rfl)) (h_store hs6.sat hor rfl rfl rfl (by kernel_rfl) rfl rfl rfl fun w7 hs7 hn7 => ?_)
  replace h := h.mono hs7.le
  replace hb6 := hs7.le _ _ hb6
  clear hor; have hor := hn7; clear hn7
  replace hT := hT.own hs7 (by omega)
  have hz7 := hs7.size
  refine ⟨trivial, ?_⟩
  refine Dd (by kernel_rfl) (κ _ _ ?_)
  refine cw_ret ?_
  exact ⟨_, (res_cell rfl (loadVar_n (n := 1) (by kernel_rfl) (by exact Blk.cells hor.1 rfl)) res_nil), _, _, rfl, hT, _, _, rfl, hb6, h⟩
theorem cp_each1 {w : World} {M : Mem} {vs : List (Option Addr)} {bx : Nat} {p : Option Addr} (hb : M bx = some ([.pointer p], 249)) (hc : CRep 260 M vs (.pointer p)) :
    IterOk Tryz.prog 175 [.pointer (some ⟨bx, 0, none⟩)] Nope (vs.map fun q => (Value.agg #[.pointer q])) M w := by
  intro r J M0 W0 h0 _ _ hround hJ
  replace hb := h0.le _ _ hb
  replace hc := hc.mono h0.le
  refine fn_enter Tryz.func175 rfl (rs := []) rfl rfl rfl rfl ?_
  refine cw_rs fun _ κ => ?_
  refine Sf 0 rfl (by kernel_rfl) rfl ?_
  refine S1 rfl (by kernel_rfl) rfl (by exact BlkR.cell (h0.sat _ _ _ hb) rfl) ?_
  refine Sa rfl rfl ?_
  refine as_nil (κ _ _ ?_)
  refine cw_block ?_
  refine cw_loop (fun mm l w1 => ∃ (i : Nat) (rest : List (Option Addr)) (p1 : Option Addr) (M1 : Mem), mm = rest.length ∧ vs.drop i = rest ∧ i + rest.length = vs.length ∧ CRep 260 M1 rest (.pointer p1) ∧ l = [(0, .func (.yield r) #[] #[]), (1, .pointer (some ⟨bx, 0, none⟩)), (3, .pointer p1)] ∧ Le M0 M1 ∧ Sat M1 w1 ∧ J i M1 w1) (vs.length) [(0, .func (.yield r) #[] #[]), (1, .pointer (some ⟨bx, 0, none⟩)), (3, .pointer p)] (.cons rfl (.cons rfl (.cons rfl (.nil _)))) ?_ ?_
  · skip
    exact ⟨0, vs, p, M0, rfl, rfl, by omega, hc, rfl, Le.refl _, h0.sat, hJ⟩
  clear hc hJ
  rintro mm l w1 ⟨i, rest, p1, M1, rfl, hdr, hi, hc, rfl, hle, hst, hJ⟩
  refine cw_seq fun _ hK2 => ?_
  refine cw_rs fun _ κ => ?_
  refine Sm rfl rfl ?_
  refine as_q rfl rfl (q_nenil (by kernel_rfl) rfl) ?_
  refine as_nil (κ _ _ ?_)
  refine cw_cond rfl (fun hc0 => ?_) (fun hc0 => ?_)
  · skip
    rcases rest with _ | ⟨x, rest⟩
    · have h : Value.pointer p1 = .pointer none := hc
      cases h; cases hc0
    obtain ⟨b, q, hpb, hb1, hc⟩ := hc
    cases hpb
    have hx : vs[i]? = some x := by rw [← List.head?_drop, hdr]; rfl
    refine cw_skip ?_
    refine hK2 _ _ ?_
    refine cw_seq fun _ hK4 => ?_
    refine cw_block ?_
    refine cw_rs fun _ κ => ?_
    refine Sm rfl rfl ?_
    refine Sm rfl rfl ?_
    refine as_q rfl rfl (q_nilp rfl) ?_
    refine Sf 0 rfl (by kernel_rfl) rfl ?_
    refine Sc 1 rfl (by kernel_rfl) rfl (by exact BlkR.cells (hst _ _ _ hb1) rfl) ?_
    refine as_h rfl (h_yield rfl rfl ?_)
    obtain ⟨fn_, tm_, as_, bo_, hy1, hy2⟩ := hround i ((Value.agg #[.pointer x])) M1 w1 (by show (vs.map _)[i]? = _; rw [List.getElem?_map, hx]; rfl) hJ hst hle
    refine ⟨fn_, tm_, as_, bo_, hy1, RoundIn.mono hy2 fun e w1 he => ?_⟩
    cases e <;> try exact (he : False).elim
    obtain ⟨rfl, M2, hs1, hJ2⟩ := he
    replace hb1 := hs1.le _ _ hb1
    replace hc := hc.mono hs1.le
    refine as_q rfl rfl (q_not rfl) ?_
    refine as_nil (κ _ _ ?_)
    refine cw_false rfl ?_
    refine cw_skip ?_
    refine hK4 _ _ ?_
    refine cw_region fun _ κ => ?_
    refine Sm rfl rfl ?_
    refine as_q rfl rfl (q_nilp rfl) ?_
    refine Sf 1 rfl (by kernel_rfl) rfl ?_
    refine S1 rfl (by kernel_rfl) rfl (by exact BlkR.cell (hs1.sat _ _ _ hb1) rfl) ?_
    refine Sa rfl rfl ?_
    refine as_nil (κ _ _ ?_)
    refine ⟨_, _, ?_, (.cons rfl (.cons rfl (.cons rfl (.nil _)))), i + 1, rest, q, _, rfl, by rw [← List.drop_drop, hdr]; rfl, by simp only [List.length_cons] at hi ⊢; omega, hc, rfl, hle.trans hs1.le, hs1.sat, hJ2⟩
    simp
  · skip
    have hrn : rest = [] := by
      rcases rest with _ | ⟨x, rest⟩
      · rfl
      · obtain ⟨b, q, h, _⟩ := hc
        cases h; cases hc0
    subst hrn
    refine cw_exit ?_
    have e : i = vs.length := by simpa using hi
    exact ⟨_, res_nil, M1, hst, hle, by rw [List.length_map, ← e]; exact hJ⟩
theorem cp_each {w : World} {M : Mem} {p : Option Addr} (hs : Sat M w) :
    Does Tryz.prog 174 #[.agg #[.pointer p]] w (fun v w' => ∃ bx M', v = .func (.func 175) #[] #[.pointer (some ⟨bx, 0, none⟩)] ∧ Step Nope M w M' w' ∧ M' bx = some ([.pointer p], 249)) := by
  have hT := Step.refl Nope hs
  refine fn_enter Tryz.func174 rfl (rs := [.tmp 2]) rfl rfl rfl rfl ?_
  refine cw_rs fun _ κ => ?_
  refine as_h rfl (h_boxM hs rfl rfl fun b1 M1 w1 hs1 hb1 e1 => ?_)
  replace hT := hT.then hs1
  refine Sa rfl rfl ?_
  refine as_nil (κ _ _ ?_)
  refine cw_rs fun _ κ => ?_
  refine as_q rfl rfl (q_func rfl rfl) ?_
  refine Sa rfl rfl ?_
  refine as_nil (κ _ _ ?_)
  refine cw_ret ?_
  exact ⟨_, (res_tmp rfl res_nil), _, _, rfl, hT, hb1⟩
theorem cp_all {w : World} {M : Mem} {vs : List (Option Addr)} {p : Value} (hs : Sat M w) (h : CRep 260 M vs p) (hz : vs.length ≤ 1000000000) :
    Does Tryz.prog 169 #[.agg #[p]] w (fun v w' => ∃ M', Step Nope M w M' w' ∧ Buf w' M' 79 1 v vs.length (ptrs vs) ∧ ∀ g, v.ownBlock = some g → w.heap.size ≤ g) := by
  have hT := Step.refl Nope hs
  obtain ⟨p, rfl⟩ := h.ptr
  refine fn_enterM (K' := fun v w' => ∃ M', Step Nope M w M' w' ∧ Buf w' M' 79 1 v vs.length (ptrs vs) ∧ ∀ g, v.ownBlock = some g → w.heap.size ≤ g) Tryz.func169 rfl (rs := [.tmp 2]) rfl rfl rfl rfl ?_ (fun _ _ _ _ _ _ h => resT rfl h) ?_
  · skip
    refine cm_seq fun K0a hK0a => cw_region fun K0b hK0b => ?_
    refine as_h rfl (h_boxM hs rfl rfl fun b1 M1 w1 hs1 hb1 e1 => ?_)
    replace h := h.mono hs1.le
    replace hT := hT.then hs1
    have hz1 := hs1.size
    refine Sa rfl rfl ?_
    refine as_nil (hK0b _ _ (hK0a _ _ ?_))
    clear hK0b hK0a K0b K0a
    refine cm_seq fun K1a hK1a => cw_region fun K1b hK1b => ?_
    have hqao := hT.size
    refine as_h rfl (h_allocO (z := (.slice none 0 0)) hs1.sat (by kernel_rfl) rfl fun bo w2 hs2 hoo eo => ?_)
    replace h := h.mono hs2.le
    replace hb1 := hs2.le _ _ hb1
    replace hT := hT.then hs2
    have hz2 := hs2.size
    have hlo := hoo.1.lt
    refine as_nil (hK1b _ _ (hK1a _ _ ?_))
    clear hK1b hK1a K1b K1a
    refine cm_seqM ?_
    refine cm_seq fun K2a hK2a => cw_region fun K2b hK2b => ?_
    refine Sc 1 rfl (by kernel_rfl) rfl (by exact BlkR.cells (hs2.sat _ _ _ hb1) rfl) ?_
    refine as_h rfl (h_call (by kernel_rfl) rfl ?_)
    refine (cp_each hs2.sat).mono ?_
    rintro _ w3 ⟨bx, Mx, rfl, hs3, hbx⟩
    replace h := h.mono hs3.le
    replace hoo := hoo.then hs3
    replace hT := hT.then hs3
    have hz3 := hs3.size
    refine as_nil (hK2b _ _ (hK2a _ _ ?_))
    clear hK2b hK2a K2b K2a
    have hTs := hT.size
    have hbo := hoo.1.lt
    have hboo : w.heap.size ≤ bo := by omega
    refine cm_block ?_
    refine cm_rangeC (M := Mx) (S := Nope) (vs := vs.map fun q => (Value.agg #[.pointer q])) (lb := [.pointer (some ⟨bx, 0, none⟩)]) (gf := 175) rfl rfl rfl (by kernel_rfl) rfl hs3.sat hTs (cp_each1 hbx h) (fun _ h => h.elim) (fun i M' W' => ∃ sv, Own W' M' bo [sv] 257 ∧ Buf W' M' 79 1 sv i (ptrs (vs.take i)) ∧ Step Nope M w M' W' ∧ ∀ g, sv.ownBlock = some g → w.heap.size ≤ g ∧ g ≠ bo ∧ g ≠ w3.heap.size ∧ g ≠ w3.heap.size + 1) (fun i v la M' W' => ∃ bz q, v = .agg #[.pointer q] ∧ la = [(3, .pointer (some ⟨bo, 0, none⟩)), (4, .pointer (some ⟨bz, 0, none⟩))] ∧ Own W' M' bz [.pointer q] 79 ∧ bz ≠ w3.heap.size ∧ bz ≠ w3.heap.size + 1 ∧ ∃ sv, Own W' M' bo [sv] 257 ∧ Buf W' M' 79 1 sv i (ptrs (vs.take i)) ∧ Step Nope M w M' W' ∧ ∀ g, sv.ownBlock = some g → w.heap.size ≤ g ∧ g ≠ bo ∧ g ≠ w3.heap.size ∧ g ≠ w3.heap.size + 1) ?_ ?_ ?_ ?_ ?_ ?_
    · rintro i M' W' M'' W'' ⟨sv, h1, h2, h3, h4⟩ k
      refine ⟨sv, h1.step k (by rintro (h | h | h); exact h; all_goals omega), h2.step k (fun g hg => by rintro (h | h | h); exact h; exact (h4 g hg).2.2.1 h; exact (h4 g hg).2.2.2 h), h3.trans k (fun b hb => by rintro (h | h | h); exact h; all_goals omega), h4⟩
    · exact ⟨_, hoo, by rw [List.take_zero]; exact Buf.nil _ _ _ _, hT, fun g hg => by cases hg⟩
    · rintro i v la M' W' M'' W'' ⟨bz, q, rfl, rfl, h0, hz1, hz2, sv, h1, h2, h3, h4⟩ k
      refine ⟨bz, q, rfl, rfl, h0.step k (by rintro (h | h | h); exact h; all_goals omega), hz1, hz2, ?_⟩
      refine ⟨sv, h1.step k (by rintro (h | h | h); exact h; all_goals omega), h2.step k (fun g hg => by rintro (h | h | h); exact h; exact (h4 g hg).2.2.1 h; exact (h4 g hg).2.2.2 h), h3.trans k (fun b hb => by rintro (h | h | h); exact h; all_goals omega), h4⟩
    · rintro i v r M' W' hv ⟨sv, h1, h2, h3, h4⟩ hs' hle hlt
      obtain ⟨q, _, rfl⟩ : ∃ q, _ ∧ v = .agg #[.pointer q] := by
        rw [List.getElem?_map] at hv
        obtain ⟨q, h5, h6⟩ := Option.map_eq_some_iff.1 hv
        exact ⟨q, h5, h6.symm⟩
      refine cw_region fun _ κ => ?_
      refine as_h rfl (h_allocO (z := (.agg #[(.pointer none)])) hs' (by kernel_rfl) rfl fun bz w4 hs4 hz ez => ?_)
      have hz4 := hs4.size
      refine as_h0 (h_store hs4.sat hz rfl rfl rfl (by kernel_rfl) rfl rfl rfl fun w5 hs5 hz5 => ?_)
      have hst : Step Nope M' W' M' w5 := hs4.trans hs5 (fun b hb h => by have h : b = bz := h; omega)
      have hz0 := hs4.size
      have hb2 := h2.lt
      refine as_nil (κ _ _ ⟨_, M', .cons rfl (.cons rfl (.nil _)), hst, bz, q, rfl, rfl, hz5, by omega, by omega, sv, h1.then hst, h2.then hst, h3.also hst, h4⟩)
    · rintro i v la r M' W' hv ⟨bz, q, rfl, rfl, hz, hz1, hz2, sv, h1, h2, h3, h4⟩ hs' hle hlt
      obtain ⟨x, hx, hxv⟩ : ∃ x, vs[i]? = some x ∧ (Value.agg #[.pointer x]) = Value.agg #[.pointer q] := by
        rw [List.getElem?_map] at hv
        exact Option.map_eq_some_iff.1 hv
      have h1l := h1.1.lt
      have h2l := h2.lt
      have hin : i < vs.length := (List.getElem?_eq_some_iff.1 hx).1
      cases hxv
      refine cw_block (cw_region fun K4 hK4 => ?_)
      refine S1 rfl (by kernel_rfl) rfl (by exact Blk.cell h1.1 rfl) ?_
      refine Sc 1 rfl (by kernel_rfl) rfl (by exact Blk.cells hz.1 rfl) ?_
      refine as_h rfl (h_buildO (e := 79) (size := 1) (zs := [.pointer none]) (cs := [_]) (by kernel_rfl) (by kernel_rfl) (by kernel_rfl) rfl hs' rfl rfl fun b6 w6 hs6 ho6 e6 => ?_)
      have hsB := hs6
      replace h1 := h1.then hs6
      have hz6 := hs6.size
      have hrx := Buf.rd (Own.buf ho6 (n := 1) (size := 1) rfl (by decide))
      have h2b := h2.then hsB
      refine as_h rfl (h_append (e := 79) (size := 1) (bytes := 8) (by kernel_rfl) hs6.sat h2b hrx rfl rfl (fun y hy => by obtain rfl := List.mem_singleton.1 hy; rfl) (by omega) rfl fun sv2 w7 hs7 h2c hor => ?_)
      have hsv : ∃ a k c, sv2 = .slice a k c := by obtain ⟨a, c, h, _⟩ := h2c.slice; exact ⟨a, _, c, h⟩
      replace h1 := h1.step hs7 (fun h => (h4 _ h).2.1 rfl)
      obtain ⟨sa, sk, sc, rfl⟩ := hsv
      refine as_h0 (h_store hs7.sat h1 rfl rfl rfl (by kernel_rfl) rfl rfl rfl fun w8 hs8 h1n => ?_)
      have hzb := hs6.size
      have hza := hs7.size
      have hownf : ∀ g, (Value.slice sa sk sc).ownBlock = some g → w.heap.size ≤ g ∧ g ≠ bo ∧ g ≠ w3.heap.size ∧ g ≠ w3.heap.size + 1 := fun g hg => by
        rcases hor with h | h
        · rw [h] at hg; exact h4 g hg
        · rw [h] at hg; have hg := Option.some.inj hg; omega
      have k1 : Step (fun k => ¬ Nope k ∧ k ≠ w3.heap.size ∧ k ≠ w3.heap.size + 1) M' w6 M' w7 := hs7.wide fun k _ h => ⟨id, (h4 k h).2.2.1, (h4 k h).2.2.2⟩
      have k2 : Step (fun k => ¬ Nope k ∧ k ≠ w3.heap.size ∧ k ≠ w3.heap.size + 1) M' w7 M' w8 := hs8.wide fun k _ h => by have h : k = bo := h; exact ⟨id, by omega, by omega⟩
      refine as_nil (hK4 _ _ ⟨M', ((hs6.any _).also k1).also k2, _, h1n, ?_, ?_, hownf⟩)
      · have h5 := h2c.step hs8 (fun g hg h => (hownf g hg).2.1 h)
        rw [ptrs_take hx] at h5
        exact h5
      · exact ((h3.also hs6).trans hs7 (fun k hk h => by have := (h4 k h).1; omega)).trans hs8 (fun k hk h => by have h : k = bo := h; omega)
    · rintro M' W' hs' hle ⟨sv, h1, h2, h3, h4⟩ D hD hDd
      refine cw_rs fun _ κ => ?_
      refine S1 rfl (by kernel_rfl) rfl (by exact Blk.cell h1.1 rfl) ?_
      refine Sa rfl rfl ?_
      refine as_nil (κ _ _ ?_)
      refine cw_ret ⟨hDd, _, res_tmp rfl res_nil, M', h3, ?_, fun g hg => (h4 g hg).1⟩
      rw [List.length_map] at h2
      rw [List.take_length] at h2
      exact h2
  · rintro v w' D hB hD ⟨M', h1, h2, h3⟩
    have k := Step.putObj h1.sat hD (by simp) (.deferred none)
    refine ⟨M', h1.trans k (fun b hb h => by have h : b = D := h; omega), h2.step k (fun g hg h => ?_), h3⟩
    have h : g = D := h
    subst h
    obtain ⟨⟨_, hh⟩, _⟩ := h2
    rcases hh with ⟨rfl, _⟩ | ⟨g2, cap, cur, rfl, _, hh, _⟩
    · cases hg
    · cases hg; rw [hD] at hh; cases hh
end Go.Proofs.YtgcgjpfjjgalmaaGreat
/- Pairing heaps, part 1. -/
namespace Go.Proofs.YtgcgjpfjjgalmaaGreat
open Go Go.Eng
theorem p_size_n {w : World} {M : Mem} (hs : Sat M w) :
    Does Tryz.prog 166 #[.agg #[.pointer none]] w (fun v w' => v = .int .i64 (Pr.nil.size : Nat) ∧ Step Nope M w M w') := by
  have hT := Step.refl Nope hs
  refine fn_enter Tryz.func166 rfl (rs := [.tmp 2]) rfl rfl rfl rfl ?_
  refine cw_rs fun _ κ => ?_
  refine as_h rfl (h_boxM hs rfl rfl fun b1 M1 w1 hs1 hb1 e1 => ?_)
  replace hT := hT.then hs1
  refine Sa rfl rfl ?_
  refine as_nil (κ _ _ ?_)
  refine cw_seq fun _ hK2 => ?_
  refine cw_rs fun _ κ => ?_
  refine Sf 0 rfl (by kernel_rfl) rfl ?_
  refine S1 rfl (by kernel_rfl) rfl (by exact BlkR.cell (hs1.sat _ _ _ hb1) rfl) ?_
  refine as_q rfl rfl (q_eqnil (by kernel_rfl) rfl) ?_
  refine as_nil (κ _ _ ?_)
  refine cw_true rfl ?_
  refine cw_rs fun _ κ => ?_
  refine Sa rfl rfl ?_
  refine as_nil (κ _ _ ?_)
  refine cw_ret ?_
  exact ⟨_, (res_tmp rfl res_nil), rfl, hT.forget⟩
theorem p_size_c {w : World} {M : Mem} {x : El} {ks : List Pr} {q : Option Addr} (hs : Sat M w) (h : PRep 251 260 M (.node x ks) q) :
    Does Tryz.prog 166 #[.agg #[.pointer q]] w (fun v w' => v = .int .i64 ((Pr.node x ks).size : Nat) ∧ Step Nope M w M w') := by
  have hT := Step.refl Nope hs
  obtain ⟨b, kq, al, rfl, hb, hc, hk⟩ := prep_node.1 h
  refine fn_enter Tryz.func166 rfl (rs := [.tmp 2]) rfl rfl rfl rfl ?_
  refine cw_rs fun _ κ => ?_
  refine as_h rfl (h_boxM hs rfl rfl fun b1 M1 w1 hs1 hb1 e1 => ?_)
  replace hb := hs1.le _ _ hb
  replace hT := hT.then hs1
  refine Sa rfl rfl ?_
  refine as_nil (κ _ _ ?_)
  refine cw_seq fun _ hK2 => ?_
  refine cw_rs fun _ κ => ?_
  refine Sf 0 rfl (by kernel_rfl) rfl ?_
  refine S1 rfl (by kernel_rfl) rfl (by exact BlkR.cell (hs1.sat _ _ _ hb1) rfl) ?_
  refine as_q rfl rfl (q_eqnil (by kernel_rfl) rfl) ?_
  refine as_nil (κ _ _ ?_)
  refine cw_false rfl ?_
  refine cw_skip ?_
  refine hK2 _ _ ?_
  refine cw_rs fun _ κ => ?_
  refine Sf 0 rfl (by kernel_rfl) rfl ?_
  refine S1 rfl (by kernel_rfl) rfl (by exact BlkR.cell (hs1.sat _ _ _ hb1) rfl) ?_
  refine as_q rfl rfl (q_nilp rfl) ?_
  refine Sf 3 rfl (by kernel_rfl) rfl ?_
  refine S1 rfl (by kernel_rfl) rfl (by exact BlkR.cell (hs1.sat _ _ _ hb) rfl) ?_
  refine Sa rfl rfl ?_
  refine as_nil (κ _ _ ?_)
  refine cw_ret ?_
  exact ⟨_, (res_tmp rfl res_nil), by rw [Pr.size]; rfl, hT.forget⟩
theorem p_size {w : World} {M : Mem} {t : Pr} {q : Option Addr} (hs : Sat M w) (h : PRep 251 260 M t q) : Does Tryz.prog 166 #[.agg #[.pointer q]] w (fun v w' => v = .int .i64 (t.size : Nat) ∧ Step Nope M w M w') := by
  cases t with
  | nil => obtain rfl := prep_nil.1 h; exact p_size_n hs
  | node x ks => exact p_size_c hs h
theorem p_min {w : World} {M : Mem} {x : El} {ks : List Pr} {q : Option Addr} (hs : Sat M w) (h : PRep 251 260 M (.node x ks) q) :
    Does Tryz.prog 163 #[.agg #[.pointer q], .pointer none] w (fun v w' => v = .tuple #[.agg (elc x).toArray, .bool true] ∧ Step Nope M w M w') := by
  have hT := Step.refl Nope hs
  obtain ⟨b, kq, al, rfl, hb, hc, hk⟩ := prep_node.1 h
  refine fn_enter Tryz.func163 rfl (rs := [.cell 4 24, .tmp 5]) rfl rfl rfl rfl ?_
  refine cw_rs fun _ κ => ?_
  refine as_h rfl (h_boxM hs rfl rfl fun b1 M1 w1 hs1 hb1 e1 => ?_)
  replace hb := hs1.le _ _ hb
  replace hT := hT.then hs1
  have hz1 := hs1.size
  have hqar := hT.size
  refine as_h rfl (h_allocO (z := (.agg #[(.int .i64 0), (.int .i64 0)])) hs1.sat (by kernel_rfl) rfl fun br w2 hs2 hor er => ?_)
  replace hb := hs2.le _ _ hb
  replace hb1 := hs2.le _ _ hb1
  replace hT := hT.then hs2
  have hz2 := hs2.size
  have hlr := hor.1.lt
  refine Sa rfl rfl ?_
  refine as_nil (κ _ _ ?_)
  refine cw_seq fun _ hK2 => ?_
  refine cw_rs fun _ κ => ?_
  refine Sf 0 rfl (by kernel_rfl) rfl ?_
  refine S1 rfl (by kernel_rfl) rfl (by exact BlkR.cell (hs2.sat _ _ _ hb1) rfl) ?_
  refine as_q rfl rfl (q_eqnil (by kernel_rfl) rfl) ?_
  refine as_nil (κ _ _ ?_)
  refine cw_false rfl ?_
  refine cw_skip ?_
  refine hK2 _ _ ?_
  refine cw_rs fun _ κ => ?_
  refine Sf 0 rfl (by kernel_rfl) rfl ?_
  refine S1 rfl (by kernel_rfl) rfl (by exact BlkR.cell (hs2.sat _ _ _ hb1) rfl) ?_
  refine as_q rfl rfl (q_nilp rfl) ?_
  refine Sf 0 rfl (by kernel_rfl) rfl ?_
  refine Sc 2 rfl (by kernel_rfl) rfl (by exact BlkR.cells (hs2.sat _ _ _ hb) rfl) ?_
  refine as_h0 (h_store hs2.sat hor rfl rfl rfl (by kernel_rfl) rfl rfl rfl fun w3 hs3 hn3 => ?_)
  clear hor; have hor := hn3; clear hn3
  replace hT := hT.own hs3 (by omega)
  have hz3 := hs3.size
  refine Sa rfl rfl ?_
  refine as_nil (κ _ _ ?_)
  refine cw_ret ?_
  exact ⟨_, (res_cell rfl (loadVar_n (n := 2) (by kernel_rfl) (by exact Blk.cells hor.1 rfl)) (res_tmp rfl res_nil)), rfl, hT.forget⟩
theorem p_meld_a {w : World} {M : Mem} {o : Pr} {qo : Option Addr} (hs : Sat M w) (ho : PRep 251 260 M o qo) :
    Does Tryz.prog 162 #[.agg #[.pointer none], .pointer none, .agg #[.pointer qo]] w (fun v w' => ∃ q M', v = .agg #[.pointer q] ∧ Step Nope M w M' w' ∧ PRep 251 260 M' o q) := by
  have hT := Step.refl Nope hs
  refine fn_enter Tryz.func162 rfl (rs := [.cell 6 79]) rfl rfl rfl rfl ?_
  refine cw_rs fun _ κ => ?_
  have hqah := hT.size
  refine as_h rfl (h_boxO hs rfl rfl fun bh w1 hs1 hoh eh => ?_)
  replace ho := ho.mono hs1.le
  replace hT := hT.then hs1
  have hz1 := hs1.size
  have hlh := hoh.1.lt
  have hqao := hT.size
  refine as_h rfl (h_boxO hs1.sat rfl rfl fun bo w2 hs2 hoo eo => ?_)
  replace ho := ho.mono hs2.le
  replace hoh := hoh.then hs2
  replace hT := hT.then hs2
  have hz2 := hs2.size
  have hlo := hoo.1.lt
  have hqar := hT.size
  refine as_h rfl (h_allocO (z := (.agg #[(.pointer none)])) hs2.sat (by kernel_rfl) rfl fun br w3 hs3 hor er => ?_)
  replace ho := ho.mono hs3.le
  replace hoh := hoh.then hs3
  replace hoo := hoo.then hs3
  replace hT := hT.then hs3
  have hz3 := hs3.size
  have hlr := hor.1.lt
  refine as_nil (κ _ _ ?_)
  refine cw_seq fun _ hK2 => ?_
  refine cw_block ?_
  refine cw_rs fun _ κ => ?_
  refine Sf 0 rfl (by kernel_rfl) rfl ?_
  refine S1 rfl (by kernel_rfl) rfl (by exact Blk.cell hoh.1 rfl) ?_
  refine as_q rfl rfl (q_eqnil (by kernel_rfl) rfl) ?_
  refine Sa rfl rfl ?_
  refine as_nil (κ _ _ ?_)
  refine cw_true rfl ?_
  refine cw_rs fun _ κ => ?_
  refine Sc 1 rfl (by kernel_rfl) rfl (by exact Blk.cells hoo.1 rfl) ?_
  refine as_h0 (h_store hs3.sat hor rfl rfl rfl (by kernel_rfl) rfl rfl rfl fun w4 hs4 hn4 => ?_)
  replace ho := ho.mono hs4.le
  clear hor; have hor := hn4; clear hn4
  replace hT := hT.own hs4 (by omega)
  have hz4 := hs4.size
  refine as_nil (κ _ _ ?_)
  refine cw_ret ?_
  exact ⟨_, (res_cell rfl (loadVar_n (n := 1) (by kernel_rfl) (by exact Blk.cells hor.1 rfl)) res_nil), _, _, rfl, hT, ho⟩
theorem p_meld_b {w : World} {M : Mem} {t : Pr} {a : Addr} (hs : Sat M w) (h : PRep 251 260 M t (some a)) :
    Does Tryz.prog 162 #[.agg #[.pointer (some a)], .pointer none, .agg #[.pointer none]] w (fun v w' => ∃ q M', v = .agg #[.pointer q] ∧ Step Nope M w M' w' ∧ PRep 251 260 M' t q) := by
  have hT := Step.refl Nope hs
  refine fn_enter Tryz.func162 rfl (rs := [.cell 6 79]) rfl rfl rfl rfl ?_
  refine cw_rs fun _ κ => ?_
  have hqah := hT.size
  refine as_h rfl (h_boxO hs rfl rfl fun bh w1 hs1 hoh eh => ?_)
  replace h := h.mono hs1.le
  replace hT := hT.then hs1
  have hz1 := hs1.size
  have hlh := hoh.1.lt
  have hqao := hT.size
  refine as_h rfl (h_boxO hs1.sat rfl rfl fun bo w2 hs2 hoo eo => ?_)
  replace h := h.mono hs2.le
  replace hoh := hoh.then hs2
  replace hT := hT.then hs2
  have hz2 := hs2.size
  have hlo := hoo.1.lt
  have hqar := hT.size
  refine as_h rfl (h_allocO (z := (.agg #[(.pointer none)])) hs2.sat (by kernel_rfl) rfl fun br w3 hs3 hor er => ?_)
  replace h := h.mono hs3.le
  replace hoh := hoh.then hs3
  replace hoo := hoo.then hs3
  replace hT := hT.then hs3
  have hz3 := hs3.size
  have hlr := hor.1.lt
  refine as_nil (κ _ _ ?_)
  refine cw_seq fun _ hK2 => ?_
  refine cw_block ?_
  refine cw_rs fun _ κ => ?_
  refine Sf 0 rfl (by kernel_rfl) rfl ?_
  refine S1 rfl (by kernel_rfl) rfl (by exact Blk.cell hoh.1 rfl) ?_
  refine as_q rfl rfl (q_eqnil (by kernel_rfl) rfl) ?_
  refine Sa rfl rfl ?_
  refine as_nil (κ _ _ ?_)
  refine cw_false rfl ?_
  refine cw_rs fun _ κ => ?_
  refine Sf 0 rfl (by kernel_rfl) rfl ?_
  refine S1 rfl (by kernel_rfl) rfl (by exact Blk.cell hoo.1 rfl) ?_
  refine as_q rfl rfl (q_eqnil (by kernel_rfl) rfl) ?_
  refine Sa rfl rfl ?_
  refine as_nil (κ _ _ ?_)
  refine cw_true rfl ?_
  refine cw_rs fun _ κ => ?_
  refine Sc 1 rfl (by kernel_rfl) rfl (by exact Blk.cells hoh.1 rfl) ?_
  refine as_h0 (h_store hs3.sat hor rfl rfl rfl (by kernel_rfl) rfl rfl rfl fun w4 hs4 hn4 => ?_)
  replace h := h.mono hs4.le
  clear hor; have hor := hn4; clear hn4
  replace hT := hT.own hs4 (by omega)
  have hz4 := hs4.size
  refine as_nil (κ _ _ ?_)
  refine cw_ret ?_
  exact ⟨_, (res_cell rfl (loadVar_n (n := 1) (by kernel_rfl) (by exact Blk.cells hor.1 rfl)) res_nil), _, _, rfl, hT, h⟩
theorem p_meld_c {w : World} {M : Mem} {x y : El} {ks ls : List Pr} {q q2 : Option Addr} (hs : Sat M w) (h : PRep 251 260 M (.node x ks) q) (h2 : PRep 251 260 M (.node y ls) q2) (hz : (Pr.node x ks).size + (Pr.node y ls).size ≤ 1000000000) :
    Does Tryz.prog 162 #[.agg #[.pointer q], .pointer none, .agg #[.pointer q2]] w (fun v w' => ∃ q M', v = .agg #[.pointer q] ∧ Step Nope M w M' w' ∧ PRep 251 260 M' ((Pr.node x ks).meld (.node y ls)) q) := by
  have hT := Step.refl Nope hs
  obtain ⟨b, kq, al, rfl, hb, hc, hk⟩ := prep_node.1 h
  obtain ⟨b2, kq2, al2, rfl, hb2, hc2, hk2⟩ := prep_node.1 h2
  have hz0 : (1 + Pr.sizes ks) + (1 + Pr.sizes ls) ≤ 1000000000 := by simpa only [Pr.size] using hz
  refine fn_enter Tryz.func162 rfl (rs := [.cell 6 79]) rfl rfl rfl rfl ?_
  refine cw_rs fun _ κ => ?_
  have hqah := hT.size
  refine as_h rfl (h_boxO hs rfl rfl fun bh w1 hs1 hoh eh => ?_)
  replace hb := hs1.le _ _ hb
  replace hc := hc.mono hs1.le
  replace hk := hk.mono hs1.le
  replace hb2 := hs1.le _ _ hb2
  replace hc2 := hc2.mono hs1.le
  replace hk2 := hk2.mono hs1.le
  replace hT := hT.then hs1
  have hz1 := hs1.size
  have hlh := hoh.1.lt
  have hqao := hT.size
  refine as_h rfl (h_boxO hs1.sat rfl rfl fun bo w2 hs2 hoo eo => ?_)
  replace hb := hs2.le _ _ hb
  replace hc := hc.mono hs2.le
  replace hk := hk.mono hs2.le
  replace hb2 := hs2.le _ _ hb2
  replace hc2 := hc2.mono hs2.le
  replace hk2 := hk2.mono hs2.le
  replace hoh := hoh.then hs2
  replace hT := hT.then hs2
  have hz2 := hs2.size
  have hlo := hoo.1.lt
  have hqar := hT.size
  refine as_h rfl (h_allocO (z := (.agg #[(.pointer none)])) hs2.sat (by kernel_rfl) rfl fun br w3 hs3 hor er => ?_)
  replace hb := hs3.le _ _ hb
  replace hc := hc.mono hs3.le
  replace hk := hk.mono hs3.le
  replace hb2 := hs3.le _ _ hb2
  replace hc2 := hc2.mono hs3.le
  replace hk2 := hk2.mono hs3.le
  replace hoh := hoh.then hs3
  replace hoo := hoo.then hs3
  replace hT := hT.then hs3
  have hz3 := hs3.size
  have hlr := hor.1.lt
  refine as_nil (κ _ _ ?_)
  refine cw_seq fun _ hK2 => ?_
  refine cw_block ?_
  refine cw_rs fun _ κ => ?_
  refine Sf 0 rfl (by kernel_rfl) rfl ?_
  refine S1 rfl (by kernel_rfl) rfl (by exact Blk.cell hoh.1 rfl) ?_
  refine as_q rfl rfl (q_eqnil (by kernel_rfl) rfl) ?_
  refine Sa rfl rfl ?_
  refine as_nil (κ _ _ ?_)
  refine cw_false rfl ?_
  refine cw_rs fun _ κ => ?_
  refine Sf 0 rfl (by kernel_rfl) rfl ?_
  refine S1 rfl (by kernel_rfl) rfl (by exact Blk.cell hoo.1 rfl) ?_
  refine as_q rfl rfl (q_eqnil (by kernel_rfl) rfl) ?_
  refine Sa rfl rfl ?_
  refine as_nil (κ _ _ ?_)
  refine cw_false rfl ?_
  refine cw_skip ?_
  refine hK2 _ _ ?_
  refine cw_seq fun _ hK5 => ?_
  refine cw_dr (by kernel_rfl) fun _ κ => ?_
  have hs4 := Step.drew hs3.sat
  have hz4 := hs4.size
  replace hb := hs4.le _ _ hb
  replace hc := hc.mono hs4.le
  replace hk := hk.mono hs4.le
  replace hb2 := hs4.le _ _ hb2
  replace hc2 := hc2.mono hs4.le
  replace hk2 := hk2.mono hs4.le
  replace hoh := hoh.then hs4
  replace hoo := hoo.then hs4
  replace hor := hor.then hs4
  replace hT := hT.then hs4
  refine Dm 0 1 rfl (by kernel_rfl) rfl ?_
  refine Df 1 3 0 rfl (by kernel_rfl) (by kernel_rfl) rfl ?_
  refine Dl1 2 7 rfl (by kernel_rfl) (by kernel_rfl) rfl (by exact Blk.cell hoo.1 rfl) ?_
  refine Dq 3 15 rfl (by kernel_rfl) (fun _ => (q_nilp rfl)) ?_
  refine Df 4 31 0 rfl (by kernel_rfl) (by kernel_rfl) rfl ?_
  refine Dlc 5 63 2 rfl (by kernel_rfl) (by kernel_rfl) rfl (by exact BlkR.cells (hs4.sat _ _ _ hb2) rfl) ?_
  refine Df 6 127 0 rfl (by kernel_rfl) (by kernel_rfl) rfl ?_
  refine Dl1 7 255 rfl (by kernel_rfl) (by kernel_rfl) rfl (by exact Blk.cell hoh.1 rfl) ?_
  refine Dq 8 511 rfl (by kernel_rfl) (fun _ => (q_nilp rfl)) ?_
  refine Df 9 1023 0 rfl (by kernel_rfl) (by kernel_rfl) rfl ?_
  refine Dlc 10 2047 2 rfl (by kernel_rfl) (by kernel_rfl) rfl (by exact BlkR.cells (hs4.sat _ _ _ hb) rfl) ?_
  refine Dh 11 4095 rfl (by kernel_rfl) (keep_sift (bs := [T,F,T,F]) (by kernel_rfl)) (h_call (by kernel_rfl) rfl ?_)
  refine (m_less (a := y) (b := x) hs4.sat).mono ?_
  rintro _ w5 ⟨rfl, hs5⟩
  replace hb := hs5.le _ _ hb
  replace hc := hc.mono hs5.le
  replace hk := hk.mono hs5.le
  replace hb2 := hs5.le _ _ hb2
  replace hc2 := hc2.mono hs5.le
  replace hk2 := hk2.mono hs5.le
  replace hoh := hoh.then hs5
  replace hoo := hoo.then hs5
  replace hor := hor.then hs5
  replace hT := hT.then hs5
  have hz5 := hs5.size
  refine ⟨(by repeat' first | exact trivial | exact BlkR.cell (hs5.sat _ _ _ hb) rfl | exact BlkR.cells (hs5.sat _ _ _ hb) rfl | exact BlkR.cell (hs5.sat _ _ _ hb2) rfl | exact BlkR.cells (hs5.sat _ _ _ hb2) rfl | exact Blk.cell hoh.1 rfl | exact Blk.cells hoh.1 rfl | exact Blk.cell hoo.1 rfl | exact Blk.cells hoo.1 rfl | exact Blk.cell hor.1 rfl | exact Blk.cells hor.1 rfl | assumption | refine all_keep ?_ | refine And.intro ?_ ?_), ?_⟩
  refine Dd (by kernel_rfl) (κ _ _ ?_)
  refine cw_cond rfl (fun hC2 => ?_) (fun hC2 => ?_)
  · skip
    have hc2_ := hC2
    refine cw_region fun _ κ => ?_
    refine Sc 1 rfl (by kernel_rfl) rfl (by exact Blk.cells hoo.1 rfl) ?_
    refine Sc 1 rfl (by kernel_rfl) rfl (by exact Blk.cells hoh.1 rfl) ?_
    refine as_h0 (h_store hs5.sat hoh rfl rfl rfl (by kernel_rfl) rfl rfl rfl fun w6 hs6 hn6 => ?_)
    replace hb := hs6.le _ _ hb
    replace hc := hc.mono hs6.le
    replace hk := hk.mono hs6.le
    replace hb2 := hs6.le _ _ hb2
    replace hc2 := hc2.mono hs6.le
    replace hk2 := hk2.mono hs6.le
    replace hoo := hoo.step hs6 (fun h => by have h : _ = _ := h; omega)
    replace hor := hor.step hs6 (fun h => by have h : _ = _ := h; omega)
    clear hoh; have hoh := hn6; clear hn6
    replace hT := hT.own hs6 (by omega)
    have hz6 := hs6.size
    refine as_h0 (h_store hs6.sat hoo rfl rfl rfl (by kernel_rfl) rfl rfl rfl fun w7 hs7 hn7 => ?_)
    replace hb := hs7.le _ _ hb
    replace hc := hc.mono hs7.le
    replace hk := hk.mono hs7.le
    replace hb2 := hs7.le _ _ hb2
    replace hc2 := hc2.mono hs7.le
    replace hk2 := hk2.mono hs7.le
    replace hoh := hoh.step hs7 (fun h => by have h : _ = _ := h; omega)
    replace hor := hor.step hs7 (fun h => by have h : _ = _ := h; omega)
    clear hoo; have hoo := hn7; clear hn7
    replace hT := hT.own hs7 (by omega)
    have hz7 := hs7.size
    refine as_nil (κ _ _ ?_)
    refine hK5 _ _ ?_
    refine cw_rs fun _ κ => ?_
    refine Sm rfl rfl ?_
    refine as_h rfl (h_call (by kernel_rfl) rfl ?_)
    refine (m_made hs7.sat).mono ?_
    rintro _ w8 hs8
    replace hb := hs8.le _ _ hb
    replace hc := hc.mono hs8.le
    replace hk := hk.mono hs8.le
    replace hb2 := hs8.le _ _ hb2
    replace hc2 := hc2.mono hs8.le
    replace hk2 := hk2.mono hs8.le
    replace hoh := hoh.then hs8
    replace hoo := hoo.then hs8
    replace hor := hor.then hs8
    replace hT := hT.then hs8
    have hz8 := hs8.size
    refine as_nil (κ _ _ ?_)
    refine cw_dr (by kernel_rfl) fun _ κ => ?_
    have hs9 := Step.drew hs8.sat
    have hz9 := hs9.size
    replace hb := hs9.le _ _ hb
    replace hc := hc.mono hs9.le
    replace hk := hk.mono hs9.le
    replace hb2 := hs9.le _ _ hb2
    replace hc2 := hc2.mono hs9.le
    replace hk2 := hk2.mono hs9.le
    replace hoh := hoh.then hs9
    replace hoo := hoo.then hs9
    replace hor := hor.then hs9
    replace hT := hT.then hs9
    refine Df 0 1 0 rfl (by kernel_rfl) (by kernel_rfl) rfl ?_
    refine Dl1 1 3 rfl (by kernel_rfl) (by kernel_rfl) rfl (by exact Blk.cell hoh.1 rfl) ?_
    refine Dq 2 7 rfl (by kernel_rfl) (fun _ => (q_nilp rfl)) ?_
    refine Df 3 15 0 rfl (by kernel_rfl) (by kernel_rfl) rfl ?_
    refine Dlc 4 31 2 rfl (by kernel_rfl) (by kernel_rfl) rfl (by exact BlkR.cells (hs9.sat _ _ _ hb2) rfl) ?_
    refine Df 5 63 0 rfl (by kernel_rfl) (by kernel_rfl) rfl ?_
    refine Dl1 6 127 rfl (by kernel_rfl) (by kernel_rfl) rfl (by exact Blk.cell hoh.1 rfl) ?_
    refine Dq 7 255 rfl (by kernel_rfl) (fun _ => (q_nilp rfl)) ?_
    refine Df 8 511 2 rfl (by kernel_rfl) (by kernel_rfl) rfl ?_
    refine Dlc 9 1023 1 rfl (by kernel_rfl) (by kernel_rfl) rfl (by exact BlkR.cells (hs9.sat _ _ _ hb2) rfl) ?_
    refine Dlc 10 2047 1 rfl (by kernel_rfl) (by kernel_rfl) rfl (by exact Blk.cells hoo.1 rfl) ?_
    refine Df 12 6143 0 rfl (by kernel_rfl) (by kernel_rfl) rfl ?_
    refine Dl1 13 14335 rfl (by kernel_rfl) (by kernel_rfl) rfl (by exact Blk.cell hoh.1 rfl) ?_
    refine Dq 14 30719 rfl (by kernel_rfl) (fun _ => (q_nilp rfl)) ?_
    refine Df 15 63487 3 rfl (by kernel_rfl) (by kernel_rfl) rfl ?_
    refine Dl1 16 129023 rfl (by kernel_rfl) (by kernel_rfl) rfl (by exact BlkR.cell (hs9.sat _ _ _ hb2) rfl) ?_
    refine Df 17 260095 0 rfl (by kernel_rfl) (by kernel_rfl) rfl ?_
    refine Dl1 18 522239 rfl (by kernel_rfl) (by kernel_rfl) rfl (by exact Blk.cell hoo.1 rfl) ?_
    refine Dq 19 1046527 rfl (by kernel_rfl) (fun _ => (q_nilp rfl)) ?_
    refine Df 20 2095103 3 rfl (by kernel_rfl) (by kernel_rfl) rfl ?_
    refine Dl1 21 4192255 rfl (by kernel_rfl) (by kernel_rfl) rfl (by exact BlkR.cell (hs9.sat _ _ _ hb) rfl) ?_
    refine Dq 22 8386559 rfl (by kernel_rfl) (fun _ => (q_addx rfl rfl (by omega) (by omega))) ?_
    refine Dh 11 8388607 rfl (by kernel_rfl) (keep_sift (bs := [F,F,F,F,T,T,F,F,F]) (by kernel_rfl)) (h_call (by kernel_rfl) rfl ?_)
    refine (cp_push hs9.sat hc2 (by have := hk2.small; simp only [Pr.size] at hz; omega)).mono ?_
    rintro _ w10 ⟨qn, Mn, rfl, hs10, hn⟩
    replace hb := hs10.le _ _ hb
    replace hc := hc.mono hs10.le
    replace hk := hk.mono hs10.le
    replace hb2 := hs10.le _ _ hb2
    replace hc2 := hc2.mono hs10.le
    replace hk2 := hk2.mono hs10.le
    replace hoh := hoh.then hs10
    replace hoo := hoo.then hs10
    replace hor := hor.then hs10
    replace hT := hT.then hs10
    have hz10 := hs10.size
    refine ⟨(by repeat' first | exact trivial | exact BlkR.cell (hs10.sat _ _ _ hb) rfl | exact BlkR.cells (hs10.sat _ _ _ hb) rfl | exact BlkR.cell (hs10.sat _ _ _ hb2) rfl | exact BlkR.cells (hs10.sat _ _ _ hb2) rfl | exact Blk.cell hoh.1 rfl | exact Blk.cells hoh.1 rfl | exact Blk.cell hoo.1 rfl | exact Blk.cells hoo.1 rfl | exact Blk.cell hor.1 rfl | exact Blk.cells hor.1 rfl | assumption | refine all_keep ?_ | refine And.intro ?_ ?_), ?_⟩
    refine Dq 23 16777215 rfl (by kernel_rfl) (fun _ => (q_build (zs := [(.int .i64 0), (.int .i64 0), (.pointer none), (.int .i64 0)]) (places := [(0, 2), (2, 1), (3, 1)]) (cs := [_, _, _, _]) (by kernel_rfl) (by kernel_rfl) rfl rfl)) ?_
    refine Dh 24 33554431 rfl (by kernel_rfl) (keep_sift (bs := [F,F,F,F,F,F,F]) (by kernel_rfl)) (h_boxM hs10.sat rfl rfl fun b11 M11 w11 hs11 hb11 e11 => ?_)
    replace hb := hs11.le _ _ hb
    replace hc := hc.mono hs11.le
    replace hk := hk.mono hs11.le
    replace hb2 := hs11.le _ _ hb2
    replace hc2 := hc2.mono hs11.le
    replace hk2 := hk2.mono hs11.le
    replace hoh := hoh.then hs11
    replace hoo := hoo.then hs11
    replace hor := hor.then hs11
    replace hn := hn.mono hs11.le
    replace hT := hT.then hs11
    have hz11 := hs11.size
    refine ⟨(by repeat' first | exact trivial | exact BlkR.cell (hs11.sat _ _ _ hb) rfl | exact BlkR.cells (hs11.sat _ _ _ hb) rfl | exact BlkR.cell (hs11.sat _ _ _ hb2) rfl | exact BlkR.cells (hs11.sat _ _ _ hb2) rfl | exact Blk.cell hoh.1 rfl | exact Blk.cells hoh.1 rfl | exact Blk.cell hoo.1 rfl | exact Blk.cells hoo.1 rfl | exact Blk.cell hor.1 rfl | exact Blk.cells hor.1 rfl | exact BlkR.cell (hs11.sat _ _ _ hb11) rfl | exact BlkR.cells (hs11.sat _ _ _ hb11) rfl | assumption | refine all_keep ?_ | refine And.intro ?_ ?_), ?_⟩
    refine Dq 25 67108863 rfl (by kernel_rfl) (fun _ => (q_build (zs := [(.pointer none)]) (places := [(0, 1)]) (cs := [_]) (by kernel_rfl) (by kernel_rfl) rfl rfl)) ?_
    refine Dh0 26 134217727 rfl (by kernel_rfl) (keep_sift (bs := [T,T,T,T,T,T,T]) (by kernel_rfl)) (h_store hs11.sat hor rfl rfl rfl (by kernel_rfl) rfl rfl rfl fun w12 hs12 hn12 => ?_)
    replace hb := hs12.le _ _ hb
    replace hc := hc.mono hs12.le
    replace hk := hk.mono hs12.le
    replace hb2 := hs12.le _ _ hb2
    replace hc2 := hc2.mono hs12.le
    replace hk2 := hk2.mono hs12.le
    replace hoh := hoh.step hs12 (fun h => by have h : _ = _ := h; omega)
    replace hoo := hoo.step hs12 (fun h => by have h : _ = _ := h; omega)
    replace hn := hn.mono hs12.le
    replace hb11 := hs12.le _ _ hb11
    clear hor; have hor := hn12; clear hn12
    replace hT := hT.own hs12 (by omega)
    have hz12 := hs12.size
    refine ⟨trivial, ?_⟩
    refine Dd (by kernel_rfl) (κ _ _ ?_)
    refine cw_ret ?_
    refine ⟨_, (res_cell rfl (loadVar_n (n := 1) (by kernel_rfl) (by exact Blk.cells hor.1 rfl)) res_nil), _, _, rfl, hT, ?_⟩
    rw [Pr.meld, if_pos hc2_]
    exact prep_node.2 ⟨_, _, _, rfl, hb11.trans (cell4 (by simp only [Pr.sizes, Pr.size]; omega)), hn, preps_cons.2 ⟨by simp, _, _, rfl, (prep_node.2 ⟨_, _, _, rfl, hb, hc, hk⟩), hk2⟩⟩
  · skip
    have hc2_ := hC2
    refine cw_skip ?_
    refine hK5 _ _ ?_
    refine cw_rs fun _ κ => ?_
    refine Sm rfl rfl ?_
    refine as_h rfl (h_call (by kernel_rfl) rfl ?_)
    refine (m_made hs5.sat).mono ?_
    rintro _ w13 hs13
    replace hb := hs13.le _ _ hb
    replace hc := hc.mono hs13.le
    replace hk := hk.mono hs13.le
    replace hb2 := hs13.le _ _ hb2
    replace hc2 := hc2.mono hs13.le
    replace hk2 := hk2.mono hs13.le
    replace hoh := hoh.then hs13
    replace hoo := hoo.then hs13
    replace hor := hor.then hs13
    replace hT := hT.then hs13
    have hz13 := hs13.size
    refine as_nil (κ _ _ ?_)
    refine cw_dr (by kernel_rfl) fun _ κ => ?_
    have hs14 := Step.drew hs13.sat
    have hz14 := hs14.size
    replace hb := hs14.le _ _ hb
    replace hc := hc.mono hs14.le
    replace hk := hk.mono hs14.le
    replace hb2 := hs14.le _ _ hb2
    replace hc2 := hc2.mono hs14.le
    replace hk2 := hk2.mono hs14.le
    replace hoh := hoh.then hs14
    replace hoo := hoo.then hs14
    replace hor := hor.then hs14
    replace hT := hT.then hs14
    refine Df 0 1 0 rfl (by kernel_rfl) (by kernel_rfl) rfl ?_
    refine Dl1 1 3 rfl (by kernel_rfl) (by kernel_rfl) rfl (by exact Blk.cell hoh.1 rfl) ?_
    refine Dq 2 7 rfl (by kernel_rfl) (fun _ => (q_nilp rfl)) ?_
    refine Df 3 15 0 rfl (by kernel_rfl) (by kernel_rfl) rfl ?_
    refine Dlc 4 31 2 rfl (by kernel_rfl) (by kernel_rfl) rfl (by exact BlkR.cells (hs14.sat _ _ _ hb) rfl) ?_
    refine Df 5 63 0 rfl (by kernel_rfl) (by kernel_rfl) rfl ?_
    refine Dl1 6 127 rfl (by kernel_rfl) (by kernel_rfl) rfl (by exact Blk.cell hoh.1 rfl) ?_
    refine Dq 7 255 rfl (by kernel_rfl) (fun _ => (q_nilp rfl)) ?_
    refine Df 8 511 2 rfl (by kernel_rfl) (by kernel_rfl) rfl ?_
    refine Dlc 9 1023 1 rfl (by kernel_rfl) (by kernel_rfl) rfl (by exact BlkR.cells (hs14.sat _ _ _ hb) rfl) ?_
    refine Dlc 10 2047 1 rfl (by kernel_rfl) (by kernel_rfl) rfl (by exact Blk.cells hoo.1 rfl) ?_
    refine Df 12 6143 0 rfl (by kernel_rfl) (by kernel_rfl) rfl ?_
    refine Dl1 13 14335 rfl (by kernel_rfl) (by kernel_rfl) rfl (by exact Blk.cell hoh.1 rfl) ?_
    refine Dq 14 30719 rfl (by kernel_rfl) (fun _ => (q_nilp rfl)) ?_
    refine Df 15 63487 3 rfl (by kernel_rfl) (by kernel_rfl) rfl ?_
    refine Dl1 16 129023 rfl (by kernel_rfl) (by kernel_rfl) rfl (by exact BlkR.cell (hs14.sat _ _ _ hb) rfl) ?_
    refine Df 17 260095 0 rfl (by kernel_rfl) (by kernel_rfl) rfl ?_
    refine Dl1 18 522239 rfl (by kernel_rfl) (by kernel_rfl) rfl (by exact Blk.cell hoo.1 rfl) ?_
    refine Dq 19 1046527 rfl (by kernel_rfl) (fun _ => (q_nilp rfl)) ?_
    refine Df 20 2095103 3 rfl (by kernel_rfl) (by kernel_rfl) rfl ?_
    refine Dl1 21 4192255 rfl (by kernel_rfl) (by kernel_rfl) rfl (by exact BlkR.cell (hs14.sat _ _ _ hb2) rfl) ?_
    refine Dq 22 8386559 rfl (by kernel_rfl) (fun _ => (q_addx rfl rfl (by omega) (by omega))) ?_
    refine Dh 11 8388607 rfl (by kernel_rfl) (keep_sift (bs := [F,F,F,F,T,T,F,F,F]) (by kernel_rfl)) (h_call (by kernel_rfl) rfl ?_)
    refine (cp_push hs14.sat hc (by have := hk.small; simp only [Pr.size] at hz; omega)).mono ?_
    rintro _ w15 ⟨qn, Mn, rfl, hs15, hn⟩
    replace hb := hs15.le _ _ hb
    replace hk := hk.mono hs15.le
    replace hb2 := hs15.le _ _ hb2
    replace hc2 := hc2.mono hs15.le
    replace hk2 := hk2.mono hs15.le
    replace hoh := hoh.then hs15
    replace hoo := hoo.then hs15
    replace hor := hor.then hs15
    replace hT := hT.then hs15
    have hz15 := hs15.size
    refine ⟨(by repeat' first | exact trivial | exact BlkR.cell (hs15.sat _ _ _ hb) rfl | exact BlkR.cells (hs15.sat _ _ _ hb) rfl | exact BlkR.cell (hs15.sat _ _ _ hb2) rfl | exact BlkR.cells (hs15.sat _ _ _ hb2) rfl | exact Blk.cell hoh.1 rfl | exact Blk.cells hoh.1 rfl | exact Blk.cell hoo.1 rfl | exact Blk.cells hoo.1 rfl | exact Blk.cell hor.1 rfl | exact Blk.cells hor.1 rfl | assumption | refine all_keep ?_ | refine And.intro ?_ ?_), ?_⟩
    refine Dq 23 16777215 rfl (by kernel_rfl) (fun _ => (q_build (zs := [(.int .i64 0), (.int .i64 0), (.pointer none), (.int .i64 0)]) (places := [(0, 2), (2, 1), (3, 1)]) (cs := [_, _, _, _]) (by kernel_rfl) (by kernel_rfl) rfl rfl)) ?_
    refine Dh 24 33554431 rfl (by kernel_rfl) (keep_sift (bs := [F,F,F,F,F,F,F]) (by kernel_rfl)) (h_boxM hs15.sat rfl rfl fun b16 M16 w16 hs16 hb16 e16 => ?_)
    replace hb := hs16.le _ _ hb
    replace hk := hk.mono hs16.le
    replace hb2 := hs16.le _ _ hb2
    replace hc2 := hc2.mono hs16.le
    replace hk2 := hk2.mono hs16.le
    replace hoh := hoh.then hs16
    replace hoo := hoo.then hs16
    replace hor := hor.then hs16
    replace hn := hn.mono hs16.le
    replace hT := hT.then hs16
    have hz16 := hs16.size
    refine ⟨(by repeat' first | exact trivial | exact BlkR.cell (hs16.sat _ _ _ hb) rfl | exact BlkR.cells (hs16.sat _ _ _ hb) rfl | exact BlkR.cell (hs16.sat _ _ _ hb2) rfl | exact BlkR.cells (hs16.sat _ _ _ hb2) rfl | exact Blk.cell hoh.1 rfl | exact Blk.cells hoh.1 rfl | exact Blk.cell hoo.1 rfl | exact Blk.cells hoo.1 rfl | exact Blk.cell hor.1 rfl | exact Blk.cells hor.1 rfl | exact BlkR.cell (hs16.sat _ _ _ hb16) rfl | exact BlkR.cells (hs16.sat _ _ _ hb16) rfl | assumption | refine all_keep ?_ | refine And.intro ?_ ?_), ?_⟩
    refine Dq 25 67108863 rfl (by kernel_rfl) (fun _ => (q_build (zs := [(.pointer none)]) (places := [(0, 1)]) (cs := [_]) (by kernel_rfl) (by kernel_rfl) rfl rfl)) ?_
    refine Dh0 26 134217727 rfl (by kernel_rfl) (keep_sift (bs := [T,T,T,T,T,T,T]) (by kernel_rfl)) (h_store hs16.sat hor rfl rfl rfl (by kernel_rfl) rfl rfl rfl fun w17 hs17 hn17 => ?_)
    replace hk := hk.mono hs17.le
    replace hb2 := hs17.le _ _ hb2
    replace hc2 := hc2.mono hs17.le
    replace hk2 := hk2.mono hs17.le
    replace hn := hn.mono hs17.le
    replace hb16 := hs17.le _ _ hb16
    clear hor; have hor := hn17; clear hn17
    replace hT := hT.own hs17 (by omega)
    have hz17 := hs17.size
    refine ⟨trivial, ?_⟩
    refine Dd (by kernel_rfl) (κ _ _ ?_)
    refine cw_ret ?_
    refine ⟨_, (res_cell rfl (loadVar_n (n := 1) (by kernel_rfl) (by exact Blk.cells hor.1 rfl)) res_nil), _, _, rfl, hT, ?_⟩
    rw [Pr.meld, if_neg (by rw [hc2_]; decide)]
    exact prep_node.2 ⟨_, _, _, rfl, hb16.trans (cell4 (by simp only [Pr.sizes, Pr.size]; omega)), hn, preps_cons.2 ⟨by simp, _, _, rfl, (prep_node.2 ⟨_, _, _, rfl, hb2, hc2, hk2⟩), hk⟩⟩
theorem p_meld {w : World} {M : Mem} {t o : Pr} {q q2 : Option Addr} (hs : Sat M w) (h : PRep 251 260 M t q) (h2 : PRep 251 260 M o q2) (hz : t.size + o.size ≤ 1000000000) :
    Does Tryz.prog 162 #[.agg #[.pointer q], .pointer none, .agg #[.pointer q2]] w (fun v w' => ∃ q M', v = .agg #[.pointer q] ∧ Step Nope M w M' w' ∧ PRep 251 260 M' (t.meld o) q) := by
  cases t with
  | nil => obtain rfl := prep_nil.1 h; rw [show Pr.nil.meld o = o from rfl]; exact p_meld_a hs h2
  | node x ks =>
    cases o with
    | nil =>
      obtain rfl := prep_nil.1 h2
      obtain ⟨b, _, _, rfl, _⟩ := prep_node.1 h
      exact p_meld_b hs h
    | node y ls => exact p_meld_c hs h h2 hz
theorem p_insert {w : World} {M : Mem} {x : El} {t : Pr} {q : Option Addr} (hs : Sat M w) (h : PRep 251 260 M t q) (hz : t.size < 1000000000) :
    Does Tryz.prog 161 #[.agg #[.pointer q], .pointer none, .agg (elc x).toArray] w (fun v w' => ∃ q M', v = .agg #[.pointer q] ∧ Step Nope M w M' w' ∧ PRep 251 260 M' (t.insert x) q) := by
  have hT := Step.refl Nope hs
  refine fn_enter Tryz.func161 rfl (rs := [.cell 6 79]) rfl rfl rfl rfl ?_
  refine cw_rs fun _ κ => ?_
  refine as_h rfl (h_boxM hs rfl rfl fun b1 M1 w1 hs1 hb1 e1 => ?_)
  replace h := h.mono hs1.le
  replace hT := hT.then hs1
  have hz1 := hs1.size
  refine as_h rfl (h_boxM hs1.sat rfl rfl fun b2 M2 w2 hs2 hb2 e2 => ?_)
  replace h := h.mono hs2.le
  replace hb1 := hs2.le _ _ hb1
  replace hT := hT.then hs2
  have hz2 := hs2.size
  have hqar := hT.size
  refine as_h rfl (h_allocO (z := (.agg #[(.pointer none)])) hs2.sat (by kernel_rfl) rfl fun br w3 hs3 hor er => ?_)
  replace h := h.mono hs3.le
  replace hb1 := hs3.le _ _ hb1
  replace hb2 := hs3.le _ _ hb2
  replace hT := hT.then hs3
  have hz3 := hs3.size
  have hlr := hor.1.lt
  refine as_nil (κ _ _ ?_)
  refine cw_rs fun _ κ => ?_
  refine Sm rfl rfl ?_
  refine as_h rfl (h_call (by kernel_rfl) rfl ?_)
  refine (m_made hs3.sat).mono ?_
  rintro _ w4 hs4
  replace h := h.mono hs4.le
  replace hb1 := hs4.le _ _ hb1
  replace hb2 := hs4.le _ _ hb2
  replace hor := hor.then hs4
  replace hT := hT.then hs4
  have hz4 := hs4.size
  refine as_nil (κ _ _ ?_)
  refine cw_rs fun _ κ => ?_
  refine Sc 2 rfl (by kernel_rfl) rfl (by exact BlkR.cells (hs4.sat _ _ _ hb2) rfl) ?_
  refine as_q rfl rfl (q_build (zs := [(.int .i64 0), (.int .i64 0), (.pointer none), (.int .i64 0)]) (places := [(0, 2), (2, 1), (3, 1)]) (cs := [_, _, _, _]) (by kernel_rfl) (by kernel_rfl) rfl rfl) ?_
  refine as_h rfl (h_boxM hs4.sat rfl rfl fun b5 M5 w5 hs5 hb5 e5 => ?_)
  replace h := h.mono hs5.le
  replace hb1 := hs5.le _ _ hb1
  replace hor := hor.then hs5
  replace hT := hT.then hs5
  have hz5 := hs5.size
  refine as_q rfl rfl (q_build (zs := [(.pointer none)]) (places := [(0, 1)]) (cs := [_]) (by kernel_rfl) (by kernel_rfl) rfl rfl) ?_
  refine Sm rfl rfl ?_
  refine Sc 1 rfl (by kernel_rfl) rfl (by exact BlkR.cells (hs5.sat _ _ _ hb1) rfl) ?_
  refine as_h rfl (h_call (by kernel_rfl) rfl ?_)
  refine (p_meld (t := .node x []) hs5.sat (prep_node.2 ⟨_, none, [], rfl, hb5, rfl, preps_nil.2 rfl⟩) h (by simp only [Pr.size, Pr.sizes]; omega)).mono ?_
  rintro _ w6 ⟨qn, Mn, rfl, hs6, hn⟩
  replace h := h.mono hs6.le
  replace hor := hor.then hs6
  replace hT := hT.then hs6
  have hz6 := hs6.size
  refine as_h0 (h_store hs6.sat hor rfl rfl rfl (by kernel_rfl) rfl rfl rfl fun w7 hs7 hn7 => ?_)
  replace h := h.mono hs7.le
  replace hn := hn.mono hs7.le
  clear hor; have hor := hn7; clear hn7
  replace hT := hT.own hs7 (by omega)
  have hz7 := hs7.size
  refine as_nil (κ _ _ ?_)
  refine cw_ret ?_
  exact ⟨_, (res_cell rfl (loadVar_n (n := 1) (by kernel_rfl) (by exact Blk.cells hor.1 rfl)) res_nil), _, _, rfl, hT, hn⟩
end Go.Proofs.YtgcgjpfjjgalmaaGreat
/- Heaps of the kinds, as heaps of any kind, part 1. -/
namespace Go.Proofs.YtgcgjpfjjgalmaaGreat
open Go Go.Eng
theorem wa_insert {w : World} {M : Mem} {x : El} {t : Lft} {q : Option Addr} (hs : Sat M w) (h : LRep 171 M t (.pointer q)) (hz : t.size < 1000000000) :
    Does Tryz.prog 90 #[.agg #[.pointer q], .pointer none, .agg (elc x).toArray] w (fun v w' => ∃ q M', v = .iface 69 (.agg #[.pointer q]) ∧ Step Nope M w M' w' ∧ LRep 171 M' (Lft.insert x t) (.pointer q)) := by
  have hT := Step.refl Nope hs
  refine fn_enter Tryz.func90 rfl (rs := [.tmp 6]) rfl rfl rfl rfl ?_
  refine cw_rs fun _ κ => ?_
  refine as_h rfl (h_boxM hs rfl rfl fun b1 M1 w1 hs1 hb1 e1 => ?_)
  replace h := h.mono hs1.le
  replace hT := hT.then hs1
  refine as_h rfl (h_boxM hs1.sat rfl rfl fun b2 M2 w2 hs2 hb2 e2 => ?_)
  replace h := h.mono hs2.le
  replace hb1 := hs2.le _ _ hb1
  replace hT := hT.then hs2
  refine Sa rfl rfl ?_
  refine as_nil (κ _ _ ?_)
  refine cw_rs fun _ κ => ?_
  refine Sf 0 rfl (by kernel_rfl) rfl ?_
  refine Sc 1 rfl (by kernel_rfl) rfl (by exact BlkR.cells (hs2.sat _ _ _ hb1) rfl) ?_
  refine as_q rfl rfl (q_iface (by kernel_rfl) rfl) ?_
  refine Sm rfl rfl ?_
  refine Sc 2 rfl (by kernel_rfl) rfl (by exact BlkR.cells (hs2.sat _ _ _ hb2) rfl) ?_
  refine as_h rfl (h_invoke (f := 278) (r := .agg #[.pointer q]) (by kernel_rfl) rfl rfl (by kernel_rfl) ?_)
  refine (l_insert (x := x) hs2.sat h hz).mono ?_
  rintro _ w3 ⟨pn, Mn, rfl, hs3, hn⟩
  obtain ⟨qn, rfl⟩ := hn.ptr
  replace h := h.mono hs3.le
  replace hT := hT.then hs3
  refine as_q rfl rfl (q_build (zs := [(.pointer none)]) (places := [(0, 1)]) (cs := [_]) (by kernel_rfl) (by kernel_rfl) rfl rfl) ?_
  refine as_q rfl rfl (q_iface (by kernel_rfl) rfl) ?_
  refine Sa rfl rfl ?_
  refine as_nil (κ _ _ ?_)
  refine cw_ret ?_
  exact ⟨_, (res_tmp rfl res_nil), _, _, rfl, hT, hn⟩
theorem wa_meld {w : World} {M : Mem} {t u : Lft} {q q2 : Option Addr} (hs : Sat M w) (h : LRep 171 M t (.pointer q)) (h2 : LRep 171 M u (.pointer q2)) (hz : t.size + u.size ≤ 1000000000) :
    Does Tryz.prog 91 #[.agg #[.pointer q], .pointer none, .iface 69 (.agg #[.pointer q2])] w (fun v w' => ∃ q M', v = .iface 69 (.agg #[.pointer q]) ∧ Step Nope M w M' w' ∧ LRep 171 M' (t.meld u) (.pointer q)) := by
  have hT := Step.refl Nope hs
  refine fn_enter Tryz.func91 rfl (rs := [.tmp 6]) rfl rfl rfl rfl ?_
  refine cw_rs fun _ κ => ?_
  refine as_h rfl (h_boxM hs rfl rfl fun b1 M1 w1 hs1 hb1 e1 => ?_)
  replace h := h.mono hs1.le
  replace h2 := h2.mono hs1.le
  replace hT := hT.then hs1
  have hz1 := hs1.size
  refine Sa rfl rfl ?_
  refine as_nil (κ _ _ ?_)
  refine cw_rs fun _ κ => ?_
  refine Sm rfl rfl ?_
  refine as_q rfl rfl (q_isT (by kernel_rfl) rfl) ?_
  refine Sm rfl rfl ?_
  refine Se rfl rfl rfl ?_
  refine Se rfl rfl rfl ?_
  have hqao := hT.size
  refine as_h rfl (h_allocO (z := (.agg #[(.pointer none)])) hs1.sat (by kernel_rfl) rfl fun bo w2 hs2 hoo eo => ?_)
  replace h := h.mono hs2.le
  replace h2 := h2.mono hs2.le
  replace hb1 := hs2.le _ _ hb1
  replace hT := hT.then hs2
  have hz2 := hs2.size
  have hlo := hoo.1.lt
  refine as_h0 (h_store hs2.sat hoo rfl rfl rfl (by kernel_rfl) rfl rfl rfl fun w3 hs3 hn3 => ?_)
  replace h := h.mono hs3.le
  replace h2 := h2.mono hs3.le
  replace hb1 := hs3.le _ _ hb1
  clear hoo; have hoo := hn3; clear hn3
  replace hT := hT.own hs3 (by omega)
  have hz3 := hs3.size
  refine Sa rfl rfl ?_
  refine as_nil (κ _ _ ?_)
  refine cw_seq fun _ hK3 => ?_
  refine cw_rs fun _ κ => ?_
  refine Sm rfl rfl ?_
  refine as_q rfl rfl (q_not rfl) ?_
  refine as_nil (κ _ _ ?_)
  refine cw_false rfl ?_
  refine cw_skip ?_
  refine hK3 _ _ ?_
  refine cw_rs fun _ κ => ?_
  refine Sf 0 rfl (by kernel_rfl) rfl ?_
  refine Sc 1 rfl (by kernel_rfl) rfl (by exact BlkR.cells (hs3.sat _ _ _ hb1) rfl) ?_
  refine as_q rfl rfl (q_iface (by kernel_rfl) rfl) ?_
  refine Sm rfl rfl ?_
  refine Sf 0 rfl (by kernel_rfl) rfl ?_
  refine Sc 1 rfl (by kernel_rfl) rfl (by exact Blk.cells hoo.1 rfl) ?_
  refine as_h rfl (h_invoke (f := 279) (r := .agg #[.pointer q]) (by kernel_rfl) rfl rfl (by kernel_rfl) ?_)
  refine (l_meld hs3.sat h h2 hz).mono ?_
  rintro _ w4 ⟨pn, Mn, rfl, hs4, hn⟩
  obtain ⟨qn, rfl⟩ := hn.ptr
  replace h := h.mono hs4.le
  replace hT := hT.then hs4
  have hz4 := hs4.size
  refine as_q rfl rfl (q_build (zs := [(.pointer none)]) (places := [(0, 1)]) (cs := [_]) (by kernel_rfl) (by kernel_rfl) rfl rfl) ?_
  refine as_q rfl rfl (q_iface (by kernel_rfl) rfl) ?_
  refine Sa rfl rfl ?_
  refine as_nil (κ _ _ ?_)
  refine cw_ret ?_
  exact ⟨_, (res_tmp rfl res_nil), _, _, rfl, hT, hn⟩
theorem wa_size {w : World} {M : Mem} {t : Lft} {q : Option Addr} (hs : Sat M w) (h : LRep 171 M t (.pointer q)) :
    Does Tryz.prog 95 #[.agg #[.pointer q]] w (fun v w' => v = .int .i64 (t.size : Nat) ∧ Step Nope M w M w') := by
  have hT := Step.refl Nope hs
  refine fn_enter Tryz.func95 rfl (rs := [.tmp 2]) rfl rfl rfl rfl ?_
  refine cw_rs fun _ κ => ?_
  refine as_h rfl (h_boxM hs rfl rfl fun b1 M1 w1 hs1 hb1 e1 => ?_)
  replace h := h.mono hs1.le
  replace hT := hT.then hs1
  refine Sa rfl rfl ?_
  refine as_nil (κ _ _ ?_)
  refine cw_rs fun _ κ => ?_
  refine Sf 0 rfl (by kernel_rfl) rfl ?_
  refine Sc 1 rfl (by kernel_rfl) rfl (by exact BlkR.cells (hs1.sat _ _ _ hb1) rfl) ?_
  refine as_q rfl rfl (q_iface (by kernel_rfl) rfl) ?_
  refine as_h rfl (h_invoke (f := 282) (r := .agg #[.pointer q]) (by kernel_rfl) rfl rfl (by kernel_rfl) ?_)
  refine (l_size hs1.sat h).mono ?_
  rintro _ w2 ⟨rfl, hs2⟩
  replace h := h.mono hs2.le
  replace hT := hT.then hs2
  refine Sa rfl rfl ?_
  refine as_nil (κ _ _ ?_)
  refine cw_ret ?_
  exact ⟨_, (res_tmp rfl res_nil), rfl, hT.forget⟩
theorem wa_min {w : World} {M : Mem} {x : El} {l r : Lft} {q : Option Addr} (hs : Sat M w) (h : LRep 171 M (Lft.node x l r) (.pointer q)) :
    Does Tryz.prog 92 #[.agg #[.pointer q], .pointer none] w (fun v w' => v = .tuple #[.agg (elc x).toArray, .bool true] ∧ Step Nope M w M w') := by
  have hT := Step.refl Nope hs
  refine fn_enter Tryz.func92 rfl (rs := [.cell 4 24, .tmp 5]) rfl rfl rfl rfl ?_
  refine cw_rs fun _ κ => ?_
  refine as_h rfl (h_boxM hs rfl rfl fun b1 M1 w1 hs1 hb1 e1 => ?_)
  replace h := h.mono hs1.le
  replace hT := hT.then hs1
  have hz1 := hs1.size
  have hqar := hT.size
  refine as_h rfl (h_allocO (z := (.agg #[(.int .i64 0), (.int .i64 0)])) hs1.sat (by kernel_rfl) rfl fun br w2 hs2 hor er => ?_)
  replace h := h.mono hs2.le
  replace hb1 := hs2.le _ _ hb1
  replace hT := hT.then hs2
  have hz2 := hs2.size
  have hlr := hor.1.lt
  refine Sa rfl rfl ?_
  refine as_nil (κ _ _ ?_)
  refine cw_rs fun _ κ => ?_
  refine Sf 0 rfl (by kernel_rfl) rfl ?_
  refine Sc 1 rfl (by kernel_rfl) rfl (by exact BlkR.cells (hs2.sat _ _ _ hb1) rfl) ?_
  refine as_q rfl rfl (q_iface (by kernel_rfl) rfl) ?_
  refine Sm rfl rfl ?_
  refine as_h rfl (h_invoke (f := 280) (r := .agg #[.pointer q]) (by kernel_rfl) rfl rfl (by kernel_rfl) ?_)
  refine (l_min hs2.sat h).mono ?_
  rintro _ w3 ⟨rfl, hs3⟩
  replace h := h.mono hs3.le
  replace hor := hor.then hs3
  replace hT := hT.then hs3
  have hz3 := hs3.size
  refine Se rfl rfl rfl ?_
  refine Se rfl rfl rfl ?_
  refine as_h0 (h_store hs3.sat hor rfl rfl rfl (by kernel_rfl) rfl rfl rfl fun w4 hs4 hn4 => ?_)
  replace h := h.mono hs4.le
  clear hor; have hor := hn4; clear hn4
  replace hT := hT.own hs4 (by omega)
  have hz4 := hs4.size
  refine Sa rfl rfl ?_
  refine as_nil (κ _ _ ?_)
  refine cw_ret ?_
  exact ⟨_, (res_cell rfl (loadVar_n (n := 2) (by kernel_rfl) (by exact Blk.cells hor.1 rfl)) (res_tmp rfl res_nil)), rfl, hT.forget⟩
theorem wb_insert {w : World} {M : Mem} {x : El} {t : List (RT El)} {q : Option Addr} (hs : Sat M w) (h : FRep 197 220 2 EncE M t q) (hz : RT.sizes t < 1000000000) :
    Does Tryz.prog 155 #[.agg #[.pointer q], .pointer none, .agg (elc x).toArray] w (fun v w' => ∃ q M', v = .iface 76 (.agg #[.pointer q]) ∧ Step Nope M w M' w' ∧ FRep 197 220 2 EncE M' (bput ltE (RT.leaf x) t) q) := by
  have hT := Step.refl Nope hs
  refine fn_enter Tryz.func155 rfl (rs := [.tmp 6]) rfl rfl rfl rfl ?_
  refine cw_rs fun _ κ => ?_
  refine as_h rfl (h_boxM hs rfl rfl fun b1 M1 w1 hs1 hb1 e1 => ?_)
  replace h := h.mono' EncE.mono hs1.le
  replace hT := hT.then hs1
  refine as_h rfl (h_boxM hs1.sat rfl rfl fun b2 M2 w2 hs2 hb2 e2 => ?_)
  replace h := h.mono' EncE.mono hs2.le
  replace hb1 := hs2.le _ _ hb1
  replace hT := hT.then hs2
  refine Sa rfl rfl ?_
  refine as_nil (κ _ _ ?_)
  refine cw_rs fun _ κ => ?_
  refine Sf 0 rfl (by kernel_rfl) rfl ?_
  refine Sc 1 rfl (by kernel_rfl) rfl (by exact BlkR.cells (hs2.sat _ _ _ hb1) rfl) ?_
  refine as_q rfl rfl (q_iface (by kernel_rfl) rfl) ?_
  refine Sm rfl rfl ?_
  refine Sc 2 rfl (by kernel_rfl) rfl (by exact BlkR.cells (hs2.sat _ _ _ hb2) rfl) ?_
  refine as_h rfl (h_invoke (f := 111) (r := .agg #[.pointer q]) (by kernel_rfl) rfl rfl (by kernel_rfl) ?_)
  refine (b_insert (x := x) hs2.sat h hz).mono ?_
  rintro _ w3 ⟨qn, Mn, rfl, hs3, hn⟩
  replace h := h.mono' EncE.mono hs3.le
  replace hT := hT.then hs3
  refine as_q rfl rfl (q_build (zs := [(.pointer none)]) (places := [(0, 1)]) (cs := [_]) (by kernel_rfl) (by kernel_rfl) rfl rfl) ?_
  refine as_q rfl rfl (q_iface (by kernel_rfl) rfl) ?_
  refine Sa rfl rfl ?_
  refine as_nil (κ _ _ ?_)
  refine cw_ret ?_
  exact ⟨_, (res_tmp rfl res_nil), _, _, rfl, hT, hn⟩
theorem wb_meld {w : World} {M : Mem} {t u : List (RT El)} {q q2 : Option Addr} (hs : Sat M w) (h : FRep 197 220 2 EncE M t q) (h2 : FRep 197 220 2 EncE M u q2) (hz : RT.sizes t + RT.sizes u ≤ 1000000000) :
    Does Tryz.prog 156 #[.agg #[.pointer q], .pointer none, .iface 76 (.agg #[.pointer q2])] w (fun v w' => ∃ q M', v = .iface 76 (.agg #[.pointer q]) ∧ Step Nope M w M' w' ∧ FRep 197 220 2 EncE M' (bmeld ltE t u) q) := by
  have hT := Step.refl Nope hs
  refine fn_enter Tryz.func156 rfl (rs := [.tmp 6]) rfl rfl rfl rfl ?_
  refine cw_rs fun _ κ => ?_
  refine as_h rfl (h_boxM hs rfl rfl fun b1 M1 w1 hs1 hb1 e1 => ?_)
  replace h := h.mono' EncE.mono hs1.le
  replace h2 := h2.mono' EncE.mono hs1.le
  replace hT := hT.then hs1
  have hz1 := hs1.size
  refine Sa rfl rfl ?_
  refine as_nil (κ _ _ ?_)
  refine cw_rs fun _ κ => ?_
  refine Sm rfl rfl ?_
  refine as_q rfl rfl (q_isT (by kernel_rfl) rfl) ?_
  refine Sm rfl rfl ?_
  refine Se rfl rfl rfl ?_
  refine Se rfl rfl rfl ?_
  have hqao := hT.size
  refine as_h rfl (h_allocO (z := (.agg #[(.pointer none)])) hs1.sat (by kernel_rfl) rfl fun bo w2 hs2 hoo eo => ?_)
  replace h := h.mono' EncE.mono hs2.le
  replace h2 := h2.mono' EncE.mono hs2.le
  replace hb1 := hs2.le _ _ hb1
  replace hT := hT.then hs2
  have hz2 := hs2.size
  have hlo := hoo.1.lt
  refine as_h0 (h_store hs2.sat hoo rfl rfl rfl (by kernel_rfl) rfl rfl rfl fun w3 hs3 hn3 => ?_)
  replace h := h.mono' EncE.mono hs3.le
  replace h2 := h2.mono' EncE.mono hs3.le
  replace hb1 := hs3.le _ _ hb1
  clear hoo; have hoo := hn3; clear hn3
  replace hT := hT.own hs3 (by omega)
  have hz3 := hs3.size
  refine Sa rfl rfl ?_
  refine as_nil (κ _ _ ?_)
  refine cw_seq fun _ hK3 => ?_
  refine cw_rs fun _ κ => ?_
  refine Sm rfl rfl ?_
  refine as_q rfl rfl (q_not rfl) ?_
  refine as_nil (κ _ _ ?_)
  refine cw_false rfl ?_
  refine cw_skip ?_
  refine hK3 _ _ ?_
  refine cw_rs fun _ κ => ?_
  refine Sf 0 rfl (by kernel_rfl) rfl ?_
  refine Sc 1 rfl (by kernel_rfl) rfl (by exact BlkR.cells (hs3.sat _ _ _ hb1) rfl) ?_
  refine as_q rfl rfl (q_iface (by kernel_rfl) rfl) ?_
  refine Sm rfl rfl ?_
  refine Sf 0 rfl (by kernel_rfl) rfl ?_
  refine Sc 1 rfl (by kernel_rfl) rfl (by exact Blk.cells hoo.1 rfl) ?_
  refine as_h rfl (h_invoke (f := 112) (r := .agg #[.pointer q]) (by kernel_rfl) rfl rfl (by kernel_rfl) ?_)
  refine (b_meld hs3.sat h h2 hz).mono ?_
  rintro _ w4 ⟨qn, Mn, rfl, hs4, hn⟩
  replace h := h.mono' EncE.mono hs4.le
  replace hT := hT.then hs4
  have hz4 := hs4.size
  refine as_q rfl rfl (q_build (zs := [(.pointer none)]) (places := [(0, 1)]) (cs := [_]) (by kernel_rfl) (by kernel_rfl) rfl rfl) ?_
  refine as_q rfl rfl (q_iface (by kernel_rfl) rfl) ?_
  refine Sa rfl rfl ?_
  refine as_nil (κ _ _ ?_)
  refine cw_ret ?_
  exact ⟨_, (res_tmp rfl res_nil), _, _, rfl, hT, hn⟩
theorem wb_size {w : World} {M : Mem} {t : List (RT El)} {q : Option Addr} (hs : Sat M w) (h : FRep 197 220 2 EncE M t q) (hz : RT.sizes t ≤ 1000000000) :
    Does Tryz.prog 160 #[.agg #[.pointer q]] w (fun v w' => v = .int .i64 (RT.sizes t : Nat) ∧ Step Nope M w M w') := by
  have hT := Step.refl Nope hs
  refine fn_enter Tryz.func160 rfl (rs := [.tmp 2]) rfl rfl rfl rfl ?_
  refine cw_rs fun _ κ => ?_
  refine as_h rfl (h_boxM hs rfl rfl fun b1 M1 w1 hs1 hb1 e1 => ?_)
  replace h := h.mono' EncE.mono hs1.le
  replace hT := hT.then hs1
  refine Sa rfl rfl ?_
  refine as_nil (κ _ _ ?_)
  refine cw_rs fun _ κ => ?_
  refine Sf 0 rfl (by kernel_rfl) rfl ?_
  refine Sc 1 rfl (by kernel_rfl) rfl (by exact BlkR.cells (hs1.sat _ _ _ hb1) rfl) ?_
  refine as_q rfl rfl (q_iface (by kernel_rfl) rfl) ?_
  refine as_h rfl (h_invoke (f := 116) (r := .agg #[.pointer q]) (by kernel_rfl) rfl rfl (by kernel_rfl) ?_)
  refine (b_size hs1.sat h hz).mono ?_
  rintro _ w2 ⟨rfl, hs2⟩
  replace h := h.mono' EncE.mono hs2.le
  replace hT := hT.then hs2
  refine Sa rfl rfl ?_
  refine as_nil (κ _ _ ?_)
  refine cw_ret ?_
  exact ⟨_, (res_tmp rfl res_nil), rfl, hT.forget⟩
theorem wb_min {w : World} {M : Mem} {t : List (RT El)} {k : RT El} {q : Option Addr} (hs : Sat M w) (h : FRep 197 220 2 EncE M t q) (ht : t[leastN ltE (t.map RT.root) (t.length - 1)]? = some k) (hz : RT.sizes t ≤ 1000000000) :
    Does Tryz.prog 157 #[.agg #[.pointer q], .pointer none] w (fun v w' => v = .tuple #[.agg (elc k.root).toArray, .bool true] ∧ Step Nope M w M w') := by
  have hT := Step.refl Nope hs
  refine fn_enter Tryz.func157 rfl (rs := [.cell 4 24, .tmp 5]) rfl rfl rfl rfl ?_
  refine cw_rs fun _ κ => ?_
  refine as_h rfl (h_boxM hs rfl rfl fun b1 M1 w1 hs1 hb1 e1 => ?_)
  replace h := h.mono' EncE.mono hs1.le
  replace hT := hT.then hs1
  have hz1 := hs1.size
  have hqar := hT.size
  refine as_h rfl (h_allocO (z := (.agg #[(.int .i64 0), (.int .i64 0)])) hs1.sat (by kernel_rfl) rfl fun br w2 hs2 hor er => ?_)
  replace h := h.mono' EncE.mono hs2.le
  replace hb1 := hs2.le _ _ hb1
  replace hT := hT.then hs2
  have hz2 := hs2.size
  have hlr := hor.1.lt
  refine Sa rfl rfl ?_
  refine as_nil (κ _ _ ?_)
  refine cw_rs fun _ κ => ?_
  refine Sf 0 rfl (by kernel_rfl) rfl ?_
  refine Sc 1 rfl (by kernel_rfl) rfl (by exact BlkR.cells (hs2.sat _ _ _ hb1) rfl) ?_
  refine as_q rfl rfl (q_iface (by kernel_rfl) rfl) ?_
  refine Sm rfl rfl ?_
  refine as_h rfl (h_invoke (f := 113) (r := .agg #[.pointer q]) (by kernel_rfl) rfl rfl (by kernel_rfl) ?_)
  refine (b_min hs2.sat h ht hz).mono ?_
  rintro _ w3 ⟨rfl, hs3⟩
  replace h := h.mono' EncE.mono hs3.le
  replace hor := hor.then hs3
  replace hT := hT.then hs3
  have hz3 := hs3.size
  refine Se rfl rfl rfl ?_
  refine Se rfl rfl rfl ?_
  refine as_h0 (h_store hs3.sat hor rfl rfl rfl (by kernel_rfl) rfl rfl rfl fun w4 hs4 hn4 => ?_)
  replace h := h.mono' EncE.mono hs4.le
  clear hor; have hor := hn4; clear hn4
  replace hT := hT.own hs4 (by omega)
  have hz4 := hs4.size
  refine Sa rfl rfl ?_
  refine as_nil (κ _ _ ?_)
  refine cw_ret ?_
  exact ⟨_, (res_cell rfl (loadVar_n (n := 2) (by kernel_rfl) (by exact Blk.cells hor.1 rfl)) (res_tmp rfl res_nil)), rfl, hT.forget⟩
theorem wc_insert {w : World} {M : Mem} {x : El} {t : Pr} {q : Option Addr} (hs : Sat M w) (h : PRep 251 260 M t q) (hz : t.size < 1000000000) :
    Does Tryz.prog 176 #[.agg #[.pointer q], .pointer none, .agg (elc x).toArray] w (fun v w' => ∃ q M', v = .iface 81 (.agg #[.pointer q]) ∧ Step Nope M w M' w' ∧ PRep 251 260 M' (Pr.insert x t) q) := by
  have hT := Step.refl Nope hs
  refine fn_enter Tryz.func176 rfl (rs := [.tmp 6]) rfl rfl rfl rfl ?_
  refine cw_rs fun _ κ => ?_
  refine as_h rfl (h_boxM hs rfl rfl fun b1 M1 w1 hs1 hb1 e1 => ?_)
  replace h := h.mono hs1.le
  replace hT := hT.then hs1
  refine as_h rfl (h_boxM hs1.sat rfl rfl fun b2 M2 w2 hs2 hb2 e2 => ?_)
  replace h := h.mono hs2.le
  replace hb1 := hs2.le _ _ hb1
  replace hT := hT.then hs2
  refine Sa rfl rfl ?_
  refine as_nil (κ _ _ ?_)
  refine cw_rs fun _ κ => ?_
  refine Sf 0 rfl (by kernel_rfl) rfl ?_
  refine Sc 1 rfl (by kernel_rfl) rfl (by exact BlkR.cells (hs2.sat _ _ _ hb1) rfl) ?_
  refine as_q rfl rfl (q_iface (by kernel_rfl) rfl) ?_
  refine Sm rfl rfl ?_
  refine Sc 2 rfl (by kernel_rfl) rfl (by exact BlkR.cells (hs2.sat _ _ _ hb2) rfl) ?_
  refine as_h rfl (h_invoke (f := 161) (r := .agg #[.pointer q]) (by kernel_rfl) rfl rfl (by kernel_rfl) ?_)
  refine (p_insert (x := x) hs2.sat h hz).mono ?_
  rintro _ w3 ⟨qn, Mn, rfl, hs3, hn⟩
  replace h := h.mono hs3.le
  replace hT := hT.then hs3
  refine as_q rfl rfl (q_build (zs := [(.pointer none)]) (places := [(0, 1)]) (cs := [_]) (by kernel_rfl) (by kernel_rfl) rfl rfl) ?_
  refine as_q rfl rfl (q_iface (by kernel_rfl) rfl) ?_
  refine Sa rfl rfl ?_
  refine as_nil (κ _ _ ?_)
  refine cw_ret ?_
  exact ⟨_, (res_tmp rfl res_nil), _, _, rfl, hT, hn⟩
theorem wc_meld {w : World} {M : Mem} {t u : Pr} {q q2 : Option Addr} (hs : Sat M w) (h : PRep 251 260 M t q) (h2 : PRep 251 260 M u q2) (hz : t.size + u.size ≤ 1000000000) :
    Does Tryz.prog 177 #[.agg #[.pointer q], .pointer none, .iface 81 (.agg #[.pointer q2])] w (fun v w' => ∃ q M', v = .iface 81 (.agg #[.pointer q]) ∧ Step Nope M w M' w' ∧ PRep 251 260 M' (t.meld u) q) := by
  have hT := Step.refl Nope hs
  refine fn_enter Tryz.func177 rfl (rs := [.tmp 6]) rfl rfl rfl rfl ?_
  refine cw_rs fun _ κ => ?_
  refine as_h rfl (h_boxM hs rfl rfl fun b1 M1 w1 hs1 hb1 e1 => ?_)
  replace h := h.mono hs1.le
  replace h2 := h2.mono hs1.le
  replace hT := hT.then hs1
  have hz1 := hs1.size
  refine Sa rfl rfl ?_
  refine as_nil (κ _ _ ?_)
  refine cw_rs fun _ κ => ?_
  refine Sm rfl rfl ?_
  refine as_q rfl rfl (q_isT (by kernel_rfl) rfl) ?_
  refine Sm rfl rfl ?_
  refine Se rfl rfl rfl ?_
  refine Se rfl rfl rfl ?_
  have hqao := hT.size
  refine as_h rfl (h_allocO (z := (.agg #[(.pointer none)])) hs1.sat (by kernel_rfl) rfl fun bo w2 hs2 hoo eo => ?_)
  replace h := h.mono hs2.le
  replace h2 := h2.mono hs2.le
  replace hb1 := hs2.le _ _ hb1
  replace hT := hT.then hs2
  have hz2 := hs2.size
  have hlo := hoo.1.lt
  refine as_h0 (h_store hs2.sat hoo rfl rfl rfl (by kernel_rfl) rfl rfl rfl fun w3 hs3 hn3 => ?_)
  replace h := h.mono hs3.le
  replace h2 := h2.mono hs3.le
  replace hb1 := hs3.le _ _ hb1
  clear hoo; have hoo := hn3; clear hn3
  replace hT := hT.own hs3 (by omega)
  have hz3 := hs3.size
  refine Sa rfl rfl ?_
  refine as_nil (κ _ _ ?_)
  refine cw_seq fun _ hK3 => ?_
  refine cw_rs fun _ κ => ?_
  refine Sm rfl rfl ?_
  refine as_q rfl rfl (q_not rfl) ?_
  refine as_nil (κ _ _ ?_)
  refine cw_false rfl ?_
  refine cw_skip ?_
  refine hK3 _ _ ?_
  refine cw_rs fun _ κ => ?_
  refine Sf 0 rfl (by kernel_rfl) rfl ?_
  refine Sc 1 rfl (by kernel_rfl) rfl (by exact BlkR.cells (hs3.sat _ _ _ hb1) rfl) ?_
  refine as_q rfl rfl (q_iface (by kernel_rfl) rfl) ?_
  refine Sm rfl rfl ?_
  refine Sf 0 rfl (by kernel_rfl) rfl ?_
  refine Sc 1 rfl (by kernel_rfl) rfl (by exact Blk.cells hoo.1 rfl) ?_
  refine as_h rfl (h_invoke (f := 162) (r := .agg #[.pointer q]) (by kernel_rfl) rfl rfl (by kernel_rfl) ?_)
  refine (p_meld hs3.sat h h2 hz).mono ?_
  rintro _ w4 ⟨qn, Mn, rfl, hs4, hn⟩
  replace h := h.mono hs4.le
  replace hT := hT.then hs4
  have hz4 := hs4.size
  refine as_q rfl rfl (q_build (zs := [(.pointer none)]) (places := [(0, 1)]) (cs := [_]) (by kernel_rfl) (by kernel_rfl) rfl rfl) ?_
  refine as_q rfl rfl (q_iface (by kernel_rfl) rfl) ?_
  refine Sa rfl rfl ?_
  refine as_nil (κ _ _ ?_)
  refine cw_ret ?_
  exact ⟨_, (res_tmp rfl res_nil), _, _, rfl, hT, hn⟩
theorem wc_size {w : World} {M : Mem} {t : Pr} {q : Option Addr} (hs : Sat M w) (h : PRep 251 260 M t q) :
    Does Tryz.prog 181 #[.agg #[.pointer q]] w (fun v w' => v = .int .i64 (t.size : Nat) ∧ Step Nope M w M w') := by
  have hT := Step.refl Nope hs
  refine fn_enter Tryz.func181 rfl (rs := [.tmp 2]) rfl rfl rfl rfl ?_
  refine cw_rs fun _ κ => ?_
  refine as_h rfl (h_boxM hs rfl rfl fun b1 M1 w1 hs1 hb1 e1 => ?_)
  replace h := h.mono hs1.le
  replace hT := hT.then hs1
  refine Sa rfl rfl ?_
  refine as_nil (κ _ _ ?_)
  refine cw_rs fun _ κ => ?_
  refine Sf 0 rfl (by kernel_rfl) rfl ?_
  refine Sc 1 rfl (by kernel_rfl) rfl (by exact BlkR.cells (hs1.sat _ _ _ hb1) rfl) ?_
  refine as_q rfl rfl (q_iface (by kernel_rfl) rfl) ?_
  refine as_h rfl (h_invoke (f := 166) (r := .agg #[.pointer q]) (by kernel_rfl) rfl rfl (by kernel_rfl) ?_)
  refine (p_size hs1.sat h).mono ?_
  rintro _ w2 ⟨rfl, hs2⟩
  replace h := h.mono hs2.le
  replace hT := hT.then hs2
  refine Sa rfl rfl ?_
  refine as_nil (κ _ _ ?_)
  refine cw_ret ?_
  exact ⟨_, (res_tmp rfl res_nil), rfl, hT.forget⟩
theorem wc_min {w : World} {M : Mem} {x : El} {ks : List Pr} {q : Option Addr} (hs : Sat M w) (h : PRep 251 260 M (Pr.node x ks) q) :
    Does Tryz.prog 178 #[.agg #[.pointer q], .pointer none] w (fun v w' => v = .tuple #[.agg (elc x).toArray, .bool true] ∧ Step Nope M w M w') := by
  have hT := Step.refl Nope hs
  refine fn_enter Tryz.func178 rfl (rs := [.cell 4 24, .tmp 5]) rfl rfl rfl rfl ?_
  refine cw_rs fun _ κ => ?_
  refine as_h rfl (h_boxM hs rfl rfl fun b1 M1 w1 hs1 hb1 e1 => ?_)
  replace h := h.mono hs1.le
  replace hT := hT.then hs1
  have hz1 := hs1.size
  have hqar := hT.size
  refine as_h rfl (h_allocO (z := (.agg #[(.int .i64 0), (.int .i64 0)])) hs1.sat (by kernel_rfl) rfl fun br w2 hs2 hor er => ?_)
  replace h := h.mono hs2.le
  replace hb1 := hs2.le _ _ hb1
  replace hT := hT.then hs2
  have hz2 := hs2.size
  have hlr := hor.1.lt
  refine Sa rfl rfl ?_
  refine as_nil (κ _ _ ?_)
  refine cw_rs fun _ κ => ?_
  refine Sf 0 rfl (by kernel_rfl) rfl ?_
  refine Sc 1 rfl (by kernel_rfl) rfl (by exact BlkR.cells (hs2.sat _ _ _ hb1) rfl) ?_
  refine as_q rfl rfl (q_iface (by kernel_rfl) rfl) ?_
  refine Sm rfl rfl ?_
  refine as_h rfl (h_invoke (f := 163) (r := .agg #[.pointer q]) (by kernel_rfl) rfl rfl (by kernel_rfl) ?_)
  refine (p_min hs2.sat h).mono ?_
  rintro _ w3 ⟨rfl, hs3⟩
  replace h := h.mono hs3.le
  replace hor := hor.then hs3
  replace hT := hT.then hs3
  have hz3 := hs3.size
  refine Se rfl rfl rfl ?_
  refine Se rfl rfl rfl ?_
  refine as_h0 (h_store hs3.sat hor rfl rfl rfl (by kernel_rfl) rfl rfl rfl fun w4 hs4 hn4 => ?_)
  replace h := h.mono hs4.le
  clear hor; have hor := hn4; clear hn4
  replace hT := hT.own hs4 (by omega)
  have hz4 := hs4.size
  refine Sa rfl rfl ?_
  refine as_nil (κ _ _ ?_)
  refine cw_ret ?_
  exact ⟨_, (res_cell rfl (loadVar_n (n := 2) (by kernel_rfl) (by exact Blk.cells hor.1 rfl)) (res_tmp rfl res_nil)), rfl, hT.forget⟩
theorem wd_insert {w : World} {M : Mem} {x : El} {t : List (RT El)} {q : Option Addr} (hs : Sat M w) (h : FRep 197 220 2 EncE M t q) (hz : RT.sizes t < 1000000000) :
    Does Tryz.prog 197 #[.agg #[.pointer q], .pointer none, .agg (elc x).toArray] w (fun v w' => ∃ q M', v = .iface 85 (.agg #[.pointer q]) ∧ Step Nope M w M' w' ∧ FRep 197 220 2 EncE M' (sinsert ltE x t) q) := by
  have hT := Step.refl Nope hs
  refine fn_enter Tryz.func197 rfl (rs := [.tmp 6]) rfl rfl rfl rfl ?_
  refine cw_rs fun _ κ => ?_
  refine as_h rfl (h_boxM hs rfl rfl fun b1 M1 w1 hs1 hb1 e1 => ?_)
  replace h := h.mono' EncE.mono hs1.le
  replace hT := hT.then hs1
  refine as_h rfl (h_boxM hs1.sat rfl rfl fun b2 M2 w2 hs2 hb2 e2 => ?_)
  replace h := h.mono' EncE.mono hs2.le
  replace hb1 := hs2.le _ _ hb1
  replace hT := hT.then hs2
  refine Sa rfl rfl ?_
  refine as_nil (κ _ _ ?_)
  refine cw_rs fun _ κ => ?_
  refine Sf 0 rfl (by kernel_rfl) rfl ?_
  refine Sc 1 rfl (by kernel_rfl) rfl (by exact BlkR.cells (hs2.sat _ _ _ hb1) rfl) ?_
  refine as_q rfl rfl (q_iface (by kernel_rfl) rfl) ?_
  refine Sm rfl rfl ?_
  refine Sc 2 rfl (by kernel_rfl) rfl (by exact BlkR.cells (hs2.sat _ _ _ hb2) rfl) ?_
  refine as_h rfl (h_invoke (f := 182) (r := .agg #[.pointer q]) (by kernel_rfl) rfl rfl (by kernel_rfl) ?_)
  refine (se_insert (x := x) hs2.sat h hz).mono ?_
  rintro _ w3 ⟨qn, Mn, rfl, hs3, hn⟩
  replace h := h.mono' EncE.mono hs3.le
  replace hT := hT.then hs3
  refine as_q rfl rfl (q_build (zs := [(.pointer none)]) (places := [(0, 1)]) (cs := [_]) (by kernel_rfl) (by kernel_rfl) rfl rfl) ?_
  refine as_q rfl rfl (q_iface (by kernel_rfl) rfl) ?_
  refine Sa rfl rfl ?_
  refine as_nil (κ _ _ ?_)
  refine cw_ret ?_
  exact ⟨_, (res_tmp rfl res_nil), _, _, rfl, hT, hn⟩
theorem wd_meld {w : World} {M : Mem} {t u : List (RT El)} {q q2 : Option Addr} (hs : Sat M w) (h : FRep 197 220 2 EncE M t q) (h2 : FRep 197 220 2 EncE M u q2) (hz : RT.sizes t + RT.sizes u ≤ 1000000000) :
    Does Tryz.prog 198 #[.agg #[.pointer q], .pointer none, .iface 85 (.agg #[.pointer q2])] w (fun v w' => ∃ q M', v = .iface 85 (.agg #[.pointer q]) ∧ Step Nope M w M' w' ∧ FRep 197 220 2 EncE M' (smeld ltE t u) q) := by
  have hT := Step.refl Nope hs
  refine fn_enter Tryz.func198 rfl (rs := [.tmp 6]) rfl rfl rfl rfl ?_
  refine cw_rs fun _ κ => ?_
  refine as_h rfl (h_boxM hs rfl rfl fun b1 M1 w1 hs1 hb1 e1 => ?_)
  replace h := h.mono' EncE.mono hs1.le
  replace h2 := h2.mono' EncE.mono hs1.le
  replace hT := hT.then hs1
  have hz1 := hs1.size
  refine Sa rfl rfl ?_
  refine as_nil (κ _ _ ?_)
  refine cw_rs fun _ κ => ?_
  refine Sm rfl rfl ?_
  refine as_q rfl rfl (q_isT (by kernel_rfl) rfl) ?_
  refine Sm rfl rfl ?_
  refine Se rfl rfl rfl ?_
  refine Se rfl rfl rfl ?_
  have hqao := hT.size
  refine as_h rfl (h_allocO (z := (.agg #[(.pointer none)])) hs1.sat (by kernel_rfl) rfl fun bo w2 hs2 hoo eo => ?_)
  replace h := h.mono' EncE.mono hs2.le
  replace h2 := h2.mono' EncE.mono hs2.le
  replace hb1 := hs2.le _ _ hb1
  replace hT := hT.then hs2
  have hz2 := hs2.size
  have hlo := hoo.1.lt
  refine as_h0 (h_store hs2.sat hoo rfl rfl rfl (by kernel_rfl) rfl rfl rfl fun w3 hs3 hn3 => ?_)
  replace h := h.mono' EncE.mono hs3.le
  replace h2 := h2.mono' EncE.mono hs3.le
  replace hb1 := hs3.le _ _ hb1
  clear hoo; have hoo := hn3; clear hn3
  replace hT := hT.own hs3 (by omega)
  have hz3 := hs3.size
  refine Sa rfl rfl ?_
  refine as_nil (κ _ _ ?_)
  refine cw_seq fun _ hK3 => ?_
  refine cw_rs fun _ κ => ?_
  refine Sm rfl rfl ?_
  refine as_q rfl rfl (q_not rfl) ?_
  refine as_nil (κ _ _ ?_)
  refine cw_false rfl ?_
  refine cw_skip ?_
  refine hK3 _ _ ?_
  refine cw_rs fun _ κ => ?_
  refine Sf 0 rfl (by kernel_rfl) rfl ?_
  refine Sc 1 rfl (by kernel_rfl) rfl (by exact BlkR.cells (hs3.sat _ _ _ hb1) rfl) ?_
  refine as_q rfl rfl (q_iface (by kernel_rfl) rfl) ?_
  refine Sm rfl rfl ?_
  refine Sf 0 rfl (by kernel_rfl) rfl ?_
  refine Sc 1 rfl (by kernel_rfl) rfl (by exact Blk.cells hoo.1 rfl) ?_
  refine as_h rfl (h_invoke (f := 183) (r := .agg #[.pointer q]) (by kernel_rfl) rfl rfl (by kernel_rfl) ?_)
  refine (se_meld hs3.sat h h2 hz).mono ?_
  rintro _ w4 ⟨qn, Mn, rfl, hs4, hn⟩
  replace h := h.mono' EncE.mono hs4.le
  replace hT := hT.then hs4
  have hz4 := hs4.size
  refine as_q rfl rfl (q_build (zs := [(.pointer none)]) (places := [(0, 1)]) (cs := [_]) (by kernel_rfl) (by kernel_rfl) rfl rfl) ?_
  refine as_q rfl rfl (q_iface (by kernel_rfl) rfl) ?_
  refine Sa rfl rfl ?_
  refine as_nil (κ _ _ ?_)
  refine cw_ret ?_
  exact ⟨_, (res_tmp rfl res_nil), _, _, rfl, hT, hn⟩
theorem wd_size {w : World} {M : Mem} {t : List (RT El)} {q : Option Addr} (hs : Sat M w) (h : FRep 197 220 2 EncE M t q) (hz : RT.sizes t ≤ 1000000000) :
    Does Tryz.prog 202 #[.agg #[.pointer q]] w (fun v w' => v = .int .i64 (RT.sizes t : Nat) ∧ Step Nope M w M w') := by
  have hT := Step.refl Nope hs
  refine fn_enter Tryz.func202 rfl (rs := [.tmp 2]) rfl rfl rfl rfl ?_
  refine cw_rs fun _ κ => ?_
  refine as_h rfl (h_boxM hs rfl rfl fun b1 M1 w1 hs1 hb1 e1 => ?_)
  replace h := h.mono' EncE.mono hs1.le
  replace hT := hT.then hs1
  refine Sa rfl rfl ?_
  refine as_nil (κ _ _ ?_)
  refine cw_rs fun _ κ => ?_
  refine Sf 0 rfl (by kernel_rfl) rfl ?_
  refine Sc 1 rfl (by kernel_rfl) rfl (by exact BlkR.cells (hs1.sat _ _ _ hb1) rfl) ?_
  refine as_q rfl rfl (q_iface (by kernel_rfl) rfl) ?_
  refine as_h rfl (h_invoke (f := 187) (r := .agg #[.pointer q]) (by kernel_rfl) rfl rfl (by kernel_rfl) ?_)
  refine (se_size hs1.sat h hz).mono ?_
  rintro _ w2 ⟨rfl, hs2⟩
  replace h := h.mono' EncE.mono hs2.le
  replace hT := hT.then hs2
  refine Sa rfl rfl ?_
  refine as_nil (κ _ _ ?_)
  refine cw_ret ?_
  exact ⟨_, (res_tmp rfl res_nil), rfl, hT.forget⟩
theorem wd_min {w : World} {M : Mem} {t : List (RT El)} {k : RT El} {q : Option Addr} (hs : Sat M w) (h : FRep 197 220 2 EncE M t q) (ht : t[leastN ltE (t.map RT.root) (t.length - 1)]? = some k) (hz : RT.sizes t ≤ 1000000000) :
    Does Tryz.prog 199 #[.agg #[.pointer q], .pointer none] w (fun v w' => v = .tuple #[.agg (elc k.root).toArray, .bool true] ∧ Step Nope M w M w') := by
  have hT := Step.refl Nope hs
  refine fn_enter Tryz.func199 rfl (rs := [.cell 4 24, .tmp 5]) rfl rfl rfl rfl ?_
  refine cw_rs fun _ κ => ?_
  refine as_h rfl (h_boxM hs rfl rfl fun b1 M1 w1 hs1 hb1 e1 => ?_)
  replace h := h.mono' EncE.mono hs1.le
  replace hT := hT.then hs1
  have hz1 := hs1.size
  have hqar := hT.size
  refine as_h rfl (h_allocO (z := (.agg #[(.int .i64 0), (.int .i64 0)])) hs1.sat (by kernel_rfl) rfl fun br w2 hs2 hor er => ?_)
  replace h := h.mono' EncE.mono hs2.le
  replace hb1 := hs2.le _ _ hb1
  replace hT := hT.then hs2
  have hz2 := hs2.size
  have hlr := hor.1.lt
  refine Sa rfl rfl ?_
  refine as_nil (κ _ _ ?_)
  refine cw_rs fun _ κ => ?_
  refine Sf 0 rfl (by kernel_rfl) rfl ?_
  refine Sc 1 rfl (by kernel_rfl) rfl (by exact BlkR.cells (hs2.sat _ _ _ hb1) rfl) ?_
  refine as_q rfl rfl (q_iface (by kernel_rfl) rfl) ?_
  refine Sm rfl rfl ?_
  refine as_h rfl (h_invoke (f := 184) (r := .agg #[.pointer q]) (by kernel_rfl) rfl rfl (by kernel_rfl) ?_)
  refine (se_min hs2.sat h ht hz).mono ?_
  rintro _ w3 ⟨rfl, hs3⟩
  replace h := h.mono' EncE.mono hs3.le
  replace hor := hor.then hs3
  replace hT := hT.then hs3
  have hz3 := hs3.size
  refine Se rfl rfl rfl ?_
  refine Se rfl rfl rfl ?_
  refine as_h0 (h_store hs3.sat hor rfl rfl rfl (by kernel_rfl) rfl rfl rfl fun w4 hs4 hn4 => ?_)
  replace h := h.mono' EncE.mono hs4.le
  clear hor; have hor := hn4; clear hn4
  replace hT := hT.own hs4 (by omega)
  have hz4 := hs4.size
  refine Sa rfl rfl ?_
  refine as_nil (κ _ _ ?_)
  refine cw_ret ?_
  exact ⟨_, (res_cell rfl (loadVar_n (n := 2) (by kernel_rfl) (by exact Blk.cells hor.1 rfl)) (res_tmp rfl res_nil)), rfl, hT.forget⟩
theorem we_insert {w : World} {M : Mem} {x : El} {t : Ro} {q : Option Addr} (hs : Sat M w) (h : RoRep 283 197 220 M t q) (hz : t.size < 1000000000) :
    Does Tryz.prog 210 #[.agg #[.pointer q], .pointer none, .agg (elc x).toArray] w (fun v w' => ∃ q M', v = .iface 90 (.agg #[.pointer q]) ∧ Step Nope M w M' w' ∧ RoRep 283 197 220 M' (Ro.insert x t) q) := by
  have hT := Step.refl Nope hs
  refine fn_enter Tryz.func210 rfl (rs := [.tmp 6]) rfl rfl rfl rfl ?_
  refine cw_rs fun _ κ => ?_
  refine as_h rfl (h_boxM hs rfl rfl fun b1 M1 w1 hs1 hb1 e1 => ?_)
  replace h := h.mono hs1.le
  replace hT := hT.then hs1
  refine as_h rfl (h_boxM hs1.sat rfl rfl fun b2 M2 w2 hs2 hb2 e2 => ?_)
  replace h := h.mono hs2.le
  replace hb1 := hs2.le _ _ hb1
  replace hT := hT.then hs2
  refine Sa rfl rfl ?_
  refine as_nil (κ _ _ ?_)
  refine cw_rs fun _ κ => ?_
  refine Sf 0 rfl (by kernel_rfl) rfl ?_
  refine Sc 1 rfl (by kernel_rfl) rfl (by exact BlkR.cells (hs2.sat _ _ _ hb1) rfl) ?_
  refine as_q rfl rfl (q_iface (by kernel_rfl) rfl) ?_
  refine Sm rfl rfl ?_
  refine Sc 2 rfl (by kernel_rfl) rfl (by exact BlkR.cells (hs2.sat _ _ _ hb2) rfl) ?_
  refine as_h rfl (h_invoke (f := 203) (r := .agg #[.pointer q]) (by kernel_rfl) rfl rfl (by kernel_rfl) ?_)
  refine (r_insert (x := x) hs2.sat h hz).mono ?_
  rintro _ w3 ⟨qn, Mn, rfl, hs3, hn⟩
  replace h := h.mono hs3.le
  replace hT := hT.then hs3
  refine as_q rfl rfl (q_build (zs := [(.pointer none)]) (places := [(0, 1)]) (cs := [_]) (by kernel_rfl) (by kernel_rfl) rfl rfl) ?_
  refine as_q rfl rfl (q_iface (by kernel_rfl) rfl) ?_
  refine Sa rfl rfl ?_
  refine as_nil (κ _ _ ?_)
  refine cw_ret ?_
  exact ⟨_, (res_tmp rfl res_nil), _, _, rfl, hT, hn⟩
theorem we_meld {w : World} {M : Mem} {t u : Ro} {q q2 : Option Addr} (hs : Sat M w) (h : RoRep 283 197 220 M t q) (h2 : RoRep 283 197 220 M u q2) (hz : t.size + u.size ≤ 1000000000) :
    Does Tryz.prog 211 #[.agg #[.pointer q], .pointer none, .iface 90 (.agg #[.pointer q2])] w (fun v w' => ∃ q M', v = .iface 90 (.agg #[.pointer q]) ∧ Step Nope M w M' w' ∧ RoRep 283 197 220 M' (t.meld u) q) := by
  have hT := Step.refl Nope hs
  refine fn_enter Tryz.func211 rfl (rs := [.tmp 6]) rfl rfl rfl rfl ?_
  refine cw_rs fun _ κ => ?_
  refine as_h rfl (h_boxM hs rfl rfl fun b1 M1 w1 hs1 hb1 e1 => ?_)
  replace h := h.mono hs1.le
  replace h2 := h2.mono hs1.le
  replace hT := hT.then hs1
  have hz1 := hs1.size
  refine Sa rfl rfl ?_
  refine as_nil (κ _ _ ?_)
  refine cw_rs fun _ κ => ?_
  refine Sm rfl rfl ?_
  refine as_q rfl rfl (q_isT (by kernel_rfl) rfl) ?_
  refine Sm rfl rfl ?_
  refine Se rfl rfl rfl ?_
  refine Se rfl rfl rfl ?_
  have hqao := hT.size
  refine as_h rfl (h_allocO (z := (.agg #[(.pointer none)])) hs1.sat (by kernel_rfl) rfl fun bo w2 hs2 hoo eo => ?_)
  replace h := h.mono hs2.le
  replace h2 := h2.mono hs2.le
  replace hb1 := hs2.le _ _ hb1
  replace hT := hT.then hs2
  have hz2 := hs2.size
  have hlo := hoo.1.lt
  refine as_h0 (h_store hs2.sat hoo rfl rfl rfl (by kernel_rfl) rfl rfl rfl fun w3 hs3 hn3 => ?_)
  replace h := h.mono hs3.le
  replace h2 := h2.mono hs3.le
  replace hb1 := hs3.le _ _ hb1
  clear hoo; have hoo := hn3; clear hn3
  replace hT := hT.own hs3 (by omega)
  have hz3 := hs3.size
  refine Sa rfl rfl ?_
  refine as_nil (κ _ _ ?_)
  refine cw_seq fun _ hK3 => ?_
  refine cw_rs fun _ κ => ?_
  refine Sm rfl rfl ?_
  refine as_q rfl rfl (q_not rfl) ?_
  refine as_nil (κ _ _ ?_)
  refine cw_false rfl ?_
  refine cw_skip ?_
  refine hK3 _ _ ?_
  refine cw_rs fun _ κ => ?_
  refine Sf 0 rfl (by kernel_rfl) rfl ?_
  refine Sc 1 rfl (by kernel_rfl) rfl (by exact BlkR.cells (hs3.sat _ _ _ hb1) rfl) ?_
  refine as_q rfl rfl (q_iface (by kernel_rfl) rfl) ?_
  refine Sm rfl rfl ?_
  refine Sf 0 rfl (by kernel_rfl) rfl ?_
  refine Sc 1 rfl (by kernel_rfl) rfl (by exact Blk.cells hoo.1 rfl) ?_
  refine as_h rfl (h_invoke (f := 204) (r := .agg #[.pointer q]) (by kernel_rfl) rfl rfl (by kernel_rfl) ?_)
  refine (r_meld hs3.sat h h2 hz).mono ?_
  rintro _ w4 ⟨qn, Mn, rfl, hs4, hn⟩
  replace h := h.mono hs4.le
  replace hT := hT.then hs4
  have hz4 := hs4.size
  refine as_q rfl rfl (q_build (zs := [(.pointer none)]) (places := [(0, 1)]) (cs := [_]) (by kernel_rfl) (by kernel_rfl) rfl rfl) ?_
  refine as_q rfl rfl (q_iface (by kernel_rfl) rfl) ?_
  refine Sa rfl rfl ?_
  refine as_nil (κ _ _ ?_)
  refine cw_ret ?_
  exact ⟨_, (res_tmp rfl res_nil), _, _, rfl, hT, hn⟩
theorem we_size {w : World} {M : Mem} {t : Ro} {q : Option Addr} (hs : Sat M w) (h : RoRep 283 197 220 M t q) (hz : t.size ≤ 1000000000) :
    Does Tryz.prog 215 #[.agg #[.pointer q]] w (fun v w' => v = .int .i64 (t.size : Nat) ∧ Step Nope M w M w') := by
  have hT := Step.refl Nope hs
  refine fn_enter Tryz.func215 rfl (rs := [.tmp 2]) rfl rfl rfl rfl ?_
  refine cw_rs fun _ κ => ?_
  refine as_h rfl (h_boxM hs rfl rfl fun b1 M1 w1 hs1 hb1 e1 => ?_)
  replace h := h.mono hs1.le
  replace hT := hT.then hs1
  refine Sa rfl rfl ?_
  refine as_nil (κ _ _ ?_)
  refine cw_rs fun _ κ => ?_
  refine Sf 0 rfl (by kernel_rfl) rfl ?_
  refine Sc 1 rfl (by kernel_rfl) rfl (by exact BlkR.cells (hs1.sat _ _ _ hb1) rfl) ?_
  refine as_q rfl rfl (q_iface (by kernel_rfl) rfl) ?_
  refine as_h rfl (h_invoke (f := 208) (r := .agg #[.pointer q]) (by kernel_rfl) rfl rfl (by kernel_rfl) ?_)
  refine (r_size hs1.sat h hz).mono ?_
  rintro _ w2 ⟨rfl, hs2⟩
  replace h := h.mono hs2.le
  replace hT := hT.then hs2
  refine Sa rfl rfl ?_
  refine as_nil (κ _ _ ?_)
  refine cw_ret ?_
  exact ⟨_, (res_tmp rfl res_nil), rfl, hT.forget⟩
theorem we_min {w : World} {M : Mem} {x : El} {ts : List (RT El)} {q : Option Addr} (hs : Sat M w) (h : RoRep 283 197 220 M (Ro.node x ts) q) :
    Does Tryz.prog 212 #[.agg #[.pointer q], .pointer none] w (fun v w' => v = .tuple #[.agg (elc x).toArray, .bool true] ∧ Step Nope M w M w') := by
  have hT := Step.refl Nope hs
  refine fn_enter Tryz.func212 rfl (rs := [.cell 4 24, .tmp 5]) rfl rfl rfl rfl ?_
  refine cw_rs fun _ κ => ?_
  refine as_h rfl (h_boxM hs rfl rfl fun b1 M1 w1 hs1 hb1 e1 => ?_)
  replace h := h.mono hs1.le
  replace hT := hT.then hs1
  have hz1 := hs1.size
  have hqar := hT.size
  refine as_h rfl (h_allocO (z := (.agg #[(.int .i64 0), (.int .i64 0)])) hs1.sat (by kernel_rfl) rfl fun br w2 hs2 hor er => ?_)
  replace h := h.mono hs2.le
  replace hb1 := hs2.le _ _ hb1
  replace hT := hT.then hs2
  have hz2 := hs2.size
  have hlr := hor.1.lt
  refine Sa rfl rfl ?_
  refine as_nil (κ _ _ ?_)
  refine cw_rs fun _ κ => ?_
  refine Sf 0 rfl (by kernel_rfl) rfl ?_
  refine Sc 1 rfl (by kernel_rfl) rfl (by exact BlkR.cells (hs2.sat _ _ _ hb1) rfl) ?_
  refine as_q rfl rfl (q_iface (by kernel_rfl) rfl) ?_
  refine Sm rfl rfl ?_
  refine as_h rfl (h_invoke (f := 205) (r := .agg #[.pointer q]) (by kernel_rfl) rfl rfl (by kernel_rfl) ?_)
  refine (r_min hs2.sat h).mono ?_
  rintro _ w3 ⟨rfl, hs3⟩
  replace h := h.mono hs3.le
  replace hor := hor.then hs3
  replace hT := hT.then hs3
  have hz3 := hs3.size
  refine Se rfl rfl rfl ?_
  refine Se rfl rfl rfl ?_
  refine as_h0 (h_store hs3.sat hor rfl rfl rfl (by kernel_rfl) rfl rfl rfl fun w4 hs4 hn4 => ?_)
  replace h := h.mono hs4.le
  clear hor; have hor := hn4; clear hn4
  replace hT := hT.own hs4 (by omega)
  have hz4 := hs4.size
  refine Sa rfl rfl ?_
  refine as_nil (κ _ _ ?_)
  refine cw_ret ?_
  exact ⟨_, (res_cell rfl (loadVar_n (n := 2) (by kernel_rfl) (by exact Blk.cells hor.1 rfl)) (res_tmp rfl res_nil)), rfl, hT.forget⟩
theorem wf_insert {w : World} {M : Mem} {x : El} {t : Bt} {q : Option Addr} (hs : Sat M w) (h : BRep 296 330 332 M t q) (hz : RT.sizes t.queue < 1000000000) :
    Does Tryz.prog 261 #[.agg #[.pointer q], .pointer none, .agg (elc x).toArray] w (fun v w' => ∃ q M', v = .iface 95 (.agg #[.pointer q]) ∧ Step Nope M w M' w' ∧ BRep 296 330 332 M' (Bt.insert x t) q) := by
  have hT := Step.refl Nope hs
  refine fn_enter Tryz.func261 rfl (rs := [.tmp 6]) rfl rfl rfl rfl ?_
  refine cw_rs fun _ κ => ?_
  refine as_h rfl (h_boxM hs rfl rfl fun b1 M1 w1 hs1 hb1 e1 => ?_)
  replace h := h.mono hs1.le
  replace hT := hT.then hs1
  refine as_h rfl (h_boxM hs1.sat rfl rfl fun b2 M2 w2 hs2 hb2 e2 => ?_)
  replace h := h.mono hs2.le
  replace hb1 := hs2.le _ _ hb1
  replace hT := hT.then hs2
  refine Sa rfl rfl ?_
  refine as_nil (κ _ _ ?_)
  refine cw_rs fun _ κ => ?_
  refine Sf 0 rfl (by kernel_rfl) rfl ?_
  refine Sc 1 rfl (by kernel_rfl) rfl (by exact BlkR.cells (hs2.sat _ _ _ hb1) rfl) ?_
  refine as_q rfl rfl (q_iface (by kernel_rfl) rfl) ?_
  refine Sm rfl rfl ?_
  refine Sc 2 rfl (by kernel_rfl) rfl (by exact BlkR.cells (hs2.sat _ _ _ hb2) rfl) ?_
  refine as_h rfl (h_invoke (f := 216) (r := .agg #[.pointer q]) (by kernel_rfl) rfl rfl (by kernel_rfl) ?_)
  refine (bo_insert (x := x) hs2.sat h hz).mono ?_
  rintro _ w3 ⟨qn, Mn, rfl, hs3, hn⟩
  replace h := h.mono hs3.le
  replace hT := hT.then hs3
  refine as_q rfl rfl (q_build (zs := [(.pointer none)]) (places := [(0, 1)]) (cs := [_]) (by kernel_rfl) (by kernel_rfl) rfl rfl) ?_
  refine as_q rfl rfl (q_iface (by kernel_rfl) rfl) ?_
  refine Sa rfl rfl ?_
  refine as_nil (κ _ _ ?_)
  refine cw_ret ?_
  exact ⟨_, (res_tmp rfl res_nil), _, _, rfl, hT, hn⟩
theorem wf_meld {w : World} {M : Mem} {t u : Bt} {q q2 : Option Addr} (hs : Sat M w) (h : BRep 296 330 332 M t q) (h2 : BRep 296 330 332 M u q2) (hz : RT.sizes t.queue < 1000000000) (hzu : RT.sizes u.queue < 1000000000) :
    Does Tryz.prog 262 #[.agg #[.pointer q], .pointer none, .iface 95 (.agg #[.pointer q2])] w (fun v w' => ∃ q M', v = .iface 95 (.agg #[.pointer q]) ∧ Step Nope M w M' w' ∧ BRep 296 330 332 M' (t.meld u) q) := by
  have hT := Step.refl Nope hs
  refine fn_enter Tryz.func262 rfl (rs := [.tmp 6]) rfl rfl rfl rfl ?_
  refine cw_rs fun _ κ => ?_
  refine as_h rfl (h_boxM hs rfl rfl fun b1 M1 w1 hs1 hb1 e1 => ?_)
  replace h := h.mono hs1.le
  replace h2 := h2.mono hs1.le
  replace hT := hT.then hs1
  have hz1 := hs1.size
  refine Sa rfl rfl ?_
  refine as_nil (κ _ _ ?_)
  refine cw_rs fun _ κ => ?_
  refine Sm rfl rfl ?_
  refine as_q rfl rfl (q_isT (by kernel_rfl) rfl) ?_
  refine Sm rfl rfl ?_
  refine Se rfl rfl rfl ?_
  refine Se rfl rfl rfl ?_
  have hqao := hT.size
  refine as_h rfl (h_allocO (z := (.agg #[(.pointer none)])) hs1.sat (by kernel_rfl) rfl fun bo w2 hs2 hoo eo => ?_)
  replace h := h.mono hs2.le
  replace h2 := h2.mono hs2.le
  replace hb1 := hs2.le _ _ hb1
  replace hT := hT.then hs2
  have hz2 := hs2.size
  have hlo := hoo.1.lt
  refine as_h0 (h_store hs2.sat hoo rfl rfl rfl (by kernel_rfl) rfl rfl rfl fun w3 hs3 hn3 => ?_)
  replace h := h.mono hs3.le
  replace h2 := h2.mono hs3.le
  replace hb1 := hs3.le _ _ hb1
  clear hoo; have hoo := hn3; clear hn3
  replace hT := hT.own hs3 (by omega)
  have hz3 := hs3.size
  refine Sa rfl rfl ?_
  refine as_nil (κ _ _ ?_)
  refine cw_seq fun _ hK3 => ?_
  refine cw_rs fun _ κ => ?_
  refine Sm rfl rfl ?_
  refine as_q rfl rfl (q_not rfl) ?_
  refine as_nil (κ _ _ ?_)
  refine cw_false rfl ?_
  refine cw_skip ?_
  refine hK3 _ _ ?_
  refine cw_rs fun _ κ => ?_
  refine Sf 0 rfl (by kernel_rfl) rfl ?_
  refine Sc 1 rfl (by kernel_rfl) rfl (by exact BlkR.cells (hs3.sat _ _ _ hb1) rfl) ?_
  refine as_q rfl rfl (q_iface (by kernel_rfl) rfl) ?_
  refine Sm rfl rfl ?_
  refine Sf 0 rfl (by kernel_rfl) rfl ?_
  refine Sc 1 rfl (by kernel_rfl) rfl (by exact Blk.cells hoo.1 rfl) ?_
  refine as_h rfl (h_invoke (f := 218) (r := .agg #[.pointer q]) (by kernel_rfl) rfl rfl (by kernel_rfl) ?_)
  refine (bo_meld hs3.sat h h2 hz hzu).mono ?_
  rintro _ w4 ⟨qn, Mn, rfl, hs4, hn⟩
  replace h := h.mono hs4.le
  replace hT := hT.then hs4
  have hz4 := hs4.size
  refine as_q rfl rfl (q_build (zs := [(.pointer none)]) (places := [(0, 1)]) (cs := [_]) (by kernel_rfl) (by kernel_rfl) rfl rfl) ?_
  refine as_q rfl rfl (q_iface (by kernel_rfl) rfl) ?_
  refine Sa rfl rfl ?_
  refine as_nil (κ _ _ ?_)
  refine cw_ret ?_
  exact ⟨_, (res_tmp rfl res_nil), _, _, rfl, hT, hn⟩
theorem wf_min {w : World} {M : Mem} {x : El} {ts : List (RT Bt)} {q : Option Addr} (hs : Sat M w) (h : BRep 296 330 332 M (Bt.node x ts) q) :
    Does Tryz.prog 263 #[.agg #[.pointer q], .pointer none] w (fun v w' => v = .tuple #[.agg (elc x).toArray, .bool true] ∧ Step Nope M w M w') := by
  have hT := Step.refl Nope hs
  refine fn_enter Tryz.func263 rfl (rs := [.cell 4 24, .tmp 5]) rfl rfl rfl rfl ?_
  refine cw_rs fun _ κ => ?_
  refine as_h rfl (h_boxM hs rfl rfl fun b1 M1 w1 hs1 hb1 e1 => ?_)
  replace h := h.mono hs1.le
  replace hT := hT.then hs1
  have hz1 := hs1.size
  have hqar := hT.size
  refine as_h rfl (h_allocO (z := (.agg #[(.int .i64 0), (.int .i64 0)])) hs1.sat (by kernel_rfl) rfl fun br w2 hs2 hor er => ?_)
  replace h := h.mono hs2.le
  replace hb1 := hs2.le _ _ hb1
  replace hT := hT.then hs2
  have hz2 := hs2.size
  have hlr := hor.1.lt
  refine Sa rfl rfl ?_
  refine as_nil (κ _ _ ?_)
  refine cw_rs fun _ κ => ?_
  refine Sf 0 rfl (by kernel_rfl) rfl ?_
  refine Sc 1 rfl (by kernel_rfl) rfl (by exact BlkR.cells (hs2.sat _ _ _ hb1) rfl) ?_
  refine as_q rfl rfl (q_iface (by kernel_rfl) rfl) ?_
  refine Sm rfl rfl ?_
  refine as_h rfl (h_invoke (f := 219) (r := .agg #[.pointer q]) (by kernel_rfl) rfl rfl (by kernel_rfl) ?_)
  refine (bo_min hs2.sat h).mono ?_
  rintro _ w3 ⟨rfl, hs3⟩
  replace h := h.mono hs3.le
  replace hor := hor.then hs3
  replace hT := hT.then hs3
  have hz3 := hs3.size
  refine Se rfl rfl rfl ?_
  refine Se rfl rfl rfl ?_
  refine as_h0 (h_store hs3.sat hor rfl rfl rfl (by kernel_rfl) rfl rfl rfl fun w4 hs4 hn4 => ?_)
  replace h := h.mono hs4.le
  clear hor; have hor := hn4; clear hn4
  replace hT := hT.own hs4 (by omega)
  have hz4 := hs4.size
  refine Sa rfl rfl ?_
  refine as_nil (κ _ _ ?_)
  refine cw_ret ?_
  exact ⟨_, (res_cell rfl (loadVar_n (n := 2) (by kernel_rfl) (by exact Blk.cells hor.1 rfl)) (res_tmp rfl res_nil)), rfl, hT.forget⟩
end Go.Proofs.YtgcgjpfjjgalmaaGreat
/- Pairing heaps without their least element, part 1. -/
namespace Go.Proofs.YtgcgjpfjjgalmaaGreat
open Go Go.Eng
theorem cells_one {b o : Nat} {v : Value} {w : World} (h : w.cell? ⟨b, o, none⟩ = some v) : cellsAre b o 1 [v] w := ⟨rfl, fun j u hj => by
  cases j with
  | zero => cases hj; exact h
  | succ j => simp at hj⟩
end Go.Proofs.YtgcgjpfjjgalmaaGreat
/- Heaps of the kinds without their least element, as heaps of any kind, part 1. -/
namespace Go.Proofs.YtgcgjpfjjgalmaaGreat
open Go Go.Eng
theorem wf_size {w : World} {M : Mem} {t : Bt} {q : Option Addr} (hs : Sat M w) (h : BRep 296 330 332 M t q) (hz : Bt.cnt 1 t ≤ 1000000000) :
    Does Tryz.prog 266 #[.agg #[.pointer q]] w (fun v w' => v = .int .i64 (Bt.cnt 0 t : Nat) ∧ Step Nope M w M w') := by
  have hT := Step.refl Nope hs
  refine fn_enter Tryz.func266 rfl (rs := [.tmp 2]) rfl rfl rfl rfl ?_
  refine cw_rs fun _ κ => ?_
  refine as_h rfl (h_boxM hs rfl rfl fun b1 M1 w1 hs1 hb1 e1 => ?_)
  replace h := h.mono hs1.le
  replace hT := hT.then hs1
  refine Sa rfl rfl ?_
  refine as_nil (κ _ _ ?_)
  refine cw_rs fun _ κ => ?_
  refine Sf 0 rfl (by kernel_rfl) rfl ?_
  refine Sc 1 rfl (by kernel_rfl) rfl (by exact BlkR.cells (hs1.sat _ _ _ hb1) rfl) ?_
  refine as_q rfl rfl (q_iface (by kernel_rfl) rfl) ?_
  refine as_h rfl (h_invoke (f := 222) (r := .agg #[.pointer q]) (by kernel_rfl) rfl rfl (by kernel_rfl) ?_)
  refine (bo_size hs1.sat h hz).mono ?_
  rintro _ w2 ⟨rfl, hs2⟩
  replace h := h.mono hs2.le
  replace hT := hT.then hs2
  refine Sa rfl rfl ?_
  refine as_nil (κ _ _ ?_)
  refine cw_ret ?_
  exact ⟨_, (res_tmp rfl res_nil), rfl, hT.forget⟩
end Go.Proofs.YtgcgjpfjjgalmaaGreat
/- Heaps of any kind, by their elements in order, part 1. -/
namespace Go.Proofs.YtgcgjpfjjgalmaaGreat
open Go Go.Eng
/-- A heap of a kind, by its elements in order. -/
inductive HVal (M : Mem) : Nat → List El → Value → Prop where
  | z : HVal M 0 [] .nilIface
  | a {t : Lft} {q : Option Addr} {l : List El} (h : LRep 171 M t (.pointer q)) (hok : t.ok) (hl : l = srtE (t.els)) : HVal M 1 l (.iface 69 (.agg #[.pointer q]))
  | b {t : List (RT El)} {q : Option Addr} {l : List El} (h : FRep 197 220 2 EncE M t q) (hok : RT.oks ltE t ∧ RT.nobs t) (hl : l = srtE (RT.alls t)) : HVal M 2 l (.iface 76 (.agg #[.pointer q]))
  | c {t : Pr} {q : Option Addr} {l : List El} (h : PRep 251 260 M t q) (hok : t.ok) (hl : l = srtE (t.els)) : HVal M 3 l (.iface 81 (.agg #[.pointer q]))
  | d {t : List (RT El)} {q : Option Addr} {l : List El} (h : FRep 197 220 2 EncE M t q) (hok : RT.oks ltE t) (hl : l = srtE (RT.alls t)) : HVal M 4 l (.iface 85 (.agg #[.pointer q]))
  | e {t : Ro} {q : Option Addr} {l : List El} (h : RoRep 283 197 220 M t q) (hok : t.ok) (hl : l = srtE (t.els)) : HVal M 5 l (.iface 90 (.agg #[.pointer q]))
  | f {t : Bt} {q : Option Addr} {l : List El} (h : BRep 296 330 332 M t q) (hok : t.ok) (hl : l = srtE (t.els)) : HVal M 6 l (.iface 95 (.agg #[.pointer q]))
theorem HVal.mono {M M' : Mem} (k : Le M M') {n : Nat} {l : List El} {v : Value} (h : HVal M n l v) : HVal M' n l v := by
  cases h with
  | z => exact .z
  | a h hok hl => exact .a (h.mono k) hok hl
  | b h hok hl => exact .b (h.mono' EncE.mono k) hok hl
  | c h hok hl => exact .c (h.mono k) hok hl
  | d h hok hl => exact .d (h.mono' EncE.mono k) hok hl
  | e h hok hl => exact .e (h.mono k) hok hl
  | f h hok hl => exact .f (h.mono k) hok hl
theorem HVal.kind {M : Mem} {n : Nat} {l : List El} {v : Value} (h : HVal M n l v) : n ≤ 6 := by cases h <;> omega
theorem els_put {x : El} {l r : List El} (h : r.Perm (x :: l)) : putE (srtE l) x = srtE r := by rw [← srtE_put]; exact srtE_congr h.symm
theorem els_join {l r s : List El} (h : s.Perm (l ++ r)) : srtE (srtE l ++ srtE r) = srtE s := by rw [← srtE_app]; exact srtE_congr h.symm
theorem els_pop {x y : El} {l r s : List El} (h : x :: l = srtE r) (hp : r.Perm (y :: s)) (hg : AllGe y s) : x = y ∧ l = srtE s := by
  rw [srtE_congr hp, srtE_cons hg] at h
  exact ⟨(List.cons.inj h).1, (List.cons.inj h).2⟩
theorem els_none {x : El} {l : List El} {p : Prop} (h : x :: l = srtE []) : p := by cases h
theorem hv_insert {w : World} {M : Mem} {k : Nat} {l : List El} {v : Value} {x : El} (hs : Sat M w) (h : HVal M k l v) (hk : k ≠ 0) (hz : l.length < 1000000000) :
    ∃ (tid : TypeId) (u : Value) (f : FuncId) (r : Value), v = .iface tid u ∧ callable Tryz.prog f = true ∧ (∀ w, (method (Tryz.prog.types.size + Made.depth) tid u "slagheap/heap.insert").run Tryz.prog w = .ok (f, r) w) ∧
      Does Tryz.prog f #[r, .pointer none, .agg (elc x).toArray] w (fun v' w' => ∃ M', Step Nope M w M' w' ∧ HVal M' k (putE l x) v') := by
  cases h with
  | z => exact absurd rfl hk
  | @a t q _ h hok hl =>
    subst hl
    rw [srtE_length] at hz
    exact ⟨69, .agg #[.pointer _], 90, .agg #[.pointer _], rfl, by kernel_rfl, fun _ => by kernel_rfl, (wa_insert hs h (by rw [← t.els_size]; exact hz)).mono fun v' w' ⟨q', M', h1, h2, h3⟩ => ⟨M', h2, by subst h1; exact .a h3 (Lft.insert_ok x t hok) (els_put (Lft.insert_els x t))⟩⟩
  | @b t q _ h hok hl =>
    subst hl
    rw [srtE_length] at hz
    exact ⟨76, .agg #[.pointer _], 155, .agg #[.pointer _], rfl, by kernel_rfl, fun _ => by kernel_rfl, (wb_insert hs h (by rw [← RT.alls_length]; exact hz)).mono fun v' w' ⟨q', M', h1, h2, h3⟩ => ⟨M', h2, by subst h1; exact .b h3 (⟨bput_oks swoE (RT.leaf_ok x) hok.1, bput_nobs ⟨rfl, trivial⟩ hok.2⟩) (els_put (bput_alls t (RT.leaf x)))⟩⟩
  | @c t q _ h hok hl =>
    subst hl
    rw [srtE_length] at hz
    exact ⟨81, .agg #[.pointer _], 176, .agg #[.pointer _], rfl, by kernel_rfl, fun _ => by kernel_rfl, (wc_insert hs h (by rw [← t.els_size]; exact hz)).mono fun v' w' ⟨q', M', h1, h2, h3⟩ => ⟨M', h2, by subst h1; exact .c h3 (Pr.insert_ok x t hok) (els_put (Pr.insert_els x t))⟩⟩
  | @d t q _ h hok hl =>
    subst hl
    rw [srtE_length] at hz
    exact ⟨85, .agg #[.pointer _], 197, .agg #[.pointer _], rfl, by kernel_rfl, fun _ => by kernel_rfl, (wd_insert hs h (by rw [← RT.alls_length]; exact hz)).mono fun v' w' ⟨q', M', h1, h2, h3⟩ => ⟨M', h2, by subst h1; exact .d h3 (sinsert_oks swoE hok) (els_put (sinsert_alls x t))⟩⟩
  | @e t q _ h hok hl =>
    subst hl
    rw [srtE_length] at hz
    exact ⟨90, .agg #[.pointer _], 210, .agg #[.pointer _], rfl, by kernel_rfl, fun _ => by kernel_rfl, (we_insert hs h (by rw [← t.els_size]; exact hz)).mono fun v' w' ⟨q', M', h1, h2, h3⟩ => ⟨M', h2, by subst h1; exact .e h3 (Ro.insert_ok x hok) (els_put (Ro.insert_els x t))⟩⟩
  | @f t q _ h hok hl =>
    subst hl
    rw [srtE_length] at hz
    exact ⟨95, .agg #[.pointer _], 261, .agg #[.pointer _], rfl, by kernel_rfl, fun _ => by kernel_rfl, (wf_insert hs h (Nat.lt_of_le_of_lt (Bt.queue_els hok) hz)).mono fun v' w' ⟨q', M', h1, h2, h3⟩ => ⟨M', h2, by subst h1; exact .f h3 (Bt.insert_ok x hok) (els_put (Bt.insert_els x t))⟩⟩
theorem hv_meld {w : World} {M : Mem} {k : Nat} {l l2 : List El} {v v2 : Value} (hs : Sat M w) (h : HVal M k l v) (h2 : HVal M k l2 v2) (hk : k ≠ 0) (hz : l.length + l2.length < 1000000000) :
    ∃ (tid : TypeId) (u : Value) (f : FuncId) (r : Value), v = .iface tid u ∧ callable Tryz.prog f = true ∧ (∀ w, (method (Tryz.prog.types.size + Made.depth) tid u "slagheap/heap.meld").run Tryz.prog w = .ok (f, r) w) ∧
      Does Tryz.prog f #[r, .pointer none, v2] w (fun v' w' => ∃ M', Step Nope M w M' w' ∧ HVal M' k (srtE (l ++ l2)) v') := by
  cases h with
  | z => exact absurd rfl hk
  | @a t q _ h hok hl =>
    cases h2 with
    | @a u q2 _ h2 hok2 hl2 =>
      subst hl; subst hl2
      rw [srtE_length, srtE_length] at hz
      exact ⟨69, .agg #[.pointer _], 91, .agg #[.pointer _], rfl, by kernel_rfl, fun _ => by kernel_rfl, (wa_meld hs h h2 (by rw [← t.els_size, ← u.els_size]; omega)).mono fun v' w' ⟨q', M', h1, h2, h3⟩ => ⟨M', h2, by subst h1; exact .a h3 (Lft.meld_ok _ _ hok hok2) (els_join (Lft.meld_els t u))⟩⟩
  | @b t q _ h hok hl =>
    cases h2 with
    | @b u q2 _ h2 hok2 hl2 =>
      subst hl; subst hl2
      rw [srtE_length, srtE_length] at hz
      exact ⟨76, .agg #[.pointer _], 156, .agg #[.pointer _], rfl, by kernel_rfl, fun _ => by kernel_rfl, (wb_meld hs h h2 (by rw [← RT.alls_length, ← RT.alls_length]; omega)).mono fun v' w' ⟨q', M', h1, h2, h3⟩ => ⟨M', h2, by subst h1; exact .b h3 (⟨bmeld_oks swoE hok.1 hok2.1, bmeld_nobs hok.2 hok2.2⟩) (els_join (bmeld_alls t u))⟩⟩
  | @c t q _ h hok hl =>
    cases h2 with
    | @c u q2 _ h2 hok2 hl2 =>
      subst hl; subst hl2
      rw [srtE_length, srtE_length] at hz
      exact ⟨81, .agg #[.pointer _], 177, .agg #[.pointer _], rfl, by kernel_rfl, fun _ => by kernel_rfl, (wc_meld hs h h2 (by rw [← t.els_size, ← u.els_size]; omega)).mono fun v' w' ⟨q', M', h1, h2, h3⟩ => ⟨M', h2, by subst h1; exact .c h3 (Pr.meld_ok hok hok2) (els_join (Pr.meld_els t u))⟩⟩
  | @d t q _ h hok hl =>
    cases h2 with
    | @d u q2 _ h2 hok2 hl2 =>
      subst hl; subst hl2
      rw [srtE_length, srtE_length] at hz
      exact ⟨85, .agg #[.pointer _], 198, .agg #[.pointer _], rfl, by kernel_rfl, fun _ => by kernel_rfl, (wd_meld hs h h2 (by rw [← RT.alls_length, ← RT.alls_length]; omega)).mono fun v' w' ⟨q', M', h1, h2, h3⟩ => ⟨M', h2, by subst h1; exact .d h3 (smeld_oks swoE hok hok2) (els_join (smeld_alls t u))⟩⟩
  | @e t q _ h hok hl =>
    cases h2 with
    | @e u q2 _ h2 hok2 hl2 =>
      subst hl; subst hl2
      rw [srtE_length, srtE_length] at hz
      exact ⟨90, .agg #[.pointer _], 211, .agg #[.pointer _], rfl, by kernel_rfl, fun _ => by kernel_rfl, (we_meld hs h h2 (by rw [← t.els_size, ← u.els_size]; omega)).mono fun v' w' ⟨q', M', h1, h2, h3⟩ => ⟨M', h2, by subst h1; exact .e h3 (Ro.meld_ok hok hok2) (els_join (Ro.meld_els t u))⟩⟩
  | @f t q _ h hok hl =>
    cases h2 with
    | @f u q2 _ h2 hok2 hl2 =>
      subst hl; subst hl2
      rw [srtE_length, srtE_length] at hz
      exact ⟨95, .agg #[.pointer _], 262, .agg #[.pointer _], rfl, by kernel_rfl, fun _ => by kernel_rfl, (wf_meld hs h h2 (by have := Bt.queue_els hok; omega) (by have := Bt.queue_els hok2; omega)).mono fun v' w' ⟨q', M', h1, h2, h3⟩ => ⟨M', h2, by subst h1; exact .f h3 (Bt.meld_ok hok hok2) (els_join (Bt.meld_els t u))⟩⟩
theorem cnt0_els {t : Bt} (h : t.ok) : Bt.cnt 0 t = t.els.length := by
  cases t with
  | nil => rfl
  | node x ts => exact Bt.cnt_els 0 _ (by simp) h
theorem cnt1_le {t : Bt} (h : t.ok) (hz : t.els.length < 1000000000) : Bt.cnt 1 t ≤ 1000000000 := by
  cases t with
  | nil => decide
  | node x ts => rw [Bt.cnt_els 1 _ (by simp) h]; omega
theorem hv_size {w : World} {M : Mem} {k : Nat} {l : List El} {v : Value} (hs : Sat M w) (h : HVal M k l v) (hk : k ≠ 0) (hz : l.length < 1000000000) :
    ∃ (tid : TypeId) (u : Value) (f : FuncId) (r : Value), v = .iface tid u ∧ callable Tryz.prog f = true ∧ (∀ w, (method (Tryz.prog.types.size + Made.depth) tid u "slagheap/heap.size").run Tryz.prog w = .ok (f, r) w) ∧
      Does Tryz.prog f #[r] w (fun v' w' => v' = .int .i64 (l.length : Nat) ∧ Step Nope M w M w') := by
  cases h with
  | z => exact absurd rfl hk
  | @a t q _ h hok hl =>
    subst hl
    rw [srtE_length] at hz ⊢
    exact ⟨69, .agg #[.pointer _], 95, .agg #[.pointer _], rfl, by kernel_rfl, fun _ => by kernel_rfl, (wa_size hs h ).mono fun v' w' ⟨h1, h2⟩ => ⟨by rw [h1, t.els_size], h2⟩⟩
  | @b t q _ h hok hl =>
    subst hl
    rw [srtE_length] at hz ⊢
    exact ⟨76, .agg #[.pointer _], 160, .agg #[.pointer _], rfl, by kernel_rfl, fun _ => by kernel_rfl, (wb_size hs h (by rw [← RT.alls_length]; omega)).mono fun v' w' ⟨h1, h2⟩ => ⟨by rw [h1, RT.alls_length t], h2⟩⟩
  | @c t q _ h hok hl =>
    subst hl
    rw [srtE_length] at hz ⊢
    exact ⟨81, .agg #[.pointer _], 181, .agg #[.pointer _], rfl, by kernel_rfl, fun _ => by kernel_rfl, (wc_size hs h ).mono fun v' w' ⟨h1, h2⟩ => ⟨by rw [h1, t.els_size], h2⟩⟩
  | @d t q _ h hok hl =>
    subst hl
    rw [srtE_length] at hz ⊢
    exact ⟨85, .agg #[.pointer _], 202, .agg #[.pointer _], rfl, by kernel_rfl, fun _ => by kernel_rfl, (wd_size hs h (by rw [← RT.alls_length]; omega)).mono fun v' w' ⟨h1, h2⟩ => ⟨by rw [h1, RT.alls_length t], h2⟩⟩
  | @e t q _ h hok hl =>
    subst hl
    rw [srtE_length] at hz ⊢
    exact ⟨90, .agg #[.pointer _], 215, .agg #[.pointer _], rfl, by kernel_rfl, fun _ => by kernel_rfl, (we_size hs h (by rw [← t.els_size]; omega)).mono fun v' w' ⟨h1, h2⟩ => ⟨by rw [h1, t.els_size], h2⟩⟩
  | @f t q _ h hok hl =>
    subst hl
    rw [srtE_length] at hz ⊢
    exact ⟨95, .agg #[.pointer _], 266, .agg #[.pointer _], rfl, by kernel_rfl, fun _ => by kernel_rfl, (wf_size hs h (cnt1_le hok hz)).mono fun v' w' ⟨h1, h2⟩ => ⟨by rw [h1, (cnt0_els hok).symm], h2⟩⟩
end Go.Proofs.YtgcgjpfjjgalmaaGreat
/- Heaps of any kind, by their elements in order, part 2. -/
namespace Go.Proofs.YtgcgjpfjjgalmaaGreat
open Go Go.Eng
theorem hv_min {w : World} {M : Mem} {k : Nat} {x : El} {l : List El} {v : Value} (hs : Sat M w) (h : HVal M k (x :: l) v) (hz : (x :: l).length < 1000000000) :
    ∃ (tid : TypeId) (u : Value) (f : FuncId) (r : Value), v = .iface tid u ∧ callable Tryz.prog f = true ∧ (∀ w, (method (Tryz.prog.types.size + Made.depth) tid u "slagheap/heap.min").run Tryz.prog w = .ok (f, r) w) ∧
      Does Tryz.prog f #[r, .pointer none] w (fun v' w' => v' = .tuple #[.agg (elc x).toArray, .bool true] ∧ Step Nope M w M w') := by
  generalize hxl : x :: l = xl at h hz
  cases h with
  | z => cases hxl
  | @a t q _ h hok hl =>
    subst hl
    cases t with
    | nil => exact els_none hxl
    | node y tl tr =>
      have he := els_pop hxl (.refl _) hok.1
      exact ⟨69, .agg #[.pointer _], 92, .agg #[.pointer _], rfl, by kernel_rfl, fun _ => by kernel_rfl, (wa_min hs h).mono fun v' w' ⟨h1, h2⟩ => ⟨by rw [h1, he.1], h2⟩⟩
  | @b t q _ h hok hl =>
    subst hl
    rw [srtE_length] at hz
    have hne : t ≠ [] := by rintro rfl; exact els_none hxl
    obtain ⟨k, hk⟩ := least_is (lt := ltE) hne
    have hg := least_tree swoE hok.1 hk
    have hp := alls_out hk
    have he := els_pop hxl hp (fun y hy => hg y (hp.mem_iff.2 (List.mem_cons_of_mem _ hy)))
    exact ⟨76, .agg #[.pointer _], 157, .agg #[.pointer _], rfl, by kernel_rfl, fun _ => by kernel_rfl, (wb_min hs h hk (by rw [← RT.alls_length]; omega)).mono fun v' w' ⟨h1, h2⟩ => ⟨by rw [h1, he.1], h2⟩⟩
  | @c t q _ h hok hl =>
    subst hl
    cases t with
    | nil => exact els_none hxl
    | node y ks =>
      have he := els_pop hxl (by simp only [Pr.els]; exact .refl _) (by simp only [Pr.ok] at hok; exact hok.1)
      exact ⟨81, .agg #[.pointer _], 178, .agg #[.pointer _], rfl, by kernel_rfl, fun _ => by kernel_rfl, (wc_min hs h).mono fun v' w' ⟨h1, h2⟩ => ⟨by rw [h1, he.1], h2⟩⟩
  | @d t q _ h hok hl =>
    subst hl
    rw [srtE_length] at hz
    have hne : t ≠ [] := by rintro rfl; exact els_none hxl
    obtain ⟨k, hk⟩ := least_is (lt := ltE) hne
    have hg := least_tree swoE hok hk
    have hp := alls_out hk
    have he := els_pop hxl hp (fun y hy => hg y (hp.mem_iff.2 (List.mem_cons_of_mem _ hy)))
    exact ⟨85, .agg #[.pointer _], 199, .agg #[.pointer _], rfl, by kernel_rfl, fun _ => by kernel_rfl, (wd_min hs h hk (by rw [← RT.alls_length]; omega)).mono fun v' w' ⟨h1, h2⟩ => ⟨by rw [h1, he.1], h2⟩⟩
  | @e t q _ h hok hl =>
    subst hl
    cases t with
    | nil => exact els_none hxl
    | node y ts =>
      have he := els_pop hxl (.refl _) hok.1
      exact ⟨90, .agg #[.pointer _], 212, .agg #[.pointer _], rfl, by kernel_rfl, fun _ => by kernel_rfl, (we_min hs h).mono fun v' w' ⟨h1, h2⟩ => ⟨by rw [h1, he.1], h2⟩⟩
  | @f t q _ h hok hl =>
    subst hl
    cases t with
    | nil => exact els_none (by simpa only [Bt.els] using hxl)
    | node y ts =>
      have he := els_pop hxl (by simp only [Bt.els]; exact .refl _) (by simp only [Bt.ok] at hok; exact hok.1)
      exact ⟨95, .agg #[.pointer _], 263, .agg #[.pointer _], rfl, by kernel_rfl, fun _ => by kernel_rfl, (wf_min hs h).mono fun v' w' ⟨h1, h2⟩ => ⟨by rw [h1, he.1], h2⟩⟩
end Go.Proofs.YtgcgjpfjjgalmaaGreat
/- The calls of heap, part 1. -/
namespace Go.Proofs.YtgcgjpfjjgalmaaGreat
open Go Go.Eng
theorem HVal.iface {M : Mem} {k : Nat} {l : List El} {v : Value} (h : HVal M k l v) (hk : k ≠ 0) : ∃ d u, v = .iface d u := by
  cases h with
  | z => exact absurd rfl hk
  | a h hok hl => exact ⟨_, _, rfl⟩
  | b h hok hl => exact ⟨_, _, rfl⟩
  | c h hok hl => exact ⟨_, _, rfl⟩
  | d h hok hl => exact ⟨_, _, rfl⟩
  | e h hok hl => exact ⟨_, _, rfl⟩
  | f h hok hl => exact ⟨_, _, rfl⟩
theorem HVal.zero {M : Mem} {l : List El} {v : Value} (h : HVal M 0 l v) : l = [] ∧ v = .nilIface := by
  cases h; exact ⟨rfl, rfl⟩
def fullE (k : Nat) (l : List El) : Int := if k = 0 then 22 else if l = [] then 23 else 0
def insL (k : Nat) (l : List El) (x : El) : List El := if k = 0 then [] else putE l x
def insE (k : Nat) : Int := if k = 0 then 22 else 0
def badM (k k2 : Nat) : Prop := k = 0 ∨ k2 = 0 ∨ k ≠ k2
instance (k k2 : Nat) : Decidable (badM k k2) := by unfold badM; infer_instance
def melK (k k2 : Nat) : Nat := if badM k k2 then 0 else k
def melL (k k2 : Nat) (l l2 : List El) : List El := if badM k k2 then [] else srtE (l ++ l2)
def melE (k k2 : Nat) : Int := if badM k k2 then 22 else 0
def emK (z : Int) : Nat := if 1 ≤ z ∧ z ≤ 6 then z.toNat else 0
def emE (z : Int) : Int := if 1 ≤ z ∧ z ≤ 6 then 0 else 22
def ofL (z : Int) (l : List El) : List El := if 1 ≤ z ∧ z ≤ 6 then srtE l else []
theorem hp_kind_z {w : World} {M : Mem} (hs : Sat M w) :
    Does Tryz.prog 30 #[.agg #[.nilIface]] w (fun r w' => r = .int .i64 (0 : Nat) ∧ Step Nope M w M w') := by
  have hT := Step.refl Nope hs
  refine fn_enter Tryz.func30 rfl (rs := [.tmp 2]) rfl rfl rfl rfl ?_
  refine cw_rs fun _ κ => ?_
  refine as_h rfl (h_boxM hs rfl rfl fun b1 M1 w1 hs1 hb1 e1 => ?_)
  replace hT := hT.then hs1
  refine Sa rfl rfl ?_
  refine as_nil (κ _ _ ?_)
  refine cw_seq fun _ hK2 => ?_
  refine cw_rs fun _ κ => ?_
  refine Sf 0 rfl (by kernel_rfl) rfl ?_
  refine S1 rfl (by kernel_rfl) rfl (by exact BlkR.cell (hs1.sat _ _ _ hb1) rfl) ?_
  refine as_nil (κ _ _ ?_)
  refine cw_block ?_
  refine cw_rs fun _ κ => ?_
  refine as_q rfl rfl (q_isNil (r := .agg #[.pointer none]) (by kernel_rfl) (by kernel_rfl) rfl) ?_
  refine Se rfl rfl rfl ?_
  refine Se rfl rfl rfl ?_
  refine as_nil (κ _ _ ?_)
  refine cw_false rfl ?_
  refine cw_rs fun _ κ => ?_
  refine as_q rfl rfl (q_isNil (r := .agg #[.pointer none]) (by kernel_rfl) (by kernel_rfl) rfl) ?_
  refine Se rfl rfl rfl ?_
  refine Se rfl rfl rfl ?_
  refine as_nil (κ _ _ ?_)
  refine cw_false rfl ?_
  refine cw_rs fun _ κ => ?_
  refine as_q rfl rfl (q_isNil (r := .agg #[.pointer none]) (by kernel_rfl) (by kernel_rfl) rfl) ?_
  refine Se rfl rfl rfl ?_
  refine Se rfl rfl rfl ?_
  refine as_nil (κ _ _ ?_)
  refine cw_false rfl ?_
  refine cw_rs fun _ κ => ?_
  refine as_q rfl rfl (q_isNil (r := .agg #[.pointer none]) (by kernel_rfl) (by kernel_rfl) rfl) ?_
  refine Se rfl rfl rfl ?_
  refine Se rfl rfl rfl ?_
  refine as_nil (κ _ _ ?_)
  refine cw_false rfl ?_
  refine cw_rs fun _ κ => ?_
  refine as_q rfl rfl (q_isNil (r := .agg #[.pointer none]) (by kernel_rfl) (by kernel_rfl) rfl) ?_
  refine Se rfl rfl rfl ?_
  refine Se rfl rfl rfl ?_
  refine as_nil (κ _ _ ?_)
  refine cw_false rfl ?_
  refine cw_rs fun _ κ => ?_
  refine as_q rfl rfl (q_isNil (r := .agg #[.pointer none]) (by kernel_rfl) (by kernel_rfl) rfl) ?_
  refine Se rfl rfl rfl ?_
  refine Se rfl rfl rfl ?_
  refine as_nil (κ _ _ ?_)
  refine cw_false rfl ?_
  refine cw_skip ?_
  refine hK2 _ _ ?_
  refine cw_rs fun _ κ => ?_
  refine Sa rfl rfl ?_
  refine as_nil (κ _ _ ?_)
  refine cw_ret ?_
  exact ⟨_, (res_tmp rfl res_nil), rfl, hT.forget⟩
theorem hp_kind_a {w : World} {M : Mem} {q : Option Addr} (hs : Sat M w) :
    Does Tryz.prog 30 #[.agg #[.iface 69 (.agg #[.pointer q])]] w (fun r w' => r = .int .i64 (1 : Nat) ∧ Step Nope M w M w') := by
  have hT := Step.refl Nope hs
  refine fn_enter Tryz.func30 rfl (rs := [.tmp 2]) rfl rfl rfl rfl ?_
  refine cw_rs fun _ κ => ?_
  refine as_h rfl (h_boxM hs rfl rfl fun b1 M1 w1 hs1 hb1 e1 => ?_)
  replace hT := hT.then hs1
  refine Sa rfl rfl ?_
  refine as_nil (κ _ _ ?_)
  refine cw_seq fun _ hK2 => ?_
  refine cw_rs fun _ κ => ?_
  refine Sf 0 rfl (by kernel_rfl) rfl ?_
  refine S1 rfl (by kernel_rfl) rfl (by exact BlkR.cell (hs1.sat _ _ _ hb1) rfl) ?_
  refine as_nil (κ _ _ ?_)
  refine cw_block ?_
  refine cw_rs fun _ κ => ?_
  refine as_q rfl rfl (q_isT (by kernel_rfl) rfl) ?_
  refine Se rfl rfl rfl ?_
  refine Se rfl rfl rfl ?_
  refine as_nil (κ _ _ ?_)
  refine cw_true rfl ?_
  refine cw_rs fun _ κ => ?_
  refine Sa rfl rfl ?_
  refine as_nil (κ _ _ ?_)
  refine cw_ret ?_
  exact ⟨_, (res_tmp rfl res_nil), rfl, hT.forget⟩
theorem hp_kind_b {w : World} {M : Mem} {q : Option Addr} (hs : Sat M w) :
    Does Tryz.prog 30 #[.agg #[.iface 76 (.agg #[.pointer q])]] w (fun r w' => r = .int .i64 (2 : Nat) ∧ Step Nope M w M w') := by
  have hT := Step.refl Nope hs
  refine fn_enter Tryz.func30 rfl (rs := [.tmp 2]) rfl rfl rfl rfl ?_
  refine cw_rs fun _ κ => ?_
  refine as_h rfl (h_boxM hs rfl rfl fun b1 M1 w1 hs1 hb1 e1 => ?_)
  replace hT := hT.then hs1
  refine Sa rfl rfl ?_
  refine as_nil (κ _ _ ?_)
  refine cw_seq fun _ hK2 => ?_
  refine cw_rs fun _ κ => ?_
  refine Sf 0 rfl (by kernel_rfl) rfl ?_
  refine S1 rfl (by kernel_rfl) rfl (by exact BlkR.cell (hs1.sat _ _ _ hb1) rfl) ?_
  refine as_nil (κ _ _ ?_)
  refine cw_block ?_
  refine cw_rs fun _ κ => ?_
  refine as_q rfl rfl (q_isF (r := .agg #[.pointer none]) (by kernel_rfl) (by kernel_rfl) rfl rfl) ?_
  refine Se rfl rfl rfl ?_
  refine Se rfl rfl rfl ?_
  refine as_nil (κ _ _ ?_)
  refine cw_false rfl ?_
  refine cw_rs fun _ κ => ?_
  refine as_q rfl rfl (q_isT (by kernel_rfl) rfl) ?_
  refine Se rfl rfl rfl ?_
  refine Se rfl rfl rfl ?_
  refine as_nil (κ _ _ ?_)
  refine cw_true rfl ?_
  refine cw_rs fun _ κ => ?_
  refine Sa rfl rfl ?_
  refine as_nil (κ _ _ ?_)
  refine cw_ret ?_
  exact ⟨_, (res_tmp rfl res_nil), rfl, hT.forget⟩
theorem hp_kind_c {w : World} {M : Mem} {q : Option Addr} (hs : Sat M w) :
    Does Tryz.prog 30 #[.agg #[.iface 81 (.agg #[.pointer q])]] w (fun r w' => r = .int .i64 (3 : Nat) ∧ Step Nope M w M w') := by
  have hT := Step.refl Nope hs
  refine fn_enter Tryz.func30 rfl (rs := [.tmp 2]) rfl rfl rfl rfl ?_
  refine cw_rs fun _ κ => ?_
  refine as_h rfl (h_boxM hs rfl rfl fun b1 M1 w1 hs1 hb1 e1 => ?_)
  replace hT := hT.then hs1
  refine Sa rfl rfl ?_
  refine as_nil (κ _ _ ?_)
  refine cw_seq fun _ hK2 => ?_
  refine cw_rs fun _ κ => ?_
  refine Sf 0 rfl (by kernel_rfl) rfl ?_
  refine S1 rfl (by kernel_rfl) rfl (by exact BlkR.cell (hs1.sat _ _ _ hb1) rfl) ?_
  refine as_nil (κ _ _ ?_)
  refine cw_block ?_
  refine cw_rs fun _ κ => ?_
  refine as_q rfl rfl (q_isF (r := .agg #[.pointer none]) (by kernel_rfl) (by kernel_rfl) rfl rfl) ?_
  refine Se rfl rfl rfl ?_
  refine Se rfl rfl rfl ?_
  refine as_nil (κ _ _ ?_)
  refine cw_false rfl ?_
  refine cw_rs fun _ κ => ?_
  refine as_q rfl rfl (q_isF (r := .agg #[.pointer none]) (by kernel_rfl) (by kernel_rfl) rfl rfl) ?_
  refine Se rfl rfl rfl ?_
  refine Se rfl rfl rfl ?_
  refine as_nil (κ _ _ ?_)
  refine cw_false rfl ?_
  refine cw_rs fun _ κ => ?_
  refine as_q rfl rfl (q_isT (by kernel_rfl) rfl) ?_
  refine Se rfl rfl rfl ?_
  refine Se rfl rfl rfl ?_
  refine as_nil (κ _ _ ?_)
  refine cw_true rfl ?_
  refine cw_rs fun _ κ => ?_
  refine Sa rfl rfl ?_
  refine as_nil (κ _ _ ?_)
  refine cw_ret ?_
  exact ⟨_, (res_tmp rfl res_nil), rfl, hT.forget⟩
theorem hp_kind_d {w : World} {M : Mem} {q : Option Addr} (hs : Sat M w) :
    Does Tryz.prog 30 #[.agg #[.iface 85 (.agg #[.pointer q])]] w (fun r w' => r = .int .i64 (4 : Nat) ∧ Step Nope M w M w') := by
  have hT := Step.refl Nope hs
  refine fn_enter Tryz.func30 rfl (rs := [.tmp 2]) rfl rfl rfl rfl ?_
  refine cw_rs fun _ κ => ?_
  refine as_h rfl (h_boxM hs rfl rfl fun b1 M1 w1 hs1 hb1 e1 => ?_)
  replace hT := hT.then hs1
  refine Sa rfl rfl ?_
  refine as_nil (κ _ _ ?_)
  refine cw_seq fun _ hK2 => ?_
  refine cw_rs fun _ κ => ?_
  refine Sf 0 rfl (by kernel_rfl) rfl ?_
  refine S1 rfl (by kernel_rfl) rfl (by exact BlkR.cell (hs1.sat _ _ _ hb1) rfl) ?_
  refine as_nil (κ _ _ ?_)
  refine cw_block ?_
  refine cw_rs fun _ κ => ?_
  refine as_q rfl rfl (q_isF (r := .agg #[.pointer none]) (by kernel_rfl) (by kernel_rfl) rfl rfl) ?_
  refine Se rfl rfl rfl ?_
  refine Se rfl rfl rfl ?_
  refine as_nil (κ _ _ ?_)
  refine cw_false rfl ?_
  refine cw_rs fun _ κ => ?_
  refine as_q rfl rfl (q_isF (r := .agg #[.pointer none]) (by kernel_rfl) (by kernel_rfl) rfl rfl) ?_
  refine Se rfl rfl rfl ?_
  refine Se rfl rfl rfl ?_
  refine as_nil (κ _ _ ?_)
  refine cw_false rfl ?_
  refine cw_rs fun _ κ => ?_
  refine as_q rfl rfl (q_isF (r := .agg #[.pointer none]) (by kernel_rfl) (by kernel_rfl) rfl rfl) ?_
  refine Se rfl rfl rfl ?_
  refine Se rfl rfl rfl ?_
  refine as_nil (κ _ _ ?_)
  refine cw_false rfl ?_
  refine cw_rs fun _ κ => ?_
  refine as_q rfl rfl (q_isT (by kernel_rfl) rfl) ?_
  refine Se rfl rfl rfl ?_
  refine Se rfl rfl rfl ?_
  refine as_nil (κ _ _ ?_)
  refine cw_true rfl ?_
  refine cw_rs fun _ κ => ?_
  refine Sa rfl rfl ?_
  refine as_nil (κ _ _ ?_)
  refine cw_ret ?_
  exact ⟨_, (res_tmp rfl res_nil), rfl, hT.forget⟩
theorem hp_kind_e {w : World} {M : Mem} {q : Option Addr} (hs : Sat M w) :
    Does Tryz.prog 30 #[.agg #[.iface 90 (.agg #[.pointer q])]] w (fun r w' => r = .int .i64 (5 : Nat) ∧ Step Nope M w M w') := by
  have hT := Step.refl Nope hs
  refine fn_enter Tryz.func30 rfl (rs := [.tmp 2]) rfl rfl rfl rfl ?_
  refine cw_rs fun _ κ => ?_
  refine as_h rfl (h_boxM hs rfl rfl fun b1 M1 w1 hs1 hb1 e1 => ?_)
  replace hT := hT.then hs1
  refine Sa rfl rfl ?_
  refine as_nil (κ _ _ ?_)
  refine cw_seq fun _ hK2 => ?_
  refine cw_rs fun _ κ => ?_
  refine Sf 0 rfl (by kernel_rfl) rfl ?_
  refine S1 rfl (by kernel_rfl) rfl (by exact BlkR.cell (hs1.sat _ _ _ hb1) rfl) ?_
  refine as_nil (κ _ _ ?_)
  refine cw_block ?_
  refine cw_rs fun _ κ => ?_
  refine as_q rfl rfl (q_isF (r := .agg #[.pointer none]) (by kernel_rfl) (by kernel_rfl) rfl rfl) ?_
  refine Se rfl rfl rfl ?_
  refine Se rfl rfl rfl ?_
  refine as_nil (κ _ _ ?_)
  refine cw_false rfl ?_
  refine cw_rs fun _ κ => ?_
  refine as_q rfl rfl (q_isF (r := .agg #[.pointer none]) (by kernel_rfl) (by kernel_rfl) rfl rfl) ?_
  refine Se rfl rfl rfl ?_
  refine Se rfl rfl rfl ?_
  refine as_nil (κ _ _ ?_)
  refine cw_false rfl ?_
  refine cw_rs fun _ κ => ?_
  refine as_q rfl rfl (q_isF (r := .agg #[.pointer none]) (by kernel_rfl) (by kernel_rfl) rfl rfl) ?_
  refine Se rfl rfl rfl ?_
  refine Se rfl rfl rfl ?_
  refine as_nil (κ _ _ ?_)
  refine cw_false rfl ?_
  refine cw_rs fun _ κ => ?_
  refine as_q rfl rfl (q_isF (r := .agg #[.pointer none]) (by kernel_rfl) (by kernel_rfl) rfl rfl) ?_
  refine Se rfl rfl rfl ?_
  refine Se rfl rfl rfl ?_
  refine as_nil (κ _ _ ?_)
  refine cw_false rfl ?_
  refine cw_rs fun _ κ => ?_
  refine as_q rfl rfl (q_isT (by kernel_rfl) rfl) ?_
  refine Se rfl rfl rfl ?_
  refine Se rfl rfl rfl ?_
  refine as_nil (κ _ _ ?_)
  refine cw_true rfl ?_
  refine cw_rs fun _ κ => ?_
  refine Sa rfl rfl ?_
  refine as_nil (κ _ _ ?_)
  refine cw_ret ?_
  exact ⟨_, (res_tmp rfl res_nil), rfl, hT.forget⟩
theorem hp_kind_f {w : World} {M : Mem} {q : Option Addr} (hs : Sat M w) :
    Does Tryz.prog 30 #[.agg #[.iface 95 (.agg #[.pointer q])]] w (fun r w' => r = .int .i64 (6 : Nat) ∧ Step Nope M w M w') := by
  have hT := Step.refl Nope hs
  refine fn_enter Tryz.func30 rfl (rs := [.tmp 2]) rfl rfl rfl rfl ?_
  refine cw_rs fun _ κ => ?_
  refine as_h rfl (h_boxM hs rfl rfl fun b1 M1 w1 hs1 hb1 e1 => ?_)
  replace hT := hT.then hs1
  refine Sa rfl rfl ?_
  refine as_nil (κ _ _ ?_)
  refine cw_seq fun _ hK2 => ?_
  refine cw_rs fun _ κ => ?_
  refine Sf 0 rfl (by kernel_rfl) rfl ?_
  refine S1 rfl (by kernel_rfl) rfl (by exact BlkR.cell (hs1.sat _ _ _ hb1) rfl) ?_
  refine as_nil (κ _ _ ?_)
  refine cw_block ?_
  refine cw_rs fun _ κ => ?_
  refine as_q rfl rfl (q_isF (r := .agg #[.pointer none]) (by kernel_rfl) (by kernel_rfl) rfl rfl) ?_
  refine Se rfl rfl rfl ?_
  refine Se rfl rfl rfl ?_
  refine as_nil (κ _ _ ?_)
  refine cw_false rfl ?_
  refine cw_rs fun _ κ => ?_
  refine as_q rfl rfl (q_isF (r := .agg #[.pointer none]) (by kernel_rfl) (by kernel_rfl) rfl rfl) ?_
  refine Se rfl rfl rfl ?_
  refine Se rfl rfl rfl ?_
  refine as_nil (κ _ _ ?_)
  refine cw_false rfl ?_
  refine cw_rs fun _ κ => ?_
  refine as_q rfl rfl (q_isF (r := .agg #[.pointer none]) (by kernel_rfl) (by kernel_rfl) rfl rfl) ?_
  refine Se rfl rfl rfl ?_
  refine Se rfl rfl rfl ?_
  refine as_nil (κ _ _ ?_)
  refine cw_false rfl ?_
  refine cw_rs fun _ κ => ?_
  refine as_q rfl rfl (q_isF (r := .agg #[.pointer none]) (by kernel_rfl) (by kernel_rfl) rfl rfl) ?_
  refine Se rfl rfl rfl ?_
  refine Se rfl rfl rfl ?_
  refine as_nil (κ _ _ ?_)
  refine cw_false rfl ?_
  refine cw_rs fun _ κ => ?_
  refine as_q rfl rfl (q_isF (r := .agg #[.pointer none]) (by kernel_rfl) (by kernel_rfl) rfl rfl) ?_
  refine Se rfl rfl rfl ?_
  refine Se rfl rfl rfl ?_
  refine as_nil (κ _ _ ?_)
  refine cw_false rfl ?_
  refine cw_rs fun _ κ => ?_
  refine as_q rfl rfl (q_isT (by kernel_rfl) rfl) ?_
  refine Se rfl rfl rfl ?_
  refine Se rfl rfl rfl ?_
  refine as_nil (κ _ _ ?_)
  refine cw_true rfl ?_
  refine cw_rs fun _ κ => ?_
  refine Sa rfl rfl ?_
  refine as_nil (κ _ _ ?_)
  refine cw_ret ?_
  exact ⟨_, (res_tmp rfl res_nil), rfl, hT.forget⟩
theorem hp_kind {w : World} {M : Mem} {k : Nat} {l : List El} {v : Value} (hs : Sat M w) (h : HVal M k l v) : Does Tryz.prog 30 #[.agg #[v]] w (fun r w' => r = .int .i64 (k : Nat) ∧ Step Nope M w M w') := by
  cases h with
  | z => exact hp_kind_z hs
  | a h hok hl => exact hp_kind_a hs
  | b h hok hl => exact hp_kind_b hs
  | c h hok hl => exact hp_kind_c hs
  | d h hok hl => exact hp_kind_d hs
  | e h hok hl => exact hp_kind_e hs
  | f h hok hl => exact hp_kind_f hs
theorem hp_size_0 {w : World} {M : Mem} (hs : Sat M w) :
    Does Tryz.prog 21 #[.agg #[.nilIface]] w (fun r w' => r = .int .i64 ((0 : Nat) : Int) ∧ Step Nope M w M w') := by
  have hT := Step.refl Nope hs
  refine fn_enter Tryz.func21 rfl (rs := [.tmp 2]) rfl rfl rfl rfl ?_
  refine cw_rs fun _ κ => ?_
  refine as_h rfl (h_boxM hs rfl rfl fun b1 M1 w1 hs1 hb1 e1 => ?_)
  replace hT := hT.then hs1
  refine Sa rfl rfl ?_
  refine as_nil (κ _ _ ?_)
  refine cw_seq fun _ hK2 => ?_
  refine cw_rs fun _ κ => ?_
  refine Sf 0 rfl (by kernel_rfl) rfl ?_
  refine S1 rfl (by kernel_rfl) rfl (by exact BlkR.cell (hs1.sat _ _ _ hb1) rfl) ?_
  refine as_q rfl rfl (q_ifNil (by kernel_rfl) rfl) ?_
  refine as_nil (κ _ _ ?_)
  refine cw_true rfl ?_
  refine cw_rs fun _ κ => ?_
  refine Sa rfl rfl ?_
  refine as_nil (κ _ _ ?_)
  refine cw_ret ?_
  exact ⟨_, (res_tmp rfl res_nil), rfl, hT.forget⟩
theorem hp_size_1 {w : World} {M : Mem} {k : Nat} {l : List El} {v : Value} (hs : Sat M w) (h : HVal M k l v) (hk : k ≠ 0) (hz : l.length < 1000000000) :
    Does Tryz.prog 21 #[.agg #[v]] w (fun r w' => r = .int .i64 (l.length : Nat) ∧ Step Nope M w M w') := by
  have hT := Step.refl Nope hs
  obtain ⟨d, u, rfl⟩ := h.iface hk
  refine fn_enter Tryz.func21 rfl (rs := [.tmp 2]) rfl rfl rfl rfl ?_
  refine cw_rs fun _ κ => ?_
  refine as_h rfl (h_boxM hs rfl rfl fun b1 M1 w1 hs1 hb1 e1 => ?_)
  replace h := h.mono hs1.le
  replace hT := hT.then hs1
  refine Sa rfl rfl ?_
  refine as_nil (κ _ _ ?_)
  refine cw_seq fun _ hK2 => ?_
  refine cw_rs fun _ κ => ?_
  refine Sf 0 rfl (by kernel_rfl) rfl ?_
  refine S1 rfl (by kernel_rfl) rfl (by exact BlkR.cell (hs1.sat _ _ _ hb1) rfl) ?_
  refine as_q rfl rfl (q_ifSome (by kernel_rfl) rfl) ?_
  refine as_nil (κ _ _ ?_)
  refine cw_false rfl ?_
  refine cw_skip ?_
  refine hK2 _ _ ?_
  refine cw_rs fun _ κ => ?_
  refine Sf 0 rfl (by kernel_rfl) rfl ?_
  refine S1 rfl (by kernel_rfl) rfl (by exact BlkR.cell (hs1.sat _ _ _ hb1) rfl) ?_
  obtain ⟨d0, u0, f0, r0, hv0, hc0_, hm0, hd0⟩ := hv_size hs1.sat h hk hz
  cases hv0
  refine as_h rfl (h_invokeP hc0_ rfl rfl (hm0 _) ?_)
  refine hd0.mono ?_
  rintro _ w2 ⟨rfl, hs2⟩
  replace h := h.mono hs2.le
  replace hT := hT.then hs2
  refine Sa rfl rfl ?_
  refine as_nil (κ _ _ ?_)
  refine cw_ret ?_
  exact ⟨_, (res_tmp rfl res_nil), rfl, hT.forget⟩
theorem hp_size {w : World} {M : Mem} {k : Nat} {l : List El} {v : Value} (hs : Sat M w) (h : HVal M k l v) (hz : l.length < 1000000000) : Does Tryz.prog 21 #[.agg #[v]] w (fun r w' => r = .int .i64 (l.length : Nat) ∧ Step Nope M w M w') := by
  by_cases hk : k = 0
  · subst hk; obtain ⟨rfl, rfl⟩ := h.zero; exact hp_size_0 hs
  · exact hp_size_1 hs h hk hz
theorem hp_full_0 {w : World} {M : Mem} (hs : Sat M w) :
    Does Tryz.prog 40 #[.agg #[.nilIface]] w (fun r w' => r = .int .i64 22 ∧ Step Nope M w M w') := by
  have hT := Step.refl Nope hs
  refine fn_enter Tryz.func40 rfl (rs := [.tmp 2]) rfl rfl rfl rfl ?_
  refine cw_rs fun _ κ => ?_
  refine as_h rfl (h_boxM hs rfl rfl fun b1 M1 w1 hs1 hb1 e1 => ?_)
  replace hT := hT.then hs1
  refine Sa rfl rfl ?_
  refine as_nil (κ _ _ ?_)
  refine cw_seq fun _ hK2 => ?_
  refine cw_block ?_
  refine cw_rs fun _ κ => ?_
  refine Sf 0 rfl (by kernel_rfl) rfl ?_
  refine S1 rfl (by kernel_rfl) rfl (by exact BlkR.cell (hs1.sat _ _ _ hb1) rfl) ?_
  refine as_q rfl rfl (q_ifNil (by kernel_rfl) rfl) ?_
  refine Sa rfl rfl ?_
  refine as_nil (κ _ _ ?_)
  refine cw_true rfl ?_
  refine cw_rs fun _ κ => ?_
  refine Sa rfl rfl ?_
  refine as_nil (κ _ _ ?_)
  refine cw_ret ?_
  exact ⟨_, (res_tmp rfl res_nil), rfl, hT.forget⟩
theorem hp_full_1 {w : World} {M : Mem} {k : Nat} {v : Value} (hs : Sat M w) (h : HVal M k [] v) (hk : k ≠ 0) :
    Does Tryz.prog 40 #[.agg #[v]] w (fun r w' => r = .int .i64 23 ∧ Step Nope M w M w') := by
  have hT := Step.refl Nope hs
  obtain ⟨d, u, rfl⟩ := h.iface hk
  refine fn_enter Tryz.func40 rfl (rs := [.tmp 2]) rfl rfl rfl rfl ?_
  refine cw_rs fun _ κ => ?_
  refine as_h rfl (h_boxM hs rfl rfl fun b1 M1 w1 hs1 hb1 e1 => ?_)
  replace h := h.mono hs1.le
  replace hT := hT.then hs1
  refine Sa rfl rfl ?_
  refine as_nil (κ _ _ ?_)
  refine cw_seq fun _ hK2 => ?_
  refine cw_block ?_
  refine cw_rs fun _ κ => ?_
  refine Sf 0 rfl (by kernel_rfl) rfl ?_
  refine S1 rfl (by kernel_rfl) rfl (by exact BlkR.cell (hs1.sat _ _ _ hb1) rfl) ?_
  refine as_q rfl rfl (q_ifSome (by kernel_rfl) rfl) ?_
  refine Sa rfl rfl ?_
  refine as_nil (κ _ _ ?_)
  refine cw_false rfl ?_
  refine cw_rs fun _ κ => ?_
  refine Sc 1 rfl (by kernel_rfl) rfl (by exact BlkR.cells (hs1.sat _ _ _ hb1) rfl) ?_
  refine as_h rfl (h_call (by kernel_rfl) rfl ?_)
  refine (hp_size hs1.sat h (by decide)).mono ?_
  rintro _ w2 ⟨rfl, hs2⟩
  replace h := h.mono hs2.le
  replace hT := hT.then hs2
  refine as_q rfl rfl (q_eqT rfl rfl (by simp)) ?_
  refine Sa rfl rfl ?_
  refine as_nil (κ _ _ ?_)
  refine cw_true rfl ?_
  refine cw_rs fun _ κ => ?_
  refine Sa rfl rfl ?_
  refine as_nil (κ _ _ ?_)
  refine cw_ret ?_
  exact ⟨_, (res_tmp rfl res_nil), rfl, hT.forget⟩
theorem hp_full_2 {w : World} {M : Mem} {k : Nat} {x : El} {l : List El} {v : Value} (hs : Sat M w) (h : HVal M k (x :: l) v) (hk : k ≠ 0) (hz : (x :: l).length < 1000000000) :
    Does Tryz.prog 40 #[.agg #[v]] w (fun r w' => r = .int .i64 0 ∧ Step Nope M w M w') := by
  have hT := Step.refl Nope hs
  obtain ⟨d, u, rfl⟩ := h.iface hk
  refine fn_enter Tryz.func40 rfl (rs := [.tmp 2]) rfl rfl rfl rfl ?_
  refine cw_rs fun _ κ => ?_
  refine as_h rfl (h_boxM hs rfl rfl fun b1 M1 w1 hs1 hb1 e1 => ?_)
  replace h := h.mono hs1.le
  replace hT := hT.then hs1
  refine Sa rfl rfl ?_
  refine as_nil (κ _ _ ?_)
  refine cw_seq fun _ hK2 => ?_
  refine cw_block ?_
  refine cw_rs fun _ κ => ?_
  refine Sf 0 rfl (by kernel_rfl) rfl ?_
  refine S1 rfl (by kernel_rfl) rfl (by exact BlkR.cell (hs1.sat _ _ _ hb1) rfl) ?_
  refine as_q rfl rfl (q_ifSome (by kernel_rfl) rfl) ?_
  refine Sa rfl rfl ?_
  refine as_nil (κ _ _ ?_)
  refine cw_false rfl ?_
  refine cw_rs fun _ κ => ?_
  refine Sc 1 rfl (by kernel_rfl) rfl (by exact BlkR.cells (hs1.sat _ _ _ hb1) rfl) ?_
  refine as_h rfl (h_call (by kernel_rfl) rfl ?_)
  refine (hp_size hs1.sat h (by exact hz)).mono ?_
  rintro _ w2 ⟨rfl, hs2⟩
  replace h := h.mono hs2.le
  replace hT := hT.then hs2
  refine as_q rfl rfl (q_eqF rfl rfl (by simp only [List.length_cons]; omega)) ?_
  refine Sa rfl rfl ?_
  refine as_nil (κ _ _ ?_)
  refine cw_false rfl ?_
  refine cw_skip ?_
  refine hK2 _ _ ?_
  refine cw_rs fun _ κ => ?_
  refine Sa rfl rfl ?_
  refine as_nil (κ _ _ ?_)
  refine cw_ret ?_
  exact ⟨_, (res_tmp rfl res_nil), rfl, hT.forget⟩
theorem hp_full {w : World} {M : Mem} {k : Nat} {l : List El} {v : Value} (hs : Sat M w) (h : HVal M k l v) (hz : l.length < 1000000000) : Does Tryz.prog 40 #[.agg #[v]] w (fun r w' => r = .int .i64 (fullE k l) ∧ Step Nope M w M w') := by
  by_cases hk : k = 0
  · subst hk; obtain ⟨rfl, rfl⟩ := h.zero; exact hp_full_0 hs
  · unfold fullE
    rw [if_neg hk]
    cases l with
    | nil => exact hp_full_1 hs h hk
    | cons x l => exact hp_full_2 hs h hk hz
end Go.Proofs.YtgcgjpfjjgalmaaGreat
/- The calls of heap, part 2. -/
namespace Go.Proofs.YtgcgjpfjjgalmaaGreat
open Go Go.Eng
theorem hp_min_0 {w : World} {M : Mem} {k : Nat} {v : Value} (hs : Sat M w) (h : HVal M k [] v) :
    Does Tryz.prog 28 #[.agg #[v], .pointer none] w (fun r w' => r = .tuple #[.agg (elc (0, 0)).toArray, .int .i64 (fullE k [])] ∧ Step Nope M w M w') := by
  have hT := Step.refl Nope hs
  have hfe : fullE k [] = 22 ∨ fullE k [] = 23 := by unfold fullE; split <;> simp
  refine fn_enter Tryz.func28 rfl (rs := [.cell 4 24, .tmp 5]) rfl rfl rfl rfl ?_
  refine cw_rs fun _ κ => ?_
  refine as_h rfl (h_boxM hs rfl rfl fun b1 M1 w1 hs1 hb1 e1 => ?_)
  replace h := h.mono hs1.le
  replace hT := hT.then hs1
  have hz1 := hs1.size
  have hqar := hT.size
  refine as_h rfl (h_allocO (z := (.agg #[(.int .i64 0), (.int .i64 0)])) hs1.sat (by kernel_rfl) rfl fun br w2 hs2 hor er => ?_)
  replace h := h.mono hs2.le
  replace hb1 := hs2.le _ _ hb1
  replace hT := hT.then hs2
  have hz2 := hs2.size
  have hlr := hor.1.lt
  refine Sa rfl rfl ?_
  refine as_nil (κ _ _ ?_)
  refine cw_seq fun _ hK2 => ?_
  refine cw_rs fun _ κ => ?_
  refine Sc 1 rfl (by kernel_rfl) rfl (by exact BlkR.cells (hs2.sat _ _ _ hb1) rfl) ?_
  refine as_h rfl (h_call (by kernel_rfl) rfl ?_)
  refine (hp_full hs2.sat h (by decide)).mono ?_
  rintro _ w3 ⟨rfl, hs3⟩
  replace h := h.mono hs3.le
  replace hor := hor.then hs3
  replace hT := hT.then hs3
  have hz3 := hs3.size
  refine Sa rfl rfl ?_
  refine as_nil (κ _ _ ?_)
  refine cw_rs fun _ κ => ?_
  refine Sm rfl rfl ?_
  refine as_q rfl rfl (q_neT rfl rfl (by omega)) ?_
  refine as_nil (κ _ _ ?_)
  refine cw_true rfl ?_
  refine cw_rs fun _ κ => ?_
  refine as_q rfl rfl (q_build (zs := [(.int .i64 0), (.int .i64 0)]) (places := [(0, 1), (1, 1)]) (cs := [_, _]) (by kernel_rfl) (by kernel_rfl) rfl rfl) ?_
  refine Sm rfl rfl ?_
  refine as_h0 (h_store hs3.sat hor rfl rfl rfl (by kernel_rfl) rfl rfl rfl fun w4 hs4 hn4 => ?_)
  replace h := h.mono hs4.le
  clear hor; have hor := hn4; clear hn4
  replace hT := hT.own hs4 (by omega)
  have hz4 := hs4.size
  refine Sa rfl rfl ?_
  refine as_nil (κ _ _ ?_)
  refine cw_ret ?_
  exact ⟨_, (res_cell rfl (loadVar_n (n := 2) (by kernel_rfl) (by exact Blk.cells hor.1 rfl)) (res_tmp rfl res_nil)), rfl, hT.forget⟩
theorem hp_min_1 {w : World} {M : Mem} {k : Nat} {x : El} {l : List El} {v : Value} (hs : Sat M w) (h : HVal M k (x :: l) v) (hk : k ≠ 0) (hz : (x :: l).length < 1000000000) :
    Does Tryz.prog 28 #[.agg #[v], .pointer none] w (fun r w' => r = .tuple #[.agg (elc x).toArray, .int .i64 (fullE k (x :: l))] ∧ Step Nope M w M w') := by
  have hT := Step.refl Nope hs
  have hfe : fullE k (x :: l) = 0 := by unfold fullE; rw [if_neg hk, if_neg (by simp)]
  obtain ⟨d, u, rfl⟩ := h.iface hk
  refine fn_enter Tryz.func28 rfl (rs := [.cell 4 24, .tmp 5]) rfl rfl rfl rfl ?_
  refine cw_rs fun _ κ => ?_
  refine as_h rfl (h_boxM hs rfl rfl fun b1 M1 w1 hs1 hb1 e1 => ?_)
  replace h := h.mono hs1.le
  replace hT := hT.then hs1
  have hz1 := hs1.size
  have hqar := hT.size
  refine as_h rfl (h_allocO (z := (.agg #[(.int .i64 0), (.int .i64 0)])) hs1.sat (by kernel_rfl) rfl fun br w2 hs2 hor er => ?_)
  replace h := h.mono hs2.le
  replace hb1 := hs2.le _ _ hb1
  replace hT := hT.then hs2
  have hz2 := hs2.size
  have hlr := hor.1.lt
  refine Sa rfl rfl ?_
  refine as_nil (κ _ _ ?_)
  refine cw_seq fun _ hK2 => ?_
  refine cw_rs fun _ κ => ?_
  refine Sc 1 rfl (by kernel_rfl) rfl (by exact BlkR.cells (hs2.sat _ _ _ hb1) rfl) ?_
  refine as_h rfl (h_call (by kernel_rfl) rfl ?_)
  refine (hp_full hs2.sat h hz).mono ?_
  rintro _ w3 ⟨rfl, hs3⟩
  replace h := h.mono hs3.le
  replace hb1 := hs3.le _ _ hb1
  replace hor := hor.then hs3
  replace hT := hT.then hs3
  have hz3 := hs3.size
  refine Sa rfl rfl ?_
  refine as_nil (κ _ _ ?_)
  refine cw_rs fun _ κ => ?_
  refine Sm rfl rfl ?_
  refine as_q rfl rfl (q_neF rfl rfl (by omega)) ?_
  refine as_nil (κ _ _ ?_)
  refine cw_false rfl ?_
  refine cw_skip ?_
  refine hK2 _ _ ?_
  refine cw_rs fun _ κ => ?_
  refine Sf 0 rfl (by kernel_rfl) rfl ?_
  refine S1 rfl (by kernel_rfl) rfl (by exact BlkR.cell (hs3.sat _ _ _ hb1) rfl) ?_
  refine Sm rfl rfl ?_
  obtain ⟨d0, u0, f0, r0, hv0, hc0_, hm0, hd0⟩ := hv_min hs3.sat h hz
  cases hv0
  refine as_h rfl (h_invokeP hc0_ rfl rfl (hm0 _) ?_)
  refine hd0.mono ?_
  rintro _ w4 ⟨rfl, hs4⟩
  replace h := h.mono hs4.le
  replace hor := hor.then hs4
  replace hT := hT.then hs4
  have hz4 := hs4.size
  refine Sm rfl rfl ?_
  refine Se rfl rfl rfl ?_
  refine Se rfl rfl rfl ?_
  have hqax := hT.size
  refine as_h rfl (h_allocO (z := (.agg #[(.int .i64 0), (.int .i64 0)])) hs4.sat (by kernel_rfl) rfl fun bx w5 hs5 hox ex => ?_)
  replace h := h.mono hs5.le
  replace hor := hor.then hs5
  replace hT := hT.then hs5
  have hz5 := hs5.size
  have hlx := hox.1.lt
  refine as_h0 (h_store hs5.sat hox rfl rfl rfl (by kernel_rfl) rfl rfl rfl fun w6 hs6 hn6 => ?_)
  replace h := h.mono hs6.le
  replace hor := hor.step hs6 (fun h => by have h : _ = _ := h; omega)
  clear hox; have hox := hn6; clear hn6
  replace hT := hT.own hs6 (by omega)
  have hz6 := hs6.size
  refine Sa rfl rfl ?_
  refine as_nil (κ _ _ ?_)
  refine cw_rs fun _ κ => ?_
  refine Sc 2 rfl (by kernel_rfl) rfl (by exact Blk.cells hox.1 rfl) ?_
  refine as_h0 (h_store hs6.sat hor rfl rfl rfl (by kernel_rfl) rfl rfl rfl fun w7 hs7 hn7 => ?_)
  replace h := h.mono hs7.le
  clear hor; have hor := hn7; clear hn7
  replace hT := hT.own hs7 (by omega)
  have hz7 := hs7.size
  refine Sa rfl rfl ?_
  refine as_nil (κ _ _ ?_)
  refine cw_ret ?_
  rw [hfe]
  exact ⟨_, (res_cell rfl (loadVar_n (n := 2) (by kernel_rfl) (by exact Blk.cells hor.1 rfl)) (res_tmp rfl res_nil)), rfl, hT.forget⟩
theorem hp_min {w : World} {M : Mem} {k : Nat} {l : List El} {v : Value} (hs : Sat M w) (h : HVal M k l v) (hz : l.length < 1000000000) : Does Tryz.prog 28 #[.agg #[v], .pointer none] w (fun r w' => r = .tuple #[.agg (elc (l.headD (0, 0))).toArray, .int .i64 (fullE k l)] ∧ Step Nope M w M w') := by
  cases l with
  | nil => exact hp_min_0 hs h
  | cons x l => exact hp_min_1 hs h (by rintro rfl; cases h.zero.1) hz
theorem hp_pop_0 {w : World} {M : Mem} {k : Nat} {v : Value} (hs : Sat M w) (h : HVal M k [] v) :
    Does Tryz.prog 27 #[.agg #[v], .pointer none] w (fun r w' => ∃ v' M', r = .tuple #[.agg #[v'], .int .i64 (fullE k [])] ∧ Step Nope M w M' w' ∧ HVal M' 0 [] v') := by
  have hT := Step.refl Nope hs
  have hfe : fullE k [] = 22 ∨ fullE k [] = 23 := by unfold fullE; split <;> simp
  refine fn_enter Tryz.func27 rfl (rs := [.cell 4 29, .tmp 5]) rfl rfl rfl rfl ?_
  refine cw_rs fun _ κ => ?_
  refine as_h rfl (h_boxM hs rfl rfl fun b1 M1 w1 hs1 hb1 e1 => ?_)
  replace h := h.mono hs1.le
  replace hT := hT.then hs1
  have hz1 := hs1.size
  have hqar := hT.size
  refine as_h rfl (h_allocO (z := (.agg #[.nilIface])) hs1.sat (by kernel_rfl) rfl fun br w2 hs2 hor er => ?_)
  replace h := h.mono hs2.le
  replace hb1 := hs2.le _ _ hb1
  replace hT := hT.then hs2
  have hz2 := hs2.size
  have hlr := hor.1.lt
  refine Sa rfl rfl ?_
  refine as_nil (κ _ _ ?_)
  refine cw_seq fun _ hK2 => ?_
  refine cw_rs fun _ κ => ?_
  refine Sc 1 rfl (by kernel_rfl) rfl (by exact BlkR.cells (hs2.sat _ _ _ hb1) rfl) ?_
  refine as_h rfl (h_call (by kernel_rfl) rfl ?_)
  refine (hp_full hs2.sat h (by decide)).mono ?_
  rintro _ w3 ⟨rfl, hs3⟩
  replace h := h.mono hs3.le
  replace hor := hor.then hs3
  replace hT := hT.then hs3
  have hz3 := hs3.size
  refine Sa rfl rfl ?_
  refine as_nil (κ _ _ ?_)
  refine cw_rs fun _ κ => ?_
  refine Sm rfl rfl ?_
  refine as_q rfl rfl (q_neT rfl rfl (by omega)) ?_
  refine as_nil (κ _ _ ?_)
  refine cw_true rfl ?_
  refine cw_rs fun _ κ => ?_
  refine as_q rfl rfl (q_build (zs := [.nilIface]) (places := [(0, 1)]) (cs := [_]) (by kernel_rfl) (by kernel_rfl) rfl rfl) ?_
  refine Sm rfl rfl ?_
  refine as_h0 (h_store hs3.sat hor rfl rfl rfl (by kernel_rfl) rfl rfl rfl fun w4 hs4 hn4 => ?_)
  replace h := h.mono hs4.le
  clear hor; have hor := hn4; clear hn4
  replace hT := hT.own hs4 (by omega)
  have hz4 := hs4.size
  refine Sa rfl rfl ?_
  refine as_nil (κ _ _ ?_)
  refine cw_ret ?_
  exact ⟨_, (res_cell rfl (loadVar_n (n := 1) (by kernel_rfl) (by exact Blk.cells hor.1 rfl)) (res_tmp rfl res_nil)), _, _, rfl, hT, .z⟩
theorem hp_insert_0 {w : World} {M : Mem} {x : El} (hs : Sat M w) :
    Does Tryz.prog 14 #[.agg #[.nilIface], .pointer none, .agg (elc x).toArray] w (fun r w' => ∃ v' M', r = .tuple #[.agg #[v'], .int .i64 22] ∧ Step Nope M w M' w' ∧ HVal M' 0 [] v') := by
  have hT := Step.refl Nope hs
  refine fn_enter Tryz.func14 rfl (rs := [.cell 6 29, .tmp 7]) rfl rfl rfl rfl ?_
  refine cw_rs fun _ κ => ?_
  refine as_h rfl (h_boxM hs rfl rfl fun b1 M1 w1 hs1 hb1 e1 => ?_)
  replace hT := hT.then hs1
  have hz1 := hs1.size
  refine as_h rfl (h_boxM hs1.sat rfl rfl fun b2 M2 w2 hs2 hb2 e2 => ?_)
  replace hb1 := hs2.le _ _ hb1
  replace hT := hT.then hs2
  have hz2 := hs2.size
  have hqar := hT.size
  refine as_h rfl (h_allocO (z := (.agg #[.nilIface])) hs2.sat (by kernel_rfl) rfl fun br w3 hs3 hor er => ?_)
  replace hb1 := hs3.le _ _ hb1
  replace hT := hT.then hs3
  have hz3 := hs3.size
  have hlr := hor.1.lt
  refine Sa rfl rfl ?_
  refine as_nil (κ _ _ ?_)
  refine cw_seq fun _ hK2 => ?_
  refine cw_rs fun _ κ => ?_
  refine Sf 0 rfl (by kernel_rfl) rfl ?_
  refine S1 rfl (by kernel_rfl) rfl (by exact BlkR.cell (hs3.sat _ _ _ hb1) rfl) ?_
  refine as_q rfl rfl (q_ifNil (by kernel_rfl) rfl) ?_
  refine as_nil (κ _ _ ?_)
  refine cw_true rfl ?_
  refine cw_rs fun _ κ => ?_
  refine Sc 1 rfl (by kernel_rfl) rfl (by exact BlkR.cells (hs3.sat _ _ _ hb1) rfl) ?_
  refine as_h0 (h_store hs3.sat hor rfl rfl rfl (by kernel_rfl) rfl rfl rfl fun w4 hs4 hn4 => ?_)
  clear hor; have hor := hn4; clear hn4
  replace hT := hT.own hs4 (by omega)
  have hz4 := hs4.size
  refine Sa rfl rfl ?_
  refine as_nil (κ _ _ ?_)
  refine cw_ret ?_
  exact ⟨_, (res_cell rfl (loadVar_n (n := 1) (by kernel_rfl) (by exact Blk.cells hor.1 rfl)) (res_tmp rfl res_nil)), _, _, rfl, hT, .z⟩
theorem hp_insert_1 {w : World} {M : Mem} {k : Nat} {x : El} {l : List El} {v : Value} (hs : Sat M w) (h : HVal M k l v) (hk : k ≠ 0) (hz : l.length < 1000000000) :
    Does Tryz.prog 14 #[.agg #[v], .pointer none, .agg (elc x).toArray] w (fun r w' => ∃ v' M', r = .tuple #[.agg #[v'], .int .i64 0] ∧ Step Nope M w M' w' ∧ HVal M' k (putE l x) v') := by
  have hT := Step.refl Nope hs
  obtain ⟨d, u, rfl⟩ := h.iface hk
  refine fn_enter Tryz.func14 rfl (rs := [.cell 6 29, .tmp 7]) rfl rfl rfl rfl ?_
  refine cw_rs fun _ κ => ?_
  refine as_h rfl (h_boxM hs rfl rfl fun b1 M1 w1 hs1 hb1 e1 => ?_)
  replace h := h.mono hs1.le
  replace hT := hT.then hs1
  have hz1 := hs1.size
  refine as_h rfl (h_boxM hs1.sat rfl rfl fun b2 M2 w2 hs2 hb2 e2 => ?_)
  replace h := h.mono hs2.le
  replace hb1 := hs2.le _ _ hb1
  replace hT := hT.then hs2
  have hz2 := hs2.size
  have hqar := hT.size
  refine as_h rfl (h_allocO (z := (.agg #[.nilIface])) hs2.sat (by kernel_rfl) rfl fun br w3 hs3 hor er => ?_)
  replace h := h.mono hs3.le
  replace hb1 := hs3.le _ _ hb1
  replace hb2 := hs3.le _ _ hb2
  replace hT := hT.then hs3
  have hz3 := hs3.size
  have hlr := hor.1.lt
  refine Sa rfl rfl ?_
  refine as_nil (κ _ _ ?_)
  refine cw_seq fun _ hK2 => ?_
  refine cw_rs fun _ κ => ?_
  refine Sf 0 rfl (by kernel_rfl) rfl ?_
  refine S1 rfl (by kernel_rfl) rfl (by exact BlkR.cell (hs3.sat _ _ _ hb1) rfl) ?_
  refine as_q rfl rfl (q_ifSome (by kernel_rfl) rfl) ?_
  refine as_nil (κ _ _ ?_)
  refine cw_false rfl ?_
  refine cw_skip ?_
  refine hK2 _ _ ?_
  refine cw_rs fun _ κ => ?_
  refine Sf 0 rfl (by kernel_rfl) rfl ?_
  refine S1 rfl (by kernel_rfl) rfl (by exact BlkR.cell (hs3.sat _ _ _ hb1) rfl) ?_
  refine Sm rfl rfl ?_
  refine Sc 2 rfl (by kernel_rfl) rfl (by exact BlkR.cells (hs3.sat _ _ _ hb2) rfl) ?_
  obtain ⟨d0, u0, f0, r0, hv0, hc0_, hm0, hd0⟩ := hv_insert (x := x) hs3.sat h hk hz
  cases hv0
  refine as_h rfl (h_invokeP hc0_ rfl rfl (hm0 _) ?_)
  refine hd0.mono ?_
  rintro v1 w4 ⟨Mn, hs4, hn⟩
  replace h := h.mono hs4.le
  replace hor := hor.then hs4
  replace hT := hT.then hs4
  have hz4 := hs4.size
  obtain ⟨d9, u9, rfl⟩ := hn.iface hk
  refine as_q rfl rfl (q_build (zs := [.nilIface]) (places := [(0, 1)]) (cs := [_]) (by kernel_rfl) (by kernel_rfl) rfl rfl) ?_
  refine as_h0 (h_store hs4.sat hor rfl rfl rfl (by kernel_rfl) rfl rfl rfl fun w5 hs5 hn5 => ?_)
  replace h := h.mono hs5.le
  replace hn := hn.mono hs5.le
  clear hor; have hor := hn5; clear hn5
  replace hT := hT.own hs5 (by omega)
  have hz5 := hs5.size
  refine Sa rfl rfl ?_
  refine as_nil (κ _ _ ?_)
  refine cw_ret ?_
  exact ⟨_, (res_cell rfl (loadVar_n (n := 1) (by kernel_rfl) (by exact Blk.cells hor.1 rfl)) (res_tmp rfl res_nil)), _, _, rfl, hT, hn⟩
theorem hp_insert {w : World} {M : Mem} {k : Nat} {x : El} {l : List El} {v : Value} (hs : Sat M w) (h : HVal M k l v) (hz : l.length < 1000000000) : Does Tryz.prog 14 #[.agg #[v], .pointer none, .agg (elc x).toArray] w (fun r w' => ∃ v' M', r = .tuple #[.agg #[v'], .int .i64 (insE k)] ∧ Step Nope M w M' w' ∧ HVal M' k (insL k l x) v') := by
  by_cases hk : k = 0
  · subst hk; obtain ⟨rfl, rfl⟩ := h.zero; exact hp_insert_0 hs
  · unfold insE insL
    rw [if_neg hk, if_neg hk]
    exact hp_insert_1 hs h hk hz
theorem hp_meld_0 {w : World} {M : Mem} {v2 : Value} (hs : Sat M w) :
    Does Tryz.prog 26 #[.agg #[.nilIface], .pointer none, .agg #[v2]] w (fun r w' => ∃ v' M', r = .tuple #[.agg #[v'], .int .i64 22] ∧ Step Nope M w M' w' ∧ HVal M' 0 [] v') := by
  have hT := Step.refl Nope hs
  refine fn_enter Tryz.func26 rfl (rs := [.cell 6 29, .tmp 7]) rfl rfl rfl rfl ?_
  refine cw_rs fun _ κ => ?_
  refine as_h rfl (h_boxM hs rfl rfl fun b1 M1 w1 hs1 hb1 e1 => ?_)
  replace hT := hT.then hs1
  have hz1 := hs1.size
  refine as_h rfl (h_boxM hs1.sat rfl rfl fun b2 M2 w2 hs2 hb2 e2 => ?_)
  replace hb1 := hs2.le _ _ hb1
  replace hT := hT.then hs2
  have hz2 := hs2.size
  have hqar := hT.size
  refine as_h rfl (h_allocO (z := (.agg #[.nilIface])) hs2.sat (by kernel_rfl) rfl fun br w3 hs3 hor er => ?_)
  replace hb1 := hs3.le _ _ hb1
  replace hT := hT.then hs3
  have hz3 := hs3.size
  have hlr := hor.1.lt
  refine Sa rfl rfl ?_
  refine as_nil (κ _ _ ?_)
  refine cw_seq fun _ hK2 => ?_
  refine cw_dr (by kernel_rfl) fun _ κ => ?_
  have hs4 := Step.drew hs3.sat
  have hz4 := hs4.size
  replace hb1 := hs4.le _ _ hb1
  replace hor := hor.then hs4
  replace hT := hT.then hs4
  refine Df 0 1 0 rfl (by kernel_rfl) (by kernel_rfl) rfl ?_
  refine Dl1 1 3 rfl (by kernel_rfl) (by kernel_rfl) rfl (by exact BlkR.cell (hs4.sat _ _ _ hb1) rfl) ?_
  refine Dq 2 7 rfl (by kernel_rfl) (fun _ => (q_ifNil (by kernel_rfl) rfl)) ?_
  refine Dm 3 15 rfl (by kernel_rfl) rfl ?_
  refine Dgs 4 31 rfl (by kernel_rfl) rfl rfl ?_
  refine Dgs 5 63 rfl (by kernel_rfl) rfl rfl ?_
  refine Dgs 6 127 rfl (by kernel_rfl) rfl rfl ?_
  refine Dq 7 255 rfl (by kernel_rfl) (fun _ => (q_pick_t rfl rfl)) ?_
  refine Dm 8 511 rfl (by kernel_rfl) rfl ?_
  refine Dgs 9 1023 rfl (by kernel_rfl) rfl rfl ?_
  refine Dgs 10 2047 rfl (by kernel_rfl) rfl rfl ?_
  refine Dgs 11 4095 rfl (by kernel_rfl) rfl rfl ?_
  refine Dgs 12 8191 rfl (by kernel_rfl) rfl rfl ?_
  refine Dgs 13 16383 rfl (by kernel_rfl) rfl rfl ?_
  refine Dq 14 32767 rfl (by kernel_rfl) (fun _ => (q_pick_t rfl rfl)) ?_
  refine Dd (by kernel_rfl) (κ _ _ ?_)
  refine cw_true rfl ?_
  refine cw_rs fun _ κ => ?_
  refine as_q rfl rfl (q_build (zs := [.nilIface]) (places := [(0, 1)]) (cs := [_]) (by kernel_rfl) (by kernel_rfl) rfl rfl) ?_
  refine as_h0 (h_store hs4.sat hor rfl rfl rfl (by kernel_rfl) rfl rfl rfl fun w5 hs5 hn5 => ?_)
  clear hor; have hor := hn5; clear hn5
  replace hT := hT.own hs5 (by omega)
  have hz5 := hs5.size
  refine Sa rfl rfl ?_
  refine as_nil (κ _ _ ?_)
  refine cw_ret ?_
  exact ⟨_, (res_cell rfl (loadVar_n (n := 1) (by kernel_rfl) (by exact Blk.cells hor.1 rfl)) (res_tmp rfl res_nil)), _, _, rfl, hT, .z⟩
theorem hp_meld_1 {w : World} {M : Mem} {k : Nat} {l : List El} {v : Value} (hs : Sat M w) (h : HVal M k l v) (hk : k ≠ 0) :
    Does Tryz.prog 26 #[.agg #[v], .pointer none, .agg #[.nilIface]] w (fun r w' => ∃ v' M', r = .tuple #[.agg #[v'], .int .i64 22] ∧ Step Nope M w M' w' ∧ HVal M' 0 [] v') := by
  have hT := Step.refl Nope hs
  obtain ⟨d, u, rfl⟩ := h.iface hk
  refine fn_enter Tryz.func26 rfl (rs := [.cell 6 29, .tmp 7]) rfl rfl rfl rfl ?_
  refine cw_rs fun _ κ => ?_
  refine as_h rfl (h_boxM hs rfl rfl fun b1 M1 w1 hs1 hb1 e1 => ?_)
  replace h := h.mono hs1.le
  replace hT := hT.then hs1
  have hz1 := hs1.size
  refine as_h rfl (h_boxM hs1.sat rfl rfl fun b2 M2 w2 hs2 hb2 e2 => ?_)
  replace h := h.mono hs2.le
  replace hb1 := hs2.le _ _ hb1
  replace hT := hT.then hs2
  have hz2 := hs2.size
  have hqar := hT.size
  refine as_h rfl (h_allocO (z := (.agg #[.nilIface])) hs2.sat (by kernel_rfl) rfl fun br w3 hs3 hor er => ?_)
  replace h := h.mono hs3.le
  replace hb1 := hs3.le _ _ hb1
  replace hb2 := hs3.le _ _ hb2
  replace hT := hT.then hs3
  have hz3 := hs3.size
  have hlr := hor.1.lt
  refine Sa rfl rfl ?_
  refine as_nil (κ _ _ ?_)
  refine cw_seq fun _ hK2 => ?_
  refine cw_dr (by kernel_rfl) fun _ κ => ?_
  have hs4 := Step.drew hs3.sat
  have hz4 := hs4.size
  replace h := h.mono hs4.le
  replace hb1 := hs4.le _ _ hb1
  replace hb2 := hs4.le _ _ hb2
  replace hor := hor.then hs4
  replace hT := hT.then hs4
  refine Df 0 1 0 rfl (by kernel_rfl) (by kernel_rfl) rfl ?_
  refine Dl1 1 3 rfl (by kernel_rfl) (by kernel_rfl) rfl (by exact BlkR.cell (hs4.sat _ _ _ hb1) rfl) ?_
  refine Dq 2 7 rfl (by kernel_rfl) (fun _ => (q_ifSome (by kernel_rfl) rfl)) ?_
  refine Dm 3 15 rfl (by kernel_rfl) rfl ?_
  refine Dgq 4 31 rfl (by kernel_rfl) rfl rfl (fun _ => (q_fieldAddr (off := 0) (by kernel_rfl) rfl)) ?_
  refine at_gq (i := 5) (li := lb 15 63) (cellIs _ _ _) rfl (by kernel_rfl) rfl rfl rfl rfl (fun _ h => q_load1 (by kernel_rfl) rfl h) (by exact BlkR.cell (hs4.sat _ _ _ hb2) rfl) (by kernel_rfl) ?_
  refine Dgq 6 127 rfl (by kernel_rfl) rfl rfl (fun _ => (q_ifNil (by kernel_rfl) rfl)) ?_
  refine Dq 7 255 rfl (by kernel_rfl) (fun _ => (q_pick_f rfl rfl)) ?_
  refine Dm 8 511 rfl (by kernel_rfl) rfl ?_
  refine Dgs 9 1023 rfl (by kernel_rfl) rfl rfl ?_
  refine Dgs 10 2047 rfl (by kernel_rfl) rfl rfl ?_
  refine Dgs 11 4095 rfl (by kernel_rfl) rfl rfl ?_
  refine Dgs 12 8191 rfl (by kernel_rfl) rfl rfl ?_
  refine Dgs 13 16383 rfl (by kernel_rfl) rfl rfl ?_
  refine Dq 14 32767 rfl (by kernel_rfl) (fun _ => (q_pick_t rfl rfl)) ?_
  refine Dd (by kernel_rfl) (κ _ _ ?_)
  refine cw_true rfl ?_
  refine cw_rs fun _ κ => ?_
  refine as_q rfl rfl (q_build (zs := [.nilIface]) (places := [(0, 1)]) (cs := [_]) (by kernel_rfl) (by kernel_rfl) rfl rfl) ?_
  refine as_h0 (h_store hs4.sat hor rfl rfl rfl (by kernel_rfl) rfl rfl rfl fun w5 hs5 hn5 => ?_)
  replace h := h.mono hs5.le
  clear hor; have hor := hn5; clear hn5
  replace hT := hT.own hs5 (by omega)
  have hz5 := hs5.size
  refine Sa rfl rfl ?_
  refine as_nil (κ _ _ ?_)
  refine cw_ret ?_
  exact ⟨_, (res_cell rfl (loadVar_n (n := 1) (by kernel_rfl) (by exact Blk.cells hor.1 rfl)) (res_tmp rfl res_nil)), _, _, rfl, hT, .z⟩
theorem hp_meld_2 {w : World} {M : Mem} {k k2 : Nat} {l l2 : List El} {v v2 : Value} (hs : Sat M w) (h : HVal M k l v) (h2 : HVal M k2 l2 v2) (hk : k ≠ 0) (hk2 : k2 ≠ 0) (hkk : k ≠ k2) :
    Does Tryz.prog 26 #[.agg #[v], .pointer none, .agg #[v2]] w (fun r w' => ∃ v' M', r = .tuple #[.agg #[v'], .int .i64 22] ∧ Step Nope M w M' w' ∧ HVal M' 0 [] v') := by
  have hT := Step.refl Nope hs
  obtain ⟨d, u, rfl⟩ := h.iface hk
  obtain ⟨d2, u2, rfl⟩ := h2.iface hk2
  refine fn_enter Tryz.func26 rfl (rs := [.cell 6 29, .tmp 7]) rfl rfl rfl rfl ?_
  refine cw_rs fun _ κ => ?_
  refine as_h rfl (h_boxM hs rfl rfl fun b1 M1 w1 hs1 hb1 e1 => ?_)
  replace h := h.mono hs1.le
  replace h2 := h2.mono hs1.le
  replace hT := hT.then hs1
  have hz1 := hs1.size
  refine as_h rfl (h_boxM hs1.sat rfl rfl fun b2 M2 w2 hs2 hb2 e2 => ?_)
  replace h := h.mono hs2.le
  replace h2 := h2.mono hs2.le
  replace hb1 := hs2.le _ _ hb1
  replace hT := hT.then hs2
  have hz2 := hs2.size
  have hqar := hT.size
  refine as_h rfl (h_allocO (z := (.agg #[.nilIface])) hs2.sat (by kernel_rfl) rfl fun br w3 hs3 hor er => ?_)
  replace h := h.mono hs3.le
  replace h2 := h2.mono hs3.le
  replace hb1 := hs3.le _ _ hb1
  replace hb2 := hs3.le _ _ hb2
  replace hT := hT.then hs3
  have hz3 := hs3.size
  have hlr := hor.1.lt
  refine Sa rfl rfl ?_
  refine as_nil (κ _ _ ?_)
  refine cw_seq fun _ hK2 => ?_
  refine cw_dr (by kernel_rfl) fun _ κ => ?_
  have hs4 := Step.drew hs3.sat
  have hz4 := hs4.size
  replace h := h.mono hs4.le
  replace h2 := h2.mono hs4.le
  replace hb1 := hs4.le _ _ hb1
  replace hb2 := hs4.le _ _ hb2
  replace hor := hor.then hs4
  replace hT := hT.then hs4
  refine Df 0 1 0 rfl (by kernel_rfl) (by kernel_rfl) rfl ?_
  refine Dl1 1 3 rfl (by kernel_rfl) (by kernel_rfl) rfl (by exact BlkR.cell (hs4.sat _ _ _ hb1) rfl) ?_
  refine Dq 2 7 rfl (by kernel_rfl) (fun _ => (q_ifSome (by kernel_rfl) rfl)) ?_
  refine Dm 3 15 rfl (by kernel_rfl) rfl ?_
  refine Dgq 4 31 rfl (by kernel_rfl) rfl rfl (fun _ => (q_fieldAddr (off := 0) (by kernel_rfl) rfl)) ?_
  refine at_gq (i := 5) (li := lb 15 63) (cellIs _ _ _) rfl (by kernel_rfl) rfl rfl rfl rfl (fun _ h => q_load1 (by kernel_rfl) rfl h) (by exact BlkR.cell (hs4.sat _ _ _ hb2) rfl) (by kernel_rfl) ?_
  refine Dgq 6 127 rfl (by kernel_rfl) rfl rfl (fun _ => (q_ifSome (by kernel_rfl) rfl)) ?_
  refine Dq 7 255 rfl (by kernel_rfl) (fun _ => (q_pick_f rfl rfl)) ?_
  refine Dm 8 511 rfl (by kernel_rfl) rfl ?_
  refine at_gq (i := 9) (li := lb 15 1023) (cellsAre _ _ 1 _) rfl (by kernel_rfl) rfl rfl rfl rfl (fun _ h => q_loadc (n := 1) (by kernel_rfl) rfl h) (by exact BlkR.cells (hs4.sat _ _ _ hb1) rfl) (by kernel_rfl) ?_
  refine at_gq (i := 11) (li := lb 15 3071) (cellsAre _ _ 1 _) rfl (by kernel_rfl) rfl rfl rfl rfl (fun _ h => q_loadc (n := 1) (by kernel_rfl) rfl h) (by exact BlkR.cells (hs4.sat _ _ _ hb2) rfl) (by kernel_rfl) ?_
  refine Dgh 10 4095 rfl (by kernel_rfl) rfl rfl (keep_sift (bs := [F,T,F,F]) (by kernel_rfl)) (h_call (by kernel_rfl) rfl ?_)
  refine (hp_kind hs4.sat h).mono ?_
  rintro _ w5 ⟨rfl, hs5⟩
  replace h := h.mono hs5.le
  replace h2 := h2.mono hs5.le
  replace hb1 := hs5.le _ _ hb1
  replace hb2 := hs5.le _ _ hb2
  replace hor := hor.then hs5
  replace hT := hT.then hs5
  have hz5 := hs5.size
  refine ⟨(by repeat' first | exact trivial | exact BlkR.cell (hs5.sat _ _ _ hb1) rfl | exact BlkR.cells (hs5.sat _ _ _ hb1) rfl | exact BlkR.cell (hs5.sat _ _ _ hb2) rfl | exact BlkR.cells (hs5.sat _ _ _ hb2) rfl | exact Blk.cell hor.1 rfl | exact Blk.cells hor.1 rfl | assumption | refine all_keep ?_ | refine And.intro ?_ ?_), ?_⟩
  refine Dgh 12 8191 rfl (by kernel_rfl) rfl rfl (keep_sift (bs := [T,F,F]) (by kernel_rfl)) (h_call (by kernel_rfl) rfl ?_)
  refine (hp_kind hs5.sat h2).mono ?_
  rintro _ w6 ⟨rfl, hs6⟩
  replace h := h.mono hs6.le
  replace hb1 := hs6.le _ _ hb1
  replace hb2 := hs6.le _ _ hb2
  replace hor := hor.then hs6
  replace hT := hT.then hs6
  have hz6 := hs6.size
  refine ⟨(by repeat' first | exact trivial | exact BlkR.cell (hs6.sat _ _ _ hb1) rfl | exact BlkR.cells (hs6.sat _ _ _ hb1) rfl | exact BlkR.cell (hs6.sat _ _ _ hb2) rfl | exact BlkR.cells (hs6.sat _ _ _ hb2) rfl | exact Blk.cell hor.1 rfl | exact Blk.cells hor.1 rfl | assumption | refine all_keep ?_ | refine And.intro ?_ ?_), ?_⟩
  refine Dgq 13 16383 rfl (by kernel_rfl) rfl rfl (fun _ => (q_neT rfl rfl (by omega))) ?_
  refine Dq 14 32767 rfl (by kernel_rfl) (fun _ => (q_pick_f rfl rfl)) ?_
  refine Dd (by kernel_rfl) (κ _ _ ?_)
  refine cw_true rfl ?_
  refine cw_rs fun _ κ => ?_
  refine as_q rfl rfl (q_build (zs := [.nilIface]) (places := [(0, 1)]) (cs := [_]) (by kernel_rfl) (by kernel_rfl) rfl rfl) ?_
  refine as_h0 (h_store hs6.sat hor rfl rfl rfl (by kernel_rfl) rfl rfl rfl fun w7 hs7 hn7 => ?_)
  replace h := h.mono hs7.le
  clear hor; have hor := hn7; clear hn7
  replace hT := hT.own hs7 (by omega)
  have hz7 := hs7.size
  refine Sa rfl rfl ?_
  refine as_nil (κ _ _ ?_)
  refine cw_ret ?_
  exact ⟨_, (res_cell rfl (loadVar_n (n := 1) (by kernel_rfl) (by exact Blk.cells hor.1 rfl)) (res_tmp rfl res_nil)), _, _, rfl, hT, .z⟩
theorem hp_meld_3 {w : World} {M : Mem} {k : Nat} {l l2 : List El} {v v2 : Value} (hs : Sat M w) (h : HVal M k l v) (h2 : HVal M k l2 v2) (hk : k ≠ 0) (hz : l.length + l2.length < 1000000000) :
    Does Tryz.prog 26 #[.agg #[v], .pointer none, .agg #[v2]] w (fun r w' => ∃ v' M', r = .tuple #[.agg #[v'], .int .i64 0] ∧ Step Nope M w M' w' ∧ HVal M' k (srtE (l ++ l2)) v') := by
  have hT := Step.refl Nope hs
  obtain ⟨d, u, rfl⟩ := h.iface hk
  obtain ⟨d2, u2, rfl⟩ := h2.iface hk
  refine fn_enter Tryz.func26 rfl (rs := [.cell 6 29, .tmp 7]) rfl rfl rfl rfl ?_
  refine cw_rs fun _ κ => ?_
  refine as_h rfl (h_boxM hs rfl rfl fun b1 M1 w1 hs1 hb1 e1 => ?_)
  replace h := h.mono hs1.le
  replace h2 := h2.mono hs1.le
  replace hT := hT.then hs1
  have hz1 := hs1.size
  refine as_h rfl (h_boxM hs1.sat rfl rfl fun b2 M2 w2 hs2 hb2 e2 => ?_)
  replace h := h.mono hs2.le
  replace h2 := h2.mono hs2.le
  replace hb1 := hs2.le _ _ hb1
  replace hT := hT.then hs2
  have hz2 := hs2.size
  have hqar := hT.size
  refine as_h rfl (h_allocO (z := (.agg #[.nilIface])) hs2.sat (by kernel_rfl) rfl fun br w3 hs3 hor er => ?_)
  replace h := h.mono hs3.le
  replace h2 := h2.mono hs3.le
  replace hb1 := hs3.le _ _ hb1
  replace hb2 := hs3.le _ _ hb2
  replace hT := hT.then hs3
  have hz3 := hs3.size
  have hlr := hor.1.lt
  refine Sa rfl rfl ?_
  refine as_nil (κ _ _ ?_)
  refine cw_seq fun _ hK2 => ?_
  refine cw_dr (by kernel_rfl) fun _ κ => ?_
  have hs4 := Step.drew hs3.sat
  have hz4 := hs4.size
  replace h := h.mono hs4.le
  replace h2 := h2.mono hs4.le
  replace hb1 := hs4.le _ _ hb1
  replace hb2 := hs4.le _ _ hb2
  replace hor := hor.then hs4
  replace hT := hT.then hs4
  refine Df 0 1 0 rfl (by kernel_rfl) (by kernel_rfl) rfl ?_
  refine Dl1 1 3 rfl (by kernel_rfl) (by kernel_rfl) rfl (by exact BlkR.cell (hs4.sat _ _ _ hb1) rfl) ?_
  refine Dq 2 7 rfl (by kernel_rfl) (fun _ => (q_ifSome (by kernel_rfl) rfl)) ?_
  refine Dm 3 15 rfl (by kernel_rfl) rfl ?_
  refine Dgq 4 31 rfl (by kernel_rfl) rfl rfl (fun _ => (q_fieldAddr (off := 0) (by kernel_rfl) rfl)) ?_
  refine at_gq (i := 5) (li := lb 15 63) (cellIs _ _ _) rfl (by kernel_rfl) rfl rfl rfl rfl (fun _ h => q_load1 (by kernel_rfl) rfl h) (by exact BlkR.cell (hs4.sat _ _ _ hb2) rfl) (by kernel_rfl) ?_
  refine Dgq 6 127 rfl (by kernel_rfl) rfl rfl (fun _ => (q_ifSome (by kernel_rfl) rfl)) ?_
  refine Dq 7 255 rfl (by kernel_rfl) (fun _ => (q_pick_f rfl rfl)) ?_
  refine Dm 8 511 rfl (by kernel_rfl) rfl ?_
  refine at_gq (i := 9) (li := lb 15 1023) (cellsAre _ _ 1 _) rfl (by kernel_rfl) rfl rfl rfl rfl (fun _ h => q_loadc (n := 1) (by kernel_rfl) rfl h) (by exact BlkR.cells (hs4.sat _ _ _ hb1) rfl) (by kernel_rfl) ?_
  refine at_gq (i := 11) (li := lb 15 3071) (cellsAre _ _ 1 _) rfl (by kernel_rfl) rfl rfl rfl rfl (fun _ h => q_loadc (n := 1) (by kernel_rfl) rfl h) (by exact BlkR.cells (hs4.sat _ _ _ hb2) rfl) (by kernel_rfl) ?_
  refine Dgh 10 4095 rfl (by kernel_rfl) rfl rfl (keep_sift (bs := [F,T,F,F]) (by kernel_rfl)) (h_call (by kernel_rfl) rfl ?_)
  refine (hp_kind hs4.sat h).mono ?_
  rintro _ w5 ⟨rfl, hs5⟩
  replace h := h.mono hs5.le
  replace h2 := h2.mono hs5.le
  replace hb1 := hs5.le _ _ hb1
  replace hb2 := hs5.le _ _ hb2
  replace hor := hor.then hs5
  replace hT := hT.then hs5
  have hz5 := hs5.size
  refine ⟨(by repeat' first | exact trivial | exact BlkR.cell (hs5.sat _ _ _ hb1) rfl | exact BlkR.cells (hs5.sat _ _ _ hb1) rfl | exact BlkR.cell (hs5.sat _ _ _ hb2) rfl | exact BlkR.cells (hs5.sat _ _ _ hb2) rfl | exact Blk.cell hor.1 rfl | exact Blk.cells hor.1 rfl | assumption | refine all_keep ?_ | refine And.intro ?_ ?_), ?_⟩
  refine Dgh 12 8191 rfl (by kernel_rfl) rfl rfl (keep_sift (bs := [T,F,F]) (by kernel_rfl)) (h_call (by kernel_rfl) rfl ?_)
  refine (hp_kind hs5.sat h2).mono ?_
  rintro _ w6 ⟨rfl, hs6⟩
  replace h := h.mono hs6.le
  replace h2 := h2.mono hs6.le
  replace hb1 := hs6.le _ _ hb1
  replace hb2 := hs6.le _ _ hb2
  replace hor := hor.then hs6
  replace hT := hT.then hs6
  have hz6 := hs6.size
  refine ⟨(by repeat' first | exact trivial | exact BlkR.cell (hs6.sat _ _ _ hb1) rfl | exact BlkR.cells (hs6.sat _ _ _ hb1) rfl | exact BlkR.cell (hs6.sat _ _ _ hb2) rfl | exact BlkR.cells (hs6.sat _ _ _ hb2) rfl | exact Blk.cell hor.1 rfl | exact Blk.cells hor.1 rfl | assumption | refine all_keep ?_ | refine And.intro ?_ ?_), ?_⟩
  refine Dgq 13 16383 rfl (by kernel_rfl) rfl rfl (fun _ => (q_neF rfl rfl (by omega))) ?_
  refine Dq 14 32767 rfl (by kernel_rfl) (fun _ => (q_pick_f rfl rfl)) ?_
  refine Dd (by kernel_rfl) (κ _ _ ?_)
  refine cw_false rfl ?_
  refine cw_skip ?_
  refine hK2 _ _ ?_
  refine cw_rs fun _ κ => ?_
  refine Sf 0 rfl (by kernel_rfl) rfl ?_
  refine S1 rfl (by kernel_rfl) rfl (by exact BlkR.cell (hs6.sat _ _ _ hb1) rfl) ?_
  refine Sm rfl rfl ?_
  refine Sf 0 rfl (by kernel_rfl) rfl ?_
  refine S1 rfl (by kernel_rfl) rfl (by exact BlkR.cell (hs6.sat _ _ _ hb2) rfl) ?_
  obtain ⟨d0, u0, f0, r0, hv0, hc0_, hm0, hd0⟩ := hv_meld hs6.sat h h2 hk hz
  cases hv0
  refine as_h rfl (h_invokeP hc0_ rfl rfl (hm0 _) ?_)
  refine hd0.mono ?_
  rintro v1 w7 ⟨Mn, hs7, hn⟩
  replace h := h.mono hs7.le
  replace hor := hor.then hs7
  replace hT := hT.then hs7
  have hz7 := hs7.size
  obtain ⟨d9, u9, rfl⟩ := hn.iface hk
  refine as_q rfl rfl (q_build (zs := [.nilIface]) (places := [(0, 1)]) (cs := [_]) (by kernel_rfl) (by kernel_rfl) rfl rfl) ?_
  refine as_h0 (h_store hs7.sat hor rfl rfl rfl (by kernel_rfl) rfl rfl rfl fun w8 hs8 hn8 => ?_)
  replace h := h.mono hs8.le
  replace hn := hn.mono hs8.le
  clear hor; have hor := hn8; clear hn8
  replace hT := hT.own hs8 (by omega)
  have hz8 := hs8.size
  refine Sa rfl rfl ?_
  refine as_nil (κ _ _ ?_)
  refine cw_ret ?_
  exact ⟨_, (res_cell rfl (loadVar_n (n := 1) (by kernel_rfl) (by exact Blk.cells hor.1 rfl)) (res_tmp rfl res_nil)), _, _, rfl, hT, hn⟩
theorem hp_meld {w : World} {M : Mem} {k k2 : Nat} {l l2 : List El} {v v2 : Value} (hs : Sat M w) (h : HVal M k l v) (h2 : HVal M k2 l2 v2) (hz : l.length + l2.length < 1000000000) : Does Tryz.prog 26 #[.agg #[v], .pointer none, .agg #[v2]] w (fun r w' => ∃ v' M', r = .tuple #[.agg #[v'], .int .i64 (melE k k2)] ∧ Step Nope M w M' w' ∧ HVal M' (melK k k2) (melL k k2 l l2) v') := by
  unfold melE melK melL
  by_cases hk : k = 0
  · subst hk; obtain ⟨rfl, rfl⟩ := h.zero
    simp only [if_pos (show badM 0 k2 from .inl rfl)]
    exact hp_meld_0 hs
  · by_cases hk2 : k2 = 0
    · subst hk2; obtain ⟨rfl, rfl⟩ := h2.zero
      simp only [if_pos (show badM k 0 from .inr (.inl rfl))]
      exact hp_meld_1 hs h hk
    · by_cases hkk : k = k2
      · subst hkk
        simp only [if_neg (show ¬ badM k k from fun h => by unfold badM at h; omega)]
        exact hp_meld_3 hs h h2 hk hz
      · simp only [if_pos (show badM k k2 from .inr (.inr hkk))]
        exact hp_meld_2 hs h h2 hk hk2 hkk
end Go.Proofs.YtgcgjpfjjgalmaaGreat
/- The calls of heap, part 3. -/
namespace Go.Proofs.YtgcgjpfjjgalmaaGreat
open Go Go.Eng
theorem hp_empty_1 {w : World} {M : Mem} (hs : Sat M w) :
    Does Tryz.prog 13 #[.int .i64 1] w (fun r w' => ∃ v' M', r = .tuple #[.agg #[v'], .int .i64 0] ∧ Step Nope M w M' w' ∧ HVal M' 1 [] v') := by
  have hT := Step.refl Nope hs
  refine fn_enter Tryz.func13 rfl (rs := [.cell 2 29, .tmp 3]) rfl rfl rfl rfl ?_
  refine cw_rs fun _ κ => ?_
  have hqar := hT.size
  refine as_h rfl (h_allocO (z := (.agg #[.nilIface])) hs (by kernel_rfl) rfl fun br w1 hs1 hor er => ?_)
  replace hT := hT.then hs1
  have hz1 := hs1.size
  have hlr := hor.1.lt
  refine Sa rfl rfl ?_
  refine as_nil (κ _ _ ?_)
  refine cw_seq fun _ hK2 => ?_
  refine cw_rs fun _ κ => ?_
  refine Sm rfl rfl ?_
  refine as_nil (κ _ _ ?_)
  refine cw_block ?_
  refine cw_rs fun _ κ => ?_
  refine as_q rfl rfl (q_eqT rfl rfl (by omega)) ?_
  refine Sa rfl rfl ?_
  refine as_nil (κ _ _ ?_)
  refine cw_true rfl ?_
  refine cw_rs fun _ κ => ?_
  refine as_q rfl rfl (q_build (zs := [(.pointer none)]) (places := [(0, 1)]) (cs := [_]) (by kernel_rfl) (by kernel_rfl) rfl rfl) ?_
  refine as_q rfl rfl (q_iface (by kernel_rfl) rfl) ?_
  refine as_q rfl rfl (q_build (zs := [.nilIface]) (places := [(0, 1)]) (cs := [_]) (by kernel_rfl) (by kernel_rfl) rfl rfl) ?_
  refine as_h0 (h_store hs1.sat hor rfl rfl rfl (by kernel_rfl) rfl rfl rfl fun w2 hs2 hn2 => ?_)
  clear hor; have hor := hn2; clear hn2
  replace hT := hT.own hs2 (by omega)
  have hz2 := hs2.size
  refine Sa rfl rfl ?_
  refine as_nil (κ _ _ ?_)
  refine cw_ret ?_
  exact ⟨_, (res_cell rfl (loadVar_n (n := 1) (by kernel_rfl) (by exact Blk.cells hor.1 rfl)) (res_tmp rfl res_nil)), _, _, rfl, hT, .a (t := .nil) rfl (trivial) rfl⟩
theorem hp_empty_2 {w : World} {M : Mem} (hs : Sat M w) :
    Does Tryz.prog 13 #[.int .i64 2] w (fun r w' => ∃ v' M', r = .tuple #[.agg #[v'], .int .i64 0] ∧ Step Nope M w M' w' ∧ HVal M' 2 [] v') := by
  have hT := Step.refl Nope hs
  refine fn_enter Tryz.func13 rfl (rs := [.cell 2 29, .tmp 3]) rfl rfl rfl rfl ?_
  refine cw_rs fun _ κ => ?_
  have hqar := hT.size
  refine as_h rfl (h_allocO (z := (.agg #[.nilIface])) hs (by kernel_rfl) rfl fun br w1 hs1 hor er => ?_)
  replace hT := hT.then hs1
  have hz1 := hs1.size
  have hlr := hor.1.lt
  refine Sa rfl rfl ?_
  refine as_nil (κ _ _ ?_)
  refine cw_seq fun _ hK2 => ?_
  refine cw_rs fun _ κ => ?_
  refine Sm rfl rfl ?_
  refine as_nil (κ _ _ ?_)
  refine cw_block ?_
  refine cw_rs fun _ κ => ?_
  refine as_q rfl rfl (q_eqF rfl rfl (by omega)) ?_
  refine Sa rfl rfl ?_
  refine as_nil (κ _ _ ?_)
  refine cw_false rfl ?_
  refine cw_rs fun _ κ => ?_
  refine as_q rfl rfl (q_eqT rfl rfl (by omega)) ?_
  refine Sa rfl rfl ?_
  refine as_nil (κ _ _ ?_)
  refine cw_true rfl ?_
  refine cw_rs fun _ κ => ?_
  refine as_q rfl rfl (q_build (zs := [(.pointer none)]) (places := [(0, 1)]) (cs := [_]) (by kernel_rfl) (by kernel_rfl) rfl rfl) ?_
  refine as_q rfl rfl (q_iface (by kernel_rfl) rfl) ?_
  refine as_q rfl rfl (q_build (zs := [.nilIface]) (places := [(0, 1)]) (cs := [_]) (by kernel_rfl) (by kernel_rfl) rfl rfl) ?_
  refine as_h0 (h_store hs1.sat hor rfl rfl rfl (by kernel_rfl) rfl rfl rfl fun w2 hs2 hn2 => ?_)
  clear hor; have hor := hn2; clear hn2
  replace hT := hT.own hs2 (by omega)
  have hz2 := hs2.size
  refine Sa rfl rfl ?_
  refine as_nil (κ _ _ ?_)
  refine cw_ret ?_
  exact ⟨_, (res_cell rfl (loadVar_n (n := 1) (by kernel_rfl) (by exact Blk.cells hor.1 rfl)) (res_tmp rfl res_nil)), _, _, rfl, hT, .b (t := []) (frep_nil.2 rfl) (⟨trivial, trivial⟩) rfl⟩
theorem hp_empty_3 {w : World} {M : Mem} (hs : Sat M w) :
    Does Tryz.prog 13 #[.int .i64 3] w (fun r w' => ∃ v' M', r = .tuple #[.agg #[v'], .int .i64 0] ∧ Step Nope M w M' w' ∧ HVal M' 3 [] v') := by
  have hT := Step.refl Nope hs
  refine fn_enter Tryz.func13 rfl (rs := [.cell 2 29, .tmp 3]) rfl rfl rfl rfl ?_
  refine cw_rs fun _ κ => ?_
  have hqar := hT.size
  refine as_h rfl (h_allocO (z := (.agg #[.nilIface])) hs (by kernel_rfl) rfl fun br w1 hs1 hor er => ?_)
  replace hT := hT.then hs1
  have hz1 := hs1.size
  have hlr := hor.1.lt
  refine Sa rfl rfl ?_
  refine as_nil (κ _ _ ?_)
  refine cw_seq fun _ hK2 => ?_
  refine cw_rs fun _ κ => ?_
  refine Sm rfl rfl ?_
  refine as_nil (κ _ _ ?_)
  refine cw_block ?_
  refine cw_rs fun _ κ => ?_
  refine as_q rfl rfl (q_eqF rfl rfl (by omega)) ?_
  refine Sa rfl rfl ?_
  refine as_nil (κ _ _ ?_)
  refine cw_false rfl ?_
  refine cw_rs fun _ κ => ?_
  refine as_q rfl rfl (q_eqF rfl rfl (by omega)) ?_
  refine Sa rfl rfl ?_
  refine as_nil (κ _ _ ?_)
  refine cw_false rfl ?_
  refine cw_rs fun _ κ => ?_
  refine as_q rfl rfl (q_eqT rfl rfl (by omega)) ?_
  refine Sa rfl rfl ?_
  refine as_nil (κ _ _ ?_)
  refine cw_true rfl ?_
  refine cw_rs fun _ κ => ?_
  refine as_q rfl rfl (q_build (zs := [(.pointer none)]) (places := [(0, 1)]) (cs := [_]) (by kernel_rfl) (by kernel_rfl) rfl rfl) ?_
  refine as_q rfl rfl (q_iface (by kernel_rfl) rfl) ?_
  refine as_q rfl rfl (q_build (zs := [.nilIface]) (places := [(0, 1)]) (cs := [_]) (by kernel_rfl) (by kernel_rfl) rfl rfl) ?_
  refine as_h0 (h_store hs1.sat hor rfl rfl rfl (by kernel_rfl) rfl rfl rfl fun w2 hs2 hn2 => ?_)
  clear hor; have hor := hn2; clear hn2
  replace hT := hT.own hs2 (by omega)
  have hz2 := hs2.size
  refine Sa rfl rfl ?_
  refine as_nil (κ _ _ ?_)
  refine cw_ret ?_
  exact ⟨_, (res_cell rfl (loadVar_n (n := 1) (by kernel_rfl) (by exact Blk.cells hor.1 rfl)) (res_tmp rfl res_nil)), _, _, rfl, hT, .c (t := .nil) (prep_nil.2 rfl) (trivial) (by simp only [Pr.els]; rfl)⟩
theorem hp_empty_4 {w : World} {M : Mem} (hs : Sat M w) :
    Does Tryz.prog 13 #[.int .i64 4] w (fun r w' => ∃ v' M', r = .tuple #[.agg #[v'], .int .i64 0] ∧ Step Nope M w M' w' ∧ HVal M' 4 [] v') := by
  have hT := Step.refl Nope hs
  refine fn_enter Tryz.func13 rfl (rs := [.cell 2 29, .tmp 3]) rfl rfl rfl rfl ?_
  refine cw_rs fun _ κ => ?_
  have hqar := hT.size
  refine as_h rfl (h_allocO (z := (.agg #[.nilIface])) hs (by kernel_rfl) rfl fun br w1 hs1 hor er => ?_)
  replace hT := hT.then hs1
  have hz1 := hs1.size
  have hlr := hor.1.lt
  refine Sa rfl rfl ?_
  refine as_nil (κ _ _ ?_)
  refine cw_seq fun _ hK2 => ?_
  refine cw_rs fun _ κ => ?_
  refine Sm rfl rfl ?_
  refine as_nil (κ _ _ ?_)
  refine cw_block ?_
  refine cw_rs fun _ κ => ?_
  refine as_q rfl rfl (q_eqF rfl rfl (by omega)) ?_
  refine Sa rfl rfl ?_
  refine as_nil (κ _ _ ?_)
  refine cw_false rfl ?_
  refine cw_rs fun _ κ => ?_
  refine as_q rfl rfl (q_eqF rfl rfl (by omega)) ?_
  refine Sa rfl rfl ?_
  refine as_nil (κ _ _ ?_)
  refine cw_false rfl ?_
  refine cw_rs fun _ κ => ?_
  refine as_q rfl rfl (q_eqF rfl rfl (by omega)) ?_
  refine Sa rfl rfl ?_
  refine as_nil (κ _ _ ?_)
  refine cw_false rfl ?_
  refine cw_rs fun _ κ => ?_
  refine as_q rfl rfl (q_eqT rfl rfl (by omega)) ?_
  refine Sa rfl rfl ?_
  refine as_nil (κ _ _ ?_)
  refine cw_true rfl ?_
  refine cw_rs fun _ κ => ?_
  refine as_q rfl rfl (q_build (zs := [(.pointer none)]) (places := [(0, 1)]) (cs := [_]) (by kernel_rfl) (by kernel_rfl) rfl rfl) ?_
  refine as_q rfl rfl (q_iface (by kernel_rfl) rfl) ?_
  refine as_q rfl rfl (q_build (zs := [.nilIface]) (places := [(0, 1)]) (cs := [_]) (by kernel_rfl) (by kernel_rfl) rfl rfl) ?_
  refine as_h0 (h_store hs1.sat hor rfl rfl rfl (by kernel_rfl) rfl rfl rfl fun w2 hs2 hn2 => ?_)
  clear hor; have hor := hn2; clear hn2
  replace hT := hT.own hs2 (by omega)
  have hz2 := hs2.size
  refine Sa rfl rfl ?_
  refine as_nil (κ _ _ ?_)
  refine cw_ret ?_
  exact ⟨_, (res_cell rfl (loadVar_n (n := 1) (by kernel_rfl) (by exact Blk.cells hor.1 rfl)) (res_tmp rfl res_nil)), _, _, rfl, hT, .d (t := []) (frep_nil.2 rfl) (trivial) rfl⟩
theorem hp_empty_5 {w : World} {M : Mem} (hs : Sat M w) :
    Does Tryz.prog 13 #[.int .i64 5] w (fun r w' => ∃ v' M', r = .tuple #[.agg #[v'], .int .i64 0] ∧ Step Nope M w M' w' ∧ HVal M' 5 [] v') := by
  have hT := Step.refl Nope hs
  refine fn_enter Tryz.func13 rfl (rs := [.cell 2 29, .tmp 3]) rfl rfl rfl rfl ?_
  refine cw_rs fun _ κ => ?_
  have hqar := hT.size
  refine as_h rfl (h_allocO (z := (.agg #[.nilIface])) hs (by kernel_rfl) rfl fun br w1 hs1 hor er => ?_)
  replace hT := hT.then hs1
  have hz1 := hs1.size
  have hlr := hor.1.lt
  refine Sa rfl rfl ?_
  refine as_nil (κ _ _ ?_)
  refine cw_seq fun _ hK2 => ?_
  refine cw_rs fun _ κ => ?_
  refine Sm rfl rfl ?_
  refine as_nil (κ _ _ ?_)
  refine cw_block ?_
  refine cw_rs fun _ κ => ?_
  refine as_q rfl rfl (q_eqF rfl rfl (by omega)) ?_
  refine Sa rfl rfl ?_
  refine as_nil (κ _ _ ?_)
  refine cw_false rfl ?_
  refine cw_rs fun _ κ => ?_
  refine as_q rfl rfl (q_eqF rfl rfl (by omega)) ?_
  refine Sa rfl rfl ?_
  refine as_nil (κ _ _ ?_)
  refine cw_false rfl ?_
  refine cw_rs fun _ κ => ?_
  refine as_q rfl rfl (q_eqF rfl rfl (by omega)) ?_
  refine Sa rfl rfl ?_
  refine as_nil (κ _ _ ?_)
  refine cw_false rfl ?_
  refine cw_rs fun _ κ => ?_
  refine as_q rfl rfl (q_eqF rfl rfl (by omega)) ?_
  refine Sa rfl rfl ?_
  refine as_nil (κ _ _ ?_)
  refine cw_false rfl ?_
  refine cw_rs fun _ κ => ?_
  refine as_q rfl rfl (q_eqT rfl rfl (by omega)) ?_
  refine Sa rfl rfl ?_
  refine as_nil (κ _ _ ?_)
  refine cw_true rfl ?_
  refine cw_rs fun _ κ => ?_
  refine as_q rfl rfl (q_build (zs := [(.pointer none)]) (places := [(0, 1)]) (cs := [_]) (by kernel_rfl) (by kernel_rfl) rfl rfl) ?_
  refine as_q rfl rfl (q_iface (by kernel_rfl) rfl) ?_
  refine as_q rfl rfl (q_build (zs := [.nilIface]) (places := [(0, 1)]) (cs := [_]) (by kernel_rfl) (by kernel_rfl) rfl rfl) ?_
  refine as_h0 (h_store hs1.sat hor rfl rfl rfl (by kernel_rfl) rfl rfl rfl fun w2 hs2 hn2 => ?_)
  clear hor; have hor := hn2; clear hn2
  replace hT := hT.own hs2 (by omega)
  have hz2 := hs2.size
  refine Sa rfl rfl ?_
  refine as_nil (κ _ _ ?_)
  refine cw_ret ?_
  exact ⟨_, (res_cell rfl (loadVar_n (n := 1) (by kernel_rfl) (by exact Blk.cells hor.1 rfl)) (res_tmp rfl res_nil)), _, _, rfl, hT, .e (t := .nil) rfl (trivial) rfl⟩
theorem hp_empty_6 {w : World} {M : Mem} (hs : Sat M w) :
    Does Tryz.prog 13 #[.int .i64 6] w (fun r w' => ∃ v' M', r = .tuple #[.agg #[v'], .int .i64 0] ∧ Step Nope M w M' w' ∧ HVal M' 6 [] v') := by
  have hT := Step.refl Nope hs
  refine fn_enter Tryz.func13 rfl (rs := [.cell 2 29, .tmp 3]) rfl rfl rfl rfl ?_
  refine cw_rs fun _ κ => ?_
  have hqar := hT.size
  refine as_h rfl (h_allocO (z := (.agg #[.nilIface])) hs (by kernel_rfl) rfl fun br w1 hs1 hor er => ?_)
  replace hT := hT.then hs1
  have hz1 := hs1.size
  have hlr := hor.1.lt
  refine Sa rfl rfl ?_
  refine as_nil (κ _ _ ?_)
  refine cw_seq fun _ hK2 => ?_
  refine cw_rs fun _ κ => ?_
  refine Sm rfl rfl ?_
  refine as_nil (κ _ _ ?_)
  refine cw_block ?_
  refine cw_rs fun _ κ => ?_
  refine as_q rfl rfl (q_eqF rfl rfl (by omega)) ?_
  refine Sa rfl rfl ?_
  refine as_nil (κ _ _ ?_)
  refine cw_false rfl ?_
  refine cw_rs fun _ κ => ?_
  refine as_q rfl rfl (q_eqF rfl rfl (by omega)) ?_
  refine Sa rfl rfl ?_
  refine as_nil (κ _ _ ?_)
  refine cw_false rfl ?_
  refine cw_rs fun _ κ => ?_
  refine as_q rfl rfl (q_eqF rfl rfl (by omega)) ?_
  refine Sa rfl rfl ?_
  refine as_nil (κ _ _ ?_)
  refine cw_false rfl ?_
  refine cw_rs fun _ κ => ?_
  refine as_q rfl rfl (q_eqF rfl rfl (by omega)) ?_
  refine Sa rfl rfl ?_
  refine as_nil (κ _ _ ?_)
  refine cw_false rfl ?_
  refine cw_rs fun _ κ => ?_
  refine as_q rfl rfl (q_eqF rfl rfl (by omega)) ?_
  refine Sa rfl rfl ?_
  refine as_nil (κ _ _ ?_)
  refine cw_false rfl ?_
  refine cw_rs fun _ κ => ?_
  refine as_q rfl rfl (q_eqT rfl rfl (by omega)) ?_
  refine Sa rfl rfl ?_
  refine as_nil (κ _ _ ?_)
  refine cw_true rfl ?_
  refine cw_rs fun _ κ => ?_
  refine as_q rfl rfl (q_build (zs := [(.pointer none)]) (places := [(0, 1)]) (cs := [_]) (by kernel_rfl) (by kernel_rfl) rfl rfl) ?_
  refine as_q rfl rfl (q_iface (by kernel_rfl) rfl) ?_
  refine as_q rfl rfl (q_build (zs := [.nilIface]) (places := [(0, 1)]) (cs := [_]) (by kernel_rfl) (by kernel_rfl) rfl rfl) ?_
  refine as_h0 (h_store hs1.sat hor rfl rfl rfl (by kernel_rfl) rfl rfl rfl fun w2 hs2 hn2 => ?_)
  clear hor; have hor := hn2; clear hn2
  replace hT := hT.own hs2 (by omega)
  have hz2 := hs2.size
  refine Sa rfl rfl ?_
  refine as_nil (κ _ _ ?_)
  refine cw_ret ?_
  exact ⟨_, (res_cell rfl (loadVar_n (n := 1) (by kernel_rfl) (by exact Blk.cells hor.1 rfl)) (res_tmp rfl res_nil)), _, _, rfl, hT, .f (t := .nil) (brep_nil.2 rfl) (trivial) (by simp only [Bt.els]; rfl)⟩
theorem hp_empty_0 {w : World} {M : Mem} {z : Int} (hs : Sat M w) (hz : ¬ (1 ≤ z ∧ z ≤ 6)) :
    Does Tryz.prog 13 #[.int .i64 z] w (fun r w' => ∃ v' M', r = .tuple #[.agg #[v'], .int .i64 22] ∧ Step Nope M w M' w' ∧ HVal M' 0 [] v') := by
  have hT := Step.refl Nope hs
  refine fn_enter Tryz.func13 rfl (rs := [.cell 2 29, .tmp 3]) rfl rfl rfl rfl ?_
  refine cw_rs fun _ κ => ?_
  have hqar := hT.size
  refine as_h rfl (h_allocO (z := (.agg #[.nilIface])) hs (by kernel_rfl) rfl fun br w1 hs1 hor er => ?_)
  replace hT := hT.then hs1
  have hz1 := hs1.size
  have hlr := hor.1.lt
  refine Sa rfl rfl ?_
  refine as_nil (κ _ _ ?_)
  refine cw_seq fun _ hK2 => ?_
  refine cw_rs fun _ κ => ?_
  refine Sm rfl rfl ?_
  refine as_nil (κ _ _ ?_)
  refine cw_block ?_
  refine cw_rs fun _ κ => ?_
  refine as_q rfl rfl (q_eqF rfl rfl (by omega)) ?_
  refine Sa rfl rfl ?_
  refine as_nil (κ _ _ ?_)
  refine cw_false rfl ?_
  refine cw_rs fun _ κ => ?_
  refine as_q rfl rfl (q_eqF rfl rfl (by omega)) ?_
  refine Sa rfl rfl ?_
  refine as_nil (κ _ _ ?_)
  refine cw_false rfl ?_
  refine cw_rs fun _ κ => ?_
  refine as_q rfl rfl (q_eqF rfl rfl (by omega)) ?_
  refine Sa rfl rfl ?_
  refine as_nil (κ _ _ ?_)
  refine cw_false rfl ?_
  refine cw_rs fun _ κ => ?_
  refine as_q rfl rfl (q_eqF rfl rfl (by omega)) ?_
  refine Sa rfl rfl ?_
  refine as_nil (κ _ _ ?_)
  refine cw_false rfl ?_
  refine cw_rs fun _ κ => ?_
  refine as_q rfl rfl (q_eqF rfl rfl (by omega)) ?_
  refine Sa rfl rfl ?_
  refine as_nil (κ _ _ ?_)
  refine cw_false rfl ?_
  refine cw_rs fun _ κ => ?_
  refine as_q rfl rfl (q_eqF rfl rfl (by omega)) ?_
  refine Sa rfl rfl ?_
  refine as_nil (κ _ _ ?_)
  refine cw_false rfl ?_
  refine cw_skip ?_
  refine hK2 _ _ ?_
  refine cw_rs fun _ κ => ?_
  refine as_q rfl rfl (q_build (zs := [.nilIface]) (places := [(0, 1)]) (cs := [_]) (by kernel_rfl) (by kernel_rfl) rfl rfl) ?_
  refine as_h0 (h_store hs1.sat hor rfl rfl rfl (by kernel_rfl) rfl rfl rfl fun w2 hs2 hn2 => ?_)
  clear hor; have hor := hn2; clear hn2
  replace hT := hT.own hs2 (by omega)
  have hz2 := hs2.size
  refine Sa rfl rfl ?_
  refine as_nil (κ _ _ ?_)
  refine cw_ret ?_
  exact ⟨_, (res_cell rfl (loadVar_n (n := 1) (by kernel_rfl) (by exact Blk.cells hor.1 rfl)) (res_tmp rfl res_nil)), _, _, rfl, hT, .z⟩
theorem hp_empty {w : World} {M : Mem} {z : Int} (hs : Sat M w) : Does Tryz.prog 13 #[.int .i64 z] w (fun r w' => ∃ v' M', r = .tuple #[.agg #[v'], .int .i64 (emE z)] ∧ Step Nope M w M' w' ∧ HVal M' (emK z) [] v') := by
  unfold emE emK
  by_cases hz : 1 ≤ z ∧ z ≤ 6
  · rw [if_pos hz, if_pos hz]
    have hc : z = 1 ∨ z = 2 ∨ z = 3 ∨ z = 4 ∨ z = 5 ∨ z = 6 := by omega
    rcases hc with rfl | rfl | rfl | rfl | rfl | rfl
    · exact hp_empty_1 hs
    · exact hp_empty_2 hs
    · exact hp_empty_3 hs
    · exact hp_empty_4 hs
    · exact hp_empty_5 hs
    · exact hp_empty_6 hs
  · rw [if_neg hz, if_neg hz]
    exact hp_empty_0 hs hz
theorem hp_of_1 {w : World} {M : Mem} {z : Int} {u : Value} {n : Nat} {xs : List El} (hs : Sat M w) (hr : Rds M w 2 u n (els xs)) (hn : n ≤ 1000000) (hz : (1 ≤ z ∧ z ≤ 6)) :
    Does Tryz.prog 11 #[.pointer none, .int .i64 z, u] w (fun r w' => ∃ v' M', r = .tuple #[.agg #[v'], .int .i64 (emE z)] ∧ Step Nope M w M' w' ∧ HVal M' (emK z) (ofL z xs) v') := by
  have hT := Step.refl Nope hs
  have hxl := hr.els_len hs
  obtain ⟨sa, sc, rfl, _, _⟩ := hr.slice hs
  have hof0 : ofL z [] = [] := by unfold ofL; split <;> rfl
  have hie : insE (emK z) = emE z := by unfold insE emE emK; rw [if_pos hz, if_pos hz, if_neg (by omega)]
  have hek : emK z ≠ 0 := by unfold emK; rw [if_pos hz]; omega
  have hem : emE z = 0 := by unfold emE; rw [if_pos hz]
  have hlen : ∀ i, (ofL z (xs.take i)).length ≤ n := fun i => by unfold ofL; rw [if_pos hz, srtE_length, List.length_take]; omega
  have hof1 : ∀ l x, insL (emK z) (ofL z l) x = ofL z (l ++ [x]) := fun l x => by unfold insL ofL emK; rw [if_pos hz, if_pos hz, if_pos hz, if_neg (by omega), srtE_snoc]
  refine fn_enter Tryz.func11 rfl (rs := [.cell 6 29, .tmp 7]) rfl rfl rfl rfl ?_
  refine cw_rs fun _ κ => ?_
  have hqar := hT.size
  refine as_h rfl (h_allocO (z := (.agg #[.nilIface])) hs (by kernel_rfl) rfl fun br w1 hs1 hor er => ?_)
  replace hT := hT.then hs1
  have hz1 := hs1.size
  have hlr := hor.1.lt
  refine Sa rfl rfl ?_
  refine as_nil (κ _ _ ?_)
  refine cw_rs fun _ κ => ?_
  refine Sm rfl rfl ?_
  refine as_h rfl (h_call (by kernel_rfl) rfl ?_)
  refine (hp_empty hs1.sat).mono ?_
  rintro _ w2 ⟨v0, M0, rfl, hs2, hv⟩
  replace hor := hor.then hs2
  replace hT := hT.then hs2
  have hz2 := hs2.size
  obtain ⟨d_hv, u_hv, rfl⟩ := hv.iface hek
  refine Sm rfl rfl ?_
  refine Se rfl rfl rfl ?_
  refine Se rfl rfl rfl ?_
  have hqao := hT.size
  refine as_h rfl (h_allocO (z := (.agg #[.nilIface])) hs2.sat (by kernel_rfl) rfl fun bo w3 hs3 hoo eo => ?_)
  replace hor := hor.then hs3
  replace hv := hv.mono hs3.le
  replace hT := hT.then hs3
  have hz3 := hs3.size
  have hlo := hoo.1.lt
  refine as_h0 (h_store hs3.sat hoo rfl rfl rfl (by kernel_rfl) rfl rfl rfl fun w4 hs4 hn4 => ?_)
  replace hor := hor.step hs4 (fun h => by have h : _ = _ := h; omega)
  replace hv := hv.mono hs4.le
  clear hoo; have hoo := hn4; clear hn4
  replace hT := hT.own hs4 (by omega)
  have hz4 := hs4.size
  refine Sa rfl rfl ?_
  refine as_nil (κ _ _ ?_)
  refine cw_seq fun _ hK3 => ?_
  refine cw_rs fun _ κ => ?_
  refine Sm rfl rfl ?_
  refine as_q rfl rfl (q_len (by kernel_rfl) rfl _) ?_
  refine Sm rfl rfl ?_
  refine as_nil (κ _ _ ?_)
  refine cw_block ?_
  refine cw_loop (fun mm l1 w1 => ∃ (i : Nat) (v : Value) (M1 : Mem), mm = n - i ∧ i ≤ n ∧ l1 = [(0, .pointer none), (6, .pointer (some ⟨br, 0, none⟩)), (8, .pointer (some ⟨bo, 0, none⟩)), (9, .int .i64 (emE z)), (17, .slice sa n sc), (18, .int .i64 (n : Nat)), (19, .int .i64 i)] ∧ Step Nope M w M1 w1 ∧ HVal M1 (emK z) (ofL z (xs.take i)) v ∧ Own w1 M1 bo [v] 29 ∧ Own w1 M1 br [.nilIface] 29) (n) [(0, .pointer none), (6, .pointer (some ⟨br, 0, none⟩)), (8, .pointer (some ⟨bo, 0, none⟩)), (9, .int .i64 (emE z)), (17, .slice sa n sc), (18, .int .i64 (n : Nat)), (19, .int .i64 (0 : Nat))] (.cons rfl (.cons rfl (.cons rfl (.cons rfl (.cons rfl (.cons rfl (.cons rfl (.nil _)))))))) ?_ ?_
  · skip
    exact ⟨0, _, M0, rfl, Nat.zero_le _, rfl, hT, (by rw [List.take_zero, hof0]; exact hv), hoo, hor⟩
  have hbw : w.heap.size ≤ bo ∧ w.heap.size ≤ br ∧ bo ≠ br := by omega
  clear hT hv hoo hor
  rintro mm l1 w1 ⟨i, v, M1, rfl, hi, rfl, hT, hv, hoo, hor⟩
  obtain ⟨d_hv, u_hv, rfl⟩ := hv.iface hek
  have hlo1 := hoo.1.lt
  have hlr1 := hor.1.lt
  refine cw_rs fun _ κ => ?_
  refine as_q rfl rfl (q_lt rfl rfl) ?_
  refine as_nil (κ _ _ ?_)
  refine cw_seq fun _ hK6 => ?_
  refine cw_cond rfl (fun hc0 => ?_) (fun hc0 => ?_)
  · skip
    have hlt : i < n := by have := of_decide_eq_true hc0; omega
    obtain ⟨y, hy⟩ : ∃ y, xs[i]? = some y := ⟨xs[i]'(by omega), by simp⟩
    obtain ⟨g, o, rfl⟩ := (hr _ _ hT).there (by omega)
    refine cw_skip ?_
    refine hK6 _ _ ?_
    refine cw_seq fun _ hK7 => ?_
    refine cw_block ?_
    refine cw_rs fun _ κ => ?_
    refine as_q rfl rfl (q_indexAddr (e := 24) (size := 2) (by kernel_rfl) (by kernel_rfl) rfl rfl (by omega) (by omega)) ?_
    refine Sc 2 rfl (by kernel_rfl) rfl ((hr _ _ hT).el (j := (i : Int).toNat) (by simpa using hy)) ?_
    have hqaxx := hT.size
    refine as_h rfl (h_allocO (z := (.agg #[(.int .i64 0), (.int .i64 0)])) hT.sat (by kernel_rfl) rfl fun bxx w5 hs5 hoxx exx => ?_)
    replace hv := hv.mono hs5.le
    replace hoo := hoo.then hs5
    replace hor := hor.then hs5
    replace hT := hT.then hs5
    have hz5 := hs5.size
    have hlxx := hoxx.1.lt
    refine as_h0 (h_store hs5.sat hoxx rfl rfl rfl (by kernel_rfl) rfl rfl rfl fun w6 hs6 hn6 => ?_)
    replace hv := hv.mono hs6.le
    replace hoo := hoo.step hs6 (fun h => by have h : _ = _ := h; omega)
    replace hor := hor.step hs6 (fun h => by have h : _ = _ := h; omega)
    clear hoxx; have hoxx := hn6; clear hn6
    replace hT := hT.own hs6 (by omega)
    have hz6 := hs6.size
    refine as_nil (κ _ _ ?_)
    refine cw_rs fun _ κ => ?_
    refine Sm rfl rfl ?_
    refine as_q rfl rfl (q_eqT rfl rfl (by omega)) ?_
    refine as_nil (κ _ _ ?_)
    refine cw_true rfl ?_
    refine cw_region fun _ κ => ?_
    refine Sc 1 rfl (by kernel_rfl) rfl (by exact Blk.cells hoo.1 rfl) ?_
    refine Sm rfl rfl ?_
    refine Sc 2 rfl (by kernel_rfl) rfl (by exact Blk.cells hoxx.1 rfl) ?_
    refine as_h rfl (h_call (by kernel_rfl) rfl ?_)
    refine (hp_insert (x := y) hs6.sat hv (by have := hlen i; omega)).mono ?_
    rintro _ w7 ⟨v2, M2, hr2, hs7, hv2⟩
    rw [hie] at hr2
    subst hr2
    replace hv := hv.mono hs7.le
    replace hoo := hoo.then hs7
    replace hor := hor.then hs7
    replace hT := hT.then hs7
    have hz7 := hs7.size
    obtain ⟨d_hv2, u_hv2, rfl⟩ := hv2.iface hek
    refine Sm rfl rfl ?_
    refine Se rfl rfl rfl ?_
    refine Se rfl rfl rfl ?_
    refine as_h0 (h_store hs7.sat hoo rfl rfl rfl (by kernel_rfl) rfl rfl rfl fun w8 hs8 hn8 => ?_)
    replace hv := hv.mono hs8.le
    replace hor := hor.step hs8 (fun h => by have h : br = bo := h; omega)
    replace hv2 := hv2.mono hs8.le
    clear hoo; have hoo := hn8; clear hn8
    replace hT := hT.own hs8 (by omega)
    have hz8 := hs8.size
    refine Sa rfl rfl ?_
    refine as_nil (κ _ _ ?_)
    refine hK7 _ _ ?_
    refine cw_region fun _ κ => ?_
    refine as_q rfl rfl (q_addx rfl rfl (by omega) (by omega)) ?_
    refine Sm rfl rfl ?_
    refine as_nil (κ _ _ ?_)
    refine ⟨_, _, ?_, (.cons rfl (.cons rfl (.cons rfl (.cons rfl (.cons rfl (.cons rfl (.cons rfl (.nil _)))))))), i + 1, _, _, rfl, by omega, rfl, hT, ?_, hoo, hor⟩
    · omega
    · rw [List.take_add_one, hy]; exact hof1 _ _ ▸ hv2
  · skip
    have hge : i = n := by have := of_decide_eq_false hc0; omega
    refine cw_exit ?_
    refine hK3 _ _ ?_
    refine cw_rs fun _ κ => ?_
    refine Sc 1 rfl (by kernel_rfl) rfl (by exact Blk.cells hoo.1 rfl) ?_
    refine Sm rfl rfl ?_
    refine as_h0 (h_store hT.sat hor rfl rfl rfl (by kernel_rfl) rfl rfl rfl fun w9 hs9 hn9 => ?_)
    replace hv := hv.mono hs9.le
    clear hor; have hor := hn9; clear hn9
    replace hT := hT.own hs9 (by omega)
    have hz9 := hs9.size
    refine Sa rfl rfl ?_
    refine as_nil (κ _ _ ?_)
    refine cw_ret ?_
    subst hge
    rw [List.take_of_length_le (by omega)] at hv
    exact ⟨_, (res_cell rfl (loadVar_n (n := 1) (by kernel_rfl) (by exact Blk.cells hor.1 rfl)) (res_tmp rfl res_nil)), _, _, rfl, hT, hv⟩
theorem hp_of_0 {w : World} {M : Mem} {z : Int} {u : Value} {n : Nat} {xs : List El} (hs : Sat M w) (hr : Rds M w 2 u n (els xs)) (hn : n ≤ 1000000) (hz : ¬ (1 ≤ z ∧ z ≤ 6)) :
    Does Tryz.prog 11 #[.pointer none, .int .i64 z, u] w (fun r w' => ∃ v' M', r = .tuple #[.agg #[v'], .int .i64 (emE z)] ∧ Step Nope M w M' w' ∧ HVal M' (emK z) (ofL z xs) v') := by
  have hT := Step.refl Nope hs
  have hxl := hr.els_len hs
  obtain ⟨sa, sc, rfl, _, _⟩ := hr.slice hs
  have hof0 : ofL z [] = [] := by unfold ofL; split <;> rfl
  have hek : emK z = 0 := by unfold emK; rw [if_neg hz]
  have hem : emE z = 22 := by unfold emE; rw [if_neg hz]
  have hofb : ∀ l, ofL z l = [] := fun l => by unfold ofL; rw [if_neg hz]
  refine fn_enter Tryz.func11 rfl (rs := [.cell 6 29, .tmp 7]) rfl rfl rfl rfl ?_
  refine cw_rs fun _ κ => ?_
  have hqar := hT.size
  refine as_h rfl (h_allocO (z := (.agg #[.nilIface])) hs (by kernel_rfl) rfl fun br w1 hs1 hor er => ?_)
  replace hT := hT.then hs1
  have hz1 := hs1.size
  have hlr := hor.1.lt
  refine Sa rfl rfl ?_
  refine as_nil (κ _ _ ?_)
  refine cw_rs fun _ κ => ?_
  refine Sm rfl rfl ?_
  refine as_h rfl (h_call (by kernel_rfl) rfl ?_)
  refine (hp_empty hs1.sat).mono ?_
  rintro _ w2 ⟨v0, M0, rfl, hs2, hv⟩
  replace hor := hor.then hs2
  replace hT := hT.then hs2
  have hz2 := hs2.size
  obtain ⟨_, rfl⟩ := HVal.zero (hek ▸ hv)
  refine Sm rfl rfl ?_
  refine Se rfl rfl rfl ?_
  refine Se rfl rfl rfl ?_
  have hqao := hT.size
  refine as_h rfl (h_allocO (z := (.agg #[.nilIface])) hs2.sat (by kernel_rfl) rfl fun bo w3 hs3 hoo eo => ?_)
  replace hor := hor.then hs3
  replace hv := hv.mono hs3.le
  replace hT := hT.then hs3
  have hz3 := hs3.size
  have hlo := hoo.1.lt
  refine as_h0 (h_store hs3.sat hoo rfl rfl rfl (by kernel_rfl) rfl rfl rfl fun w4 hs4 hn4 => ?_)
  replace hor := hor.step hs4 (fun h => by have h : _ = _ := h; omega)
  replace hv := hv.mono hs4.le
  clear hoo; have hoo := hn4; clear hn4
  replace hT := hT.own hs4 (by omega)
  have hz4 := hs4.size
  refine Sa rfl rfl ?_
  refine as_nil (κ _ _ ?_)
  refine cw_seq fun _ hK3 => ?_
  refine cw_rs fun _ κ => ?_
  refine Sm rfl rfl ?_
  refine as_q rfl rfl (q_len (by kernel_rfl) rfl _) ?_
  refine Sm rfl rfl ?_
  refine as_nil (κ _ _ ?_)
  refine cw_block ?_
  refine cw_loop (fun mm l1 w1 => ∃ (i : Nat) (v : Value) (M1 : Mem), mm = n - i ∧ i ≤ n ∧ l1 = [(0, .pointer none), (6, .pointer (some ⟨br, 0, none⟩)), (8, .pointer (some ⟨bo, 0, none⟩)), (9, .int .i64 (emE z)), (17, .slice sa n sc), (18, .int .i64 (n : Nat)), (19, .int .i64 i)] ∧ Step Nope M w M1 w1 ∧ HVal M1 (emK z) (ofL z (xs.take i)) v ∧ Own w1 M1 bo [v] 29 ∧ Own w1 M1 br [.nilIface] 29) (n) [(0, .pointer none), (6, .pointer (some ⟨br, 0, none⟩)), (8, .pointer (some ⟨bo, 0, none⟩)), (9, .int .i64 (emE z)), (17, .slice sa n sc), (18, .int .i64 (n : Nat)), (19, .int .i64 (0 : Nat))] (.cons rfl (.cons rfl (.cons rfl (.cons rfl (.cons rfl (.cons rfl (.cons rfl (.nil _)))))))) ?_ ?_
  · skip
    exact ⟨0, _, M0, rfl, Nat.zero_le _, rfl, hT, (by rw [List.take_zero, hof0]; exact hv), hoo, hor⟩
  have hbw : w.heap.size ≤ bo ∧ w.heap.size ≤ br ∧ bo ≠ br := by omega
  clear hT hv hoo hor
  rintro mm l1 w1 ⟨i, v, M1, rfl, hi, rfl, hT, hv, hoo, hor⟩
  obtain ⟨_, rfl⟩ := HVal.zero (hek ▸ hv)
  have hlo1 := hoo.1.lt
  have hlr1 := hor.1.lt
  refine cw_rs fun _ κ => ?_
  refine as_q rfl rfl (q_lt rfl rfl) ?_
  refine as_nil (κ _ _ ?_)
  refine cw_seq fun _ hK6 => ?_
  refine cw_cond rfl (fun hc0 => ?_) (fun hc0 => ?_)
  · skip
    have hlt : i < n := by have := of_decide_eq_true hc0; omega
    obtain ⟨y, hy⟩ : ∃ y, xs[i]? = some y := ⟨xs[i]'(by omega), by simp⟩
    obtain ⟨g, o, rfl⟩ := (hr _ _ hT).there (by omega)
    refine cw_skip ?_
    refine hK6 _ _ ?_
    refine cw_seq fun _ hK7 => ?_
    refine cw_block ?_
    refine cw_rs fun _ κ => ?_
    refine as_q rfl rfl (q_indexAddr (e := 24) (size := 2) (by kernel_rfl) (by kernel_rfl) rfl rfl (by omega) (by omega)) ?_
    refine Sc 2 rfl (by kernel_rfl) rfl ((hr _ _ hT).el (j := (i : Int).toNat) (by simpa using hy)) ?_
    have hqaxx := hT.size
    refine as_h rfl (h_allocO (z := (.agg #[(.int .i64 0), (.int .i64 0)])) hT.sat (by kernel_rfl) rfl fun bxx w5 hs5 hoxx exx => ?_)
    replace hv := hv.mono hs5.le
    replace hoo := hoo.then hs5
    replace hor := hor.then hs5
    replace hT := hT.then hs5
    have hz5 := hs5.size
    have hlxx := hoxx.1.lt
    refine as_h0 (h_store hs5.sat hoxx rfl rfl rfl (by kernel_rfl) rfl rfl rfl fun w6 hs6 hn6 => ?_)
    replace hv := hv.mono hs6.le
    replace hoo := hoo.step hs6 (fun h => by have h : _ = _ := h; omega)
    replace hor := hor.step hs6 (fun h => by have h : _ = _ := h; omega)
    clear hoxx; have hoxx := hn6; clear hn6
    replace hT := hT.own hs6 (by omega)
    have hz6 := hs6.size
    refine as_nil (κ _ _ ?_)
    refine cw_rs fun _ κ => ?_
    refine Sm rfl rfl ?_
    refine as_q rfl rfl (q_eqF rfl rfl (by omega)) ?_
    refine as_nil (κ _ _ ?_)
    refine cw_false rfl ?_
    refine cw_skip ?_
    refine hK7 _ _ ?_
    refine cw_region fun _ κ => ?_
    refine as_q rfl rfl (q_addx rfl rfl (by omega) (by omega)) ?_
    refine Sm rfl rfl ?_
    refine as_nil (κ _ _ ?_)
    refine ⟨_, _, ?_, (.cons rfl (.cons rfl (.cons rfl (.cons rfl (.cons rfl (.cons rfl (.cons rfl (.nil _)))))))), i + 1, _, _, rfl, by omega, rfl, hT, ?_, hoo, hor⟩
    · omega
    · rw [hofb] at hv ⊢; exact hv
  · skip
    have hge : i = n := by have := of_decide_eq_false hc0; omega
    refine cw_exit ?_
    refine hK3 _ _ ?_
    refine cw_rs fun _ κ => ?_
    refine Sc 1 rfl (by kernel_rfl) rfl (by exact Blk.cells hoo.1 rfl) ?_
    refine Sm rfl rfl ?_
    refine as_h0 (h_store hT.sat hor rfl rfl rfl (by kernel_rfl) rfl rfl rfl fun w7 hs7 hn7 => ?_)
    replace hv := hv.mono hs7.le
    clear hor; have hor := hn7; clear hn7
    replace hT := hT.own hs7 (by omega)
    have hz7 := hs7.size
    refine Sa rfl rfl ?_
    refine as_nil (κ _ _ ?_)
    refine cw_ret ?_
    subst hge
    rw [List.take_of_length_le (by omega)] at hv
    exact ⟨_, (res_cell rfl (loadVar_n (n := 1) (by kernel_rfl) (by exact Blk.cells hor.1 rfl)) (res_tmp rfl res_nil)), _, _, rfl, hT, hv⟩
theorem hp_of {w : World} {M : Mem} {z : Int} {u : Value} {n : Nat} {xs : List El} (hs : Sat M w) (hr : Rds M w 2 u n (els xs)) (hn : n ≤ 1000000) : Does Tryz.prog 11 #[.pointer none, .int .i64 z, u] w (fun r w' => ∃ v' M', r = .tuple #[.agg #[v'], .int .i64 (emE z)] ∧ Step Nope M w M' w' ∧ HVal M' (emK z) (ofL z xs) v') := by
  by_cases hz : 1 ≤ z ∧ z ≤ 6
  · exact hp_of_1 hs hr hn hz
  · exact hp_of_0 hs hr hn hz
end Go.Proofs.YtgcgjpfjjgalmaaGreat
/- Contracts of the library at this program: FormatInt of small numbers, Join. Laid by the kit's lay-plain. -/
namespace Go.Proofs
open Go.Shelf
def Tryz.lays156_ren : Go.Shelf.Ren := ⟨fun | 156 => 128 | 165 => 141 | 166 => 139 | 169 => 140 | 240 => 146 | 241 => 147 | 276 => 150 | 277 => 151 | n => n, fun | 31 => 211 | 9 => 9 | 3 => 3 | 4 => 4 | 0 => 0 | 20 => 20 | 72 => 227 | 76 => 230 | 70 => 225 | 37 => 184 | 75 => 229 | 127 => 158 | 164 => 143 | 5 => 5 | 80 => 61 | n => n, fun | n => n⟩
theorem Tryz.lays156 : Go.Proofs.Lays.n156 Tryz.prog Tryz.lays156_ren := {
  mixed := by kernel_rfl
  f156 := Tryz.func128.trans (congrArg some (by kernel_rfl))
  f165 := Tryz.func141.trans (congrArg some (by kernel_rfl))
  f166 := Tryz.func139.trans (congrArg some (by kernel_rfl))
  f169 := Tryz.func140.trans (congrArg some (by kernel_rfl))
  f240 := Tryz.func146.trans (congrArg some (by kernel_rfl))
  f241 := Tryz.func147.trans (congrArg some (by kernel_rfl))
  f276 := Tryz.func150.trans (congrArg some (by kernel_rfl))
  f277 := Tryz.func151.trans (congrArg some (by kernel_rfl))
  t0 := Tryz.underlying0
  a0 := Tryz.isAgg0
  z0 := Tryz.sizeOf0
  v0 := Tryz.zeroValue0
  t3 := Tryz.underlying3
  a3 := Tryz.isAgg3
  z3 := Tryz.sizeOf3
  v3 := Tryz.zeroValue3
  t4 := Tryz.underlying4
  a4 := Tryz.isAgg4
  z4 := Tryz.sizeOf4
  v4 := Tryz.zeroValue4
  t9 := Tryz.underlying9
  a9 := Tryz.isAgg9
  z9 := Tryz.sizeOf9
  v9 := Tryz.zeroValue9
  t20 := Tryz.underlying20
  a20 := Tryz.isAgg20
  z20 := Tryz.sizeOf20
  v20 := Tryz.zeroValue20
  t31 := Tryz.underlying211
  a31 := Tryz.isAgg211
  z31 := Tryz.sizeOf211
  v31 := Tryz.zeroValue211
  t37 := Tryz.underlying184
  a37 := Tryz.isAgg184
  z37 := Tryz.sizeOf184
  v37 := Tryz.zeroValue184
  t70 := Tryz.underlying225
  a70 := Tryz.isAgg225
  z70 := Tryz.sizeOf225
  v70 := Tryz.zeroValue225
  t72 := Tryz.underlying227
  a72 := Tryz.isAgg227
  z72 := Tryz.sizeOf227
  v72 := Tryz.zeroValue227
  t75 := Tryz.underlying229
  a75 := Tryz.isAgg229
  z75 := Tryz.sizeOf229
  v75 := Tryz.zeroValue229
  t76 := Tryz.underlying230
  a76 := Tryz.isAgg230
  z76 := Tryz.sizeOf230
  v76 := Tryz.zeroValue230
  t127 := Tryz.underlying158
  a127 := Tryz.isAgg158
  z127 := Tryz.sizeOf158
  v127 := Tryz.zeroValue158
  t164 := Tryz.underlying143
  a164 := Tryz.isAgg143
  z164 := Tryz.sizeOf143
  v164 := Tryz.zeroValue143 }
theorem Tryz.Builder_Extra_156 : Builder.Extra Tryz.prog Tryz.lays156_ren := {
  sizeBuilder := by kernel_rfl
  liesBuilder := by kernel_rfl
  t5 := Tryz.underlying5
  a5 := Tryz.isAgg5
  z5 := Tryz.sizeOf5
  v5 := Tryz.zeroValue5
  infoByte := by kernel_rfl
  cellsByte := by kernel_rfl
  sizeByte := by kernel_rfl
  neB5 := by decide }
open Go.RowKit in
theorem Tryz.strings_Join (bk o c : Nat) (xs : List ByteArray) (sep : ByteArray) (w : World) (hcells : ∀ (j : Nat) x, xs[j]? = some x → w.cell? ⟨bk, o + j, none⟩ = some (.string x)) (hbk : bk < w.heap.size) (hN : xs.length ≤ 140737488355328) (hcap : xs.length ≤ c) (hlen : (Lib.join (xs.map (·.data.toList)) sep.data.toList).length ≤ 140737488355328) :
    Calls Tryz.prog 128 #[.slice (some ⟨bk, o, none⟩) xs.length c, .string sep] w fun e w' => e = .returned (.string ⟨(Lib.join (xs.map (·.data.toList)) sep.data.toList).toArray⟩) ∧ Below w.heap.size w w' := Any.strings_Join Tryz.lays156 Tryz.Builder_Extra_156 bk o c xs sep w hcells hbk hN hcap hlen
def Tryz.lays173_ren : Go.Shelf.Ren := ⟨fun | 173 => 97 | 246 => 98 | 283 => 99 | 284 => 100 | 285 => 101 | 286 => 102 | 129 => 104 | 317 => 103 | 318 => 105 | 319 => 106 | 320 => 107 | 337 => 108 | 338 => 109 | n => n, fun | 2 => 2 | 3 => 3 | 9 => 9 | 4 => 4 | 171 => 180 | 0 => 0 | 53 => 181 | 37 => 184 | 5 => 5 | 173 => 185 | 212 => 189 | 51 => 103 | 20 => 20 | 213 => 190 | 46 => 146 | 232 => 193 | 233 => 194 | n => n, fun | 17 => 0 | 18 => 1 | 19 => 2 | n => n⟩
theorem Tryz.lays173 : Go.Proofs.Lays.n173 Tryz.prog Tryz.lays173_ren := {
  mixed := by kernel_rfl
  f129 := Tryz.func104.trans (congrArg some (by kernel_rfl))
  f173 := Tryz.func97.trans (congrArg some (by kernel_rfl))
  f246 := Tryz.func98.trans (congrArg some (by kernel_rfl))
  f283 := Tryz.func99.trans (congrArg some (by kernel_rfl))
  f284 := Tryz.func100.trans (congrArg some (by kernel_rfl))
  f285 := Tryz.func101.trans (congrArg some (by kernel_rfl))
  f286 := Tryz.func102.trans (congrArg some (by kernel_rfl))
  f317 := Tryz.func103.trans (congrArg some (by kernel_rfl))
  f318 := Tryz.func105.trans (congrArg some (by kernel_rfl))
  f319 := Tryz.func106.trans (congrArg some (by kernel_rfl))
  f320 := Tryz.func107.trans (congrArg some (by kernel_rfl))
  f337 := Tryz.func108.trans (congrArg some (by kernel_rfl))
  f338 := Tryz.func109.trans (congrArg some (by kernel_rfl))
  t0 := Tryz.underlying0
  a0 := Tryz.isAgg0
  z0 := Tryz.sizeOf0
  v0 := Tryz.zeroValue0
  t2 := Tryz.underlying2
  a2 := Tryz.isAgg2
  z2 := Tryz.sizeOf2
  v2 := Tryz.zeroValue2
  t3 := Tryz.underlying3
  a3 := Tryz.isAgg3
  z3 := Tryz.sizeOf3
  v3 := Tryz.zeroValue3
  t4 := Tryz.underlying4
  a4 := Tryz.isAgg4
  z4 := Tryz.sizeOf4
  v4 := Tryz.zeroValue4
  t5 := Tryz.underlying5
  a5 := Tryz.isAgg5
  z5 := Tryz.sizeOf5
  v5 := Tryz.zeroValue5
  t9 := Tryz.underlying9
  a9 := Tryz.isAgg9
  z9 := Tryz.sizeOf9
  v9 := Tryz.zeroValue9
  t20 := Tryz.underlying20
  a20 := Tryz.isAgg20
  z20 := Tryz.sizeOf20
  v20 := Tryz.zeroValue20
  t37 := Tryz.underlying184
  a37 := Tryz.isAgg184
  z37 := Tryz.sizeOf184
  v37 := Tryz.zeroValue184
  t46 := Tryz.underlying146
  a46 := Tryz.isAgg146
  z46 := Tryz.sizeOf146
  v46 := Tryz.zeroValue146
  t51 := Tryz.underlying103
  a51 := Tryz.isAgg103
  z51 := Tryz.sizeOf103
  v51 := Tryz.zeroValue103
  t53 := Tryz.underlying181
  a53 := Tryz.isAgg181
  z53 := Tryz.sizeOf181
  v53 := Tryz.zeroValue181
  t171 := Tryz.underlying180
  a171 := Tryz.isAgg180
  z171 := Tryz.sizeOf180
  v171 := Tryz.zeroValue180
  t173 := Tryz.underlying185
  a173 := Tryz.isAgg185
  z173 := Tryz.sizeOf185
  v173 := Tryz.zeroValue185
  t212 := Tryz.underlying189
  a212 := Tryz.isAgg189
  z212 := Tryz.sizeOf189
  v212 := Tryz.zeroValue189
  t213 := Tryz.underlying190
  a213 := Tryz.isAgg190
  z213 := Tryz.sizeOf190
  t232 := Tryz.underlying193
  a232 := Tryz.isAgg193
  z232 := Tryz.sizeOf193
  v232 := Tryz.zeroValue193
  t233 := Tryz.underlying194
  a233 := Tryz.isAgg194
  z233 := Tryz.sizeOf194
  v233 := Tryz.zeroValue194
  g17 := by kernel_rfl
  g18 := by kernel_rfl
  g19 := by kernel_rfl }
open Go.RowKit Go.Sort Go.Lib in
theorem Tryz.strconv_FormatInt_10_small (i : Nat) (hi : i < 100) (w : World) :
    Calls Tryz.prog 97 #[.int .i64 i, .int .i64 10] w fun e w' => e = .returned (.string ⟨(Lib.decDigits i).toArray⟩) ∧ w' = w := Any.strconv_FormatInt_10_small Tryz.lays173 i hi w
end Go.Proofs
