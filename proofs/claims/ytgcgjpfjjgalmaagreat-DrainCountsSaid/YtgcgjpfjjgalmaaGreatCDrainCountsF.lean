/- Steps of the proof that the law of this claim answers true, part 6. No conditions. -/
import Derived.Test.YtgcgjpfjjgalmaaGreatCDrainCountsE
/- Heaps of the kinds, as heaps of any kind, part 1. -/
namespace Go.Proofs.YtgcgjpfjjgalmaaGreat
open Go Go.Eng
theorem wa_insert {w : World} {M : Mem} {x : El} {t : Lft} {q : Option Addr} (hs : Sat M w) (h : LRep 171 M t (.pointer q)) (hz : t.size < 1000000000) :
    Does Tryz.prog 90 #[.agg #[.pointer q], .pointer none, .agg (elc x).toArray] w (fun v w' => ∃ q M', v = .iface 69 (.agg #[.pointer q]) ∧ Step Nope M w M' w' ∧ LRep 171 M' (Lft.insert x t) (.pointer q)) := by
  have hT := Step.refl Nope hs
  refine fn_enter Tryz.func90 rfl (rs := [.tmp 6]) rfl rfl rfl rfl ?_
  refine cw_rs fun _ κ => ?_
  refine as_h rfl (h_boxM hs rfl rfl fun b1 M1 w1 hs1 hb1 e1 => ?_)
  replace h := h.mono hs1.le
  replace hT := hT.then hs1
  refine as_h rfl (h_boxM hs1.sat rfl rfl fun b2 M2 w2 hs2 hb2 e2 => ?_)
  replace h := h.mono hs2.le
  replace hb1 := hs2.le _ _ hb1
  replace hT := hT.then hs2
  refine Sa rfl rfl ?_
  refine as_nil (κ _ _ ?_)
  refine cw_rs fun _ κ => ?_
  refine Sf 0 rfl (by kernel_rfl) rfl ?_
  refine Sc 1 rfl (by kernel_rfl) rfl (by exact BlkR.cells (hs2.sat _ _ _ hb1) rfl) ?_
  refine as_q rfl rfl (q_iface (by kernel_rfl) rfl) ?_
  refine Sm rfl rfl ?_
  refine Sc 2 rfl (by kernel_rfl) rfl (by exact BlkR.cells (hs2.sat _ _ _ hb2) rfl) ?_
  refine as_h rfl (h_invoke (f := 278) (r := .agg #[.pointer q]) (by kernel_rfl) rfl rfl (by kernel_rfl) ?_)
  refine (l_insert (x := x) hs2.sat h hz).mono ?_
  rintro _ w3 ⟨pn, Mn, rfl, hs3, hn⟩
  obtain ⟨qn, rfl⟩ := hn.ptr
  replace h := h.mono hs3.le
  replace hT := hT.then hs3
  refine as_q rfl rfl (q_build (zs := [(.pointer none)]) (places := [(0, 1)]) (cs := [_]) (by kernel_rfl) (by kernel_rfl) rfl rfl) ?_
  refine as_q rfl rfl (q_iface (by kernel_rfl) rfl) ?_
  refine Sa rfl rfl ?_
  refine as_nil (κ _ _ ?_)
  refine cw_ret ?_
  exact ⟨_, (res_tmp rfl res_nil), _, _, rfl, hT, hn⟩
theorem wa_size {w : World} {M : Mem} {t : Lft} {q : Option Addr} (hs : Sat M w) (h : LRep 171 M t (.pointer q)) :
    Does Tryz.prog 95 #[.agg #[.pointer q]] w (fun v w' => v = .int .i64 (t.size : Nat) ∧ Step Nope M w M w') := by
  have hT := Step.refl Nope hs
  refine fn_enter Tryz.func95 rfl (rs := [.tmp 2]) rfl rfl rfl rfl ?_
  refine cw_rs fun _ κ => ?_
  refine as_h rfl (h_boxM hs rfl rfl fun b1 M1 w1 hs1 hb1 e1 => ?_)
  replace h := h.mono hs1.le
  replace hT := hT.then hs1
  refine Sa rfl rfl ?_
  refine as_nil (κ _ _ ?_)
  refine cw_rs fun _ κ => ?_
  refine Sf 0 rfl (by kernel_rfl) rfl ?_
  refine Sc 1 rfl (by kernel_rfl) rfl (by exact BlkR.cells (hs1.sat _ _ _ hb1) rfl) ?_
  refine as_q rfl rfl (q_iface (by kernel_rfl) rfl) ?_
  refine as_h rfl (h_invoke (f := 282) (r := .agg #[.pointer q]) (by kernel_rfl) rfl rfl (by kernel_rfl) ?_)
  refine (l_size hs1.sat h).mono ?_
  rintro _ w2 ⟨rfl, hs2⟩
  replace h := h.mono hs2.le
  replace hT := hT.then hs2
  refine Sa rfl rfl ?_
  refine as_nil (κ _ _ ?_)
  refine cw_ret ?_
  exact ⟨_, (res_tmp rfl res_nil), rfl, hT.forget⟩
theorem wa_min {w : World} {M : Mem} {x : El} {l r : Lft} {q : Option Addr} (hs : Sat M w) (h : LRep 171 M (Lft.node x l r) (.pointer q)) :
    Does Tryz.prog 92 #[.agg #[.pointer q], .pointer none] w (fun v w' => v = .tuple #[.agg (elc x).toArray, .bool true] ∧ Step Nope M w M w') := by
  have hT := Step.refl Nope hs
  refine fn_enter Tryz.func92 rfl (rs := [.cell 4 24, .tmp 5]) rfl rfl rfl rfl ?_
  refine cw_rs fun _ κ => ?_
  refine as_h rfl (h_boxM hs rfl rfl fun b1 M1 w1 hs1 hb1 e1 => ?_)
  replace h := h.mono hs1.le
  replace hT := hT.then hs1
  have hz1 := hs1.size
  have hqar := hT.size
  refine as_h rfl (h_allocO (z := (.agg #[(.int .i64 0), (.int .i64 0)])) hs1.sat (by kernel_rfl) rfl fun br w2 hs2 hor er => ?_)
  replace h := h.mono hs2.le
  replace hb1 := hs2.le _ _ hb1
  replace hT := hT.then hs2
  have hz2 := hs2.size
  have hlr := hor.1.lt
  refine Sa rfl rfl ?_
  refine as_nil (κ _ _ ?_)
  refine cw_rs fun _ κ => ?_
  refine Sf 0 rfl (by kernel_rfl) rfl ?_
  refine Sc 1 rfl (by kernel_rfl) rfl (by exact BlkR.cells (hs2.sat _ _ _ hb1) rfl) ?_
  refine as_q rfl rfl (q_iface (by kernel_rfl) rfl) ?_
  refine Sm rfl rfl ?_
  refine as_h rfl (h_invoke (f := 280) (r := .agg #[.pointer q]) (by kernel_rfl) rfl rfl (by kernel_rfl) ?_)
  refine (l_min hs2.sat h).mono ?_
  rintro _ w3 ⟨rfl, hs3⟩
  replace h := h.mono hs3.le
  replace hor := hor.then hs3
  replace hT := hT.then hs3
  have hz3 := hs3.size
  refine Se rfl rfl rfl ?_
  refine Se rfl rfl rfl ?_
  refine as_h0 (h_store hs3.sat hor rfl rfl rfl (by kernel_rfl) rfl rfl rfl fun w4 hs4 hn4 => ?_)
  replace h := h.mono hs4.le
  clear hor; have hor := hn4; clear hn4
  replace hT := hT.own hs4 (by omega)
  have hz4 := hs4.size
  refine Sa rfl rfl ?_
  refine as_nil (κ _ _ ?_)
  refine cw_ret ?_
  exact ⟨_, (res_cell rfl (loadVar_n (n := 2) (by kernel_rfl) (by exact Blk.cells hor.1 rfl)) (res_tmp rfl res_nil)), rfl, hT.forget⟩
theorem wb_insert {w : World} {M : Mem} {x : El} {t : List (RT El)} {q : Option Addr} (hs : Sat M w) (h : FRep 197 220 2 EncE M t q) (hz : RT.sizes t < 1000000000) :
    Does Tryz.prog 155 #[.agg #[.pointer q], .pointer none, .agg (elc x).toArray] w (fun v w' => ∃ q M', v = .iface 76 (.agg #[.pointer q]) ∧ Step Nope M w M' w' ∧ FRep 197 220 2 EncE M' (bput ltE (RT.leaf x) t) q) := by
  have hT := Step.refl Nope hs
  refine fn_enter Tryz.func155 rfl (rs := [.tmp 6]) rfl rfl rfl rfl ?_
  refine cw_rs fun _ κ => ?_
  refine as_h rfl (h_boxM hs rfl rfl fun b1 M1 w1 hs1 hb1 e1 => ?_)
  replace h := h.mono' EncE.mono hs1.le
  replace hT := hT.then hs1
  refine as_h rfl (h_boxM hs1.sat rfl rfl fun b2 M2 w2 hs2 hb2 e2 => ?_)
  replace h := h.mono' EncE.mono hs2.le
  replace hb1 := hs2.le _ _ hb1
  replace hT := hT.then hs2
  refine Sa rfl rfl ?_
  refine as_nil (κ _ _ ?_)
  refine cw_rs fun _ κ => ?_
  refine Sf 0 rfl (by kernel_rfl) rfl ?_
  refine Sc 1 rfl (by kernel_rfl) rfl (by exact BlkR.cells (hs2.sat _ _ _ hb1) rfl) ?_
  refine as_q rfl rfl (q_iface (by kernel_rfl) rfl) ?_
  refine Sm rfl rfl ?_
  refine Sc 2 rfl (by kernel_rfl) rfl (by exact BlkR.cells (hs2.sat _ _ _ hb2) rfl) ?_
  refine as_h rfl (h_invoke (f := 111) (r := .agg #[.pointer q]) (by kernel_rfl) rfl rfl (by kernel_rfl) ?_)
  refine (b_insert (x := x) hs2.sat h hz).mono ?_
  rintro _ w3 ⟨qn, Mn, rfl, hs3, hn⟩
  replace h := h.mono' EncE.mono hs3.le
  replace hT := hT.then hs3
  refine as_q rfl rfl (q_build (zs := [(.pointer none)]) (places := [(0, 1)]) (cs := [_]) (by kernel_rfl) (by kernel_rfl) rfl rfl) ?_
  refine as_q rfl rfl (q_iface (by kernel_rfl) rfl) ?_
  refine Sa rfl rfl ?_
  refine as_nil (κ _ _ ?_)
  refine cw_ret ?_
  exact ⟨_, (res_tmp rfl res_nil), _, _, rfl, hT, hn⟩
theorem wb_size {w : World} {M : Mem} {t : List (RT El)} {q : Option Addr} (hs : Sat M w) (h : FRep 197 220 2 EncE M t q) (hz : RT.sizes t ≤ 1000000000) :
    Does Tryz.prog 160 #[.agg #[.pointer q]] w (fun v w' => v = .int .i64 (RT.sizes t : Nat) ∧ Step Nope M w M w') := by
  have hT := Step.refl Nope hs
  refine fn_enter Tryz.func160 rfl (rs := [.tmp 2]) rfl rfl rfl rfl ?_
  refine cw_rs fun _ κ => ?_
  refine as_h rfl (h_boxM hs rfl rfl fun b1 M1 w1 hs1 hb1 e1 => ?_)
  replace h := h.mono' EncE.mono hs1.le
  replace hT := hT.then hs1
  refine Sa rfl rfl ?_
  refine as_nil (κ _ _ ?_)
  refine cw_rs fun _ κ => ?_
  refine Sf 0 rfl (by kernel_rfl) rfl ?_
  refine Sc 1 rfl (by kernel_rfl) rfl (by exact BlkR.cells (hs1.sat _ _ _ hb1) rfl) ?_
  refine as_q rfl rfl (q_iface (by kernel_rfl) rfl) ?_
  refine as_h rfl (h_invoke (f := 116) (r := .agg #[.pointer q]) (by kernel_rfl) rfl rfl (by kernel_rfl) ?_)
  refine (b_size hs1.sat h hz).mono ?_
  rintro _ w2 ⟨rfl, hs2⟩
  replace h := h.mono' EncE.mono hs2.le
  replace hT := hT.then hs2
  refine Sa rfl rfl ?_
  refine as_nil (κ _ _ ?_)
  refine cw_ret ?_
  exact ⟨_, (res_tmp rfl res_nil), rfl, hT.forget⟩
theorem wb_min {w : World} {M : Mem} {t : List (RT El)} {k : RT El} {q : Option Addr} (hs : Sat M w) (h : FRep 197 220 2 EncE M t q) (ht : t[leastN ltE (t.map RT.root) (t.length - 1)]? = some k) (hz : RT.sizes t ≤ 1000000000) :
    Does Tryz.prog 157 #[.agg #[.pointer q], .pointer none] w (fun v w' => v = .tuple #[.agg (elc k.root).toArray, .bool true] ∧ Step Nope M w M w') := by
  have hT := Step.refl Nope hs
  refine fn_enter Tryz.func157 rfl (rs := [.cell 4 24, .tmp 5]) rfl rfl rfl rfl ?_
  refine cw_rs fun _ κ => ?_
  refine as_h rfl (h_boxM hs rfl rfl fun b1 M1 w1 hs1 hb1 e1 => ?_)
  replace h := h.mono' EncE.mono hs1.le
  replace hT := hT.then hs1
  have hz1 := hs1.size
  have hqar := hT.size
  refine as_h rfl (h_allocO (z := (.agg #[(.int .i64 0), (.int .i64 0)])) hs1.sat (by kernel_rfl) rfl fun br w2 hs2 hor er => ?_)
  replace h := h.mono' EncE.mono hs2.le
  replace hb1 := hs2.le _ _ hb1
  replace hT := hT.then hs2
  have hz2 := hs2.size
  have hlr := hor.1.lt
  refine Sa rfl rfl ?_
  refine as_nil (κ _ _ ?_)
  refine cw_rs fun _ κ => ?_
  refine Sf 0 rfl (by kernel_rfl) rfl ?_
  refine Sc 1 rfl (by kernel_rfl) rfl (by exact BlkR.cells (hs2.sat _ _ _ hb1) rfl) ?_
  refine as_q rfl rfl (q_iface (by kernel_rfl) rfl) ?_
  refine Sm rfl rfl ?_
  refine as_h rfl (h_invoke (f := 113) (r := .agg #[.pointer q]) (by kernel_rfl) rfl rfl (by kernel_rfl) ?_)
  refine (b_min hs2.sat h ht hz).mono ?_
  rintro _ w3 ⟨rfl, hs3⟩
  replace h := h.mono' EncE.mono hs3.le
  replace hor := hor.then hs3
  replace hT := hT.then hs3
  have hz3 := hs3.size
  refine Se rfl rfl rfl ?_
  refine Se rfl rfl rfl ?_
  refine as_h0 (h_store hs3.sat hor rfl rfl rfl (by kernel_rfl) rfl rfl rfl fun w4 hs4 hn4 => ?_)
  replace h := h.mono' EncE.mono hs4.le
  clear hor; have hor := hn4; clear hn4
  replace hT := hT.own hs4 (by omega)
  have hz4 := hs4.size
  refine Sa rfl rfl ?_
  refine as_nil (κ _ _ ?_)
  refine cw_ret ?_
  exact ⟨_, (res_cell rfl (loadVar_n (n := 2) (by kernel_rfl) (by exact Blk.cells hor.1 rfl)) (res_tmp rfl res_nil)), rfl, hT.forget⟩
theorem wc_insert {w : World} {M : Mem} {x : El} {t : Pr} {q : Option Addr} (hs : Sat M w) (h : PRep 251 260 M t q) (hz : t.size < 1000000000) :
    Does Tryz.prog 176 #[.agg #[.pointer q], .pointer none, .agg (elc x).toArray] w (fun v w' => ∃ q M', v = .iface 81 (.agg #[.pointer q]) ∧ Step Nope M w M' w' ∧ PRep 251 260 M' (Pr.insert x t) q) := by
  have hT := Step.refl Nope hs
  refine fn_enter Tryz.func176 rfl (rs := [.tmp 6]) rfl rfl rfl rfl ?_
  refine cw_rs fun _ κ => ?_
  refine as_h rfl (h_boxM hs rfl rfl fun b1 M1 w1 hs1 hb1 e1 => ?_)
  replace h := h.mono hs1.le
  replace hT := hT.then hs1
  refine as_h rfl (h_boxM hs1.sat rfl rfl fun b2 M2 w2 hs2 hb2 e2 => ?_)
  replace h := h.mono hs2.le
  replace hb1 := hs2.le _ _ hb1
  replace hT := hT.then hs2
  refine Sa rfl rfl ?_
  refine as_nil (κ _ _ ?_)
  refine cw_rs fun _ κ => ?_
  refine Sf 0 rfl (by kernel_rfl) rfl ?_
  refine Sc 1 rfl (by kernel_rfl) rfl (by exact BlkR.cells (hs2.sat _ _ _ hb1) rfl) ?_
  refine as_q rfl rfl (q_iface (by kernel_rfl) rfl) ?_
  refine Sm rfl rfl ?_
  refine Sc 2 rfl (by kernel_rfl) rfl (by exact BlkR.cells (hs2.sat _ _ _ hb2) rfl) ?_
  refine as_h rfl (h_invoke (f := 161) (r := .agg #[.pointer q]) (by kernel_rfl) rfl rfl (by kernel_rfl) ?_)
  refine (p_insert (x := x) hs2.sat h hz).mono ?_
  rintro _ w3 ⟨qn, Mn, rfl, hs3, hn⟩
  replace h := h.mono hs3.le
  replace hT := hT.then hs3
  refine as_q rfl rfl (q_build (zs := [(.pointer none)]) (places := [(0, 1)]) (cs := [_]) (by kernel_rfl) (by kernel_rfl) rfl rfl) ?_
  refine as_q rfl rfl (q_iface (by kernel_rfl) rfl) ?_
  refine Sa rfl rfl ?_
  refine as_nil (κ _ _ ?_)
  refine cw_ret ?_
  exact ⟨_, (res_tmp rfl res_nil), _, _, rfl, hT, hn⟩
theorem wc_size {w : World} {M : Mem} {t : Pr} {q : Option Addr} (hs : Sat M w) (h : PRep 251 260 M t q) :
    Does Tryz.prog 181 #[.agg #[.pointer q]] w (fun v w' => v = .int .i64 (t.size : Nat) ∧ Step Nope M w M w') := by
  have hT := Step.refl Nope hs
  refine fn_enter Tryz.func181 rfl (rs := [.tmp 2]) rfl rfl rfl rfl ?_
  refine cw_rs fun _ κ => ?_
  refine as_h rfl (h_boxM hs rfl rfl fun b1 M1 w1 hs1 hb1 e1 => ?_)
  replace h := h.mono hs1.le
  replace hT := hT.then hs1
  refine Sa rfl rfl ?_
  refine as_nil (κ _ _ ?_)
  refine cw_rs fun _ κ => ?_
  refine Sf 0 rfl (by kernel_rfl) rfl ?_
  refine Sc 1 rfl (by kernel_rfl) rfl (by exact BlkR.cells (hs1.sat _ _ _ hb1) rfl) ?_
  refine as_q rfl rfl (q_iface (by kernel_rfl) rfl) ?_
  refine as_h rfl (h_invoke (f := 166) (r := .agg #[.pointer q]) (by kernel_rfl) rfl rfl (by kernel_rfl) ?_)
  refine (p_size hs1.sat h).mono ?_
  rintro _ w2 ⟨rfl, hs2⟩
  replace h := h.mono hs2.le
  replace hT := hT.then hs2
  refine Sa rfl rfl ?_
  refine as_nil (κ _ _ ?_)
  refine cw_ret ?_
  exact ⟨_, (res_tmp rfl res_nil), rfl, hT.forget⟩
theorem wc_min {w : World} {M : Mem} {x : El} {ks : List Pr} {q : Option Addr} (hs : Sat M w) (h : PRep 251 260 M (Pr.node x ks) q) :
    Does Tryz.prog 178 #[.agg #[.pointer q], .pointer none] w (fun v w' => v = .tuple #[.agg (elc x).toArray, .bool true] ∧ Step Nope M w M w') := by
  have hT := Step.refl Nope hs
  refine fn_enter Tryz.func178 rfl (rs := [.cell 4 24, .tmp 5]) rfl rfl rfl rfl ?_
  refine cw_rs fun _ κ => ?_
  refine as_h rfl (h_boxM hs rfl rfl fun b1 M1 w1 hs1 hb1 e1 => ?_)
  replace h := h.mono hs1.le
  replace hT := hT.then hs1
  have hz1 := hs1.size
  have hqar := hT.size
  refine as_h rfl (h_allocO (z := (.agg #[(.int .i64 0), (.int .i64 0)])) hs1.sat (by kernel_rfl) rfl fun br w2 hs2 hor er => ?_)
  replace h := h.mono hs2.le
  replace hb1 := hs2.le _ _ hb1
  replace hT := hT.then hs2
  have hz2 := hs2.size
  have hlr := hor.1.lt
  refine Sa rfl rfl ?_
  refine as_nil (κ _ _ ?_)
  refine cw_rs fun _ κ => ?_
  refine Sf 0 rfl (by kernel_rfl) rfl ?_
  refine Sc 1 rfl (by kernel_rfl) rfl (by exact BlkR.cells (hs2.sat _ _ _ hb1) rfl) ?_
  refine as_q rfl rfl (q_iface (by kernel_rfl) rfl) ?_
  refine Sm rfl rfl ?_
  refine as_h rfl (h_invoke (f := 163) (r := .agg #[.pointer q]) (by kernel_rfl) rfl rfl (by kernel_rfl) ?_)
  refine (p_min hs2.sat h).mono ?_
  rintro _ w3 ⟨rfl, hs3⟩
  replace h := h.mono hs3.le
  replace hor := hor.then hs3
  replace hT := hT.then hs3
  have hz3 := hs3.size
  refine Se rfl rfl rfl ?_
  refine Se rfl rfl rfl ?_
  refine as_h0 (h_store hs3.sat hor rfl rfl rfl (by kernel_rfl) rfl rfl rfl fun w4 hs4 hn4 => ?_)
  replace h := h.mono hs4.le
  clear hor; have hor := hn4; clear hn4
  replace hT := hT.own hs4 (by omega)
  have hz4 := hs4.size
  refine Sa rfl rfl ?_
  refine as_nil (κ _ _ ?_)
  refine cw_ret ?_
  exact ⟨_, (res_cell rfl (loadVar_n (n := 2) (by kernel_rfl) (by exact Blk.cells hor.1 rfl)) (res_tmp rfl res_nil)), rfl, hT.forget⟩
theorem wd_insert {w : World} {M : Mem} {x : El} {t : List (RT El)} {q : Option Addr} (hs : Sat M w) (h : FRep 197 220 2 EncE M t q) (hz : RT.sizes t < 1000000000) :
    Does Tryz.prog 197 #[.agg #[.pointer q], .pointer none, .agg (elc x).toArray] w (fun v w' => ∃ q M', v = .iface 85 (.agg #[.pointer q]) ∧ Step Nope M w M' w' ∧ FRep 197 220 2 EncE M' (sinsert ltE x t) q) := by
  have hT := Step.refl Nope hs
  refine fn_enter Tryz.func197 rfl (rs := [.tmp 6]) rfl rfl rfl rfl ?_
  refine cw_rs fun _ κ => ?_
  refine as_h rfl (h_boxM hs rfl rfl fun b1 M1 w1 hs1 hb1 e1 => ?_)
  replace h := h.mono' EncE.mono hs1.le
  replace hT := hT.then hs1
  refine as_h rfl (h_boxM hs1.sat rfl rfl fun b2 M2 w2 hs2 hb2 e2 => ?_)
  replace h := h.mono' EncE.mono hs2.le
  replace hb1 := hs2.le _ _ hb1
  replace hT := hT.then hs2
  refine Sa rfl rfl ?_
  refine as_nil (κ _ _ ?_)
  refine cw_rs fun _ κ => ?_
  refine Sf 0 rfl (by kernel_rfl) rfl ?_
  refine Sc 1 rfl (by kernel_rfl) rfl (by exact BlkR.cells (hs2.sat _ _ _ hb1) rfl) ?_
  refine as_q rfl rfl (q_iface (by kernel_rfl) rfl) ?_
  refine Sm rfl rfl ?_
  refine Sc 2 rfl (by kernel_rfl) rfl (by exact BlkR.cells (hs2.sat _ _ _ hb2) rfl) ?_
  refine as_h rfl (h_invoke (f := 182) (r := .agg #[.pointer q]) (by kernel_rfl) rfl rfl (by kernel_rfl) ?_)
  refine (se_insert (x := x) hs2.sat h hz).mono ?_
  rintro _ w3 ⟨qn, Mn, rfl, hs3, hn⟩
  replace h := h.mono' EncE.mono hs3.le
  replace hT := hT.then hs3
  refine as_q rfl rfl (q_build (zs := [(.pointer none)]) (places := [(0, 1)]) (cs := [_]) (by kernel_rfl) (by kernel_rfl) rfl rfl) ?_
  refine as_q rfl rfl (q_iface (by kernel_rfl) rfl) ?_
  refine Sa rfl rfl ?_
  refine as_nil (κ _ _ ?_)
  refine cw_ret ?_
  exact ⟨_, (res_tmp rfl res_nil), _, _, rfl, hT, hn⟩
theorem wd_size {w : World} {M : Mem} {t : List (RT El)} {q : Option Addr} (hs : Sat M w) (h : FRep 197 220 2 EncE M t q) (hz : RT.sizes t ≤ 1000000000) :
    Does Tryz.prog 202 #[.agg #[.pointer q]] w (fun v w' => v = .int .i64 (RT.sizes t : Nat) ∧ Step Nope M w M w') := by
  have hT := Step.refl Nope hs
  refine fn_enter Tryz.func202 rfl (rs := [.tmp 2]) rfl rfl rfl rfl ?_
  refine cw_rs fun _ κ => ?_
  refine as_h rfl (h_boxM hs rfl rfl fun b1 M1 w1 hs1 hb1 e1 => ?_)
  replace h := h.mono' EncE.mono hs1.le
  replace hT := hT.then hs1
  refine Sa rfl rfl ?_
  refine as_nil (κ _ _ ?_)
  refine cw_rs fun _ κ => ?_
  refine Sf 0 rfl (by kernel_rfl) rfl ?_
  refine Sc 1 rfl (by kernel_rfl) rfl (by exact BlkR.cells (hs1.sat _ _ _ hb1) rfl) ?_
  refine as_q rfl rfl (q_iface (by kernel_rfl) rfl) ?_
  refine as_h rfl (h_invoke (f := 187) (r := .agg #[.pointer q]) (by kernel_rfl) rfl rfl (by kernel_rfl) ?_)
  refine (se_size hs1.sat h hz).mono ?_
  rintro _ w2 ⟨rfl, hs2⟩
  replace h := h.mono' EncE.mono hs2.le
  replace hT := hT.then hs2
  refine Sa rfl rfl ?_
  refine as_nil (κ _ _ ?_)
  refine cw_ret ?_
  exact ⟨_, (res_tmp rfl res_nil), rfl, hT.forget⟩
theorem wd_min {w : World} {M : Mem} {t : List (RT El)} {k : RT El} {q : Option Addr} (hs : Sat M w) (h : FRep 197 220 2 EncE M t q) (ht : t[leastN ltE (t.map RT.root) (t.length - 1)]? = some k) (hz : RT.sizes t ≤ 1000000000) :
    Does Tryz.prog 199 #[.agg #[.pointer q], .pointer none] w (fun v w' => v = .tuple #[.agg (elc k.root).toArray, .bool true] ∧ Step Nope M w M w') := by
  have hT := Step.refl Nope hs
  refine fn_enter Tryz.func199 rfl (rs := [.cell 4 24, .tmp 5]) rfl rfl rfl rfl ?_
  refine cw_rs fun _ κ => ?_
  refine as_h rfl (h_boxM hs rfl rfl fun b1 M1 w1 hs1 hb1 e1 => ?_)
  replace h := h.mono' EncE.mono hs1.le
  replace hT := hT.then hs1
  have hz1 := hs1.size
  have hqar := hT.size
  refine as_h rfl (h_allocO (z := (.agg #[(.int .i64 0), (.int .i64 0)])) hs1.sat (by kernel_rfl) rfl fun br w2 hs2 hor er => ?_)
  replace h := h.mono' EncE.mono hs2.le
  replace hb1 := hs2.le _ _ hb1
  replace hT := hT.then hs2
  have hz2 := hs2.size
  have hlr := hor.1.lt
  refine Sa rfl rfl ?_
  refine as_nil (κ _ _ ?_)
  refine cw_rs fun _ κ => ?_
  refine Sf 0 rfl (by kernel_rfl) rfl ?_
  refine Sc 1 rfl (by kernel_rfl) rfl (by exact BlkR.cells (hs2.sat _ _ _ hb1) rfl) ?_
  refine as_q rfl rfl (q_iface (by kernel_rfl) rfl) ?_
  refine Sm rfl rfl ?_
  refine as_h rfl (h_invoke (f := 184) (r := .agg #[.pointer q]) (by kernel_rfl) rfl rfl (by kernel_rfl) ?_)
  refine (se_min hs2.sat h ht hz).mono ?_
  rintro _ w3 ⟨rfl, hs3⟩
  replace h := h.mono' EncE.mono hs3.le
  replace hor := hor.then hs3
  replace hT := hT.then hs3
  have hz3 := hs3.size
  refine Se rfl rfl rfl ?_
  refine Se rfl rfl rfl ?_
  refine as_h0 (h_store hs3.sat hor rfl rfl rfl (by kernel_rfl) rfl rfl rfl fun w4 hs4 hn4 => ?_)
  replace h := h.mono' EncE.mono hs4.le
  clear hor; have hor := hn4; clear hn4
  replace hT := hT.own hs4 (by omega)
  have hz4 := hs4.size
  refine Sa rfl rfl ?_
  refine as_nil (κ _ _ ?_)
  refine cw_ret ?_
  exact ⟨_, (res_cell rfl (loadVar_n (n := 2) (by kernel_rfl) (by exact Blk.cells hor.1 rfl)) (res_tmp rfl res_nil)), rfl, hT.forget⟩
theorem we_insert {w : World} {M : Mem} {x : El} {t : Ro} {q : Option Addr} (hs : Sat M w) (h : RoRep 283 197 220 M t q) (hz : t.size < 1000000000) :
    Does Tryz.prog 210 #[.agg #[.pointer q], .pointer none, .agg (elc x).toArray] w (fun v w' => ∃ q M', v = .iface 90 (.agg #[.pointer q]) ∧ Step Nope M w M' w' ∧ RoRep 283 197 220 M' (Ro.insert x t) q) := by
  have hT := Step.refl Nope hs
  refine fn_enter Tryz.func210 rfl (rs := [.tmp 6]) rfl rfl rfl rfl ?_
  refine cw_rs fun _ κ => ?_
  refine as_h rfl (h_boxM hs rfl rfl fun b1 M1 w1 hs1 hb1 e1 => ?_)
  replace h := h.mono hs1.le
  replace hT := hT.then hs1
  refine as_h rfl (h_boxM hs1.sat rfl rfl fun b2 M2 w2 hs2 hb2 e2 => ?_)
  replace h := h.mono hs2.le
  replace hb1 := hs2.le _ _ hb1
  replace hT := hT.then hs2
  refine Sa rfl rfl ?_
  refine as_nil (κ _ _ ?_)
  refine cw_rs fun _ κ => ?_
  refine Sf 0 rfl (by kernel_rfl) rfl ?_
  refine Sc 1 rfl (by kernel_rfl) rfl (by exact BlkR.cells (hs2.sat _ _ _ hb1) rfl) ?_
  refine as_q rfl rfl (q_iface (by kernel_rfl) rfl) ?_
  refine Sm rfl rfl ?_
  refine Sc 2 rfl (by kernel_rfl) rfl (by exact BlkR.cells (hs2.sat _ _ _ hb2) rfl) ?_
  refine as_h rfl (h_invoke (f := 203) (r := .agg #[.pointer q]) (by kernel_rfl) rfl rfl (by kernel_rfl) ?_)
  refine (r_insert (x := x) hs2.sat h hz).mono ?_
  rintro _ w3 ⟨qn, Mn, rfl, hs3, hn⟩
  replace h := h.mono hs3.le
  replace hT := hT.then hs3
  refine as_q rfl rfl (q_build (zs := [(.pointer none)]) (places := [(0, 1)]) (cs := [_]) (by kernel_rfl) (by kernel_rfl) rfl rfl) ?_
  refine as_q rfl rfl (q_iface (by kernel_rfl) rfl) ?_
  refine Sa rfl rfl ?_
  refine as_nil (κ _ _ ?_)
  refine cw_ret ?_
  exact ⟨_, (res_tmp rfl res_nil), _, _, rfl, hT, hn⟩
theorem we_size {w : World} {M : Mem} {t : Ro} {q : Option Addr} (hs : Sat M w) (h : RoRep 283 197 220 M t q) (hz : t.size ≤ 1000000000) :
    Does Tryz.prog 215 #[.agg #[.pointer q]] w (fun v w' => v = .int .i64 (t.size : Nat) ∧ Step Nope M w M w') := by
  have hT := Step.refl Nope hs
  refine fn_enter Tryz.func215 rfl (rs := [.tmp 2]) rfl rfl rfl rfl ?_
  refine cw_rs fun _ κ => ?_
  refine as_h rfl (h_boxM hs rfl rfl fun b1 M1 w1 hs1 hb1 e1 => ?_)
  replace h := h.mono hs1.le
  replace hT := hT.then hs1
  refine Sa rfl rfl ?_
  refine as_nil (κ _ _ ?_)
  refine cw_rs fun _ κ => ?_
  refine Sf 0 rfl (by kernel_rfl) rfl ?_
  refine Sc 1 rfl (by kernel_rfl) rfl (by exact BlkR.cells (hs1.sat _ _ _ hb1) rfl) ?_
  refine as_q rfl rfl (q_iface (by kernel_rfl) rfl) ?_
  refine as_h rfl (h_invoke (f := 208) (r := .agg #[.pointer q]) (by kernel_rfl) rfl rfl (by kernel_rfl) ?_)
  refine (r_size hs1.sat h hz).mono ?_
  rintro _ w2 ⟨rfl, hs2⟩
  replace h := h.mono hs2.le
  replace hT := hT.then hs2
  refine Sa rfl rfl ?_
  refine as_nil (κ _ _ ?_)
  refine cw_ret ?_
  exact ⟨_, (res_tmp rfl res_nil), rfl, hT.forget⟩
theorem we_min {w : World} {M : Mem} {x : El} {ts : List (RT El)} {q : Option Addr} (hs : Sat M w) (h : RoRep 283 197 220 M (Ro.node x ts) q) :
    Does Tryz.prog 212 #[.agg #[.pointer q], .pointer none] w (fun v w' => v = .tuple #[.agg (elc x).toArray, .bool true] ∧ Step Nope M w M w') := by
  have hT := Step.refl Nope hs
  refine fn_enter Tryz.func212 rfl (rs := [.cell 4 24, .tmp 5]) rfl rfl rfl rfl ?_
  refine cw_rs fun _ κ => ?_
  refine as_h rfl (h_boxM hs rfl rfl fun b1 M1 w1 hs1 hb1 e1 => ?_)
  replace h := h.mono hs1.le
  replace hT := hT.then hs1
  have hz1 := hs1.size
  have hqar := hT.size
  refine as_h rfl (h_allocO (z := (.agg #[(.int .i64 0), (.int .i64 0)])) hs1.sat (by kernel_rfl) rfl fun br w2 hs2 hor er => ?_)
  replace h := h.mono hs2.le
  replace hb1 := hs2.le _ _ hb1
  replace hT := hT.then hs2
  have hz2 := hs2.size
  have hlr := hor.1.lt
  refine Sa rfl rfl ?_
  refine as_nil (κ _ _ ?_)
  refine cw_rs fun _ κ => ?_
  refine Sf 0 rfl (by kernel_rfl) rfl ?_
  refine Sc 1 rfl (by kernel_rfl) rfl (by exact BlkR.cells (hs2.sat _ _ _ hb1) rfl) ?_
  refine as_q rfl rfl (q_iface (by kernel_rfl) rfl) ?_
  refine Sm rfl rfl ?_
  refine as_h rfl (h_invoke (f := 205) (r := .agg #[.pointer q]) (by kernel_rfl) rfl rfl (by kernel_rfl) ?_)
  refine (r_min hs2.sat h).mono ?_
  rintro _ w3 ⟨rfl, hs3⟩
  replace h := h.mono hs3.le
  replace hor := hor.then hs3
  replace hT := hT.then hs3
  have hz3 := hs3.size
  refine Se rfl rfl rfl ?_
  refine Se rfl rfl rfl ?_
  refine as_h0 (h_store hs3.sat hor rfl rfl rfl (by kernel_rfl) rfl rfl rfl fun w4 hs4 hn4 => ?_)
  replace h := h.mono hs4.le
  clear hor; have hor := hn4; clear hn4
  replace hT := hT.own hs4 (by omega)
  have hz4 := hs4.size
  refine Sa rfl rfl ?_
  refine as_nil (κ _ _ ?_)
  refine cw_ret ?_
  exact ⟨_, (res_cell rfl (loadVar_n (n := 2) (by kernel_rfl) (by exact Blk.cells hor.1 rfl)) (res_tmp rfl res_nil)), rfl, hT.forget⟩
theorem wf_insert {w : World} {M : Mem} {x : El} {t : Bt} {q : Option Addr} (hs : Sat M w) (h : BRep 296 330 332 M t q) (hz : RT.sizes t.queue < 1000000000) :
    Does Tryz.prog 261 #[.agg #[.pointer q], .pointer none, .agg (elc x).toArray] w (fun v w' => ∃ q M', v = .iface 95 (.agg #[.pointer q]) ∧ Step Nope M w M' w' ∧ BRep 296 330 332 M' (Bt.insert x t) q) := by
  have hT := Step.refl Nope hs
  refine fn_enter Tryz.func261 rfl (rs := [.tmp 6]) rfl rfl rfl rfl ?_
  refine cw_rs fun _ κ => ?_
  refine as_h rfl (h_boxM hs rfl rfl fun b1 M1 w1 hs1 hb1 e1 => ?_)
  replace h := h.mono hs1.le
  replace hT := hT.then hs1
  refine as_h rfl (h_boxM hs1.sat rfl rfl fun b2 M2 w2 hs2 hb2 e2 => ?_)
  replace h := h.mono hs2.le
  replace hb1 := hs2.le _ _ hb1
  replace hT := hT.then hs2
  refine Sa rfl rfl ?_
  refine as_nil (κ _ _ ?_)
  refine cw_rs fun _ κ => ?_
  refine Sf 0 rfl (by kernel_rfl) rfl ?_
  refine Sc 1 rfl (by kernel_rfl) rfl (by exact BlkR.cells (hs2.sat _ _ _ hb1) rfl) ?_
  refine as_q rfl rfl (q_iface (by kernel_rfl) rfl) ?_
  refine Sm rfl rfl ?_
  refine Sc 2 rfl (by kernel_rfl) rfl (by exact BlkR.cells (hs2.sat _ _ _ hb2) rfl) ?_
  refine as_h rfl (h_invoke (f := 216) (r := .agg #[.pointer q]) (by kernel_rfl) rfl rfl (by kernel_rfl) ?_)
  refine (bo_insert (x := x) hs2.sat h hz).mono ?_
  rintro _ w3 ⟨qn, Mn, rfl, hs3, hn⟩
  replace h := h.mono hs3.le
  replace hT := hT.then hs3
  refine as_q rfl rfl (q_build (zs := [(.pointer none)]) (places := [(0, 1)]) (cs := [_]) (by kernel_rfl) (by kernel_rfl) rfl rfl) ?_
  refine as_q rfl rfl (q_iface (by kernel_rfl) rfl) ?_
  refine Sa rfl rfl ?_
  refine as_nil (κ _ _ ?_)
  refine cw_ret ?_
  exact ⟨_, (res_tmp rfl res_nil), _, _, rfl, hT, hn⟩
theorem wf_min {w : World} {M : Mem} {x : El} {ts : List (RT Bt)} {q : Option Addr} (hs : Sat M w) (h : BRep 296 330 332 M (Bt.node x ts) q) :
    Does Tryz.prog 263 #[.agg #[.pointer q], .pointer none] w (fun v w' => v = .tuple #[.agg (elc x).toArray, .bool true] ∧ Step Nope M w M w') := by
  have hT := Step.refl Nope hs
  refine fn_enter Tryz.func263 rfl (rs := [.cell 4 24, .tmp 5]) rfl rfl rfl rfl ?_
  refine cw_rs fun _ κ => ?_
  refine as_h rfl (h_boxM hs rfl rfl fun b1 M1 w1 hs1 hb1 e1 => ?_)
  replace h := h.mono hs1.le
  replace hT := hT.then hs1
  have hz1 := hs1.size
  have hqar := hT.size
  refine as_h rfl (h_allocO (z := (.agg #[(.int .i64 0), (.int .i64 0)])) hs1.sat (by kernel_rfl) rfl fun br w2 hs2 hor er => ?_)
  replace h := h.mono hs2.le
  replace hb1 := hs2.le _ _ hb1
  replace hT := hT.then hs2
  have hz2 := hs2.size
  have hlr := hor.1.lt
  refine Sa rfl rfl ?_
  refine as_nil (κ _ _ ?_)
  refine cw_rs fun _ κ => ?_
  refine Sf 0 rfl (by kernel_rfl) rfl ?_
  refine Sc 1 rfl (by kernel_rfl) rfl (by exact BlkR.cells (hs2.sat _ _ _ hb1) rfl) ?_
  refine as_q rfl rfl (q_iface (by kernel_rfl) rfl) ?_
  refine Sm rfl rfl ?_
  refine as_h rfl (h_invoke (f := 219) (r := .agg #[.pointer q]) (by kernel_rfl) rfl rfl (by kernel_rfl) ?_)
  refine (bo_min hs2.sat h).mono ?_
  rintro _ w3 ⟨rfl, hs3⟩
  replace h := h.mono hs3.le
  replace hor := hor.then hs3
  replace hT := hT.then hs3
  have hz3 := hs3.size
  refine Se rfl rfl rfl ?_
  refine Se rfl rfl rfl ?_
  refine as_h0 (h_store hs3.sat hor rfl rfl rfl (by kernel_rfl) rfl rfl rfl fun w4 hs4 hn4 => ?_)
  replace h := h.mono hs4.le
  clear hor; have hor := hn4; clear hn4
  replace hT := hT.own hs4 (by omega)
  have hz4 := hs4.size
  refine Sa rfl rfl ?_
  refine as_nil (κ _ _ ?_)
  refine cw_ret ?_
  exact ⟨_, (res_cell rfl (loadVar_n (n := 2) (by kernel_rfl) (by exact Blk.cells hor.1 rfl)) (res_tmp rfl res_nil)), rfl, hT.forget⟩
end Go.Proofs.YtgcgjpfjjgalmaaGreat
/- Pairing heaps without their least element, part 1. -/
namespace Go.Proofs.YtgcgjpfjjgalmaaGreat
open Go Go.Eng
theorem pr_meld_ne {a b : Pr} (h : a ≠ .nil) : a.meld b ≠ .nil := by
  unfold Pr.meld
  split
  · exact absurd rfl h
  · simp
  · split <;> simp
theorem preps_snoc {M : Mem} {k : Pr} {q : Option Addr} : ∀ {l : List Pr} {al : List (Option Addr)}, PReps 251 260 M l al → k ≠ .nil → PRep 251 260 M k q → PReps 251 260 M (l ++ [k]) (al ++ [q])
  | [], _, h, hk, hq => by rw [preps_nil.1 h]; exact preps_cons.2 ⟨hk, _, _, rfl, hq, preps_nil.2 rfl⟩
  | _ :: _, _, h, hk, hq => by
    obtain ⟨h1, a, s, rfl, h2, h3⟩ := preps_cons.1 h
    exact preps_cons.2 ⟨h1, _, _, rfl, h2, preps_snoc h3 hk hq⟩
theorem preps_get {M : Mem} : ∀ {l : List Pr} {al : List (Option Addr)} {i : Nat} {k : Pr}, PReps 251 260 M l al → l[i]? = some k → ∃ a, al[i]? = some a ∧ PRep 251 260 M k a
  | _ :: _, _, 0, _, h, hi => by cases hi; obtain ⟨_, a, s, rfl, h2, _⟩ := preps_cons.1 h; exact ⟨a, rfl, h2⟩
  | _ :: _, _, i + 1, _, h, hi => by
    obtain ⟨_, a, s, rfl, _, h3⟩ := preps_cons.1 h
    obtain ⟨c, h4, h5⟩ := preps_get (i := i) h3 (by simpa using hi)
    exact ⟨c, by simpa using h4, h5⟩
theorem pr_sizes_append (l r : List Pr) : Pr.sizes (l ++ r) = Pr.sizes l + Pr.sizes r := by
  induction l with
  | nil => simp [Pr.sizes]
  | cons k l ih => simp only [List.cons_append, Pr.sizes, ih]; omega
theorem cells_one {b o : Nat} {v : Value} {w : World} (h : w.cell? ⟨b, o, none⟩ = some v) : cellsAre b o 1 [v] w := ⟨rfl, fun j u hj => by
  cases j with
  | zero => cases hj; exact h
  | succ j => simp at hj⟩
theorem p_pair {w : World} {M : Mem} {ks : List Pr} {l : List (Option Addr)} {q : Option Addr} (hs : Sat M w) (hcl : CRep 260 M l (.pointer q)) (hk : PReps 251 260 M ks l) (hz : Pr.sizes ks ≤ 1000000000) :
    Does Tryz.prog 168 #[.pointer none, .agg #[.pointer q]] w (fun v w' => ∃ q M', v = .agg #[.pointer q] ∧ Step Nope M w M' w' ∧ PRep 251 260 M' (Pr.pair ks) q) := by
  have hT := Step.refl Nope hs
  refine fn_enter Tryz.func168 rfl (rs := [.cell 4 79]) rfl rfl rfl rfl ?_
  refine cw_rs fun _ κ => ?_
  have hqal := hT.size
  refine as_h rfl (h_boxO hs rfl rfl fun bl w1 hs1 hol el => ?_)
  replace hcl := hcl.mono hs1.le
  replace hk := hk.mono hs1.le
  replace hT := hT.then hs1
  have hz1 := hs1.size
  have hll := hol.1.lt
  have hqar := hT.size
  refine as_h rfl (h_allocO (z := (.agg #[(.pointer none)])) hs1.sat (by kernel_rfl) rfl fun br w2 hs2 hor er => ?_)
  replace hcl := hcl.mono hs2.le
  replace hk := hk.mono hs2.le
  replace hol := hol.then hs2
  replace hT := hT.then hs2
  have hz2 := hs2.size
  have hlr := hor.1.lt
  refine as_nil (κ _ _ ?_)
  refine cw_rs fun _ κ => ?_
  refine Sa rfl rfl ?_
  refine as_nil (κ _ _ ?_)
  refine cw_rs fun _ κ => ?_
  refine Sa rfl rfl ?_
  refine as_nil (κ _ _ ?_)
  refine cw_seq fun _ hK4 => ?_
  refine cw_block ?_
  refine cw_loop (fun mm l1 w1 => ∃ (ms rest : List Pr) (al l : List (Option Addr)) (q sa : Option Addr) (sc n : Nat) (M1 : Mem), mm = rest.length ∧ n = ms.length ∧ Pr.pair ks = ms.foldr Pr.meld (Pr.pair rest) ∧ Pr.sizes ms + Pr.sizes rest ≤ 1000000000 ∧ l1 = [(0, .pointer none), (3, .pointer (some ⟨bl, 0, none⟩)), (4, .pointer (some ⟨br, 0, none⟩)), (5, .func (.func 162) #[] #[]), (6, .slice sa n sc)] ∧ Step Nope M w M1 w1 ∧ w2.heap.size ≤ w1.heap.size ∧ Buf w1 M1 79 1 (.slice sa n sc) n (ptrs al) ∧ PReps 251 260 M1 ms al ∧ CRep 260 M1 l (.pointer q) ∧ PReps 251 260 M1 rest l ∧ Own w1 M1 bl [.pointer q] 249 ∧ Own w1 M1 br [.pointer none] 79 ∧ (∀ g, (Value.slice sa n sc).ownBlock = some g → w2.heap.size ≤ g)) (ks.length) [(0, .pointer none), (3, .pointer (some ⟨bl, 0, none⟩)), (4, .pointer (some ⟨br, 0, none⟩)), (5, .func (.func 162) #[] #[]), (6, .slice none (0 : Nat) 0)] (.cons rfl (.cons rfl (.cons rfl (.cons rfl (.cons rfl (.nil _)))))) ?_ ?_
  · skip
    exact ⟨[], ks, [], l, q, none, 0, 0, M, rfl, rfl, rfl, by simpa [Pr.sizes] using hz, rfl, hT, Nat.le_refl _, Buf.nil _ _ _ _, preps_nil.2 rfl, hcl, hk, hol, hor, fun g hg => by cases hg⟩
  have hblw : w.heap.size ≤ bl ∧ w.heap.size ≤ br ∧ br ≠ bl := by omega
  clear hT hcl hk hol hor
  rintro mm l1 w1 ⟨ms, rest, al, l, q, sa, sc, n, M1, rfl, rfl, hmod, hzz, rfl, hT, hws, hbu, hmk, hcl, hk, hol, hor, hfr⟩
  have hmz := hmk.small
  have hml := hmk.length
  refine cw_seq fun _ hK5 => ?_
  rcases rest with _ | ⟨a, _ | ⟨b, rest⟩⟩
  · skip
    have hl0 := preps_nil.1 hk
    subst hl0
    have hq0 : q = none := by
      have h : Value.pointer q = .pointer none := hcl
      cases h; rfl
    subst hq0
    refine cw_rs fun _ κ => ?_
    refine Sc 1 rfl (by kernel_rfl) rfl (by exact Blk.cells hol.1 rfl) ?_
    refine as_h rfl (h_call (by kernel_rfl) rfl ?_)
    refine (cp_len hT.sat hcl).mono ?_
    rintro _ w3 ⟨rfl, hs3⟩
    replace hbu := hbu.then hs3
    replace hmk := hmk.mono hs3.le
    replace hcl := hcl.mono hs3.le
    replace hk := hk.mono hs3.le
    replace hol := hol.then hs3
    replace hor := hor.then hs3
    replace hT := hT.then hs3
    have hz3 := hs3.size
    refine as_q rfl rfl (q_gt rfl rfl) ?_
    refine as_nil (κ _ _ ?_)
    refine cw_false rfl ?_
    refine cw_exit ?_
    refine hK4 _ _ ?_
    refine cw_rs fun _ κ => ?_
    refine Sc 1 rfl (by kernel_rfl) rfl (by exact Blk.cells hol.1 rfl) ?_
    refine as_h rfl (h_call (by kernel_rfl) rfl ?_)
    refine (cp_first_n hs3.sat).mono ?_
    rintro _ w4 ⟨rfl, hs4⟩
    replace hbu := hbu.then hs4
    replace hmk := hmk.mono hs4.le
    replace hcl := hcl.mono hs4.le
    replace hk := hk.mono hs4.le
    replace hol := hol.then hs4
    replace hor := hor.then hs4
    replace hT := hT.then hs4
    have hz4 := hs4.size
    refine Sm rfl rfl ?_
    refine Se rfl rfl rfl ?_
    refine Se rfl rfl rfl ?_
    have hblt := hbu.lt
    have hqaz := hT.size
    refine as_h rfl (h_allocO (z := (.agg #[(.pointer none)])) hs4.sat (by kernel_rfl) rfl fun bz w5 hs5 hoz ez => ?_)
    replace hbu := hbu.then hs5
    replace hmk := hmk.mono hs5.le
    replace hcl := hcl.mono hs5.le
    replace hk := hk.mono hs5.le
    replace hol := hol.then hs5
    replace hor := hor.then hs5
    replace hT := hT.then hs5
    have hz5 := hs5.size
    have hlz := hoz.1.lt
    refine as_h0 (h_store hs5.sat hoz rfl rfl rfl (by kernel_rfl) rfl rfl rfl fun w6 hs6 hn6 => ?_)
    replace hbu := hbu.step hs6 (fun g hg h => by have h : g = bz := h; have := hblt g hg; omega)
    replace hmk := hmk.mono hs6.le
    replace hcl := hcl.mono hs6.le
    replace hk := hk.mono hs6.le
    replace hol := hol.step hs6 (fun h => by have h : _ = _ := h; omega)
    replace hor := hor.step hs6 (fun h => by have h : _ = _ := h; omega)
    clear hoz; have hoz := hn6; clear hn6
    replace hT := hT.own hs6 (by omega)
    have hz6 := hs6.size
    refine Sa rfl rfl ?_
    refine as_nil (κ _ _ ?_)
    refine cw_seq fun _ hK8 => ?_
    refine cw_rs fun _ κ => ?_
    refine Sm rfl rfl ?_
    refine as_q rfl rfl (q_len (by kernel_rfl) rfl _) ?_
    refine as_q rfl rfl (q_subx rfl rfl (by omega) (by omega)) ?_
    refine Sa rfl rfl ?_
    refine as_nil (κ _ _ ?_)
    refine cw_block ?_
    refine cw_loop (fun mm l1 w1 => ∃ (z : Int) (out : Pr) (oq : Option Addr) (M2 : Mem), mm = (z + 1).toNat ∧ -1 ≤ z ∧ z < ms.length ∧ Pr.pair ks = (ms.take (z + 1).toNat).foldr Pr.meld out ∧ Pr.sizes (ms.take (z + 1).toNat) + out.size ≤ 1000000000 ∧ l1 = [(0, .pointer none), (4, .pointer (some ⟨br, 0, none⟩)), (5, .func (.func 162) #[] #[]), (6, .slice sa ms.length sc), (11, .pointer (some ⟨bz, 0, none⟩)), (13, .int .i64 z)] ∧ Step Nope M w M2 w1 ∧ PRep 251 260 M2 out oq ∧ Own w1 M2 bz [.pointer oq] 79 ∧ Own w1 M2 br [.pointer none] 79 ∧ Buf w1 M2 79 1 (.slice sa ms.length sc) ms.length (ptrs al) ∧ PReps 251 260 M2 ms al) (ms.length) [(0, .pointer none), (4, .pointer (some ⟨br, 0, none⟩)), (5, .func (.func 162) #[] #[]), (6, .slice sa ms.length sc), (11, .pointer (some ⟨bz, 0, none⟩)), (13, .int .i64 ((ms.length : Int) - 1))] (.cons rfl (.cons rfl (.cons rfl (.cons rfl (.cons rfl (.cons rfl (.nil _))))))) ?_ ?_
    · skip
      refine ⟨(ms.length : Int) - 1, Pr.nil, none, _, by omega, by omega, by omega, ?_, ?_, rfl, hT, prep_nil.2 rfl, hoz, hor, hbu, hmk⟩
      · rw [List.take_of_length_le (by omega), hmod]; rfl
      · rw [List.take_of_length_le (by omega)]; simp only [Pr.sizes, Pr.size] at hzz ⊢; omega
    have hbzw : w.heap.size ≤ bz ∧ bz ≠ br := by omega
    have hwz : bz < w6.heap.size ∧ br < w6.heap.size := ⟨hoz.1.lt, hor.1.lt⟩
    have hbz2 : ∀ g, (Value.slice sa ms.length sc).ownBlock = some g → g ≠ bz ∧ g ≠ br := fun g hg => ⟨fun h => by have := hbu.lt g hg; have := hblt g hg; omega, fun h => by have := hfr g hg; omega⟩
    clear hT hoz hor hbu hmk
    rintro mm l1 w2 ⟨z, out, oq, M2, rfl, hz1, hz2, hmod2, hzz2, rfl, hT, hou, hoz, hor, hbu, hmk⟩
    refine cw_seq fun _ hK10 => ?_
    refine cw_rs fun _ κ => ?_
    refine Sm rfl rfl ?_
    refine as_q rfl rfl (q_ge rfl rfl) ?_
    refine as_nil (κ _ _ ?_)
    refine cw_cond rfl (fun hc1 => ?_) (fun hc1 => ?_)
    · skip
      replace hc1 := of_decide_eq_true hc1
      obtain ⟨m, hm⟩ : ∃ m, ms[z.toNat]? = some m := ⟨ms[z.toNat]'(by omega), by simp⟩
      have htk : ms.take (z + 1).toNat = ms.take z.toNat ++ [m] := by rw [show (z + 1).toNat = z.toNat + 1 by omega, List.take_add_one, hm]; rfl
      have hsz := pr_sizes_append (ms.take z.toNat) [m]
      rw [← htk] at hsz
      have hsz1 : Pr.sizes [m] = m.size + 0 := rfl
      obtain ⟨mq, hmq, hmr⟩ := preps_get hmk hm
      obtain ⟨g, o, rfl⟩ := hbu.rd.there (by omega)
      refine cw_skip ?_
      refine hK10 _ _ ?_
      refine cw_seq fun _ hK12 => ?_
      refine cw_block ?_
      refine cw_drawn (by kernel_rfl) (by kernel_rfl) (by kernel_rfl) rfl rfl fun K13 hK13 => ?_
      have hs7 := Step.drew hT.sat
      have hz7 := hs7.size
      replace hoz := hoz.then hs7
      replace hor := hor.then hs7
      replace hbu := hbu.then hs7
      replace hmk := hmk.mono hs7.le
      replace hou := hou.mono hs7.le
      replace hT := hT.then hs7
      refine Dm 0 1 rfl (by kernel_rfl) rfl ?_
      refine Dm 1 3 rfl (by kernel_rfl) rfl ?_
      refine Dm 2 7 rfl (by kernel_rfl) rfl ?_
      refine Dq 3 15 rfl (by kernel_rfl) (fun _ => (q_indexAddr (e := 79) (size := 1) (by kernel_rfl) (by kernel_rfl) rfl rfl (by omega) (by omega))) ?_
      refine Dlc 4 31 1 rfl (by kernel_rfl) (by kernel_rfl) rfl (cells_one (Buf.cell hbu (u := .pointer mq) (j := z.toNat * 1) (by simp [ptrs, hmq]))) ?_
      refine Dm 5 63 rfl (by kernel_rfl) rfl ?_
      refine Dlc 6 127 1 rfl (by kernel_rfl) (by kernel_rfl) rfl (by exact Blk.cells hoz.1 rfl) ?_
      refine Dh 7 255 rfl (by kernel_rfl) (keep_sift (bs := [T,T]) (by kernel_rfl)) (h_callv (f := 162) (first := []) (cap := []) (by kernel_rfl) rfl rfl rfl ?_)
      refine (p_meld (t := m) (o := out) hs7.sat hmr hou (by omega)).mono ?_
      rintro _ w8 ⟨nq, nM, rfl, hs8, hn⟩
      replace hoz := hoz.then hs8
      replace hor := hor.then hs8
      replace hbu := hbu.then hs8
      replace hmk := hmk.mono hs8.le
      replace hou := hou.mono hs8.le
      replace hT := hT.then hs8
      have hz8 := hs8.size
      refine ⟨trivial, ?_⟩
      refine Dh0 8 511 rfl (by kernel_rfl) rfl (h_store hs8.sat hoz rfl rfl rfl (by kernel_rfl) rfl rfl rfl fun w9 hs9 hn9 => ?_)
      replace hor := hor.step hs9 (fun h => by have h : _ = _ := h; omega)
      replace hbu := hbu.step hs9 (fun g hg h => (hbz2 g hg).1 h)
      replace hmk := hmk.mono hs9.le
      replace hou := hou.mono hs9.le
      replace hn := hn.mono hs9.le
      clear hoz; have hoz := hn9; clear hn9
      replace hT := hT.own hs9 (by omega)
      have hz9 := hs9.size
      refine ⟨trivial, ?_⟩
      refine Dd (by kernel_rfl) (hK13 _ _ ?_)
      refine hK12 _ _ ?_
      refine cw_region fun _ κ => ?_
      refine Sm rfl rfl ?_
      refine as_q rfl rfl (q_subx rfl rfl (by omega) (by omega)) ?_
      refine Sa rfl rfl ?_
      refine as_nil (κ _ _ ?_)
      refine ⟨_, _, ?_, (.cons rfl (.cons rfl (.cons rfl (.cons rfl (.cons rfl (.cons rfl (.nil _))))))), _, m.meld out, _, _, rfl, ?_, ?_, ?_, ?_, rfl, hT, hn, hoz, hor, hbu, hmk⟩
      · omega
      · omega
      · omega
      · rw [hmod2, htk, show (z - 1 + 1).toNat = z.toNat by omega, List.foldr_append]; rfl
      · rw [show (z - 1 + 1).toNat = z.toNat by omega, Pr.meld_size]; omega
    · skip
      replace hc1 := of_decide_eq_false hc1
      refine cw_exit ?_
      refine hK8 _ _ ?_
      refine cw_rs fun _ κ => ?_
      refine Sc 1 rfl (by kernel_rfl) rfl (by exact Blk.cells hoz.1 rfl) ?_
      refine as_h0 (h_store hT.sat hor rfl rfl rfl (by kernel_rfl) rfl rfl rfl fun w10 hs10 hn10 => ?_)
      replace hoz := hoz.step hs10 (fun h => by have h : _ = _ := h; omega)
      replace hbu := hbu.step hs10 (fun g hg h => (hbz2 g hg).2 h)
      replace hmk := hmk.mono hs10.le
      replace hou := hou.mono hs10.le
      clear hor; have hor := hn10; clear hn10
      replace hT := hT.own hs10 (by omega)
      have hz10 := hs10.size
      refine as_nil (κ _ _ ?_)
      refine cw_ret ?_
      rw [hmod2, show (z + 1).toNat = 0 by omega, List.take_zero]
      exact ⟨_, (res_cell rfl (loadVar_n (n := 1) (by kernel_rfl) (by exact Blk.cells hor.1 rfl)) res_nil), _, _, rfl, hT, hou⟩
  · skip
    have hsz1 : Pr.sizes [a] = a.size + 0 := rfl
    obtain ⟨hna, qa, l2, rfl, hka, hk2⟩ := preps_cons.1 hk
    have hl0 := preps_nil.1 hk2
    subst hl0
    clear hk2
    refine cw_rs fun _ κ => ?_
    refine Sc 1 rfl (by kernel_rfl) rfl (by exact Blk.cells hol.1 rfl) ?_
    refine as_h rfl (h_call (by kernel_rfl) rfl ?_)
    refine (cp_len hT.sat hcl).mono ?_
    rintro _ w11 ⟨rfl, hs11⟩
    replace hbu := hbu.then hs11
    replace hmk := hmk.mono hs11.le
    replace hcl := hcl.mono hs11.le
    replace hk := hk.mono hs11.le
    replace hol := hol.then hs11
    replace hor := hor.then hs11
    replace hka := hka.mono hs11.le
    replace hT := hT.then hs11
    have hz11 := hs11.size
    refine as_q rfl rfl (q_gt rfl rfl) ?_
    refine as_nil (κ _ _ ?_)
    refine cw_false rfl ?_
    refine cw_exit ?_
    refine hK4 _ _ ?_
    refine cw_rs fun _ κ => ?_
    refine Sc 1 rfl (by kernel_rfl) rfl (by exact Blk.cells hol.1 rfl) ?_
    refine as_h rfl (h_call (by kernel_rfl) rfl ?_)
    refine (cp_first hs11.sat hcl).mono ?_
    rintro _ w12 ⟨rfl, hs12⟩
    replace hbu := hbu.then hs12
    replace hmk := hmk.mono hs12.le
    replace hcl := hcl.mono hs12.le
    replace hk := hk.mono hs12.le
    replace hol := hol.then hs12
    replace hor := hor.then hs12
    replace hka := hka.mono hs12.le
    replace hT := hT.then hs12
    have hz12 := hs12.size
    refine Sm rfl rfl ?_
    refine Se rfl rfl rfl ?_
    refine Se rfl rfl rfl ?_
    have hblt := hbu.lt
    have hqaz := hT.size
    refine as_h rfl (h_allocO (z := (.agg #[(.pointer none)])) hs12.sat (by kernel_rfl) rfl fun bz w13 hs13 hoz ez => ?_)
    replace hbu := hbu.then hs13
    replace hmk := hmk.mono hs13.le
    replace hcl := hcl.mono hs13.le
    replace hk := hk.mono hs13.le
    replace hol := hol.then hs13
    replace hor := hor.then hs13
    replace hka := hka.mono hs13.le
    replace hT := hT.then hs13
    have hz13 := hs13.size
    have hlz := hoz.1.lt
    refine as_h0 (h_store hs13.sat hoz rfl rfl rfl (by kernel_rfl) rfl rfl rfl fun w14 hs14 hn14 => ?_)
    replace hbu := hbu.step hs14 (fun g hg h => by have h : g = bz := h; have := hblt g hg; omega)
    replace hmk := hmk.mono hs14.le
    replace hcl := hcl.mono hs14.le
    replace hk := hk.mono hs14.le
    replace hol := hol.step hs14 (fun h => by have h : _ = _ := h; omega)
    replace hor := hor.step hs14 (fun h => by have h : _ = _ := h; omega)
    replace hka := hka.mono hs14.le
    clear hoz; have hoz := hn14; clear hn14
    replace hT := hT.own hs14 (by omega)
    have hz14 := hs14.size
    refine Sa rfl rfl ?_
    refine as_nil (κ _ _ ?_)
    refine cw_seq fun _ hK18 => ?_
    refine cw_rs fun _ κ => ?_
    refine Sm rfl rfl ?_
    refine as_q rfl rfl (q_len (by kernel_rfl) rfl _) ?_
    refine as_q rfl rfl (q_subx rfl rfl (by omega) (by omega)) ?_
    refine Sa rfl rfl ?_
    refine as_nil (κ _ _ ?_)
    refine cw_block ?_
    refine cw_loop (fun mm l1 w1 => ∃ (z : Int) (out : Pr) (oq : Option Addr) (M2 : Mem), mm = (z + 1).toNat ∧ -1 ≤ z ∧ z < ms.length ∧ Pr.pair ks = (ms.take (z + 1).toNat).foldr Pr.meld out ∧ Pr.sizes (ms.take (z + 1).toNat) + out.size ≤ 1000000000 ∧ l1 = [(0, .pointer none), (4, .pointer (some ⟨br, 0, none⟩)), (5, .func (.func 162) #[] #[]), (6, .slice sa ms.length sc), (11, .pointer (some ⟨bz, 0, none⟩)), (13, .int .i64 z)] ∧ Step Nope M w M2 w1 ∧ PRep 251 260 M2 out oq ∧ Own w1 M2 bz [.pointer oq] 79 ∧ Own w1 M2 br [.pointer none] 79 ∧ Buf w1 M2 79 1 (.slice sa ms.length sc) ms.length (ptrs al) ∧ PReps 251 260 M2 ms al) (ms.length) [(0, .pointer none), (4, .pointer (some ⟨br, 0, none⟩)), (5, .func (.func 162) #[] #[]), (6, .slice sa ms.length sc), (11, .pointer (some ⟨bz, 0, none⟩)), (13, .int .i64 ((ms.length : Int) - 1))] (.cons rfl (.cons rfl (.cons rfl (.cons rfl (.cons rfl (.cons rfl (.nil _))))))) ?_ ?_
    · skip
      refine ⟨(ms.length : Int) - 1, a, qa, _, by omega, by omega, by omega, ?_, ?_, rfl, hT, hka, hoz, hor, hbu, hmk⟩
      · rw [List.take_of_length_le (by omega), hmod]; rfl
      · rw [List.take_of_length_le (by omega)]; simp only [Pr.sizes, Pr.size] at hzz ⊢; omega
    have hbzw : w.heap.size ≤ bz ∧ bz ≠ br := by omega
    have hwz : bz < w14.heap.size ∧ br < w14.heap.size := ⟨hoz.1.lt, hor.1.lt⟩
    have hbz2 : ∀ g, (Value.slice sa ms.length sc).ownBlock = some g → g ≠ bz ∧ g ≠ br := fun g hg => ⟨fun h => by have := hbu.lt g hg; have := hblt g hg; omega, fun h => by have := hfr g hg; omega⟩
    clear hT hoz hor hbu hmk
    rintro mm l1 w2 ⟨z, out, oq, M2, rfl, hz1, hz2, hmod2, hzz2, rfl, hT, hou, hoz, hor, hbu, hmk⟩
    refine cw_seq fun _ hK20 => ?_
    refine cw_rs fun _ κ => ?_
    refine Sm rfl rfl ?_
    refine as_q rfl rfl (q_ge rfl rfl) ?_
    refine as_nil (κ _ _ ?_)
    refine cw_cond rfl (fun hc1 => ?_) (fun hc1 => ?_)
    · skip
      replace hc1 := of_decide_eq_true hc1
      obtain ⟨m, hm⟩ : ∃ m, ms[z.toNat]? = some m := ⟨ms[z.toNat]'(by omega), by simp⟩
      have htk : ms.take (z + 1).toNat = ms.take z.toNat ++ [m] := by rw [show (z + 1).toNat = z.toNat + 1 by omega, List.take_add_one, hm]; rfl
      have hsz := pr_sizes_append (ms.take z.toNat) [m]
      rw [← htk] at hsz
      have hsz1 : Pr.sizes [m] = m.size + 0 := rfl
      obtain ⟨mq, hmq, hmr⟩ := preps_get hmk hm
      obtain ⟨g, o, rfl⟩ := hbu.rd.there (by omega)
      refine cw_skip ?_
      refine hK20 _ _ ?_
      refine cw_seq fun _ hK22 => ?_
      refine cw_block ?_
      refine cw_drawn (by kernel_rfl) (by kernel_rfl) (by kernel_rfl) rfl rfl fun K23 hK23 => ?_
      have hs15 := Step.drew hT.sat
      have hz15 := hs15.size
      replace hoz := hoz.then hs15
      replace hor := hor.then hs15
      replace hbu := hbu.then hs15
      replace hmk := hmk.mono hs15.le
      replace hou := hou.mono hs15.le
      replace hT := hT.then hs15
      refine Dm 0 1 rfl (by kernel_rfl) rfl ?_
      refine Dm 1 3 rfl (by kernel_rfl) rfl ?_
      refine Dm 2 7 rfl (by kernel_rfl) rfl ?_
      refine Dq 3 15 rfl (by kernel_rfl) (fun _ => (q_indexAddr (e := 79) (size := 1) (by kernel_rfl) (by kernel_rfl) rfl rfl (by omega) (by omega))) ?_
      refine Dlc 4 31 1 rfl (by kernel_rfl) (by kernel_rfl) rfl (cells_one (Buf.cell hbu (u := .pointer mq) (j := z.toNat * 1) (by simp [ptrs, hmq]))) ?_
      refine Dm 5 63 rfl (by kernel_rfl) rfl ?_
      refine Dlc 6 127 1 rfl (by kernel_rfl) (by kernel_rfl) rfl (by exact Blk.cells hoz.1 rfl) ?_
      refine Dh 7 255 rfl (by kernel_rfl) (keep_sift (bs := [T,T]) (by kernel_rfl)) (h_callv (f := 162) (first := []) (cap := []) (by kernel_rfl) rfl rfl rfl ?_)
      refine (p_meld (t := m) (o := out) hs15.sat hmr hou (by omega)).mono ?_
      rintro _ w16 ⟨nq, nM, rfl, hs16, hn⟩
      replace hoz := hoz.then hs16
      replace hor := hor.then hs16
      replace hbu := hbu.then hs16
      replace hmk := hmk.mono hs16.le
      replace hou := hou.mono hs16.le
      replace hT := hT.then hs16
      have hz16 := hs16.size
      refine ⟨trivial, ?_⟩
      refine Dh0 8 511 rfl (by kernel_rfl) rfl (h_store hs16.sat hoz rfl rfl rfl (by kernel_rfl) rfl rfl rfl fun w17 hs17 hn17 => ?_)
      replace hor := hor.step hs17 (fun h => by have h : _ = _ := h; omega)
      replace hbu := hbu.step hs17 (fun g hg h => (hbz2 g hg).1 h)
      replace hmk := hmk.mono hs17.le
      replace hou := hou.mono hs17.le
      replace hn := hn.mono hs17.le
      clear hoz; have hoz := hn17; clear hn17
      replace hT := hT.own hs17 (by omega)
      have hz17 := hs17.size
      refine ⟨trivial, ?_⟩
      refine Dd (by kernel_rfl) (hK23 _ _ ?_)
      refine hK22 _ _ ?_
      refine cw_region fun _ κ => ?_
      refine Sm rfl rfl ?_
      refine as_q rfl rfl (q_subx rfl rfl (by omega) (by omega)) ?_
      refine Sa rfl rfl ?_
      refine as_nil (κ _ _ ?_)
      refine ⟨_, _, ?_, (.cons rfl (.cons rfl (.cons rfl (.cons rfl (.cons rfl (.cons rfl (.nil _))))))), _, m.meld out, _, _, rfl, ?_, ?_, ?_, ?_, rfl, hT, hn, hoz, hor, hbu, hmk⟩
      · omega
      · omega
      · omega
      · rw [hmod2, htk, show (z - 1 + 1).toNat = z.toNat by omega, List.foldr_append]; rfl
      · rw [show (z - 1 + 1).toNat = z.toNat by omega, Pr.meld_size]; omega
    · skip
      replace hc1 := of_decide_eq_false hc1
      refine cw_exit ?_
      refine hK18 _ _ ?_
      refine cw_rs fun _ κ => ?_
      refine Sc 1 rfl (by kernel_rfl) rfl (by exact Blk.cells hoz.1 rfl) ?_
      refine as_h0 (h_store hT.sat hor rfl rfl rfl (by kernel_rfl) rfl rfl rfl fun w18 hs18 hn18 => ?_)
      replace hbu := hbu.step hs18 (fun g hg h => (hbz2 g hg).2 h)
      replace hmk := hmk.mono hs18.le
      replace hou := hou.mono hs18.le
      clear hor; have hor := hn18; clear hn18
      replace hT := hT.own hs18 (by omega)
      have hz18 := hs18.size
      refine as_nil (κ _ _ ?_)
      refine cw_ret ?_
      rw [hmod2, show (z + 1).toNat = 0 by omega, List.take_zero]
      exact ⟨_, (res_cell rfl (loadVar_n (n := 1) (by kernel_rfl) (by exact Blk.cells hor.1 rfl)) res_nil), _, _, rfl, hT, hou⟩
  · skip
    have hsz1 : Pr.sizes (a :: b :: rest) = a.size + (b.size + Pr.sizes rest) := rfl
    obtain ⟨hna, qa, l2, rfl, hka, hk1⟩ := preps_cons.1 hk
    obtain ⟨hnb, qb, l3, rfl, hkb, hk2⟩ := preps_cons.1 hk1
    clear hk1
    have hlc : (qa :: qb :: l3).length = l3.length + 2 := rfl
    refine cw_rs fun _ κ => ?_
    refine Sc 1 rfl (by kernel_rfl) rfl (by exact Blk.cells hol.1 rfl) ?_
    refine as_h rfl (h_call (by kernel_rfl) rfl ?_)
    refine (cp_len hT.sat hcl).mono ?_
    rintro _ w19 ⟨rfl, hs19⟩
    replace hbu := hbu.then hs19
    replace hmk := hmk.mono hs19.le
    replace hcl := hcl.mono hs19.le
    replace hk := hk.mono hs19.le
    replace hol := hol.then hs19
    replace hor := hor.then hs19
    replace hka := hka.mono hs19.le
    replace hkb := hkb.mono hs19.le
    replace hk2 := hk2.mono hs19.le
    replace hT := hT.then hs19
    have hz19 := hs19.size
    refine as_q rfl rfl (q_gtT rfl rfl (by omega)) ?_
    refine as_nil (κ _ _ ?_)
    refine cw_true rfl ?_
    refine cw_skip ?_
    refine hK5 _ _ ?_
    refine cw_block ?_
    refine cw_rs fun _ κ => ?_
    refine Sc 1 rfl (by kernel_rfl) rfl (by exact Blk.cells hol.1 rfl) ?_
    refine as_h rfl (h_call (by kernel_rfl) rfl ?_)
    refine (cp_first hs19.sat hcl).mono ?_
    rintro _ w20 ⟨rfl, hs20⟩
    replace hbu := hbu.then hs20
    replace hmk := hmk.mono hs20.le
    replace hcl := hcl.mono hs20.le
    replace hk := hk.mono hs20.le
    replace hol := hol.then hs20
    replace hor := hor.then hs20
    replace hka := hka.mono hs20.le
    replace hkb := hkb.mono hs20.le
    replace hk2 := hk2.mono hs20.le
    replace hT := hT.then hs20
    have hz20 := hs20.size
    refine Sm rfl rfl ?_
    refine Se rfl rfl rfl ?_
    refine Se rfl rfl rfl ?_
    have hblt := hbu.lt
    have hqax := hT.size
    refine as_h rfl (h_allocO (z := (.agg #[(.pointer none)])) hs20.sat (by kernel_rfl) rfl fun bx w21 hs21 hox ex => ?_)
    replace hbu := hbu.then hs21
    replace hmk := hmk.mono hs21.le
    replace hcl := hcl.mono hs21.le
    replace hk := hk.mono hs21.le
    replace hol := hol.then hs21
    replace hor := hor.then hs21
    replace hka := hka.mono hs21.le
    replace hkb := hkb.mono hs21.le
    replace hk2 := hk2.mono hs21.le
    replace hT := hT.then hs21
    have hz21 := hs21.size
    have hlx := hox.1.lt
    refine as_h0 (h_store hs21.sat hox rfl rfl rfl (by kernel_rfl) rfl rfl rfl fun w22 hs22 hn22 => ?_)
    replace hbu := hbu.step hs22 (fun g hg h => by have h : g = bx := h; have := hblt g hg; omega)
    replace hmk := hmk.mono hs22.le
    replace hcl := hcl.mono hs22.le
    replace hk := hk.mono hs22.le
    replace hol := hol.step hs22 (fun h => by have h : _ = _ := h; omega)
    replace hor := hor.step hs22 (fun h => by have h : _ = _ := h; omega)
    replace hka := hka.mono hs22.le
    replace hkb := hkb.mono hs22.le
    replace hk2 := hk2.mono hs22.le
    clear hox; have hox := hn22; clear hn22
    replace hT := hT.own hs22 (by omega)
    have hz22 := hs22.size
    refine Sa rfl rfl ?_
    refine as_nil (κ _ _ ?_)
    refine cw_rs fun _ κ => ?_
    refine Sc 1 rfl (by kernel_rfl) rfl (by exact Blk.cells hol.1 rfl) ?_
    refine as_h rfl (h_call (by kernel_rfl) rfl ?_)
    refine (cp_rest hs22.sat hcl).mono ?_
    rintro _ w23 ⟨qr, rfl, hs23, hcr⟩
    replace hbu := hbu.then hs23
    replace hmk := hmk.mono hs23.le
    replace hcl := hcl.mono hs23.le
    replace hk := hk.mono hs23.le
    replace hol := hol.then hs23
    replace hor := hor.then hs23
    replace hka := hka.mono hs23.le
    replace hkb := hkb.mono hs23.le
    replace hk2 := hk2.mono hs23.le
    replace hox := hox.then hs23
    replace hT := hT.then hs23
    have hz23 := hs23.size
    refine as_h rfl (h_call (by kernel_rfl) rfl ?_)
    refine (cp_first hs23.sat hcr).mono ?_
    rintro _ w24 ⟨rfl, hs24⟩
    replace hbu := hbu.then hs24
    replace hmk := hmk.mono hs24.le
    replace hcl := hcl.mono hs24.le
    replace hk := hk.mono hs24.le
    replace hol := hol.then hs24
    replace hor := hor.then hs24
    replace hka := hka.mono hs24.le
    replace hkb := hkb.mono hs24.le
    replace hk2 := hk2.mono hs24.le
    replace hox := hox.then hs24
    replace hT := hT.then hs24
    have hz24 := hs24.size
    refine Sm rfl rfl ?_
    refine Se rfl rfl rfl ?_
    refine Se rfl rfl rfl ?_
    have hblt := hbu.lt
    have hqav := hT.size
    refine as_h rfl (h_allocO (z := (.agg #[(.pointer none)])) hs24.sat (by kernel_rfl) rfl fun bv w25 hs25 hov ev => ?_)
    replace hbu := hbu.then hs25
    replace hmk := hmk.mono hs25.le
    replace hcl := hcl.mono hs25.le
    replace hk := hk.mono hs25.le
    replace hol := hol.then hs25
    replace hor := hor.then hs25
    replace hka := hka.mono hs25.le
    replace hkb := hkb.mono hs25.le
    replace hk2 := hk2.mono hs25.le
    replace hox := hox.then hs25
    replace hT := hT.then hs25
    have hz25 := hs25.size
    have hlv := hov.1.lt
    refine as_h0 (h_store hs25.sat hov rfl rfl rfl (by kernel_rfl) rfl rfl rfl fun w26 hs26 hn26 => ?_)
    replace hbu := hbu.step hs26 (fun g hg h => by have h : g = bv := h; have := hblt g hg; omega)
    replace hmk := hmk.mono hs26.le
    replace hcl := hcl.mono hs26.le
    replace hk := hk.mono hs26.le
    replace hol := hol.step hs26 (fun h => by have h : _ = _ := h; omega)
    replace hor := hor.step hs26 (fun h => by have h : _ = _ := h; omega)
    replace hka := hka.mono hs26.le
    replace hkb := hkb.mono hs26.le
    replace hk2 := hk2.mono hs26.le
    replace hox := hox.step hs26 (fun h => by have h : _ = _ := h; omega)
    clear hov; have hov := hn26; clear hn26
    replace hT := hT.own hs26 (by omega)
    have hz26 := hs26.size
    refine Sa rfl rfl ?_
    refine as_nil (κ _ _ ?_)
    refine cw_rs fun _ κ => ?_
    refine Sm rfl rfl ?_
    refine Sm rfl rfl ?_
    refine Sc 1 rfl (by kernel_rfl) rfl (by exact Blk.cells hox.1 rfl) ?_
    refine Sm rfl rfl ?_
    refine Sc 1 rfl (by kernel_rfl) rfl (by exact Blk.cells hov.1 rfl) ?_
    refine as_h rfl (h_callv (f := 162) (first := []) (cap := []) (by kernel_rfl) rfl rfl rfl ?_)
    refine (p_meld (t := a) (o := b) hs26.sat hka hkb (by omega)).mono ?_
    rintro _ w27 ⟨nq, nM, rfl, hs27, hn⟩
    replace hbu := hbu.then hs27
    replace hmk := hmk.mono hs27.le
    replace hcl := hcl.mono hs27.le
    replace hk := hk.mono hs27.le
    replace hol := hol.then hs27
    replace hor := hor.then hs27
    replace hk2 := hk2.mono hs27.le
    replace hox := hox.then hs27
    replace hov := hov.then hs27
    replace hT := hT.then hs27
    have hz27 := hs27.size
    refine as_h rfl (h_buildO (e := 79) (size := 1) (zs := [.pointer none]) (cs := [_]) (by kernel_rfl) (by kernel_rfl) (by kernel_rfl) rfl hs27.sat rfl rfl fun bB w28 hs28 hoB eB => ?_)
    replace hbu := hbu.then hs28
    replace hmk := hmk.mono hs28.le
    replace hcl := hcl.mono hs28.le
    replace hk := hk.mono hs28.le
    replace hol := hol.then hs28
    replace hor := hor.then hs28
    replace hk2 := hk2.mono hs28.le
    replace hox := hox.then hs28
    replace hov := hov.then hs28
    replace hn := hn.mono hs28.le
    replace hT := hT.then hs28
    have hz28 := hs28.size
    have hrx := Buf.rd (Own.buf hoB (n := 1) (size := 1) rfl (by decide))
    have hTq := hT.size
    refine as_h rfl (h_append (e := 79) (size := 1) (bytes := 8) (by kernel_rfl) hs28.sat hbu hrx rfl rfl (fun y hy => by obtain rfl := List.mem_singleton.1 hy; rfl) (by omega) rfl fun sv w29 hs29 hbu2 hor2 => ?_)
    replace hmk := hmk.mono hs29.le
    replace hcl := hcl.mono hs29.le
    replace hk := hk.mono hs29.le
    replace hol := hol.step hs29 (fun h => by have := hfr _ h; omega)
    replace hor := hor.step hs29 (fun h => by have := hfr _ h; omega)
    replace hk2 := hk2.mono hs29.le
    clear hox
    clear hov
    replace hn := hn.mono hs29.le
    replace hT := hT.trans hs29 (fun k hk h => by have := hfr k h; omega)
    have hz_ := hs29.size
    have hfr2 : ∀ g, sv.ownBlock = some g → w2.heap.size ≤ g := fun g hg => by
      rcases hor2 with h | h
      · rw [h] at hg; exact hfr g hg
      · rw [h] at hg; have h2 := Option.some.inj hg; omega
    clear hbu
    have hbu := hbu2
    clear hfr
    have hfr := hfr2
    obtain ⟨sva, svc, rfl, _, _⟩ := hbu.slice
    refine Sa rfl rfl ?_
    refine as_nil (κ _ _ ?_)
    refine cw_region fun _ κ => ?_
    refine Sc 1 rfl (by kernel_rfl) rfl (by exact Blk.cells hol.1 rfl) ?_
    refine as_h rfl (h_call (by kernel_rfl) rfl ?_)
    refine (cp_drop (n := 2) hs29.sat hcl (by decide)).mono ?_
    rintro _ w30 ⟨qd, rfl, hs30, hcd⟩
    replace hcd : CRep 260 _ l3 (.pointer qd) := hcd
    replace hmk := hmk.mono hs30.le
    replace hol := hol.then hs30
    replace hor := hor.then hs30
    replace hk2 := hk2.mono hs30.le
    replace hn := hn.mono hs30.le
    replace hbu := hbu.then hs30
    replace hT := hT.then hs30
    have hz30 := hs30.size
    refine as_h0 (h_store hs30.sat hol rfl rfl rfl (by kernel_rfl) rfl rfl rfl fun w31 hs31 hn31 => ?_)
    replace hmk := hmk.mono hs31.le
    replace hor := hor.step hs31 (fun h => by have h : _ = _ := h; omega)
    replace hk2 := hk2.mono hs31.le
    replace hn := hn.mono hs31.le
    replace hbu := hbu.step hs31 (fun g hg h => by have h : g = bl := h; have := hfr g hg; omega)
    replace hcd := hcd.mono hs31.le
    clear hol; have hol := hn31; clear hn31
    replace hT := hT.own hs31 (by omega)
    have hz31 := hs31.size
    refine as_nil (κ _ _ ?_)
    refine ⟨_, _, ?_, (.cons rfl (.cons rfl (.cons rfl (.cons rfl (.cons rfl (.nil _)))))), ms ++ [a.meld b], rest, al ++ [nq], l3, _, _, _, _, _, rfl, by simp, ?_, ?_, rfl, hT, by omega, ?_, preps_snoc hmk (pr_meld_ne hna) hn, hcd, hk2, hol, hor, hfr⟩
    · simp only [List.length_cons]; omega
    · rw [hmod, List.foldr_append]; rfl
    · rw [pr_sizes_append]; simp only [Pr.sizes, Pr.meld_size] at hzz ⊢; omega
    · simpa [ptrs] using hbu
theorem p_pop {w : World} {M : Mem} {x : El} {ks : List Pr} {q : Option Addr} (hs : Sat M w) (h : PRep 251 260 M (.node x ks) q) (hz : (Pr.node x ks).size ≤ 1000000000) :
    Does Tryz.prog 164 #[.agg #[.pointer q], .pointer none] w (fun v w' => ∃ q M', v = .tuple #[.agg #[.pointer q], .bool true] ∧ Step Nope M w M' w' ∧ PRep 251 260 M' (Pr.pair ks) q) := by
  have hT := Step.refl Nope hs
  obtain ⟨b, kq, al, rfl, hb, hc, hk⟩ := prep_node.1 h
  refine fn_enter Tryz.func164 rfl (rs := [.cell 4 79, .tmp 5]) rfl rfl rfl rfl ?_
  refine cw_rs fun _ κ => ?_
  refine as_h rfl (h_boxM hs rfl rfl fun b1 M1 w1 hs1 hb1 e1 => ?_)
  replace hb := hs1.le _ _ hb
  replace hc := hc.mono hs1.le
  replace hk := hk.mono hs1.le
  replace hT := hT.then hs1
  have hz1 := hs1.size
  have hqar := hT.size
  refine as_h rfl (h_allocO (z := (.agg #[(.pointer none)])) hs1.sat (by kernel_rfl) rfl fun br w2 hs2 hor er => ?_)
  replace hb := hs2.le _ _ hb
  replace hc := hc.mono hs2.le
  replace hk := hk.mono hs2.le
  replace hb1 := hs2.le _ _ hb1
  replace hT := hT.then hs2
  have hz2 := hs2.size
  have hlr := hor.1.lt
  refine Sa rfl rfl ?_
  refine as_nil (κ _ _ ?_)
  refine cw_seq fun _ hK2 => ?_
  refine cw_rs fun _ κ => ?_
  refine Sf 0 rfl (by kernel_rfl) rfl ?_
  refine S1 rfl (by kernel_rfl) rfl (by exact BlkR.cell (hs2.sat _ _ _ hb1) rfl) ?_
  refine as_q rfl rfl (q_eqnil (by kernel_rfl) rfl) ?_
  refine as_nil (κ _ _ ?_)
  refine cw_false rfl ?_
  refine cw_skip ?_
  refine hK2 _ _ ?_
  refine cw_rs fun _ κ => ?_
  refine Sm rfl rfl ?_
  refine Sf 0 rfl (by kernel_rfl) rfl ?_
  refine S1 rfl (by kernel_rfl) rfl (by exact BlkR.cell (hs2.sat _ _ _ hb1) rfl) ?_
  refine as_q rfl rfl (q_nilp rfl) ?_
  refine Sf 2 rfl (by kernel_rfl) rfl ?_
  refine Sc 1 rfl (by kernel_rfl) rfl (by exact BlkR.cells (hs2.sat _ _ _ hb) rfl) ?_
  refine as_h rfl (h_call (by kernel_rfl) rfl ?_)
  refine (p_pair hs2.sat hc hk (by simp only [Pr.size] at hz; omega)).mono ?_
  rintro _ w3 ⟨qm, Mm, rfl, hs3, hm⟩
  replace hor := hor.then hs3
  replace hT := hT.then hs3
  have hz3 := hs3.size
  refine as_h0 (h_store hs3.sat hor rfl rfl rfl (by kernel_rfl) rfl rfl rfl fun w4 hs4 hn4 => ?_)
  replace hm := hm.mono hs4.le
  clear hor; have hor := hn4; clear hn4
  replace hT := hT.own hs4 (by omega)
  have hz4 := hs4.size
  refine Sa rfl rfl ?_
  refine as_nil (κ _ _ ?_)
  refine cw_ret ?_
  exact ⟨_, (res_cell rfl (loadVar_n (n := 1) (by kernel_rfl) (by exact Blk.cells hor.1 rfl)) (res_tmp rfl res_nil)), _, _, rfl, hT, hm⟩
end Go.Proofs.YtgcgjpfjjgalmaaGreat
/- Heaps of the kinds without their least element, as heaps of any kind, part 1. -/
namespace Go.Proofs.YtgcgjpfjjgalmaaGreat
open Go Go.Eng
theorem wa_pop {w : World} {M : Mem} {x : El} {l r : Lft} {q : Option Addr} (hs : Sat M w) (h : LRep 171 M (.node x l r) (.pointer q)) (hz : (Lft.node x l r).size ≤ 1000000000) :
    Does Tryz.prog 93 #[.agg #[.pointer q], .pointer none] w (fun v w' => ∃ q M', v = .iface 69 (.agg #[.pointer q]) ∧ Step Nope M w M' w' ∧ LRep 171 M' (l.meld r) (.pointer q)) := by
  have hT := Step.refl Nope hs
  refine fn_enter Tryz.func93 rfl (rs := [.tmp 4]) rfl rfl rfl rfl ?_
  refine cw_rs fun _ κ => ?_
  refine as_h rfl (h_boxM hs rfl rfl fun b1 M1 w1 hs1 hb1 e1 => ?_)
  replace h := h.mono hs1.le
  replace hT := hT.then hs1
  have hz1 := hs1.size
  refine Sa rfl rfl ?_
  refine as_nil (κ _ _ ?_)
  refine cw_rs fun _ κ => ?_
  refine Sf 0 rfl (by kernel_rfl) rfl ?_
  refine Sc 1 rfl (by kernel_rfl) rfl (by exact BlkR.cells (hs1.sat _ _ _ hb1) rfl) ?_
  refine as_q rfl rfl (q_iface (by kernel_rfl) rfl) ?_
  refine Sm rfl rfl ?_
  refine as_h rfl (h_invoke (f := 281) (r := .agg #[.pointer q]) (by kernel_rfl) rfl rfl (by kernel_rfl) ?_)
  refine (l_pop hs1.sat h hz).mono ?_
  rintro _ w2 ⟨pn, Mn, rfl, hs2, hn⟩
  obtain ⟨qn, rfl⟩ := hn.ptr
  replace h := h.mono hs2.le
  replace hT := hT.then hs2
  have hz2 := hs2.size
  refine Sm rfl rfl ?_
  refine Se rfl rfl rfl ?_
  refine Se rfl rfl rfl ?_
  have hqap := hT.size
  refine as_h rfl (h_allocO (z := (.agg #[(.pointer none)])) hs2.sat (by kernel_rfl) rfl fun bp w3 hs3 hop ep => ?_)
  replace h := h.mono hs3.le
  replace hn := hn.mono hs3.le
  replace hT := hT.then hs3
  have hz3 := hs3.size
  have hlp := hop.1.lt
  refine as_h0 (h_store hs3.sat hop rfl rfl rfl (by kernel_rfl) rfl rfl rfl fun w4 hs4 hn4 => ?_)
  replace h := h.mono hs4.le
  replace hn := hn.mono hs4.le
  clear hop; have hop := hn4; clear hn4
  replace hT := hT.own hs4 (by omega)
  have hz4 := hs4.size
  refine Sa rfl rfl ?_
  refine as_nil (κ _ _ ?_)
  refine cw_rs fun _ κ => ?_
  refine Sc 1 rfl (by kernel_rfl) rfl (by exact Blk.cells hop.1 rfl) ?_
  refine as_q rfl rfl (q_build (zs := [(.pointer none)]) (places := [(0, 1)]) (cs := [_]) (by kernel_rfl) (by kernel_rfl) rfl rfl) ?_
  refine as_q rfl rfl (q_iface (by kernel_rfl) rfl) ?_
  refine Sa rfl rfl ?_
  refine as_nil (κ _ _ ?_)
  refine cw_ret ?_
  exact ⟨_, (res_tmp rfl res_nil), _, _, rfl, hT, hn⟩
theorem wc_pop {w : World} {M : Mem} {x : El} {ks : List Pr} {q : Option Addr} (hs : Sat M w) (h : PRep 251 260 M (.node x ks) q) (hz : (Pr.node x ks).size ≤ 1000000000) :
    Does Tryz.prog 179 #[.agg #[.pointer q], .pointer none] w (fun v w' => ∃ q M', v = .iface 81 (.agg #[.pointer q]) ∧ Step Nope M w M' w' ∧ PRep 251 260 M' (Pr.pair ks) q) := by
  have hT := Step.refl Nope hs
  refine fn_enter Tryz.func179 rfl (rs := [.tmp 4]) rfl rfl rfl rfl ?_
  refine cw_rs fun _ κ => ?_
  refine as_h rfl (h_boxM hs rfl rfl fun b1 M1 w1 hs1 hb1 e1 => ?_)
  replace h := h.mono hs1.le
  replace hT := hT.then hs1
  have hz1 := hs1.size
  refine Sa rfl rfl ?_
  refine as_nil (κ _ _ ?_)
  refine cw_rs fun _ κ => ?_
  refine Sf 0 rfl (by kernel_rfl) rfl ?_
  refine Sc 1 rfl (by kernel_rfl) rfl (by exact BlkR.cells (hs1.sat _ _ _ hb1) rfl) ?_
  refine as_q rfl rfl (q_iface (by kernel_rfl) rfl) ?_
  refine Sm rfl rfl ?_
  refine as_h rfl (h_invoke (f := 164) (r := .agg #[.pointer q]) (by kernel_rfl) rfl rfl (by kernel_rfl) ?_)
  refine (p_pop hs1.sat h hz).mono ?_
  rintro _ w2 ⟨qn, Mn, rfl, hs2, hn⟩
  replace h := h.mono hs2.le
  replace hT := hT.then hs2
  have hz2 := hs2.size
  refine Sm rfl rfl ?_
  refine Se rfl rfl rfl ?_
  refine Se rfl rfl rfl ?_
  have hqap := hT.size
  refine as_h rfl (h_allocO (z := (.agg #[(.pointer none)])) hs2.sat (by kernel_rfl) rfl fun bp w3 hs3 hop ep => ?_)
  replace h := h.mono hs3.le
  replace hn := hn.mono hs3.le
  replace hT := hT.then hs3
  have hz3 := hs3.size
  have hlp := hop.1.lt
  refine as_h0 (h_store hs3.sat hop rfl rfl rfl (by kernel_rfl) rfl rfl rfl fun w4 hs4 hn4 => ?_)
  replace h := h.mono hs4.le
  replace hn := hn.mono hs4.le
  clear hop; have hop := hn4; clear hn4
  replace hT := hT.own hs4 (by omega)
  have hz4 := hs4.size
  refine Sa rfl rfl ?_
  refine as_nil (κ _ _ ?_)
  refine cw_rs fun _ κ => ?_
  refine Sc 1 rfl (by kernel_rfl) rfl (by exact Blk.cells hop.1 rfl) ?_
  refine as_q rfl rfl (q_build (zs := [(.pointer none)]) (places := [(0, 1)]) (cs := [_]) (by kernel_rfl) (by kernel_rfl) rfl rfl) ?_
  refine as_q rfl rfl (q_iface (by kernel_rfl) rfl) ?_
  refine Sa rfl rfl ?_
  refine as_nil (κ _ _ ?_)
  refine cw_ret ?_
  exact ⟨_, (res_tmp rfl res_nil), _, _, rfl, hT, hn⟩
end Go.Proofs.YtgcgjpfjjgalmaaGreat
/- Heaps of the kinds without their least element, as heaps of any kind, part 1. -/
namespace Go.Proofs.YtgcgjpfjjgalmaaGreat
open Go Go.Eng
theorem wb_pop {w : World} {M : Mem} {t : List (RT El)} {y : El} {bs : List El} {ks : List (RT El)} {q : Option Addr} (hs : Sat M w) (h : FRep 197 220 2 EncE M t q) (ht : t[leastN ltE (t.map RT.root) (t.length - 1)]? = some (.node y bs ks)) (hz : RT.sizes t ≤ 1000000000) :
    Does Tryz.prog 158 #[.agg #[.pointer q], .pointer none] w (fun v w' => ∃ q M', v = .iface 76 (.agg #[.pointer q]) ∧ Step Nope M w M' w' ∧ FRep 197 220 2 EncE M' (bpop ltE t (.node y bs ks)) q) := by
  have hT := Step.refl Nope hs
  refine fn_enter Tryz.func158 rfl (rs := [.tmp 4]) rfl rfl rfl rfl ?_
  refine cw_rs fun _ κ => ?_
  refine as_h rfl (h_boxM hs rfl rfl fun b1 M1 w1 hs1 hb1 e1 => ?_)
  replace h := h.mono' EncE.mono hs1.le
  replace hT := hT.then hs1
  have hz1 := hs1.size
  refine Sa rfl rfl ?_
  refine as_nil (κ _ _ ?_)
  refine cw_rs fun _ κ => ?_
  refine Sf 0 rfl (by kernel_rfl) rfl ?_
  refine Sc 1 rfl (by kernel_rfl) rfl (by exact BlkR.cells (hs1.sat _ _ _ hb1) rfl) ?_
  refine as_q rfl rfl (q_iface (by kernel_rfl) rfl) ?_
  refine Sm rfl rfl ?_
  refine as_h rfl (h_invoke (f := 114) (r := .agg #[.pointer q]) (by kernel_rfl) rfl rfl (by kernel_rfl) ?_)
  refine (b_pop hs1.sat h ht hz).mono ?_
  rintro _ w2 ⟨qn, Mn, rfl, hs2, hn⟩
  replace h := h.mono' EncE.mono hs2.le
  replace hT := hT.then hs2
  have hz2 := hs2.size
  refine Sm rfl rfl ?_
  refine Se rfl rfl rfl ?_
  refine Se rfl rfl rfl ?_
  have hqap := hT.size
  refine as_h rfl (h_allocO (z := (.agg #[(.pointer none)])) hs2.sat (by kernel_rfl) rfl fun bp w3 hs3 hop ep => ?_)
  replace h := h.mono' EncE.mono hs3.le
  replace hn := hn.mono' EncE.mono hs3.le
  replace hT := hT.then hs3
  have hz3 := hs3.size
  have hlp := hop.1.lt
  refine as_h0 (h_store hs3.sat hop rfl rfl rfl (by kernel_rfl) rfl rfl rfl fun w4 hs4 hn4 => ?_)
  replace h := h.mono' EncE.mono hs4.le
  replace hn := hn.mono' EncE.mono hs4.le
  clear hop; have hop := hn4; clear hn4
  replace hT := hT.own hs4 (by omega)
  have hz4 := hs4.size
  refine Sa rfl rfl ?_
  refine as_nil (κ _ _ ?_)
  refine cw_rs fun _ κ => ?_
  refine Sc 1 rfl (by kernel_rfl) rfl (by exact Blk.cells hop.1 rfl) ?_
  refine as_q rfl rfl (q_build (zs := [(.pointer none)]) (places := [(0, 1)]) (cs := [_]) (by kernel_rfl) (by kernel_rfl) rfl rfl) ?_
  refine as_q rfl rfl (q_iface (by kernel_rfl) rfl) ?_
  refine Sa rfl rfl ?_
  refine as_nil (κ _ _ ?_)
  refine cw_ret ?_
  exact ⟨_, (res_tmp rfl res_nil), _, _, rfl, hT, hn⟩
theorem wd_pop {w : World} {M : Mem} {t : List (RT El)} {y : El} {bs : List El} {ks : List (RT El)} {q : Option Addr} (hs : Sat M w) (h : FRep 197 220 2 EncE M t q) (ht : t[leastN ltE (t.map RT.root) (t.length - 1)]? = some (.node y bs ks)) (hz : RT.sizes t ≤ 1000000000) :
    Does Tryz.prog 200 #[.agg #[.pointer q], .pointer none] w (fun v w' => ∃ q M', v = .iface 85 (.agg #[.pointer q]) ∧ Step Nope M w M' w' ∧ FRep 197 220 2 EncE M' (spop ltE t (.node y bs ks)) q) := by
  have hT := Step.refl Nope hs
  refine fn_enter Tryz.func200 rfl (rs := [.tmp 4]) rfl rfl rfl rfl ?_
  refine cw_rs fun _ κ => ?_
  refine as_h rfl (h_boxM hs rfl rfl fun b1 M1 w1 hs1 hb1 e1 => ?_)
  replace h := h.mono' EncE.mono hs1.le
  replace hT := hT.then hs1
  have hz1 := hs1.size
  refine Sa rfl rfl ?_
  refine as_nil (κ _ _ ?_)
  refine cw_rs fun _ κ => ?_
  refine Sf 0 rfl (by kernel_rfl) rfl ?_
  refine Sc 1 rfl (by kernel_rfl) rfl (by exact BlkR.cells (hs1.sat _ _ _ hb1) rfl) ?_
  refine as_q rfl rfl (q_iface (by kernel_rfl) rfl) ?_
  refine Sm rfl rfl ?_
  refine as_h rfl (h_invoke (f := 185) (r := .agg #[.pointer q]) (by kernel_rfl) rfl rfl (by kernel_rfl) ?_)
  refine (se_pop hs1.sat h ht hz).mono ?_
  rintro _ w2 ⟨qn, Mn, rfl, hs2, hn⟩
  replace h := h.mono' EncE.mono hs2.le
  replace hT := hT.then hs2
  have hz2 := hs2.size
  refine Sm rfl rfl ?_
  refine Se rfl rfl rfl ?_
  refine Se rfl rfl rfl ?_
  have hqap := hT.size
  refine as_h rfl (h_allocO (z := (.agg #[(.pointer none)])) hs2.sat (by kernel_rfl) rfl fun bp w3 hs3 hop ep => ?_)
  replace h := h.mono' EncE.mono hs3.le
  replace hn := hn.mono' EncE.mono hs3.le
  replace hT := hT.then hs3
  have hz3 := hs3.size
  have hlp := hop.1.lt
  refine as_h0 (h_store hs3.sat hop rfl rfl rfl (by kernel_rfl) rfl rfl rfl fun w4 hs4 hn4 => ?_)
  replace h := h.mono' EncE.mono hs4.le
  replace hn := hn.mono' EncE.mono hs4.le
  clear hop; have hop := hn4; clear hn4
  replace hT := hT.own hs4 (by omega)
  have hz4 := hs4.size
  refine Sa rfl rfl ?_
  refine as_nil (κ _ _ ?_)
  refine cw_rs fun _ κ => ?_
  refine Sc 1 rfl (by kernel_rfl) rfl (by exact Blk.cells hop.1 rfl) ?_
  refine as_q rfl rfl (q_build (zs := [(.pointer none)]) (places := [(0, 1)]) (cs := [_]) (by kernel_rfl) (by kernel_rfl) rfl rfl) ?_
  refine as_q rfl rfl (q_iface (by kernel_rfl) rfl) ?_
  refine Sa rfl rfl ?_
  refine as_nil (κ _ _ ?_)
  refine cw_ret ?_
  exact ⟨_, (res_tmp rfl res_nil), _, _, rfl, hT, hn⟩
theorem we_pop1 {w : World} {M : Mem} {x : El} {q : Option Addr} (hs : Sat M w) (h : RoRep 283 197 220 M (.node x []) q) :
    Does Tryz.prog 213 #[.agg #[.pointer q], .pointer none] w (fun v w' => ∃ q M', v = .iface 90 (.agg #[.pointer q]) ∧ Step Nope M w M' w' ∧ RoRep 283 197 220 M' .nil q) := by
  have hT := Step.refl Nope hs
  refine fn_enter Tryz.func213 rfl (rs := [.tmp 4]) rfl rfl rfl rfl ?_
  refine cw_rs fun _ κ => ?_
  refine as_h rfl (h_boxM hs rfl rfl fun b1 M1 w1 hs1 hb1 e1 => ?_)
  replace h := h.mono hs1.le
  replace hT := hT.then hs1
  have hz1 := hs1.size
  refine Sa rfl rfl ?_
  refine as_nil (κ _ _ ?_)
  refine cw_rs fun _ κ => ?_
  refine Sf 0 rfl (by kernel_rfl) rfl ?_
  refine Sc 1 rfl (by kernel_rfl) rfl (by exact BlkR.cells (hs1.sat _ _ _ hb1) rfl) ?_
  refine as_q rfl rfl (q_iface (by kernel_rfl) rfl) ?_
  refine Sm rfl rfl ?_
  refine as_h rfl (h_invoke (f := 206) (r := .agg #[.pointer q]) (by kernel_rfl) rfl rfl (by kernel_rfl) ?_)
  refine (r_pop_1 hs1.sat h).mono ?_
  rintro _ w2 ⟨qn, Mn, rfl, hs2, hn⟩
  replace h := h.mono hs2.le
  replace hT := hT.then hs2
  have hz2 := hs2.size
  refine Sm rfl rfl ?_
  refine Se rfl rfl rfl ?_
  refine Se rfl rfl rfl ?_
  have hqap := hT.size
  refine as_h rfl (h_allocO (z := (.agg #[(.pointer none)])) hs2.sat (by kernel_rfl) rfl fun bp w3 hs3 hop ep => ?_)
  replace h := h.mono hs3.le
  replace hn := hn.mono hs3.le
  replace hT := hT.then hs3
  have hz3 := hs3.size
  have hlp := hop.1.lt
  refine as_h0 (h_store hs3.sat hop rfl rfl rfl (by kernel_rfl) rfl rfl rfl fun w4 hs4 hn4 => ?_)
  replace h := h.mono hs4.le
  replace hn := hn.mono hs4.le
  clear hop; have hop := hn4; clear hn4
  replace hT := hT.own hs4 (by omega)
  have hz4 := hs4.size
  refine Sa rfl rfl ?_
  refine as_nil (κ _ _ ?_)
  refine cw_rs fun _ κ => ?_
  refine Sc 1 rfl (by kernel_rfl) rfl (by exact Blk.cells hop.1 rfl) ?_
  refine as_q rfl rfl (q_build (zs := [(.pointer none)]) (places := [(0, 1)]) (cs := [_]) (by kernel_rfl) (by kernel_rfl) rfl rfl) ?_
  refine as_q rfl rfl (q_iface (by kernel_rfl) rfl) ?_
  refine Sa rfl rfl ?_
  refine as_nil (κ _ _ ?_)
  refine cw_ret ?_
  exact ⟨_, (res_tmp rfl res_nil), _, _, rfl, hT, hn⟩
theorem we_pop2 {w : World} {M : Mem} {x y : El} {bs : List El} {ks t : List (RT El)} {q : Option Addr} (hs : Sat M w) (h : RoRep 283 197 220 M (.node x t) q) (ht : t[leastN ltE (t.map RT.root) (t.length - 1)]? = some (.node y bs ks)) (hz : RT.sizes t ≤ 1000000000) :
    Does Tryz.prog 213 #[.agg #[.pointer q], .pointer none] w (fun v w' => ∃ q M', v = .iface 90 (.agg #[.pointer q]) ∧ Step Nope M w M' w' ∧ RoRep 283 197 220 M' (.node y (spop ltE t (.node y bs ks))) q) := by
  have hT := Step.refl Nope hs
  refine fn_enter Tryz.func213 rfl (rs := [.tmp 4]) rfl rfl rfl rfl ?_
  refine cw_rs fun _ κ => ?_
  refine as_h rfl (h_boxM hs rfl rfl fun b1 M1 w1 hs1 hb1 e1 => ?_)
  replace h := h.mono hs1.le
  replace hT := hT.then hs1
  have hz1 := hs1.size
  refine Sa rfl rfl ?_
  refine as_nil (κ _ _ ?_)
  refine cw_rs fun _ κ => ?_
  refine Sf 0 rfl (by kernel_rfl) rfl ?_
  refine Sc 1 rfl (by kernel_rfl) rfl (by exact BlkR.cells (hs1.sat _ _ _ hb1) rfl) ?_
  refine as_q rfl rfl (q_iface (by kernel_rfl) rfl) ?_
  refine Sm rfl rfl ?_
  refine as_h rfl (h_invoke (f := 206) (r := .agg #[.pointer q]) (by kernel_rfl) rfl rfl (by kernel_rfl) ?_)
  refine (r_pop_2 hs1.sat h ht hz).mono ?_
  rintro _ w2 ⟨qn, Mn, rfl, hs2, hn⟩
  replace h := h.mono hs2.le
  replace hT := hT.then hs2
  have hz2 := hs2.size
  refine Sm rfl rfl ?_
  refine Se rfl rfl rfl ?_
  refine Se rfl rfl rfl ?_
  have hqap := hT.size
  refine as_h rfl (h_allocO (z := (.agg #[(.pointer none)])) hs2.sat (by kernel_rfl) rfl fun bp w3 hs3 hop ep => ?_)
  replace h := h.mono hs3.le
  replace hn := hn.mono hs3.le
  replace hT := hT.then hs3
  have hz3 := hs3.size
  have hlp := hop.1.lt
  refine as_h0 (h_store hs3.sat hop rfl rfl rfl (by kernel_rfl) rfl rfl rfl fun w4 hs4 hn4 => ?_)
  replace h := h.mono hs4.le
  replace hn := hn.mono hs4.le
  clear hop; have hop := hn4; clear hn4
  replace hT := hT.own hs4 (by omega)
  have hz4 := hs4.size
  refine Sa rfl rfl ?_
  refine as_nil (κ _ _ ?_)
  refine cw_rs fun _ κ => ?_
  refine Sc 1 rfl (by kernel_rfl) rfl (by exact Blk.cells hop.1 rfl) ?_
  refine as_q rfl rfl (q_build (zs := [(.pointer none)]) (places := [(0, 1)]) (cs := [_]) (by kernel_rfl) (by kernel_rfl) rfl rfl) ?_
  refine as_q rfl rfl (q_iface (by kernel_rfl) rfl) ?_
  refine Sa rfl rfl ?_
  refine as_nil (κ _ _ ?_)
  refine cw_ret ?_
  exact ⟨_, (res_tmp rfl res_nil), _, _, rfl, hT, hn⟩
theorem wf_pop1 {w : World} {M : Mem} {x : El} {q : Option Addr} (hs : Sat M w) (h : BRep 296 330 332 M (.node x []) q) :
    Does Tryz.prog 264 #[.agg #[.pointer q], .pointer none] w (fun v w' => ∃ q M', v = .iface 95 (.agg #[.pointer q]) ∧ Step Nope M w M' w' ∧ BRep 296 330 332 M' .nil q) := by
  have hT := Step.refl Nope hs
  refine fn_enter Tryz.func264 rfl (rs := [.tmp 4]) rfl rfl rfl rfl ?_
  refine cw_rs fun _ κ => ?_
  refine as_h rfl (h_boxM hs rfl rfl fun b1 M1 w1 hs1 hb1 e1 => ?_)
  replace h := h.mono hs1.le
  replace hT := hT.then hs1
  have hz1 := hs1.size
  refine Sa rfl rfl ?_
  refine as_nil (κ _ _ ?_)
  refine cw_rs fun _ κ => ?_
  refine Sf 0 rfl (by kernel_rfl) rfl ?_
  refine Sc 1 rfl (by kernel_rfl) rfl (by exact BlkR.cells (hs1.sat _ _ _ hb1) rfl) ?_
  refine as_q rfl rfl (q_iface (by kernel_rfl) rfl) ?_
  refine Sm rfl rfl ?_
  refine as_h rfl (h_invoke (f := 220) (r := .agg #[.pointer q]) (by kernel_rfl) rfl rfl (by kernel_rfl) ?_)
  refine (bo_pop_1 hs1.sat h).mono ?_
  rintro _ w2 ⟨qn, Mn, rfl, hs2, hn⟩
  replace h := h.mono hs2.le
  replace hT := hT.then hs2
  have hz2 := hs2.size
  refine Sm rfl rfl ?_
  refine Se rfl rfl rfl ?_
  refine Se rfl rfl rfl ?_
  have hqap := hT.size
  refine as_h rfl (h_allocO (z := (.agg #[(.pointer none)])) hs2.sat (by kernel_rfl) rfl fun bp w3 hs3 hop ep => ?_)
  replace h := h.mono hs3.le
  replace hn := hn.mono hs3.le
  replace hT := hT.then hs3
  have hz3 := hs3.size
  have hlp := hop.1.lt
  refine as_h0 (h_store hs3.sat hop rfl rfl rfl (by kernel_rfl) rfl rfl rfl fun w4 hs4 hn4 => ?_)
  replace h := h.mono hs4.le
  replace hn := hn.mono hs4.le
  clear hop; have hop := hn4; clear hn4
  replace hT := hT.own hs4 (by omega)
  have hz4 := hs4.size
  refine Sa rfl rfl ?_
  refine as_nil (κ _ _ ?_)
  refine cw_rs fun _ κ => ?_
  refine Sc 1 rfl (by kernel_rfl) rfl (by exact Blk.cells hop.1 rfl) ?_
  refine as_q rfl rfl (q_build (zs := [(.pointer none)]) (places := [(0, 1)]) (cs := [_]) (by kernel_rfl) (by kernel_rfl) rfl rfl) ?_
  refine as_q rfl rfl (q_iface (by kernel_rfl) rfl) ?_
  refine Sa rfl rfl ?_
  refine as_nil (κ _ _ ?_)
  refine cw_ret ?_
  exact ⟨_, (res_tmp rfl res_nil), _, _, rfl, hT, hn⟩
theorem wf_pop2 {w : World} {M : Mem} {x y : El} {bs : List Bt} {ks ts us : List (RT Bt)} {q : Option Addr} (hs : Sat M w) (h : BRep 296 330 332 M (.node x ts) q) (ht : ts[leastN ltB (ts.map RT.root) (ts.length - 1)]? = some (.node (.node y us) bs ks)) (hz : RT.sizes ts ≤ 1000000000) (hzm : RT.sizes us + RT.sizes (spop ltB ts (.node (.node y us) bs ks)) ≤ 1000000000) :
    Does Tryz.prog 264 #[.agg #[.pointer q], .pointer none] w (fun v w' => ∃ q M', v = .iface 95 (.agg #[.pointer q]) ∧ Step Nope M w M' w' ∧ BRep 296 330 332 M' (Bt.popped ts (.node (.node y us) bs ks) y us) q) := by
  have hT := Step.refl Nope hs
  refine fn_enter Tryz.func264 rfl (rs := [.tmp 4]) rfl rfl rfl rfl ?_
  refine cw_rs fun _ κ => ?_
  refine as_h rfl (h_boxM hs rfl rfl fun b1 M1 w1 hs1 hb1 e1 => ?_)
  replace h := h.mono hs1.le
  replace hT := hT.then hs1
  have hz1 := hs1.size
  refine Sa rfl rfl ?_
  refine as_nil (κ _ _ ?_)
  refine cw_rs fun _ κ => ?_
  refine Sf 0 rfl (by kernel_rfl) rfl ?_
  refine Sc 1 rfl (by kernel_rfl) rfl (by exact BlkR.cells (hs1.sat _ _ _ hb1) rfl) ?_
  refine as_q rfl rfl (q_iface (by kernel_rfl) rfl) ?_
  refine Sm rfl rfl ?_
  refine as_h rfl (h_invoke (f := 220) (r := .agg #[.pointer q]) (by kernel_rfl) rfl rfl (by kernel_rfl) ?_)
  refine (bo_pop_2 hs1.sat h ht hz hzm).mono ?_
  rintro _ w2 ⟨qn, Mn, rfl, hs2, hn⟩
  replace h := h.mono hs2.le
  replace hT := hT.then hs2
  have hz2 := hs2.size
  refine Sm rfl rfl ?_
  refine Se rfl rfl rfl ?_
  refine Se rfl rfl rfl ?_
  have hqap := hT.size
  refine as_h rfl (h_allocO (z := (.agg #[(.pointer none)])) hs2.sat (by kernel_rfl) rfl fun bp w3 hs3 hop ep => ?_)
  replace h := h.mono hs3.le
  replace hn := hn.mono hs3.le
  replace hT := hT.then hs3
  have hz3 := hs3.size
  have hlp := hop.1.lt
  refine as_h0 (h_store hs3.sat hop rfl rfl rfl (by kernel_rfl) rfl rfl rfl fun w4 hs4 hn4 => ?_)
  replace h := h.mono hs4.le
  replace hn := hn.mono hs4.le
  clear hop; have hop := hn4; clear hn4
  replace hT := hT.own hs4 (by omega)
  have hz4 := hs4.size
  refine Sa rfl rfl ?_
  refine as_nil (κ _ _ ?_)
  refine cw_rs fun _ κ => ?_
  refine Sc 1 rfl (by kernel_rfl) rfl (by exact Blk.cells hop.1 rfl) ?_
  refine as_q rfl rfl (q_build (zs := [(.pointer none)]) (places := [(0, 1)]) (cs := [_]) (by kernel_rfl) (by kernel_rfl) rfl rfl) ?_
  refine as_q rfl rfl (q_iface (by kernel_rfl) rfl) ?_
  refine Sa rfl rfl ?_
  refine as_nil (κ _ _ ?_)
  refine cw_ret ?_
  exact ⟨_, (res_tmp rfl res_nil), _, _, rfl, hT, hn⟩
theorem wf_size {w : World} {M : Mem} {t : Bt} {q : Option Addr} (hs : Sat M w) (h : BRep 296 330 332 M t q) (hz : Bt.cnt 1 t ≤ 1000000000) :
    Does Tryz.prog 266 #[.agg #[.pointer q]] w (fun v w' => v = .int .i64 (Bt.cnt 0 t : Nat) ∧ Step Nope M w M w') := by
  have hT := Step.refl Nope hs
  refine fn_enter Tryz.func266 rfl (rs := [.tmp 2]) rfl rfl rfl rfl ?_
  refine cw_rs fun _ κ => ?_
  refine as_h rfl (h_boxM hs rfl rfl fun b1 M1 w1 hs1 hb1 e1 => ?_)
  replace h := h.mono hs1.le
  replace hT := hT.then hs1
  refine Sa rfl rfl ?_
  refine as_nil (κ _ _ ?_)
  refine cw_rs fun _ κ => ?_
  refine Sf 0 rfl (by kernel_rfl) rfl ?_
  refine Sc 1 rfl (by kernel_rfl) rfl (by exact BlkR.cells (hs1.sat _ _ _ hb1) rfl) ?_
  refine as_q rfl rfl (q_iface (by kernel_rfl) rfl) ?_
  refine as_h rfl (h_invoke (f := 222) (r := .agg #[.pointer q]) (by kernel_rfl) rfl rfl (by kernel_rfl) ?_)
  refine (bo_size hs1.sat h hz).mono ?_
  rintro _ w2 ⟨rfl, hs2⟩
  replace h := h.mono hs2.le
  replace hT := hT.then hs2
  refine Sa rfl rfl ?_
  refine as_nil (κ _ _ ?_)
  refine cw_ret ?_
  exact ⟨_, (res_tmp rfl res_nil), rfl, hT.forget⟩
end Go.Proofs.YtgcgjpfjjgalmaaGreat
/- Heaps of any kind, by their elements in order, part 1. -/
namespace Go.Proofs.YtgcgjpfjjgalmaaGreat
open Go Go.Eng
/-- A heap of a kind, by its elements in order. -/
inductive HVal (M : Mem) : Nat → List El → Value → Prop where
  | z : HVal M 0 [] .nilIface
  | a {t : Lft} {q : Option Addr} {l : List El} (h : LRep 171 M t (.pointer q)) (hok : t.ok) (hl : l = srtE (t.els)) : HVal M 1 l (.iface 69 (.agg #[.pointer q]))
  | b {t : List (RT El)} {q : Option Addr} {l : List El} (h : FRep 197 220 2 EncE M t q) (hok : RT.oks ltE t ∧ RT.nobs t) (hl : l = srtE (RT.alls t)) : HVal M 2 l (.iface 76 (.agg #[.pointer q]))
  | c {t : Pr} {q : Option Addr} {l : List El} (h : PRep 251 260 M t q) (hok : t.ok) (hl : l = srtE (t.els)) : HVal M 3 l (.iface 81 (.agg #[.pointer q]))
  | d {t : List (RT El)} {q : Option Addr} {l : List El} (h : FRep 197 220 2 EncE M t q) (hok : RT.oks ltE t) (hl : l = srtE (RT.alls t)) : HVal M 4 l (.iface 85 (.agg #[.pointer q]))
  | e {t : Ro} {q : Option Addr} {l : List El} (h : RoRep 283 197 220 M t q) (hok : t.ok) (hl : l = srtE (t.els)) : HVal M 5 l (.iface 90 (.agg #[.pointer q]))
  | f {t : Bt} {q : Option Addr} {l : List El} (h : BRep 296 330 332 M t q) (hok : t.ok) (hl : l = srtE (t.els)) : HVal M 6 l (.iface 95 (.agg #[.pointer q]))
theorem HVal.mono {M M' : Mem} (k : Le M M') {n : Nat} {l : List El} {v : Value} (h : HVal M n l v) : HVal M' n l v := by
  cases h with
  | z => exact .z
  | a h hok hl => exact .a (h.mono k) hok hl
  | b h hok hl => exact .b (h.mono' EncE.mono k) hok hl
  | c h hok hl => exact .c (h.mono k) hok hl
  | d h hok hl => exact .d (h.mono' EncE.mono k) hok hl
  | e h hok hl => exact .e (h.mono k) hok hl
  | f h hok hl => exact .f (h.mono k) hok hl
theorem HVal.kind {M : Mem} {n : Nat} {l : List El} {v : Value} (h : HVal M n l v) : n ≤ 6 := by cases h <;> omega
theorem els_put {x : El} {l r : List El} (h : r.Perm (x :: l)) : putE (srtE l) x = srtE r := by rw [← srtE_put]; exact srtE_congr h.symm
theorem els_pop {x y : El} {l r s : List El} (h : x :: l = srtE r) (hp : r.Perm (y :: s)) (hg : AllGe y s) : x = y ∧ l = srtE s := by
  rw [srtE_congr hp, srtE_cons hg] at h
  exact ⟨(List.cons.inj h).1, (List.cons.inj h).2⟩
theorem els_none {x : El} {l : List El} {p : Prop} (h : x :: l = srtE []) : p := by cases h
theorem hv_insert {w : World} {M : Mem} {k : Nat} {l : List El} {v : Value} {x : El} (hs : Sat M w) (h : HVal M k l v) (hk : k ≠ 0) (hz : l.length < 1000000000) :
    ∃ (tid : TypeId) (u : Value) (f : FuncId) (r : Value), v = .iface tid u ∧ callable Tryz.prog f = true ∧ (∀ w, (method (Tryz.prog.types.size + Made.depth) tid u "slagheap/heap.insert").run Tryz.prog w = .ok (f, r) w) ∧
      Does Tryz.prog f #[r, .pointer none, .agg (elc x).toArray] w (fun v' w' => ∃ M', Step Nope M w M' w' ∧ HVal M' k (putE l x) v') := by
  cases h with
  | z => exact absurd rfl hk
  | @a t q _ h hok hl =>
    subst hl
    rw [srtE_length] at hz
    exact ⟨69, .agg #[.pointer _], 90, .agg #[.pointer _], rfl, by kernel_rfl, fun _ => by kernel_rfl, (wa_insert hs h (by rw [← t.els_size]; exact hz)).mono fun v' w' ⟨q', M', h1, h2, h3⟩ => ⟨M', h2, by subst h1; exact .a h3 (Lft.insert_ok x t hok) (els_put (Lft.insert_els x t))⟩⟩
  | @b t q _ h hok hl =>
    subst hl
    rw [srtE_length] at hz
    exact ⟨76, .agg #[.pointer _], 155, .agg #[.pointer _], rfl, by kernel_rfl, fun _ => by kernel_rfl, (wb_insert hs h (by rw [← RT.alls_length]; exact hz)).mono fun v' w' ⟨q', M', h1, h2, h3⟩ => ⟨M', h2, by subst h1; exact .b h3 (⟨bput_oks swoE (RT.leaf_ok x) hok.1, bput_nobs ⟨rfl, trivial⟩ hok.2⟩) (els_put (bput_alls t (RT.leaf x)))⟩⟩
  | @c t q _ h hok hl =>
    subst hl
    rw [srtE_length] at hz
    exact ⟨81, .agg #[.pointer _], 176, .agg #[.pointer _], rfl, by kernel_rfl, fun _ => by kernel_rfl, (wc_insert hs h (by rw [← t.els_size]; exact hz)).mono fun v' w' ⟨q', M', h1, h2, h3⟩ => ⟨M', h2, by subst h1; exact .c h3 (Pr.insert_ok x t hok) (els_put (Pr.insert_els x t))⟩⟩
  | @d t q _ h hok hl =>
    subst hl
    rw [srtE_length] at hz
    exact ⟨85, .agg #[.pointer _], 197, .agg #[.pointer _], rfl, by kernel_rfl, fun _ => by kernel_rfl, (wd_insert hs h (by rw [← RT.alls_length]; exact hz)).mono fun v' w' ⟨q', M', h1, h2, h3⟩ => ⟨M', h2, by subst h1; exact .d h3 (sinsert_oks swoE hok) (els_put (sinsert_alls x t))⟩⟩
  | @e t q _ h hok hl =>
    subst hl
    rw [srtE_length] at hz
    exact ⟨90, .agg #[.pointer _], 210, .agg #[.pointer _], rfl, by kernel_rfl, fun _ => by kernel_rfl, (we_insert hs h (by rw [← t.els_size]; exact hz)).mono fun v' w' ⟨q', M', h1, h2, h3⟩ => ⟨M', h2, by subst h1; exact .e h3 (Ro.insert_ok x hok) (els_put (Ro.insert_els x t))⟩⟩
  | @f t q _ h hok hl =>
    subst hl
    rw [srtE_length] at hz
    exact ⟨95, .agg #[.pointer _], 261, .agg #[.pointer _], rfl, by kernel_rfl, fun _ => by kernel_rfl, (wf_insert hs h (Nat.lt_of_le_of_lt (Bt.queue_els hok) hz)).mono fun v' w' ⟨q', M', h1, h2, h3⟩ => ⟨M', h2, by subst h1; exact .f h3 (Bt.insert_ok x hok) (els_put (Bt.insert_els x t))⟩⟩
theorem cnt0_els {t : Bt} (h : t.ok) : Bt.cnt 0 t = t.els.length := by
  cases t with
  | nil => rfl
  | node x ts => exact Bt.cnt_els 0 _ (by simp) h
theorem cnt1_le {t : Bt} (h : t.ok) (hz : t.els.length < 1000000000) : Bt.cnt 1 t ≤ 1000000000 := by
  cases t with
  | nil => decide
  | node x ts => rw [Bt.cnt_els 1 _ (by simp) h]; omega
theorem hv_size {w : World} {M : Mem} {k : Nat} {l : List El} {v : Value} (hs : Sat M w) (h : HVal M k l v) (hk : k ≠ 0) (hz : l.length < 1000000000) :
    ∃ (tid : TypeId) (u : Value) (f : FuncId) (r : Value), v = .iface tid u ∧ callable Tryz.prog f = true ∧ (∀ w, (method (Tryz.prog.types.size + Made.depth) tid u "slagheap/heap.size").run Tryz.prog w = .ok (f, r) w) ∧
      Does Tryz.prog f #[r] w (fun v' w' => v' = .int .i64 (l.length : Nat) ∧ Step Nope M w M w') := by
  cases h with
  | z => exact absurd rfl hk
  | @a t q _ h hok hl =>
    subst hl
    rw [srtE_length] at hz ⊢
    exact ⟨69, .agg #[.pointer _], 95, .agg #[.pointer _], rfl, by kernel_rfl, fun _ => by kernel_rfl, (wa_size hs h ).mono fun v' w' ⟨h1, h2⟩ => ⟨by rw [h1, t.els_size], h2⟩⟩
  | @b t q _ h hok hl =>
    subst hl
    rw [srtE_length] at hz ⊢
    exact ⟨76, .agg #[.pointer _], 160, .agg #[.pointer _], rfl, by kernel_rfl, fun _ => by kernel_rfl, (wb_size hs h (by rw [← RT.alls_length]; omega)).mono fun v' w' ⟨h1, h2⟩ => ⟨by rw [h1, RT.alls_length t], h2⟩⟩
  | @c t q _ h hok hl =>
    subst hl
    rw [srtE_length] at hz ⊢
    exact ⟨81, .agg #[.pointer _], 181, .agg #[.pointer _], rfl, by kernel_rfl, fun _ => by kernel_rfl, (wc_size hs h ).mono fun v' w' ⟨h1, h2⟩ => ⟨by rw [h1, t.els_size], h2⟩⟩
  | @d t q _ h hok hl =>
    subst hl
    rw [srtE_length] at hz ⊢
    exact ⟨85, .agg #[.pointer _], 202, .agg #[.pointer _], rfl, by kernel_rfl, fun _ => by kernel_rfl, (wd_size hs h (by rw [← RT.alls_length]; omega)).mono fun v' w' ⟨h1, h2⟩ => ⟨by rw [h1, RT.alls_length t], h2⟩⟩
  | @e t q _ h hok hl =>
    subst hl
    rw [srtE_length] at hz ⊢
    exact ⟨90, .agg #[.pointer _], 215, .agg #[.pointer _], rfl, by kernel_rfl, fun _ => by kernel_rfl, (we_size hs h (by rw [← t.els_size]; omega)).mono fun v' w' ⟨h1, h2⟩ => ⟨by rw [h1, t.els_size], h2⟩⟩
  | @f t q _ h hok hl =>
    subst hl
    rw [srtE_length] at hz ⊢
    exact ⟨95, .agg #[.pointer _], 266, .agg #[.pointer _], rfl, by kernel_rfl, fun _ => by kernel_rfl, (wf_size hs h (cnt1_le hok hz)).mono fun v' w' ⟨h1, h2⟩ => ⟨by rw [h1, (cnt0_els hok).symm], h2⟩⟩
end Go.Proofs.YtgcgjpfjjgalmaaGreat
/- Heaps of any kind, by their elements in order, part 2. -/
namespace Go.Proofs.YtgcgjpfjjgalmaaGreat
open Go Go.Eng
theorem hv_min {w : World} {M : Mem} {k : Nat} {x : El} {l : List El} {v : Value} (hs : Sat M w) (h : HVal M k (x :: l) v) (hz : (x :: l).length < 1000000000) :
    ∃ (tid : TypeId) (u : Value) (f : FuncId) (r : Value), v = .iface tid u ∧ callable Tryz.prog f = true ∧ (∀ w, (method (Tryz.prog.types.size + Made.depth) tid u "slagheap/heap.min").run Tryz.prog w = .ok (f, r) w) ∧
      Does Tryz.prog f #[r, .pointer none] w (fun v' w' => v' = .tuple #[.agg (elc x).toArray, .bool true] ∧ Step Nope M w M w') := by
  generalize hxl : x :: l = xl at h hz
  cases h with
  | z => cases hxl
  | @a t q _ h hok hl =>
    subst hl
    cases t with
    | nil => exact els_none hxl
    | node y tl tr =>
      have he := els_pop hxl (.refl _) hok.1
      exact ⟨69, .agg #[.pointer _], 92, .agg #[.pointer _], rfl, by kernel_rfl, fun _ => by kernel_rfl, (wa_min hs h).mono fun v' w' ⟨h1, h2⟩ => ⟨by rw [h1, he.1], h2⟩⟩
  | @b t q _ h hok hl =>
    subst hl
    rw [srtE_length] at hz
    have hne : t ≠ [] := by rintro rfl; exact els_none hxl
    obtain ⟨k, hk⟩ := least_is (lt := ltE) hne
    have hg := least_tree swoE hok.1 hk
    have hp := alls_out hk
    have he := els_pop hxl hp (fun y hy => hg y (hp.mem_iff.2 (List.mem_cons_of_mem _ hy)))
    exact ⟨76, .agg #[.pointer _], 157, .agg #[.pointer _], rfl, by kernel_rfl, fun _ => by kernel_rfl, (wb_min hs h hk (by rw [← RT.alls_length]; omega)).mono fun v' w' ⟨h1, h2⟩ => ⟨by rw [h1, he.1], h2⟩⟩
  | @c t q _ h hok hl =>
    subst hl
    cases t with
    | nil => exact els_none hxl
    | node y ks =>
      have he := els_pop hxl (by simp only [Pr.els]; exact .refl _) (by simp only [Pr.ok] at hok; exact hok.1)
      exact ⟨81, .agg #[.pointer _], 178, .agg #[.pointer _], rfl, by kernel_rfl, fun _ => by kernel_rfl, (wc_min hs h).mono fun v' w' ⟨h1, h2⟩ => ⟨by rw [h1, he.1], h2⟩⟩
  | @d t q _ h hok hl =>
    subst hl
    rw [srtE_length] at hz
    have hne : t ≠ [] := by rintro rfl; exact els_none hxl
    obtain ⟨k, hk⟩ := least_is (lt := ltE) hne
    have hg := least_tree swoE hok hk
    have hp := alls_out hk
    have he := els_pop hxl hp (fun y hy => hg y (hp.mem_iff.2 (List.mem_cons_of_mem _ hy)))
    exact ⟨85, .agg #[.pointer _], 199, .agg #[.pointer _], rfl, by kernel_rfl, fun _ => by kernel_rfl, (wd_min hs h hk (by rw [← RT.alls_length]; omega)).mono fun v' w' ⟨h1, h2⟩ => ⟨by rw [h1, he.1], h2⟩⟩
  | @e t q _ h hok hl =>
    subst hl
    cases t with
    | nil => exact els_none hxl
    | node y ts =>
      have he := els_pop hxl (.refl _) hok.1
      exact ⟨90, .agg #[.pointer _], 212, .agg #[.pointer _], rfl, by kernel_rfl, fun _ => by kernel_rfl, (we_min hs h).mono fun v' w' ⟨h1, h2⟩ => ⟨by rw [h1, he.1], h2⟩⟩
  | @f t q _ h hok hl =>
    subst hl
    cases t with
    | nil => exact els_none (by simpa only [Bt.els] using hxl)
    | node y ts =>
      have he := els_pop hxl (by simp only [Bt.els]; exact .refl _) (by simp only [Bt.ok] at hok; exact hok.1)
      exact ⟨95, .agg #[.pointer _], 263, .agg #[.pointer _], rfl, by kernel_rfl, fun _ => by kernel_rfl, (wf_min hs h).mono fun v' w' ⟨h1, h2⟩ => ⟨by rw [h1, he.1], h2⟩⟩
theorem hv_pop {w : World} {M : Mem} {k : Nat} {x : El} {l : List El} {v : Value} (hs : Sat M w) (h : HVal M k (x :: l) v) (hz : (x :: l).length < 1000000000) :
    ∃ (tid : TypeId) (u : Value) (f : FuncId) (r : Value), v = .iface tid u ∧ callable Tryz.prog f = true ∧ (∀ w, (method (Tryz.prog.types.size + Made.depth) tid u "slagheap/heap.pop").run Tryz.prog w = .ok (f, r) w) ∧
      Does Tryz.prog f #[r, .pointer none] w (fun v' w' => ∃ M', Step Nope M w M' w' ∧ HVal M' k l v') := by
  generalize hxl : x :: l = xl at h hz
  cases h with
  | z => cases hxl
  | @a t q _ h hok hl =>
    subst hl
    rw [srtE_length] at hz
    cases t with
    | nil => exact els_none hxl
    | node y tl tr =>
      have he := els_pop hxl (.refl _) hok.1
      exact ⟨69, .agg #[.pointer _], 93, .agg #[.pointer _], rfl, by kernel_rfl, fun _ => by kernel_rfl, (wa_pop hs h (by rw [← Lft.els_size]; omega)).mono fun v' w' ⟨q', M', h1, h2, h3⟩ => ⟨M', h2, by subst h1; exact .a h3 (Lft.meld_ok _ _ hok.2.1 hok.2.2) (by rw [he.2]; exact srtE_congr (Lft.meld_els tl tr).symm)⟩⟩
  | @b t q _ h hok hl =>
    subst hl
    rw [srtE_length] at hz
    have hne : t ≠ [] := by rintro rfl; exact els_none hxl
    obtain ⟨k, hk⟩ := least_is (lt := ltE) hne
    have hg := least_tree swoE hok.1 hk
    cases k with
    | node z bs ks =>
        have hnb := nobs_get hok.2 hk
        have hp := bpop_alls (k := .node z bs ks) hnb.1 hk
        have he := els_pop hxl hp (fun y hy => hg y (hp.mem_iff.2 (List.mem_cons_of_mem _ hy)))
        exact ⟨76, .agg #[.pointer _], 158, .agg #[.pointer _], rfl, by kernel_rfl, fun _ => by kernel_rfl, (wb_pop hs h hk (by rw [← RT.alls_length]; omega)).mono fun v' w' ⟨q', M', h1, h2, h3⟩ => ⟨M', h2, by subst h1; exact .b h3 (⟨bpop_oks swoE hok.1 hk, bpop_nobs hok.2 hk⟩) (he.2)⟩⟩
  | @c t q _ h hok hl =>
    subst hl
    rw [srtE_length] at hz
    cases t with
    | nil => exact els_none hxl
    | node y ks =>
      have hok' : AllGe y (Pr.elsL ks) ∧ Pr.okL ks := by simpa only [Pr.ok] using hok
      have he := els_pop hxl (by simp only [Pr.els]; exact .refl _) hok'.1
      exact ⟨81, .agg #[.pointer _], 179, .agg #[.pointer _], rfl, by kernel_rfl, fun _ => by kernel_rfl, (wc_pop hs h (by rw [← Pr.els_size]; omega)).mono fun v' w' ⟨q', M', h1, h2, h3⟩ => ⟨M', h2, by subst h1; exact .c h3 (Pr.pair_ok hok'.2) (by rw [he.2]; exact srtE_congr (Pr.pair_els ks).symm)⟩⟩
  | @d t q _ h hok hl =>
    subst hl
    rw [srtE_length] at hz
    have hne : t ≠ [] := by rintro rfl; exact els_none hxl
    obtain ⟨k, hk⟩ := least_is (lt := ltE) hne
    have hg := least_tree swoE hok hk
    cases k with
    | node z bs ks =>
        have hp := spop_alls hk
        have he := els_pop hxl hp (fun y hy => hg y (hp.mem_iff.2 (List.mem_cons_of_mem _ hy)))
        exact ⟨85, .agg #[.pointer _], 200, .agg #[.pointer _], rfl, by kernel_rfl, fun _ => by kernel_rfl, (wd_pop hs h hk (by rw [← RT.alls_length]; omega)).mono fun v' w' ⟨q', M', h1, h2, h3⟩ => ⟨M', h2, by subst h1; exact .d h3 (spop_oks swoE hok hk) (he.2)⟩⟩
  | @e t q _ h hok hl =>
    subst hl
    rw [srtE_length] at hz
    cases t with
    | nil => exact els_none hxl
    | node y ts =>
      have he := els_pop hxl (.refl _) hok.1
      by_cases hne : ts = []
      · subst hne
        exact ⟨90, .agg #[.pointer _], 213, .agg #[.pointer _], rfl, by kernel_rfl, fun _ => by kernel_rfl, (we_pop1 hs h).mono fun v' w' ⟨q', M', h1, h2, h3⟩ => ⟨M', h2, by subst h1; exact .e h3 (trivial) (he.2)⟩⟩
      · obtain ⟨k, hk⟩ := least_is (lt := ltE) hne
        cases k with
        | node z bs ks =>
          have hg := least_tree swoE hok.2 hk
          have hp := spop_alls hk
          exact ⟨90, .agg #[.pointer _], 213, .agg #[.pointer _], rfl, by kernel_rfl, fun _ => by kernel_rfl, (we_pop2 hs h hk (by simp only [Ro.els, List.length_cons, RT.alls_length] at hz; omega)).mono fun v' w' ⟨q', M', h1, h2, h3⟩ => ⟨M', h2, by subst h1; exact .e h3 (⟨fun w hw => hg w (hp.mem_iff.2 (List.mem_cons_of_mem _ hw)), spop_oks swoE hok.2 hk⟩) (by rw [he.2]; exact srtE_congr hp)⟩⟩
  | @f t q _ h hok hl =>
    subst hl
    rw [srtE_length] at hz
    cases t with
    | nil => exact els_none (by simpa only [Bt.els] using hxl)
    | node y ts =>
      have hok' : AllGe y (Bt.elsQ ts) ∧ RT.oks ltB ts ∧ Bt.okQ ts := by simpa only [Bt.ok] using hok
      have he := els_pop hxl (by simp only [Bt.els]; exact .refl _) hok'.1
      by_cases hne : ts = []
      · subst hne
        exact ⟨95, .agg #[.pointer _], 264, .agg #[.pointer _], rfl, by kernel_rfl, fun _ => by kernel_rfl, (wf_pop1 hs h).mono fun v' w' ⟨q', M', h1, h2, h3⟩ => ⟨M', h2, by subst h1; exact .f h3 (trivial) (by rw [he.2]; simp only [Bt.els, Bt.elsQ])⟩⟩
      · obtain ⟨k, hk⟩ := least_is (lt := ltB) hne
        have hqs := Bt.queue_els hok
        simp only [Bt.queue] at hqs
        cases k with
        | node z bs ks =>
          have hp := spop_alls hk
          have hzok := (Bt.okL_iff _).1 ((Bt.okQ_alls ts).2 hok'.2.2) z (hp.mem_iff.2 (List.mem_cons_self ..))
          cases z with
          | nil => exact absurd rfl hzok.1
          | node z us =>
            have hpo := Bt.popped_ok hok hk rfl
            have hpe := Bt.popped_els (x := y) hk rfl
            have hpz := Bt.queue_els hpo
            have hpl := hpe.length_eq
            simp only [List.length_cons] at hpl
            simp only [Bt.popped, Bt.queue, smeld_size] at hpz
            exact ⟨95, .agg #[.pointer _], 264, .agg #[.pointer _], rfl, by kernel_rfl, fun _ => by kernel_rfl, (wf_pop2 hs h hk (by omega) (by simp only [Bt.popped] at hpl; omega)).mono fun v' w' ⟨q', M', h1, h2, h3⟩ => ⟨M', h2, by subst h1; exact .f h3 (hpo) (by rw [he.2]; exact srtE_congr (List.Perm.cons_inv (by simpa only [Bt.els] using hpe)))⟩⟩
end Go.Proofs.YtgcgjpfjjgalmaaGreat
/- The calls of heap, part 1. -/
namespace Go.Proofs.YtgcgjpfjjgalmaaGreat
open Go Go.Eng
theorem HVal.iface {M : Mem} {k : Nat} {l : List El} {v : Value} (h : HVal M k l v) (hk : k ≠ 0) : ∃ d u, v = .iface d u := by
  cases h with
  | z => exact absurd rfl hk
  | a h hok hl => exact ⟨_, _, rfl⟩
  | b h hok hl => exact ⟨_, _, rfl⟩
  | c h hok hl => exact ⟨_, _, rfl⟩
  | d h hok hl => exact ⟨_, _, rfl⟩
  | e h hok hl => exact ⟨_, _, rfl⟩
  | f h hok hl => exact ⟨_, _, rfl⟩
theorem HVal.zero {M : Mem} {l : List El} {v : Value} (h : HVal M 0 l v) : l = [] ∧ v = .nilIface := by
  cases h; exact ⟨rfl, rfl⟩
def fullE (k : Nat) (l : List El) : Int := if k = 0 then 22 else if l = [] then 23 else 0
def insL (k : Nat) (l : List El) (x : El) : List El := if k = 0 then [] else putE l x
def insE (k : Nat) : Int := if k = 0 then 22 else 0
def popK (k : Nat) (l : List El) : Nat := if l = [] then 0 else k
def emK (z : Int) : Nat := if 1 ≤ z ∧ z ≤ 6 then z.toNat else 0
def emE (z : Int) : Int := if 1 ≤ z ∧ z ≤ 6 then 0 else 22
def ofL (z : Int) (l : List El) : List El := if 1 ≤ z ∧ z ≤ 6 then srtE l else []
theorem hp_kind_z {w : World} {M : Mem} (hs : Sat M w) :
    Does Tryz.prog 30 #[.agg #[.nilIface]] w (fun r w' => r = .int .i64 (0 : Nat) ∧ Step Nope M w M w') := by
  have hT := Step.refl Nope hs
  refine fn_enter Tryz.func30 rfl (rs := [.tmp 2]) rfl rfl rfl rfl ?_
  refine cw_rs fun _ κ => ?_
  refine as_h rfl (h_boxM hs rfl rfl fun b1 M1 w1 hs1 hb1 e1 => ?_)
  replace hT := hT.then hs1
  refine Sa rfl rfl ?_
  refine as_nil (κ _ _ ?_)
  refine cw_seq fun _ hK2 => ?_
  refine cw_rs fun _ κ => ?_
  refine Sf 0 rfl (by kernel_rfl) rfl ?_
  refine S1 rfl (by kernel_rfl) rfl (by exact BlkR.cell (hs1.sat _ _ _ hb1) rfl) ?_
  refine as_nil (κ _ _ ?_)
  refine cw_block ?_
  refine cw_rs fun _ κ => ?_
  refine as_q rfl rfl (q_isNil (r := .agg #[.pointer none]) (by kernel_rfl) (by kernel_rfl) rfl) ?_
  refine Se rfl rfl rfl ?_
  refine Se rfl rfl rfl ?_
  refine as_nil (κ _ _ ?_)
  refine cw_false rfl ?_
  refine cw_rs fun _ κ => ?_
  refine as_q rfl rfl (q_isNil (r := .agg #[.pointer none]) (by kernel_rfl) (by kernel_rfl) rfl) ?_
  refine Se rfl rfl rfl ?_
  refine Se rfl rfl rfl ?_
  refine as_nil (κ _ _ ?_)
  refine cw_false rfl ?_
  refine cw_rs fun _ κ => ?_
  refine as_q rfl rfl (q_isNil (r := .agg #[.pointer none]) (by kernel_rfl) (by kernel_rfl) rfl) ?_
  refine Se rfl rfl rfl ?_
  refine Se rfl rfl rfl ?_
  refine as_nil (κ _ _ ?_)
  refine cw_false rfl ?_
  refine cw_rs fun _ κ => ?_
  refine as_q rfl rfl (q_isNil (r := .agg #[.pointer none]) (by kernel_rfl) (by kernel_rfl) rfl) ?_
  refine Se rfl rfl rfl ?_
  refine Se rfl rfl rfl ?_
  refine as_nil (κ _ _ ?_)
  refine cw_false rfl ?_
  refine cw_rs fun _ κ => ?_
  refine as_q rfl rfl (q_isNil (r := .agg #[.pointer none]) (by kernel_rfl) (by kernel_rfl) rfl) ?_
  refine Se rfl rfl rfl ?_
  refine Se rfl rfl rfl ?_
  refine as_nil (κ _ _ ?_)
  refine cw_false rfl ?_
  refine cw_rs fun _ κ => ?_
  refine as_q rfl rfl (q_isNil (r := .agg #[.pointer none]) (by kernel_rfl) (by kernel_rfl) rfl) ?_
  refine Se rfl rfl rfl ?_
  refine Se rfl rfl rfl ?_
  refine as_nil (κ _ _ ?_)
  refine cw_false rfl ?_
  refine cw_skip ?_
  refine hK2 _ _ ?_
  refine cw_rs fun _ κ => ?_
  refine Sa rfl rfl ?_
  refine as_nil (κ _ _ ?_)
  refine cw_ret ?_
  exact ⟨_, (res_tmp rfl res_nil), rfl, hT.forget⟩
theorem hp_kind_a {w : World} {M : Mem} {q : Option Addr} (hs : Sat M w) :
    Does Tryz.prog 30 #[.agg #[.iface 69 (.agg #[.pointer q])]] w (fun r w' => r = .int .i64 (1 : Nat) ∧ Step Nope M w M w') := by
  have hT := Step.refl Nope hs
  refine fn_enter Tryz.func30 rfl (rs := [.tmp 2]) rfl rfl rfl rfl ?_
  refine cw_rs fun _ κ => ?_
  refine as_h rfl (h_boxM hs rfl rfl fun b1 M1 w1 hs1 hb1 e1 => ?_)
  replace hT := hT.then hs1
  refine Sa rfl rfl ?_
  refine as_nil (κ _ _ ?_)
  refine cw_seq fun _ hK2 => ?_
  refine cw_rs fun _ κ => ?_
  refine Sf 0 rfl (by kernel_rfl) rfl ?_
  refine S1 rfl (by kernel_rfl) rfl (by exact BlkR.cell (hs1.sat _ _ _ hb1) rfl) ?_
  refine as_nil (κ _ _ ?_)
  refine cw_block ?_
  refine cw_rs fun _ κ => ?_
  refine as_q rfl rfl (q_isT (by kernel_rfl) rfl) ?_
  refine Se rfl rfl rfl ?_
  refine Se rfl rfl rfl ?_
  refine as_nil (κ _ _ ?_)
  refine cw_true rfl ?_
  refine cw_rs fun _ κ => ?_
  refine Sa rfl rfl ?_
  refine as_nil (κ _ _ ?_)
  refine cw_ret ?_
  exact ⟨_, (res_tmp rfl res_nil), rfl, hT.forget⟩
theorem hp_kind_b {w : World} {M : Mem} {q : Option Addr} (hs : Sat M w) :
    Does Tryz.prog 30 #[.agg #[.iface 76 (.agg #[.pointer q])]] w (fun r w' => r = .int .i64 (2 : Nat) ∧ Step Nope M w M w') := by
  have hT := Step.refl Nope hs
  refine fn_enter Tryz.func30 rfl (rs := [.tmp 2]) rfl rfl rfl rfl ?_
  refine cw_rs fun _ κ => ?_
  refine as_h rfl (h_boxM hs rfl rfl fun b1 M1 w1 hs1 hb1 e1 => ?_)
  replace hT := hT.then hs1
  refine Sa rfl rfl ?_
  refine as_nil (κ _ _ ?_)
  refine cw_seq fun _ hK2 => ?_
  refine cw_rs fun _ κ => ?_
  refine Sf 0 rfl (by kernel_rfl) rfl ?_
  refine S1 rfl (by kernel_rfl) rfl (by exact BlkR.cell (hs1.sat _ _ _ hb1) rfl) ?_
  refine as_nil (κ _ _ ?_)
  refine cw_block ?_
  refine cw_rs fun _ κ => ?_
  refine as_q rfl rfl (q_isF (r := .agg #[.pointer none]) (by kernel_rfl) (by kernel_rfl) rfl rfl) ?_
  refine Se rfl rfl rfl ?_
  refine Se rfl rfl rfl ?_
  refine as_nil (κ _ _ ?_)
  refine cw_false rfl ?_
  refine cw_rs fun _ κ => ?_
  refine as_q rfl rfl (q_isT (by kernel_rfl) rfl) ?_
  refine Se rfl rfl rfl ?_
  refine Se rfl rfl rfl ?_
  refine as_nil (κ _ _ ?_)
  refine cw_true rfl ?_
  refine cw_rs fun _ κ => ?_
  refine Sa rfl rfl ?_
  refine as_nil (κ _ _ ?_)
  refine cw_ret ?_
  exact ⟨_, (res_tmp rfl res_nil), rfl, hT.forget⟩
theorem hp_kind_c {w : World} {M : Mem} {q : Option Addr} (hs : Sat M w) :
    Does Tryz.prog 30 #[.agg #[.iface 81 (.agg #[.pointer q])]] w (fun r w' => r = .int .i64 (3 : Nat) ∧ Step Nope M w M w') := by
  have hT := Step.refl Nope hs
  refine fn_enter Tryz.func30 rfl (rs := [.tmp 2]) rfl rfl rfl rfl ?_
  refine cw_rs fun _ κ => ?_
  refine as_h rfl (h_boxM hs rfl rfl fun b1 M1 w1 hs1 hb1 e1 => ?_)
  replace hT := hT.then hs1
  refine Sa rfl rfl ?_
  refine as_nil (κ _ _ ?_)
  refine cw_seq fun _ hK2 => ?_
  refine cw_rs fun _ κ => ?_
  refine Sf 0 rfl (by kernel_rfl) rfl ?_
  refine S1 rfl (by kernel_rfl) rfl (by exact BlkR.cell (hs1.sat _ _ _ hb1) rfl) ?_
  refine as_nil (κ _ _ ?_)
  refine cw_block ?_
  refine cw_rs fun _ κ => ?_
  refine as_q rfl rfl (q_isF (r := .agg #[.pointer none]) (by kernel_rfl) (by kernel_rfl) rfl rfl) ?_
  refine Se rfl rfl rfl ?_
  refine Se rfl rfl rfl ?_
  refine as_nil (κ _ _ ?_)
  refine cw_false rfl ?_
  refine cw_rs fun _ κ => ?_
  refine as_q rfl rfl (q_isF (r := .agg #[.pointer none]) (by kernel_rfl) (by kernel_rfl) rfl rfl) ?_
  refine Se rfl rfl rfl ?_
  refine Se rfl rfl rfl ?_
  refine as_nil (κ _ _ ?_)
  refine cw_false rfl ?_
  refine cw_rs fun _ κ => ?_
  refine as_q rfl rfl (q_isT (by kernel_rfl) rfl) ?_
  refine Se rfl rfl rfl ?_
  refine Se rfl rfl rfl ?_
  refine as_nil (κ _ _ ?_)
  refine cw_true rfl ?_
  refine cw_rs fun _ κ => ?_
  refine Sa rfl rfl ?_
  refine as_nil (κ _ _ ?_)
  refine cw_ret ?_
  exact ⟨_, (res_tmp rfl res_nil), rfl, hT.forget⟩
theorem hp_kind_d {w : World} {M : Mem} {q : Option Addr} (hs : Sat M w) :
    Does Tryz.prog 30 #[.agg #[.iface 85 (.agg #[.pointer q])]] w (fun r w' => r = .int .i64 (4 : Nat) ∧ Step Nope M w M w') := by
  have hT := Step.refl Nope hs
  refine fn_enter Tryz.func30 rfl (rs := [.tmp 2]) rfl rfl rfl rfl ?_
  refine cw_rs fun _ κ => ?_
  refine as_h rfl (h_boxM hs rfl rfl fun b1 M1 w1 hs1 hb1 e1 => ?_)
  replace hT := hT.then hs1
  refine Sa rfl rfl ?_
  refine as_nil (κ _ _ ?_)
  refine cw_seq fun _ hK2 => ?_
  refine cw_rs fun _ κ => ?_
  refine Sf 0 rfl (by kernel_rfl) rfl ?_
  refine S1 rfl (by kernel_rfl) rfl (by exact BlkR.cell (hs1.sat _ _ _ hb1) rfl) ?_
  refine as_nil (κ _ _ ?_)
  refine cw_block ?_
  refine cw_rs fun _ κ => ?_
  refine as_q rfl rfl (q_isF (r := .agg #[.pointer none]) (by kernel_rfl) (by kernel_rfl) rfl rfl) ?_
  refine Se rfl rfl rfl ?_
  refine Se rfl rfl rfl ?_
  refine as_nil (κ _ _ ?_)
  refine cw_false rfl ?_
  refine cw_rs fun _ κ => ?_
  refine as_q rfl rfl (q_isF (r := .agg #[.pointer none]) (by kernel_rfl) (by kernel_rfl) rfl rfl) ?_
  refine Se rfl rfl rfl ?_
  refine Se rfl rfl rfl ?_
  refine as_nil (κ _ _ ?_)
  refine cw_false rfl ?_
  refine cw_rs fun _ κ => ?_
  refine as_q rfl rfl (q_isF (r := .agg #[.pointer none]) (by kernel_rfl) (by kernel_rfl) rfl rfl) ?_
  refine Se rfl rfl rfl ?_
  refine Se rfl rfl rfl ?_
  refine as_nil (κ _ _ ?_)
  refine cw_false rfl ?_
  refine cw_rs fun _ κ => ?_
  refine as_q rfl rfl (q_isT (by kernel_rfl) rfl) ?_
  refine Se rfl rfl rfl ?_
  refine Se rfl rfl rfl ?_
  refine as_nil (κ _ _ ?_)
  refine cw_true rfl ?_
  refine cw_rs fun _ κ => ?_
  refine Sa rfl rfl ?_
  refine as_nil (κ _ _ ?_)
  refine cw_ret ?_
  exact ⟨_, (res_tmp rfl res_nil), rfl, hT.forget⟩
theorem hp_kind_e {w : World} {M : Mem} {q : Option Addr} (hs : Sat M w) :
    Does Tryz.prog 30 #[.agg #[.iface 90 (.agg #[.pointer q])]] w (fun r w' => r = .int .i64 (5 : Nat) ∧ Step Nope M w M w') := by
  have hT := Step.refl Nope hs
  refine fn_enter Tryz.func30 rfl (rs := [.tmp 2]) rfl rfl rfl rfl ?_
  refine cw_rs fun _ κ => ?_
  refine as_h rfl (h_boxM hs rfl rfl fun b1 M1 w1 hs1 hb1 e1 => ?_)
  replace hT := hT.then hs1
  refine Sa rfl rfl ?_
  refine as_nil (κ _ _ ?_)
  refine cw_seq fun _ hK2 => ?_
  refine cw_rs fun _ κ => ?_
  refine Sf 0 rfl (by kernel_rfl) rfl ?_
  refine S1 rfl (by kernel_rfl) rfl (by exact BlkR.cell (hs1.sat _ _ _ hb1) rfl) ?_
  refine as_nil (κ _ _ ?_)
  refine cw_block ?_
  refine cw_rs fun _ κ => ?_
  refine as_q rfl rfl (q_isF (r := .agg #[.pointer none]) (by kernel_rfl) (by kernel_rfl) rfl rfl) ?_
  refine Se rfl rfl rfl ?_
  refine Se rfl rfl rfl ?_
  refine as_nil (κ _ _ ?_)
  refine cw_false rfl ?_
  refine cw_rs fun _ κ => ?_
  refine as_q rfl rfl (q_isF (r := .agg #[.pointer none]) (by kernel_rfl) (by kernel_rfl) rfl rfl) ?_
  refine Se rfl rfl rfl ?_
  refine Se rfl rfl rfl ?_
  refine as_nil (κ _ _ ?_)
  refine cw_false rfl ?_
  refine cw_rs fun _ κ => ?_
  refine as_q rfl rfl (q_isF (r := .agg #[.pointer none]) (by kernel_rfl) (by kernel_rfl) rfl rfl) ?_
  refine Se rfl rfl rfl ?_
  refine Se rfl rfl rfl ?_
  refine as_nil (κ _ _ ?_)
  refine cw_false rfl ?_
  refine cw_rs fun _ κ => ?_
  refine as_q rfl rfl (q_isF (r := .agg #[.pointer none]) (by kernel_rfl) (by kernel_rfl) rfl rfl) ?_
  refine Se rfl rfl rfl ?_
  refine Se rfl rfl rfl ?_
  refine as_nil (κ _ _ ?_)
  refine cw_false rfl ?_
  refine cw_rs fun _ κ => ?_
  refine as_q rfl rfl (q_isT (by kernel_rfl) rfl) ?_
  refine Se rfl rfl rfl ?_
  refine Se rfl rfl rfl ?_
  refine as_nil (κ _ _ ?_)
  refine cw_true rfl ?_
  refine cw_rs fun _ κ => ?_
  refine Sa rfl rfl ?_
  refine as_nil (κ _ _ ?_)
  refine cw_ret ?_
  exact ⟨_, (res_tmp rfl res_nil), rfl, hT.forget⟩
theorem hp_kind_f {w : World} {M : Mem} {q : Option Addr} (hs : Sat M w) :
    Does Tryz.prog 30 #[.agg #[.iface 95 (.agg #[.pointer q])]] w (fun r w' => r = .int .i64 (6 : Nat) ∧ Step Nope M w M w') := by
  have hT := Step.refl Nope hs
  refine fn_enter Tryz.func30 rfl (rs := [.tmp 2]) rfl rfl rfl rfl ?_
  refine cw_rs fun _ κ => ?_
  refine as_h rfl (h_boxM hs rfl rfl fun b1 M1 w1 hs1 hb1 e1 => ?_)
  replace hT := hT.then hs1
  refine Sa rfl rfl ?_
  refine as_nil (κ _ _ ?_)
  refine cw_seq fun _ hK2 => ?_
  refine cw_rs fun _ κ => ?_
  refine Sf 0 rfl (by kernel_rfl) rfl ?_
  refine S1 rfl (by kernel_rfl) rfl (by exact BlkR.cell (hs1.sat _ _ _ hb1) rfl) ?_
  refine as_nil (κ _ _ ?_)
  refine cw_block ?_
  refine cw_rs fun _ κ => ?_
  refine as_q rfl rfl (q_isF (r := .agg #[.pointer none]) (by kernel_rfl) (by kernel_rfl) rfl rfl) ?_
  refine Se rfl rfl rfl ?_
  refine Se rfl rfl rfl ?_
  refine as_nil (κ _ _ ?_)
  refine cw_false rfl ?_
  refine cw_rs fun _ κ => ?_
  refine as_q rfl rfl (q_isF (r := .agg #[.pointer none]) (by kernel_rfl) (by kernel_rfl) rfl rfl) ?_
  refine Se rfl rfl rfl ?_
  refine Se rfl rfl rfl ?_
  refine as_nil (κ _ _ ?_)
  refine cw_false rfl ?_
  refine cw_rs fun _ κ => ?_
  refine as_q rfl rfl (q_isF (r := .agg #[.pointer none]) (by kernel_rfl) (by kernel_rfl) rfl rfl) ?_
  refine Se rfl rfl rfl ?_
  refine Se rfl rfl rfl ?_
  refine as_nil (κ _ _ ?_)
  refine cw_false rfl ?_
  refine cw_rs fun _ κ => ?_
  refine as_q rfl rfl (q_isF (r := .agg #[.pointer none]) (by kernel_rfl) (by kernel_rfl) rfl rfl) ?_
  refine Se rfl rfl rfl ?_
  refine Se rfl rfl rfl ?_
  refine as_nil (κ _ _ ?_)
  refine cw_false rfl ?_
  refine cw_rs fun _ κ => ?_
  refine as_q rfl rfl (q_isF (r := .agg #[.pointer none]) (by kernel_rfl) (by kernel_rfl) rfl rfl) ?_
  refine Se rfl rfl rfl ?_
  refine Se rfl rfl rfl ?_
  refine as_nil (κ _ _ ?_)
  refine cw_false rfl ?_
  refine cw_rs fun _ κ => ?_
  refine as_q rfl rfl (q_isT (by kernel_rfl) rfl) ?_
  refine Se rfl rfl rfl ?_
  refine Se rfl rfl rfl ?_
  refine as_nil (κ _ _ ?_)
  refine cw_true rfl ?_
  refine cw_rs fun _ κ => ?_
  refine Sa rfl rfl ?_
  refine as_nil (κ _ _ ?_)
  refine cw_ret ?_
  exact ⟨_, (res_tmp rfl res_nil), rfl, hT.forget⟩
theorem hp_kind {w : World} {M : Mem} {k : Nat} {l : List El} {v : Value} (hs : Sat M w) (h : HVal M k l v) : Does Tryz.prog 30 #[.agg #[v]] w (fun r w' => r = .int .i64 (k : Nat) ∧ Step Nope M w M w') := by
  cases h with
  | z => exact hp_kind_z hs
  | a h hok hl => exact hp_kind_a hs
  | b h hok hl => exact hp_kind_b hs
  | c h hok hl => exact hp_kind_c hs
  | d h hok hl => exact hp_kind_d hs
  | e h hok hl => exact hp_kind_e hs
  | f h hok hl => exact hp_kind_f hs
theorem hp_size_0 {w : World} {M : Mem} (hs : Sat M w) :
    Does Tryz.prog 21 #[.agg #[.nilIface]] w (fun r w' => r = .int .i64 ((0 : Nat) : Int) ∧ Step Nope M w M w') := by
  have hT := Step.refl Nope hs
  refine fn_enter Tryz.func21 rfl (rs := [.tmp 2]) rfl rfl rfl rfl ?_
  refine cw_rs fun _ κ => ?_
  refine as_h rfl (h_boxM hs rfl rfl fun b1 M1 w1 hs1 hb1 e1 => ?_)
  replace hT := hT.then hs1
  refine Sa rfl rfl ?_
  refine as_nil (κ _ _ ?_)
  refine cw_seq fun _ hK2 => ?_
  refine cw_rs fun _ κ => ?_
  refine Sf 0 rfl (by kernel_rfl) rfl ?_
  refine S1 rfl (by kernel_rfl) rfl (by exact BlkR.cell (hs1.sat _ _ _ hb1) rfl) ?_
  refine as_q rfl rfl (q_ifNil (by kernel_rfl) rfl) ?_
  refine as_nil (κ _ _ ?_)
  refine cw_true rfl ?_
  refine cw_rs fun _ κ => ?_
  refine Sa rfl rfl ?_
  refine as_nil (κ _ _ ?_)
  refine cw_ret ?_
  exact ⟨_, (res_tmp rfl res_nil), rfl, hT.forget⟩
theorem hp_size_1 {w : World} {M : Mem} {k : Nat} {l : List El} {v : Value} (hs : Sat M w) (h : HVal M k l v) (hk : k ≠ 0) (hz : l.length < 1000000000) :
    Does Tryz.prog 21 #[.agg #[v]] w (fun r w' => r = .int .i64 (l.length : Nat) ∧ Step Nope M w M w') := by
  have hT := Step.refl Nope hs
  obtain ⟨d, u, rfl⟩ := h.iface hk
  refine fn_enter Tryz.func21 rfl (rs := [.tmp 2]) rfl rfl rfl rfl ?_
  refine cw_rs fun _ κ => ?_
  refine as_h rfl (h_boxM hs rfl rfl fun b1 M1 w1 hs1 hb1 e1 => ?_)
  replace h := h.mono hs1.le
  replace hT := hT.then hs1
  refine Sa rfl rfl ?_
  refine as_nil (κ _ _ ?_)
  refine cw_seq fun _ hK2 => ?_
  refine cw_rs fun _ κ => ?_
  refine Sf 0 rfl (by kernel_rfl) rfl ?_
  refine S1 rfl (by kernel_rfl) rfl (by exact BlkR.cell (hs1.sat _ _ _ hb1) rfl) ?_
  refine as_q rfl rfl (q_ifSome (by kernel_rfl) rfl) ?_
  refine as_nil (κ _ _ ?_)
  refine cw_false rfl ?_
  refine cw_skip ?_
  refine hK2 _ _ ?_
  refine cw_rs fun _ κ => ?_
  refine Sf 0 rfl (by kernel_rfl) rfl ?_
  refine S1 rfl (by kernel_rfl) rfl (by exact BlkR.cell (hs1.sat _ _ _ hb1) rfl) ?_
  obtain ⟨d0, u0, f0, r0, hv0, hc0_, hm0, hd0⟩ := hv_size hs1.sat h hk hz
  cases hv0
  refine as_h rfl (h_invokeP hc0_ rfl rfl (hm0 _) ?_)
  refine hd0.mono ?_
  rintro _ w2 ⟨rfl, hs2⟩
  replace h := h.mono hs2.le
  replace hT := hT.then hs2
  refine Sa rfl rfl ?_
  refine as_nil (κ _ _ ?_)
  refine cw_ret ?_
  exact ⟨_, (res_tmp rfl res_nil), rfl, hT.forget⟩
theorem hp_size {w : World} {M : Mem} {k : Nat} {l : List El} {v : Value} (hs : Sat M w) (h : HVal M k l v) (hz : l.length < 1000000000) : Does Tryz.prog 21 #[.agg #[v]] w (fun r w' => r = .int .i64 (l.length : Nat) ∧ Step Nope M w M w') := by
  by_cases hk : k = 0
  · subst hk; obtain ⟨rfl, rfl⟩ := h.zero; exact hp_size_0 hs
  · exact hp_size_1 hs h hk hz
theorem hp_full_0 {w : World} {M : Mem} (hs : Sat M w) :
    Does Tryz.prog 40 #[.agg #[.nilIface]] w (fun r w' => r = .int .i64 22 ∧ Step Nope M w M w') := by
  have hT := Step.refl Nope hs
  refine fn_enter Tryz.func40 rfl (rs := [.tmp 2]) rfl rfl rfl rfl ?_
  refine cw_rs fun _ κ => ?_
  refine as_h rfl (h_boxM hs rfl rfl fun b1 M1 w1 hs1 hb1 e1 => ?_)
  replace hT := hT.then hs1
  refine Sa rfl rfl ?_
  refine as_nil (κ _ _ ?_)
  refine cw_seq fun _ hK2 => ?_
  refine cw_block ?_
  refine cw_rs fun _ κ => ?_
  refine Sf 0 rfl (by kernel_rfl) rfl ?_
  refine S1 rfl (by kernel_rfl) rfl (by exact BlkR.cell (hs1.sat _ _ _ hb1) rfl) ?_
  refine as_q rfl rfl (q_ifNil (by kernel_rfl) rfl) ?_
  refine Sa rfl rfl ?_
  refine as_nil (κ _ _ ?_)
  refine cw_true rfl ?_
  refine cw_rs fun _ κ => ?_
  refine Sa rfl rfl ?_
  refine as_nil (κ _ _ ?_)
  refine cw_ret ?_
  exact ⟨_, (res_tmp rfl res_nil), rfl, hT.forget⟩
theorem hp_full_1 {w : World} {M : Mem} {k : Nat} {v : Value} (hs : Sat M w) (h : HVal M k [] v) (hk : k ≠ 0) :
    Does Tryz.prog 40 #[.agg #[v]] w (fun r w' => r = .int .i64 23 ∧ Step Nope M w M w') := by
  have hT := Step.refl Nope hs
  obtain ⟨d, u, rfl⟩ := h.iface hk
  refine fn_enter Tryz.func40 rfl (rs := [.tmp 2]) rfl rfl rfl rfl ?_
  refine cw_rs fun _ κ => ?_
  refine as_h rfl (h_boxM hs rfl rfl fun b1 M1 w1 hs1 hb1 e1 => ?_)
  replace h := h.mono hs1.le
  replace hT := hT.then hs1
  refine Sa rfl rfl ?_
  refine as_nil (κ _ _ ?_)
  refine cw_seq fun _ hK2 => ?_
  refine cw_block ?_
  refine cw_rs fun _ κ => ?_
  refine Sf 0 rfl (by kernel_rfl) rfl ?_
  refine S1 rfl (by kernel_rfl) rfl (by exact BlkR.cell (hs1.sat _ _ _ hb1) rfl) ?_
  refine as_q rfl rfl (q_ifSome (by kernel_rfl) rfl) ?_
  refine Sa rfl rfl ?_
  refine as_nil (κ _ _ ?_)
  refine cw_false rfl ?_
  refine cw_rs fun _ κ => ?_
  refine Sc 1 rfl (by kernel_rfl) rfl (by exact BlkR.cells (hs1.sat _ _ _ hb1) rfl) ?_
  refine as_h rfl (h_call (by kernel_rfl) rfl ?_)
  refine (hp_size hs1.sat h (by decide)).mono ?_
  rintro _ w2 ⟨rfl, hs2⟩
  replace h := h.mono hs2.le
  replace hT := hT.then hs2
  refine as_q rfl rfl (q_eqT rfl rfl (by simp)) ?_
  refine Sa rfl rfl ?_
  refine as_nil (κ _ _ ?_)
  refine cw_true rfl ?_
  refine cw_rs fun _ κ => ?_
  refine Sa rfl rfl ?_
  refine as_nil (κ _ _ ?_)
  refine cw_ret ?_
  exact ⟨_, (res_tmp rfl res_nil), rfl, hT.forget⟩
theorem hp_full_2 {w : World} {M : Mem} {k : Nat} {x : El} {l : List El} {v : Value} (hs : Sat M w) (h : HVal M k (x :: l) v) (hk : k ≠ 0) (hz : (x :: l).length < 1000000000) :
    Does Tryz.prog 40 #[.agg #[v]] w (fun r w' => r = .int .i64 0 ∧ Step Nope M w M w') := by
  have hT := Step.refl Nope hs
  obtain ⟨d, u, rfl⟩ := h.iface hk
  refine fn_enter Tryz.func40 rfl (rs := [.tmp 2]) rfl rfl rfl rfl ?_
  refine cw_rs fun _ κ => ?_
  refine as_h rfl (h_boxM hs rfl rfl fun b1 M1 w1 hs1 hb1 e1 => ?_)
  replace h := h.mono hs1.le
  replace hT := hT.then hs1
  refine Sa rfl rfl ?_
  refine as_nil (κ _ _ ?_)
  refine cw_seq fun _ hK2 => ?_
  refine cw_block ?_
  refine cw_rs fun _ κ => ?_
  refine Sf 0 rfl (by kernel_rfl) rfl ?_
  refine S1 rfl (by kernel_rfl) rfl (by exact BlkR.cell (hs1.sat _ _ _ hb1) rfl) ?_
  refine as_q rfl rfl (q_ifSome (by kernel_rfl) rfl) ?_
  refine Sa rfl rfl ?_
  refine as_nil (κ _ _ ?_)
  refine cw_false rfl ?_
  refine cw_rs fun _ κ => ?_
  refine Sc 1 rfl (by kernel_rfl) rfl (by exact BlkR.cells (hs1.sat _ _ _ hb1) rfl) ?_
  refine as_h rfl (h_call (by kernel_rfl) rfl ?_)
  refine (hp_size hs1.sat h (by exact hz)).mono ?_
  rintro _ w2 ⟨rfl, hs2⟩
  replace h := h.mono hs2.le
  replace hT := hT.then hs2
  refine as_q rfl rfl (q_eqF rfl rfl (by simp only [List.length_cons]; omega)) ?_
  refine Sa rfl rfl ?_
  refine as_nil (κ _ _ ?_)
  refine cw_false rfl ?_
  refine cw_skip ?_
  refine hK2 _ _ ?_
  refine cw_rs fun _ κ => ?_
  refine Sa rfl rfl ?_
  refine as_nil (κ _ _ ?_)
  refine cw_ret ?_
  exact ⟨_, (res_tmp rfl res_nil), rfl, hT.forget⟩
theorem hp_full {w : World} {M : Mem} {k : Nat} {l : List El} {v : Value} (hs : Sat M w) (h : HVal M k l v) (hz : l.length < 1000000000) : Does Tryz.prog 40 #[.agg #[v]] w (fun r w' => r = .int .i64 (fullE k l) ∧ Step Nope M w M w') := by
  by_cases hk : k = 0
  · subst hk; obtain ⟨rfl, rfl⟩ := h.zero; exact hp_full_0 hs
  · unfold fullE
    rw [if_neg hk]
    cases l with
    | nil => exact hp_full_1 hs h hk
    | cons x l => exact hp_full_2 hs h hk hz
end Go.Proofs.YtgcgjpfjjgalmaaGreat
/- The calls of heap, part 2. -/
namespace Go.Proofs.YtgcgjpfjjgalmaaGreat
open Go Go.Eng
theorem hp_min_0 {w : World} {M : Mem} {k : Nat} {v : Value} (hs : Sat M w) (h : HVal M k [] v) :
    Does Tryz.prog 28 #[.agg #[v], .pointer none] w (fun r w' => r = .tuple #[.agg (elc (0, 0)).toArray, .int .i64 (fullE k [])] ∧ Step Nope M w M w') := by
  have hT := Step.refl Nope hs
  have hfe : fullE k [] = 22 ∨ fullE k [] = 23 := by unfold fullE; split <;> simp
  refine fn_enter Tryz.func28 rfl (rs := [.cell 4 24, .tmp 5]) rfl rfl rfl rfl ?_
  refine cw_rs fun _ κ => ?_
  refine as_h rfl (h_boxM hs rfl rfl fun b1 M1 w1 hs1 hb1 e1 => ?_)
  replace h := h.mono hs1.le
  replace hT := hT.then hs1
  have hz1 := hs1.size
  have hqar := hT.size
  refine as_h rfl (h_allocO (z := (.agg #[(.int .i64 0), (.int .i64 0)])) hs1.sat (by kernel_rfl) rfl fun br w2 hs2 hor er => ?_)
  replace h := h.mono hs2.le
  replace hb1 := hs2.le _ _ hb1
  replace hT := hT.then hs2
  have hz2 := hs2.size
  have hlr := hor.1.lt
  refine Sa rfl rfl ?_
  refine as_nil (κ _ _ ?_)
  refine cw_seq fun _ hK2 => ?_
  refine cw_rs fun _ κ => ?_
  refine Sc 1 rfl (by kernel_rfl) rfl (by exact BlkR.cells (hs2.sat _ _ _ hb1) rfl) ?_
  refine as_h rfl (h_call (by kernel_rfl) rfl ?_)
  refine (hp_full hs2.sat h (by decide)).mono ?_
  rintro _ w3 ⟨rfl, hs3⟩
  replace h := h.mono hs3.le
  replace hor := hor.then hs3
  replace hT := hT.then hs3
  have hz3 := hs3.size
  refine Sa rfl rfl ?_
  refine as_nil (κ _ _ ?_)
  refine cw_rs fun _ κ => ?_
  refine Sm rfl rfl ?_
  refine as_q rfl rfl (q_neT rfl rfl (by omega)) ?_
  refine as_nil (κ _ _ ?_)
  refine cw_true rfl ?_
  refine cw_rs fun _ κ => ?_
  refine as_q rfl rfl (q_build (zs := [(.int .i64 0), (.int .i64 0)]) (places := [(0, 1), (1, 1)]) (cs := [_, _]) (by kernel_rfl) (by kernel_rfl) rfl rfl) ?_
  refine Sm rfl rfl ?_
  refine as_h0 (h_store hs3.sat hor rfl rfl rfl (by kernel_rfl) rfl rfl rfl fun w4 hs4 hn4 => ?_)
  replace h := h.mono hs4.le
  clear hor; have hor := hn4; clear hn4
  replace hT := hT.own hs4 (by omega)
  have hz4 := hs4.size
  refine Sa rfl rfl ?_
  refine as_nil (κ _ _ ?_)
  refine cw_ret ?_
  exact ⟨_, (res_cell rfl (loadVar_n (n := 2) (by kernel_rfl) (by exact Blk.cells hor.1 rfl)) (res_tmp rfl res_nil)), rfl, hT.forget⟩
theorem hp_min_1 {w : World} {M : Mem} {k : Nat} {x : El} {l : List El} {v : Value} (hs : Sat M w) (h : HVal M k (x :: l) v) (hk : k ≠ 0) (hz : (x :: l).length < 1000000000) :
    Does Tryz.prog 28 #[.agg #[v], .pointer none] w (fun r w' => r = .tuple #[.agg (elc x).toArray, .int .i64 (fullE k (x :: l))] ∧ Step Nope M w M w') := by
  have hT := Step.refl Nope hs
  have hfe : fullE k (x :: l) = 0 := by unfold fullE; rw [if_neg hk, if_neg (by simp)]
  obtain ⟨d, u, rfl⟩ := h.iface hk
  refine fn_enter Tryz.func28 rfl (rs := [.cell 4 24, .tmp 5]) rfl rfl rfl rfl ?_
  refine cw_rs fun _ κ => ?_
  refine as_h rfl (h_boxM hs rfl rfl fun b1 M1 w1 hs1 hb1 e1 => ?_)
  replace h := h.mono hs1.le
  replace hT := hT.then hs1
  have hz1 := hs1.size
  have hqar := hT.size
  refine as_h rfl (h_allocO (z := (.agg #[(.int .i64 0), (.int .i64 0)])) hs1.sat (by kernel_rfl) rfl fun br w2 hs2 hor er => ?_)
  replace h := h.mono hs2.le
  replace hb1 := hs2.le _ _ hb1
  replace hT := hT.then hs2
  have hz2 := hs2.size
  have hlr := hor.1.lt
  refine Sa rfl rfl ?_
  refine as_nil (κ _ _ ?_)
  refine cw_seq fun _ hK2 => ?_
  refine cw_rs fun _ κ => ?_
  refine Sc 1 rfl (by kernel_rfl) rfl (by exact BlkR.cells (hs2.sat _ _ _ hb1) rfl) ?_
  refine as_h rfl (h_call (by kernel_rfl) rfl ?_)
  refine (hp_full hs2.sat h hz).mono ?_
  rintro _ w3 ⟨rfl, hs3⟩
  replace h := h.mono hs3.le
  replace hb1 := hs3.le _ _ hb1
  replace hor := hor.then hs3
  replace hT := hT.then hs3
  have hz3 := hs3.size
  refine Sa rfl rfl ?_
  refine as_nil (κ _ _ ?_)
  refine cw_rs fun _ κ => ?_
  refine Sm rfl rfl ?_
  refine as_q rfl rfl (q_neF rfl rfl (by omega)) ?_
  refine as_nil (κ _ _ ?_)
  refine cw_false rfl ?_
  refine cw_skip ?_
  refine hK2 _ _ ?_
  refine cw_rs fun _ κ => ?_
  refine Sf 0 rfl (by kernel_rfl) rfl ?_
  refine S1 rfl (by kernel_rfl) rfl (by exact BlkR.cell (hs3.sat _ _ _ hb1) rfl) ?_
  refine Sm rfl rfl ?_
  obtain ⟨d0, u0, f0, r0, hv0, hc0_, hm0, hd0⟩ := hv_min hs3.sat h hz
  cases hv0
  refine as_h rfl (h_invokeP hc0_ rfl rfl (hm0 _) ?_)
  refine hd0.mono ?_
  rintro _ w4 ⟨rfl, hs4⟩
  replace h := h.mono hs4.le
  replace hor := hor.then hs4
  replace hT := hT.then hs4
  have hz4 := hs4.size
  refine Sm rfl rfl ?_
  refine Se rfl rfl rfl ?_
  refine Se rfl rfl rfl ?_
  have hqax := hT.size
  refine as_h rfl (h_allocO (z := (.agg #[(.int .i64 0), (.int .i64 0)])) hs4.sat (by kernel_rfl) rfl fun bx w5 hs5 hox ex => ?_)
  replace h := h.mono hs5.le
  replace hor := hor.then hs5
  replace hT := hT.then hs5
  have hz5 := hs5.size
  have hlx := hox.1.lt
  refine as_h0 (h_store hs5.sat hox rfl rfl rfl (by kernel_rfl) rfl rfl rfl fun w6 hs6 hn6 => ?_)
  replace h := h.mono hs6.le
  replace hor := hor.step hs6 (fun h => by have h : _ = _ := h; omega)
  clear hox; have hox := hn6; clear hn6
  replace hT := hT.own hs6 (by omega)
  have hz6 := hs6.size
  refine Sa rfl rfl ?_
  refine as_nil (κ _ _ ?_)
  refine cw_rs fun _ κ => ?_
  refine Sc 2 rfl (by kernel_rfl) rfl (by exact Blk.cells hox.1 rfl) ?_
  refine as_h0 (h_store hs6.sat hor rfl rfl rfl (by kernel_rfl) rfl rfl rfl fun w7 hs7 hn7 => ?_)
  replace h := h.mono hs7.le
  clear hor; have hor := hn7; clear hn7
  replace hT := hT.own hs7 (by omega)
  have hz7 := hs7.size
  refine Sa rfl rfl ?_
  refine as_nil (κ _ _ ?_)
  refine cw_ret ?_
  rw [hfe]
  exact ⟨_, (res_cell rfl (loadVar_n (n := 2) (by kernel_rfl) (by exact Blk.cells hor.1 rfl)) (res_tmp rfl res_nil)), rfl, hT.forget⟩
theorem hp_min {w : World} {M : Mem} {k : Nat} {l : List El} {v : Value} (hs : Sat M w) (h : HVal M k l v) (hz : l.length < 1000000000) : Does Tryz.prog 28 #[.agg #[v], .pointer none] w (fun r w' => r = .tuple #[.agg (elc (l.headD (0, 0))).toArray, .int .i64 (fullE k l)] ∧ Step Nope M w M w') := by
  cases l with
  | nil => exact hp_min_0 hs h
  | cons x l => exact hp_min_1 hs h (by rintro rfl; cases h.zero.1) hz
theorem hp_pop_0 {w : World} {M : Mem} {k : Nat} {v : Value} (hs : Sat M w) (h : HVal M k [] v) :
    Does Tryz.prog 27 #[.agg #[v], .pointer none] w (fun r w' => ∃ v' M', r = .tuple #[.agg #[v'], .int .i64 (fullE k [])] ∧ Step Nope M w M' w' ∧ HVal M' 0 [] v') := by
  have hT := Step.refl Nope hs
  have hfe : fullE k [] = 22 ∨ fullE k [] = 23 := by unfold fullE; split <;> simp
  refine fn_enter Tryz.func27 rfl (rs := [.cell 4 29, .tmp 5]) rfl rfl rfl rfl ?_
  refine cw_rs fun _ κ => ?_
  refine as_h rfl (h_boxM hs rfl rfl fun b1 M1 w1 hs1 hb1 e1 => ?_)
  replace h := h.mono hs1.le
  replace hT := hT.then hs1
  have hz1 := hs1.size
  have hqar := hT.size
  refine as_h rfl (h_allocO (z := (.agg #[.nilIface])) hs1.sat (by kernel_rfl) rfl fun br w2 hs2 hor er => ?_)
  replace h := h.mono hs2.le
  replace hb1 := hs2.le _ _ hb1
  replace hT := hT.then hs2
  have hz2 := hs2.size
  have hlr := hor.1.lt
  refine Sa rfl rfl ?_
  refine as_nil (κ _ _ ?_)
  refine cw_seq fun _ hK2 => ?_
  refine cw_rs fun _ κ => ?_
  refine Sc 1 rfl (by kernel_rfl) rfl (by exact BlkR.cells (hs2.sat _ _ _ hb1) rfl) ?_
  refine as_h rfl (h_call (by kernel_rfl) rfl ?_)
  refine (hp_full hs2.sat h (by decide)).mono ?_
  rintro _ w3 ⟨rfl, hs3⟩
  replace h := h.mono hs3.le
  replace hor := hor.then hs3
  replace hT := hT.then hs3
  have hz3 := hs3.size
  refine Sa rfl rfl ?_
  refine as_nil (κ _ _ ?_)
  refine cw_rs fun _ κ => ?_
  refine Sm rfl rfl ?_
  refine as_q rfl rfl (q_neT rfl rfl (by omega)) ?_
  refine as_nil (κ _ _ ?_)
  refine cw_true rfl ?_
  refine cw_rs fun _ κ => ?_
  refine as_q rfl rfl (q_build (zs := [.nilIface]) (places := [(0, 1)]) (cs := [_]) (by kernel_rfl) (by kernel_rfl) rfl rfl) ?_
  refine Sm rfl rfl ?_
  refine as_h0 (h_store hs3.sat hor rfl rfl rfl (by kernel_rfl) rfl rfl rfl fun w4 hs4 hn4 => ?_)
  replace h := h.mono hs4.le
  clear hor; have hor := hn4; clear hn4
  replace hT := hT.own hs4 (by omega)
  have hz4 := hs4.size
  refine Sa rfl rfl ?_
  refine as_nil (κ _ _ ?_)
  refine cw_ret ?_
  exact ⟨_, (res_cell rfl (loadVar_n (n := 1) (by kernel_rfl) (by exact Blk.cells hor.1 rfl)) (res_tmp rfl res_nil)), _, _, rfl, hT, .z⟩
theorem hp_pop_1 {w : World} {M : Mem} {k : Nat} {x : El} {l : List El} {v : Value} (hs : Sat M w) (h : HVal M k (x :: l) v) (hk : k ≠ 0) (hz : (x :: l).length < 1000000000) :
    Does Tryz.prog 27 #[.agg #[v], .pointer none] w (fun r w' => ∃ v' M', r = .tuple #[.agg #[v'], .int .i64 (fullE k (x :: l))] ∧ Step Nope M w M' w' ∧ HVal M' k l v') := by
  have hT := Step.refl Nope hs
  have hfe : fullE k (x :: l) = 0 := by unfold fullE; rw [if_neg hk, if_neg (by simp)]
  obtain ⟨d, u, rfl⟩ := h.iface hk
  refine fn_enter Tryz.func27 rfl (rs := [.cell 4 29, .tmp 5]) rfl rfl rfl rfl ?_
  refine cw_rs fun _ κ => ?_
  refine as_h rfl (h_boxM hs rfl rfl fun b1 M1 w1 hs1 hb1 e1 => ?_)
  replace h := h.mono hs1.le
  replace hT := hT.then hs1
  have hz1 := hs1.size
  have hqar := hT.size
  refine as_h rfl (h_allocO (z := (.agg #[.nilIface])) hs1.sat (by kernel_rfl) rfl fun br w2 hs2 hor er => ?_)
  replace h := h.mono hs2.le
  replace hb1 := hs2.le _ _ hb1
  replace hT := hT.then hs2
  have hz2 := hs2.size
  have hlr := hor.1.lt
  refine Sa rfl rfl ?_
  refine as_nil (κ _ _ ?_)
  refine cw_seq fun _ hK2 => ?_
  refine cw_rs fun _ κ => ?_
  refine Sc 1 rfl (by kernel_rfl) rfl (by exact BlkR.cells (hs2.sat _ _ _ hb1) rfl) ?_
  refine as_h rfl (h_call (by kernel_rfl) rfl ?_)
  refine (hp_full hs2.sat h hz).mono ?_
  rintro _ w3 ⟨rfl, hs3⟩
  replace h := h.mono hs3.le
  replace hb1 := hs3.le _ _ hb1
  replace hor := hor.then hs3
  replace hT := hT.then hs3
  have hz3 := hs3.size
  refine Sa rfl rfl ?_
  refine as_nil (κ _ _ ?_)
  refine cw_rs fun _ κ => ?_
  refine Sm rfl rfl ?_
  refine as_q rfl rfl (q_neF rfl rfl (by omega)) ?_
  refine as_nil (κ _ _ ?_)
  refine cw_false rfl ?_
  refine cw_skip ?_
  refine hK2 _ _ ?_
  refine cw_rs fun _ κ => ?_
  refine Sf 0 rfl (by kernel_rfl) rfl ?_
  refine S1 rfl (by kernel_rfl) rfl (by exact BlkR.cell (hs3.sat _ _ _ hb1) rfl) ?_
  refine Sm rfl rfl ?_
  obtain ⟨d0, u0, f0, r0, hv0, hc0_, hm0, hd0⟩ := hv_pop hs3.sat h hz
  cases hv0
  refine as_h rfl (h_invokeP hc0_ rfl rfl (hm0 _) ?_)
  refine hd0.mono ?_
  rintro v1 w4 ⟨Mn, hs4, hn⟩
  replace h := h.mono hs4.le
  replace hor := hor.then hs4
  replace hT := hT.then hs4
  have hz4 := hs4.size
  obtain ⟨d9, u9, rfl⟩ := hn.iface hk
  refine as_q rfl rfl (q_build (zs := [.nilIface]) (places := [(0, 1)]) (cs := [_]) (by kernel_rfl) (by kernel_rfl) rfl rfl) ?_
  refine as_h0 (h_store hs4.sat hor rfl rfl rfl (by kernel_rfl) rfl rfl rfl fun w5 hs5 hn5 => ?_)
  replace h := h.mono hs5.le
  replace hn := hn.mono hs5.le
  clear hor; have hor := hn5; clear hn5
  replace hT := hT.own hs5 (by omega)
  have hz5 := hs5.size
  refine Sa rfl rfl ?_
  refine as_nil (κ _ _ ?_)
  refine cw_ret ?_
  rw [hfe]
  exact ⟨_, (res_cell rfl (loadVar_n (n := 1) (by kernel_rfl) (by exact Blk.cells hor.1 rfl)) (res_tmp rfl res_nil)), _, _, rfl, hT, hn⟩
theorem hp_pop {w : World} {M : Mem} {k : Nat} {l : List El} {v : Value} (hs : Sat M w) (h : HVal M k l v) (hz : l.length < 1000000000) : Does Tryz.prog 27 #[.agg #[v], .pointer none] w (fun r w' => ∃ v' M', r = .tuple #[.agg #[v'], .int .i64 (fullE k l)] ∧ Step Nope M w M' w' ∧ HVal M' (popK k l) l.tail v') := by
  cases l with
  | nil => exact hp_pop_0 hs h
  | cons x l => exact hp_pop_1 hs h (by rintro rfl; cases h.zero.1) hz
theorem hp_insert_0 {w : World} {M : Mem} {x : El} (hs : Sat M w) :
    Does Tryz.prog 14 #[.agg #[.nilIface], .pointer none, .agg (elc x).toArray] w (fun r w' => ∃ v' M', r = .tuple #[.agg #[v'], .int .i64 22] ∧ Step Nope M w M' w' ∧ HVal M' 0 [] v') := by
  have hT := Step.refl Nope hs
  refine fn_enter Tryz.func14 rfl (rs := [.cell 6 29, .tmp 7]) rfl rfl rfl rfl ?_
  refine cw_rs fun _ κ => ?_
  refine as_h rfl (h_boxM hs rfl rfl fun b1 M1 w1 hs1 hb1 e1 => ?_)
  replace hT := hT.then hs1
  have hz1 := hs1.size
  refine as_h rfl (h_boxM hs1.sat rfl rfl fun b2 M2 w2 hs2 hb2 e2 => ?_)
  replace hb1 := hs2.le _ _ hb1
  replace hT := hT.then hs2
  have hz2 := hs2.size
  have hqar := hT.size
  refine as_h rfl (h_allocO (z := (.agg #[.nilIface])) hs2.sat (by kernel_rfl) rfl fun br w3 hs3 hor er => ?_)
  replace hb1 := hs3.le _ _ hb1
  replace hT := hT.then hs3
  have hz3 := hs3.size
  have hlr := hor.1.lt
  refine Sa rfl rfl ?_
  refine as_nil (κ _ _ ?_)
  refine cw_seq fun _ hK2 => ?_
  refine cw_rs fun _ κ => ?_
  refine Sf 0 rfl (by kernel_rfl) rfl ?_
  refine S1 rfl (by kernel_rfl) rfl (by exact BlkR.cell (hs3.sat _ _ _ hb1) rfl) ?_
  refine as_q rfl rfl (q_ifNil (by kernel_rfl) rfl) ?_
  refine as_nil (κ _ _ ?_)
  refine cw_true rfl ?_
  refine cw_rs fun _ κ => ?_
  refine Sc 1 rfl (by kernel_rfl) rfl (by exact BlkR.cells (hs3.sat _ _ _ hb1) rfl) ?_
  refine as_h0 (h_store hs3.sat hor rfl rfl rfl (by kernel_rfl) rfl rfl rfl fun w4 hs4 hn4 => ?_)
  clear hor; have hor := hn4; clear hn4
  replace hT := hT.own hs4 (by omega)
  have hz4 := hs4.size
  refine Sa rfl rfl ?_
  refine as_nil (κ _ _ ?_)
  refine cw_ret ?_
  exact ⟨_, (res_cell rfl (loadVar_n (n := 1) (by kernel_rfl) (by exact Blk.cells hor.1 rfl)) (res_tmp rfl res_nil)), _, _, rfl, hT, .z⟩
theorem hp_insert_1 {w : World} {M : Mem} {k : Nat} {x : El} {l : List El} {v : Value} (hs : Sat M w) (h : HVal M k l v) (hk : k ≠ 0) (hz : l.length < 1000000000) :
    Does Tryz.prog 14 #[.agg #[v], .pointer none, .agg (elc x).toArray] w (fun r w' => ∃ v' M', r = .tuple #[.agg #[v'], .int .i64 0] ∧ Step Nope M w M' w' ∧ HVal M' k (putE l x) v') := by
  have hT := Step.refl Nope hs
  obtain ⟨d, u, rfl⟩ := h.iface hk
  refine fn_enter Tryz.func14 rfl (rs := [.cell 6 29, .tmp 7]) rfl rfl rfl rfl ?_
  refine cw_rs fun _ κ => ?_
  refine as_h rfl (h_boxM hs rfl rfl fun b1 M1 w1 hs1 hb1 e1 => ?_)
  replace h := h.mono hs1.le
  replace hT := hT.then hs1
  have hz1 := hs1.size
  refine as_h rfl (h_boxM hs1.sat rfl rfl fun b2 M2 w2 hs2 hb2 e2 => ?_)
  replace h := h.mono hs2.le
  replace hb1 := hs2.le _ _ hb1
  replace hT := hT.then hs2
  have hz2 := hs2.size
  have hqar := hT.size
  refine as_h rfl (h_allocO (z := (.agg #[.nilIface])) hs2.sat (by kernel_rfl) rfl fun br w3 hs3 hor er => ?_)
  replace h := h.mono hs3.le
  replace hb1 := hs3.le _ _ hb1
  replace hb2 := hs3.le _ _ hb2
  replace hT := hT.then hs3
  have hz3 := hs3.size
  have hlr := hor.1.lt
  refine Sa rfl rfl ?_
  refine as_nil (κ _ _ ?_)
  refine cw_seq fun _ hK2 => ?_
  refine cw_rs fun _ κ => ?_
  refine Sf 0 rfl (by kernel_rfl) rfl ?_
  refine S1 rfl (by kernel_rfl) rfl (by exact BlkR.cell (hs3.sat _ _ _ hb1) rfl) ?_
  refine as_q rfl rfl (q_ifSome (by kernel_rfl) rfl) ?_
  refine as_nil (κ _ _ ?_)
  refine cw_false rfl ?_
  refine cw_skip ?_
  refine hK2 _ _ ?_
  refine cw_rs fun _ κ => ?_
  refine Sf 0 rfl (by kernel_rfl) rfl ?_
  refine S1 rfl (by kernel_rfl) rfl (by exact BlkR.cell (hs3.sat _ _ _ hb1) rfl) ?_
  refine Sm rfl rfl ?_
  refine Sc 2 rfl (by kernel_rfl) rfl (by exact BlkR.cells (hs3.sat _ _ _ hb2) rfl) ?_
  obtain ⟨d0, u0, f0, r0, hv0, hc0_, hm0, hd0⟩ := hv_insert (x := x) hs3.sat h hk hz
  cases hv0
  refine as_h rfl (h_invokeP hc0_ rfl rfl (hm0 _) ?_)
  refine hd0.mono ?_
  rintro v1 w4 ⟨Mn, hs4, hn⟩
  replace h := h.mono hs4.le
  replace hor := hor.then hs4
  replace hT := hT.then hs4
  have hz4 := hs4.size
  obtain ⟨d9, u9, rfl⟩ := hn.iface hk
  refine as_q rfl rfl (q_build (zs := [.nilIface]) (places := [(0, 1)]) (cs := [_]) (by kernel_rfl) (by kernel_rfl) rfl rfl) ?_
  refine as_h0 (h_store hs4.sat hor rfl rfl rfl (by kernel_rfl) rfl rfl rfl fun w5 hs5 hn5 => ?_)
  replace h := h.mono hs5.le
  replace hn := hn.mono hs5.le
  clear hor; have hor := hn5; clear hn5
  replace hT := hT.own hs5 (by omega)
  have hz5 := hs5.size
  refine Sa rfl rfl ?_
  refine as_nil (κ _ _ ?_)
  refine cw_ret ?_
  exact ⟨_, (res_cell rfl (loadVar_n (n := 1) (by kernel_rfl) (by exact Blk.cells hor.1 rfl)) (res_tmp rfl res_nil)), _, _, rfl, hT, hn⟩
theorem hp_insert {w : World} {M : Mem} {k : Nat} {x : El} {l : List El} {v : Value} (hs : Sat M w) (h : HVal M k l v) (hz : l.length < 1000000000) : Does Tryz.prog 14 #[.agg #[v], .pointer none, .agg (elc x).toArray] w (fun r w' => ∃ v' M', r = .tuple #[.agg #[v'], .int .i64 (insE k)] ∧ Step Nope M w M' w' ∧ HVal M' k (insL k l x) v') := by
  by_cases hk : k = 0
  · subst hk; obtain ⟨rfl, rfl⟩ := h.zero; exact hp_insert_0 hs
  · unfold insE insL
    rw [if_neg hk, if_neg hk]
    exact hp_insert_1 hs h hk hz
end Go.Proofs.YtgcgjpfjjgalmaaGreat
/- The calls of heap, part 3. -/
namespace Go.Proofs.YtgcgjpfjjgalmaaGreat
open Go Go.Eng
theorem hp_empty_1 {w : World} {M : Mem} (hs : Sat M w) :
    Does Tryz.prog 13 #[.int .i64 1] w (fun r w' => ∃ v' M', r = .tuple #[.agg #[v'], .int .i64 0] ∧ Step Nope M w M' w' ∧ HVal M' 1 [] v') := by
  have hT := Step.refl Nope hs
  refine fn_enter Tryz.func13 rfl (rs := [.cell 2 29, .tmp 3]) rfl rfl rfl rfl ?_
  refine cw_rs fun _ κ => ?_
  have hqar := hT.size
  refine as_h rfl (h_allocO (z := (.agg #[.nilIface])) hs (by kernel_rfl) rfl fun br w1 hs1 hor er => ?_)
  replace hT := hT.then hs1
  have hz1 := hs1.size
  have hlr := hor.1.lt
  refine Sa rfl rfl ?_
  refine as_nil (κ _ _ ?_)
  refine cw_seq fun _ hK2 => ?_
  refine cw_rs fun _ κ => ?_
  refine Sm rfl rfl ?_
  refine as_nil (κ _ _ ?_)
  refine cw_block ?_
  refine cw_rs fun _ κ => ?_
  refine as_q rfl rfl (q_eqT rfl rfl (by omega)) ?_
  refine Sa rfl rfl ?_
  refine as_nil (κ _ _ ?_)
  refine cw_true rfl ?_
  refine cw_rs fun _ κ => ?_
  refine as_q rfl rfl (q_build (zs := [(.pointer none)]) (places := [(0, 1)]) (cs := [_]) (by kernel_rfl) (by kernel_rfl) rfl rfl) ?_
  refine as_q rfl rfl (q_iface (by kernel_rfl) rfl) ?_
  refine as_q rfl rfl (q_build (zs := [.nilIface]) (places := [(0, 1)]) (cs := [_]) (by kernel_rfl) (by kernel_rfl) rfl rfl) ?_
  refine as_h0 (h_store hs1.sat hor rfl rfl rfl (by kernel_rfl) rfl rfl rfl fun w2 hs2 hn2 => ?_)
  clear hor; have hor := hn2; clear hn2
  replace hT := hT.own hs2 (by omega)
  have hz2 := hs2.size
  refine Sa rfl rfl ?_
  refine as_nil (κ _ _ ?_)
  refine cw_ret ?_
  exact ⟨_, (res_cell rfl (loadVar_n (n := 1) (by kernel_rfl) (by exact Blk.cells hor.1 rfl)) (res_tmp rfl res_nil)), _, _, rfl, hT, .a (t := .nil) rfl (trivial) rfl⟩
theorem hp_empty_2 {w : World} {M : Mem} (hs : Sat M w) :
    Does Tryz.prog 13 #[.int .i64 2] w (fun r w' => ∃ v' M', r = .tuple #[.agg #[v'], .int .i64 0] ∧ Step Nope M w M' w' ∧ HVal M' 2 [] v') := by
  have hT := Step.refl Nope hs
  refine fn_enter Tryz.func13 rfl (rs := [.cell 2 29, .tmp 3]) rfl rfl rfl rfl ?_
  refine cw_rs fun _ κ => ?_
  have hqar := hT.size
  refine as_h rfl (h_allocO (z := (.agg #[.nilIface])) hs (by kernel_rfl) rfl fun br w1 hs1 hor er => ?_)
  replace hT := hT.then hs1
  have hz1 := hs1.size
  have hlr := hor.1.lt
  refine Sa rfl rfl ?_
  refine as_nil (κ _ _ ?_)
  refine cw_seq fun _ hK2 => ?_
  refine cw_rs fun _ κ => ?_
  refine Sm rfl rfl ?_
  refine as_nil (κ _ _ ?_)
  refine cw_block ?_
  refine cw_rs fun _ κ => ?_
  refine as_q rfl rfl (q_eqF rfl rfl (by omega)) ?_
  refine Sa rfl rfl ?_
  refine as_nil (κ _ _ ?_)
  refine cw_false rfl ?_
  refine cw_rs fun _ κ => ?_
  refine as_q rfl rfl (q_eqT rfl rfl (by omega)) ?_
  refine Sa rfl rfl ?_
  refine as_nil (κ _ _ ?_)
  refine cw_true rfl ?_
  refine cw_rs fun _ κ => ?_
  refine as_q rfl rfl (q_build (zs := [(.pointer none)]) (places := [(0, 1)]) (cs := [_]) (by kernel_rfl) (by kernel_rfl) rfl rfl) ?_
  refine as_q rfl rfl (q_iface (by kernel_rfl) rfl) ?_
  refine as_q rfl rfl (q_build (zs := [.nilIface]) (places := [(0, 1)]) (cs := [_]) (by kernel_rfl) (by kernel_rfl) rfl rfl) ?_
  refine as_h0 (h_store hs1.sat hor rfl rfl rfl (by kernel_rfl) rfl rfl rfl fun w2 hs2 hn2 => ?_)
  clear hor; have hor := hn2; clear hn2
  replace hT := hT.own hs2 (by omega)
  have hz2 := hs2.size
  refine Sa rfl rfl ?_
  refine as_nil (κ _ _ ?_)
  refine cw_ret ?_
  exact ⟨_, (res_cell rfl (loadVar_n (n := 1) (by kernel_rfl) (by exact Blk.cells hor.1 rfl)) (res_tmp rfl res_nil)), _, _, rfl, hT, .b (t := []) (frep_nil.2 rfl) (⟨trivial, trivial⟩) rfl⟩
theorem hp_empty_3 {w : World} {M : Mem} (hs : Sat M w) :
    Does Tryz.prog 13 #[.int .i64 3] w (fun r w' => ∃ v' M', r = .tuple #[.agg #[v'], .int .i64 0] ∧ Step Nope M w M' w' ∧ HVal M' 3 [] v') := by
  have hT := Step.refl Nope hs
  refine fn_enter Tryz.func13 rfl (rs := [.cell 2 29, .tmp 3]) rfl rfl rfl rfl ?_
  refine cw_rs fun _ κ => ?_
  have hqar := hT.size
  refine as_h rfl (h_allocO (z := (.agg #[.nilIface])) hs (by kernel_rfl) rfl fun br w1 hs1 hor er => ?_)
  replace hT := hT.then hs1
  have hz1 := hs1.size
  have hlr := hor.1.lt
  refine Sa rfl rfl ?_
  refine as_nil (κ _ _ ?_)
  refine cw_seq fun _ hK2 => ?_
  refine cw_rs fun _ κ => ?_
  refine Sm rfl rfl ?_
  refine as_nil (κ _ _ ?_)
  refine cw_block ?_
  refine cw_rs fun _ κ => ?_
  refine as_q rfl rfl (q_eqF rfl rfl (by omega)) ?_
  refine Sa rfl rfl ?_
  refine as_nil (κ _ _ ?_)
  refine cw_false rfl ?_
  refine cw_rs fun _ κ => ?_
  refine as_q rfl rfl (q_eqF rfl rfl (by omega)) ?_
  refine Sa rfl rfl ?_
  refine as_nil (κ _ _ ?_)
  refine cw_false rfl ?_
  refine cw_rs fun _ κ => ?_
  refine as_q rfl rfl (q_eqT rfl rfl (by omega)) ?_
  refine Sa rfl rfl ?_
  refine as_nil (κ _ _ ?_)
  refine cw_true rfl ?_
  refine cw_rs fun _ κ => ?_
  refine as_q rfl rfl (q_build (zs := [(.pointer none)]) (places := [(0, 1)]) (cs := [_]) (by kernel_rfl) (by kernel_rfl) rfl rfl) ?_
  refine as_q rfl rfl (q_iface (by kernel_rfl) rfl) ?_
  refine as_q rfl rfl (q_build (zs := [.nilIface]) (places := [(0, 1)]) (cs := [_]) (by kernel_rfl) (by kernel_rfl) rfl rfl) ?_
  refine as_h0 (h_store hs1.sat hor rfl rfl rfl (by kernel_rfl) rfl rfl rfl fun w2 hs2 hn2 => ?_)
  clear hor; have hor := hn2; clear hn2
  replace hT := hT.own hs2 (by omega)
  have hz2 := hs2.size
  refine Sa rfl rfl ?_
  refine as_nil (κ _ _ ?_)
  refine cw_ret ?_
  exact ⟨_, (res_cell rfl (loadVar_n (n := 1) (by kernel_rfl) (by exact Blk.cells hor.1 rfl)) (res_tmp rfl res_nil)), _, _, rfl, hT, .c (t := .nil) (prep_nil.2 rfl) (trivial) (by simp only [Pr.els]; rfl)⟩
theorem hp_empty_4 {w : World} {M : Mem} (hs : Sat M w) :
    Does Tryz.prog 13 #[.int .i64 4] w (fun r w' => ∃ v' M', r = .tuple #[.agg #[v'], .int .i64 0] ∧ Step Nope M w M' w' ∧ HVal M' 4 [] v') := by
  have hT := Step.refl Nope hs
  refine fn_enter Tryz.func13 rfl (rs := [.cell 2 29, .tmp 3]) rfl rfl rfl rfl ?_
  refine cw_rs fun _ κ => ?_
  have hqar := hT.size
  refine as_h rfl (h_allocO (z := (.agg #[.nilIface])) hs (by kernel_rfl) rfl fun br w1 hs1 hor er => ?_)
  replace hT := hT.then hs1
  have hz1 := hs1.size
  have hlr := hor.1.lt
  refine Sa rfl rfl ?_
  refine as_nil (κ _ _ ?_)
  refine cw_seq fun _ hK2 => ?_
  refine cw_rs fun _ κ => ?_
  refine Sm rfl rfl ?_
  refine as_nil (κ _ _ ?_)
  refine cw_block ?_
  refine cw_rs fun _ κ => ?_
  refine as_q rfl rfl (q_eqF rfl rfl (by omega)) ?_
  refine Sa rfl rfl ?_
  refine as_nil (κ _ _ ?_)
  refine cw_false rfl ?_
  refine cw_rs fun _ κ => ?_
  refine as_q rfl rfl (q_eqF rfl rfl (by omega)) ?_
  refine Sa rfl rfl ?_
  refine as_nil (κ _ _ ?_)
  refine cw_false rfl ?_
  refine cw_rs fun _ κ => ?_
  refine as_q rfl rfl (q_eqF rfl rfl (by omega)) ?_
  refine Sa rfl rfl ?_
  refine as_nil (κ _ _ ?_)
  refine cw_false rfl ?_
  refine cw_rs fun _ κ => ?_
  refine as_q rfl rfl (q_eqT rfl rfl (by omega)) ?_
  refine Sa rfl rfl ?_
  refine as_nil (κ _ _ ?_)
  refine cw_true rfl ?_
  refine cw_rs fun _ κ => ?_
  refine as_q rfl rfl (q_build (zs := [(.pointer none)]) (places := [(0, 1)]) (cs := [_]) (by kernel_rfl) (by kernel_rfl) rfl rfl) ?_
  refine as_q rfl rfl (q_iface (by kernel_rfl) rfl) ?_
  refine as_q rfl rfl (q_build (zs := [.nilIface]) (places := [(0, 1)]) (cs := [_]) (by kernel_rfl) (by kernel_rfl) rfl rfl) ?_
  refine as_h0 (h_store hs1.sat hor rfl rfl rfl (by kernel_rfl) rfl rfl rfl fun w2 hs2 hn2 => ?_)
  clear hor; have hor := hn2; clear hn2
  replace hT := hT.own hs2 (by omega)
  have hz2 := hs2.size
  refine Sa rfl rfl ?_
  refine as_nil (κ _ _ ?_)
  refine cw_ret ?_
  exact ⟨_, (res_cell rfl (loadVar_n (n := 1) (by kernel_rfl) (by exact Blk.cells hor.1 rfl)) (res_tmp rfl res_nil)), _, _, rfl, hT, .d (t := []) (frep_nil.2 rfl) (trivial) rfl⟩
theorem hp_empty_5 {w : World} {M : Mem} (hs : Sat M w) :
    Does Tryz.prog 13 #[.int .i64 5] w (fun r w' => ∃ v' M', r = .tuple #[.agg #[v'], .int .i64 0] ∧ Step Nope M w M' w' ∧ HVal M' 5 [] v') := by
  have hT := Step.refl Nope hs
  refine fn_enter Tryz.func13 rfl (rs := [.cell 2 29, .tmp 3]) rfl rfl rfl rfl ?_
  refine cw_rs fun _ κ => ?_
  have hqar := hT.size
  refine as_h rfl (h_allocO (z := (.agg #[.nilIface])) hs (by kernel_rfl) rfl fun br w1 hs1 hor er => ?_)
  replace hT := hT.then hs1
  have hz1 := hs1.size
  have hlr := hor.1.lt
  refine Sa rfl rfl ?_
  refine as_nil (κ _ _ ?_)
  refine cw_seq fun _ hK2 => ?_
  refine cw_rs fun _ κ => ?_
  refine Sm rfl rfl ?_
  refine as_nil (κ _ _ ?_)
  refine cw_block ?_
  refine cw_rs fun _ κ => ?_
  refine as_q rfl rfl (q_eqF rfl rfl (by omega)) ?_
  refine Sa rfl rfl ?_
  refine as_nil (κ _ _ ?_)
  refine cw_false rfl ?_
  refine cw_rs fun _ κ => ?_
  refine as_q rfl rfl (q_eqF rfl rfl (by omega)) ?_
  refine Sa rfl rfl ?_
  refine as_nil (κ _ _ ?_)
  refine cw_false rfl ?_
  refine cw_rs fun _ κ => ?_
  refine as_q rfl rfl (q_eqF rfl rfl (by omega)) ?_
  refine Sa rfl rfl ?_
  refine as_nil (κ _ _ ?_)
  refine cw_false rfl ?_
  refine cw_rs fun _ κ => ?_
  refine as_q rfl rfl (q_eqF rfl rfl (by omega)) ?_
  refine Sa rfl rfl ?_
  refine as_nil (κ _ _ ?_)
  refine cw_false rfl ?_
  refine cw_rs fun _ κ => ?_
  refine as_q rfl rfl (q_eqT rfl rfl (by omega)) ?_
  refine Sa rfl rfl ?_
  refine as_nil (κ _ _ ?_)
  refine cw_true rfl ?_
  refine cw_rs fun _ κ => ?_
  refine as_q rfl rfl (q_build (zs := [(.pointer none)]) (places := [(0, 1)]) (cs := [_]) (by kernel_rfl) (by kernel_rfl) rfl rfl) ?_
  refine as_q rfl rfl (q_iface (by kernel_rfl) rfl) ?_
  refine as_q rfl rfl (q_build (zs := [.nilIface]) (places := [(0, 1)]) (cs := [_]) (by kernel_rfl) (by kernel_rfl) rfl rfl) ?_
  refine as_h0 (h_store hs1.sat hor rfl rfl rfl (by kernel_rfl) rfl rfl rfl fun w2 hs2 hn2 => ?_)
  clear hor; have hor := hn2; clear hn2
  replace hT := hT.own hs2 (by omega)
  have hz2 := hs2.size
  refine Sa rfl rfl ?_
  refine as_nil (κ _ _ ?_)
  refine cw_ret ?_
  exact ⟨_, (res_cell rfl (loadVar_n (n := 1) (by kernel_rfl) (by exact Blk.cells hor.1 rfl)) (res_tmp rfl res_nil)), _, _, rfl, hT, .e (t := .nil) rfl (trivial) rfl⟩
theorem hp_empty_6 {w : World} {M : Mem} (hs : Sat M w) :
    Does Tryz.prog 13 #[.int .i64 6] w (fun r w' => ∃ v' M', r = .tuple #[.agg #[v'], .int .i64 0] ∧ Step Nope M w M' w' ∧ HVal M' 6 [] v') := by
  have hT := Step.refl Nope hs
  refine fn_enter Tryz.func13 rfl (rs := [.cell 2 29, .tmp 3]) rfl rfl rfl rfl ?_
  refine cw_rs fun _ κ => ?_
  have hqar := hT.size
  refine as_h rfl (h_allocO (z := (.agg #[.nilIface])) hs (by kernel_rfl) rfl fun br w1 hs1 hor er => ?_)
  replace hT := hT.then hs1
  have hz1 := hs1.size
  have hlr := hor.1.lt
  refine Sa rfl rfl ?_
  refine as_nil (κ _ _ ?_)
  refine cw_seq fun _ hK2 => ?_
  refine cw_rs fun _ κ => ?_
  refine Sm rfl rfl ?_
  refine as_nil (κ _ _ ?_)
  refine cw_block ?_
  refine cw_rs fun _ κ => ?_
  refine as_q rfl rfl (q_eqF rfl rfl (by omega)) ?_
  refine Sa rfl rfl ?_
  refine as_nil (κ _ _ ?_)
  refine cw_false rfl ?_
  refine cw_rs fun _ κ => ?_
  refine as_q rfl rfl (q_eqF rfl rfl (by omega)) ?_
  refine Sa rfl rfl ?_
  refine as_nil (κ _ _ ?_)
  refine cw_false rfl ?_
  refine cw_rs fun _ κ => ?_
  refine as_q rfl rfl (q_eqF rfl rfl (by omega)) ?_
  refine Sa rfl rfl ?_
  refine as_nil (κ _ _ ?_)
  refine cw_false rfl ?_
  refine cw_rs fun _ κ => ?_
  refine as_q rfl rfl (q_eqF rfl rfl (by omega)) ?_
  refine Sa rfl rfl ?_
  refine as_nil (κ _ _ ?_)
  refine cw_false rfl ?_
  refine cw_rs fun _ κ => ?_
  refine as_q rfl rfl (q_eqF rfl rfl (by omega)) ?_
  refine Sa rfl rfl ?_
  refine as_nil (κ _ _ ?_)
  refine cw_false rfl ?_
  refine cw_rs fun _ κ => ?_
  refine as_q rfl rfl (q_eqT rfl rfl (by omega)) ?_
  refine Sa rfl rfl ?_
  refine as_nil (κ _ _ ?_)
  refine cw_true rfl ?_
  refine cw_rs fun _ κ => ?_
  refine as_q rfl rfl (q_build (zs := [(.pointer none)]) (places := [(0, 1)]) (cs := [_]) (by kernel_rfl) (by kernel_rfl) rfl rfl) ?_
  refine as_q rfl rfl (q_iface (by kernel_rfl) rfl) ?_
  refine as_q rfl rfl (q_build (zs := [.nilIface]) (places := [(0, 1)]) (cs := [_]) (by kernel_rfl) (by kernel_rfl) rfl rfl) ?_
  refine as_h0 (h_store hs1.sat hor rfl rfl rfl (by kernel_rfl) rfl rfl rfl fun w2 hs2 hn2 => ?_)
  clear hor; have hor := hn2; clear hn2
  replace hT := hT.own hs2 (by omega)
  have hz2 := hs2.size
  refine Sa rfl rfl ?_
  refine as_nil (κ _ _ ?_)
  refine cw_ret ?_
  exact ⟨_, (res_cell rfl (loadVar_n (n := 1) (by kernel_rfl) (by exact Blk.cells hor.1 rfl)) (res_tmp rfl res_nil)), _, _, rfl, hT, .f (t := .nil) (brep_nil.2 rfl) (trivial) (by simp only [Bt.els]; rfl)⟩
theorem hp_empty_0 {w : World} {M : Mem} {z : Int} (hs : Sat M w) (hz : ¬ (1 ≤ z ∧ z ≤ 6)) :
    Does Tryz.prog 13 #[.int .i64 z] w (fun r w' => ∃ v' M', r = .tuple #[.agg #[v'], .int .i64 22] ∧ Step Nope M w M' w' ∧ HVal M' 0 [] v') := by
  have hT := Step.refl Nope hs
  refine fn_enter Tryz.func13 rfl (rs := [.cell 2 29, .tmp 3]) rfl rfl rfl rfl ?_
  refine cw_rs fun _ κ => ?_
  have hqar := hT.size
  refine as_h rfl (h_allocO (z := (.agg #[.nilIface])) hs (by kernel_rfl) rfl fun br w1 hs1 hor er => ?_)
  replace hT := hT.then hs1
  have hz1 := hs1.size
  have hlr := hor.1.lt
  refine Sa rfl rfl ?_
  refine as_nil (κ _ _ ?_)
  refine cw_seq fun _ hK2 => ?_
  refine cw_rs fun _ κ => ?_
  refine Sm rfl rfl ?_
  refine as_nil (κ _ _ ?_)
  refine cw_block ?_
  refine cw_rs fun _ κ => ?_
  refine as_q rfl rfl (q_eqF rfl rfl (by omega)) ?_
  refine Sa rfl rfl ?_
  refine as_nil (κ _ _ ?_)
  refine cw_false rfl ?_
  refine cw_rs fun _ κ => ?_
  refine as_q rfl rfl (q_eqF rfl rfl (by omega)) ?_
  refine Sa rfl rfl ?_
  refine as_nil (κ _ _ ?_)
  refine cw_false rfl ?_
  refine cw_rs fun _ κ => ?_
  refine as_q rfl rfl (q_eqF rfl rfl (by omega)) ?_
  refine Sa rfl rfl ?_
  refine as_nil (κ _ _ ?_)
  refine cw_false rfl ?_
  refine cw_rs fun _ κ => ?_
  refine as_q rfl rfl (q_eqF rfl rfl (by omega)) ?_
  refine Sa rfl rfl ?_
  refine as_nil (κ _ _ ?_)
  refine cw_false rfl ?_
  refine cw_rs fun _ κ => ?_
  refine as_q rfl rfl (q_eqF rfl rfl (by omega)) ?_
  refine Sa rfl rfl ?_
  refine as_nil (κ _ _ ?_)
  refine cw_false rfl ?_
  refine cw_rs fun _ κ => ?_
  refine as_q rfl rfl (q_eqF rfl rfl (by omega)) ?_
  refine Sa rfl rfl ?_
  refine as_nil (κ _ _ ?_)
  refine cw_false rfl ?_
  refine cw_skip ?_
  refine hK2 _ _ ?_
  refine cw_rs fun _ κ => ?_
  refine as_q rfl rfl (q_build (zs := [.nilIface]) (places := [(0, 1)]) (cs := [_]) (by kernel_rfl) (by kernel_rfl) rfl rfl) ?_
  refine as_h0 (h_store hs1.sat hor rfl rfl rfl (by kernel_rfl) rfl rfl rfl fun w2 hs2 hn2 => ?_)
  clear hor; have hor := hn2; clear hn2
  replace hT := hT.own hs2 (by omega)
  have hz2 := hs2.size
  refine Sa rfl rfl ?_
  refine as_nil (κ _ _ ?_)
  refine cw_ret ?_
  exact ⟨_, (res_cell rfl (loadVar_n (n := 1) (by kernel_rfl) (by exact Blk.cells hor.1 rfl)) (res_tmp rfl res_nil)), _, _, rfl, hT, .z⟩
theorem hp_empty {w : World} {M : Mem} {z : Int} (hs : Sat M w) : Does Tryz.prog 13 #[.int .i64 z] w (fun r w' => ∃ v' M', r = .tuple #[.agg #[v'], .int .i64 (emE z)] ∧ Step Nope M w M' w' ∧ HVal M' (emK z) [] v') := by
  unfold emE emK
  by_cases hz : 1 ≤ z ∧ z ≤ 6
  · rw [if_pos hz, if_pos hz]
    have hc : z = 1 ∨ z = 2 ∨ z = 3 ∨ z = 4 ∨ z = 5 ∨ z = 6 := by omega
    rcases hc with rfl | rfl | rfl | rfl | rfl | rfl
    · exact hp_empty_1 hs
    · exact hp_empty_2 hs
    · exact hp_empty_3 hs
    · exact hp_empty_4 hs
    · exact hp_empty_5 hs
    · exact hp_empty_6 hs
  · rw [if_neg hz, if_neg hz]
    exact hp_empty_0 hs hz
theorem hp_of_1 {w : World} {M : Mem} {z : Int} {u : Value} {n : Nat} {xs : List El} (hs : Sat M w) (hr : Rds M w 2 u n (els xs)) (hn : n ≤ 1000000) (hz : (1 ≤ z ∧ z ≤ 6)) :
    Does Tryz.prog 11 #[.pointer none, .int .i64 z, u] w (fun r w' => ∃ v' M', r = .tuple #[.agg #[v'], .int .i64 (emE z)] ∧ Step Nope M w M' w' ∧ HVal M' (emK z) (ofL z xs) v') := by
  have hT := Step.refl Nope hs
  have hxl := hr.els_len hs
  obtain ⟨sa, sc, rfl, _, _⟩ := hr.slice hs
  have hof0 : ofL z [] = [] := by unfold ofL; split <;> rfl
  have hie : insE (emK z) = emE z := by unfold insE emE emK; rw [if_pos hz, if_pos hz, if_neg (by omega)]
  have hek : emK z ≠ 0 := by unfold emK; rw [if_pos hz]; omega
  have hem : emE z = 0 := by unfold emE; rw [if_pos hz]
  have hlen : ∀ i, (ofL z (xs.take i)).length ≤ n := fun i => by unfold ofL; rw [if_pos hz, srtE_length, List.length_take]; omega
  have hof1 : ∀ l x, insL (emK z) (ofL z l) x = ofL z (l ++ [x]) := fun l x => by unfold insL ofL emK; rw [if_pos hz, if_pos hz, if_pos hz, if_neg (by omega), srtE_snoc]
  refine fn_enter Tryz.func11 rfl (rs := [.cell 6 29, .tmp 7]) rfl rfl rfl rfl ?_
  refine cw_rs fun _ κ => ?_
  have hqar := hT.size
  refine as_h rfl (h_allocO (z := (.agg #[.nilIface])) hs (by kernel_rfl) rfl fun br w1 hs1 hor er => ?_)
  replace hT := hT.then hs1
  have hz1 := hs1.size
  have hlr := hor.1.lt
  refine Sa rfl rfl ?_
  refine as_nil (κ _ _ ?_)
  refine cw_rs fun _ κ => ?_
  refine Sm rfl rfl ?_
  refine as_h rfl (h_call (by kernel_rfl) rfl ?_)
  refine (hp_empty hs1.sat).mono ?_
  rintro _ w2 ⟨v0, M0, rfl, hs2, hv⟩
  replace hor := hor.then hs2
  replace hT := hT.then hs2
  have hz2 := hs2.size
  obtain ⟨d_hv, u_hv, rfl⟩ := hv.iface hek
  refine Sm rfl rfl ?_
  refine Se rfl rfl rfl ?_
  refine Se rfl rfl rfl ?_
  have hqao := hT.size
  refine as_h rfl (h_allocO (z := (.agg #[.nilIface])) hs2.sat (by kernel_rfl) rfl fun bo w3 hs3 hoo eo => ?_)
  replace hor := hor.then hs3
  replace hv := hv.mono hs3.le
  replace hT := hT.then hs3
  have hz3 := hs3.size
  have hlo := hoo.1.lt
  refine as_h0 (h_store hs3.sat hoo rfl rfl rfl (by kernel_rfl) rfl rfl rfl fun w4 hs4 hn4 => ?_)
  replace hor := hor.step hs4 (fun h => by have h : _ = _ := h; omega)
  replace hv := hv.mono hs4.le
  clear hoo; have hoo := hn4; clear hn4
  replace hT := hT.own hs4 (by omega)
  have hz4 := hs4.size
  refine Sa rfl rfl ?_
  refine as_nil (κ _ _ ?_)
  refine cw_seq fun _ hK3 => ?_
  refine cw_rs fun _ κ => ?_
  refine Sm rfl rfl ?_
  refine as_q rfl rfl (q_len (by kernel_rfl) rfl _) ?_
  refine Sm rfl rfl ?_
  refine as_nil (κ _ _ ?_)
  refine cw_block ?_
  refine cw_loop (fun mm l1 w1 => ∃ (i : Nat) (v : Value) (M1 : Mem), mm = n - i ∧ i ≤ n ∧ l1 = [(0, .pointer none), (6, .pointer (some ⟨br, 0, none⟩)), (8, .pointer (some ⟨bo, 0, none⟩)), (9, .int .i64 (emE z)), (17, .slice sa n sc), (18, .int .i64 (n : Nat)), (19, .int .i64 i)] ∧ Step Nope M w M1 w1 ∧ HVal M1 (emK z) (ofL z (xs.take i)) v ∧ Own w1 M1 bo [v] 29 ∧ Own w1 M1 br [.nilIface] 29) (n) [(0, .pointer none), (6, .pointer (some ⟨br, 0, none⟩)), (8, .pointer (some ⟨bo, 0, none⟩)), (9, .int .i64 (emE z)), (17, .slice sa n sc), (18, .int .i64 (n : Nat)), (19, .int .i64 (0 : Nat))] (.cons rfl (.cons rfl (.cons rfl (.cons rfl (.cons rfl (.cons rfl (.cons rfl (.nil _)))))))) ?_ ?_
  · skip
    exact ⟨0, _, M0, rfl, Nat.zero_le _, rfl, hT, (by rw [List.take_zero, hof0]; exact hv), hoo, hor⟩
  have hbw : w.heap.size ≤ bo ∧ w.heap.size ≤ br ∧ bo ≠ br := by omega
  clear hT hv hoo hor
  rintro mm l1 w1 ⟨i, v, M1, rfl, hi, rfl, hT, hv, hoo, hor⟩
  obtain ⟨d_hv, u_hv, rfl⟩ := hv.iface hek
  have hlo1 := hoo.1.lt
  have hlr1 := hor.1.lt
  refine cw_rs fun _ κ => ?_
  refine as_q rfl rfl (q_lt rfl rfl) ?_
  refine as_nil (κ _ _ ?_)
  refine cw_seq fun _ hK6 => ?_
  refine cw_cond rfl (fun hc0 => ?_) (fun hc0 => ?_)
  · skip
    have hlt : i < n := by have := of_decide_eq_true hc0; omega
    obtain ⟨y, hy⟩ : ∃ y, xs[i]? = some y := ⟨xs[i]'(by omega), by simp⟩
    obtain ⟨g, o, rfl⟩ := (hr _ _ hT).there (by omega)
    refine cw_skip ?_
    refine hK6 _ _ ?_
    refine cw_seq fun _ hK7 => ?_
    refine cw_block ?_
    refine cw_rs fun _ κ => ?_
    refine as_q rfl rfl (q_indexAddr (e := 24) (size := 2) (by kernel_rfl) (by kernel_rfl) rfl rfl (by omega) (by omega)) ?_
    refine Sc 2 rfl (by kernel_rfl) rfl ((hr _ _ hT).el (j := (i : Int).toNat) (by simpa using hy)) ?_
    have hqaxx := hT.size
    refine as_h rfl (h_allocO (z := (.agg #[(.int .i64 0), (.int .i64 0)])) hT.sat (by kernel_rfl) rfl fun bxx w5 hs5 hoxx exx => ?_)
    replace hv := hv.mono hs5.le
    replace hoo := hoo.then hs5
    replace hor := hor.then hs5
    replace hT := hT.then hs5
    have hz5 := hs5.size
    have hlxx := hoxx.1.lt
    refine as_h0 (h_store hs5.sat hoxx rfl rfl rfl (by kernel_rfl) rfl rfl rfl fun w6 hs6 hn6 => ?_)
    replace hv := hv.mono hs6.le
    replace hoo := hoo.step hs6 (fun h => by have h : _ = _ := h; omega)
    replace hor := hor.step hs6 (fun h => by have h : _ = _ := h; omega)
    clear hoxx; have hoxx := hn6; clear hn6
    replace hT := hT.own hs6 (by omega)
    have hz6 := hs6.size
    refine as_nil (κ _ _ ?_)
    refine cw_rs fun _ κ => ?_
    refine Sm rfl rfl ?_
    refine as_q rfl rfl (q_eqT rfl rfl (by omega)) ?_
    refine as_nil (κ _ _ ?_)
    refine cw_true rfl ?_
    refine cw_region fun _ κ => ?_
    refine Sc 1 rfl (by kernel_rfl) rfl (by exact Blk.cells hoo.1 rfl) ?_
    refine Sm rfl rfl ?_
    refine Sc 2 rfl (by kernel_rfl) rfl (by exact Blk.cells hoxx.1 rfl) ?_
    refine as_h rfl (h_call (by kernel_rfl) rfl ?_)
    refine (hp_insert (x := y) hs6.sat hv (by have := hlen i; omega)).mono ?_
    rintro _ w7 ⟨v2, M2, hr2, hs7, hv2⟩
    rw [hie] at hr2
    subst hr2
    replace hv := hv.mono hs7.le
    replace hoo := hoo.then hs7
    replace hor := hor.then hs7
    replace hT := hT.then hs7
    have hz7 := hs7.size
    obtain ⟨d_hv2, u_hv2, rfl⟩ := hv2.iface hek
    refine Sm rfl rfl ?_
    refine Se rfl rfl rfl ?_
    refine Se rfl rfl rfl ?_
    refine as_h0 (h_store hs7.sat hoo rfl rfl rfl (by kernel_rfl) rfl rfl rfl fun w8 hs8 hn8 => ?_)
    replace hv := hv.mono hs8.le
    replace hor := hor.step hs8 (fun h => by have h : br = bo := h; omega)
    replace hv2 := hv2.mono hs8.le
    clear hoo; have hoo := hn8; clear hn8
    replace hT := hT.own hs8 (by omega)
    have hz8 := hs8.size
    refine Sa rfl rfl ?_
    refine as_nil (κ _ _ ?_)
    refine hK7 _ _ ?_
    refine cw_region fun _ κ => ?_
    refine as_q rfl rfl (q_addx rfl rfl (by omega) (by omega)) ?_
    refine Sm rfl rfl ?_
    refine as_nil (κ _ _ ?_)
    refine ⟨_, _, ?_, (.cons rfl (.cons rfl (.cons rfl (.cons rfl (.cons rfl (.cons rfl (.cons rfl (.nil _)))))))), i + 1, _, _, rfl, by omega, rfl, hT, ?_, hoo, hor⟩
    · omega
    · rw [List.take_add_one, hy]; exact hof1 _ _ ▸ hv2
  · skip
    have hge : i = n := by have := of_decide_eq_false hc0; omega
    refine cw_exit ?_
    refine hK3 _ _ ?_
    refine cw_rs fun _ κ => ?_
    refine Sc 1 rfl (by kernel_rfl) rfl (by exact Blk.cells hoo.1 rfl) ?_
    refine Sm rfl rfl ?_
    refine as_h0 (h_store hT.sat hor rfl rfl rfl (by kernel_rfl) rfl rfl rfl fun w9 hs9 hn9 => ?_)
    replace hv := hv.mono hs9.le
    clear hor; have hor := hn9; clear hn9
    replace hT := hT.own hs9 (by omega)
    have hz9 := hs9.size
    refine Sa rfl rfl ?_
    refine as_nil (κ _ _ ?_)
    refine cw_ret ?_
    subst hge
    rw [List.take_of_length_le (by omega)] at hv
    exact ⟨_, (res_cell rfl (loadVar_n (n := 1) (by kernel_rfl) (by exact Blk.cells hor.1 rfl)) (res_tmp rfl res_nil)), _, _, rfl, hT, hv⟩
theorem hp_of_0 {w : World} {M : Mem} {z : Int} {u : Value} {n : Nat} {xs : List El} (hs : Sat M w) (hr : Rds M w 2 u n (els xs)) (hn : n ≤ 1000000) (hz : ¬ (1 ≤ z ∧ z ≤ 6)) :
    Does Tryz.prog 11 #[.pointer none, .int .i64 z, u] w (fun r w' => ∃ v' M', r = .tuple #[.agg #[v'], .int .i64 (emE z)] ∧ Step Nope M w M' w' ∧ HVal M' (emK z) (ofL z xs) v') := by
  have hT := Step.refl Nope hs
  have hxl := hr.els_len hs
  obtain ⟨sa, sc, rfl, _, _⟩ := hr.slice hs
  have hof0 : ofL z [] = [] := by unfold ofL; split <;> rfl
  have hek : emK z = 0 := by unfold emK; rw [if_neg hz]
  have hem : emE z = 22 := by unfold emE; rw [if_neg hz]
  have hofb : ∀ l, ofL z l = [] := fun l => by unfold ofL; rw [if_neg hz]
  refine fn_enter Tryz.func11 rfl (rs := [.cell 6 29, .tmp 7]) rfl rfl rfl rfl ?_
  refine cw_rs fun _ κ => ?_
  have hqar := hT.size
  refine as_h rfl (h_allocO (z := (.agg #[.nilIface])) hs (by kernel_rfl) rfl fun br w1 hs1 hor er => ?_)
  replace hT := hT.then hs1
  have hz1 := hs1.size
  have hlr := hor.1.lt
  refine Sa rfl rfl ?_
  refine as_nil (κ _ _ ?_)
  refine cw_rs fun _ κ => ?_
  refine Sm rfl rfl ?_
  refine as_h rfl (h_call (by kernel_rfl) rfl ?_)
  refine (hp_empty hs1.sat).mono ?_
  rintro _ w2 ⟨v0, M0, rfl, hs2, hv⟩
  replace hor := hor.then hs2
  replace hT := hT.then hs2
  have hz2 := hs2.size
  obtain ⟨_, rfl⟩ := HVal.zero (hek ▸ hv)
  refine Sm rfl rfl ?_
  refine Se rfl rfl rfl ?_
  refine Se rfl rfl rfl ?_
  have hqao := hT.size
  refine as_h rfl (h_allocO (z := (.agg #[.nilIface])) hs2.sat (by kernel_rfl) rfl fun bo w3 hs3 hoo eo => ?_)
  replace hor := hor.then hs3
  replace hv := hv.mono hs3.le
  replace hT := hT.then hs3
  have hz3 := hs3.size
  have hlo := hoo.1.lt
  refine as_h0 (h_store hs3.sat hoo rfl rfl rfl (by kernel_rfl) rfl rfl rfl fun w4 hs4 hn4 => ?_)
  replace hor := hor.step hs4 (fun h => by have h : _ = _ := h; omega)
  replace hv := hv.mono hs4.le
  clear hoo; have hoo := hn4; clear hn4
  replace hT := hT.own hs4 (by omega)
  have hz4 := hs4.size
  refine Sa rfl rfl ?_
  refine as_nil (κ _ _ ?_)
  refine cw_seq fun _ hK3 => ?_
  refine cw_rs fun _ κ => ?_
  refine Sm rfl rfl ?_
  refine as_q rfl rfl (q_len (by kernel_rfl) rfl _) ?_
  refine Sm rfl rfl ?_
  refine as_nil (κ _ _ ?_)
  refine cw_block ?_
  refine cw_loop (fun mm l1 w1 => ∃ (i : Nat) (v : Value) (M1 : Mem), mm = n - i ∧ i ≤ n ∧ l1 = [(0, .pointer none), (6, .pointer (some ⟨br, 0, none⟩)), (8, .pointer (some ⟨bo, 0, none⟩)), (9, .int .i64 (emE z)), (17, .slice sa n sc), (18, .int .i64 (n : Nat)), (19, .int .i64 i)] ∧ Step Nope M w M1 w1 ∧ HVal M1 (emK z) (ofL z (xs.take i)) v ∧ Own w1 M1 bo [v] 29 ∧ Own w1 M1 br [.nilIface] 29) (n) [(0, .pointer none), (6, .pointer (some ⟨br, 0, none⟩)), (8, .pointer (some ⟨bo, 0, none⟩)), (9, .int .i64 (emE z)), (17, .slice sa n sc), (18, .int .i64 (n : Nat)), (19, .int .i64 (0 : Nat))] (.cons rfl (.cons rfl (.cons rfl (.cons rfl (.cons rfl (.cons rfl (.cons rfl (.nil _)))))))) ?_ ?_
  · skip
    exact ⟨0, _, M0, rfl, Nat.zero_le _, rfl, hT, (by rw [List.take_zero, hof0]; exact hv), hoo, hor⟩
  have hbw : w.heap.size ≤ bo ∧ w.heap.size ≤ br ∧ bo ≠ br := by omega
  clear hT hv hoo hor
  rintro mm l1 w1 ⟨i, v, M1, rfl, hi, rfl, hT, hv, hoo, hor⟩
  obtain ⟨_, rfl⟩ := HVal.zero (hek ▸ hv)
  have hlo1 := hoo.1.lt
  have hlr1 := hor.1.lt
  refine cw_rs fun _ κ => ?_
  refine as_q rfl rfl (q_lt rfl rfl) ?_
  refine as_nil (κ _ _ ?_)
  refine cw_seq fun _ hK6 => ?_
  refine cw_cond rfl (fun hc0 => ?_) (fun hc0 => ?_)
  · skip
    have hlt : i < n := by have := of_decide_eq_true hc0; omega
    obtain ⟨y, hy⟩ : ∃ y, xs[i]? = some y := ⟨xs[i]'(by omega), by simp⟩
    obtain ⟨g, o, rfl⟩ := (hr _ _ hT).there (by omega)
    refine cw_skip ?_
    refine hK6 _ _ ?_
    refine cw_seq fun _ hK7 => ?_
    refine cw_block ?_
    refine cw_rs fun _ κ => ?_
    refine as_q rfl rfl (q_indexAddr (e := 24) (size := 2) (by kernel_rfl) (by kernel_rfl) rfl rfl (by omega) (by omega)) ?_
    refine Sc 2 rfl (by kernel_rfl) rfl ((hr _ _ hT).el (j := (i : Int).toNat) (by simpa using hy)) ?_
    have hqaxx := hT.size
    refine as_h rfl (h_allocO (z := (.agg #[(.int .i64 0), (.int .i64 0)])) hT.sat (by kernel_rfl) rfl fun bxx w5 hs5 hoxx exx => ?_)
    replace hv := hv.mono hs5.le
    replace hoo := hoo.then hs5
    replace hor := hor.then hs5
    replace hT := hT.then hs5
    have hz5 := hs5.size
    have hlxx := hoxx.1.lt
    refine as_h0 (h_store hs5.sat hoxx rfl rfl rfl (by kernel_rfl) rfl rfl rfl fun w6 hs6 hn6 => ?_)
    replace hv := hv.mono hs6.le
    replace hoo := hoo.step hs6 (fun h => by have h : _ = _ := h; omega)
    replace hor := hor.step hs6 (fun h => by have h : _ = _ := h; omega)
    clear hoxx; have hoxx := hn6; clear hn6
    replace hT := hT.own hs6 (by omega)
    have hz6 := hs6.size
    refine as_nil (κ _ _ ?_)
    refine cw_rs fun _ κ => ?_
    refine Sm rfl rfl ?_
    refine as_q rfl rfl (q_eqF rfl rfl (by omega)) ?_
    refine as_nil (κ _ _ ?_)
    refine cw_false rfl ?_
    refine cw_skip ?_
    refine hK7 _ _ ?_
    refine cw_region fun _ κ => ?_
    refine as_q rfl rfl (q_addx rfl rfl (by omega) (by omega)) ?_
    refine Sm rfl rfl ?_
    refine as_nil (κ _ _ ?_)
    refine ⟨_, _, ?_, (.cons rfl (.cons rfl (.cons rfl (.cons rfl (.cons rfl (.cons rfl (.cons rfl (.nil _)))))))), i + 1, _, _, rfl, by omega, rfl, hT, ?_, hoo, hor⟩
    · omega
    · rw [hofb] at hv ⊢; exact hv
  · skip
    have hge : i = n := by have := of_decide_eq_false hc0; omega
    refine cw_exit ?_
    refine hK3 _ _ ?_
    refine cw_rs fun _ κ => ?_
    refine Sc 1 rfl (by kernel_rfl) rfl (by exact Blk.cells hoo.1 rfl) ?_
    refine Sm rfl rfl ?_
    refine as_h0 (h_store hT.sat hor rfl rfl rfl (by kernel_rfl) rfl rfl rfl fun w7 hs7 hn7 => ?_)
    replace hv := hv.mono hs7.le
    clear hor; have hor := hn7; clear hn7
    replace hT := hT.own hs7 (by omega)
    have hz7 := hs7.size
    refine Sa rfl rfl ?_
    refine as_nil (κ _ _ ?_)
    refine cw_ret ?_
    subst hge
    rw [List.take_of_length_le (by omega)] at hv
    exact ⟨_, (res_cell rfl (loadVar_n (n := 1) (by kernel_rfl) (by exact Blk.cells hor.1 rfl)) (res_tmp rfl res_nil)), _, _, rfl, hT, hv⟩
theorem hp_of {w : World} {M : Mem} {z : Int} {u : Value} {n : Nat} {xs : List El} (hs : Sat M w) (hr : Rds M w 2 u n (els xs)) (hn : n ≤ 1000000) : Does Tryz.prog 11 #[.pointer none, .int .i64 z, u] w (fun r w' => ∃ v' M', r = .tuple #[.agg #[v'], .int .i64 (emE z)] ∧ Step Nope M w M' w' ∧ HVal M' (emK z) (ofL z xs) v') := by
  by_cases hz : 1 ≤ z ∧ z ≤ 6
  · exact hp_of_1 hs hr hn hz
  · exact hp_of_0 hs hr hn hz
end Go.Proofs.YtgcgjpfjjgalmaaGreat
/- The elements of a heap, told one by one, part 1. -/
namespace Go.Proofs.YtgcgjpfjjgalmaaGreat
open Go Go.Eng
def elV (e : El) : Value := .agg (elc e).toArray
theorem dr_each {w : World} {M : Mem} {k : Nat} {l : List El} {v : Value} {z : Int} (hs : Sat M w) (h : HVal M k l v) :
    Does Tryz.prog 33 #[.pointer none, .agg #[v], .int .i64 z] w (fun r w' => ∃ b1 b2 b3 M', r = .func (.func 42) #[] #[.pointer (some ⟨b1, 0, none⟩), .pointer (some ⟨b2, 0, none⟩), .pointer (some ⟨b3, 0, none⟩)] ∧ Step Nope M w M' w' ∧ M' b1 = some ([.int .i64 z], 3) ∧ Own w' M' b2 [v] 29 ∧ M' b3 = some ([.pointer none], 63) ∧ w.heap.size ≤ b2) := by
  have hT := Step.refl Nope hs
  obtain h0 | ⟨d0, u0, hv0⟩ : v = .nilIface ∨ ∃ d u, v = .iface d u := by
    cases h <;> simp
  · subst h0
    refine fn_enter Tryz.func33 rfl (rs := [.tmp 6]) rfl rfl rfl rfl ?_
    refine cw_rs fun _ κ => ?_
    refine as_h rfl (h_boxM hs rfl rfl fun b1 M1 w1 hs1 hb1 e1 => ?_)
    replace h := h.mono hs1.le
    replace hT := hT.then hs1
    have hz1 := hs1.size
    have hqah := hT.size
    refine as_h rfl (h_boxO hs1.sat rfl rfl fun bh w2 hs2 hoh eh => ?_)
    replace h := h.mono hs2.le
    replace hb1 := hs2.le _ _ hb1
    replace hT := hT.then hs2
    have hz2 := hs2.size
    have hlh := hoh.1.lt
    refine as_h rfl (h_boxM hs2.sat rfl rfl fun b3 M3 w3 hs3 hb3 e3 => ?_)
    replace h := h.mono hs3.le
    replace hb1 := hs3.le _ _ hb1
    replace hoh := hoh.then hs3
    replace hT := hT.then hs3
    have hz3 := hs3.size
    refine Sa rfl rfl ?_
    refine as_nil (κ _ _ ?_)
    refine cw_rs fun _ κ => ?_
    refine as_q rfl rfl (q_func rfl rfl) ?_
    refine Sa rfl rfl ?_
    refine as_nil (κ _ _ ?_)
    refine cw_ret ?_
    refine ⟨_, (res_tmp rfl res_nil), _, _, _, _, rfl, hT, hb3, hoh, hb1, by omega⟩
  · subst hv0
    refine fn_enter Tryz.func33 rfl (rs := [.tmp 6]) rfl rfl rfl rfl ?_
    refine cw_rs fun _ κ => ?_
    refine as_h rfl (h_boxM hs rfl rfl fun b1 M1 w1 hs1 hb1 e1 => ?_)
    replace h := h.mono hs1.le
    replace hT := hT.then hs1
    have hz1 := hs1.size
    have hqah := hT.size
    refine as_h rfl (h_boxO hs1.sat rfl rfl fun bh w2 hs2 hoh eh => ?_)
    replace h := h.mono hs2.le
    replace hb1 := hs2.le _ _ hb1
    replace hT := hT.then hs2
    have hz2 := hs2.size
    have hlh := hoh.1.lt
    refine as_h rfl (h_boxM hs2.sat rfl rfl fun b3 M3 w3 hs3 hb3 e3 => ?_)
    replace h := h.mono hs3.le
    replace hb1 := hs3.le _ _ hb1
    replace hoh := hoh.then hs3
    replace hT := hT.then hs3
    have hz3 := hs3.size
    refine Sa rfl rfl ?_
    refine as_nil (κ _ _ ?_)
    refine cw_rs fun _ κ => ?_
    refine as_q rfl rfl (q_func rfl rfl) ?_
    refine Sa rfl rfl ?_
    refine as_nil (κ _ _ ?_)
    refine cw_ret ?_
    refine ⟨_, (res_tmp rfl res_nil), _, _, _, _, rfl, hT, hb3, hoh, hb1, by omega⟩
set_option maxRecDepth 2000 in
theorem dr_each1 {w : World} {M : Mem} {k b1 b2 b3 : Nat} {l : List El} {v : Value} {z : Int} (hb1 : M b1 = some ([.int .i64 z], 3)) (ho : Own w M b2 [v] 29) (hb3 : M b3 = some ([.pointer none], 63)) (hv : HVal M k l v) (hz0 : 0 ≤ z) (hlz : l.length < 1000000000) (hz9 : z ≤ 9223372036854775807) :
    IterOk Tryz.prog 42 [.pointer (some ⟨b1, 0, none⟩), .pointer (some ⟨b2, 0, none⟩), .pointer (some ⟨b3, 0, none⟩)] (Just b2) ((l.take z.toNat).map elV) M w := by
  intro r J M0 W0 h0 hW habide hround hJ
  replace hb1 := h0.le _ _ hb1
  replace hb3 := h0.le _ _ hb3
  replace hv := hv.mono h0.le
  replace ho := ho.step h0 (fun h => h rfl)
  refine fn_enter Tryz.func42 rfl (rs := []) rfl rfl rfl rfl ?_
  refine cw_rs fun _ κ => ?_
  refine Sa rfl rfl ?_
  refine as_nil (κ _ _ ?_)
  refine cw_block ?_
  refine cw_loop (fun mm l1 wL => ∃ (i : Nat) (q : List El) (v : Value) (M1 : Mem), mm = l.length - i ∧ i ≤ l.length ∧ (i : Int) ≤ z ∧ ((i : Int) < z → q = l.drop i) ∧ q.length ≤ l.length ∧ l1 = [(0, .func (.yield r) #[] #[]), (1, .pointer (some ⟨b1, 0, none⟩)), (2, .pointer (some ⟨b2, 0, none⟩)), (3, .pointer (some ⟨b3, 0, none⟩)), (5, .int .i64 i)] ∧ Le M0 M1 ∧ Sat M1 wL ∧ J i M1 wL ∧ HVal M1 k q v ∧ Own wL M1 b2 [v] 29) (l.length) [(0, .func (.yield r) #[] #[]), (1, .pointer (some ⟨b1, 0, none⟩)), (2, .pointer (some ⟨b2, 0, none⟩)), (3, .pointer (some ⟨b3, 0, none⟩)), (5, .int .i64 (0 : Nat))] (.cons rfl (.cons rfl (.cons rfl (.cons rfl (.cons rfl (.nil _)))))) ?_ ?_
  · skip
    exact ⟨0, l, v, M0, rfl, Nat.zero_le _, by omega, fun _ => rfl, Nat.le_refl _, rfl, Le.refl _, h0.sat, hJ, hv, ho⟩
  clear hJ hv ho
  rintro mm l1 wL ⟨i, q, v, M1, rfl, hi, hiz, hq, hql, rfl, hle, hst, hJ, hv, ho⟩
  have hT := Step.refl (Just b2) hst
  have hb1 := hle _ _ hb1
  have hb3 := hle _ _ hb3
  refine cw_seq fun _ hK2 => ?_
  have hcs : z ≤ i ∨ ((i : Int) < z ∧ q = []) ∨ ((i : Int) < z ∧ ∃ y q2, q = y :: q2) := by
    rcases Int.lt_or_le i z with h | h
    · cases q with
      | nil => exact .inr (.inl ⟨h, rfl⟩)
      | cons y q2 => exact .inr (.inr ⟨h, y, q2, rfl⟩)
    · exact .inl h
  rcases hcs with hA | ⟨hA, rfl⟩ | ⟨hA, y, q2, rfl⟩
  · skip
    skip
    refine cw_rs fun _ κ => ?_
    refine Sm rfl rfl ?_
    refine S1 rfl (by kernel_rfl) rfl (by exact BlkR.cell (hst _ _ _ hb1) rfl) ?_
    refine as_q rfl rfl (q_ltF rfl rfl (by omega)) ?_
    refine Sm rfl rfl ?_
    refine as_gskip rfl rfl rfl rfl rfl ?_
    refine as_gskip rfl rfl rfl rfl rfl ?_
    refine as_gskip rfl rfl rfl rfl rfl ?_
    refine as_q rfl rfl (q_pick_f rfl rfl) ?_
    refine as_nil (κ _ _ ?_)
    refine cw_false rfl ?_
    refine cw_exit ?_
    have e : i = (((l.take z.toNat).map elV)).length := by
      rw [List.length_map, List.length_take]
      omega
    exact ⟨_, res_nil, _, hT.sat, hle.trans hT.le, by rw [← e]; exact habide _ _ _ _ _ hJ hT⟩
  · skip
    have hdn := hq hA
    refine cw_rs fun _ κ => ?_
    refine Sm rfl rfl ?_
    refine S1 rfl (by kernel_rfl) rfl (by exact BlkR.cell (hst _ _ _ hb1) rfl) ?_
    refine as_q rfl rfl (q_ltT rfl rfl (by omega)) ?_
    refine Sm rfl rfl ?_
    refine as_gh rfl rfl rfl rfl (h_q rfl (q_loadc (n := 1) (by kernel_rfl) rfl (by exact Blk.cells ho.1 rfl)) ?_)
    refine as_gh rfl rfl rfl rfl (h_call (by kernel_rfl) rfl ?_)
    refine (hp_size hst hv (by omega)).mono ?_
    rintro _ w1 ⟨rfl, hs1⟩
    replace hv := hv.mono hs1.le
    replace ho := ho.then hs1
    replace hb1 := hs1.le _ _ hb1
    replace hb3 := hs1.le _ _ hb3
    replace hT := hT.then hs1
    have hz1 := hs1.size
    refine as_gh rfl rfl rfl rfl (h_q rfl (q_gtF rfl rfl (by simp)) ?_)
    refine as_q rfl rfl (q_pick_t rfl rfl) ?_
    refine as_nil (κ _ _ ?_)
    refine cw_false rfl ?_
    refine cw_exit ?_
    have e : i = (((l.take z.toNat).map elV)).length := by
      rw [List.length_map, List.length_take]
      have h1 := List.drop_eq_nil_iff.1 hdn.symm
      omega
    exact ⟨_, res_nil, _, hT.sat, hle.trans hT.le, by rw [← e]; exact habide _ _ _ _ _ hJ hT⟩
  · skip
    have hdn := hq hA
    have hil : i < l.length := by
      rcases Nat.lt_or_ge i l.length with h | h
      · exact h
      · rw [List.drop_eq_nil_of_le h] at hdn; cases hdn
    have hdc := List.drop_eq_getElem_cons hil
    rw [← hdn] at hdc
    obtain ⟨hy, hq2⟩ := List.cons.inj hdc
    subst hq2
    have hy1 : l[i]? = some y := by rw [hy]; exact List.getElem?_eq_getElem hil
    have hk0 : k ≠ 0 := by rintro rfl; cases hv.zero.1
    have hfe : fullE k (y :: l.drop (i + 1)) = 0 := by unfold fullE; rw [if_neg hk0, if_neg (by simp)]
    refine cw_rs fun _ κ => ?_
    refine Sm rfl rfl ?_
    refine S1 rfl (by kernel_rfl) rfl (by exact BlkR.cell (hst _ _ _ hb1) rfl) ?_
    refine as_q rfl rfl (q_ltT rfl rfl (by omega)) ?_
    refine Sm rfl rfl ?_
    refine as_gh rfl rfl rfl rfl (h_q rfl (q_loadc (n := 1) (by kernel_rfl) rfl (by exact Blk.cells ho.1 rfl)) ?_)
    refine as_gh rfl rfl rfl rfl (h_call (by kernel_rfl) rfl ?_)
    refine (hp_size hst hv (by omega)).mono ?_
    rintro _ w2 ⟨rfl, hs2⟩
    replace hv := hv.mono hs2.le
    replace ho := ho.then hs2
    replace hb1 := hs2.le _ _ hb1
    replace hb3 := hs2.le _ _ hb3
    replace hT := hT.then hs2
    have hz2 := hs2.size
    refine as_gh rfl rfl rfl rfl (h_q rfl (q_gtT rfl rfl (by simp only [List.length_cons]; omega)) ?_)
    refine as_q rfl rfl (q_pick_t rfl rfl) ?_
    refine as_nil (κ _ _ ?_)
    refine cw_true rfl ?_
    refine cw_skip ?_
    refine hK2 _ _ ?_
    refine cw_seq fun _ hK6 => ?_
    refine cw_block ?_
    refine cw_rs fun _ κ => ?_
    refine Sc 1 rfl (by kernel_rfl) rfl (by exact Blk.cells ho.1 rfl) ?_
    refine S1 rfl (by kernel_rfl) rfl (by exact BlkR.cell (hs2.sat _ _ _ hb3) rfl) ?_
    refine as_h rfl (h_call (by kernel_rfl) rfl ?_)
    refine (hp_min hs2.sat hv (by omega)).mono ?_
    rintro _ w3 ⟨hq3, hs3⟩
    rw [hfe] at hq3
    subst hq3
    replace hv := hv.mono hs3.le
    replace ho := ho.then hs3
    replace hb1 := hs3.le _ _ hb1
    replace hb3 := hs3.le _ _ hb3
    replace hT := hT.then hs3
    have hz3 := hs3.size
    refine Sm rfl rfl ?_
    refine Se rfl rfl rfl ?_
    refine Se rfl rfl rfl ?_
    have hlo := ho.1.lt
    have hqax := hT.size
    refine as_h rfl (h_allocO (z := (.agg #[(.int .i64 0), (.int .i64 0)])) hs3.sat (by kernel_rfl) rfl fun bx w4 hs4 hox ex => ?_)
    replace hv := hv.mono hs4.le
    replace ho := ho.then hs4
    replace hb1 := hs4.le _ _ hb1
    replace hb3 := hs4.le _ _ hb3
    replace hT := hT.then hs4
    have hz4 := hs4.size
    have hlx := hox.1.lt
    have hwx : wL.heap.size ≤ bx := by omega
    refine as_h0 (h_store hs4.sat hox rfl rfl rfl (by kernel_rfl) rfl rfl rfl fun w5 hs5 hn5 => ?_)
    replace hv := hv.mono hs5.le
    replace ho := ho.step hs5 (fun h => by have h : _ = _ := h; omega)
    replace hb1 := hs5.le _ _ hb1
    replace hb3 := hs5.le _ _ hb3
    clear hox; have hox := hn5; clear hn5
    replace hT := hT.own hs5 (by omega)
    have hz5 := hs5.size
    refine Sa rfl rfl ?_
    refine as_nil (κ _ _ ?_)
    refine cw_seq fun _ hK8 => ?_
    refine cw_rs fun _ κ => ?_
    refine Sm rfl rfl ?_
    refine as_q rfl rfl (q_neF rfl rfl (by omega)) ?_
    refine Sm rfl rfl ?_
    refine as_gh rfl rfl rfl rfl (h_q rfl (q_move rfl) ?_)
    refine as_gh rfl rfl rfl rfl (h_q rfl (q_loadc (n := 2) (by kernel_rfl) rfl (by exact Blk.cells hox.1 rfl)) ?_)
    have hJ2 := habide _ _ _ _ _ hJ hT
    have hTz := hT.size
    refine as_gh rfl rfl rfl rfl (h_yield rfl rfl ?_)
    obtain ⟨fn_, tm_, as_, bo_, hy2, hy3⟩ := hround i (elV y) _ _ (show (List.map elV (List.take z.toNat l))[i]? = some (elV y) by rw [List.getElem?_map, List.getElem?_take, if_pos (by omega), hy1]; rfl) hJ2 hT.sat (hle.trans hT.le)
    refine ⟨fn_, tm_, as_, bo_, hy2, RoundIn.mono hy3 fun e w6 he => ?_⟩
    cases e <;> try exact (he : False).elim
    obtain ⟨rfl, M2, hs6, hJ3⟩ := he
    replace hv := hv.mono hs6.le
    replace ho := ho.step hs6 (fun h => h rfl)
    replace hb1 := hs6.le _ _ hb1
    replace hb3 := hs6.le _ _ hb3
    clear hox
    have hle2 := (hle.trans hT.le).trans hs6.le
    have hz6 := hs6.size
    clear hT
    have hT := Step.refl (Just b2) hs6.sat
    refine as_gh rfl rfl rfl rfl (h_q rfl (q_not rfl) ?_)
    refine as_q rfl rfl (q_pick_f rfl rfl) ?_
    refine as_nil (κ _ _ ?_)
    refine cw_false rfl ?_
    refine cw_skip ?_
    refine hK8 _ _ ?_
    refine cw_rs fun _ κ => ?_
    refine Sm rfl rfl ?_
    refine as_q rfl rfl (q_addx rfl rfl (by omega) (by omega)) ?_
    refine S1 rfl (by kernel_rfl) rfl (by exact BlkR.cell (hs6.sat _ _ _ hb1) rfl) ?_
    refine as_q rfl rfl (q_lt rfl rfl) ?_
    refine as_nil (κ _ _ ?_)
    refine cw_cond rfl (fun hc2 => ?_) (fun hc2 => ?_)
    · skip
      replace hc2 := of_decide_eq_true hc2
      skip
      · skip
        refine cw_region fun _ κ => ?_
        refine Sc 1 rfl (by kernel_rfl) rfl (by exact Blk.cells ho.1 rfl) ?_
        refine S1 rfl (by kernel_rfl) rfl (by exact BlkR.cell (hs6.sat _ _ _ hb3) rfl) ?_
        refine as_h rfl (h_call (by kernel_rfl) rfl ?_)
        refine (hp_pop hs6.sat hv (by omega)).mono ?_
        rintro _ w7 ⟨vn, Mn, hq7, hs7, hn⟩
        rw [hfe] at hq7
        subst hq7
        replace hn : HVal Mn k (l.drop (i + 1)) vn := hn
        obtain ⟨dn, un, rfl⟩ := hn.iface hk0
        replace hv := hv.mono hs7.le
        replace ho := ho.then hs7
        replace hT := hT.then hs7
        have hz7 := hs7.size
        refine Sm rfl rfl ?_
        refine Se rfl rfl rfl ?_
        refine Se rfl rfl rfl ?_
        refine as_h0 (h_store hs7.sat ho rfl rfl rfl (by kernel_rfl) rfl rfl rfl fun w8 hs8 hn8 => ?_)
        replace hv := hv.mono hs8.le
        replace hn := hn.mono hs8.le
        clear ho; have ho := hn8; clear hn8
        replace hT := hT.also hs8
        have hz8 := hs8.size
        refine as_nil (κ _ _ ?_)
        refine hK6 _ _ ?_
        refine cw_region fun _ κ => ?_
        refine Sm rfl rfl ?_
        refine as_q rfl rfl (q_addx rfl rfl (by omega) (by omega)) ?_
        refine Sa rfl rfl ?_
        refine as_nil (κ _ _ ?_)
        refine ⟨_, _, ?_, (.cons rfl (.cons rfl (.cons rfl (.cons rfl (.cons rfl (.nil _)))))), i + 1, l.drop (i + 1), _, _, rfl, by omega, by omega, fun _ => rfl, by rw [List.length_drop]; omega, rfl, hle2.trans hT.le, hT.sat, habide _ _ _ _ _ hJ3 hT, hn, ho⟩
        omega
    · skip
      replace hc2 := of_decide_eq_false hc2
      skip
      · skip
        refine cw_skip ?_
        refine hK6 _ _ ?_
        refine cw_region fun _ κ => ?_
        refine Sm rfl rfl ?_
        refine as_q rfl rfl (q_addx rfl rfl (by omega) (by omega)) ?_
        refine Sa rfl rfl ?_
        refine as_nil (κ _ _ ?_)
        refine ⟨_, _, ?_, (.cons rfl (.cons rfl (.cons rfl (.cons rfl (.cons rfl (.nil _)))))), i + 1, _, _, _, rfl, by omega, by omega, fun h => absurd h (by omega), hql, rfl, hle2.trans hT.le, hT.sat, habide _ _ _ _ _ hJ3 hT, hv, ho⟩
        omega
end Go.Proofs.YtgcgjpfjjgalmaaGreat
/- The reference of elements, part 1. -/
namespace Go.Proofs.YtgcgjpfjjgalmaaGreat
open Go Go.Eng
theorem ref_less {w : World} {M : Mem} {a b : El} (hs : Sat M w) :
    Does Tryz.prog 41 #[.agg (elc a).toArray, .agg (elc b).toArray] w (fun v w' => v = .bool (ltE a b) ∧ Step Nope M w M w') := by
  have hT := Step.refl Nope hs
  refine fn_enter Tryz.func41 rfl (rs := [.tmp 4]) rfl rfl rfl rfl ?_
  refine cw_rs fun _ κ => ?_
  have hqa1 := hT.size
  refine as_h rfl (h_boxO hs rfl rfl fun b1 w1 hs1 ho1 e1 => ?_)
  replace hT := hT.then hs1
  have hz1 := hs1.size
  have hl1 := ho1.1.lt
  have hqa2 := hT.size
  refine as_h rfl (h_boxO hs1.sat rfl rfl fun b2 w2 hs2 ho2 e2 => ?_)
  replace ho1 := ho1.then hs2
  replace hT := hT.then hs2
  have hz2 := hs2.size
  have hl2 := ho2.1.lt
  refine Sa rfl rfl ?_
  refine as_nil (κ _ _ ?_)
  have hc3 : a.1 < b.1 ∨ (¬ a.1 < b.1 ∧ a.1 = b.1 ∧ a.2 < b.2) ∨ (¬ a.1 < b.1 ∧ a.1 = b.1 ∧ ¬ a.2 < b.2) ∨ (¬ a.1 < b.1 ∧ a.1 ≠ b.1) := by omega
  rcases hc3 with h1 | ⟨h1, h2, h3⟩ | ⟨h1, h2, h3⟩ | ⟨h1, h2⟩
  · skip
    refine cw_rs fun _ κ => ?_
    refine Sf 0 rfl (by kernel_rfl) rfl ?_
    refine S1 rfl (by kernel_rfl) rfl (by exact Blk.cell ho1.1 rfl) ?_
    refine Sf 0 rfl (by kernel_rfl) rfl ?_
    refine S1 rfl (by kernel_rfl) rfl (by exact Blk.cell ho2.1 rfl) ?_
    refine as_q rfl rfl (q_ltT rfl rfl (by omega)) ?_
    refine Sm rfl rfl ?_
    refine as_gskip rfl rfl rfl rfl rfl ?_
    refine as_gskip rfl rfl rfl rfl rfl ?_
    refine as_gskip rfl rfl rfl rfl rfl ?_
    refine as_gskip rfl rfl rfl rfl rfl ?_
    refine as_gskip rfl rfl rfl rfl rfl ?_
    refine as_gskip rfl rfl rfl rfl rfl ?_
    refine as_gskipU rfl rfl rfl rfl ?_
    refine as_gskipU rfl rfl rfl rfl ?_
    refine as_gskipU rfl rfl rfl rfl ?_
    refine as_gskipU rfl rfl rfl rfl ?_
    refine as_gskipU rfl rfl rfl rfl ?_
    refine as_gskip rfl rfl rfl rfl rfl ?_
    refine as_q rfl rfl (q_pick_t rfl rfl) ?_
    refine Sa rfl rfl ?_
    refine as_nil (κ _ _ ?_)
    refine cw_ret ?_
    exact ⟨_, (res_tmp rfl res_nil), by rw [ltE_iff.2 (by omega)]; rfl, hT.forget⟩
  · skip
    refine cw_rs fun _ κ => ?_
    refine Sf 0 rfl (by kernel_rfl) rfl ?_
    refine S1 rfl (by kernel_rfl) rfl (by exact Blk.cell ho1.1 rfl) ?_
    refine Sf 0 rfl (by kernel_rfl) rfl ?_
    refine S1 rfl (by kernel_rfl) rfl (by exact Blk.cell ho2.1 rfl) ?_
    refine as_q rfl rfl (q_ltF rfl rfl (by omega)) ?_
    refine Sm rfl rfl ?_
    refine as_gh rfl rfl rfl rfl (h_q rfl (q_fieldAddr (off := 0) (by kernel_rfl) rfl) ?_)
    refine as_gh rfl rfl rfl rfl (h_q rfl (q_load1 (by kernel_rfl) rfl (by exact Blk.cell ho1.1 rfl)) ?_)
    refine as_gh rfl rfl rfl rfl (h_q rfl (q_fieldAddr (off := 0) (by kernel_rfl) rfl) ?_)
    refine as_gh rfl rfl rfl rfl (h_q rfl (q_load1 (by kernel_rfl) rfl (by exact Blk.cell ho2.1 rfl)) ?_)
    refine as_gh rfl rfl rfl rfl (h_q rfl (q_eqT rfl rfl (by omega)) ?_)
    refine as_gh rfl rfl rfl rfl (h_q rfl (q_move rfl) ?_)
    refine as_gh rfl rfl rfl rfl (h_q rfl (q_fieldAddr (off := 1) (by kernel_rfl) rfl) ?_)
    refine as_gh rfl rfl rfl rfl (h_q rfl (q_load1 (by kernel_rfl) rfl (by exact Blk.cell ho1.1 rfl)) ?_)
    refine as_gh rfl rfl rfl rfl (h_q rfl (q_fieldAddr (off := 1) (by kernel_rfl) rfl) ?_)
    refine as_gh rfl rfl rfl rfl (h_q rfl (q_load1 (by kernel_rfl) rfl (by exact Blk.cell ho2.1 rfl)) ?_)
    refine as_gh rfl rfl rfl rfl (h_q rfl (q_ltT rfl rfl (by omega)) ?_)
    refine as_gh rfl rfl rfl rfl (h_q rfl (q_pick_t rfl rfl) ?_)
    refine as_q rfl rfl (q_pick_f rfl rfl) ?_
    refine Sa rfl rfl ?_
    refine as_nil (κ _ _ ?_)
    refine cw_ret ?_
    exact ⟨_, (res_tmp rfl res_nil), by rw [ltE_iff.2 (by omega)]; rfl, hT.forget⟩
  · skip
    refine cw_rs fun _ κ => ?_
    refine Sf 0 rfl (by kernel_rfl) rfl ?_
    refine S1 rfl (by kernel_rfl) rfl (by exact Blk.cell ho1.1 rfl) ?_
    refine Sf 0 rfl (by kernel_rfl) rfl ?_
    refine S1 rfl (by kernel_rfl) rfl (by exact Blk.cell ho2.1 rfl) ?_
    refine as_q rfl rfl (q_ltF rfl rfl (by omega)) ?_
    refine Sm rfl rfl ?_
    refine as_gh rfl rfl rfl rfl (h_q rfl (q_fieldAddr (off := 0) (by kernel_rfl) rfl) ?_)
    refine as_gh rfl rfl rfl rfl (h_q rfl (q_load1 (by kernel_rfl) rfl (by exact Blk.cell ho1.1 rfl)) ?_)
    refine as_gh rfl rfl rfl rfl (h_q rfl (q_fieldAddr (off := 0) (by kernel_rfl) rfl) ?_)
    refine as_gh rfl rfl rfl rfl (h_q rfl (q_load1 (by kernel_rfl) rfl (by exact Blk.cell ho2.1 rfl)) ?_)
    refine as_gh rfl rfl rfl rfl (h_q rfl (q_eqT rfl rfl (by omega)) ?_)
    refine as_gh rfl rfl rfl rfl (h_q rfl (q_move rfl) ?_)
    refine as_gh rfl rfl rfl rfl (h_q rfl (q_fieldAddr (off := 1) (by kernel_rfl) rfl) ?_)
    refine as_gh rfl rfl rfl rfl (h_q rfl (q_load1 (by kernel_rfl) rfl (by exact Blk.cell ho1.1 rfl)) ?_)
    refine as_gh rfl rfl rfl rfl (h_q rfl (q_fieldAddr (off := 1) (by kernel_rfl) rfl) ?_)
    refine as_gh rfl rfl rfl rfl (h_q rfl (q_load1 (by kernel_rfl) rfl (by exact Blk.cell ho2.1 rfl)) ?_)
    refine as_gh rfl rfl rfl rfl (h_q rfl (q_ltF rfl rfl (by omega)) ?_)
    refine as_gh rfl rfl rfl rfl (h_q rfl (q_pick_t rfl rfl) ?_)
    refine as_q rfl rfl (q_pick_f rfl rfl) ?_
    refine Sa rfl rfl ?_
    refine as_nil (κ _ _ ?_)
    refine cw_ret ?_
    exact ⟨_, (res_tmp rfl res_nil), by rw [ltE_not.2 (by omega)]; rfl, hT.forget⟩
  · skip
    refine cw_rs fun _ κ => ?_
    refine Sf 0 rfl (by kernel_rfl) rfl ?_
    refine S1 rfl (by kernel_rfl) rfl (by exact Blk.cell ho1.1 rfl) ?_
    refine Sf 0 rfl (by kernel_rfl) rfl ?_
    refine S1 rfl (by kernel_rfl) rfl (by exact Blk.cell ho2.1 rfl) ?_
    refine as_q rfl rfl (q_ltF rfl rfl (by omega)) ?_
    refine Sm rfl rfl ?_
    refine as_gh rfl rfl rfl rfl (h_q rfl (q_fieldAddr (off := 0) (by kernel_rfl) rfl) ?_)
    refine as_gh rfl rfl rfl rfl (h_q rfl (q_load1 (by kernel_rfl) rfl (by exact Blk.cell ho1.1 rfl)) ?_)
    refine as_gh rfl rfl rfl rfl (h_q rfl (q_fieldAddr (off := 0) (by kernel_rfl) rfl) ?_)
    refine as_gh rfl rfl rfl rfl (h_q rfl (q_load1 (by kernel_rfl) rfl (by exact Blk.cell ho2.1 rfl)) ?_)
    refine as_gh rfl rfl rfl rfl (h_q rfl (q_eqF rfl rfl (by omega)) ?_)
    refine as_gh rfl rfl rfl rfl (h_q rfl (q_move rfl) ?_)
    refine as_gskip rfl rfl rfl rfl rfl ?_
    refine as_gskip rfl rfl rfl rfl rfl ?_
    refine as_gskip rfl rfl rfl rfl rfl ?_
    refine as_gskip rfl rfl rfl rfl rfl ?_
    refine as_gskip rfl rfl rfl rfl rfl ?_
    refine as_gh rfl rfl rfl rfl (h_q rfl (q_pick_f rfl rfl) ?_)
    refine as_q rfl rfl (q_pick_f rfl rfl) ?_
    refine Sa rfl rfl ?_
    refine as_nil (κ _ _ ?_)
    refine cw_ret ?_
    exact ⟨_, (res_tmp rfl res_nil), by rw [ltE_not.2 (by omega)]; rfl, hT.forget⟩
theorem ref_put {w : World} {M : Mem} {u : Value} {n : Nat} {xs : List El} {x : El} (hs : Sat M w) (hr : RdM M 2 u n (els xs)) (hn : n ≤ 1000000) :
    Does Tryz.prog 32 #[u, .agg (elc x).toArray] w (fun v w' => ∃ M', Step Nope M w M' w' ∧ RdM M' 2 v (n + 1) (els (putE xs x))) := by
  have hT := Step.refl Nope hs
  have hxl := (hr.rds w).els_len hs
  obtain ⟨sa, sc, rfl, hsc, _⟩ := hr.slice
  refine fn_enter Tryz.func32 rfl (rs := [.tmp 4]) rfl rfl rfl rfl ?_
  refine cw_rs fun _ κ => ?_
  have hqa1 := hT.size
  refine as_h rfl (h_boxO hs rfl rfl fun b1 w1 hs1 ho1 e1 => ?_)
  replace hr := hr.mono hs1.le
  replace hT := hT.then hs1
  have hz1 := hs1.size
  have hl1 := ho1.1.lt
  refine Sa rfl rfl ?_
  refine as_nil (κ _ _ ?_)
  refine cw_rs fun _ κ => ?_
  refine Sa rfl rfl ?_
  refine as_nil (κ _ _ ?_)
  refine cw_seq fun _ hK3 => ?_
  refine cw_block ?_
  refine cw_loop (fun mm l w1 => ∃ i : Nat, mm = n - i ∧ i ≤ n ∧ (∀ j e, j < i → xs[j]? = some e → ltE e x = true) ∧ l = [(0, .slice sa n sc), (3, .pointer (some ⟨b1, 0, none⟩)), (5, .int .i64 i)] ∧ Step Nope M w M w1 ∧ Own w1 M b1 (elc x) 24) (n) [(0, .slice sa n sc), (3, .pointer (some ⟨b1, 0, none⟩)), (5, .int .i64 (0 : Nat))] (.cons rfl (.cons rfl (.cons rfl (.nil _)))) ?_ ?_
  · skip
    exact ⟨0, rfl, Nat.zero_le _, fun j e hj => by omega, rfl, hT, ho1⟩
  have hb1w : w.heap.size ≤ b1 := by omega
  clear hT ho1
  rintro mm l w1 ⟨i, rfl, hi, hpre, rfl, hT, ho1⟩
  refine cw_seq fun _ hK4 => ?_
  refine cw_cutS (fun l w1 => ∃ (bb : Bool), (bb = true → i < n ∧ ∀ e, xs[i]? = some e → ltE e x = true) ∧ (bb = false → ∀ e, xs[i]? = some e → ltE e x = false) ∧ l = [(0, .slice sa n sc), (3, .pointer (some ⟨b1, 0, none⟩)), (5, .int .i64 i), (18, .bool bb)] ∧ Step Nope M w M w1 ∧ Own w1 M b1 (elc x) 24) ?_ ?_
  · skip
    have hio : i = n ∨ i < n := by omega
    rcases hio with hio | hio
    · skip
      refine cw_drawn (by kernel_rfl) (by kernel_rfl) (by kernel_rfl) rfl rfl fun K5 hK5 => ?_
      have hs2 := Step.drew hT.sat
      have hz2 := hs2.size
      replace hr := hr.mono hs2.le
      replace ho1 := ho1.then hs2
      replace hT := hT.then hs2
      refine Dm 0 1 rfl (by kernel_rfl) rfl ?_
      refine Dm 1 3 rfl (by kernel_rfl) rfl ?_
      refine Dq 2 7 rfl (by kernel_rfl) (fun _ => (q_len (by kernel_rfl) rfl _)) ?_
      refine Dq 3 15 rfl (by kernel_rfl) (fun _ => (q_ltF rfl rfl (by omega))) ?_
      refine Dm 4 31 rfl (by kernel_rfl) rfl ?_
      refine Dgs 5 63 rfl (by kernel_rfl) rfl rfl ?_
      refine Dgs 6 127 rfl (by kernel_rfl) rfl rfl ?_
      refine Dgs 7 255 rfl (by kernel_rfl) rfl rfl ?_
      refine Dgs 8 511 rfl (by kernel_rfl) rfl rfl ?_
      refine Dgs 9 1023 rfl (by kernel_rfl) rfl rfl ?_
      refine Dgs 10 2047 rfl (by kernel_rfl) rfl rfl ?_
      refine Dq 11 4095 rfl (by kernel_rfl) (fun _ => (q_pick_f rfl rfl)) ?_
      refine Dd (by kernel_rfl) (hK5 _ _ ?_)
      exact ⟨_, (.cons rfl (.cons rfl (.cons rfl (.cons rfl (.nil _))))), _, (fun h => by cases h), (fun _ e he => by rw [List.getElem?_eq_none (by omega)] at he; cases he), rfl, hT, ho1⟩
    · skip
      obtain ⟨y, hy⟩ : ∃ y, xs[i]? = some y := ⟨xs[i], by simp⟩
      obtain ⟨g, o, rfl⟩ := hr.there (by omega)
      refine cw_drawn (by kernel_rfl) (by kernel_rfl) (by kernel_rfl) rfl rfl fun K6 hK6 => ?_
      have hs3 := Step.drew hT.sat
      have hz3 := hs3.size
      replace hr := hr.mono hs3.le
      replace ho1 := ho1.then hs3
      replace hT := hT.then hs3
      refine Dm 0 1 rfl (by kernel_rfl) rfl ?_
      refine Dm 1 3 rfl (by kernel_rfl) rfl ?_
      refine Dq 2 7 rfl (by kernel_rfl) (fun _ => (q_len (by kernel_rfl) rfl _)) ?_
      refine Dq 3 15 rfl (by kernel_rfl) (fun _ => (q_ltT rfl rfl (by omega))) ?_
      refine Dm 4 31 rfl (by kernel_rfl) rfl ?_
      refine Dgq 5 63 rfl (by kernel_rfl) rfl rfl (fun _ => (q_move rfl)) ?_
      refine Dgq 6 127 rfl (by kernel_rfl) rfl rfl (fun _ => (q_move rfl)) ?_
      refine Dgq 7 255 rfl (by kernel_rfl) rfl rfl (fun _ => (q_indexAddr (e := 24) (size := 2) (by kernel_rfl) (by kernel_rfl) rfl rfl (by omega) (by omega))) ?_
      refine at_gq (i := 8) (li := lb 12 511) (cellsAre _ _ 2 _) rfl (by kernel_rfl) rfl rfl rfl rfl (fun _ h => q_loadc (n := 2) (by kernel_rfl) rfl h) ((hr.rd hT.sat).el (j := (i : Int).toNat) (by simpa using hy)) (by kernel_rfl) ?_
      refine at_gq (i := 9) (li := lb 12 1023) (cellsAre _ _ 2 _) rfl (by kernel_rfl) rfl rfl rfl rfl (fun _ h => q_loadc (n := 2) (by kernel_rfl) rfl h) (by exact Blk.cells ho1.1 rfl) (by kernel_rfl) ?_
      refine Dgh 10 2047 rfl (by kernel_rfl) rfl rfl rfl (h_call (by kernel_rfl) rfl ?_)
      refine (ref_less (a := y) (b := x) hs3.sat).mono ?_
      rintro _ w4 ⟨rfl, hs4⟩
      replace hr := hr.mono hs4.le
      replace ho1 := ho1.then hs4
      replace hT := hT.then hs4
      have hz4 := hs4.size
      refine ⟨(by repeat' first | exact trivial | exact Blk.cell ho1.1 rfl | exact Blk.cells ho1.1 rfl | exact ((hr.rd hT.sat).el (j := (i : Int).toNat) (by simpa using hy)) | assumption | refine all_keep ?_ | refine And.intro ?_ ?_), ?_⟩
      refine Dq 11 4095 rfl (by kernel_rfl) (fun _ => (q_pick_t rfl rfl)) ?_
      refine Dd (by kernel_rfl) (hK6 _ _ ?_)
      exact ⟨_, (.cons rfl (.cons rfl (.cons rfl (.cons rfl (.nil _))))), _, (fun h => ⟨hio, fun e he => by rw [hy] at he; cases he; exact h⟩), (fun h e he => by rw [hy] at he; cases he; exact h), rfl, hT, ho1⟩
  clear hT ho1
  rintro l w2 ⟨bb, hbt, hbf, rfl, hT, ho1⟩
  refine cw_cond rfl (fun hc0 => ?_) (fun hc0 => ?_)
  · skip
    obtain ⟨hlt, hyl⟩ := hbt hc0
    refine cw_skip ?_
    refine hK4 _ _ ?_
    refine cw_block ?_
    refine cw_region fun _ κ => ?_
    refine Sm rfl rfl ?_
    refine as_q rfl rfl (q_addx rfl rfl (by omega) (by omega)) ?_
    refine Sa rfl rfl ?_
    refine as_nil (κ _ _ ?_)
    exact ⟨_, _, by omega, (.cons rfl (.cons rfl (.cons rfl (.nil _)))), i + 1, rfl, by omega, fun j e hj he => by
      rcases Nat.lt_or_ge j i with h | h
      · exact hpre j e h he
      · obtain rfl : j = i := by omega
        exact hyl e he, rfl, hT, ho1⟩
  · skip
    have hst := hbf hc0
    refine cw_exit ?_
    refine hK3 _ _ ?_
    refine cw_rs fun _ κ => ?_
    refine Sa rfl rfl ?_
    refine as_nil (κ _ _ ?_)
    refine cw_rs fun _ κ => ?_
    refine Sm rfl rfl ?_
    refine Sm rfl rfl ?_
    refine Sm rfl rfl ?_
    refine as_q rfl rfl (q_slice (e := 24) (size := 2) (k := .i64) (by kernel_rfl) (by kernel_rfl) rfl rfl rfl (by omega) (by omega) (by omega)) ?_
    have nofl : ∀ g, (Value.slice none 0 0).ownBlock = some g → w.heap.size ≤ g := fun g hg => by cases hg
    have hlb := ho1.1.lt
    have hq5 := hT.size
    refine as_h rfl (h_append (e := 24) (size := 2) (bytes := 16) (by kernel_rfl) hT.sat (Buf.nil _ _ 24 2) (((hr.rd hT.sat).front i (by omega) (by omega))) rfl rfl (els_one _) (by omega) rfl fun hcv w5 hs5 hcb hco => ?_)
    replace hr := hr.mono hs5.le
    replace ho1 := ho1.step hs5 (fun h => by cases h)
    have hcf := floor_of hco nofl hq5
    replace hT := hT.trans hs5 (fun k hk h => absurd (nofl k h) (by omega))
    have hz5 := hs5.size
    have hc1 := lt_of_app (B := b1) hco (by intro h; cases h) (by omega)
    refine Sa rfl rfl ?_
    refine as_nil (κ _ _ ?_)
    refine cw_rs fun _ κ => ?_
    refine Sm rfl rfl ?_
    refine Sc 2 rfl (by kernel_rfl) rfl (by exact Blk.cells ho1.1 rfl) ?_
    refine as_h rfl (h_buildO (e := 24) (size := 2) (zs := [(.int .i64 0), (.int .i64 0)]) (cs := [_, _]) (by kernel_rfl) (by kernel_rfl) (by kernel_rfl) rfl hs5.sat rfl rfl fun b6 w6 hs6 ho6 e6 => ?_)
    replace hr := hr.mono hs6.le
    replace hcb := hcb.then hs6
    replace hT := hT.then hs6
    have hz6 := hs6.size
    have hl6 := ho6.1.lt
    have hlt1 := hcb.lt
    have hq7 := hT.size
    refine as_h rfl (h_append (e := 24) (size := 2) (bytes := 16) (by kernel_rfl) hs6.sat hcb ((Own.buf ho6 (n := 1) (size := 2) rfl (by decide)).rd) rfl rfl (by simp [Value.oneCell']) (by omega) rfl fun hdv w7 hs7 hdb hdo => ?_)
    replace hr := hr.mono hs7.le
    clear ho6
    have hdf := floor_of hdo hcf hq7
    replace hT := hT.trans hs7 (fun k hk h => absurd (hcf k h) (by omega))
    have hz7 := hs7.size
    refine Sa rfl rfl ?_
    refine as_nil (κ _ _ ?_)
    refine cw_rs fun _ κ => ?_
    refine Sm rfl rfl ?_
    refine Sm rfl rfl ?_
    refine Sm rfl rfl ?_
    refine as_q rfl rfl (q_slice (e := 24) (size := 2) (k' := .i64) (by kernel_rfl) (by kernel_rfl) rfl rfl rfl (by omega) (by omega) (by omega)) ?_
    have hq8 := hT.size
    refine as_h rfl (h_append (e := 24) (size := 2) (bytes := 16) (by kernel_rfl) hs7.sat hdb (((hr.rd hs7.sat).rest i (by omega) (by omega))) rfl rfl (els_one _) (by omega) rfl fun hev w8 hs8 heb heo => ?_)
    have hef := floor_of heo hdf hq8
    replace hT := hT.trans hs8 (fun k hk h => absurd (hdf k h) (by omega))
    have hz8 := hs8.size
    refine Sa rfl rfl ?_
    refine as_nil (κ _ _ ?_)
    refine cw_ret ?_
    obtain ⟨M9, h9, _, hr9, _⟩ := hT.freezeB heb hef
    have hput := putE_at (x := x) (i := i) (by omega) hpre hst
    exact ⟨_, (res_tmp rfl res_nil), M9, h9, hr9.cast rfl (by omega) (by rw [hput, els_append, els_cons]; simp [elc])⟩
theorem rdM_nil (M : Mem) (size : Nat) : RdM M size (.slice none 0 0) 0 [] := ⟨by simp, .inl ⟨rfl, none, 0, rfl, fun _ => rfl⟩⟩
theorem ref_sort {w : World} {M : Mem} {u : Value} {n : Nat} {xs : List El} (hs : Sat M w) (hr : RdM M 2 u n (els xs)) (hn : n ≤ 1000000) :
    Does Tryz.prog 12 #[u] w (fun v w' => ∃ M', Step Nope M w M' w' ∧ RdM M' 2 v n (els (srtE xs))) := by
  have hT := Step.refl Nope hs
  have hxl := (hr.rds w).els_len hs
  obtain ⟨sa, sc, rfl, hsc, _⟩ := hr.slice
  refine fn_enter Tryz.func12 rfl (rs := [.tmp 2]) rfl rfl rfl rfl ?_
  refine cw_rs fun _ κ => ?_
  refine Sa rfl rfl ?_
  refine as_nil (κ _ _ ?_)
  refine cw_rs fun _ κ => ?_
  refine Sa rfl rfl ?_
  refine as_nil (κ _ _ ?_)
  refine cw_seq fun _ hK3 => ?_
  refine cw_rs fun _ κ => ?_
  refine Sa rfl rfl ?_
  refine as_nil (κ _ _ ?_)
  refine cw_block ?_
  refine cw_loop (fun mm l w1 => ∃ (i : Nat) (ov : Value) (M1 : Mem), mm = n - i ∧ i ≤ n ∧ l = [(0, .slice sa n sc), (3, ov), (4, .int .i64 i)] ∧ Step Nope M w M1 w1 ∧ RdM M1 2 ov i (els (srtE (xs.take i)))) (n) [(0, .slice sa n sc), (3, .slice none 0 0), (4, .int .i64 (0 : Nat))] (.cons rfl (.cons rfl (.cons rfl (.nil _)))) ?_ ?_
  · skip
    exact ⟨0, _, M, rfl, Nat.zero_le _, rfl, hT, rdM_nil M 2⟩
  clear hT
  rintro mm l w1 ⟨i, ov, M1, rfl, hi, rfl, hT, hb⟩
  replace hr := hr.mono hT.le
  refine cw_seq fun _ hK5 => ?_
  refine cw_rs fun _ κ => ?_
  refine Sm rfl rfl ?_
  refine Sm rfl rfl ?_
  refine as_q rfl rfl (q_len (by kernel_rfl) rfl _) ?_
  refine as_q rfl rfl (q_lt rfl rfl) ?_
  refine as_nil (κ _ _ ?_)
  refine cw_cond rfl (fun hc0 => ?_) (fun hc0 => ?_)
  · skip
    have hlt : i < n := by have := of_decide_eq_true hc0; omega
    obtain ⟨x, hx⟩ : ∃ y, xs[i]? = some y := ⟨xs[i], by simp⟩
    obtain ⟨g, o, rfl⟩ := hr.there (by omega)
    refine cw_skip ?_
    refine hK5 _ _ ?_
    refine cw_seq fun _ hK7 => ?_
    refine cw_block ?_
    refine cw_region fun _ κ => ?_
    refine Sm rfl rfl ?_
    refine Sm rfl rfl ?_
    refine Sm rfl rfl ?_
    refine as_q rfl rfl (q_indexAddr (e := 24) (size := 2) (by kernel_rfl) (by kernel_rfl) rfl rfl (by omega) (by omega)) ?_
    refine Sc 2 rfl (by kernel_rfl) rfl ((hr.rd hT.sat).el (j := (i : Int).toNat) (by simpa using hx)) ?_
    refine as_h rfl (h_call (by kernel_rfl) rfl ?_)
    refine (ref_put hT.sat hb (by omega)).mono ?_
    rintro ov2 w1 ⟨M2, hs1, hb2⟩
    replace hT := hT.then hs1
    refine Sa rfl rfl ?_
    refine as_nil (κ _ _ ?_)
    refine hK7 _ _ ?_
    refine cw_region fun _ κ => ?_
    refine Sm rfl rfl ?_
    refine as_q rfl rfl (q_addx rfl rfl (by omega) (by omega)) ?_
    refine Sa rfl rfl ?_
    refine as_nil (κ _ _ ?_)
    refine ⟨_, _, ?_, (.cons rfl (.cons rfl (.cons rfl (.nil _)))), i + 1, ov2, M2, rfl, by omega, rfl, hT, ?_⟩
    · omega
    · rw [List.take_add_one, hx]
      exact hb2.cast rfl rfl (by rw [← srtE_snoc]; rfl)
  · skip
    have hge : i = n := by have := of_decide_eq_false hc0; omega
    refine cw_exit ?_
    refine hK3 _ _ ?_
    refine cw_rs fun _ κ => ?_
    refine Sm rfl rfl ?_
    refine Sa rfl rfl ?_
    refine as_nil (κ _ _ ?_)
    refine cw_ret ?_
    exact ⟨_, (res_tmp rfl res_nil), M1, hT, by rw [hge, show xs.take n = xs from by rw [← hxl, List.take_length]] at hb; exact hb⟩
theorem ref_same {w : World} {M : Mem} {va vb : Value} {n m : Nat} {xs ys : List El} (hs : Sat M w) (hn : n ≤ 1000000) (hr : Rds M w 2 va n (els xs)) (hr2 : Rds M w 2 vb m (els ys)) :
    Does Tryz.prog 15 #[va, vb] w (fun v w' => v = .bool (decide (xs = ys)) ∧ Step Nope M w M w') := by
  have hT := Step.refl Nope hs
  have hl1 := hr.els_len hs
  have hl2 := hr2.els_len hs
  obtain ⟨a, c, rfl, hac, _⟩ := hr.slice hs
  obtain ⟨b, d, rfl, hbd, _⟩ := hr2.slice hs
  refine fn_enter Tryz.func15 rfl (rs := [.tmp 4]) rfl rfl rfl rfl ?_
  refine cw_rs fun _ κ => ?_
  refine Sa rfl rfl ?_
  refine as_nil (κ _ _ ?_)
  refine cw_seq fun _ hK2 => ?_
  refine cw_rs fun _ κ => ?_
  refine Sm rfl rfl ?_
  refine as_q rfl rfl (q_len (by kernel_rfl) rfl _) ?_
  refine Sm rfl rfl ?_
  refine as_q rfl rfl (q_len (by kernel_rfl) rfl _) ?_
  refine as_q rfl rfl (q_ne rfl rfl) ?_
  refine as_nil (κ _ _ ?_)
  refine cw_cond rfl (fun hc0 => ?_) (fun hc0 => ?_)
  · skip
    have hne : n ≠ m := by simp at hc0; omega
    refine cw_rs fun _ κ => ?_
    refine Sa rfl rfl ?_
    refine as_nil (κ _ _ ?_)
    refine cw_ret ?_
    exact ⟨_, (res_tmp rfl res_nil), by rw [decide_eq_false (fun h => hne (by rw [← hl1, ← hl2, h]))]; rfl, hT⟩
  · skip
    have hne : n = m := by simp at hc0; omega
    refine cw_skip ?_
    refine hK2 _ _ ?_
    refine cw_seq fun _ hK5 => ?_
    refine cw_rs fun _ κ => ?_
    refine Sa rfl rfl ?_
    refine as_nil (κ _ _ ?_)
    refine cw_block ?_
    refine cw_loop (fun mm l w' => ∃ i : Nat, mm = n - i ∧ i ≤ n ∧ (∀ j, j < i → xs[j]? = ys[j]?) ∧ l = [(0, .slice a n c), (1, .slice b m d), (5, .int .i64 i)] ∧ Step Nope M w M w') (n) [(0, .slice a n c), (1, .slice b m d), (5, .int .i64 (0 : Nat))] (.cons rfl (.cons rfl (.cons rfl (.nil _)))) ?_ ?_
    · skip
      exact ⟨0, rfl, Nat.zero_le _, fun j hj => by omega, rfl, hT⟩
    clear hT
    rintro mm l w1 ⟨i, rfl, hi, hpre, rfl, hT⟩
    refine cw_seq fun _ hK7 => ?_
    refine cw_rs fun _ κ => ?_
    refine Sm rfl rfl ?_
    refine Sm rfl rfl ?_
    refine as_q rfl rfl (q_len (by kernel_rfl) rfl _) ?_
    refine as_q rfl rfl (q_lt rfl rfl) ?_
    refine as_nil (κ _ _ ?_)
    refine cw_cond rfl (fun hc1 => ?_) (fun hc1 => ?_)
    · skip
      have hlt : i < n := by have := of_decide_eq_true hc1; omega
      obtain ⟨g, o, rfl⟩ := (hr.now hs).there (by omega)
      obtain ⟨g2, o2, rfl⟩ := (hr2.now hs).there (by omega)
      obtain ⟨x, hx⟩ : ∃ z, xs[i]? = some z := ⟨xs[i], by simp⟩
      obtain ⟨y, hy⟩ : ∃ z, ys[i]? = some z := ⟨ys[i], by simp⟩
      refine cw_skip ?_
      refine hK7 _ _ ?_
      refine cw_seq fun _ hK9 => ?_
      refine cw_block ?_
      refine cw_dr (by kernel_rfl) fun _ κ => ?_
      have hs1 := Step.drew hT.sat
      replace hT := hT.then hs1
      refine Dm 0 1 rfl (by kernel_rfl) rfl ?_
      refine Dm 1 3 rfl (by kernel_rfl) rfl ?_
      refine Dq 2 7 rfl (by kernel_rfl) (fun _ => (q_indexAddr (e := 24) (size := 2) (by kernel_rfl) (by kernel_rfl) rfl rfl (by omega) (by omega))) ?_
      refine Dlc 3 15 2 rfl (by kernel_rfl) (by kernel_rfl) rfl ((hr _ _ hT).el (j := (i : Int).toNat) (by simpa using hx)) ?_
      refine Dm 4 31 rfl (by kernel_rfl) rfl ?_
      refine Dm 5 63 rfl (by kernel_rfl) rfl ?_
      refine Dq 6 127 rfl (by kernel_rfl) (fun _ => (q_indexAddr (e := 24) (size := 2) (by kernel_rfl) (by kernel_rfl) rfl rfl (by omega) (by omega))) ?_
      refine Dlc 7 255 2 rfl (by kernel_rfl) (by kernel_rfl) rfl ((hr2 _ _ hT).el (j := (i : Int).toNat) (by simpa using hy)) ?_
      refine Dq 8 511 rfl (by kernel_rfl) (fun _ => (q_neE (a := x) (b := y) (e := 2) (by kernel_rfl) (by kernel_rfl) (by kernel_rfl) (by kernel_rfl) (by kernel_rfl) (by kernel_rfl) rfl rfl)) ?_
      refine Dd (by kernel_rfl) (κ _ _ ?_)
      refine cw_cond rfl (fun hc2 => ?_) (fun hc2 => ?_)
      · skip
        replace hc2 : x ≠ y := by simpa using hc2
        refine cw_rs fun _ κ => ?_
        refine Sa rfl rfl ?_
        refine as_nil (κ _ _ ?_)
        refine cw_ret ?_
        exact ⟨_, (res_tmp rfl res_nil), by rw [decide_eq_false (fun h => by subst h; rw [hx] at hy; cases hy; exact hc2 rfl)]; rfl, hT⟩
      · skip
        replace hc2 : x = y := by simpa using hc2
        refine cw_skip ?_
        refine hK9 _ _ ?_
        refine cw_region fun _ κ => ?_
        refine Sm rfl rfl ?_
        refine as_q rfl rfl (q_addx rfl rfl (by omega) (by omega)) ?_
        refine Sa rfl rfl ?_
        refine as_nil (κ _ _ ?_)
        exact ⟨_, _, by omega, (.cons rfl (.cons rfl (.cons rfl (.nil _)))), i + 1, rfl, by omega, fun j hj => by
          rcases Nat.lt_or_ge j i with h | h
          · exact hpre j h
          · obtain rfl : j = i := by omega
            rw [hx, hy, hc2], rfl, hT⟩
    · skip
      have hge : i = n := by have := of_decide_eq_false hc1; omega
      refine cw_exit ?_
      refine hK5 _ _ ?_
      refine cw_rs fun _ κ => ?_
      refine Sa rfl rfl ?_
      refine as_nil (κ _ _ ?_)
      refine cw_ret ?_
      have hall : ∀ j, xs[j]? = ys[j]? := fun j => by
        rcases Nat.lt_or_ge j n with hj | hj
        · exact hpre j (by omega)
        · rw [List.getElem?_eq_none (by omega), List.getElem?_eq_none (by omega)]
      exact ⟨_, (res_tmp rfl res_nil), by rw [decide_eq_true (List.ext_getElem? fun j => hall j)]; rfl, hT⟩
end Go.Proofs.YtgcgjpfjjgalmaaGreat
/- Rows of what is told, part 1. -/
namespace Go.Proofs.YtgcgjpfjjgalmaaGreat
open Go Go.Eng
theorem col_seq {w : World} {M : Mem} {S : Nat → Prop} {lb : List Value} {xs : List El} (hs : Sat M w) (hit : ∀ M' w', Step Nope M w M' w' → IterOk Tryz.prog 42 lb S (xs.map elV) M' w') (hS : ∀ k, S k → k < w.heap.size ∧ M k = none) (hz : xs.length ≤ 1000000000) :
    Does Tryz.prog 47 #[.slice none 0 0, .func (.func 42) #[] lb.toArray] w (fun v w' => ∃ M', Step S M w M' w' ∧ Buf w' M' 24 2 v xs.length (els xs) ∧ ∀ g, v.ownBlock = some g → w.heap.size ≤ g) := by
  have hT := Step.refl Nope hs
  refine fn_enterM (K' := fun v w' => ∃ M', Step S M w M' w' ∧ Buf w' M' 24 2 v xs.length (els xs) ∧ ∀ g, v.ownBlock = some g → w.heap.size ≤ g) Tryz.func47 rfl (rs := [.tmp 4]) rfl rfl rfl rfl ?_ (fun _ _ _ _ _ _ h => resT rfl h) ?_
  · skip
    refine cm_seq fun K0a hK0a => cw_region fun K0b hK0b => ?_
    have hqab := hT.size
    refine as_h rfl (h_boxO hs rfl rfl fun bb w1 hs1 hob eb => ?_)
    replace hT := hT.then hs1
    have hz1 := hs1.size
    have hlb := hob.1.lt
    refine Sa rfl rfl ?_
    refine as_nil (hK0b _ _ (hK0a _ _ ?_))
    clear hK0b hK0a K0b K0a
    refine cm_seqM ?_
    refine cm_seq fun K2a hK2a => cw_region fun K2b hK2b => ?_
    refine Sm rfl rfl ?_
    refine as_nil (hK2b _ _ (hK2a _ _ ?_))
    clear hK2b hK2a K2b K2a
    have hTs := hT.size
    have hlb_ := hob.1.lt
    have hbw : w.heap.size ≤ bb := by omega
    have hfit := hit _ _ hT
    refine cm_block ?_
    refine cm_rangeC (M := M) (S := S) (vs := xs.map elV) (lb := lb) (gf := 42) rfl rfl rfl (by kernel_rfl) rfl hs1.sat hTs hfit (fun k hk => by have := hS k hk; constructor <;> omega) (fun i M' W' => ∃ sv, Own W' M' bb [sv] 22 ∧ Buf W' M' 24 2 sv i (els (xs.take i)) ∧ Step S M w M' W' ∧ ∀ g, sv.ownBlock = some g → w.heap.size ≤ g ∧ g ≠ bb ∧ g ≠ w1.heap.size ∧ g ≠ w1.heap.size + 1) (fun i v la M' W' => ∃ bz e, v = elV e ∧ la = [(2, .pointer (some ⟨bb, 0, none⟩)), (5, .pointer (some ⟨bz, 0, none⟩))] ∧ Own W' M' bz (elc e) 24 ∧ bz ≠ w1.heap.size ∧ bz ≠ w1.heap.size + 1 ∧ w.heap.size ≤ bz ∧ ∃ sv, Own W' M' bb [sv] 22 ∧ Buf W' M' 24 2 sv i (els (xs.take i)) ∧ Step S M w M' W' ∧ ∀ g, sv.ownBlock = some g → w.heap.size ≤ g ∧ g ≠ bb ∧ g ≠ w1.heap.size ∧ g ≠ w1.heap.size + 1) ?_ ?_ ?_ ?_ ?_ ?_
    · rintro i M' W' M'' W'' ⟨sv, h1, h2, h3, h4⟩ k
      refine ⟨sv, h1.step k (by rintro (h | h | h); exact absurd (hS _ h).1 (by omega); all_goals omega), h2.step k (fun g hg => by rintro (h | h | h); exact absurd (hS _ h).1 (by have := (h4 g hg).1; omega); exact (h4 g hg).2.2.1 h; exact (h4 g hg).2.2.2 h), h3.trans k (fun b hb => by rintro (h | h | h); exact h; all_goals omega), h4⟩
    · exact ⟨_, hob, by rw [List.take_zero]; exact Buf.nil _ _ _ _, hT.any _, fun g hg => by cases hg⟩
    · rintro i v la M' W' M'' W'' ⟨bz, e, rfl, rfl, h0, hz1, hz2, hz3, sv, h1, h2, h3, h4⟩ k
      refine ⟨bz, e, rfl, rfl, h0.step k (by rintro (h | h | h); exact absurd (hS _ h).1 (by omega); all_goals omega), hz1, hz2, hz3, ?_⟩
      refine ⟨sv, h1.step k (by rintro (h | h | h); exact absurd (hS _ h).1 (by omega); all_goals omega), h2.step k (fun g hg => by rintro (h | h | h); exact absurd (hS _ h).1 (by have := (h4 g hg).1; omega); exact (h4 g hg).2.2.1 h; exact (h4 g hg).2.2.2 h), h3.trans k (fun b hb => by rintro (h | h | h); exact h; all_goals omega), h4⟩
    · rintro i v r M' W' hv ⟨sv, h1, h2, h3, h4⟩ hs' hle hlt
      obtain ⟨e, _, rfl⟩ : ∃ e, _ ∧ v = elV e := by
        rw [List.getElem?_map] at hv
        obtain ⟨q, h5, h6⟩ := Option.map_eq_some_iff.1 hv
        exact ⟨q, h5, h6.symm⟩
      refine cw_region fun _ κ => ?_
      refine as_h rfl (h_allocO (z := (.agg #[(.int .i64 0), (.int .i64 0)])) hs' (by kernel_rfl) rfl fun bz w2 hs2 hz ez => ?_)
      have hz2 := hs2.size
      refine as_h0 (h_store hs2.sat hz rfl rfl rfl (by kernel_rfl) rfl rfl rfl fun w3 hs3 hz3 => ?_)
      have hst : Step Nope M' W' M' w3 := hs2.trans hs3 (fun b hb h => by have h : b = bz := h; omega)
      have hz0 := hs2.size
      have hwW := h3.size
      refine as_nil (κ _ _ ⟨_, M', .cons rfl (.cons rfl (.nil _)), hst, bz, e, rfl, rfl, hz3, by omega, by omega, by omega, sv, h1.then hst, h2.then hst, h3.also (hst.any _), h4⟩)
    · rintro i v la r M' W' hv ⟨bz, e, rfl, rfl, hz, hz1, hz2, hz3, sv, h1, h2, h3, h4⟩ hs' hle hlt
      obtain ⟨x, hx, hxv⟩ : ∃ x, xs[i]? = some x ∧ elV x = elV e := by
        rw [List.getElem?_map] at hv
        exact Option.map_eq_some_iff.1 hv
      obtain rfl : x = e := by
        obtain ⟨a, b⟩ := x
        obtain ⟨c, d⟩ := e
        simpa [elV, elc] using hxv
      have h1l := h1.1.lt
      have h2l := h2.lt
      have hin : i < xs.length := (List.getElem?_eq_some_iff.1 hx).1
      refine cw_block (cw_region fun K4 hK4 => ?_)
      refine S1 rfl (by kernel_rfl) rfl (by exact Blk.cell h1.1 rfl) ?_
      refine Sc 2 rfl (by kernel_rfl) rfl (by exact Blk.cells hz.1 rfl) ?_
      refine as_h rfl (h_buildO (e := 24) (size := 2) (zs := [.int .i64 0, .int .i64 0]) (cs := [_, _]) (by kernel_rfl) (by kernel_rfl) (by kernel_rfl) rfl hs' rfl rfl fun b4 w4 hs4 ho4 e4 => ?_)
      have hsB := hs4
      replace h1 := h1.then hs4
      have hz4 := hs4.size
      have hrx := Buf.rd (Own.buf ho4 (n := 1) (size := 2) rfl (by decide))
      have h2b := h2.then hsB
      refine as_h rfl (h_append (e := 24) (size := 2) (bytes := 16) (by kernel_rfl) hs4.sat h2b hrx rfl rfl (by simp [Value.oneCell']) (by omega) rfl fun sv2 w5 hs5 h2c hor => ?_)
      have hsv : ∃ a k c, sv2 = .slice a k c := by obtain ⟨a, c, h, _⟩ := h2c.slice; exact ⟨a, _, c, h⟩
      replace h1 := h1.step hs5 (fun h => (h4 _ h).2.1 rfl)
      obtain ⟨sa, sk, sc, rfl⟩ := hsv
      refine as_h0 (h_store hs5.sat h1 rfl rfl rfl (by kernel_rfl) rfl rfl rfl fun w6 hs6 h1n => ?_)
      have hzb := hs4.size
      have hza := hs5.size
      have hwW := h3.size
      have hownf : ∀ g, (Value.slice sa sk sc).ownBlock = some g → w.heap.size ≤ g ∧ g ≠ bb ∧ g ≠ w1.heap.size ∧ g ≠ w1.heap.size + 1 := fun g hg => by
        rcases hor with h | h
        · rw [h] at hg; exact h4 g hg
        · rw [h] at hg; have hg := Option.some.inj hg; omega
      have k1 : Step (fun k => ¬ S k ∧ k ≠ w1.heap.size ∧ k ≠ w1.heap.size + 1) M' w4 M' w5 := hs5.wide fun k _ h => ⟨fun hk => by have := (hS k hk).1; have := (h4 k h).1; omega, (h4 k h).2.2.1, (h4 k h).2.2.2⟩
      have k2 : Step (fun k => ¬ S k ∧ k ≠ w1.heap.size ∧ k ≠ w1.heap.size + 1) M' w5 M' w6 := hs6.wide fun k _ h => by have h : k = bb := h; exact ⟨fun hk => by have := (hS k hk).1; omega, by omega, by omega⟩
      refine as_nil (hK4 _ _ ⟨M', ((hs4.any _).also k1).also k2, _, h1n, ?_, ?_, hownf⟩)
      · have h5 := h2c.step hs6 (fun g hg h => (hownf g hg).2.1 h)
        have h6 : els (xs.take (i + 1)) = els (xs.take i) ++ [.int .i64 x.1, .int .i64 x.2] := by rw [List.take_add_one, hx, els_append]; rfl
        rw [h6]
        exact h5
      · exact ((h3.also (hs4.any _)).trans hs5 (fun k hk h => by have := (h4 k h).1; omega)).trans hs6 (fun k hk h => by have h : k = bb := h; omega)
    · rintro M' W' hs' hle ⟨sv, h1, h2, h3, h4⟩ D hD hDd
      refine cw_rs fun _ κ => ?_
      refine S1 rfl (by kernel_rfl) rfl (by exact Blk.cell h1.1 rfl) ?_
      refine Sa rfl rfl ?_
      refine as_nil (κ _ _ ?_)
      refine cw_ret ⟨hDd, _, res_tmp rfl res_nil, M', h3, ?_, fun g hg => (h4 g hg).1⟩
      rw [List.length_map] at h2
      rw [List.take_length] at h2
      exact h2
  · rintro v w' D hB hD ⟨M', h1, h2, h3⟩
    have k := Step.putObj h1.sat hD (by simp) (.deferred none)
    refine ⟨M', h1.trans k (fun b hb h => by have h : b = D := h; omega), h2.step k (fun g hg h => ?_), h3⟩
    have h : g = D := h
    subst h
    obtain ⟨⟨_, hh⟩, _⟩ := h2
    rcases hh with ⟨rfl, _⟩ | ⟨g2, cap, cur, rfl, _, hh, _⟩
    · cases hg
    · cases hg; rw [hD] at hh; cases hh
theorem col_all {w : World} {M : Mem} {S : Nat → Prop} {lb : List Value} {xs : List El} (hs : Sat M w) (hit : ∀ M' w', Step Nope M w M' w' → IterOk Tryz.prog 42 lb S (xs.map elV) M' w') (hS : ∀ k, S k → k < w.heap.size ∧ M k = none) (hz : xs.length ≤ 1000000000) :
    Does Tryz.prog 39 #[.func (.func 42) #[] lb.toArray] w (fun v w' => ∃ M', Step S M w M' w' ∧ Buf w' M' 24 2 v xs.length (els xs) ∧ ∀ g, v.ownBlock = some g → w.heap.size ≤ g) := by
  have hT := Step.refl Nope hs
  refine fn_enter Tryz.func39 rfl (rs := [.tmp 2]) rfl rfl rfl rfl ?_
  refine cw_rs fun _ κ => ?_
  refine Sa rfl rfl ?_
  refine as_nil (κ _ _ ?_)
  refine cw_rs fun _ κ => ?_
  refine Sm rfl rfl ?_
  refine as_h rfl (h_call (by kernel_rfl) rfl ?_)
  refine (col_seq hs (fun M' w' h => hit M' w' (hT.then h)) hS hz).mono ?_
  rintro cv w1 ⟨Mc, hs1, hcb, hcf⟩
  refine Sa rfl rfl ?_
  refine as_nil (κ _ _ ?_)
  refine cw_ret ?_
  exact ⟨_, (res_tmp rfl res_nil), Mc, hs1, hcb, hcf⟩
theorem dr_sorted_n {w : World} {M : Mem} {k : Nat} {l : List El} (hs : Sat M w) (h : HVal M k l .nilIface) (hz : l.length < 100000000) :
    Does Tryz.prog 23 #[.pointer none, .agg #[.nilIface]] w (fun v w' => ∃ M', Step Nope M w M' w' ∧ Buf w' M' 24 2 v l.length (els l) ∧ ∀ g, v.ownBlock = some g → w.heap.size ≤ g) := by
  have hT := Step.refl Nope hs
  refine fn_enter Tryz.func23 rfl (rs := [.tmp 4]) rfl rfl rfl rfl ?_
  refine cw_rs fun _ κ => ?_
  refine as_h rfl (h_boxM hs rfl rfl fun b1 M1 w1 hs1 hb1 e1 => ?_)
  replace h := h.mono hs1.le
  replace hT := hT.then hs1
  have hz1 := hs1.size
  refine Sa rfl rfl ?_
  refine as_nil (κ _ _ ?_)
  refine cw_dr (by kernel_rfl) fun _ κ => ?_
  have hs2 := Step.drew hs1.sat
  have hz2 := hs2.size
  replace h := h.mono hs2.le
  replace hb1 := hs2.le _ _ hb1
  replace hT := hT.then hs2
  refine Dm 0 1 rfl (by kernel_rfl) rfl ?_
  refine Dlc 1 3 1 rfl (by kernel_rfl) (by kernel_rfl) rfl (by exact BlkR.cells (hs2.sat _ _ _ hb1) rfl) ?_
  refine Dlc 2 7 1 rfl (by kernel_rfl) (by kernel_rfl) rfl (by exact BlkR.cells (hs2.sat _ _ _ hb1) rfl) ?_
  refine Dh 3 15 rfl (by kernel_rfl) (keep_sift (bs := [T,F]) (by kernel_rfl)) (h_call (by kernel_rfl) rfl ?_)
  refine (hp_size hs2.sat h (by omega)).mono ?_
  rintro _ w3 ⟨rfl, hs3⟩
  replace h := h.mono hs3.le
  replace hb1 := hs3.le _ _ hb1
  replace hT := hT.then hs3
  have hz3 := hs3.size
  refine ⟨(by repeat' first | exact trivial | exact BlkR.cell (hs3.sat _ _ _ hb1) rfl | exact BlkR.cells (hs3.sat _ _ _ hb1) rfl | assumption | refine all_keep ?_ | refine And.intro ?_ ?_), ?_⟩
  refine Dq 4 31 rfl (by kernel_rfl) (fun _ => (q_addx rfl rfl (by omega) (by omega))) ?_
  refine Dh 5 63 rfl (by kernel_rfl) (keep_sift (bs := [T]) (by kernel_rfl)) (h_call (by kernel_rfl) rfl ?_)
  refine (dr_each (z := ((l.length : Nat) : Int) + 1) hs3.sat h).mono ?_
  rintro _ w4 ⟨c1, c2, c3, Me, rfl, hs4, hc1, hc2, hc3, hcw⟩
  replace h := h.mono hs4.le
  replace hT := hT.then hs4
  have hz4 := hs4.size
  refine ⟨trivial, ?_⟩
  refine Dh 6 127 rfl (by kernel_rfl) rfl (h_call (by kernel_rfl) rfl ?_)
  have hsz_ := hT.size
  have hcl := hc2.1.lt
  refine (col_all (S := Just c2) (xs := l.take (((l.length : Nat) : Int) + 1).toNat) (lb := [.pointer (some ⟨c1, 0, none⟩), .pointer (some ⟨c2, 0, none⟩), .pointer (some ⟨c3, 0, none⟩)]) hs4.sat (fun M' w' hk => dr_each1 (hk.le _ _ hc1) (hc2.then hk) (hk.le _ _ hc3) (h.mono hk.le) (by omega) (by omega) (by omega)) (fun k hk => by have hk : k = c2 := hk; subst hk; exact ⟨hcl, hc2.2⟩) (by rw [List.length_take]; omega)).mono ?_
  rintro cv w5 ⟨Mc, hs5, hcb, hcf⟩
  replace hT := hT.trans hs5 (fun b hb h => by have h : b = c2 := h; omega)
  refine ⟨trivial, ?_⟩
  refine Da 7 255 rfl (by kernel_rfl) rfl ?_
  refine Dd (by kernel_rfl) (κ _ _ ?_)
  refine cw_ret ?_
  have hte : l.take (((l.length : Nat) : Int) + 1).toNat = l := List.take_of_length_le (by omega)
  rw [hte] at hcb
  exact ⟨_, (res_tmp rfl res_nil), Mc, hT, hcb, fun g hg => by have := hcf g hg; omega⟩
theorem dr_sorted_s {w : World} {M : Mem} {d : TypeId} {u : Value} {k : Nat} {l : List El} (hs : Sat M w) (h : HVal M k l (.iface d u)) (hz : l.length < 100000000) :
    Does Tryz.prog 23 #[.pointer none, .agg #[(.iface d u)]] w (fun v w' => ∃ M', Step Nope M w M' w' ∧ Buf w' M' 24 2 v l.length (els l) ∧ ∀ g, v.ownBlock = some g → w.heap.size ≤ g) := by
  have hT := Step.refl Nope hs
  refine fn_enter Tryz.func23 rfl (rs := [.tmp 4]) rfl rfl rfl rfl ?_
  refine cw_rs fun _ κ => ?_
  refine as_h rfl (h_boxM hs rfl rfl fun b1 M1 w1 hs1 hb1 e1 => ?_)
  replace h := h.mono hs1.le
  replace hT := hT.then hs1
  have hz1 := hs1.size
  refine Sa rfl rfl ?_
  refine as_nil (κ _ _ ?_)
  refine cw_dr (by kernel_rfl) fun _ κ => ?_
  have hs2 := Step.drew hs1.sat
  have hz2 := hs2.size
  replace h := h.mono hs2.le
  replace hb1 := hs2.le _ _ hb1
  replace hT := hT.then hs2
  refine Dm 0 1 rfl (by kernel_rfl) rfl ?_
  refine Dlc 1 3 1 rfl (by kernel_rfl) (by kernel_rfl) rfl (by exact BlkR.cells (hs2.sat _ _ _ hb1) rfl) ?_
  refine Dlc 2 7 1 rfl (by kernel_rfl) (by kernel_rfl) rfl (by exact BlkR.cells (hs2.sat _ _ _ hb1) rfl) ?_
  refine Dh 3 15 rfl (by kernel_rfl) (keep_sift (bs := [T,F]) (by kernel_rfl)) (h_call (by kernel_rfl) rfl ?_)
  refine (hp_size hs2.sat h (by omega)).mono ?_
  rintro _ w3 ⟨rfl, hs3⟩
  replace h := h.mono hs3.le
  replace hb1 := hs3.le _ _ hb1
  replace hT := hT.then hs3
  have hz3 := hs3.size
  refine ⟨(by repeat' first | exact trivial | exact BlkR.cell (hs3.sat _ _ _ hb1) rfl | exact BlkR.cells (hs3.sat _ _ _ hb1) rfl | assumption | refine all_keep ?_ | refine And.intro ?_ ?_), ?_⟩
  refine Dq 4 31 rfl (by kernel_rfl) (fun _ => (q_addx rfl rfl (by omega) (by omega))) ?_
  refine Dh 5 63 rfl (by kernel_rfl) (keep_sift (bs := [T]) (by kernel_rfl)) (h_call (by kernel_rfl) rfl ?_)
  refine (dr_each (z := ((l.length : Nat) : Int) + 1) hs3.sat h).mono ?_
  rintro _ w4 ⟨c1, c2, c3, Me, rfl, hs4, hc1, hc2, hc3, hcw⟩
  replace h := h.mono hs4.le
  replace hT := hT.then hs4
  have hz4 := hs4.size
  refine ⟨trivial, ?_⟩
  refine Dh 6 127 rfl (by kernel_rfl) rfl (h_call (by kernel_rfl) rfl ?_)
  have hsz_ := hT.size
  have hcl := hc2.1.lt
  refine (col_all (S := Just c2) (xs := l.take (((l.length : Nat) : Int) + 1).toNat) (lb := [.pointer (some ⟨c1, 0, none⟩), .pointer (some ⟨c2, 0, none⟩), .pointer (some ⟨c3, 0, none⟩)]) hs4.sat (fun M' w' hk => dr_each1 (hk.le _ _ hc1) (hc2.then hk) (hk.le _ _ hc3) (h.mono hk.le) (by omega) (by omega) (by omega)) (fun k hk => by have hk : k = c2 := hk; subst hk; exact ⟨hcl, hc2.2⟩) (by rw [List.length_take]; omega)).mono ?_
  rintro cv w5 ⟨Mc, hs5, hcb, hcf⟩
  replace hT := hT.trans hs5 (fun b hb h => by have h : b = c2 := h; omega)
  refine ⟨trivial, ?_⟩
  refine Da 7 255 rfl (by kernel_rfl) rfl ?_
  refine Dd (by kernel_rfl) (κ _ _ ?_)
  refine cw_ret ?_
  have hte : l.take (((l.length : Nat) : Int) + 1).toNat = l := List.take_of_length_le (by omega)
  rw [hte] at hcb
  exact ⟨_, (res_tmp rfl res_nil), Mc, hT, hcb, fun g hg => by have := hcf g hg; omega⟩
theorem HVal.shape {M : Mem} {k : Nat} {l : List El} {v : Value} (h : HVal M k l v) : v = .nilIface ∨ ∃ d u, v = .iface d u := by
  cases h <;> simp
theorem dr_sorted {w : World} {M : Mem} {k : Nat} {l : List El} {v0 : Value} (hs : Sat M w) (h : HVal M k l v0) (hz : l.length < 100000000) :
    Does Tryz.prog 23 #[.pointer none, .agg #[v0]] w (fun v w' => ∃ M', Step Nope M w M' w' ∧ Buf w' M' 24 2 v l.length (els l) ∧ ∀ g, v.ownBlock = some g → w.heap.size ≤ g) := by
  rcases h.shape with rfl | ⟨d, u, rfl⟩
  · exact dr_sorted_n hs h hz
  · exact dr_sorted_s hs h hz
end Go.Proofs.YtgcgjpfjjgalmaaGreat
/- Rows of what is told, part 2. -/
namespace Go.Proofs.YtgcgjpfjjgalmaaGreat
open Go Go.Eng
theorem dr_top_0 {w : World} {M : Mem} {l : List El} {z : Int} (hs : Sat M w) (h : HVal M 0 l .nilIface) :
    Does Tryz.prog 22 #[.pointer none, .agg #[.nilIface], .int .i64 z] w (fun r w' => ∃ v M', r = .tuple #[v, .int .i64 22] ∧ Step Nope M w M' w' ∧ Buf w' M' 24 2 v 0 (els []) ∧ ∀ g, v.ownBlock = some g → w.heap.size ≤ g) := by
  have hT := Step.refl Nope hs
  refine fn_enter Tryz.func22 rfl (rs := [.tmp 6, .tmp 7]) rfl rfl rfl rfl ?_
  refine cw_rs fun _ κ => ?_
  refine as_h rfl (h_boxM hs rfl rfl fun b1 M1 w1 hs1 hb1 e1 => ?_)
  replace h := h.mono hs1.le
  replace hT := hT.then hs1
  have hz1 := hs1.size
  refine Sa rfl rfl ?_
  refine Sa rfl rfl ?_
  refine as_nil (κ _ _ ?_)
  refine cw_seq fun _ hK2 => ?_
  refine cw_block ?_
  refine cw_rs fun _ κ => ?_
  refine Sc 1 rfl (by kernel_rfl) rfl (by exact BlkR.cells (hs1.sat _ _ _ hb1) rfl) ?_
  refine as_h rfl (h_call (by kernel_rfl) rfl ?_)
  refine (hp_kind hs1.sat h).mono ?_
  rintro _ w2 ⟨rfl, hs2⟩
  replace h := h.mono hs2.le
  replace hT := hT.then hs2
  have hz2 := hs2.size
  refine as_q rfl rfl (q_eqT rfl rfl (by omega)) ?_
  refine Sa rfl rfl ?_
  refine as_nil (κ _ _ ?_)
  refine cw_true rfl ?_
  refine cw_rs fun _ κ => ?_
  refine Sa rfl rfl ?_
  refine Sa rfl rfl ?_
  refine as_nil (κ _ _ ?_)
  refine cw_ret ?_
  exact ⟨_, (res_tmp rfl (res_tmp rfl res_nil)), _, _, rfl, hT, Buf.nil _ _ _ _, fun g hg => by cases hg⟩
theorem dr_top_1 {w : World} {M : Mem} {d : TypeId} {u : Value} {k : Nat} {l : List El} {z : Int} (hs : Sat M w) (h : HVal M k l (.iface d u)) (hk : k ≠ 0) (hz0 : z < 0) :
    Does Tryz.prog 22 #[.pointer none, .agg #[(.iface d u)], .int .i64 z] w (fun r w' => ∃ v M', r = .tuple #[v, .int .i64 24] ∧ Step Nope M w M' w' ∧ Buf w' M' 24 2 v 0 (els []) ∧ ∀ g, v.ownBlock = some g → w.heap.size ≤ g) := by
  have hT := Step.refl Nope hs
  refine fn_enter Tryz.func22 rfl (rs := [.tmp 6, .tmp 7]) rfl rfl rfl rfl ?_
  refine cw_rs fun _ κ => ?_
  refine as_h rfl (h_boxM hs rfl rfl fun b1 M1 w1 hs1 hb1 e1 => ?_)
  replace h := h.mono hs1.le
  replace hT := hT.then hs1
  have hz1 := hs1.size
  refine Sa rfl rfl ?_
  refine Sa rfl rfl ?_
  refine as_nil (κ _ _ ?_)
  refine cw_seq fun _ hK2 => ?_
  refine cw_block ?_
  refine cw_rs fun _ κ => ?_
  refine Sc 1 rfl (by kernel_rfl) rfl (by exact BlkR.cells (hs1.sat _ _ _ hb1) rfl) ?_
  refine as_h rfl (h_call (by kernel_rfl) rfl ?_)
  refine (hp_kind hs1.sat h).mono ?_
  rintro _ w2 ⟨rfl, hs2⟩
  replace h := h.mono hs2.le
  replace hT := hT.then hs2
  have hz2 := hs2.size
  refine as_q rfl rfl (q_eqF rfl rfl (by omega)) ?_
  refine Sa rfl rfl ?_
  refine as_nil (κ _ _ ?_)
  refine cw_false rfl ?_
  refine cw_rs fun _ κ => ?_
  refine Sm rfl rfl ?_
  refine as_q rfl rfl (q_ltT rfl rfl (by omega)) ?_
  refine Sa rfl rfl ?_
  refine as_nil (κ _ _ ?_)
  refine cw_true rfl ?_
  refine cw_rs fun _ κ => ?_
  refine Sa rfl rfl ?_
  refine Sa rfl rfl ?_
  refine as_nil (κ _ _ ?_)
  refine cw_ret ?_
  exact ⟨_, (res_tmp rfl (res_tmp rfl res_nil)), _, _, rfl, hT, Buf.nil _ _ _ _, fun g hg => by cases hg⟩
theorem dr_top_2 {w : World} {M : Mem} {d : TypeId} {u : Value} {k : Nat} {l : List El} {z : Int} (hs : Sat M w) (h : HVal M k l (.iface d u)) (hk : k ≠ 0) (hz0 : 0 ≤ z) (hz9 : z ≤ 9223372036854775807) (hz : l.length < 100000000) :
    Does Tryz.prog 22 #[.pointer none, .agg #[(.iface d u)], .int .i64 z] w (fun r w' => ∃ v M', r = .tuple #[v, .int .i64 0] ∧ Step Nope M w M' w' ∧ Buf w' M' 24 2 v (l.take z.toNat).length (els (l.take z.toNat)) ∧ ∀ g, v.ownBlock = some g → w.heap.size ≤ g) := by
  have hT := Step.refl Nope hs
  refine fn_enter Tryz.func22 rfl (rs := [.tmp 6, .tmp 7]) rfl rfl rfl rfl ?_
  refine cw_rs fun _ κ => ?_
  refine as_h rfl (h_boxM hs rfl rfl fun b1 M1 w1 hs1 hb1 e1 => ?_)
  replace h := h.mono hs1.le
  replace hT := hT.then hs1
  have hz1 := hs1.size
  refine Sa rfl rfl ?_
  refine Sa rfl rfl ?_
  refine as_nil (κ _ _ ?_)
  refine cw_seq fun _ hK2 => ?_
  refine cw_block ?_
  refine cw_rs fun _ κ => ?_
  refine Sc 1 rfl (by kernel_rfl) rfl (by exact BlkR.cells (hs1.sat _ _ _ hb1) rfl) ?_
  refine as_h rfl (h_call (by kernel_rfl) rfl ?_)
  refine (hp_kind hs1.sat h).mono ?_
  rintro _ w2 ⟨rfl, hs2⟩
  replace h := h.mono hs2.le
  replace hb1 := hs2.le _ _ hb1
  replace hT := hT.then hs2
  have hz2 := hs2.size
  refine as_q rfl rfl (q_eqF rfl rfl (by omega)) ?_
  refine Sa rfl rfl ?_
  refine as_nil (κ _ _ ?_)
  refine cw_false rfl ?_
  refine cw_rs fun _ κ => ?_
  refine Sm rfl rfl ?_
  refine as_q rfl rfl (q_ltF rfl rfl (by omega)) ?_
  refine Sa rfl rfl ?_
  refine as_nil (κ _ _ ?_)
  refine cw_false rfl ?_
  refine cw_skip ?_
  refine hK2 _ _ ?_
  refine cw_rs fun _ κ => ?_
  refine Sm rfl rfl ?_
  refine Sc 1 rfl (by kernel_rfl) rfl (by exact BlkR.cells (hs2.sat _ _ _ hb1) rfl) ?_
  refine Sm rfl rfl ?_
  refine as_h rfl (h_call (by kernel_rfl) rfl ?_)
  refine (dr_each (z := z) hs2.sat h).mono ?_
  rintro _ w3 ⟨c1, c2, c3, Me, rfl, hs3, hc1, hc2, hc3, hcw⟩
  replace h := h.mono hs3.le
  replace hT := hT.then hs3
  have hz3 := hs3.size
  refine as_h rfl (h_call (by kernel_rfl) rfl ?_)
  have hsz_ := hT.size
  have hcl := hc2.1.lt
  refine (col_all (S := Just c2) (xs := l.take (z).toNat) (lb := [.pointer (some ⟨c1, 0, none⟩), .pointer (some ⟨c2, 0, none⟩), .pointer (some ⟨c3, 0, none⟩)]) hs3.sat (fun M' w' hk => dr_each1 (hk.le _ _ hc1) (hc2.then hk) (hk.le _ _ hc3) (h.mono hk.le) (by omega) (by omega) (by omega)) (fun k hk => by have hk : k = c2 := hk; subst hk; exact ⟨hcl, hc2.2⟩) (by rw [List.length_take]; omega)).mono ?_
  rintro cv w4 ⟨Mc, hs4, hcb, hcf⟩
  replace hT := hT.trans hs4 (fun b hb h => by have h : b = c2 := h; omega)
  refine Sa rfl rfl ?_
  refine Sa rfl rfl ?_
  refine as_nil (κ _ _ ?_)
  refine cw_ret ?_
  exact ⟨_, (res_tmp rfl (res_tmp rfl res_nil)), cv, Mc, rfl, hT, hcb, fun g hg => by have := hcf g hg; omega⟩
theorem sl_equal {w : World} {M : Mem} {va vb : Value} {n m : Nat} {xs ys : List El} (hs : Sat M w) (hn : n ≤ 1000000000) (hr : Rds M w 2 va n (els xs)) (hr2 : Rds M w 2 vb m (els ys)) :
    Does Tryz.prog 34 #[va, vb] w (fun v w' => v = .bool (decide (xs = ys)) ∧ Step Nope M w M w') := by
  have hT := Step.refl Nope hs
  have hl1 := hr.els_len hs
  have hl2 := hr2.els_len hs
  obtain ⟨a, c, rfl, hac, _⟩ := hr.slice hs
  obtain ⟨b, d, rfl, hbd, _⟩ := hr2.slice hs
  refine fn_enter Tryz.func34 rfl (rs := [.tmp 4]) rfl rfl rfl rfl ?_
  refine cw_rs fun _ κ => ?_
  refine Sa rfl rfl ?_
  refine as_nil (κ _ _ ?_)
  refine cw_seq fun _ hK2 => ?_
  refine cw_rs fun _ κ => ?_
  refine Sm rfl rfl ?_
  refine as_q rfl rfl (q_len (by kernel_rfl) rfl _) ?_
  refine Sm rfl rfl ?_
  refine as_q rfl rfl (q_len (by kernel_rfl) rfl _) ?_
  refine as_q rfl rfl (q_ne rfl rfl) ?_
  refine as_nil (κ _ _ ?_)
  refine cw_cond rfl (fun hc0 => ?_) (fun hc0 => ?_)
  · skip
    have hne : n ≠ m := by simp at hc0; omega
    refine cw_rs fun _ κ => ?_
    refine Sa rfl rfl ?_
    refine as_nil (κ _ _ ?_)
    refine cw_ret ?_
    exact ⟨_, (res_tmp rfl res_nil), by rw [decide_eq_false (fun h => hne (by rw [← hl1, ← hl2, h]))]; rfl, hT⟩
  · skip
    have hne : n = m := by simp at hc0; omega
    refine cw_skip ?_
    refine hK2 _ _ ?_
    refine cw_seq fun _ hK5 => ?_
    refine cw_rs fun _ κ => ?_
    refine Sm rfl rfl ?_
    refine as_q rfl rfl (q_len (by kernel_rfl) rfl _) ?_
    refine Sm rfl rfl ?_
    refine as_nil (κ _ _ ?_)
    refine cw_block ?_
    refine cw_loop (fun mm l w' => ∃ i : Nat, mm = n - i ∧ i ≤ n ∧ (∀ j, j < i → xs[j]? = ys[j]?) ∧ l = [(0, .slice a n c), (1, .slice b m d), (12, .int .i64 (n : Nat)), (13, .int .i64 i)] ∧ Step Nope M w M w') (n) [(0, .slice a n c), (1, .slice b m d), (12, .int .i64 (n : Nat)), (13, .int .i64 (0 : Nat))] (.cons rfl (.cons rfl (.cons rfl (.cons rfl (.nil _))))) ?_ ?_
    · skip
      exact ⟨0, rfl, Nat.zero_le _, fun j hj => by omega, rfl, hT⟩
    clear hT
    rintro mm l w1 ⟨i, rfl, hi, hpre, rfl, hT⟩
    refine cw_rs fun _ κ => ?_
    refine as_q rfl rfl (q_lt rfl rfl) ?_
    refine as_nil (κ _ _ ?_)
    refine cw_seq fun _ hK8 => ?_
    refine cw_cond rfl (fun hc1 => ?_) (fun hc1 => ?_)
    · skip
      have hlt : i < n := by have := of_decide_eq_true hc1; omega
      obtain ⟨g, o, rfl⟩ := (hr.now hs).there (by omega)
      obtain ⟨g2, o2, rfl⟩ := (hr2.now hs).there (by omega)
      obtain ⟨x, hx⟩ : ∃ z, xs[i]? = some z := ⟨xs[i], by simp⟩
      obtain ⟨y, hy⟩ : ∃ z, ys[i]? = some z := ⟨ys[i], by simp⟩
      refine cw_skip ?_
      refine hK8 _ _ ?_
      refine cw_seq fun _ hK9 => ?_
      refine cw_block ?_
      refine cw_rs fun _ κ => ?_
      refine Sm rfl rfl ?_
      refine Sa rfl rfl ?_
      refine as_nil (κ _ _ ?_)
      refine cw_dr (by kernel_rfl) fun _ κ => ?_
      have hs1 := Step.drew hT.sat
      replace hT := hT.then hs1
      refine Dm 0 1 rfl (by kernel_rfl) rfl ?_
      refine Dm 1 3 rfl (by kernel_rfl) rfl ?_
      refine Dq 2 7 rfl (by kernel_rfl) (fun _ => (q_indexAddr (e := 24) (size := 2) (by kernel_rfl) (by kernel_rfl) rfl rfl (by omega) (by omega))) ?_
      refine Dlc 3 15 2 rfl (by kernel_rfl) (by kernel_rfl) rfl ((hr _ _ hT).el (j := (i : Int).toNat) (by simpa using hx)) ?_
      refine Dm 4 31 rfl (by kernel_rfl) rfl ?_
      refine Dm 5 63 rfl (by kernel_rfl) rfl ?_
      refine Dq 6 127 rfl (by kernel_rfl) (fun _ => (q_indexAddr (e := 24) (size := 2) (by kernel_rfl) (by kernel_rfl) rfl rfl (by omega) (by omega))) ?_
      refine Dlc 7 255 2 rfl (by kernel_rfl) (by kernel_rfl) rfl ((hr2 _ _ hT).el (j := (i : Int).toNat) (by simpa using hy)) ?_
      refine Dq 8 511 rfl (by kernel_rfl) (fun _ => (q_neE (a := x) (b := y) (e := 2) (by kernel_rfl) (by kernel_rfl) (by kernel_rfl) (by kernel_rfl) (by kernel_rfl) (by kernel_rfl) rfl rfl)) ?_
      refine Dd (by kernel_rfl) (κ _ _ ?_)
      refine cw_cond rfl (fun hc2 => ?_) (fun hc2 => ?_)
      · skip
        replace hc2 : x ≠ y := by simpa using hc2
        refine cw_rs fun _ κ => ?_
        refine Sa rfl rfl ?_
        refine as_nil (κ _ _ ?_)
        refine cw_ret ?_
        exact ⟨_, (res_tmp rfl res_nil), by rw [decide_eq_false (fun h => by subst h; rw [hx] at hy; cases hy; exact hc2 rfl)]; rfl, hT⟩
      · skip
        replace hc2 : x = y := by simpa using hc2
        refine cw_skip ?_
        refine hK9 _ _ ?_
        refine cw_region fun _ κ => ?_
        refine as_q rfl rfl (q_addx rfl rfl (by omega) (by omega)) ?_
        refine Sm rfl rfl ?_
        refine as_nil (κ _ _ ?_)
        exact ⟨_, _, by omega, (.cons rfl (.cons rfl (.cons rfl (.cons rfl (.nil _))))), i + 1, rfl, by omega, fun j hj => by
          rcases Nat.lt_or_ge j i with h | h
          · exact hpre j h
          · obtain rfl : j = i := by omega
            rw [hx, hy, hc2], rfl, hT⟩
    · skip
      have hge : i = n := by have := of_decide_eq_false hc1; omega
      refine cw_exit ?_
      refine hK5 _ _ ?_
      refine cw_rs fun _ κ => ?_
      refine Sa rfl rfl ?_
      refine as_nil (κ _ _ ?_)
      refine cw_ret ?_
      have hall : ∀ j, xs[j]? = ys[j]? := fun j => by
        rcases Nat.lt_or_ge j n with hj | hj
        · exact hpre j (by omega)
        · rw [List.getElem?_eq_none (by omega), List.getElem?_eq_none (by omega)]
      exact ⟨_, (res_tmp rfl res_nil), by rw [decide_eq_true (List.ext_getElem? fun j => hall j)]; rfl, hT⟩
end Go.Proofs.YtgcgjpfjjgalmaaGreat
/- A drain that is made once, part 1. -/
namespace Go.Proofs.YtgcgjpfjjgalmaaGreat
open Go Go.Eng
theorem dr_of_n {w : World} {M : Mem} (hs : Sat M w) :
    Does Tryz.prog 18 #[.agg #[.nilIface]] w (fun r w' => ∃ q M', r = .pointer (some ⟨q, 0, none⟩) ∧ Step Nope M w M' w' ∧ Own w' M' q [.nilIface, .slice none 0 0, .int .u32 0, .int .i32 0, .int .u32 0, .int .i32 0] 115 ∧ w.heap.size ≤ q) := by
  have hT := Step.refl Nope hs
  refine fn_enter Tryz.func18 rfl (rs := [.tmp 2]) rfl rfl rfl rfl ?_
  refine cw_rs fun _ κ => ?_
  refine as_h rfl (h_boxM hs rfl rfl fun b1 M1 w1 hs1 hb1 e1 => ?_)
  replace hT := hT.then hs1
  have hz1 := hs1.size
  refine Sa rfl rfl ?_
  refine as_nil (κ _ _ ?_)
  refine cw_rs fun _ κ => ?_
  refine Sc 1 rfl (by kernel_rfl) rfl (by exact BlkR.cells (hs1.sat _ _ _ hb1) rfl) ?_
  refine as_q rfl rfl (q_build (zs := [.nilIface, (.slice none 0 0), (.int .u32 0), (.int .i32 0), (.int .u32 0), (.int .i32 0)]) (places := [(0, 1), (1, 1), (2, 3), (5, 1)]) (cs := [_, _, _, _, _, _]) (by kernel_rfl) (by kernel_rfl) rfl rfl) ?_
  have hqaq := hT.size
  refine as_h rfl (h_boxO hs1.sat rfl rfl fun bq w2 hs2 hoq eq => ?_)
  replace hT := hT.then hs2
  have hz2 := hs2.size
  have hlq := hoq.1.lt
  refine Sa rfl rfl ?_
  refine as_nil (κ _ _ ?_)
  refine cw_ret ?_
  exact ⟨_, (res_tmp rfl res_nil), bq, _, rfl, hT, hoq, by omega⟩
theorem dr_of_s {w : World} {M : Mem} {d : TypeId} {u : Value} (hs : Sat M w) :
    Does Tryz.prog 18 #[.agg #[(.iface d u)]] w (fun r w' => ∃ q M', r = .pointer (some ⟨q, 0, none⟩) ∧ Step Nope M w M' w' ∧ Own w' M' q [(.iface d u), .slice none 0 0, .int .u32 0, .int .i32 0, .int .u32 0, .int .i32 0] 115 ∧ w.heap.size ≤ q) := by
  have hT := Step.refl Nope hs
  refine fn_enter Tryz.func18 rfl (rs := [.tmp 2]) rfl rfl rfl rfl ?_
  refine cw_rs fun _ κ => ?_
  refine as_h rfl (h_boxM hs rfl rfl fun b1 M1 w1 hs1 hb1 e1 => ?_)
  replace hT := hT.then hs1
  have hz1 := hs1.size
  refine Sa rfl rfl ?_
  refine as_nil (κ _ _ ?_)
  refine cw_rs fun _ κ => ?_
  refine Sc 1 rfl (by kernel_rfl) rfl (by exact BlkR.cells (hs1.sat _ _ _ hb1) rfl) ?_
  refine as_q rfl rfl (q_build (zs := [.nilIface, (.slice none 0 0), (.int .u32 0), (.int .i32 0), (.int .u32 0), (.int .i32 0)]) (places := [(0, 1), (1, 1), (2, 3), (5, 1)]) (cs := [_, _, _, _, _, _]) (by kernel_rfl) (by kernel_rfl) rfl rfl) ?_
  have hqaq := hT.size
  refine as_h rfl (h_boxO hs1.sat rfl rfl fun bq w2 hs2 hoq eq => ?_)
  replace hT := hT.then hs2
  have hz2 := hs2.size
  have hlq := hoq.1.lt
  refine Sa rfl rfl ?_
  refine as_nil (κ _ _ ?_)
  refine cw_ret ?_
  exact ⟨_, (res_tmp rfl res_nil), bq, _, rfl, hT, hoq, by omega⟩
theorem dr_of {w : World} {M : Mem} {k : Nat} {l : List El} {hv : Value} (hs : Sat M w) (h : HVal M k l hv) :
    Does Tryz.prog 18 #[.agg #[hv]] w (fun r w' => ∃ q M', r = .pointer (some ⟨q, 0, none⟩) ∧ Step Nope M w M' w' ∧ Own w' M' q [hv, .slice none 0 0, .int .u32 0, .int .i32 0, .int .u32 0, .int .i32 0] 115 ∧ w.heap.size ≤ q) := by
  rcases h.shape with rfl | ⟨d, u, rfl⟩
  · exact dr_of_n hs
  · exact dr_of_s hs
theorem dr_done_0 {w : World} {M : Mem} {q : Nat} {hv sv : Value} (hs : Sat M w) (ho : Own w M q [hv, sv, .int .u32 0, .int .i32 0, .int .u32 0, .int .i32 0] 115) :
    Does Tryz.prog 19 #[.pointer (some ⟨q, 0, none⟩)] w (fun v w' => v = .int .i64 0 ∧ Step Nope M w M w') := by
  have hT := Step.refl Nope hs
  refine fn_enter Tryz.func19 rfl (rs := [.tmp 2]) rfl rfl rfl rfl ?_
  refine cw_rs fun _ κ => ?_
  refine Sa rfl rfl ?_
  refine as_nil (κ _ _ ?_)
  refine cw_seq fun _ hK2 => ?_
  refine cw_rs fun _ κ => ?_
  refine Sm rfl rfl ?_
  refine as_q rfl rfl (q_eqnil (by kernel_rfl) rfl) ?_
  refine as_nil (κ _ _ ?_)
  refine cw_false rfl ?_
  refine cw_skip ?_
  refine hK2 _ _ ?_
  refine cw_rs fun _ κ => ?_
  refine Sm rfl rfl ?_
  refine as_q rfl rfl (q_nilp rfl) ?_
  refine Sf 5 rfl (by kernel_rfl) rfl ?_
  refine as_h rfl (h_call (by kernel_rfl) rfl ?_)
  refine (int_load hs (ho.at rfl)).mono ?_
  rintro _ w1 ⟨rfl, hs1⟩
  replace hT := hT.then hs1
  refine as_q rfl rfl (q_convx (by kernel_rfl) (by kernel_rfl) rfl (by exact wrap64_of (by omega) (by omega))) ?_
  refine Sa rfl rfl ?_
  refine as_nil (κ _ _ ?_)
  refine cw_ret ?_
  exact ⟨_, (res_tmp rfl res_nil), rfl, hT⟩
theorem dr_done_1 {w : World} {M : Mem} {q : Nat} {hv sv : Value} (hs : Sat M w) (ho : Own w M q [hv, sv, .int .u32 1, .int .i32 0, .int .u32 0, .int .i32 1] 115) :
    Does Tryz.prog 19 #[.pointer (some ⟨q, 0, none⟩)] w (fun v w' => v = .int .i64 1 ∧ Step Nope M w M w') := by
  have hT := Step.refl Nope hs
  refine fn_enter Tryz.func19 rfl (rs := [.tmp 2]) rfl rfl rfl rfl ?_
  refine cw_rs fun _ κ => ?_
  refine Sa rfl rfl ?_
  refine as_nil (κ _ _ ?_)
  refine cw_seq fun _ hK2 => ?_
  refine cw_rs fun _ κ => ?_
  refine Sm rfl rfl ?_
  refine as_q rfl rfl (q_eqnil (by kernel_rfl) rfl) ?_
  refine as_nil (κ _ _ ?_)
  refine cw_false rfl ?_
  refine cw_skip ?_
  refine hK2 _ _ ?_
  refine cw_rs fun _ κ => ?_
  refine Sm rfl rfl ?_
  refine as_q rfl rfl (q_nilp rfl) ?_
  refine Sf 5 rfl (by kernel_rfl) rfl ?_
  refine as_h rfl (h_call (by kernel_rfl) rfl ?_)
  refine (int_load hs (ho.at rfl)).mono ?_
  rintro _ w1 ⟨rfl, hs1⟩
  replace hT := hT.then hs1
  refine as_q rfl rfl (q_convx (by kernel_rfl) (by kernel_rfl) rfl (by exact wrap64_of (by omega) (by omega))) ?_
  refine Sa rfl rfl ?_
  refine as_nil (κ _ _ ?_)
  refine cw_ret ?_
  exact ⟨_, (res_tmp rfl res_nil), rfl, hT⟩
theorem dr_take {w : World} {M : Mem} {q k : Nat} {l : List El} {hv sv : Value} (hs : Sat M w) (hz : l.length < 100000000) (ho : Own w M q [hv, sv, .int .u32 0, .int .i32 1, .int .u32 0, .int .i32 0] 115) (h : HVal M k l hv) :
    Does Tryz.prog 37 #[.pointer (some ⟨q, 0, none⟩)] w (fun _ w' => ∃ M', Step (Just q) M w M' w' ∧ ∃ sv2, Own w' M' q [hv, sv2, .int .u32 0, .int .i32 1, .int .u32 0, .int .i32 1] 115 ∧ Buf w' M' 24 2 sv2 l.length (els l) ∧ HVal M' k l hv ∧ ∀ g, sv2.ownBlock = some g → w.heap.size ≤ g) := by
  have hT := Step.refl (Just q) hs
  have hql := ho.1.lt
  refine fn_enter Tryz.func37 rfl (rs := []) rfl rfl rfl rfl ?_
  refine cw_rs fun _ κ => ?_
  refine Sm rfl rfl ?_
  refine Sm rfl rfl ?_
  refine as_q rfl rfl (q_nilp rfl) ?_
  refine Sf 0 rfl (by kernel_rfl) rfl ?_
  refine Sc 1 rfl (by kernel_rfl) rfl (by exact Blk.cells ho.1 rfl) ?_
  refine as_h rfl (h_call (by kernel_rfl) rfl ?_)
  have hqs := ho.1.lt
  refine (dr_sorted hs h hz).mono ?_
  rintro sv2 w1 ⟨Ms, hs1, hb2, hf2⟩
  replace ho := ho.then hs1
  replace h := h.mono hs1.le
  replace hT := hT.then hs1
  have hz1 := hs1.size
  obtain ⟨a2, c2, rfl, _, _⟩ := hb2.slice
  refine as_q rfl rfl (q_nilp rfl) ?_
  refine Sf 1 rfl (by kernel_rfl) rfl ?_
  refine as_h0 (h_store hs1.sat ho rfl rfl rfl (by kernel_rfl) rfl rfl rfl fun w2 hs2 hn2 => ?_)
  replace hb2 := hb2.step hs2 (fun g hg h => by have h : g = q := h; have := hf2 g hg; omega)
  replace h := h.mono hs2.le
  clear ho; have ho := hn2; clear hn2
  replace hT := hT.also hs2
  have hz2 := hs2.size
  refine as_nil (κ _ _ ?_)
  refine cw_region fun _ κ => ?_
  refine Sm rfl rfl ?_
  refine as_q rfl rfl (q_nilp rfl) ?_
  refine Sf 5 rfl (by kernel_rfl) rfl ?_
  refine as_h rfl (h_call (by kernel_rfl) rfl ?_)
  refine (int_add hs2.sat ho rfl).mono ?_
  rintro _ w3 ⟨hs3, ho3⟩
  replace hb2 := hb2.step hs3 (fun g hg h => by have h : g = q := h; have := hf2 g hg; omega)
  replace h := h.mono hs3.le
  replace hT := hT.also hs3
  clear ho; have ho := ho3; clear ho3
  refine as_nil (κ _ _ ?_)
  exact ⟨_, res_nil, Ms, hT, _, ho, hb2, h, fun g hg => by have := hf2 g hg; omega⟩
theorem dr_slow {w : World} {M : Mem} {q k : Nat} {l : List El} {hv sv : Value} (hs : Sat M w) (hz : l.length < 100000000) (ho : Own w M q [hv, sv, .int .u32 0, .int .i32 0, .int .u32 0, .int .i32 0] 115) (h : HVal M k l hv) :
    Does Tryz.prog 45 #[.pointer (some ⟨q, 2, none⟩), .func (.func 37) #[.pointer (some ⟨q, 0, none⟩)] #[]] w (fun _ w' => ∃ M', Step (Just q) M w M' w' ∧ ∃ sv2, Own w' M' q [hv, sv2, .int .u32 1, .int .i32 0, .int .u32 0, .int .i32 1] 115 ∧ Buf w' M' 24 2 sv2 l.length (els l) ∧ HVal M' k l hv ∧ ∀ g, sv2.ownBlock = some g → w.heap.size ≤ g) := by
  have hT := Step.refl (Just q) hs
  have hql := ho.1.lt
  refine fn_enterD (J := fun _ w1 => ∃ M1, Step (Just q) M w M1 w1 ∧ ∃ sv2, Own w1 M1 q [hv, sv2, .int .u32 0, .int .i32 1, .int .u32 0, .int .i32 1] 115 ∧ Buf w1 M1 24 2 sv2 l.length (els l) ∧ HVal M1 k l hv ∧ ∀ g, sv2.ownBlock = some g → w.heap.size ≤ g) [⟨.fn (.func 51) #[], [Value.pointer (some ⟨q, 2, none⟩), .bool true].toArray⟩, ⟨.fn (.func 50) #[], [Value.pointer (some ⟨q, 3, none⟩)].toArray⟩] Tryz.func45 rfl rfl rfl rfl ?_ ?_
  · skip
    refine cd_seqK (D := []) fun K1 hK1 => cd_cw (cw_region fun K2 hK2 => ?_)
    refine Sm rfl rfl ?_
    refine as_q rfl rfl (q_nilp rfl) ?_
    refine Sf 1 rfl (by kernel_rfl) rfl ?_
    refine as_h rfl (h_call (by kernel_rfl) rfl ?_)
    refine (lock (o := 3) hs ho rfl).mono ?_
    rintro _ w1 ⟨hs1, ho1⟩
    replace h := h.mono hs1.le
    replace hT := hT.also hs1
    clear ho; have ho : Own w1 M q [hv, sv, .int .u32 0, .int .i32 1, .int .u32 0, .int .i32 0] 115 := ho1; clear ho1
    refine as_nil (hK2 _ _ (hK1 _ _ ?_))
    refine cd_seqK (D := [⟨.fn (.func 50) #[], [Value.pointer (some ⟨q, 3, none⟩)].toArray⟩]) fun K3 hK3 => cd_region ?_
    refine asd_q rfl rfl (q_move rfl) ?_
    refine asd_q rfl rfl (q_nilp rfl) ?_
    refine asd_q rfl rfl (q_fieldAddr (off := 1) (by kernel_rfl) rfl) ?_
    refine asd_defer rfl rfl rfl (hK3 _ _ ?_)
    refine cd_seqK (D := [⟨.fn (.func 50) #[], [Value.pointer (some ⟨q, 3, none⟩)].toArray⟩]) fun K4 hK4 => cd_cw (cw_region fun K5 hK5 => ?_)
    refine Sm rfl rfl ?_
    refine as_q rfl rfl (q_nilp rfl) ?_
    refine Sf 0 rfl (by kernel_rfl) rfl ?_
    refine as_h rfl (h_call (by kernel_rfl) rfl ?_)
    refine (bool_load0 hs1.sat (ho.at (o := 2) rfl)).mono ?_
    rintro _ w2 ⟨rfl, hs2⟩
    replace ho := ho.then hs2
    replace h := h.mono hs2.le
    replace hT := hT.then hs2
    refine as_q rfl rfl (q_not rfl) ?_
    refine as_nil (hK5 _ _ (hK4 _ _ ?_))
    refine cd_true rfl ?_
    refine cd_seqK (D := [⟨.fn (.func 51) #[], [Value.pointer (some ⟨q, 2, none⟩), .bool true].toArray⟩, ⟨.fn (.func 50) #[], [Value.pointer (some ⟨q, 3, none⟩)].toArray⟩]) fun K6 hK6 => cd_region ?_
    refine asd_q rfl rfl (q_move rfl) ?_
    refine asd_q rfl rfl (q_nilp rfl) ?_
    refine asd_q rfl rfl (q_fieldAddr (off := 0) (by kernel_rfl) rfl) ?_
    refine asd_defer rfl rfl rfl (hK6 _ _ ?_)
    refine cd_cw (cw_region fun K7 hK7 => ?_)
    refine Sm rfl rfl ?_
    have hsz := hT.size
    refine as_h rfl (h_callv (f := 37) (first := [.pointer (some ⟨q, 0, none⟩)]) (cap := []) (by kernel_rfl) rfl rfl rfl ?_)
    refine (dr_take hs2.sat hz ho h).mono ?_
    rintro _ w3 ⟨M2, hs3, sv2, ho3, hb2, h2, hf2⟩
    replace hT := hT.also hs3
    clear ho; have ho := ho3; clear ho3
    refine as_nil (hK7 _ _ ⟨M2, hT, sv2, ho, hb2, h2, fun g hg => by have := hf2 g hg; omega⟩)
  · rintro l1 w1 tmps ⟨M1, hT, sv2, ho, hb2, h, hf2⟩
    refine leave_one (by kernel_rfl) ((bool_store (o := 2) hT.sat ho rfl).mono ?_)
    rintro _ w2 ⟨hs2, ho2⟩
    replace hb2 := hb2.step hs2 (fun g hg h => by have h : g = q := h; have := hf2 g hg; omega)
    replace hT := hT.also hs2
    refine leave_one (by kernel_rfl) ((unlock (o := 3) hT.sat ho2 rfl).mono ?_)
    rintro _ w3 ⟨hs3, ho3⟩
    replace hb2 := hb2.step hs3 (fun g hg h => by have h : g = q := h; have := hf2 g hg; omega)
    replace hT := hT.also hs3
    exact ⟨_, results_none rfl _ _ _, M1, hT, sv2, ho3, hb2, h, hf2⟩
theorem dr_first {w : World} {M : Mem} {q k : Nat} {l : List El} {hv sv : Value} (hs : Sat M w) (hz : l.length < 100000000) (ho : Own w M q [hv, sv, .int .u32 0, .int .i32 0, .int .u32 0, .int .i32 0] 115) (h : HVal M k l hv) :
    Does Tryz.prog 36 #[.pointer (some ⟨q, 2, none⟩), .func (.func 37) #[.pointer (some ⟨q, 0, none⟩)] #[]] w (fun _ w' => ∃ M', Step (Just q) M w M' w' ∧ ∃ sv2, Own w' M' q [hv, sv2, .int .u32 1, .int .i32 0, .int .u32 0, .int .i32 1] 115 ∧ Buf w' M' 24 2 sv2 l.length (els l) ∧ HVal M' k l hv ∧ ∀ g, sv2.ownBlock = some g → w.heap.size ≤ g) := by
  have hT := Step.refl (Just q) hs
  refine fn_enter Tryz.func36 rfl (rs := []) rfl rfl rfl rfl ?_
  refine cw_rs fun _ κ => ?_
  refine Sm rfl rfl ?_
  refine as_q rfl rfl (q_nilp rfl) ?_
  refine Sf 0 rfl (by kernel_rfl) rfl ?_
  refine as_h rfl (h_call (by kernel_rfl) rfl ?_)
  refine (bool_load0 hs (ho.at (o := 2) rfl)).mono ?_
  rintro _ w1 ⟨rfl, hs1⟩
  replace ho := ho.then hs1
  replace h := h.mono hs1.le
  replace hT := hT.then hs1
  refine as_q rfl rfl (q_not rfl) ?_
  refine as_nil (κ _ _ ?_)
  refine cw_true rfl ?_
  refine cw_region fun _ κ => ?_
  refine Sm rfl rfl ?_
  refine Sm rfl rfl ?_
  refine as_h rfl (h_call (by kernel_rfl) rfl ?_)
  have hsz := hT.size
  refine (dr_slow hs1.sat hz ho h).mono ?_
  rintro _ w2 ⟨M2, hs2, sv2, ho2, hb2, h2, hf2⟩
  replace hT := hT.also hs2
  clear ho; have ho := ho2; clear ho2
  refine as_nil (κ _ _ ?_)
  exact ⟨_, res_nil, M2, hT, sv2, ho, hb2, h2, fun g hg => by have := hf2 g hg; omega⟩
theorem dr_again {w : World} {M : Mem} {q : Nat} {hv sv fv : Value} (hs : Sat M w) (ho : Own w M q [hv, sv, .int .u32 1, .int .i32 0, .int .u32 0, .int .i32 1] 115) :
    Does Tryz.prog 36 #[.pointer (some ⟨q, 2, none⟩), fv] w (fun _ w' => Step Nope M w M w') := by
  have hT := Step.refl Nope hs
  refine fn_enter Tryz.func36 rfl (rs := []) rfl rfl rfl rfl ?_
  refine cw_rs fun _ κ => ?_
  refine Sm rfl rfl ?_
  refine as_q rfl rfl (q_nilp rfl) ?_
  refine Sf 0 rfl (by kernel_rfl) rfl ?_
  refine as_h rfl (h_call (by kernel_rfl) rfl ?_)
  refine (bool_load1 hs (ho.at (o := 2) rfl)).mono ?_
  rintro _ w1 ⟨rfl, hs1⟩
  replace hT := hT.then hs1
  refine as_q rfl rfl (q_not rfl) ?_
  refine as_nil (κ _ _ ?_)
  refine cw_false rfl ?_
  refine cw_skip ?_
  exact ⟨_, res_nil, hT⟩
end Go.Proofs.YtgcgjpfjjgalmaaGreat
/- A drain that is made once, part 2. -/
namespace Go.Proofs.YtgcgjpfjjgalmaaGreat
open Go Go.Eng
theorem dr_all_first {w : World} {M : Mem} {q k : Nat} {l : List El} {hv sv : Value} (hs : Sat M w) (hz : l.length < 100000000) (ho : Own w M q [hv, sv, .int .u32 0, .int .i32 0, .int .u32 0, .int .i32 0] 115) (h : HVal M k l hv) :
    Does Tryz.prog 20 #[.pointer (some ⟨q, 0, none⟩)] w (fun v w' => ∃ sv2 M', Step (Just q) M w M' w' ∧ Own w' M' q [hv, sv2, .int .u32 1, .int .i32 0, .int .u32 0, .int .i32 1] 115 ∧ Buf w' M' 24 2 sv2 l.length (els l) ∧ HVal M' k l hv ∧ Buf w' M' 24 2 v l.length (els l) ∧ (∀ g, v.ownBlock = some g → w.heap.size ≤ g) ∧ (∀ g, v.ownBlock = some g → sv2.ownBlock ≠ some g) ∧ (sv2 = sv ∨ ∀ g, sv2.ownBlock = some g → w.heap.size ≤ g)) := by
  have hT := Step.refl (Just q) hs
  have hql := ho.1.lt
  refine fn_enter Tryz.func20 rfl (rs := [.tmp 2]) rfl rfl rfl rfl ?_
  refine cw_rs fun _ κ => ?_
  refine Sa rfl rfl ?_
  refine as_nil (κ _ _ ?_)
  refine cw_seq fun _ hK2 => ?_
  refine cw_rs fun _ κ => ?_
  refine Sm rfl rfl ?_
  refine as_q rfl rfl (q_eqnil (by kernel_rfl) rfl) ?_
  refine as_nil (κ _ _ ?_)
  refine cw_false rfl ?_
  refine cw_skip ?_
  refine hK2 _ _ ?_
  refine cw_rs fun _ κ => ?_
  refine Sm rfl rfl ?_
  refine as_q rfl rfl (q_nilp rfl) ?_
  refine Sf 2 rfl (by kernel_rfl) rfl ?_
  refine Sm rfl rfl ?_
  refine as_q rfl rfl (q_func rfl rfl) ?_
  refine as_h rfl (h_call (by kernel_rfl) rfl ?_)
  have hsz := hT.size
  refine (dr_first hs hz ho h).mono ?_
  rintro _ w1 ⟨M2, hs1, sv2, ho1, hb, h2, hf2⟩
  replace hT := hT.also hs1
  clear ho; have ho := ho1; clear ho1
  clear h; have h := h2; clear h2
  have hlt2 := hb.lt
  have hql2 := ho.1.lt
  have hsz2 := hT.size
  refine as_nil (κ _ _ ?_)
  refine cw_rs fun _ κ => ?_
  refine Sm rfl rfl ?_
  refine as_q rfl rfl (q_nilp rfl) ?_
  refine Sf 1 rfl (by kernel_rfl) rfl ?_
  refine S1 rfl (by kernel_rfl) rfl (by exact Blk.cell ho.1 rfl) ?_
  refine as_h rfl (h_call (by kernel_rfl) rfl ?_)
  refine (clxe hs1.sat hb.rds (els_one _) (by omega)).mono ?_
  rintro cv w2 ⟨hs2, hcv, hcf⟩
  replace ho := ho.then hs2
  replace hb := hb.then hs2
  replace h := h.mono hs2.le
  replace hT := hT.then hs2
  obtain ⟨ca, cc, rfl, _, _⟩ := hcv.slice
  refine Sa rfl rfl ?_
  refine as_nil (κ _ _ ?_)
  refine cw_ret ?_
  exact ⟨_, (res_tmp rfl res_nil), sv2, _, hT, ho, hb, h, hcv, fun g hg => by have h1 := hcf g hg; omega, fun g hg h => by have h1 := hcf g hg; have h2 := hlt2 g h; omega, Or.inr fun g hg => by have := hf2 g hg; omega⟩
theorem dr_all_again {w : World} {M : Mem} {q k : Nat} {l : List El} {hv sv : Value} (hs : Sat M w) (hz : l.length < 100000000) (ho : Own w M q [hv, sv, .int .u32 1, .int .i32 0, .int .u32 0, .int .i32 1] 115) (h : HVal M k l hv) (hb : Buf w M 24 2 sv l.length (els l)) :
    Does Tryz.prog 20 #[.pointer (some ⟨q, 0, none⟩)] w (fun v w' => ∃ sv2 M', Step (Just q) M w M' w' ∧ Own w' M' q [hv, sv2, .int .u32 1, .int .i32 0, .int .u32 0, .int .i32 1] 115 ∧ Buf w' M' 24 2 sv2 l.length (els l) ∧ HVal M' k l hv ∧ Buf w' M' 24 2 v l.length (els l) ∧ (∀ g, v.ownBlock = some g → w.heap.size ≤ g) ∧ (∀ g, v.ownBlock = some g → sv2.ownBlock ≠ some g) ∧ (sv2 = sv ∨ ∀ g, sv2.ownBlock = some g → w.heap.size ≤ g)) := by
  have hT := Step.refl Nope hs
  have hql := ho.1.lt
  refine fn_enter Tryz.func20 rfl (rs := [.tmp 2]) rfl rfl rfl rfl ?_
  refine cw_rs fun _ κ => ?_
  refine Sa rfl rfl ?_
  refine as_nil (κ _ _ ?_)
  refine cw_seq fun _ hK2 => ?_
  refine cw_rs fun _ κ => ?_
  refine Sm rfl rfl ?_
  refine as_q rfl rfl (q_eqnil (by kernel_rfl) rfl) ?_
  refine as_nil (κ _ _ ?_)
  refine cw_false rfl ?_
  refine cw_skip ?_
  refine hK2 _ _ ?_
  refine cw_rs fun _ κ => ?_
  refine Sm rfl rfl ?_
  refine as_q rfl rfl (q_nilp rfl) ?_
  refine Sf 2 rfl (by kernel_rfl) rfl ?_
  refine Sm rfl rfl ?_
  refine as_q rfl rfl (q_func rfl rfl) ?_
  refine as_h rfl (h_call (by kernel_rfl) rfl ?_)
  refine (dr_again hs ho).mono ?_
  rintro _ w1 hs1
  replace ho := ho.then hs1
  replace h := h.mono hs1.le
  replace hb := hb.then hs1
  replace hT := hT.then hs1
  have hlt2 := hb.lt
  have hql2 := ho.1.lt
  have hsz2 := hT.size
  refine as_nil (κ _ _ ?_)
  refine cw_rs fun _ κ => ?_
  refine Sm rfl rfl ?_
  refine as_q rfl rfl (q_nilp rfl) ?_
  refine Sf 1 rfl (by kernel_rfl) rfl ?_
  refine S1 rfl (by kernel_rfl) rfl (by exact Blk.cell ho.1 rfl) ?_
  refine as_h rfl (h_call (by kernel_rfl) rfl ?_)
  refine (clxe hs1.sat hb.rds (els_one _) (by omega)).mono ?_
  rintro cv w2 ⟨hs2, hcv, hcf⟩
  replace ho := ho.then hs2
  replace h := h.mono hs2.le
  replace hb := hb.then hs2
  replace hT := hT.then hs2
  obtain ⟨ca, cc, rfl, _, _⟩ := hcv.slice
  refine Sa rfl rfl ?_
  refine as_nil (κ _ _ ?_)
  refine cw_ret ?_
  exact ⟨_, (res_tmp rfl res_nil), sv, _, hT.any _, ho, hb, h, hcv, fun g hg => by have h1 := hcf g hg; omega, fun g hg h => by have h1 := hcf g hg; have h2 := hlt2 g h; omega, Or.inl rfl⟩
end Go.Proofs.YtgcgjpfjjgalmaaGreat
