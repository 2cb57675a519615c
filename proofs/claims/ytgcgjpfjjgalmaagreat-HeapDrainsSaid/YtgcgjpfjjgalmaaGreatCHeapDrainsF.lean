/- Steps of the proof that the law of this claim answers true, part 6. No conditions. -/
import Derived.Shelf.Strings.OnBuilder
import Derived.Shelf.Strconv.Itoa4
import Derived.Test.YtgcgjpfjjgalmaaGreatProg
import Derived.Test.YtgcgjpfjjgalmaaGreatRows
import Derived.KernelRfl
import Derived.Test.YtgcgjpfjjgalmaaGreatCHeapDrainsE
/- The calls of heap, part 2. -/
namespace Go.Proofs.YtgcgjpfjjgalmaaGreat
open Go Go.Eng
theorem hp_min_0 {w : World} {M : Mem} {k : Nat} {v : Value} (hs : Sat M w) (h : HVal M k [] v) :
    Does Tryz.prog 28 #[.agg #[v], .pointer none] w (fun r w' => r = .tuple #[.agg (elc (0, 0)).toArray, .int .i64 (fullE k [])] ∧ Step Nope M w M w') := by
  have hT := Step.refl Nope hs
  have hfe : fullE k [] = 22 ∨ fullE k [] = 23 := by unfold fullE; split <;> simp
  refine fn_enter Tryz.func28 rfl (rs := [.cell 4 24, .tmp 5]) rfl rfl rfl rfl ?_
  refine cw_rs fun _ κ => ?_
  refine as_h rfl (h_boxM hs rfl rfl fun b1 M1 w1 hs1 hb1 e1 => ?_)
  replace h := h.mono hs1.le
  replace hT := hT.then hs1
  have hz1 := hs1.size
  have hqar := hT.size
  refine as_h rfl (h_allocO (z := (.agg #[(.int .i64 0), (.int .i64 0)])) hs1.sat (by kernel_rfl) rfl fun br w2 hs2 hor er => ?_)
  replace h := h.mono hs2.le
  replace hb1 := hs2.le _ _ hb1
  replace hT := hT.then hs2
  have hz2 := hs2.size
  have hlr := hor.1.lt
  refine Sa rfl rfl ?_
  refine as_nil (κ _ _ ?_)
  refine cw_seq fun _ hK2 => ?_
  refine cw_rs fun _ κ => ?_
  refine Sc 1 rfl (by kernel_rfl) rfl (by exact BlkR.cells (hs2.sat _ _ _ hb1) rfl) ?_
  refine as_h rfl (h_call (by kernel_rfl) rfl ?_)
  refine (hp_full hs2.sat h (by decide)).mono ?_
  rintro _ w3 ⟨rfl, hs3⟩
  replace h := h.mono hs3.le
  replace hor := hor.then hs3
  replace hT := hT.then hs3
  have hz3 := hs3.size
  refine Sa rfl rfl ?_
  refine as_nil (κ _ _ ?_)
  refine cw_rs fun _ κ => ?_
  refine Sm rfl rfl ?_
  refine as_q rfl rfl (q_neT rfl rfl (by omega)) ?_
  refine as_nil (κ _ _ ?_)
  refine cw_true rfl ?_
  refine cw_rs fun _ κ => ?_
  refine as_q rfl rfl (q_build (zs := [(.int .i64 0), (.int .i64 0)]) (places := [(0, 1), (1, 1)]) (cs := [_, _]) (by kernel_rfl) (by kernel_rfl) rfl rfl) ?_
  refine Sm rfl rfl ?_
  refine as_h0 (h_store hs3.sat hor rfl rfl rfl (by kernel_rfl) rfl rfl rfl fun w4 hs4 hn4 => ?_)
  replace h := h.mono hs4.le
  clear hor; have hor := hn4; clear hn4
  replace hT := hT.own hs4 (by omega)
  have hz4 := hs4.size
  refine Sa rfl rfl ?_
  refine as_nil (κ _ _ ?_)
  refine cw_ret ?_
  exact ⟨_, (res_cell rfl (loadVar_n (n := 2) (by kernel_rfl) (by exact Blk.cells hor.1 rfl)) (res_tmp rfl res_nil)), rfl, hT.forget⟩
theorem hp_min_1 {w : World} {M : Mem} {k : Nat} {x : El} {l : List El} {v : Value} (hs : Sat M w) (h : HVal M k (x :: l) v) (hk : k ≠ 0) (hz : (x :: l).length < 1000000000) :
    Does Tryz.prog 28 #[.agg #[v], .pointer none] w (fun r w' => r = .tuple #[.agg (elc x).toArray, .int .i64 (fullE k (x :: l))] ∧ Step Nope M w M w') := by
  have hT := Step.refl Nope hs
  have hfe : fullE k (x :: l) = 0 := by unfold fullE; rw [if_neg hk, if_neg (by simp)]
  obtain ⟨d, u, rfl⟩ := h.iface hk
  refine fn_enter Tryz.func28 rfl (rs := [.cell 4 24, .tmp 5]) rfl rfl rfl rfl ?_
  refine cw_rs fun _ κ => ?_
  refine as_h rfl (h_boxM hs rfl rfl fun b1 M1 w1 hs1 hb1 e1 => ?_)
  replace h := h.mono hs1.le
  replace hT := hT.then hs1
  have hz1 := hs1.size
  have hqar := hT.size
  refine as_h rfl (h_allocO (z := (.agg #[(.int .i64 0), (.int .i64 0)])) hs1.sat (by kernel_rfl) rfl fun br w2 hs2 hor er => ?_)
  replace h := h.mono hs2.le
  replace hb1 := hs2.le _ _ hb1
  replace hT := hT.then hs2
  have hz2 := hs2.size
  have hlr := hor.1.lt
  refine Sa rfl rfl ?_
  refine as_nil (κ _ _ ?_)
  refine cw_seq fun _ hK2 => ?_
  refine cw_rs fun _ κ => ?_
  refine Sc 1 rfl (by kernel_rfl) rfl (by exact BlkR.cells (hs2.sat _ _ _ hb1) rfl) ?_
  refine as_h rfl (h_call (by kernel_rfl) rfl ?_)
  refine (hp_full hs2.sat h hz).mono ?_
  rintro _ w3 ⟨rfl, hs3⟩
  replace h := h.mono hs3.le
  replace hb1 := hs3.le _ _ hb1
  replace hor := hor.then hs3
  replace hT := hT.then hs3
  have hz3 := hs3.size
  refine Sa rfl rfl ?_
  refine as_nil (κ _ _ ?_)
  refine cw_rs fun _ κ => ?_
  refine Sm rfl rfl ?_
  refine as_q rfl rfl (q_neF rfl rfl (by omega)) ?_
  refine as_nil (κ _ _ ?_)
  refine cw_false rfl ?_
  refine cw_skip ?_
  refine hK2 _ _ ?_
  refine cw_rs fun _ κ => ?_
  refine Sf 0 rfl (by kernel_rfl) rfl ?_
  refine S1 rfl (by kernel_rfl) rfl (by exact BlkR.cell (hs3.sat _ _ _ hb1) rfl) ?_
  refine Sm rfl rfl ?_
  obtain ⟨d0, u0, f0, r0, hv0, hc0_, hm0, hd0⟩ := hv_min hs3.sat h hz
  cases hv0
  refine as_h rfl (h_invokeP hc0_ rfl rfl (hm0 _) ?_)
  refine hd0.mono ?_
  rintro _ w4 ⟨rfl, hs4⟩
  replace h := h.mono hs4.le
  replace hor := hor.then hs4
  replace hT := hT.then hs4
  have hz4 := hs4.size
  refine Sm rfl rfl ?_
  refine Se rfl rfl rfl ?_
  refine Se rfl rfl rfl ?_
  have hqax := hT.size
  refine as_h rfl (h_allocO (z := (.agg #[(.int .i64 0), (.int .i64 0)])) hs4.sat (by kernel_rfl) rfl fun bx w5 hs5 hox ex => ?_)
  replace h := h.mono hs5.le
  replace hor := hor.then hs5
  replace hT := hT.then hs5
  have hz5 := hs5.size
  have hlx := hox.1.lt
  refine as_h0 (h_store hs5.sat hox rfl rfl rfl (by kernel_rfl) rfl rfl rfl fun w6 hs6 hn6 => ?_)
  replace h := h.mono hs6.le
  replace hor := hor.step hs6 (fun h => by have h : _ = _ := h; omega)
  clear hox; have hox := hn6; clear hn6
  replace hT := hT.own hs6 (by omega)
  have hz6 := hs6.size
  refine Sa rfl rfl ?_
  refine as_nil (κ _ _ ?_)
  refine cw_rs fun _ κ => ?_
  refine Sc 2 rfl (by kernel_rfl) rfl (by exact Blk.cells hox.1 rfl) ?_
  refine as_h0 (h_store hs6.sat hor rfl rfl rfl (by kernel_rfl) rfl rfl rfl fun w7 hs7 hn7 => ?_)
  replace h := h.mono hs7.le
  clear hor; have hor := hn7; clear hn7
  replace hT := hT.own hs7 (by omega)
  have hz7 := hs7.size
  refine Sa rfl rfl ?_
  refine as_nil (κ _ _ ?_)
  refine cw_ret ?_
  rw [hfe]
  exact ⟨_, (res_cell rfl (loadVar_n (n := 2) (by kernel_rfl) (by exact Blk.cells hor.1 rfl)) (res_tmp rfl res_nil)), rfl, hT.forget⟩
theorem hp_min {w : World} {M : Mem} {k : Nat} {l : List El} {v : Value} (hs : Sat M w) (h : HVal M k l v) (hz : l.length < 1000000000) : Does Tryz.prog 28 #[.agg #[v], .pointer none] w (fun r w' => r = .tuple #[.agg (elc (l.headD (0, 0))).toArray, .int .i64 (fullE k l)] ∧ Step Nope M w M w') := by
  cases l with
  | nil => exact hp_min_0 hs h
  | cons x l => exact hp_min_1 hs h (by rintro rfl; cases h.zero.1) hz
theorem hp_pop_0 {w : World} {M : Mem} {k : Nat} {v : Value} (hs : Sat M w) (h : HVal M k [] v) :
    Does Tryz.prog 27 #[.agg #[v], .pointer none] w (fun r w' => ∃ v' M', r = .tuple #[.agg #[v'], .int .i64 (fullE k [])] ∧ Step Nope M w M' w' ∧ HVal M' 0 [] v') := by
  have hT := Step.refl Nope hs
  have hfe : fullE k [] = 22 ∨ fullE k [] = 23 := by unfold fullE; split <;> simp
  refine fn_enter Tryz.func27 rfl (rs := [.cell 4 29, .tmp 5]) rfl rfl rfl rfl ?_
  refine cw_rs fun _ κ => ?_
  refine as_h rfl (h_boxM hs rfl rfl fun b1 M1 w1 hs1 hb1 e1 => ?_)
  replace h := h.mono hs1.le
  replace hT := hT.then hs1
  have hz1 := hs1.size
  have hqar := hT.size
  refine as_h rfl (h_allocO (z := (.agg #[.nilIface])) hs1.sat (by kernel_rfl) rfl fun br w2 hs2 hor er => ?_)
  replace h := h.mono hs2.le
  replace hb1 := hs2.le _ _ hb1
  replace hT := hT.then hs2
  have hz2 := hs2.size
  have hlr := hor.1.lt
  refine Sa rfl rfl ?_
  refine as_nil (κ _ _ ?_)
  refine cw_seq fun _ hK2 => ?_
  refine cw_rs fun _ κ => ?_
  refine Sc 1 rfl (by kernel_rfl) rfl (by exact BlkR.cells (hs2.sat _ _ _ hb1) rfl) ?_
  refine as_h rfl (h_call (by kernel_rfl) rfl ?_)
  refine (hp_full hs2.sat h (by decide)).mono ?_
  rintro _ w3 ⟨rfl, hs3⟩
  replace h := h.mono hs3.le
  replace hor := hor.then hs3
  replace hT := hT.then hs3
  have hz3 := hs3.size
  refine Sa rfl rfl ?_
  refine as_nil (κ _ _ ?_)
  refine cw_rs fun _ κ => ?_
  refine Sm rfl rfl ?_
  refine as_q rfl rfl (q_neT rfl rfl (by omega)) ?_
  refine as_nil (κ _ _ ?_)
  refine cw_true rfl ?_
  refine cw_rs fun _ κ => ?_
  refine as_q rfl rfl (q_build (zs := [.nilIface]) (places := [(0, 1)]) (cs := [_]) (by kernel_rfl) (by kernel_rfl) rfl rfl) ?_
  refine Sm rfl rfl ?_
  refine as_h0 (h_store hs3.sat hor rfl rfl rfl (by kernel_rfl) rfl rfl rfl fun w4 hs4 hn4 => ?_)
  replace h := h.mono hs4.le
  clear hor; have hor := hn4; clear hn4
  replace hT := hT.own hs4 (by omega)
  have hz4 := hs4.size
  refine Sa rfl rfl ?_
  refine as_nil (κ _ _ ?_)
  refine cw_ret ?_
  exact ⟨_, (res_cell rfl (loadVar_n (n := 1) (by kernel_rfl) (by exact Blk.cells hor.1 rfl)) (res_tmp rfl res_nil)), _, _, rfl, hT, .z⟩
theorem hp_pop_1 {w : World} {M : Mem} {k : Nat} {x : El} {l : List El} {v : Value} (hs : Sat M w) (h : HVal M k (x :: l) v) (hk : k ≠ 0) (hz : (x :: l).length < 1000000000) :
    Does Tryz.prog 27 #[.agg #[v], .pointer none] w (fun r w' => ∃ v' M', r = .tuple #[.agg #[v'], .int .i64 (fullE k (x :: l))] ∧ Step Nope M w M' w' ∧ HVal M' k l v') := by
  have hT := Step.refl Nope hs
  have hfe : fullE k (x :: l) = 0 := by unfold fullE; rw [if_neg hk, if_neg (by simp)]
  obtain ⟨d, u, rfl⟩ := h.iface hk
  refine fn_enter Tryz.func27 rfl (rs := [.cell 4 29, .tmp 5]) rfl rfl rfl rfl ?_
  refine cw_rs fun _ κ => ?_
  refine as_h rfl (h_boxM hs rfl rfl fun b1 M1 w1 hs1 hb1 e1 => ?_)
  replace h := h.mono hs1.le
  replace hT := hT.then hs1
  have hz1 := hs1.size
  have hqar := hT.size
  refine as_h rfl (h_allocO (z := (.agg #[.nilIface])) hs1.sat (by kernel_rfl) rfl fun br w2 hs2 hor er => ?_)
  replace h := h.mono hs2.le
  replace hb1 := hs2.le _ _ hb1
  replace hT := hT.then hs2
  have hz2 := hs2.size
  have hlr := hor.1.lt
  refine Sa rfl rfl ?_
  refine as_nil (κ _ _ ?_)
  refine cw_seq fun _ hK2 => ?_
  refine cw_rs fun _ κ => ?_
  refine Sc 1 rfl (by kernel_rfl) rfl (by exact BlkR.cells (hs2.sat _ _ _ hb1) rfl) ?_
  refine as_h rfl (h_call (by kernel_rfl) rfl ?_)
  refine (hp_full hs2.sat h hz).mono ?_
  rintro _ w3 ⟨rfl, hs3⟩
  replace h := h.mono hs3.le
  replace hb1 := hs3.le _ _ hb1
  replace hor := hor.then hs3
  replace hT := hT.then hs3
  have hz3 := hs3.size
  refine Sa rfl rfl ?_
  refine as_nil (κ _ _ ?_)
  refine cw_rs fun _ κ => ?_
  refine Sm rfl rfl ?_
  refine as_q rfl rfl (q_neF rfl rfl (by omega)) ?_
  refine as_nil (κ _ _ ?_)
  refine cw_false rfl ?_
  refine cw_skip ?_
  refine hK2 _ _ ?_
  refine cw_rs fun _ κ => ?_
  refine Sf 0 rfl (by kernel_rfl) rfl ?_
  refine S1 rfl (by kernel_rfl) rfl (by exact BlkR.cell (hs3.sat _ _ _ hb1) rfl) ?_
  refine Sm rfl rfl ?_
  obtain ⟨d0, u0, f0, r0, hv0, hc0_, hm0, hd0⟩ := hv_pop hs3.sat h hz
  cases hv0
  refine as_h rfl (h_invokeP hc0_ rfl rfl (hm0 _) ?_)
  refine hd0.mono ?_
  rintro v1 w4 ⟨Mn, hs4, hn⟩
  replace h := h.mono hs4.le
  replace hor := hor.then hs4
  replace hT := hT.then hs4
  have hz4 := hs4.size
  obtain ⟨d9, u9, rfl⟩ := hn.iface hk
  refine as_q rfl rfl (q_build (zs := [.nilIface]) (places := [(0, 1)]) (cs := [_]) (by kernel_rfl) (by kernel_rfl) rfl rfl) ?_
  refine as_h0 (h_store hs4.sat hor rfl rfl rfl (by kernel_rfl) rfl rfl rfl fun w5 hs5 hn5 => ?_)
  replace h := h.mono hs5.le
  replace hn := hn.mono hs5.le
  clear hor; have hor := hn5; clear hn5
  replace hT := hT.own hs5 (by omega)
  have hz5 := hs5.size
  refine Sa rfl rfl ?_
  refine as_nil (κ _ _ ?_)
  refine cw_ret ?_
  rw [hfe]
  exact ⟨_, (res_cell rfl (loadVar_n (n := 1) (by kernel_rfl) (by exact Blk.cells hor.1 rfl)) (res_tmp rfl res_nil)), _, _, rfl, hT, hn⟩
theorem hp_pop {w : World} {M : Mem} {k : Nat} {l : List El} {v : Value} (hs : Sat M w) (h : HVal M k l v) (hz : l.length < 1000000000) : Does Tryz.prog 27 #[.agg #[v], .pointer none] w (fun r w' => ∃ v' M', r = .tuple #[.agg #[v'], .int .i64 (fullE k l)] ∧ Step Nope M w M' w' ∧ HVal M' (popK k l) l.tail v') := by
  cases l with
  | nil => exact hp_pop_0 hs h
  | cons x l => exact hp_pop_1 hs h (by rintro rfl; cases h.zero.1) hz
theorem hp_insert_0 {w : World} {M : Mem} {x : El} (hs : Sat M w) :
    Does Tryz.prog 14 #[.agg #[.nilIface], .pointer none, .agg (elc x).toArray] w (fun r w' => ∃ v' M', r = .tuple #[.agg #[v'], .int .i64 22] ∧ Step Nope M w M' w' ∧ HVal M' 0 [] v') := by
  have hT := Step.refl Nope hs
  refine fn_enter Tryz.func14 rfl (rs := [.cell 6 29, .tmp 7]) rfl rfl rfl rfl ?_
  refine cw_rs fun _ κ => ?_
  refine as_h rfl (h_boxM hs rfl rfl fun b1 M1 w1 hs1 hb1 e1 => ?_)
  replace hT := hT.then hs1
  have hz1 := hs1.size
  refine as_h rfl (h_boxM hs1.sat rfl rfl fun b2 M2 w2 hs2 hb2 e2 => ?_)
  replace hb1 := hs2.le _ _ hb1
  replace hT := hT.then hs2
  have hz2 := hs2.size
  have hqar := hT.size
  refine as_h rfl (h_allocO (z := (.agg #[.nilIface])) hs2.sat (by kernel_rfl) rfl fun br w3 hs3 hor er => ?_)
  replace hb1 := hs3.le _ _ hb1
  replace hT := hT.then hs3
  have hz3 := hs3.size
  have hlr := hor.1.lt
  refine Sa rfl rfl ?_
  refine as_nil (κ _ _ ?_)
  refine cw_seq fun _ hK2 => ?_
  refine cw_rs fun _ κ => ?_
  refine Sf 0 rfl (by kernel_rfl) rfl ?_
  refine S1 rfl (by kernel_rfl) rfl (by exact BlkR.cell (hs3.sat _ _ _ hb1) rfl) ?_
  refine as_q rfl rfl (q_ifNil (by kernel_rfl) rfl) ?_
  refine as_nil (κ _ _ ?_)
  refine cw_true rfl ?_
  refine cw_rs fun _ κ => ?_
  refine Sc 1 rfl (by kernel_rfl) rfl (by exact BlkR.cells (hs3.sat _ _ _ hb1) rfl) ?_
  refine as_h0 (h_store hs3.sat hor rfl rfl rfl (by kernel_rfl) rfl rfl rfl fun w4 hs4 hn4 => ?_)
  clear hor; have hor := hn4; clear hn4
  replace hT := hT.own hs4 (by omega)
  have hz4 := hs4.size
  refine Sa rfl rfl ?_
  refine as_nil (κ _ _ ?_)
  refine cw_ret ?_
  exact ⟨_, (res_cell rfl (loadVar_n (n := 1) (by kernel_rfl) (by exact Blk.cells hor.1 rfl)) (res_tmp rfl res_nil)), _, _, rfl, hT, .z⟩
theorem hp_insert_1 {w : World} {M : Mem} {k : Nat} {x : El} {l : List El} {v : Value} (hs : Sat M w) (h : HVal M k l v) (hk : k ≠ 0) (hz : l.length < 1000000000) :
    Does Tryz.prog 14 #[.agg #[v], .pointer none, .agg (elc x).toArray] w (fun r w' => ∃ v' M', r = .tuple #[.agg #[v'], .int .i64 0] ∧ Step Nope M w M' w' ∧ HVal M' k (putE l x) v') := by
  have hT := Step.refl Nope hs
  obtain ⟨d, u, rfl⟩ := h.iface hk
  refine fn_enter Tryz.func14 rfl (rs := [.cell 6 29, .tmp 7]) rfl rfl rfl rfl ?_
  refine cw_rs fun _ κ => ?_
  refine as_h rfl (h_boxM hs rfl rfl fun b1 M1 w1 hs1 hb1 e1 => ?_)
  replace h := h.mono hs1.le
  replace hT := hT.then hs1
  have hz1 := hs1.size
  refine as_h rfl (h_boxM hs1.sat rfl rfl fun b2 M2 w2 hs2 hb2 e2 => ?_)
  replace h := h.mono hs2.le
  replace hb1 := hs2.le _ _ hb1
  replace hT := hT.then hs2
  have hz2 := hs2.size
  have hqar := hT.size
  refine as_h rfl (h_allocO (z := (.agg #[.nilIface])) hs2.sat (by kernel_rfl) rfl fun br w3 hs3 hor er => ?_)
  replace h := h.mono hs3.le
  replace hb1 := hs3.le _ _ hb1
  replace hb2 := hs3.le _ _ hb2
  replace hT := hT.then hs3
  have hz3 := hs3.size
  have hlr := hor.1.lt
  refine Sa rfl rfl ?_
  refine as_nil (κ _ _ ?_)
  refine cw_seq fun _ hK2 => ?_
  refine cw_rs fun _ κ => ?_
  refine Sf 0 rfl (by kernel_rfl) rfl ?_
  refine S1 rfl (by kernel_rfl) rfl (by exact BlkR.cell (hs3.sat _ _ _ hb1) rfl) ?_
  refine as_q rfl rfl (q_ifSome (by kernel_rfl) rfl) ?_
  refine as_nil (κ _ _ ?_)
  refine cw_false rfl ?_
  refine cw_skip ?_
  refine hK2 _ _ ?_
  refine cw_rs fun _ κ => ?_
  refine Sf 0 rfl (by kernel_rfl) rfl ?_
  refine S1 rfl (by kernel_rfl) rfl (by exact BlkR.cell (hs3.sat _ _ _ hb1) rfl) ?_
  refine Sm rfl rfl ?_
  refine Sc 2 rfl (by kernel_rfl) rfl (by exact BlkR.cells (hs3.sat _ _ _ hb2) rfl) ?_
  obtain ⟨d0, u0, f0, r0, hv0, hc0_, hm0, hd0⟩ := hv_insert (x := x) hs3.sat h hk hz
  cases hv0
  refine as_h rfl (h_invokeP hc0_ rfl rfl (hm0 _) ?_)
  refine hd0.mono ?_
  rintro v1 w4 ⟨Mn, hs4, hn⟩
  replace h := h.mono hs4.le
  replace hor := hor.then hs4
  replace hT := hT.then hs4
  have hz4 := hs4.size
  obtain ⟨d9, u9, rfl⟩ := hn.iface hk
  refine as_q rfl rfl (q_build (zs := [.nilIface]) (places := [(0, 1)]) (cs := [_]) (by kernel_rfl) (by kernel_rfl) rfl rfl) ?_
  refine as_h0 (h_store hs4.sat hor rfl rfl rfl (by kernel_rfl) rfl rfl rfl fun w5 hs5 hn5 => ?_)
  replace h := h.mono hs5.le
  replace hn := hn.mono hs5.le
  clear hor; have hor := hn5; clear hn5
  replace hT := hT.own hs5 (by omega)
  have hz5 := hs5.size
  refine Sa rfl rfl ?_
  refine as_nil (κ _ _ ?_)
  refine cw_ret ?_
  exact ⟨_, (res_cell rfl (loadVar_n (n := 1) (by kernel_rfl) (by exact Blk.cells hor.1 rfl)) (res_tmp rfl res_nil)), _, _, rfl, hT, hn⟩
theorem hp_insert {w : World} {M : Mem} {k : Nat} {x : El} {l : List El} {v : Value} (hs : Sat M w) (h : HVal M k l v) (hz : l.length < 1000000000) : Does Tryz.prog 14 #[.agg #[v], .pointer none, .agg (elc x).toArray] w (fun r w' => ∃ v' M', r = .tuple #[.agg #[v'], .int .i64 (insE k)] ∧ Step Nope M w M' w' ∧ HVal M' k (insL k l x) v') := by
  by_cases hk : k = 0
  · subst hk; obtain ⟨rfl, rfl⟩ := h.zero; exact hp_insert_0 hs
  · unfold insE insL
    rw [if_neg hk, if_neg hk]
    exact hp_insert_1 hs h hk hz
theorem hp_meld_0 {w : World} {M : Mem} {v2 : Value} (hs : Sat M w) :
    Does Tryz.prog 26 #[.agg #[.nilIface], .pointer none, .agg #[v2]] w (fun r w' => ∃ v' M', r = .tuple #[.agg #[v'], .int .i64 22] ∧ Step Nope M w M' w' ∧ HVal M' 0 [] v') := by
  have hT := Step.refl Nope hs
  refine fn_enter Tryz.func26 rfl (rs := [.cell 6 29, .tmp 7]) rfl rfl rfl rfl ?_
  refine cw_rs fun _ κ => ?_
  refine as_h rfl (h_boxM hs rfl rfl fun b1 M1 w1 hs1 hb1 e1 => ?_)
  replace hT := hT.then hs1
  have hz1 := hs1.size
  refine as_h rfl (h_boxM hs1.sat rfl rfl fun b2 M2 w2 hs2 hb2 e2 => ?_)
  replace hb1 := hs2.le _ _ hb1
  replace hT := hT.then hs2
  have hz2 := hs2.size
  have hqar := hT.size
  refine as_h rfl (h_allocO (z := (.agg #[.nilIface])) hs2.sat (by kernel_rfl) rfl fun br w3 hs3 hor er => ?_)
  replace hb1 := hs3.le _ _ hb1
  replace hT := hT.then hs3
  have hz3 := hs3.size
  have hlr := hor.1.lt
  refine Sa rfl rfl ?_
  refine as_nil (κ _ _ ?_)
  refine cw_seq fun _ hK2 => ?_
  refine cw_dr (by kernel_rfl) fun _ κ => ?_
  have hs4 := Step.drew hs3.sat
  have hz4 := hs4.size
  replace hb1 := hs4.le _ _ hb1
  replace hor := hor.then hs4
  replace hT := hT.then hs4
  refine Df 0 1 0 rfl (by kernel_rfl) (by kernel_rfl) rfl ?_
  refine Dl1 1 3 rfl (by kernel_rfl) (by kernel_rfl) rfl (by exact BlkR.cell (hs4.sat _ _ _ hb1) rfl) ?_
  refine Dq 2 7 rfl (by kernel_rfl) (fun _ => (q_ifNil (by kernel_rfl) rfl)) ?_
  refine Dm 3 15 rfl (by kernel_rfl) rfl ?_
  refine Dgs 4 31 rfl (by kernel_rfl) rfl rfl ?_
  refine Dgs 5 63 rfl (by kernel_rfl) rfl rfl ?_
  refine Dgs 6 127 rfl (by kernel_rfl) rfl rfl ?_
  refine Dq 7 255 rfl (by kernel_rfl) (fun _ => (q_pick_t rfl rfl)) ?_
  refine Dm 8 511 rfl (by kernel_rfl) rfl ?_
  refine Dgs 9 1023 rfl (by kernel_rfl) rfl rfl ?_
  refine Dgs 10 2047 rfl (by kernel_rfl) rfl rfl ?_
  refine Dgs 11 4095 rfl (by kernel_rfl) rfl rfl ?_
  refine Dgs 12 8191 rfl (by kernel_rfl) rfl rfl ?_
  refine Dgs 13 16383 rfl (by kernel_rfl) rfl rfl ?_
  refine Dq 14 32767 rfl (by kernel_rfl) (fun _ => (q_pick_t rfl rfl)) ?_
  refine Dd (by kernel_rfl) (κ _ _ ?_)
  refine cw_true rfl ?_
  refine cw_rs fun _ κ => ?_
  refine as_q rfl rfl (q_build (zs := [.nilIface]) (places := [(0, 1)]) (cs := [_]) (by kernel_rfl) (by kernel_rfl) rfl rfl) ?_
  refine as_h0 (h_store hs4.sat hor rfl rfl rfl (by kernel_rfl) rfl rfl rfl fun w5 hs5 hn5 => ?_)
  clear hor; have hor := hn5; clear hn5
  replace hT := hT.own hs5 (by omega)
  have hz5 := hs5.size
  refine Sa rfl rfl ?_
  refine as_nil (κ _ _ ?_)
  refine cw_ret ?_
  exact ⟨_, (res_cell rfl (loadVar_n (n := 1) (by kernel_rfl) (by exact Blk.cells hor.1 rfl)) (res_tmp rfl res_nil)), _, _, rfl, hT, .z⟩
theorem hp_meld_1 {w : World} {M : Mem} {k : Nat} {l : List El} {v : Value} (hs : Sat M w) (h : HVal M k l v) (hk : k ≠ 0) :
    Does Tryz.prog 26 #[.agg #[v], .pointer none, .agg #[.nilIface]] w (fun r w' => ∃ v' M', r = .tuple #[.agg #[v'], .int .i64 22] ∧ Step Nope M w M' w' ∧ HVal M' 0 [] v') := by
  have hT := Step.refl Nope hs
  obtain ⟨d, u, rfl⟩ := h.iface hk
  refine fn_enter Tryz.func26 rfl (rs := [.cell 6 29, .tmp 7]) rfl rfl rfl rfl ?_
  refine cw_rs fun _ κ => ?_
  refine as_h rfl (h_boxM hs rfl rfl fun b1 M1 w1 hs1 hb1 e1 => ?_)
  replace h := h.mono hs1.le
  replace hT := hT.then hs1
  have hz1 := hs1.size
  refine as_h rfl (h_boxM hs1.sat rfl rfl fun b2 M2 w2 hs2 hb2 e2 => ?_)
  replace h := h.mono hs2.le
  replace hb1 := hs2.le _ _ hb1
  replace hT := hT.then hs2
  have hz2 := hs2.size
  have hqar := hT.size
  refine as_h rfl (h_allocO (z := (.agg #[.nilIface])) hs2.sat (by kernel_rfl) rfl fun br w3 hs3 hor er => ?_)
  replace h := h.mono hs3.le
  replace hb1 := hs3.le _ _ hb1
  replace hb2 := hs3.le _ _ hb2
  replace hT := hT.then hs3
  have hz3 := hs3.size
  have hlr := hor.1.lt
  refine Sa rfl rfl ?_
  refine as_nil (κ _ _ ?_)
  refine cw_seq fun _ hK2 => ?_
  refine cw_dr (by kernel_rfl) fun _ κ => ?_
  have hs4 := Step.drew hs3.sat
  have hz4 := hs4.size
  replace h := h.mono hs4.le
  replace hb1 := hs4.le _ _ hb1
  replace hb2 := hs4.le _ _ hb2
  replace hor := hor.then hs4
  replace hT := hT.then hs4
  refine Df 0 1 0 rfl (by kernel_rfl) (by kernel_rfl) rfl ?_
  refine Dl1 1 3 rfl (by kernel_rfl) (by kernel_rfl) rfl (by exact BlkR.cell (hs4.sat _ _ _ hb1) rfl) ?_
  refine Dq 2 7 rfl (by kernel_rfl) (fun _ => (q_ifSome (by kernel_rfl) rfl)) ?_
  refine Dm 3 15 rfl (by kernel_rfl) rfl ?_
  refine Dgq 4 31 rfl (by kernel_rfl) rfl rfl (fun _ => (q_fieldAddr (off := 0) (by kernel_rfl) rfl)) ?_
  refine at_gq (i := 5) (li := lb 15 63) (cellIs _ _ _) rfl (by kernel_rfl) rfl rfl rfl rfl (fun _ h => q_load1 (by kernel_rfl) rfl h) (by exact BlkR.cell (hs4.sat _ _ _ hb2) rfl) (by kernel_rfl) ?_
  refine Dgq 6 127 rfl (by kernel_rfl) rfl rfl (fun _ => (q_ifNil (by kernel_rfl) rfl)) ?_
  refine Dq 7 255 rfl (by kernel_rfl) (fun _ => (q_pick_f rfl rfl)) ?_
  refine Dm 8 511 rfl (by kernel_rfl) rfl ?_
  refine Dgs 9 1023 rfl (by kernel_rfl) rfl rfl ?_
  refine Dgs 10 2047 rfl (by kernel_rfl) rfl rfl ?_
  refine Dgs 11 4095 rfl (by kernel_rfl) rfl rfl ?_
  refine Dgs 12 8191 rfl (by kernel_rfl) rfl rfl ?_
  refine Dgs 13 16383 rfl (by kernel_rfl) rfl rfl ?_
  refine Dq 14 32767 rfl (by kernel_rfl) (fun _ => (q_pick_t rfl rfl)) ?_
  refine Dd (by kernel_rfl) (κ _ _ ?_)
  refine cw_true rfl ?_
  refine cw_rs fun _ κ => ?_
  refine as_q rfl rfl (q_build (zs := [.nilIface]) (places := [(0, 1)]) (cs := [_]) (by kernel_rfl) (by kernel_rfl) rfl rfl) ?_
  refine as_h0 (h_store hs4.sat hor rfl rfl rfl (by kernel_rfl) rfl rfl rfl fun w5 hs5 hn5 => ?_)
  replace h := h.mono hs5.le
  clear hor; have hor := hn5; clear hn5
  replace hT := hT.own hs5 (by omega)
  have hz5 := hs5.size
  refine Sa rfl rfl ?_
  refine as_nil (κ _ _ ?_)
  refine cw_ret ?_
  exact ⟨_, (res_cell rfl (loadVar_n (n := 1) (by kernel_rfl) (by exact Blk.cells hor.1 rfl)) (res_tmp rfl res_nil)), _, _, rfl, hT, .z⟩
theorem hp_meld_2 {w : World} {M : Mem} {k k2 : Nat} {l l2 : List El} {v v2 : Value} (hs : Sat M w) (h : HVal M k l v) (h2 : HVal M k2 l2 v2) (hk : k ≠ 0) (hk2 : k2 ≠ 0) (hkk : k ≠ k2) :
    Does Tryz.prog 26 #[.agg #[v], .pointer none, .agg #[v2]] w (fun r w' => ∃ v' M', r = .tuple #[.agg #[v'], .int .i64 22] ∧ Step Nope M w M' w' ∧ HVal M' 0 [] v') := by
  have hT := Step.refl Nope hs
  obtain ⟨d, u, rfl⟩ := h.iface hk
  obtain ⟨d2, u2, rfl⟩ := h2.iface hk2
  refine fn_enter Tryz.func26 rfl (rs := [.cell 6 29, .tmp 7]) rfl rfl rfl rfl ?_
  refine cw_rs fun _ κ => ?_
  refine as_h rfl (h_boxM hs rfl rfl fun b1 M1 w1 hs1 hb1 e1 => ?_)
  replace h := h.mono hs1.le
  replace h2 := h2.mono hs1.le
  replace hT := hT.then hs1
  have hz1 := hs1.size
  refine as_h rfl (h_boxM hs1.sat rfl rfl fun b2 M2 w2 hs2 hb2 e2 => ?_)
  replace h := h.mono hs2.le
  replace h2 := h2.mono hs2.le
  replace hb1 := hs2.le _ _ hb1
  replace hT := hT.then hs2
  have hz2 := hs2.size
  have hqar := hT.size
  refine as_h rfl (h_allocO (z := (.agg #[.nilIface])) hs2.sat (by kernel_rfl) rfl fun br w3 hs3 hor er => ?_)
  replace h := h.mono hs3.le
  replace h2 := h2.mono hs3.le
  replace hb1 := hs3.le _ _ hb1
  replace hb2 := hs3.le _ _ hb2
  replace hT := hT.then hs3
  have hz3 := hs3.size
  have hlr := hor.1.lt
  refine Sa rfl rfl ?_
  refine as_nil (κ _ _ ?_)
  refine cw_seq fun _ hK2 => ?_
  refine cw_dr (by kernel_rfl) fun _ κ => ?_
  have hs4 := Step.drew hs3.sat
  have hz4 := hs4.size
  replace h := h.mono hs4.le
  replace h2 := h2.mono hs4.le
  replace hb1 := hs4.le _ _ hb1
  replace hb2 := hs4.le _ _ hb2
  replace hor := hor.then hs4
  replace hT := hT.then hs4
  refine Df 0 1 0 rfl (by kernel_rfl) (by kernel_rfl) rfl ?_
  refine Dl1 1 3 rfl (by kernel_rfl) (by kernel_rfl) rfl (by exact BlkR.cell (hs4.sat _ _ _ hb1) rfl) ?_
  refine Dq 2 7 rfl (by kernel_rfl) (fun _ => (q_ifSome (by kernel_rfl) rfl)) ?_
  refine Dm 3 15 rfl (by kernel_rfl) rfl ?_
  refine Dgq 4 31 rfl (by kernel_rfl) rfl rfl (fun _ => (q_fieldAddr (off := 0) (by kernel_rfl) rfl)) ?_
  refine at_gq (i := 5) (li := lb 15 63) (cellIs _ _ _) rfl (by kernel_rfl) rfl rfl rfl rfl (fun _ h => q_load1 (by kernel_rfl) rfl h) (by exact BlkR.cell (hs4.sat _ _ _ hb2) rfl) (by kernel_rfl) ?_
  refine Dgq 6 127 rfl (by kernel_rfl) rfl rfl (fun _ => (q_ifSome (by kernel_rfl) rfl)) ?_
  refine Dq 7 255 rfl (by kernel_rfl) (fun _ => (q_pick_f rfl rfl)) ?_
  refine Dm 8 511 rfl (by kernel_rfl) rfl ?_
  refine at_gq (i := 9) (li := lb 15 1023) (cellsAre _ _ 1 _) rfl (by kernel_rfl) rfl rfl rfl rfl (fun _ h => q_loadc (n := 1) (by kernel_rfl) rfl h) (by exact BlkR.cells (hs4.sat _ _ _ hb1) rfl) (by kernel_rfl) ?_
  refine at_gq (i := 11) (li := lb 15 3071) (cellsAre _ _ 1 _) rfl (by kernel_rfl) rfl rfl rfl rfl (fun _ h => q_loadc (n := 1) (by kernel_rfl) rfl h) (by exact BlkR.cells (hs4.sat _ _ _ hb2) rfl) (by kernel_rfl) ?_
  refine Dgh 10 4095 rfl (by kernel_rfl) rfl rfl (keep_sift (bs := [F,T,F,F]) (by kernel_rfl)) (h_call (by kernel_rfl) rfl ?_)
  refine (hp_kind hs4.sat h).mono ?_
  rintro _ w5 ⟨rfl, hs5⟩
  replace h := h.mono hs5.le
  replace h2 := h2.mono hs5.le
  replace hb1 := hs5.le _ _ hb1
  replace hb2 := hs5.le _ _ hb2
  replace hor := hor.then hs5
  replace hT := hT.then hs5
  have hz5 := hs5.size
  refine ⟨(by repeat' first | exact trivial | exact BlkR.cell (hs5.sat _ _ _ hb1) rfl | exact BlkR.cells (hs5.sat _ _ _ hb1) rfl | exact BlkR.cell (hs5.sat _ _ _ hb2) rfl | exact BlkR.cells (hs5.sat _ _ _ hb2) rfl | exact Blk.cell hor.1 rfl | exact Blk.cells hor.1 rfl | assumption | refine all_keep ?_ | refine And.intro ?_ ?_), ?_⟩
  refine Dgh 12 8191 rfl (by kernel_rfl) rfl rfl (keep_sift (bs := [T,F,F]) (by kernel_rfl)) (h_call (by kernel_rfl) rfl ?_)
  refine (hp_kind hs5.sat h2).mono ?_
  rintro _ w6 ⟨rfl, hs6⟩
  replace h := h.mono hs6.le
  replace hb1 := hs6.le _ _ hb1
  replace hb2 := hs6.le _ _ hb2
  replace hor := hor.then hs6
  replace hT := hT.then hs6
  have hz6 := hs6.size
  refine ⟨(by repeat' first | exact trivial | exact BlkR.cell (hs6.sat _ _ _ hb1) rfl | exact BlkR.cells (hs6.sat _ _ _ hb1) rfl | exact BlkR.cell (hs6.sat _ _ _ hb2) rfl | exact BlkR.cells (hs6.sat _ _ _ hb2) rfl | exact Blk.cell hor.1 rfl | exact Blk.cells hor.1 rfl | assumption | refine all_keep ?_ | refine And.intro ?_ ?_), ?_⟩
  refine Dgq 13 16383 rfl (by kernel_rfl) rfl rfl (fun _ => (q_neT rfl rfl (by omega))) ?_
  refine Dq 14 32767 rfl (by kernel_rfl) (fun _ => (q_pick_f rfl rfl)) ?_
  refine Dd (by kernel_rfl) (κ _ _ ?_)
  refine cw_true rfl ?_
  refine cw_rs fun _ κ => ?_
  refine as_q rfl rfl (q_build (zs := [.nilIface]) (places := [(0, 1)]) (cs := [_]) (by kernel_rfl) (by kernel_rfl) rfl rfl) ?_
  refine as_h0 (h_store hs6.sat hor rfl rfl rfl (by kernel_rfl) rfl rfl rfl fun w7 hs7 hn7 => ?_)
  replace h := h.mono hs7.le
  clear hor; have hor := hn7; clear hn7
  replace hT := hT.own hs7 (by omega)
  have hz7 := hs7.size
  refine Sa rfl rfl ?_
  refine as_nil (κ _ _ ?_)
  refine cw_ret ?_
  exact ⟨_, (res_cell rfl (loadVar_n (n := 1) (by kernel_rfl) (by exact Blk.cells hor.1 rfl)) (res_tmp rfl res_nil)), _, _, rfl, hT, .z⟩
theorem hp_meld_3 {w : World} {M : Mem} {k : Nat} {l l2 : List El} {v v2 : Value} (hs : Sat M w) (h : HVal M k l v) (h2 : HVal M k l2 v2) (hk : k ≠ 0) (hz : l.length + l2.length < 1000000000) :
    Does Tryz.prog 26 #[.agg #[v], .pointer none, .agg #[v2]] w (fun r w' => ∃ v' M', r = .tuple #[.agg #[v'], .int .i64 0] ∧ Step Nope M w M' w' ∧ HVal M' k (srtE (l ++ l2)) v') := by
  have hT := Step.refl Nope hs
  obtain ⟨d, u, rfl⟩ := h.iface hk
  obtain ⟨d2, u2, rfl⟩ := h2.iface hk
  refine fn_enter Tryz.func26 rfl (rs := [.cell 6 29, .tmp 7]) rfl rfl rfl rfl ?_
  refine cw_rs fun _ κ => ?_
  refine as_h rfl (h_boxM hs rfl rfl fun b1 M1 w1 hs1 hb1 e1 => ?_)
  replace h := h.mono hs1.le
  replace h2 := h2.mono hs1.le
  replace hT := hT.then hs1
  have hz1 := hs1.size
  refine as_h rfl (h_boxM hs1.sat rfl rfl fun b2 M2 w2 hs2 hb2 e2 => ?_)
  replace h := h.mono hs2.le
  replace h2 := h2.mono hs2.le
  replace hb1 := hs2.le _ _ hb1
  replace hT := hT.then hs2
  have hz2 := hs2.size
  have hqar := hT.size
  refine as_h rfl (h_allocO (z := (.agg #[.nilIface])) hs2.sat (by kernel_rfl) rfl fun br w3 hs3 hor er => ?_)
  replace h := h.mono hs3.le
  replace h2 := h2.mono hs3.le
  replace hb1 := hs3.le _ _ hb1
  replace hb2 := hs3.le _ _ hb2
  replace hT := hT.then hs3
  have hz3 := hs3.size
  have hlr := hor.1.lt
  refine Sa rfl rfl ?_
  refine as_nil (κ _ _ ?_)
  refine cw_seq fun _ hK2 => ?_
  refine cw_dr (by kernel_rfl) fun _ κ => ?_
  have hs4 := Step.drew hs3.sat
  have hz4 := hs4.size
  replace h := h.mono hs4.le
  replace h2 := h2.mono hs4.le
  replace hb1 := hs4.le _ _ hb1
  replace hb2 := hs4.le _ _ hb2
  replace hor := hor.then hs4
  replace hT := hT.then hs4
  refine Df 0 1 0 rfl (by kernel_rfl) (by kernel_rfl) rfl ?_
  refine Dl1 1 3 rfl (by kernel_rfl) (by kernel_rfl) rfl (by exact BlkR.cell (hs4.sat _ _ _ hb1) rfl) ?_
  refine Dq 2 7 rfl (by kernel_rfl) (fun _ => (q_ifSome (by kernel_rfl) rfl)) ?_
  refine Dm 3 15 rfl (by kernel_rfl) rfl ?_
  refine Dgq 4 31 rfl (by kernel_rfl) rfl rfl (fun _ => (q_fieldAddr (off := 0) (by kernel_rfl) rfl)) ?_
  refine at_gq (i := 5) (li := lb 15 63) (cellIs _ _ _) rfl (by kernel_rfl) rfl rfl rfl rfl (fun _ h => q_load1 (by kernel_rfl) rfl h) (by exact BlkR.cell (hs4.sat _ _ _ hb2) rfl) (by kernel_rfl) ?_
  refine Dgq 6 127 rfl (by kernel_rfl) rfl rfl (fun _ => (q_ifSome (by kernel_rfl) rfl)) ?_
  refine Dq 7 255 rfl (by kernel_rfl) (fun _ => (q_pick_f rfl rfl)) ?_
  refine Dm 8 511 rfl (by kernel_rfl) rfl ?_
  refine at_gq (i := 9) (li := lb 15 1023) (cellsAre _ _ 1 _) rfl (by kernel_rfl) rfl rfl rfl rfl (fun _ h => q_loadc (n := 1) (by kernel_rfl) rfl h) (by exact BlkR.cells (hs4.sat _ _ _ hb1) rfl) (by kernel_rfl) ?_
  refine at_gq (i := 11) (li := lb 15 3071) (cellsAre _ _ 1 _) rfl (by kernel_rfl) rfl rfl rfl rfl (fun _ h => q_loadc (n := 1) (by kernel_rfl) rfl h) (by exact BlkR.cells (hs4.sat _ _ _ hb2) rfl) (by kernel_rfl) ?_
  refine Dgh 10 4095 rfl (by kernel_rfl) rfl rfl (keep_sift (bs := [F,T,F,F]) (by kernel_rfl)) (h_call (by kernel_rfl) rfl ?_)
  refine (hp_kind hs4.sat h).mono ?_
  rintro _ w5 ⟨rfl, hs5⟩
  replace h := h.mono hs5.le
  replace h2 := h2.mono hs5.le
  replace hb1 := hs5.le _ _ hb1
  replace hb2 := hs5.le _ _ hb2
  replace hor := hor.then hs5
  replace hT := hT.then hs5
  have hz5 := hs5.size
  refine ⟨(by repeat' first | exact trivial | exact BlkR.cell (hs5.sat _ _ _ hb1) rfl | exact BlkR.cells (hs5.sat _ _ _ hb1) rfl | exact BlkR.cell (hs5.sat _ _ _ hb2) rfl | exact BlkR.cells (hs5.sat _ _ _ hb2) rfl | exact Blk.cell hor.1 rfl | exact Blk.cells hor.1 rfl | assumption | refine all_keep ?_ | refine And.intro ?_ ?_), ?_⟩
  refine Dgh 12 8191 rfl (by kernel_rfl) rfl rfl (keep_sift (bs := [T,F,F]) (by kernel_rfl)) (h_call (by kernel_rfl) rfl ?_)
  refine (hp_kind hs5.sat h2).mono ?_
  rintro _ w6 ⟨rfl, hs6⟩
  replace h := h.mono hs6.le
  replace h2 := h2.mono hs6.le
  replace hb1 := hs6.le _ _ hb1
  replace hb2 := hs6.le _ _ hb2
  replace hor := hor.then hs6
  replace hT := hT.then hs6
  have hz6 := hs6.size
  refine ⟨(by repeat' first | exact trivial | exact BlkR.cell (hs6.sat _ _ _ hb1) rfl | exact BlkR.cells (hs6.sat _ _ _ hb1) rfl | exact BlkR.cell (hs6.sat _ _ _ hb2) rfl | exact BlkR.cells (hs6.sat _ _ _ hb2) rfl | exact Blk.cell hor.1 rfl | exact Blk.cells hor.1 rfl | assumption | refine all_keep ?_ | refine And.intro ?_ ?_), ?_⟩
  refine Dgq 13 16383 rfl (by kernel_rfl) rfl rfl (fun _ => (q_neF rfl rfl (by omega))) ?_
  refine Dq 14 32767 rfl (by kernel_rfl) (fun _ => (q_pick_f rfl rfl)) ?_
  refine Dd (by kernel_rfl) (κ _ _ ?_)
  refine cw_false rfl ?_
  refine cw_skip ?_
  refine hK2 _ _ ?_
  refine cw_rs fun _ κ => ?_
  refine Sf 0 rfl (by kernel_rfl) rfl ?_
  refine S1 rfl (by kernel_rfl) rfl (by exact BlkR.cell (hs6.sat _ _ _ hb1) rfl) ?_
  refine Sm rfl rfl ?_
  refine Sf 0 rfl (by kernel_rfl) rfl ?_
  refine S1 rfl (by kernel_rfl) rfl (by exact BlkR.cell (hs6.sat _ _ _ hb2) rfl) ?_
  obtain ⟨d0, u0, f0, r0, hv0, hc0_, hm0, hd0⟩ := hv_meld hs6.sat h h2 hk hz
  cases hv0
  refine as_h rfl (h_invokeP hc0_ rfl rfl (hm0 _) ?_)
  refine hd0.mono ?_
  rintro v1 w7 ⟨Mn, hs7, hn⟩
  replace h := h.mono hs7.le
  replace hor := hor.then hs7
  replace hT := hT.then hs7
  have hz7 := hs7.size
  obtain ⟨d9, u9, rfl⟩ := hn.iface hk
  refine as_q rfl rfl (q_build (zs := [.nilIface]) (places := [(0, 1)]) (cs := [_]) (by kernel_rfl) (by kernel_rfl) rfl rfl) ?_
  refine as_h0 (h_store hs7.sat hor rfl rfl rfl (by kernel_rfl) rfl rfl rfl fun w8 hs8 hn8 => ?_)
  replace h := h.mono hs8.le
  replace hn := hn.mono hs8.le
  clear hor; have hor := hn8; clear hn8
  replace hT := hT.own hs8 (by omega)
  have hz8 := hs8.size
  refine Sa rfl rfl ?_
  refine as_nil (κ _ _ ?_)
  refine cw_ret ?_
  exact ⟨_, (res_cell rfl (loadVar_n (n := 1) (by kernel_rfl) (by exact Blk.cells hor.1 rfl)) (res_tmp rfl res_nil)), _, _, rfl, hT, hn⟩
theorem hp_meld {w : World} {M : Mem} {k k2 : Nat} {l l2 : List El} {v v2 : Value} (hs : Sat M w) (h : HVal M k l v) (h2 : HVal M k2 l2 v2) (hz : l.length + l2.length < 1000000000) : Does Tryz.prog 26 #[.agg #[v], .pointer none, .agg #[v2]] w (fun r w' => ∃ v' M', r = .tuple #[.agg #[v'], .int .i64 (melE k k2)] ∧ Step Nope M w M' w' ∧ HVal M' (melK k k2) (melL k k2 l l2) v') := by
  unfold melE melK melL
  by_cases hk : k = 0
  · subst hk; obtain ⟨rfl, rfl⟩ := h.zero
    simp only [if_pos (show badM 0 k2 from .inl rfl)]
    exact hp_meld_0 hs
  · by_cases hk2 : k2 = 0
    · subst hk2; obtain ⟨rfl, rfl⟩ := h2.zero
      simp only [if_pos (show badM k 0 from .inr (.inl rfl))]
      exact hp_meld_1 hs h hk
    · by_cases hkk : k = k2
      · subst hkk
        simp only [if_neg (show ¬ badM k k from fun h => by unfold badM at h; omega)]
        exact hp_meld_3 hs h h2 hk hz
      · simp only [if_pos (show badM k k2 from .inr (.inr hkk))]
        exact hp_meld_2 hs h h2 hk hk2 hkk
end Go.Proofs.YtgcgjpfjjgalmaaGreat
/- The calls of heap, part 3. -/
namespace Go.Proofs.YtgcgjpfjjgalmaaGreat
open Go Go.Eng
theorem hp_empty_1 {w : World} {M : Mem} (hs : Sat M w) :
    Does Tryz.prog 13 #[.int .i64 1] w (fun r w' => ∃ v' M', r = .tuple #[.agg #[v'], .int .i64 0] ∧ Step Nope M w M' w' ∧ HVal M' 1 [] v') := by
  have hT := Step.refl Nope hs
  refine fn_enter Tryz.func13 rfl (rs := [.cell 2 29, .tmp 3]) rfl rfl rfl rfl ?_
  refine cw_rs fun _ κ => ?_
  have hqar := hT.size
  refine as_h rfl (h_allocO (z := (.agg #[.nilIface])) hs (by kernel_rfl) rfl fun br w1 hs1 hor er => ?_)
  replace hT := hT.then hs1
  have hz1 := hs1.size
  have hlr := hor.1.lt
  refine Sa rfl rfl ?_
  refine as_nil (κ _ _ ?_)
  refine cw_seq fun _ hK2 => ?_
  refine cw_rs fun _ κ => ?_
  refine Sm rfl rfl ?_
  refine as_nil (κ _ _ ?_)
  refine cw_block ?_
  refine cw_rs fun _ κ => ?_
  refine as_q rfl rfl (q_eqT rfl rfl (by omega)) ?_
  refine Sa rfl rfl ?_
  refine as_nil (κ _ _ ?_)
  refine cw_true rfl ?_
  refine cw_rs fun _ κ => ?_
  refine as_q rfl rfl (q_build (zs := [(.pointer none)]) (places := [(0, 1)]) (cs := [_]) (by kernel_rfl) (by kernel_rfl) rfl rfl) ?_
  refine as_q rfl rfl (q_iface (by kernel_rfl) rfl) ?_
  refine as_q rfl rfl (q_build (zs := [.nilIface]) (places := [(0, 1)]) (cs := [_]) (by kernel_rfl) (by kernel_rfl) rfl rfl) ?_
  refine as_h0 (h_store hs1.sat hor rfl rfl rfl (by kernel_rfl) rfl rfl rfl fun w2 hs2 hn2 => ?_)
  clear hor; have hor := hn2; clear hn2
  replace hT := hT.own hs2 (by omega)
  have hz2 := hs2.size
  refine Sa rfl rfl ?_
  refine as_nil (κ _ _ ?_)
  refine cw_ret ?_
  exact ⟨_, (res_cell rfl (loadVar_n (n := 1) (by kernel_rfl) (by exact Blk.cells hor.1 rfl)) (res_tmp rfl res_nil)), _, _, rfl, hT, .a (t := .nil) rfl (trivial) rfl⟩
theorem hp_empty_2 {w : World} {M : Mem} (hs : Sat M w) :
    Does Tryz.prog 13 #[.int .i64 2] w (fun r w' => ∃ v' M', r = .tuple #[.agg #[v'], .int .i64 0] ∧ Step Nope M w M' w' ∧ HVal M' 2 [] v') := by
  have hT := Step.refl Nope hs
  refine fn_enter Tryz.func13 rfl (rs := [.cell 2 29, .tmp 3]) rfl rfl rfl rfl ?_
  refine cw_rs fun _ κ => ?_
  have hqar := hT.size
  refine as_h rfl (h_allocO (z := (.agg #[.nilIface])) hs (by kernel_rfl) rfl fun br w1 hs1 hor er => ?_)
  replace hT := hT.then hs1
  have hz1 := hs1.size
  have hlr := hor.1.lt
  refine Sa rfl rfl ?_
  refine as_nil (κ _ _ ?_)
  refine cw_seq fun _ hK2 => ?_
  refine cw_rs fun _ κ => ?_
  refine Sm rfl rfl ?_
  refine as_nil (κ _ _ ?_)
  refine cw_block ?_
  refine cw_rs fun _ κ => ?_
  refine as_q rfl rfl (q_eqF rfl rfl (by omega)) ?_
  refine Sa rfl rfl ?_
  refine as_nil (κ _ _ ?_)
  refine cw_false rfl ?_
  refine cw_rs fun _ κ => ?_
  refine as_q rfl rfl (q_eqT rfl rfl (by omega)) ?_
  refine Sa rfl rfl ?_
  refine as_nil (κ _ _ ?_)
  refine cw_true rfl ?_
  refine cw_rs fun _ κ => ?_
  refine as_q rfl rfl (q_build (zs := [(.pointer none)]) (places := [(0, 1)]) (cs := [_]) (by kernel_rfl) (by kernel_rfl) rfl rfl) ?_
  refine as_q rfl rfl (q_iface (by kernel_rfl) rfl) ?_
  refine as_q rfl rfl (q_build (zs := [.nilIface]) (places := [(0, 1)]) (cs := [_]) (by kernel_rfl) (by kernel_rfl) rfl rfl) ?_
  refine as_h0 (h_store hs1.sat hor rfl rfl rfl (by kernel_rfl) rfl rfl rfl fun w2 hs2 hn2 => ?_)
  clear hor; have hor := hn2; clear hn2
  replace hT := hT.own hs2 (by omega)
  have hz2 := hs2.size
  refine Sa rfl rfl ?_
  refine as_nil (κ _ _ ?_)
  refine cw_ret ?_
  exact ⟨_, (res_cell rfl (loadVar_n (n := 1) (by kernel_rfl) (by exact Blk.cells hor.1 rfl)) (res_tmp rfl res_nil)), _, _, rfl, hT, .b (t := []) (frep_nil.2 rfl) (⟨trivial, trivial⟩) rfl⟩
theorem hp_empty_3 {w : World} {M : Mem} (hs : Sat M w) :
    Does Tryz.prog 13 #[.int .i64 3] w (fun r w' => ∃ v' M', r = .tuple #[.agg #[v'], .int .i64 0] ∧ Step Nope M w M' w' ∧ HVal M' 3 [] v') := by
  have hT := Step.refl Nope hs
  refine fn_enter Tryz.func13 rfl (rs := [.cell 2 29, .tmp 3]) rfl rfl rfl rfl ?_
  refine cw_rs fun _ κ => ?_
  have hqar := hT.size
  refine as_h rfl (h_allocO (z := (.agg #[.nilIface])) hs (by kernel_rfl) rfl fun br w1 hs1 hor er => ?_)
  replace hT := hT.then hs1
  have hz1 := hs1.size
  have hlr := hor.1.lt
  refine Sa rfl rfl ?_
  refine as_nil (κ _ _ ?_)
  refine cw_seq fun _ hK2 => ?_
  refine cw_rs fun _ κ => ?_
  refine Sm rfl rfl ?_
  refine as_nil (κ _ _ ?_)
  refine cw_block ?_
  refine cw_rs fun _ κ => ?_
  refine as_q rfl rfl (q_eqF rfl rfl (by omega)) ?_
  refine Sa rfl rfl ?_
  refine as_nil (κ _ _ ?_)
  refine cw_false rfl ?_
  refine cw_rs fun _ κ => ?_
  refine as_q rfl rfl (q_eqF rfl rfl (by omega)) ?_
  refine Sa rfl rfl ?_
  refine as_nil (κ _ _ ?_)
  refine cw_false rfl ?_
  refine cw_rs fun _ κ => ?_
  refine as_q rfl rfl (q_eqT rfl rfl (by omega)) ?_
  refine Sa rfl rfl ?_
  refine as_nil (κ _ _ ?_)
  refine cw_true rfl ?_
  refine cw_rs fun _ κ => ?_
  refine as_q rfl rfl (q_build (zs := [(.pointer none)]) (places := [(0, 1)]) (cs := [_]) (by kernel_rfl) (by kernel_rfl) rfl rfl) ?_
  refine as_q rfl rfl (q_iface (by kernel_rfl) rfl) ?_
  refine as_q rfl rfl (q_build (zs := [.nilIface]) (places := [(0, 1)]) (cs := [_]) (by kernel_rfl) (by kernel_rfl) rfl rfl) ?_
  refine as_h0 (h_store hs1.sat hor rfl rfl rfl (by kernel_rfl) rfl rfl rfl fun w2 hs2 hn2 => ?_)
  clear hor; have hor := hn2; clear hn2
  replace hT := hT.own hs2 (by omega)
  have hz2 := hs2.size
  refine Sa rfl rfl ?_
  refine as_nil (κ _ _ ?_)
  refine cw_ret ?_
  exact ⟨_, (res_cell rfl (loadVar_n (n := 1) (by kernel_rfl) (by exact Blk.cells hor.1 rfl)) (res_tmp rfl res_nil)), _, _, rfl, hT, .c (t := .nil) (prep_nil.2 rfl) (trivial) (by simp only [Pr.els]; rfl)⟩
theorem hp_empty_4 {w : World} {M : Mem} (hs : Sat M w) :
    Does Tryz.prog 13 #[.int .i64 4] w (fun r w' => ∃ v' M', r = .tuple #[.agg #[v'], .int .i64 0] ∧ Step Nope M w M' w' ∧ HVal M' 4 [] v') := by
  have hT := Step.refl Nope hs
  refine fn_enter Tryz.func13 rfl (rs := [.cell 2 29, .tmp 3]) rfl rfl rfl rfl ?_
  refine cw_rs fun _ κ => ?_
  have hqar := hT.size
  refine as_h rfl (h_allocO (z := (.agg #[.nilIface])) hs (by kernel_rfl) rfl fun br w1 hs1 hor er => ?_)
  replace hT := hT.then hs1
  have hz1 := hs1.size
  have hlr := hor.1.lt
  refine Sa rfl rfl ?_
  refine as_nil (κ _ _ ?_)
  refine cw_seq fun _ hK2 => ?_
  refine cw_rs fun _ κ => ?_
  refine Sm rfl rfl ?_
  refine as_nil (κ _ _ ?_)
  refine cw_block ?_
  refine cw_rs fun _ κ => ?_
  refine as_q rfl rfl (q_eqF rfl rfl (by omega)) ?_
  refine Sa rfl rfl ?_
  refine as_nil (κ _ _ ?_)
  refine cw_false rfl ?_
  refine cw_rs fun _ κ => ?_
  refine as_q rfl rfl (q_eqF rfl rfl (by omega)) ?_
  refine Sa rfl rfl ?_
  refine as_nil (κ _ _ ?_)
  refine cw_false rfl ?_
  refine cw_rs fun _ κ => ?_
  refine as_q rfl rfl (q_eqF rfl rfl (by omega)) ?_
  refine Sa rfl rfl ?_
  refine as_nil (κ _ _ ?_)
  refine cw_false rfl ?_
  refine cw_rs fun _ κ => ?_
  refine as_q rfl rfl (q_eqT rfl rfl (by omega)) ?_
  refine Sa rfl rfl ?_
  refine as_nil (κ _ _ ?_)
  refine cw_true rfl ?_
  refine cw_rs fun _ κ => ?_
  refine as_q rfl rfl (q_build (zs := [(.pointer none)]) (places := [(0, 1)]) (cs := [_]) (by kernel_rfl) (by kernel_rfl) rfl rfl) ?_
  refine as_q rfl rfl (q_iface (by kernel_rfl) rfl) ?_
  refine as_q rfl rfl (q_build (zs := [.nilIface]) (places := [(0, 1)]) (cs := [_]) (by kernel_rfl) (by kernel_rfl) rfl rfl) ?_
  refine as_h0 (h_store hs1.sat hor rfl rfl rfl (by kernel_rfl) rfl rfl rfl fun w2 hs2 hn2 => ?_)
  clear hor; have hor := hn2; clear hn2
  replace hT := hT.own hs2 (by omega)
  have hz2 := hs2.size
  refine Sa rfl rfl ?_
  refine as_nil (κ _ _ ?_)
  refine cw_ret ?_
  exact ⟨_, (res_cell rfl (loadVar_n (n := 1) (by kernel_rfl) (by exact Blk.cells hor.1 rfl)) (res_tmp rfl res_nil)), _, _, rfl, hT, .d (t := []) (frep_nil.2 rfl) (trivial) rfl⟩
theorem hp_empty_5 {w : World} {M : Mem} (hs : Sat M w) :
    Does Tryz.prog 13 #[.int .i64 5] w (fun r w' => ∃ v' M', r = .tuple #[.agg #[v'], .int .i64 0] ∧ Step Nope M w M' w' ∧ HVal M' 5 [] v') := by
  have hT := Step.refl Nope hs
  refine fn_enter Tryz.func13 rfl (rs := [.cell 2 29, .tmp 3]) rfl rfl rfl rfl ?_
  refine cw_rs fun _ κ => ?_
  have hqar := hT.size
  refine as_h rfl (h_allocO (z := (.agg #[.nilIface])) hs (by kernel_rfl) rfl fun br w1 hs1 hor er => ?_)
  replace hT := hT.then hs1
  have hz1 := hs1.size
  have hlr := hor.1.lt
  refine Sa rfl rfl ?_
  refine as_nil (κ _ _ ?_)
  refine cw_seq fun _ hK2 => ?_
  refine cw_rs fun _ κ => ?_
  refine Sm rfl rfl ?_
  refine as_nil (κ _ _ ?_)
  refine cw_block ?_
  refine cw_rs fun _ κ => ?_
  refine as_q rfl rfl (q_eqF rfl rfl (by omega)) ?_
  refine Sa rfl rfl ?_
  refine as_nil (κ _ _ ?_)
  refine cw_false rfl ?_
  refine cw_rs fun _ κ => ?_
  refine as_q rfl rfl (q_eqF rfl rfl (by omega)) ?_
  refine Sa rfl rfl ?_
  refine as_nil (κ _ _ ?_)
  refine cw_false rfl ?_
  refine cw_rs fun _ κ => ?_
  refine as_q rfl rfl (q_eqF rfl rfl (by omega)) ?_
  refine Sa rfl rfl ?_
  refine as_nil (κ _ _ ?_)
  refine cw_false rfl ?_
  refine cw_rs fun _ κ => ?_
  refine as_q rfl rfl (q_eqF rfl rfl (by omega)) ?_
  refine Sa rfl rfl ?_
  refine as_nil (κ _ _ ?_)
  refine cw_false rfl ?_
  refine cw_rs fun _ κ => ?_
  refine as_q rfl rfl (q_eqT rfl rfl (by omega)) ?_
  refine Sa rfl rfl ?_
  refine as_nil (κ _ _ ?_)
  refine cw_true rfl ?_
  refine cw_rs fun _ κ => ?_
  refine as_q rfl rfl (q_build (zs := [(.pointer none)]) (places := [(0, 1)]) (cs := [_]) (by kernel_rfl) (by kernel_rfl) rfl rfl) ?_
  refine as_q rfl rfl (q_iface (by kernel_rfl) rfl) ?_
  refine as_q rfl rfl (q_build (zs := [.nilIface]) (places := [(0, 1)]) (cs := [_]) (by kernel_rfl) (by kernel_rfl) rfl rfl) ?_
  refine as_h0 (h_store hs1.sat hor rfl rfl rfl (by kernel_rfl) rfl rfl rfl fun w2 hs2 hn2 => ?_)
  clear hor; have hor := hn2; clear hn2
  replace hT := hT.own hs2 (by omega)
  have hz2 := hs2.size
  refine Sa rfl rfl ?_
  refine as_nil (κ _ _ ?_)
  refine cw_ret ?_
  exact ⟨_, (res_cell rfl (loadVar_n (n := 1) (by kernel_rfl) (by exact Blk.cells hor.1 rfl)) (res_tmp rfl res_nil)), _, _, rfl, hT, .e (t := .nil) rfl (trivial) rfl⟩
theorem hp_empty_6 {w : World} {M : Mem} (hs : Sat M w) :
    Does Tryz.prog 13 #[.int .i64 6] w (fun r w' => ∃ v' M', r = .tuple #[.agg #[v'], .int .i64 0] ∧ Step Nope M w M' w' ∧ HVal M' 6 [] v') := by
  have hT := Step.refl Nope hs
  refine fn_enter Tryz.func13 rfl (rs := [.cell 2 29, .tmp 3]) rfl rfl rfl rfl ?_
  refine cw_rs fun _ κ => ?_
  have hqar := hT.size
  refine as_h rfl (h_allocO (z := (.agg #[.nilIface])) hs (by kernel_rfl) rfl fun br w1 hs1 hor er => ?_)
  replace hT := hT.then hs1
  have hz1 := hs1.size
  have hlr := hor.1.lt
  refine Sa rfl rfl ?_
  refine as_nil (κ _ _ ?_)
  refine cw_seq fun _ hK2 => ?_
  refine cw_rs fun _ κ => ?_
  refine Sm rfl rfl ?_
  refine as_nil (κ _ _ ?_)
  refine cw_block ?_
  refine cw_rs fun _ κ => ?_
  refine as_q rfl rfl (q_eqF rfl rfl (by omega)) ?_
  refine Sa rfl rfl ?_
  refine as_nil (κ _ _ ?_)
  refine cw_false rfl ?_
  refine cw_rs fun _ κ => ?_
  refine as_q rfl rfl (q_eqF rfl rfl (by omega)) ?_
  refine Sa rfl rfl ?_
  refine as_nil (κ _ _ ?_)
  refine cw_false rfl ?_
  refine cw_rs fun _ κ => ?_
  refine as_q rfl rfl (q_eqF rfl rfl (by omega)) ?_
  refine Sa rfl rfl ?_
  refine as_nil (κ _ _ ?_)
  refine cw_false rfl ?_
  refine cw_rs fun _ κ => ?_
  refine as_q rfl rfl (q_eqF rfl rfl (by omega)) ?_
  refine Sa rfl rfl ?_
  refine as_nil (κ _ _ ?_)
  refine cw_false rfl ?_
  refine cw_rs fun _ κ => ?_
  refine as_q rfl rfl (q_eqF rfl rfl (by omega)) ?_
  refine Sa rfl rfl ?_
  refine as_nil (κ _ _ ?_)
  refine cw_false rfl ?_
  refine cw_rs fun _ κ => ?_
  refine as_q rfl rfl (q_eqT rfl rfl (by omega)) ?_
  refine Sa rfl rfl ?_
  refine as_nil (κ _ _ ?_)
  refine cw_true rfl ?_
  refine cw_rs fun _ κ => ?_
  refine as_q rfl rfl (q_build (zs := [(.pointer none)]) (places := [(0, 1)]) (cs := [_]) (by kernel_rfl) (by kernel_rfl) rfl rfl) ?_
  refine as_q rfl rfl (q_iface (by kernel_rfl) rfl) ?_
  refine as_q rfl rfl (q_build (zs := [.nilIface]) (places := [(0, 1)]) (cs := [_]) (by kernel_rfl) (by kernel_rfl) rfl rfl) ?_
  refine as_h0 (h_store hs1.sat hor rfl rfl rfl (by kernel_rfl) rfl rfl rfl fun w2 hs2 hn2 => ?_)
  clear hor; have hor := hn2; clear hn2
  replace hT := hT.own hs2 (by omega)
  have hz2 := hs2.size
  refine Sa rfl rfl ?_
  refine as_nil (κ _ _ ?_)
  refine cw_ret ?_
  exact ⟨_, (res_cell rfl (loadVar_n (n := 1) (by kernel_rfl) (by exact Blk.cells hor.1 rfl)) (res_tmp rfl res_nil)), _, _, rfl, hT, .f (t := .nil) (brep_nil.2 rfl) (trivial) (by simp only [Bt.els]; rfl)⟩
theorem hp_empty_0 {w : World} {M : Mem} {z : Int} (hs : Sat M w) (hz : ¬ (1 ≤ z ∧ z ≤ 6)) :
    Does Tryz.prog 13 #[.int .i64 z] w (fun r w' => ∃ v' M', r = .tuple #[.agg #[v'], .int .i64 22] ∧ Step Nope M w M' w' ∧ HVal M' 0 [] v') := by
  have hT := Step.refl Nope hs
  refine fn_enter Tryz.func13 rfl (rs := [.cell 2 29, .tmp 3]) rfl rfl rfl rfl ?_
  refine cw_rs fun _ κ => ?_
  have hqar := hT.size
  refine as_h rfl (h_allocO (z := (.agg #[.nilIface])) hs (by kernel_rfl) rfl fun br w1 hs1 hor er => ?_)
  replace hT := hT.then hs1
  have hz1 := hs1.size
  have hlr := hor.1.lt
  refine Sa rfl rfl ?_
  refine as_nil (κ _ _ ?_)
  refine cw_seq fun _ hK2 => ?_
  refine cw_rs fun _ κ => ?_
  refine Sm rfl rfl ?_
  refine as_nil (κ _ _ ?_)
  refine cw_block ?_
  refine cw_rs fun _ κ => ?_
  refine as_q rfl rfl (q_eqF rfl rfl (by omega)) ?_
  refine Sa rfl rfl ?_
  refine as_nil (κ _ _ ?_)
  refine cw_false rfl ?_
  refine cw_rs fun _ κ => ?_
  refine as_q rfl rfl (q_eqF rfl rfl (by omega)) ?_
  refine Sa rfl rfl ?_
  refine as_nil (κ _ _ ?_)
  refine cw_false rfl ?_
  refine cw_rs fun _ κ => ?_
  refine as_q rfl rfl (q_eqF rfl rfl (by omega)) ?_
  refine Sa rfl rfl ?_
  refine as_nil (κ _ _ ?_)
  refine cw_false rfl ?_
  refine cw_rs fun _ κ => ?_
  refine as_q rfl rfl (q_eqF rfl rfl (by omega)) ?_
  refine Sa rfl rfl ?_
  refine as_nil (κ _ _ ?_)
  refine cw_false rfl ?_
  refine cw_rs fun _ κ => ?_
  refine as_q rfl rfl (q_eqF rfl rfl (by omega)) ?_
  refine Sa rfl rfl ?_
  refine as_nil (κ _ _ ?_)
  refine cw_false rfl ?_
  refine cw_rs fun _ κ => ?_
  refine as_q rfl rfl (q_eqF rfl rfl (by omega)) ?_
  refine Sa rfl rfl ?_
  refine as_nil (κ _ _ ?_)
  refine cw_false rfl ?_
  refine cw_skip ?_
  refine hK2 _ _ ?_
  refine cw_rs fun _ κ => ?_
  refine as_q rfl rfl (q_build (zs := [.nilIface]) (places := [(0, 1)]) (cs := [_]) (by kernel_rfl) (by kernel_rfl) rfl rfl) ?_
  refine as_h0 (h_store hs1.sat hor rfl rfl rfl (by kernel_rfl) rfl rfl rfl fun w2 hs2 hn2 => ?_)
  clear hor; have hor := hn2; clear hn2
  replace hT := hT.own hs2 (by omega)
  have hz2 := hs2.size
  refine Sa rfl rfl ?_
  refine as_nil (κ _ _ ?_)
  refine cw_ret ?_
  exact ⟨_, (res_cell rfl (loadVar_n (n := 1) (by kernel_rfl) (by exact Blk.cells hor.1 rfl)) (res_tmp rfl res_nil)), _, _, rfl, hT, .z⟩
theorem hp_empty {w : World} {M : Mem} {z : Int} (hs : Sat M w) : Does Tryz.prog 13 #[.int .i64 z] w (fun r w' => ∃ v' M', r = .tuple #[.agg #[v'], .int .i64 (emE z)] ∧ Step Nope M w M' w' ∧ HVal M' (emK z) [] v') := by
  unfold emE emK
  by_cases hz : 1 ≤ z ∧ z ≤ 6
  · rw [if_pos hz, if_pos hz]
    have hc : z = 1 ∨ z = 2 ∨ z = 3 ∨ z = 4 ∨ z = 5 ∨ z = 6 := by omega
    rcases hc with rfl | rfl | rfl | rfl | rfl | rfl
    · exact hp_empty_1 hs
    · exact hp_empty_2 hs
    · exact hp_empty_3 hs
    · exact hp_empty_4 hs
    · exact hp_empty_5 hs
    · exact hp_empty_6 hs
  · rw [if_neg hz, if_neg hz]
    exact hp_empty_0 hs hz
theorem hp_of_1 {w : World} {M : Mem} {z : Int} {u : Value} {n : Nat} {xs : List El} (hs : Sat M w) (hr : Rds M w 2 u n (els xs)) (hn : n ≤ 1000000) (hz : (1 ≤ z ∧ z ≤ 6)) :
    Does Tryz.prog 11 #[.pointer none, .int .i64 z, u] w (fun r w' => ∃ v' M', r = .tuple #[.agg #[v'], .int .i64 (emE z)] ∧ Step Nope M w M' w' ∧ HVal M' (emK z) (ofL z xs) v') := by
  have hT := Step.refl Nope hs
  have hxl := hr.els_len hs
  obtain ⟨sa, sc, rfl, _, _⟩ := hr.slice hs
  have hof0 : ofL z [] = [] := by unfold ofL; split <;> rfl
  have hie : insE (emK z) = emE z := by unfold insE emE emK; rw [if_pos hz, if_pos hz, if_neg (by omega)]
  have hek : emK z ≠ 0 := by unfold emK; rw [if_pos hz]; omega
  have hem : emE z = 0 := by unfold emE; rw [if_pos hz]
  have hlen : ∀ i, (ofL z (xs.take i)).length ≤ n := fun i => by unfold ofL; rw [if_pos hz, srtE_length, List.length_take]; omega
  have hof1 : ∀ l x, insL (emK z) (ofL z l) x = ofL z (l ++ [x]) := fun l x => by unfold insL ofL emK; rw [if_pos hz, if_pos hz, if_pos hz, if_neg (by omega), srtE_snoc]
  refine fn_enter Tryz.func11 rfl (rs := [.cell 6 29, .tmp 7]) rfl rfl rfl rfl ?_
  refine cw_rs fun _ κ => ?_
  have hqar := hT.size
  refine as_h rfl (h_allocO (z := (.agg #[.nilIface])) hs (by kernel_rfl) rfl fun br w1 hs1 hor er => ?_)
  replace hT := hT.then hs1
  have hz1 := hs1.size
  have hlr := hor.1.lt
  refine Sa rfl rfl ?_
  refine as_nil (κ _ _ ?_)
  refine cw_rs fun _ κ => ?_
  refine Sm rfl rfl ?_
  refine as_h rfl (h_call (by kernel_rfl) rfl ?_)
  refine (hp_empty hs1.sat).mono ?_
  rintro _ w2 ⟨v0, M0, rfl, hs2, hv⟩
  replace hor := hor.then hs2
  replace hT := hT.then hs2
  have hz2 := hs2.size
  obtain ⟨d_hv, u_hv, rfl⟩ := hv.iface hek
  refine Sm rfl rfl ?_
  refine Se rfl rfl rfl ?_
  refine Se rfl rfl rfl ?_
  have hqao := hT.size
  refine as_h rfl (h_allocO (z := (.agg #[.nilIface])) hs2.sat (by kernel_rfl) rfl fun bo w3 hs3 hoo eo => ?_)
  replace hor := hor.then hs3
  replace hv := hv.mono hs3.le
  replace hT := hT.then hs3
  have hz3 := hs3.size
  have hlo := hoo.1.lt
  refine as_h0 (h_store hs3.sat hoo rfl rfl rfl (by kernel_rfl) rfl rfl rfl fun w4 hs4 hn4 => ?_)
  replace hor := hor.step hs4 (fun h => by have h : _ = _ := h; omega)
  replace hv := hv.mono hs4.le
  clear hoo; have hoo := hn4; clear hn4
  replace hT := hT.own hs4 (by omega)
  have hz4 := hs4.size
  refine Sa rfl rfl ?_
  refine as_nil (κ _ _ ?_)
  refine cw_seq fun _ hK3 => ?_
  refine cw_rs fun _ κ => ?_
  refine Sm rfl rfl ?_
  refine as_q rfl rfl (q_len (by kernel_rfl) rfl _) ?_
  refine Sm rfl rfl ?_
  refine as_nil (κ _ _ ?_)
  refine cw_block ?_
  refine cw_loop (fun mm l1 w1 => ∃ (i : Nat) (v : Value) (M1 : Mem), mm = n - i ∧ i ≤ n ∧ l1 = [(0, .pointer none), (6, .pointer (some ⟨br, 0, none⟩)), (8, .pointer (some ⟨bo, 0, none⟩)), (9, .int .i64 (emE z)), (17, .slice sa n sc), (18, .int .i64 (n : Nat)), (19, .int .i64 i)] ∧ Step Nope M w M1 w1 ∧ HVal M1 (emK z) (ofL z (xs.take i)) v ∧ Own w1 M1 bo [v] 29 ∧ Own w1 M1 br [.nilIface] 29) (n) [(0, .pointer none), (6, .pointer (some ⟨br, 0, none⟩)), (8, .pointer (some ⟨bo, 0, none⟩)), (9, .int .i64 (emE z)), (17, .slice sa n sc), (18, .int .i64 (n : Nat)), (19, .int .i64 (0 : Nat))] (.cons rfl (.cons rfl (.cons rfl (.cons rfl (.cons rfl (.cons rfl (.cons rfl (.nil _)))))))) ?_ ?_
  · skip
    exact ⟨0, _, M0, rfl, Nat.zero_le _, rfl, hT, (by rw [List.take_zero, hof0]; exact hv), hoo, hor⟩
  have hbw : w.heap.size ≤ bo ∧ w.heap.size ≤ br ∧ bo ≠ br := by omega
  clear hT hv hoo hor
  rintro mm l1 w1 ⟨i, v, M1, rfl, hi, rfl, hT, hv, hoo, hor⟩
  obtain ⟨d_hv, u_hv, rfl⟩ := hv.iface hek
  have hlo1 := hoo.1.lt
  have hlr1 := hor.1.lt
  refine cw_rs fun _ κ => ?_
  refine as_q rfl rfl (q_lt rfl rfl) ?_
  refine as_nil (κ _ _ ?_)
  refine cw_seq fun _ hK6 => ?_
  refine cw_cond rfl (fun hc0 => ?_) (fun hc0 => ?_)
  · skip
    have hlt : i < n := by have := of_decide_eq_true hc0; omega
    obtain ⟨y, hy⟩ : ∃ y, xs[i]? = some y := ⟨xs[i]'(by omega), by simp⟩
    obtain ⟨g, o, rfl⟩ := (hr _ _ hT).there (by omega)
    refine cw_skip ?_
    refine hK6 _ _ ?_
    refine cw_seq fun _ hK7 => ?_
    refine cw_block ?_
    refine cw_rs fun _ κ => ?_
    refine as_q rfl rfl (q_indexAddr (e := 24) (size := 2) (by kernel_rfl) (by kernel_rfl) rfl rfl (by omega) (by omega)) ?_
    refine Sc 2 rfl (by kernel_rfl) rfl ((hr _ _ hT).el (j := (i : Int).toNat) (by simpa using hy)) ?_
    have hqaxx := hT.size
    refine as_h rfl (h_allocO (z := (.agg #[(.int .i64 0), (.int .i64 0)])) hT.sat (by kernel_rfl) rfl fun bxx w5 hs5 hoxx exx => ?_)
    replace hv := hv.mono hs5.le
    replace hoo := hoo.then hs5
    replace hor := hor.then hs5
    replace hT := hT.then hs5
    have hz5 := hs5.size
    have hlxx := hoxx.1.lt
    refine as_h0 (h_store hs5.sat hoxx rfl rfl rfl (by kernel_rfl) rfl rfl rfl fun w6 hs6 hn6 => ?_)
    replace hv := hv.mono hs6.le
    replace hoo := hoo.step hs6 (fun h => by have h : _ = _ := h; omega)
    replace hor := hor.step hs6 (fun h => by have h : _ = _ := h; omega)
    clear hoxx; have hoxx := hn6; clear hn6
    replace hT := hT.own hs6 (by omega)
    have hz6 := hs6.size
    refine as_nil (κ _ _ ?_)
    refine cw_rs fun _ κ => ?_
    refine Sm rfl rfl ?_
    refine as_q rfl rfl (q_eqT rfl rfl (by omega)) ?_
    refine as_nil (κ _ _ ?_)
    refine cw_true rfl ?_
    refine cw_region fun _ κ => ?_
    refine Sc 1 rfl (by kernel_rfl) rfl (by exact Blk.cells hoo.1 rfl) ?_
    refine Sm rfl rfl ?_
    refine Sc 2 rfl (by kernel_rfl) rfl (by exact Blk.cells hoxx.1 rfl) ?_
    refine as_h rfl (h_call (by kernel_rfl) rfl ?_)
    refine (hp_insert (x := y) hs6.sat hv (by have := hlen i; omega)).mono ?_
    rintro _ w7 ⟨v2, M2, hr2, hs7, hv2⟩
    rw [hie] at hr2
    subst hr2
    replace hv := hv.mono hs7.le
    replace hoo := hoo.then hs7
    replace hor := hor.then hs7
    replace hT := hT.then hs7
    have hz7 := hs7.size
    obtain ⟨d_hv2, u_hv2, rfl⟩ := hv2.iface hek
    refine Sm rfl rfl ?_
    refine Se rfl rfl rfl ?_
    refine Se rfl rfl rfl ?_
    refine as_h0 (h_store hs7.sat hoo rfl rfl rfl (by kernel_rfl) rfl rfl rfl fun w8 hs8 hn8 => ?_)
    replace hv := hv.mono hs8.le
    replace hor := hor.step hs8 (fun h => by have h : br = bo := h; omega)
    replace hv2 := hv2.mono hs8.le
    clear hoo; have hoo := hn8; clear hn8
    replace hT := hT.own hs8 (by omega)
    have hz8 := hs8.size
    refine Sa rfl rfl ?_
    refine as_nil (κ _ _ ?_)
    refine hK7 _ _ ?_
    refine cw_region fun _ κ => ?_
    refine as_q rfl rfl (q_addx rfl rfl (by omega) (by omega)) ?_
    refine Sm rfl rfl ?_
    refine as_nil (κ _ _ ?_)
    refine ⟨_, _, ?_, (.cons rfl (.cons rfl (.cons rfl (.cons rfl (.cons rfl (.cons rfl (.cons rfl (.nil _)))))))), i + 1, _, _, rfl, by omega, rfl, hT, ?_, hoo, hor⟩
    · omega
    · rw [List.take_add_one, hy]; exact hof1 _ _ ▸ hv2
  · skip
    have hge : i = n := by have := of_decide_eq_false hc0; omega
    refine cw_exit ?_
    refine hK3 _ _ ?_
    refine cw_rs fun _ κ => ?_
    refine Sc 1 rfl (by kernel_rfl) rfl (by exact Blk.cells hoo.1 rfl) ?_
    refine Sm rfl rfl ?_
    refine as_h0 (h_store hT.sat hor rfl rfl rfl (by kernel_rfl) rfl rfl rfl fun w9 hs9 hn9 => ?_)
    replace hv := hv.mono hs9.le
    clear hor; have hor := hn9; clear hn9
    replace hT := hT.own hs9 (by omega)
    have hz9 := hs9.size
    refine Sa rfl rfl ?_
    refine as_nil (κ _ _ ?_)
    refine cw_ret ?_
    subst hge
    rw [List.take_of_length_le (by omega)] at hv
    exact ⟨_, (res_cell rfl (loadVar_n (n := 1) (by kernel_rfl) (by exact Blk.cells hor.1 rfl)) (res_tmp rfl res_nil)), _, _, rfl, hT, hv⟩
theorem hp_of_0 {w : World} {M : Mem} {z : Int} {u : Value} {n : Nat} {xs : List El} (hs : Sat M w) (hr : Rds M w 2 u n (els xs)) (hn : n ≤ 1000000) (hz : ¬ (1 ≤ z ∧ z ≤ 6)) :
    Does Tryz.prog 11 #[.pointer none, .int .i64 z, u] w (fun r w' => ∃ v' M', r = .tuple #[.agg #[v'], .int .i64 (emE z)] ∧ Step Nope M w M' w' ∧ HVal M' (emK z) (ofL z xs) v') := by
  have hT := Step.refl Nope hs
  have hxl := hr.els_len hs
  obtain ⟨sa, sc, rfl, _, _⟩ := hr.slice hs
  have hof0 : ofL z [] = [] := by unfold ofL; split <;> rfl
  have hek : emK z = 0 := by unfold emK; rw [if_neg hz]
  have hem : emE z = 22 := by unfold emE; rw [if_neg hz]
  have hofb : ∀ l, ofL z l = [] := fun l => by unfold ofL; rw [if_neg hz]
  refine fn_enter Tryz.func11 rfl (rs := [.cell 6 29, .tmp 7]) rfl rfl rfl rfl ?_
  refine cw_rs fun _ κ => ?_
  have hqar := hT.size
  refine as_h rfl (h_allocO (z := (.agg #[.nilIface])) hs (by kernel_rfl) rfl fun br w1 hs1 hor er => ?_)
  replace hT := hT.then hs1
  have hz1 := hs1.size
  have hlr := hor.1.lt
  refine Sa rfl rfl ?_
  refine as_nil (κ _ _ ?_)
  refine cw_rs fun _ κ => ?_
  refine Sm rfl rfl ?_
  refine as_h rfl (h_call (by kernel_rfl) rfl ?_)
  refine (hp_empty hs1.sat).mono ?_
  rintro _ w2 ⟨v0, M0, rfl, hs2, hv⟩
  replace hor := hor.then hs2
  replace hT := hT.then hs2
  have hz2 := hs2.size
  obtain ⟨_, rfl⟩ := HVal.zero (hek ▸ hv)
  refine Sm rfl rfl ?_
  refine Se rfl rfl rfl ?_
  refine Se rfl rfl rfl ?_
  have hqao := hT.size
  refine as_h rfl (h_allocO (z := (.agg #[.nilIface])) hs2.sat (by kernel_rfl) rfl fun bo w3 hs3 hoo eo => ?_)
  replace hor := hor.then hs3
  replace hv := hv.mono hs3.le
  replace hT := hT.then hs3
  have hz3 := hs3.size
  have hlo := hoo.1.lt
  refine as_h0 (h_store hs3.sat hoo rfl rfl rfl (by kernel_rfl) rfl rfl rfl fun w4 hs4 hn4 => ?_)
  replace hor := hor.step hs4 (fun h => by have h : _ = _ := h; omega)
  replace hv := hv.mono hs4.le
  clear hoo; have hoo := hn4; clear hn4
  replace hT := hT.own hs4 (by omega)
  have hz4 := hs4.size
  refine Sa rfl rfl ?_
  refine as_nil (κ _ _ ?_)
  refine cw_seq fun _ hK3 => ?_
  refine cw_rs fun _ κ => ?_
  refine Sm rfl rfl ?_
  refine as_q rfl rfl (q_len (by kernel_rfl) rfl _) ?_
  refine Sm rfl rfl ?_
  refine as_nil (κ _ _ ?_)
  refine cw_block ?_
  refine cw_loop (fun mm l1 w1 => ∃ (i : Nat) (v : Value) (M1 : Mem), mm = n - i ∧ i ≤ n ∧ l1 = [(0, .pointer none), (6, .pointer (some ⟨br, 0, none⟩)), (8, .pointer (some ⟨bo, 0, none⟩)), (9, .int .i64 (emE z)), (17, .slice sa n sc), (18, .int .i64 (n : Nat)), (19, .int .i64 i)] ∧ Step Nope M w M1 w1 ∧ HVal M1 (emK z) (ofL z (xs.take i)) v ∧ Own w1 M1 bo [v] 29 ∧ Own w1 M1 br [.nilIface] 29) (n) [(0, .pointer none), (6, .pointer (some ⟨br, 0, none⟩)), (8, .pointer (some ⟨bo, 0, none⟩)), (9, .int .i64 (emE z)), (17, .slice sa n sc), (18, .int .i64 (n : Nat)), (19, .int .i64 (0 : Nat))] (.cons rfl (.cons rfl (.cons rfl (.cons rfl (.cons rfl (.cons rfl (.cons rfl (.nil _)))))))) ?_ ?_
  · skip
    exact ⟨0, _, M0, rfl, Nat.zero_le _, rfl, hT, (by rw [List.take_zero, hof0]; exact hv), hoo, hor⟩
  have hbw : w.heap.size ≤ bo ∧ w.heap.size ≤ br ∧ bo ≠ br := by omega
  clear hT hv hoo hor
  rintro mm l1 w1 ⟨i, v, M1, rfl, hi, rfl, hT, hv, hoo, hor⟩
  obtain ⟨_, rfl⟩ := HVal.zero (hek ▸ hv)
  have hlo1 := hoo.1.lt
  have hlr1 := hor.1.lt
  refine cw_rs fun _ κ => ?_
  refine as_q rfl rfl (q_lt rfl rfl) ?_
  refine as_nil (κ _ _ ?_)
  refine cw_seq fun _ hK6 => ?_
  refine cw_cond rfl (fun hc0 => ?_) (fun hc0 => ?_)
  · skip
    have hlt : i < n := by have := of_decide_eq_true hc0; omega
    obtain ⟨y, hy⟩ : ∃ y, xs[i]? = some y := ⟨xs[i]'(by omega), by simp⟩
    obtain ⟨g, o, rfl⟩ := (hr _ _ hT).there (by omega)
    refine cw_skip ?_
    refine hK6 _ _ ?_
    refine cw_seq fun _ hK7 => ?_
    refine cw_block ?_
    refine cw_rs fun _ κ => ?_
    refine as_q rfl rfl (q_indexAddr (e := 24) (size := 2) (by kernel_rfl) (by kernel_rfl) rfl rfl (by omega) (by omega)) ?_
    refine Sc 2 rfl (by kernel_rfl) rfl ((hr _ _ hT).el (j := (i : Int).toNat) (by simpa using hy)) ?_
    have hqaxx := hT.size
    refine as_h rfl (h_allocO (z := (.agg #[(.int .i64 0), (.int .i64 0)])) hT.sat (by kernel_rfl) rfl fun bxx w5 hs5 hoxx exx => ?_)
    replace hv := hv.mono hs5.le
    replace hoo := hoo.then hs5
    replace hor := hor.then hs5
    replace hT := hT.then hs5
    have hz5 := hs5.size
    have hlxx := hoxx.1.lt
    refine as_h0 (h_store hs5.sat hoxx rfl rfl rfl (by kernel_rfl) rfl rfl rfl fun w6 hs6 hn6 => ?_)
    replace hv := hv.mono hs6.le
    replace hoo := hoo.step hs6 (fun h => by have h : _ = _ := h; omega)
    replace hor := hor.step hs6 (fun h => by have h : _ = _ := h; omega)
    clear hoxx; have hoxx := hn6; clear hn6
    replace hT := hT.own hs6 (by omega)
    have hz6 := hs6.size
    refine as_nil (κ _ _ ?_)
    refine cw_rs fun _ κ => ?_
    refine Sm rfl rfl ?_
    refine as_q rfl rfl (q_eqF rfl rfl (by omega)) ?_
    refine as_nil (κ _ _ ?_)
    refine cw_false rfl ?_
    refine cw_skip ?_
    refine hK7 _ _ ?_
    refine cw_region fun _ κ => ?_
    refine as_q rfl rfl (q_addx rfl rfl (by omega) (by omega)) ?_
    refine Sm rfl rfl ?_
    refine as_nil (κ _ _ ?_)
    refine ⟨_, _, ?_, (.cons rfl (.cons rfl (.cons rfl (.cons rfl (.cons rfl (.cons rfl (.cons rfl (.nil _)))))))), i + 1, _, _, rfl, by omega, rfl, hT, ?_, hoo, hor⟩
    · omega
    · rw [hofb] at hv ⊢; exact hv
  · skip
    have hge : i = n := by have := of_decide_eq_false hc0; omega
    refine cw_exit ?_
    refine hK3 _ _ ?_
    refine cw_rs fun _ κ => ?_
    refine Sc 1 rfl (by kernel_rfl) rfl (by exact Blk.cells hoo.1 rfl) ?_
    refine Sm rfl rfl ?_
    refine as_h0 (h_store hT.sat hor rfl rfl rfl (by kernel_rfl) rfl rfl rfl fun w7 hs7 hn7 => ?_)
    replace hv := hv.mono hs7.le
    clear hor; have hor := hn7; clear hn7
    replace hT := hT.own hs7 (by omega)
    have hz7 := hs7.size
    refine Sa rfl rfl ?_
    refine as_nil (κ _ _ ?_)
    refine cw_ret ?_
    subst hge
    rw [List.take_of_length_le (by omega)] at hv
    exact ⟨_, (res_cell rfl (loadVar_n (n := 1) (by kernel_rfl) (by exact Blk.cells hor.1 rfl)) (res_tmp rfl res_nil)), _, _, rfl, hT, hv⟩
theorem hp_of {w : World} {M : Mem} {z : Int} {u : Value} {n : Nat} {xs : List El} (hs : Sat M w) (hr : Rds M w 2 u n (els xs)) (hn : n ≤ 1000000) : Does Tryz.prog 11 #[.pointer none, .int .i64 z, u] w (fun r w' => ∃ v' M', r = .tuple #[.agg #[v'], .int .i64 (emE z)] ∧ Step Nope M w M' w' ∧ HVal M' (emK z) (ofL z xs) v') := by
  by_cases hz : 1 ≤ z ∧ z ≤ 6
  · exact hp_of_1 hs hr hn hz
  · exact hp_of_0 hs hr hn hz
end Go.Proofs.YtgcgjpfjjgalmaaGreat
/- Contracts of the library at this program: FormatInt of small numbers, Join. Laid by the kit's lay-plain. -/
namespace Go.Proofs
open Go.Shelf
def Tryz.lays156_ren : Go.Shelf.Ren := ⟨fun | 156 => 128 | 165 => 141 | 166 => 139 | 169 => 140 | 240 => 146 | 241 => 147 | 276 => 150 | 277 => 151 | n => n, fun | 31 => 211 | 9 => 9 | 3 => 3 | 4 => 4 | 0 => 0 | 20 => 20 | 72 => 227 | 76 => 230 | 70 => 225 | 37 => 184 | 75 => 229 | 127 => 158 | 164 => 143 | 5 => 5 | 80 => 61 | n => n, fun | n => n⟩
theorem Tryz.lays156 : Go.Proofs.Lays.n156 Tryz.prog Tryz.lays156_ren := {
  mixed := by kernel_rfl
  f156 := Tryz.func128.trans (congrArg some (by kernel_rfl))
  f165 := Tryz.func141.trans (congrArg some (by kernel_rfl))
  f166 := Tryz.func139.trans (congrArg some (by kernel_rfl))
  f169 := Tryz.func140.trans (congrArg some (by kernel_rfl))
  f240 := Tryz.func146.trans (congrArg some (by kernel_rfl))
  f241 := Tryz.func147.trans (congrArg some (by kernel_rfl))
  f276 := Tryz.func150.trans (congrArg some (by kernel_rfl))
  f277 := Tryz.func151.trans (congrArg some (by kernel_rfl))
  t0 := Tryz.underlying0
  a0 := Tryz.isAgg0
  z0 := Tryz.sizeOf0
  v0 := Tryz.zeroValue0
  t3 := Tryz.underlying3
  a3 := Tryz.isAgg3
  z3 := Tryz.sizeOf3
  v3 := Tryz.zeroValue3
  t4 := Tryz.underlying4
  a4 := Tryz.isAgg4
  z4 := Tryz.sizeOf4
  v4 := Tryz.zeroValue4
  t9 := Tryz.underlying9
  a9 := Tryz.isAgg9
  z9 := Tryz.sizeOf9
  v9 := Tryz.zeroValue9
  t20 := Tryz.underlying20
  a20 := Tryz.isAgg20
  z20 := Tryz.sizeOf20
  v20 := Tryz.zeroValue20
  t31 := Tryz.underlying211
  a31 := Tryz.isAgg211
  z31 := Tryz.sizeOf211
  v31 := Tryz.zeroValue211
  t37 := Tryz.underlying184
  a37 := Tryz.isAgg184
  z37 := Tryz.sizeOf184
  v37 := Tryz.zeroValue184
  t70 := Tryz.underlying225
  a70 := Tryz.isAgg225
  z70 := Tryz.sizeOf225
  v70 := Tryz.zeroValue225
  t72 := Tryz.underlying227
  a72 := Tryz.isAgg227
  z72 := Tryz.sizeOf227
  v72 := Tryz.zeroValue227
  t75 := Tryz.underlying229
  a75 := Tryz.isAgg229
  z75 := Tryz.sizeOf229
  v75 := Tryz.zeroValue229
  t76 := Tryz.underlying230
  a76 := Tryz.isAgg230
  z76 := Tryz.sizeOf230
  v76 := Tryz.zeroValue230
  t127 := Tryz.underlying158
  a127 := Tryz.isAgg158
  z127 := Tryz.sizeOf158
  v127 := Tryz.zeroValue158
  t164 := Tryz.underlying143
  a164 := Tryz.isAgg143
  z164 := Tryz.sizeOf143
  v164 := Tryz.zeroValue143 }
theorem Tryz.Builder_Extra_156 : Builder.Extra Tryz.prog Tryz.lays156_ren := {
  sizeBuilder := by kernel_rfl
  liesBuilder := by kernel_rfl
  t5 := Tryz.underlying5
  a5 := Tryz.isAgg5
  z5 := Tryz.sizeOf5
  v5 := Tryz.zeroValue5
  infoByte := by kernel_rfl
  cellsByte := by kernel_rfl
  sizeByte := by kernel_rfl
  neB5 := by decide }
open Go.RowKit in
theorem Tryz.strings_Join (bk o c : Nat) (xs : List ByteArray) (sep : ByteArray) (w : World) (hcells : ∀ (j : Nat) x, xs[j]? = some x → w.cell? ⟨bk, o + j, none⟩ = some (.string x)) (hbk : bk < w.heap.size) (hN : xs.length ≤ 140737488355328) (hcap : xs.length ≤ c) (hlen : (Lib.join (xs.map (·.data.toList)) sep.data.toList).length ≤ 140737488355328) :
    Calls Tryz.prog 128 #[.slice (some ⟨bk, o, none⟩) xs.length c, .string sep] w fun e w' => e = .returned (.string ⟨(Lib.join (xs.map (·.data.toList)) sep.data.toList).toArray⟩) ∧ Below w.heap.size w w' := Any.strings_Join Tryz.lays156 Tryz.Builder_Extra_156 bk o c xs sep w hcells hbk hN hcap hlen
def Tryz.lays173_ren : Go.Shelf.Ren := ⟨fun | 173 => 97 | 246 => 98 | 283 => 99 | 284 => 100 | 285 => 101 | 286 => 102 | 129 => 104 | 317 => 103 | 318 => 105 | 319 => 106 | 320 => 107 | 337 => 108 | 338 => 109 | n => n, fun | 2 => 2 | 3 => 3 | 9 => 9 | 4 => 4 | 171 => 180 | 0 => 0 | 53 => 181 | 37 => 184 | 5 => 5 | 173 => 185 | 212 => 189 | 51 => 103 | 20 => 20 | 213 => 190 | 46 => 146 | 232 => 193 | 233 => 194 | n => n, fun | 17 => 0 | 18 => 1 | 19 => 2 | n => n⟩
theorem Tryz.lays173 : Go.Proofs.Lays.n173 Tryz.prog Tryz.lays173_ren := {
  mixed := by kernel_rfl
  f129 := Tryz.func104.trans (congrArg some (by kernel_rfl))
  f173 := Tryz.func97.trans (congrArg some (by kernel_rfl))
  f246 := Tryz.func98.trans (congrArg some (by kernel_rfl))
  f283 := Tryz.func99.trans (congrArg some (by kernel_rfl))
  f284 := Tryz.func100.trans (congrArg some (by kernel_rfl))
  f285 := Tryz.func101.trans (congrArg some (by kernel_rfl))
  f286 := Tryz.func102.trans (congrArg some (by kernel_rfl))
  f317 := Tryz.func103.trans (congrArg some (by kernel_rfl))
  f318 := Tryz.func105.trans (congrArg some (by kernel_rfl))
  f319 := Tryz.func106.trans (congrArg some (by kernel_rfl))
  f320 := Tryz.func107.trans (congrArg some (by kernel_rfl))
  f337 := Tryz.func108.trans (congrArg some (by kernel_rfl))
  f338 := Tryz.func109.trans (congrArg some (by kernel_rfl))
  t0 := Tryz.underlying0
  a0 := Tryz.isAgg0
  z0 := Tryz.sizeOf0
  v0 := Tryz.zeroValue0
  t2 := Tryz.underlying2
  a2 := Tryz.isAgg2
  z2 := Tryz.sizeOf2
  v2 := Tryz.zeroValue2
  t3 := Tryz.underlying3
  a3 := Tryz.isAgg3
  z3 := Tryz.sizeOf3
  v3 := Tryz.zeroValue3
  t4 := Tryz.underlying4
  a4 := Tryz.isAgg4
  z4 := Tryz.sizeOf4
  v4 := Tryz.zeroValue4
  t5 := Tryz.underlying5
  a5 := Tryz.isAgg5
  z5 := Tryz.sizeOf5
  v5 := Tryz.zeroValue5
  t9 := Tryz.underlying9
  a9 := Tryz.isAgg9
  z9 := Tryz.sizeOf9
  v9 := Tryz.zeroValue9
  t20 := Tryz.underlying20
  a20 := Tryz.isAgg20
  z20 := Tryz.sizeOf20
  v20 := Tryz.zeroValue20
  t37 := Tryz.underlying184
  a37 := Tryz.isAgg184
  z37 := Tryz.sizeOf184
  v37 := Tryz.zeroValue184
  t46 := Tryz.underlying146
  a46 := Tryz.isAgg146
  z46 := Tryz.sizeOf146
  v46 := Tryz.zeroValue146
  t51 := Tryz.underlying103
  a51 := Tryz.isAgg103
  z51 := Tryz.sizeOf103
  v51 := Tryz.zeroValue103
  t53 := Tryz.underlying181
  a53 := Tryz.isAgg181
  z53 := Tryz.sizeOf181
  v53 := Tryz.zeroValue181
  t171 := Tryz.underlying180
  a171 := Tryz.isAgg180
  z171 := Tryz.sizeOf180
  v171 := Tryz.zeroValue180
  t173 := Tryz.underlying185
  a173 := Tryz.isAgg185
  z173 := Tryz.sizeOf185
  v173 := Tryz.zeroValue185
  t212 := Tryz.underlying189
  a212 := Tryz.isAgg189
  z212 := Tryz.sizeOf189
  v212 := Tryz.zeroValue189
  t213 := Tryz.underlying190
  a213 := Tryz.isAgg190
  z213 := Tryz.sizeOf190
  t232 := Tryz.underlying193
  a232 := Tryz.isAgg193
  z232 := Tryz.sizeOf193
  v232 := Tryz.zeroValue193
  t233 := Tryz.underlying194
  a233 := Tryz.isAgg194
  z233 := Tryz.sizeOf194
  v233 := Tryz.zeroValue194
  g17 := by kernel_rfl
  g18 := by kernel_rfl
  g19 := by kernel_rfl }
open Go.RowKit Go.Sort Go.Lib in
theorem Tryz.strconv_FormatInt_10_small (i : Nat) (hi : i < 100) (w : World) :
    Calls Tryz.prog 97 #[.int .i64 i, .int .i64 10] w fun e w' => e = .returned (.string ⟨(Lib.decDigits i).toArray⟩) ∧ w' = w := Any.strconv_FormatInt_10_small Tryz.lays173 i hi w
end Go.Proofs
/- Pairing heaps of two elements as texts, part 1. -/
namespace Go.Proofs.YtgcgjpfjjgalmaaGreat
open Go Go.Eng
theorem fmt_0 {w : World} {M : Mem} (hs : Sat M w) : Does Tryz.prog 97 #[.int .i64 0, .int .i64 10] w (fun v w' => v = .string ⟨[48].toArray⟩ ∧ Step Nope M w M w') :=
  Does.of_calls (Tryz.strconv_FormatInt_10_small 0 (by decide) w) fun e w' ⟨he, hw⟩ => ⟨_, he, by rw [dec_small (by decide)]; rfl, by subst hw; exact Step.refl _ hs⟩
theorem fmt_1 {w : World} {M : Mem} (hs : Sat M w) : Does Tryz.prog 97 #[.int .i64 1, .int .i64 10] w (fun v w' => v = .string ⟨[49].toArray⟩ ∧ Step Nope M w M w') :=
  Does.of_calls (Tryz.strconv_FormatInt_10_small 1 (by decide) w) fun e w' ⟨he, hw⟩ => ⟨_, he, by rw [dec_small (by decide)]; rfl, by subst hw; exact Step.refl _ hs⟩
theorem fmt_2 {w : World} {M : Mem} (hs : Sat M w) : Does Tryz.prog 97 #[.int .i64 2, .int .i64 10] w (fun v w' => v = .string ⟨[50].toArray⟩ ∧ Step Nope M w M w') :=
  Does.of_calls (Tryz.strconv_FormatInt_10_small 2 (by decide) w) fun e w' ⟨he, hw⟩ => ⟨_, he, by rw [dec_small (by decide)]; rfl, by subst hw; exact Step.refl _ hs⟩
theorem txt_1 {w : World} {M : Mem} (hs : Sat M w) :
    Does Tryz.prog 96 #[.agg (elc (1, 0)).toArray] w (fun v w' => v = .string ⟨[49, 58, 48].toArray⟩ ∧ Step Nope M w M w') := by
  have hT := Step.refl Nope hs
  refine fn_enter Tryz.func96 rfl (rs := [.tmp 2]) rfl rfl rfl rfl ?_
  refine cw_rs fun _ κ => ?_
  refine as_h rfl (h_boxM hs rfl rfl fun b1 M1 w1 hs1 hb1 e1 => ?_)
  replace hT := hT.then hs1
  refine Sa rfl rfl ?_
  refine as_nil (κ _ _ ?_)
  refine cw_dr (by kernel_rfl) fun _ κ => ?_
  have hs2 := Step.drew hs1.sat
  replace hb1 := hs2.le _ _ hb1
  replace hT := hT.then hs2
  refine Df 0 1 0 rfl (by kernel_rfl) (by kernel_rfl) rfl ?_
  refine Dl1 1 3 rfl (by kernel_rfl) (by kernel_rfl) rfl (by exact BlkR.cell (hs2.sat _ _ _ hb1) rfl) ?_
  refine Df 4 19 1 rfl (by kernel_rfl) (by kernel_rfl) rfl ?_
  refine Dl1 5 51 rfl (by kernel_rfl) (by kernel_rfl) rfl (by exact BlkR.cell (hs2.sat _ _ _ hb1) rfl) ?_
  refine Dh 2 55 rfl (by kernel_rfl) (keep_sift (bs := [F,T]) (by kernel_rfl)) (h_call (by kernel_rfl) rfl ?_)
  refine (fmt_1 hs2.sat).mono ?_
  rintro _ w3 ⟨rfl, hs3⟩
  replace hb1 := hs3.le _ _ hb1
  replace hT := hT.then hs3
  refine ⟨(by repeat' first | exact trivial | exact BlkR.cell (hs3.sat _ _ _ hb1) rfl | exact BlkR.cells (hs3.sat _ _ _ hb1) rfl | assumption | refine all_keep ?_ | refine And.intro ?_ ?_), ?_⟩
  refine Dq 3 63 rfl (by kernel_rfl) (fun _ => (q_catL rfl (show _ = some (Value.string ⟨[58].toArray⟩) from rfl) (by decide))) ?_
  refine Dh 6 127 rfl (by kernel_rfl) (keep_sift (bs := [T]) (by kernel_rfl)) (h_call (by kernel_rfl) rfl ?_)
  refine (fmt_0 hs3.sat).mono ?_
  rintro _ w4 ⟨rfl, hs4⟩
  replace hT := hT.then hs4
  refine ⟨trivial, ?_⟩
  refine Dq 7 255 rfl (by kernel_rfl) (fun _ => (q_catL rfl rfl (by decide))) ?_
  refine Da 8 511 rfl (by kernel_rfl) rfl ?_
  refine Dd (by kernel_rfl) (κ _ _ ?_)
  refine cw_ret ?_
  exact ⟨_, (res_tmp rfl res_nil), rfl, hT.forget⟩
theorem txt_2 {w : World} {M : Mem} (hs : Sat M w) :
    Does Tryz.prog 96 #[.agg (elc (2, 0)).toArray] w (fun v w' => v = .string ⟨[50, 58, 48].toArray⟩ ∧ Step Nope M w M w') := by
  have hT := Step.refl Nope hs
  refine fn_enter Tryz.func96 rfl (rs := [.tmp 2]) rfl rfl rfl rfl ?_
  refine cw_rs fun _ κ => ?_
  refine as_h rfl (h_boxM hs rfl rfl fun b1 M1 w1 hs1 hb1 e1 => ?_)
  replace hT := hT.then hs1
  refine Sa rfl rfl ?_
  refine as_nil (κ _ _ ?_)
  refine cw_dr (by kernel_rfl) fun _ κ => ?_
  have hs2 := Step.drew hs1.sat
  replace hb1 := hs2.le _ _ hb1
  replace hT := hT.then hs2
  refine Df 0 1 0 rfl (by kernel_rfl) (by kernel_rfl) rfl ?_
  refine Dl1 1 3 rfl (by kernel_rfl) (by kernel_rfl) rfl (by exact BlkR.cell (hs2.sat _ _ _ hb1) rfl) ?_
  refine Df 4 19 1 rfl (by kernel_rfl) (by kernel_rfl) rfl ?_
  refine Dl1 5 51 rfl (by kernel_rfl) (by kernel_rfl) rfl (by exact BlkR.cell (hs2.sat _ _ _ hb1) rfl) ?_
  refine Dh 2 55 rfl (by kernel_rfl) (keep_sift (bs := [F,T]) (by kernel_rfl)) (h_call (by kernel_rfl) rfl ?_)
  refine (fmt_2 hs2.sat).mono ?_
  rintro _ w3 ⟨rfl, hs3⟩
  replace hb1 := hs3.le _ _ hb1
  replace hT := hT.then hs3
  refine ⟨(by repeat' first | exact trivial | exact BlkR.cell (hs3.sat _ _ _ hb1) rfl | exact BlkR.cells (hs3.sat _ _ _ hb1) rfl | assumption | refine all_keep ?_ | refine And.intro ?_ ?_), ?_⟩
  refine Dq 3 63 rfl (by kernel_rfl) (fun _ => (q_catL rfl (show _ = some (Value.string ⟨[58].toArray⟩) from rfl) (by decide))) ?_
  refine Dh 6 127 rfl (by kernel_rfl) (keep_sift (bs := [T]) (by kernel_rfl)) (h_call (by kernel_rfl) rfl ?_)
  refine (fmt_0 hs3.sat).mono ?_
  rintro _ w4 ⟨rfl, hs4⟩
  replace hT := hT.then hs4
  refine ⟨trivial, ?_⟩
  refine Dq 7 255 rfl (by kernel_rfl) (fun _ => (q_catL rfl rfl (by decide))) ?_
  refine Da 8 511 rfl (by kernel_rfl) rfl ?_
  refine Dd (by kernel_rfl) (κ _ _ ?_)
  refine cw_ret ?_
  exact ⟨_, (res_tmp rfl res_nil), rfl, hT.forget⟩
theorem join_1 {w : World} {M : Mem} {s : ByteArray} {g c : Nat} {sep : Value} (hs : Sat M w) (hb : Buf w M 9 1 (.slice (some ⟨g, 0, none⟩) 1 c) 1 [.string s]) :
    Does Tryz.prog 128 #[.slice (some ⟨g, 0, none⟩) 1 c, sep] w (fun v w' => v = .string s ∧ Step Nope M w M w') := by
  have hT := Step.refl Nope hs
  refine fn_enter Tryz.func128 rfl (rs := [.tmp 4]) rfl rfl rfl rfl ?_
  refine cw_rs fun _ κ => ?_
  refine Sa rfl rfl ?_
  refine as_nil (κ _ _ ?_)
  refine cw_seq fun _ hK2 => ?_
  refine cw_rs fun _ κ => ?_
  refine Sm rfl rfl ?_
  refine as_q rfl rfl (q_len (by kernel_rfl) rfl _) ?_
  refine as_nil (κ _ _ ?_)
  refine cw_block ?_
  refine cw_rs fun _ κ => ?_
  refine as_q rfl rfl (q_eqF rfl rfl (by decide)) ?_
  refine Sa rfl rfl ?_
  refine as_nil (κ _ _ ?_)
  refine cw_false rfl ?_
  refine cw_rs fun _ κ => ?_
  refine as_q rfl rfl (q_eqT rfl rfl (by decide)) ?_
  refine Sa rfl rfl ?_
  refine as_nil (κ _ _ ?_)
  refine cw_true rfl ?_
  refine cw_rs fun _ κ => ?_
  refine Sm rfl rfl ?_
  refine as_q rfl rfl (q_indexAddr (e := 9) (size := 1) (by kernel_rfl) (by kernel_rfl) rfl rfl (by omega) (by omega)) ?_
  refine S1 rfl (by kernel_rfl) rfl (Buf.cell hb (u := .string s) (j := (0 : Int).toNat * 1) rfl) ?_
  refine Sa rfl rfl ?_
  refine as_nil (κ _ _ ?_)
  refine cw_ret ?_
  exact ⟨_, (res_tmp rfl res_nil), rfl, hT.forget⟩
theorem join_2 {w : World} {M : Mem} {a b : List UInt8} {g c : Nat} (hs : Sat M w) (hb : Buf w M 9 1 (.slice (some ⟨g, 0, none⟩) 2 c) 2 [.string ⟨a.toArray⟩, .string ⟨b.toArray⟩]) (hl : a.length + b.length ≤ 1000) :
    Does Tryz.prog 128 #[.slice (some ⟨g, 0, none⟩) 2 c, .string ⟨[32].toArray⟩] w (fun v w' => v = .string ⟨(a ++ 32 :: b).toArray⟩ ∧ Step Nope M w M w') := by
  have hj : Lib.join ([(⟨a.toArray⟩ : ByteArray), ⟨b.toArray⟩].map (·.data.toList)) (⟨[32].toArray⟩ : ByteArray).data.toList = a ++ 32 :: b := by simp [Lib.join, List.intercalate]
  have hc : 2 ≤ c := by
    obtain ⟨_, _, h, h2, _⟩ := hb.slice
    cases h; exact h2
  refine Does.of_calls (Tryz.strings_Join g 0 c [⟨a.toArray⟩, ⟨b.toArray⟩] ⟨[32].toArray⟩ w (fun j x hj => ?_) (hb.lt g rfl) (by simp) hc (by rw [hj]; simp; omega)) fun e w' ⟨he, hw⟩ => ⟨_, he, by rw [hj], Step.of_below hs hw⟩
  match j, hj with
  | 0, hj => cases hj; exact Buf.cell hb (j := 0) rfl
  | 1, hj => cases hj; exact Buf.cell hb (j := 1) rfl
  | n + 2, hj => simp at hj
theorem p_show_leaf {w : World} {M : Mem} {q : Option Addr} (hs : Sat M w) (h : PRep 251 260 M (.node (2, 0) []) q) :
    Does Tryz.prog 165 #[.agg #[.pointer q]] w (fun v w' => v = .string ⟨[40, 50, 58, 48, 41].toArray⟩ ∧ Step Nope M w M w') := by
  have hT := Step.refl Nope hs
  obtain ⟨b, kq, al, rfl, hb, hc, hk⟩ := prep_node.1 h
  obtain rfl := preps_nil.1 hk
  refine fn_enter Tryz.func165 rfl (rs := [.tmp 2]) rfl rfl rfl rfl ?_
  refine cw_rs fun _ κ => ?_
  refine as_h rfl (h_boxM hs rfl rfl fun b1 M1 w1 hs1 hb1 e1 => ?_)
  replace hb := hs1.le _ _ hb
  replace hc := hc.mono hs1.le
  replace hT := hT.then hs1
  have hz1 := hs1.size
  refine Sa rfl rfl ?_
  refine as_nil (κ _ _ ?_)
  refine cw_seq fun _ hK2 => ?_
  refine cw_rs fun _ κ => ?_
  refine Sf 0 rfl (by kernel_rfl) rfl ?_
  refine S1 rfl (by kernel_rfl) rfl (by exact BlkR.cell (hs1.sat _ _ _ hb1) rfl) ?_
  refine as_q rfl rfl (q_eqnil (by kernel_rfl) rfl) ?_
  refine as_nil (κ _ _ ?_)
  refine cw_false rfl ?_
  refine cw_skip ?_
  refine hK2 _ _ ?_
  refine cw_rs fun _ κ => ?_
  refine Sf 0 rfl (by kernel_rfl) rfl ?_
  refine S1 rfl (by kernel_rfl) rfl (by exact BlkR.cell (hs1.sat _ _ _ hb1) rfl) ?_
  refine as_q rfl rfl (q_nilp rfl) ?_
  refine Sf 0 rfl (by kernel_rfl) rfl ?_
  refine Sc 2 rfl (by kernel_rfl) rfl (by exact BlkR.cells (hs1.sat _ _ _ hb) rfl) ?_
  refine as_h rfl (h_call (by kernel_rfl) rfl ?_)
  refine (txt_2 hs1.sat).mono ?_
  rintro _ w2 ⟨rfl, hs2⟩
  replace hb := hs2.le _ _ hb
  replace hc := hc.mono hs2.le
  replace hb1 := hs2.le _ _ hb1
  replace hT := hT.then hs2
  have hz2 := hs2.size
  refine as_h rfl (h_buildO (e := 9) (size := 1) (zs := [.string ⟨#[]⟩]) (cs := [_]) (by kernel_rfl) (by kernel_rfl) (by kernel_rfl) rfl hs2.sat rfl rfl fun bo w3 hs3 hoo eo => ?_)
  replace hb := hs3.le _ _ hb
  replace hc := hc.mono hs3.le
  replace hb1 := hs3.le _ _ hb1
  replace hT := hT.then hs3
  have hz3 := hs3.size
  have hlo := hoo.1.lt
  refine Sa rfl rfl ?_
  refine as_nil (κ _ _ ?_)
  refine cw_seq fun _ hK5 => ?_
  refine cw_rs fun _ κ => ?_
  refine Sf 0 rfl (by kernel_rfl) rfl ?_
  refine S1 rfl (by kernel_rfl) rfl (by exact BlkR.cell (hs3.sat _ _ _ hb1) rfl) ?_
  refine as_q rfl rfl (q_nilp rfl) ?_
  refine Sf 2 rfl (by kernel_rfl) rfl ?_
  refine Sc 1 rfl (by kernel_rfl) rfl (by exact BlkR.cells (hs3.sat _ _ _ hb) rfl) ?_
  refine as_h rfl (h_call (by kernel_rfl) rfl ?_)
  have hloo := hoo.1.lt
  refine (cp_all (vs := []) hs3.sat hc (by simp)).mono ?_
  rintro av w4 ⟨Ma, hs4, hba, hfa⟩
  replace hoo := hoo.then hs4
  replace hT := hT.then hs4
  have hz4 := hs4.size
  obtain ⟨aa, ac, rfl, _, _⟩ := hba.slice
  refine as_q rfl rfl (q_len (by kernel_rfl) rfl _) ?_
  refine Sm rfl rfl ?_
  refine as_nil (κ _ _ ?_)
  refine cw_block ?_
  refine cw_loop (fun mm l1 w1 => l1 = [(1, .pointer (some ⟨b1, 0, none⟩)), (3, .slice (some ⟨bo, 0, none⟩) 1 1), (21, .slice aa 0 ac), (22, .int .i64 ((0 : Nat) : Int)), (23, .int .i64 0)] ∧ Step Nope M w Ma w1 ∧ Own w1 Ma bo [.string ⟨[50, 58, 48].toArray⟩] 9) (0) [(1, .pointer (some ⟨b1, 0, none⟩)), (3, .slice (some ⟨bo, 0, none⟩) 1 1), (21, .slice aa 0 ac), (22, .int .i64 ((0 : Nat) : Int)), (23, .int .i64 0)] (.cons rfl (.cons rfl (.cons rfl (.cons rfl (.cons rfl (.nil _)))))) ?_ ?_
  · skip
    exact ⟨rfl, hT, hoo⟩
  clear hT hoo hba
  rintro mm l1 w1 ⟨rfl, hT, hoo⟩
  refine cw_rs fun _ κ => ?_
  refine as_q rfl rfl (q_ltF rfl rfl (by omega)) ?_
  refine as_nil (κ _ _ ?_)
  refine cw_seq fun _ hK8 => ?_
  refine cw_false rfl ?_
  refine cw_exit ?_
  refine hK5 _ _ ?_
  refine cw_rs fun _ κ => ?_
  refine Sm rfl rfl ?_
  refine as_h rfl (h_call (by kernel_rfl) rfl ?_)
  have hbb1 := Own.buf hoo (n := 1) (size := 1) rfl (by decide)
  refine (join_1 hT.sat hbb1).mono ?_
  rintro _ w5 ⟨rfl, hs5⟩
  replace hT := hT.then hs5
  have hz5 := hs5.size
  refine as_q rfl rfl (q_catL (show _ = some (Value.string ⟨[40].toArray⟩) from rfl) rfl (by decide)) ?_
  refine as_q rfl rfl (q_catL rfl (show _ = some (Value.string ⟨[41].toArray⟩) from rfl) (by decide)) ?_
  refine Sa rfl rfl ?_
  refine as_nil (κ _ _ ?_)
  refine cw_ret ?_
  exact ⟨_, (res_tmp rfl res_nil), rfl, hT.forget⟩
theorem p_show_one {w : World} {M : Mem} {q : Option Addr} (hs : Sat M w) (h : PRep 251 260 M (.node (1, 0) [.node (2, 0) []]) q) :
    Does Tryz.prog 165 #[.agg #[.pointer q]] w (fun v w' => v = .string ⟨[40, 49, 58, 48, 32, 40, 50, 58, 48, 41, 41].toArray⟩ ∧ Step Nope M w M w') := by
  have hT := Step.refl Nope hs
  obtain ⟨b, kq, al, rfl, hb, hc, hk⟩ := prep_node.1 h
  obtain ⟨_, qy, s, rfl, hky, hk2⟩ := preps_cons.1 hk
  obtain rfl := preps_nil.1 hk2
  refine fn_enter Tryz.func165 rfl (rs := [.tmp 2]) rfl rfl rfl rfl ?_
  refine cw_rs fun _ κ => ?_
  refine as_h rfl (h_boxM hs rfl rfl fun b1 M1 w1 hs1 hb1 e1 => ?_)
  replace hb := hs1.le _ _ hb
  replace hc := hc.mono hs1.le
  replace hky := hky.mono hs1.le
  replace hT := hT.then hs1
  have hz1 := hs1.size
  refine Sa rfl rfl ?_
  refine as_nil (κ _ _ ?_)
  refine cw_seq fun _ hK2 => ?_
  refine cw_rs fun _ κ => ?_
  refine Sf 0 rfl (by kernel_rfl) rfl ?_
  refine S1 rfl (by kernel_rfl) rfl (by exact BlkR.cell (hs1.sat _ _ _ hb1) rfl) ?_
  refine as_q rfl rfl (q_eqnil (by kernel_rfl) rfl) ?_
  refine as_nil (κ _ _ ?_)
  refine cw_false rfl ?_
  refine cw_skip ?_
  refine hK2 _ _ ?_
  refine cw_rs fun _ κ => ?_
  refine Sf 0 rfl (by kernel_rfl) rfl ?_
  refine S1 rfl (by kernel_rfl) rfl (by exact BlkR.cell (hs1.sat _ _ _ hb1) rfl) ?_
  refine as_q rfl rfl (q_nilp rfl) ?_
  refine Sf 0 rfl (by kernel_rfl) rfl ?_
  refine Sc 2 rfl (by kernel_rfl) rfl (by exact BlkR.cells (hs1.sat _ _ _ hb) rfl) ?_
  refine as_h rfl (h_call (by kernel_rfl) rfl ?_)
  refine (txt_1 hs1.sat).mono ?_
  rintro _ w2 ⟨rfl, hs2⟩
  replace hb := hs2.le _ _ hb
  replace hc := hc.mono hs2.le
  replace hky := hky.mono hs2.le
  replace hb1 := hs2.le _ _ hb1
  replace hT := hT.then hs2
  have hz2 := hs2.size
  refine as_h rfl (h_buildO (e := 9) (size := 1) (zs := [.string ⟨#[]⟩]) (cs := [_]) (by kernel_rfl) (by kernel_rfl) (by kernel_rfl) rfl hs2.sat rfl rfl fun bo w3 hs3 hoo eo => ?_)
  replace hb := hs3.le _ _ hb
  replace hc := hc.mono hs3.le
  replace hky := hky.mono hs3.le
  replace hb1 := hs3.le _ _ hb1
  replace hT := hT.then hs3
  have hz3 := hs3.size
  have hlo := hoo.1.lt
  refine Sa rfl rfl ?_
  refine as_nil (κ _ _ ?_)
  refine cw_seq fun _ hK5 => ?_
  refine cw_rs fun _ κ => ?_
  refine Sf 0 rfl (by kernel_rfl) rfl ?_
  refine S1 rfl (by kernel_rfl) rfl (by exact BlkR.cell (hs3.sat _ _ _ hb1) rfl) ?_
  refine as_q rfl rfl (q_nilp rfl) ?_
  refine Sf 2 rfl (by kernel_rfl) rfl ?_
  refine Sc 1 rfl (by kernel_rfl) rfl (by exact BlkR.cells (hs3.sat _ _ _ hb) rfl) ?_
  refine as_h rfl (h_call (by kernel_rfl) rfl ?_)
  have hloo := hoo.1.lt
  refine (cp_all (vs := [qy]) hs3.sat hc (by simp)).mono ?_
  rintro av w4 ⟨Ma, hs4, hba, hfa⟩
  replace hky := hky.mono hs4.le
  replace hoo := hoo.then hs4
  replace hT := hT.then hs4
  have hz4 := hs4.size
  obtain ⟨aa, ac, rfl, _, _⟩ := hba.slice
  refine as_q rfl rfl (q_len (by kernel_rfl) rfl _) ?_
  refine Sm rfl rfl ?_
  refine as_nil (κ _ _ ?_)
  refine cw_block ?_
  refine cw_loop (fun mm l1 w1 => (mm = 1 ∧ l1 = [(1, .pointer (some ⟨b1, 0, none⟩)), (3, .slice (some ⟨bo, 0, none⟩) 1 1), (21, .slice aa 1 ac), (22, .int .i64 ((1 : Nat) : Int)), (23, .int .i64 0)] ∧ Step Nope M w Ma w1 ∧ PRep 251 260 Ma (.node (2, 0) []) qy ∧ Buf w1 Ma 79 1 (.slice aa 1 ac) 1 (ptrs [qy]) ∧ Own w1 Ma bo [.string ⟨[49, 58, 48].toArray⟩] 9) ∨ (mm = 0 ∧ ∃ (g sc : Nat), l1 = [(1, .pointer (some ⟨b1, 0, none⟩)), (3, .slice (some ⟨g, 0, none⟩) 2 sc), (21, .slice aa 1 ac), (22, .int .i64 ((1 : Nat) : Int)), (23, .int .i64 1)] ∧ Step Nope M w Ma w1 ∧ Buf w1 Ma 9 1 (.slice (some ⟨g, 0, none⟩) 2 sc) 2 [.string ⟨[49, 58, 48].toArray⟩, .string ⟨[40, 50, 58, 48, 41].toArray⟩])) (1) [(1, .pointer (some ⟨b1, 0, none⟩)), (3, .slice (some ⟨bo, 0, none⟩) 1 1), (21, .slice aa 1 ac), (22, .int .i64 ((1 : Nat) : Int)), (23, .int .i64 0)] (.cons rfl (.cons rfl (.cons rfl (.cons rfl (.cons rfl (.nil _)))))) ?_ ?_
  · skip
    exact .inl ⟨rfl, rfl, hT, hky, hba, hoo⟩
  have hbow : w.heap.size ≤ bo := by omega
  have hfa2 : ∀ g, (Value.slice aa 1 ac).ownBlock = some g → g ≠ bo := fun g hg => by have := hfa g hg; omega
  clear hT hoo hba hky
  rintro mm l1 w1 (⟨rfl, rfl, hT, hky, hba, hoo⟩ | ⟨rfl, g, sc, rfl, hT, hbb⟩)
  · skip
    obtain ⟨ga, ca, hqa⟩ := hba.head0 (by decide)
    cases hqa
    have hlo1 := hoo.1.lt
    refine cw_rs fun _ κ => ?_
    refine as_q rfl rfl (q_lt rfl rfl) ?_
    refine as_nil (κ _ _ ?_)
    refine cw_seq fun _ hK8 => ?_
    refine cw_true rfl ?_
    refine cw_skip ?_
    refine hK8 _ _ ?_
    refine cw_seq fun _ hK9 => ?_
    refine cw_block ?_
    refine cw_rs fun _ κ => ?_
    refine as_q rfl rfl (q_indexAddr (e := 79) (size := 1) (by kernel_rfl) (by kernel_rfl) rfl rfl (by omega) (by omega)) ?_
    refine Sc 1 rfl (by kernel_rfl) rfl (cells_one (Buf.cell hba (u := .pointer qy) (j := (0 : Int).toNat * 1) rfl)) ?_
    have hbal := hba.lt
    have hqax := hT.size
    refine as_h rfl (h_allocO (z := (.agg #[(.pointer none)])) hT.sat (by kernel_rfl) rfl fun bx w5 hs5 hox ex => ?_)
    replace hky := hky.mono hs5.le
    replace hoo := hoo.then hs5
    replace hT := hT.then hs5
    have hz5 := hs5.size
    have hlx := hox.1.lt
    refine as_h0 (h_store hs5.sat hox rfl rfl rfl (by kernel_rfl) rfl rfl rfl fun w6 hs6 hn6 => ?_)
    replace hky := hky.mono hs6.le
    replace hoo := hoo.step hs6 (fun h => by have h : _ = _ := h; omega)
    clear hox; have hox := hn6; clear hn6
    replace hT := hT.own hs6 (by omega)
    have hz6 := hs6.size
    refine as_nil (κ _ _ ?_)
    refine cw_region fun _ κ => ?_
    refine Sm rfl rfl ?_
    refine Sc 1 rfl (by kernel_rfl) rfl (by exact Blk.cells hox.1 rfl) ?_
    refine as_h rfl (h_call (by kernel_rfl) rfl ?_)
    refine (p_show_leaf hs6.sat hky).mono ?_
    rintro _ w7 ⟨rfl, hs7⟩
    replace hoo := hoo.then hs7
    replace hT := hT.then hs7
    have hz7 := hs7.size
    refine as_h rfl (h_buildO (e := 9) (size := 1) (zs := [.string ⟨#[]⟩]) (cs := [_]) (by kernel_rfl) (by kernel_rfl) (by kernel_rfl) rfl hs7.sat rfl rfl fun bn w8 hs8 hon en => ?_)
    replace hoo := hoo.then hs8
    replace hT := hT.then hs8
    have hz8 := hs8.size
    have hln := hon.1.lt
    have hbb0 := Own.buf hoo (n := 1) (size := 1) rfl (by decide)
    have hrn := Buf.rd (Own.buf hon (n := 1) (size := 1) rfl (by decide))
    have hTq := hT.size
    refine as_h rfl (h_append (e := 9) (size := 1) (bytes := 16) (by kernel_rfl) hs8.sat hbb0 hrn rfl rfl (fun y hy => by obtain rfl := List.mem_singleton.1 hy; rfl) (by omega) rfl fun sv w9 hs9 hbb hor => ?_)
    replace hT := hT.trans hs9 (fun k hk h => by have h2 : bo = k := Option.some.inj h; omega)
    obtain ⟨g, sc, rfl⟩ := hbb.head0 (by decide)
    have hz_ := hs9.size
    refine Sa rfl rfl ?_
    refine as_nil (κ _ _ ?_)
    refine hK9 _ _ ?_
    refine cw_region fun _ κ => ?_
    refine as_q rfl rfl (q_addx rfl rfl (by omega) (by omega)) ?_
    refine Sm rfl rfl ?_
    refine as_nil (κ _ _ ?_)
    refine ⟨_, _, ?_, (.cons rfl (.cons rfl (.cons rfl (.cons rfl (.cons rfl (.nil _)))))), .inr ⟨rfl, g, _, rfl, hT, hbb⟩⟩
    omega
  · skip
    refine cw_rs fun _ κ => ?_
    refine as_q rfl rfl (q_lt rfl rfl) ?_
    refine as_nil (κ _ _ ?_)
    refine cw_seq fun _ hK14 => ?_
    refine cw_false rfl ?_
    refine cw_exit ?_
    refine hK5 _ _ ?_
    refine cw_rs fun _ κ => ?_
    refine Sm rfl rfl ?_
    refine as_h rfl (h_call (by kernel_rfl) rfl ?_)
    refine (join_2 hT.sat hbb (by decide)).mono ?_
    rintro _ w10 ⟨rfl, hs10⟩
    replace hT := hT.then hs10
    have hz10 := hs10.size
    refine as_q rfl rfl (q_catL (show _ = some (Value.string ⟨[40].toArray⟩) from rfl) rfl (by decide)) ?_
    refine as_q rfl rfl (q_catL rfl (show _ = some (Value.string ⟨[41].toArray⟩) from rfl) (by decide)) ?_
    refine Sa rfl rfl ?_
    refine as_nil (κ _ _ ?_)
    refine cw_ret ?_
    exact ⟨_, (res_tmp rfl res_nil), rfl, hT.forget⟩
theorem wc_show {w : World} {M : Mem} {q : Option Addr} (hs : Sat M w) (h : PRep 251 260 M (.node (1, 0) [.node (2, 0) []]) q) :
    Does Tryz.prog 180 #[.agg #[.pointer q]] w (fun v w' => v = .string ⟨[40, 49, 58, 48, 32, 40, 50, 58, 48, 41, 41].toArray⟩ ∧ Step Nope M w M w') := by
  have hT := Step.refl Nope hs
  refine fn_enter Tryz.func180 rfl (rs := [.tmp 2]) rfl rfl rfl rfl ?_
  refine cw_rs fun _ κ => ?_
  refine as_h rfl (h_boxM hs rfl rfl fun b1 M1 w1 hs1 hb1 e1 => ?_)
  replace h := h.mono hs1.le
  replace hT := hT.then hs1
  refine Sa rfl rfl ?_
  refine as_nil (κ _ _ ?_)
  refine cw_rs fun _ κ => ?_
  refine Sf 0 rfl (by kernel_rfl) rfl ?_
  refine Sc 1 rfl (by kernel_rfl) rfl (by exact BlkR.cells (hs1.sat _ _ _ hb1) rfl) ?_
  refine as_q rfl rfl (q_iface (by kernel_rfl) rfl) ?_
  refine as_h rfl (h_invoke (f := 165) (r := .agg #[.pointer q]) (by kernel_rfl) rfl rfl (by kernel_rfl) ?_)
  refine (p_show_one hs1.sat h).mono ?_
  rintro _ w2 ⟨rfl, hs2⟩
  replace h := h.mono hs2.le
  replace hT := hT.then hs2
  refine Sa rfl rfl ?_
  refine as_nil (κ _ _ ?_)
  refine cw_ret ?_
  exact ⟨_, (res_tmp rfl res_nil), rfl, hT.forget⟩
theorem hp_show_c {w : World} {M : Mem} {q : Option Addr} (hs : Sat M w) (h : PRep 251 260 M (.node (1, 0) [.node (2, 0) []]) q) :
    Does Tryz.prog 31 #[.agg #[.iface 81 (.agg #[.pointer q])]] w (fun v w' => v = .string ⟨[40, 49, 58, 48, 32, 40, 50, 58, 48, 41, 41].toArray⟩ ∧ Step Nope M w M w') := by
  have hT := Step.refl Nope hs
  refine fn_enter Tryz.func31 rfl (rs := [.tmp 2]) rfl rfl rfl rfl ?_
  refine cw_rs fun _ κ => ?_
  refine as_h rfl (h_boxM hs rfl rfl fun b1 M1 w1 hs1 hb1 e1 => ?_)
  replace h := h.mono hs1.le
  replace hT := hT.then hs1
  refine Sa rfl rfl ?_
  refine as_nil (κ _ _ ?_)
  refine cw_seq fun _ hK2 => ?_
  refine cw_rs fun _ κ => ?_
  refine Sf 0 rfl (by kernel_rfl) rfl ?_
  refine S1 rfl (by kernel_rfl) rfl (by exact BlkR.cell (hs1.sat _ _ _ hb1) rfl) ?_
  refine as_q rfl rfl (q_ifSome (by kernel_rfl) rfl) ?_
  refine as_nil (κ _ _ ?_)
  refine cw_false rfl ?_
  refine cw_skip ?_
  refine hK2 _ _ ?_
  refine cw_rs fun _ κ => ?_
  refine Sf 0 rfl (by kernel_rfl) rfl ?_
  refine S1 rfl (by kernel_rfl) rfl (by exact BlkR.cell (hs1.sat _ _ _ hb1) rfl) ?_
  refine as_h rfl (h_invoke (f := 180) (r := .agg #[.pointer q]) (by kernel_rfl) rfl rfl (by kernel_rfl) ?_)
  refine (wc_show hs1.sat h).mono ?_
  rintro _ w2 ⟨rfl, hs2⟩
  replace h := h.mono hs2.le
  replace hT := hT.then hs2
  refine Sa rfl rfl ?_
  refine as_nil (κ _ _ ?_)
  refine cw_ret ?_
  exact ⟨_, (res_tmp rfl res_nil), rfl, hT.forget⟩
theorem two_shape {M : Mem} {t : Pr} {q : Option Addr} (h : PRep 251 260 M t q) (hok : t.ok) (hl : [((1, 0) : El), (2, 0)] = srtE t.els) : t = (.node (1, 0) [.node (2, 0) []]) := by
  cases t with
  | nil => simp only [Pr.els] at hl; cases hl
  | node x ks =>
    have hok' : AllGe x (Pr.elsL ks) ∧ Pr.okL ks := by simpa only [Pr.ok] using hok
    have he := els_pop hl (by simp only [Pr.els]; exact .refl _) hok'.1
    obtain ⟨b, kq, al, rfl, hb, hc, hk⟩ := prep_node.1 h
    cases ks with
    | nil => simp only [Pr.elsL] at he; cases he.2
    | cons k r =>
      obtain ⟨hk0, a, s, rfl, hka, hkr⟩ := preps_cons.1 hk
      cases k with
      | nil => exact absurd rfl hk0
      | node y ls =>
        have hln := congrArg List.length he.2
        rw [srtE_length] at hln
        simp only [Pr.elsL, Pr.els, List.length_append, List.length_cons, List.length_nil] at hln
        obtain ⟨_, _, l2, _, _, _, hkl⟩ := prep_node.1 hka
        have h1 := hkl.small
        have h2 := hkr.small
        have h3 := hkl.length
        have h4 := hkr.length
        rw [← Pr.elsL_size] at h1 h2
        obtain rfl : ls = [] := List.eq_nil_of_length_eq_zero (by omega)
        obtain rfl : r = [] := List.eq_nil_of_length_eq_zero (by omega)
        have h5 : [((2, 0) : El)] = srtE [y] := by simpa only [Pr.elsL, Pr.els, List.append_nil] using he.2
        have h6 : srtE [y] = [y] := srtE_sorted (List.pairwise_singleton _ _)
        rw [h6] at h5
        obtain rfl := (List.cons.inj h5).1
        obtain rfl := he.1
        rfl
theorem hp_show_two {w : World} {M : Mem} {v : Value} (hs : Sat M w) (h : HVal M 3 [(1, 0), (2, 0)] v) :
    Does Tryz.prog 31 #[.agg #[v]] w (fun v w' => v = .string ⟨[40, 49, 58, 48, 32, 40, 50, 58, 48, 41, 41].toArray⟩ ∧ Step Nope M w M w') := by
  cases h with
  | c h hok hl => obtain rfl := two_shape h hok hl; exact hp_show_c hs h
end Go.Proofs.YtgcgjpfjjgalmaaGreat
/- The document s example of layer 15, part 1. -/
namespace Go.Proofs.YtgcgjpfjjgalmaaGreat
open Go Go.Eng
theorem of_two {w : World} {M : Mem} {z : Int} {b : Nat} (hs : Sat M w) (ho : Own w M b [.int .i64 2, .int .i64 0, .int .i64 1, .int .i64 0] 24) (hz : 1 ≤ z ∧ z ≤ 6) :
    Does Tryz.prog 11 #[.pointer none, .int .i64 z, .slice (some ⟨b, 0, none⟩) 2 2] w (fun r w' => ∃ v' M', r = .tuple #[.agg #[v'], .int .i64 0] ∧ Step Nope M w M' w' ∧ HVal M' z.toNat [((1, 0) : El), (2, 0)] v') := by
  have hb : Buf w M 24 2 (.slice (some ⟨b, 0, none⟩) 2 2) 2 (els [((2, 0) : El), (1, 0)]) := Own.buf ho (n := 2) rfl (by decide)
  refine (hp_of (z := z) hs hb.rds (by decide)).mono ?_
  rintro r w' ⟨v, M', h1, h2, h3⟩
  refine ⟨v, M', by rw [h1, emE, if_pos hz], h2, ?_⟩
  rw [emK, if_pos hz, ofL, if_pos hz, show srtE [((2, 0) : El), (1, 0)] = [((1, 0) : El), (2, 0)] by decide] at h3
  exact h3
theorem awake15 {w : World} {M : Mem} (hs : Sat M w) :
    Does Tryz.prog 24 #[] w (fun v w' => v = .bool true ∧ Step Nope M w M w') := by
  have hT := Step.refl Nope hs
  refine fn_enter Tryz.func24 rfl (rs := [.tmp 0]) rfl rfl rfl rfl ?_
  refine cw_rs fun _ κ => ?_
  refine Sa rfl rfl ?_
  refine as_nil (κ _ _ ?_)
  refine cw_rs fun _ κ => ?_
  refine as_q rfl rfl (q_build (zs := [(.int .i64 0), (.int .i64 0)]) (places := [(0, 1), (1, 1)]) (cs := [_, _]) (by kernel_rfl) (by kernel_rfl) rfl rfl) ?_
  refine as_q rfl rfl (q_build (zs := [(.int .i64 0), (.int .i64 0)]) (places := [(0, 1), (1, 1)]) (cs := [_, _]) (by kernel_rfl) (by kernel_rfl) rfl rfl) ?_
  refine as_h rfl (h_buildO (e := 24) (size := 2) (zs := [.int .i64 0, .int .i64 0, .int .i64 0, .int .i64 0]) (cs := [_, _, _, _]) (by kernel_rfl) (by kernel_rfl) (by kernel_rfl) rfl hs rfl rfl fun bp w1 hs1 hop ep => ?_)
  replace hT := hT.then hs1
  have hz1 := hs1.size
  refine as_h rfl (h_call (by kernel_rfl) rfl ?_)
  refine (of_two (z := 1) hs1.sat hop (by decide)).mono ?_
  rintro _ w2 ⟨va, Ma, rfl, hs2, ha⟩
  replace hT := hT.then hs2
  have hz2 := hs2.size
  obtain ⟨da, ua, rfl⟩ := ha.iface (by decide)
  refine Sm rfl rfl ?_
  refine Se rfl rfl rfl ?_
  refine Se rfl rfl rfl ?_
  have hqaa := hT.size
  refine as_h rfl (h_allocO (z := (.agg #[.nilIface])) hs2.sat (by kernel_rfl) rfl fun ba w3 hs3 hoa ea => ?_)
  replace ha := ha.mono hs3.le
  replace hT := hT.then hs3
  have hz3 := hs3.size
  have hla := hoa.1.lt
  refine as_h0 (h_store hs3.sat hoa rfl rfl rfl (by kernel_rfl) rfl rfl rfl fun w4 hs4 hn4 => ?_)
  replace ha := ha.mono hs4.le
  clear hoa; have hoa := hn4; clear hn4
  replace hT := hT.own hs4 (by omega)
  have hz4 := hs4.size
  refine Sa rfl rfl ?_
  refine as_nil (κ _ _ ?_)
  refine cw_rs fun _ κ => ?_
  refine as_q rfl rfl (q_build (zs := [(.int .i64 0), (.int .i64 0)]) (places := [(0, 1), (1, 1)]) (cs := [_, _]) (by kernel_rfl) (by kernel_rfl) rfl rfl) ?_
  refine as_q rfl rfl (q_build (zs := [(.int .i64 0), (.int .i64 0)]) (places := [(0, 1), (1, 1)]) (cs := [_, _]) (by kernel_rfl) (by kernel_rfl) rfl rfl) ?_
  refine as_h rfl (h_buildO (e := 24) (size := 2) (zs := [.int .i64 0, .int .i64 0, .int .i64 0, .int .i64 0]) (cs := [_, _, _, _]) (by kernel_rfl) (by kernel_rfl) (by kernel_rfl) rfl hs4.sat rfl rfl fun bq w5 hs5 hoq eq => ?_)
  replace ha := ha.mono hs5.le
  replace hoa := hoa.then hs5
  replace hT := hT.then hs5
  have hz5 := hs5.size
  refine as_h rfl (h_call (by kernel_rfl) rfl ?_)
  refine (of_two (z := 3) hs5.sat hoq (by decide)).mono ?_
  rintro _ w6 ⟨vb, Mb, rfl, hs6, hb⟩
  replace ha := ha.mono hs6.le
  replace hoa := hoa.then hs6
  replace hT := hT.then hs6
  have hz6 := hs6.size
  obtain ⟨db, ub, rfl⟩ := hb.iface (by decide)
  refine Sm rfl rfl ?_
  refine Se rfl rfl rfl ?_
  refine Se rfl rfl rfl ?_
  have hqab := hT.size
  refine as_h rfl (h_allocO (z := (.agg #[.nilIface])) hs6.sat (by kernel_rfl) rfl fun bb w7 hs7 hob eb => ?_)
  replace ha := ha.mono hs7.le
  replace hoa := hoa.then hs7
  replace hb := hb.mono hs7.le
  replace hT := hT.then hs7
  have hz7 := hs7.size
  have hlb := hob.1.lt
  refine as_h0 (h_store hs7.sat hob rfl rfl rfl (by kernel_rfl) rfl rfl rfl fun w8 hs8 hn8 => ?_)
  replace ha := ha.mono hs8.le
  replace hoa := hoa.step hs8 (fun h => by have h : _ = _ := h; omega)
  replace hb := hb.mono hs8.le
  clear hob; have hob := hn8; clear hn8
  replace hT := hT.own hs8 (by omega)
  have hz8 := hs8.size
  refine Sa rfl rfl ?_
  refine as_nil (κ _ _ ?_)
  refine cw_rs fun _ κ => ?_
  refine Sc 1 rfl (by kernel_rfl) rfl (by exact Blk.cells hoa.1 rfl) ?_
  refine Sc 1 rfl (by kernel_rfl) rfl (by exact Blk.cells hob.1 rfl) ?_
  refine as_h rfl (h_call (by kernel_rfl) rfl ?_)
  refine (hp_meld hs8.sat ha hb (by decide)).mono ?_
  rintro _ w9 ⟨vg, Mg, hrg, hs9, hg⟩
  rw [show melE (Int.toNat 1) (Int.toNat 3) = 22 by decide] at hrg
  subst hrg
  replace ha := ha.mono hs9.le
  replace hoa := hoa.then hs9
  replace hb := hb.mono hs9.le
  replace hob := hob.then hs9
  replace hT := hT.then hs9
  have hz9 := hs9.size
  obtain ⟨_, rfl⟩ := hg.zero
  refine Sm rfl rfl ?_
  refine Se rfl rfl rfl ?_
  refine Se rfl rfl rfl ?_
  have hqag := hT.size
  refine as_h rfl (h_allocO (z := (.agg #[.nilIface])) hs9.sat (by kernel_rfl) rfl fun bg w10 hs10 hog eg => ?_)
  replace ha := ha.mono hs10.le
  replace hoa := hoa.then hs10
  replace hb := hb.mono hs10.le
  replace hob := hob.then hs10
  replace hT := hT.then hs10
  have hz10 := hs10.size
  have hlg := hog.1.lt
  refine as_h0 (h_store hs10.sat hog rfl rfl rfl (by kernel_rfl) rfl rfl rfl fun w11 hs11 hn11 => ?_)
  replace ha := ha.mono hs11.le
  replace hoa := hoa.step hs11 (fun h => by have h : _ = _ := h; omega)
  replace hb := hb.mono hs11.le
  replace hob := hob.step hs11 (fun h => by have h : _ = _ := h; omega)
  clear hog; have hog := hn11; clear hn11
  replace hT := hT.own hs11 (by omega)
  have hz11 := hs11.size
  refine Sa rfl rfl ?_
  refine as_nil (κ _ _ ?_)
  refine cw_rs fun _ κ => ?_
  refine Sc 1 rfl (by kernel_rfl) rfl (by exact Blk.cells hoa.1 rfl) ?_
  refine as_h rfl (h_call (by kernel_rfl) rfl ?_)
  refine (hp_min hs11.sat ha (by decide)).mono ?_
  rintro _ w12 ⟨hrm, hs12⟩
  rw [show fullE (Int.toNat 1) [((1, 0) : El), (2, 0)] = 0 by decide] at hrm
  subst hrm
  replace ha := ha.mono hs12.le
  replace hoa := hoa.then hs12
  replace hb := hb.mono hs12.le
  replace hob := hob.then hs12
  replace hT := hT.then hs12
  have hz12 := hs12.size
  refine Sm rfl rfl ?_
  refine Se rfl rfl rfl ?_
  refine Se rfl rfl rfl ?_
  have hqax := hT.size
  refine as_h rfl (h_allocO (z := (.agg #[(.int .i64 0), (.int .i64 0)])) hs12.sat (by kernel_rfl) rfl fun bx w13 hs13 hox ex => ?_)
  replace ha := ha.mono hs13.le
  replace hoa := hoa.then hs13
  replace hb := hb.mono hs13.le
  replace hob := hob.then hs13
  replace hT := hT.then hs13
  have hz13 := hs13.size
  have hlx := hox.1.lt
  refine as_h0 (h_store hs13.sat hox rfl rfl rfl (by kernel_rfl) rfl rfl rfl fun w14 hs14 hn14 => ?_)
  replace ha := ha.mono hs14.le
  replace hoa := hoa.step hs14 (fun h => by have h : _ = _ := h; omega)
  replace hb := hb.mono hs14.le
  replace hob := hob.step hs14 (fun h => by have h : _ = _ := h; omega)
  clear hox; have hox := hn14; clear hn14
  replace hT := hT.own hs14 (by omega)
  have hz14 := hs14.size
  refine Sa rfl rfl ?_
  refine as_nil (κ _ _ ?_)
  refine cw_rs fun _ κ => ?_
  refine as_h rfl (h_call (by kernel_rfl) rfl ?_)
  refine (hp_empty (z := 6) hs14.sat).mono ?_
  rintro _ w15 ⟨vc, Mc, hrc, hs15, hc⟩
  rw [show emE 6 = 0 by decide] at hrc
  rw [show emK 6 = 6 by decide] at hc
  subst hrc
  replace ha := ha.mono hs15.le
  replace hoa := hoa.then hs15
  replace hb := hb.mono hs15.le
  replace hob := hob.then hs15
  replace hox := hox.then hs15
  replace hT := hT.then hs15
  have hz15 := hs15.size
  obtain ⟨dc, uc, rfl⟩ := hc.iface (by decide)
  refine Sm rfl rfl ?_
  refine Se rfl rfl rfl ?_
  refine Se rfl rfl rfl ?_
  have hqac := hT.size
  refine as_h rfl (h_allocO (z := (.agg #[.nilIface])) hs15.sat (by kernel_rfl) rfl fun bc w16 hs16 hoc ec => ?_)
  replace ha := ha.mono hs16.le
  replace hoa := hoa.then hs16
  replace hb := hb.mono hs16.le
  replace hob := hob.then hs16
  replace hox := hox.then hs16
  replace hc := hc.mono hs16.le
  replace hT := hT.then hs16
  have hz16 := hs16.size
  have hlc := hoc.1.lt
  refine as_h0 (h_store hs16.sat hoc rfl rfl rfl (by kernel_rfl) rfl rfl rfl fun w17 hs17 hn17 => ?_)
  replace ha := ha.mono hs17.le
  replace hoa := hoa.step hs17 (fun h => by have h : _ = _ := h; omega)
  replace hb := hb.mono hs17.le
  replace hob := hob.step hs17 (fun h => by have h : _ = _ := h; omega)
  replace hox := hox.step hs17 (fun h => by have h : _ = _ := h; omega)
  replace hc := hc.mono hs17.le
  clear hoc; have hoc := hn17; clear hn17
  replace hT := hT.own hs17 (by omega)
  have hz17 := hs17.size
  refine Sa rfl rfl ?_
  refine as_nil (κ _ _ ?_)
  refine cw_rs fun _ κ => ?_
  refine Sc 1 rfl (by kernel_rfl) rfl (by exact Blk.cells hoc.1 rfl) ?_
  refine as_h rfl (h_call (by kernel_rfl) rfl ?_)
  refine (hp_pop_0 hs17.sat hc).mono ?_
  rintro _ w18 ⟨vj, Mj, hrj, hs18, hj⟩
  rw [show fullE 6 [] = 23 by decide] at hrj
  subst hrj
  replace ha := ha.mono hs18.le
  replace hoa := hoa.then hs18
  replace hb := hb.mono hs18.le
  replace hob := hob.then hs18
  replace hox := hox.then hs18
  replace hc := hc.mono hs18.le
  replace hoc := hoc.then hs18
  replace hT := hT.then hs18
  have hz18 := hs18.size
  obtain ⟨_, rfl⟩ := hj.zero
  refine Sm rfl rfl ?_
  refine Se rfl rfl rfl ?_
  refine Se rfl rfl rfl ?_
  have hqaj := hT.size
  refine as_h rfl (h_allocO (z := (.agg #[.nilIface])) hs18.sat (by kernel_rfl) rfl fun bj w19 hs19 hoj ej => ?_)
  replace ha := ha.mono hs19.le
  replace hoa := hoa.then hs19
  replace hb := hb.mono hs19.le
  replace hob := hob.then hs19
  replace hox := hox.then hs19
  replace hc := hc.mono hs19.le
  replace hoc := hoc.then hs19
  replace hT := hT.then hs19
  have hz19 := hs19.size
  have hlj := hoj.1.lt
  refine as_h0 (h_store hs19.sat hoj rfl rfl rfl (by kernel_rfl) rfl rfl rfl fun w20 hs20 hn20 => ?_)
  replace ha := ha.mono hs20.le
  replace hoa := hoa.step hs20 (fun h => by have h : _ = _ := h; omega)
  replace hb := hb.mono hs20.le
  replace hob := hob.step hs20 (fun h => by have h : _ = _ := h; omega)
  replace hox := hox.step hs20 (fun h => by have h : _ = _ := h; omega)
  replace hc := hc.mono hs20.le
  replace hoc := hoc.step hs20 (fun h => by have h : _ = _ := h; omega)
  clear hoj; have hoj := hn20; clear hn20
  replace hT := hT.own hs20 (by omega)
  have hz20 := hs20.size
  refine Sa rfl rfl ?_
  refine as_nil (κ _ _ ?_)
  refine cw_rs fun _ κ => ?_
  refine as_h rfl (h_call (by kernel_rfl) rfl ?_)
  refine (hp_empty (z := 7) hs20.sat).mono ?_
  rintro _ w21 ⟨vk, Mk, hrk, hs21, hk⟩
  rw [show emE 7 = 22 by decide] at hrk
  rw [show emK 7 = 0 by decide] at hk
  subst hrk
  replace ha := ha.mono hs21.le
  replace hoa := hoa.then hs21
  replace hb := hb.mono hs21.le
  replace hob := hob.then hs21
  replace hox := hox.then hs21
  replace hc := hc.mono hs21.le
  replace hoc := hoc.then hs21
  replace hT := hT.then hs21
  have hz21 := hs21.size
  obtain ⟨_, rfl⟩ := hk.zero
  refine Sm rfl rfl ?_
  refine Se rfl rfl rfl ?_
  refine Se rfl rfl rfl ?_
  have hqak := hT.size
  refine as_h rfl (h_allocO (z := (.agg #[.nilIface])) hs21.sat (by kernel_rfl) rfl fun bk w22 hs22 hok ek => ?_)
  replace ha := ha.mono hs22.le
  replace hoa := hoa.then hs22
  replace hb := hb.mono hs22.le
  replace hob := hob.then hs22
  replace hox := hox.then hs22
  replace hc := hc.mono hs22.le
  replace hoc := hoc.then hs22
  replace hT := hT.then hs22
  have hz22 := hs22.size
  have hlk := hok.1.lt
  refine as_h0 (h_store hs22.sat hok rfl rfl rfl (by kernel_rfl) rfl rfl rfl fun w23 hs23 hn23 => ?_)
  replace ha := ha.mono hs23.le
  replace hoa := hoa.step hs23 (fun h => by have h : _ = _ := h; omega)
  replace hb := hb.mono hs23.le
  replace hob := hob.step hs23 (fun h => by have h : _ = _ := h; omega)
  replace hox := hox.step hs23 (fun h => by have h : _ = _ := h; omega)
  replace hc := hc.mono hs23.le
  replace hoc := hoc.step hs23 (fun h => by have h : _ = _ := h; omega)
  clear hok; have hok := hn23; clear hn23
  replace hT := hT.own hs23 (by omega)
  have hz23 := hs23.size
  refine Sa rfl rfl ?_
  refine as_nil (κ _ _ ?_)
  refine cw_rs fun _ κ => ?_
  refine Sm rfl rfl ?_
  refine as_q rfl rfl (q_eqT rfl rfl (by omega)) ?_
  refine Sm rfl rfl ?_
  refine as_gh rfl rfl rfl rfl (h_q rfl (q_move rfl) ?_)
  refine as_gh rfl rfl rfl rfl (h_q rfl (q_eqT rfl rfl (by omega)) ?_)
  refine as_q rfl rfl (q_pick_t rfl rfl) ?_
  refine Sm rfl rfl ?_
  refine as_gh rfl rfl rfl rfl (h_q rfl (q_move rfl) ?_)
  refine as_gh rfl rfl rfl rfl (h_q rfl (q_eqT rfl rfl (by omega)) ?_)
  refine as_q rfl rfl (q_pick_t rfl rfl) ?_
  refine Sm rfl rfl ?_
  refine as_gh rfl rfl rfl rfl (h_q rfl (q_move rfl) ?_)
  refine as_gh rfl rfl rfl rfl (h_q rfl (q_eqT rfl rfl (by omega)) ?_)
  refine as_q rfl rfl (q_pick_t rfl rfl) ?_
  refine Sm rfl rfl ?_
  refine as_gh rfl rfl rfl rfl (h_q rfl (q_fieldAddr (off := 0) (by kernel_rfl) rfl) ?_)
  refine as_gh rfl rfl rfl rfl (h_q rfl (q_load1 (by kernel_rfl) rfl (by exact Blk.cell hox.1 rfl)) ?_)
  refine as_gh rfl rfl rfl rfl (h_q rfl (q_eq rfl rfl) ?_)
  refine as_q rfl rfl (q_pick_t rfl rfl) ?_
  refine Sm rfl rfl ?_
  refine as_gh rfl rfl rfl rfl (h_q rfl (q_move rfl) ?_)
  refine as_gh rfl rfl rfl rfl (h_q rfl (q_eqT rfl rfl (by omega)) ?_)
  refine as_q rfl rfl (q_pick_t rfl rfl) ?_
  refine Sm rfl rfl ?_
  refine as_gh rfl rfl rfl rfl (h_q rfl (q_move rfl) ?_)
  refine as_gh rfl rfl rfl rfl (h_q rfl (q_eqT rfl rfl (by omega)) ?_)
  refine as_q rfl rfl (q_pick_t rfl rfl) ?_
  refine Sm rfl rfl ?_
  refine as_gh rfl rfl rfl rfl (h_q rfl (q_move rfl) ?_)
  refine as_gh rfl rfl rfl rfl (h_q rfl (q_eqT rfl rfl (by omega)) ?_)
  refine as_q rfl rfl (q_pick_t rfl rfl) ?_
  refine Sm rfl rfl ?_
  refine as_gh rfl rfl rfl rfl (h_q rfl (q_loadc (n := 1) (by kernel_rfl) rfl (by exact Blk.cells hoc.1 rfl)) ?_)
  refine as_gh rfl rfl rfl rfl (h_call (by kernel_rfl) rfl ?_)
  refine (hp_kind hs23.sat hc).mono ?_
  rintro _ w24 ⟨rfl, hs24⟩
  replace ha := ha.mono hs24.le
  replace hoa := hoa.then hs24
  replace hb := hb.mono hs24.le
  replace hob := hob.then hs24
  replace hT := hT.then hs24
  have hz24 := hs24.size
  refine as_gh rfl rfl rfl rfl (h_q rfl (q_eqT rfl rfl (by omega)) ?_)
  refine as_q rfl rfl (q_pick_t rfl rfl) ?_
  refine Sm rfl rfl ?_
  refine as_gh rfl rfl rfl rfl (h_q rfl (q_loadc (n := 1) (by kernel_rfl) rfl (by exact Blk.cells hoa.1 rfl)) ?_)
  refine as_gh rfl rfl rfl rfl (h_call (by kernel_rfl) rfl ?_)
  refine (hp_size hs24.sat ha (by decide)).mono ?_
  rintro _ w25 ⟨rfl, hs25⟩
  replace hb := hb.mono hs25.le
  replace hob := hob.then hs25
  replace hT := hT.then hs25
  have hz25 := hs25.size
  refine as_gh rfl rfl rfl rfl (h_q rfl (q_eq rfl rfl) ?_)
  refine as_q rfl rfl (q_pick_t rfl rfl) ?_
  refine Sm rfl rfl ?_
  refine as_gh rfl rfl rfl rfl (h_q rfl (q_loadc (n := 1) (by kernel_rfl) rfl (by exact Blk.cells hob.1 rfl)) ?_)
  refine as_gh rfl rfl rfl rfl (h_call (by kernel_rfl) rfl ?_)
  refine (hp_show_two hs25.sat hb).mono ?_
  rintro _ w26 ⟨rfl, hs26⟩
  replace hT := hT.then hs26
  have hz26 := hs26.size
  refine as_gh rfl rfl rfl rfl (h_q rfl (q_congr (q_eqL rfl (show _ = some (Value.string ⟨[40, 49, 58, 48, 32, 40, 50, 58, 48, 41, 41].toArray⟩) from rfl)) (v' := .bool true) (congrArg Value.bool (by decide))) ?_)
  refine as_q rfl rfl (q_pick_t rfl rfl) ?_
  refine Sa rfl rfl ?_
  refine as_nil (κ _ _ ?_)
  refine cw_ret ?_
  exact ⟨_, (res_tmp rfl res_nil), rfl, hT.forget⟩
end Go.Proofs.YtgcgjpfjjgalmaaGreat
/- The reference of elements, part 1. -/
namespace Go.Proofs.YtgcgjpfjjgalmaaGreat
open Go Go.Eng
theorem ref_less {w : World} {M : Mem} {a b : El} (hs : Sat M w) :
    Does Tryz.prog 41 #[.agg (elc a).toArray, .agg (elc b).toArray] w (fun v w' => v = .bool (ltE a b) ∧ Step Nope M w M w') := by
  have hT := Step.refl Nope hs
  refine fn_enter Tryz.func41 rfl (rs := [.tmp 4]) rfl rfl rfl rfl ?_
  refine cw_rs fun _ κ => ?_
  have hqa1 := hT.size
  refine as_h rfl (h_boxO hs rfl rfl fun b1 w1 hs1 ho1 e1 => ?_)
  replace hT := hT.then hs1
  have hz1 := hs1.size
  have hl1 := ho1.1.lt
  have hqa2 := hT.size
  refine as_h rfl (h_boxO hs1.sat rfl rfl fun b2 w2 hs2 ho2 e2 => ?_)
  replace ho1 := ho1.then hs2
  replace hT := hT.then hs2
  have hz2 := hs2.size
  have hl2 := ho2.1.lt
  refine Sa rfl rfl ?_
  refine as_nil (κ _ _ ?_)
  have hc3 : a.1 < b.1 ∨ (¬ a.1 < b.1 ∧ a.1 = b.1 ∧ a.2 < b.2) ∨ (¬ a.1 < b.1 ∧ a.1 = b.1 ∧ ¬ a.2 < b.2) ∨ (¬ a.1 < b.1 ∧ a.1 ≠ b.1) := by omega
  rcases hc3 with h1 | ⟨h1, h2, h3⟩ | ⟨h1, h2, h3⟩ | ⟨h1, h2⟩
  · skip
    refine cw_rs fun _ κ => ?_
    refine Sf 0 rfl (by kernel_rfl) rfl ?_
    refine S1 rfl (by kernel_rfl) rfl (by exact Blk.cell ho1.1 rfl) ?_
    refine Sf 0 rfl (by kernel_rfl) rfl ?_
    refine S1 rfl (by kernel_rfl) rfl (by exact Blk.cell ho2.1 rfl) ?_
    refine as_q rfl rfl (q_ltT rfl rfl (by omega)) ?_
    refine Sm rfl rfl ?_
    refine as_gskip rfl rfl rfl rfl rfl ?_
    refine as_gskip rfl rfl rfl rfl rfl ?_
    refine as_gskip rfl rfl rfl rfl rfl ?_
    refine as_gskip rfl rfl rfl rfl rfl ?_
    refine as_gskip rfl rfl rfl rfl rfl ?_
    refine as_gskip rfl rfl rfl rfl rfl ?_
    refine as_gskipU rfl rfl rfl rfl ?_
    refine as_gskipU rfl rfl rfl rfl ?_
    refine as_gskipU rfl rfl rfl rfl ?_
    refine as_gskipU rfl rfl rfl rfl ?_
    refine as_gskipU rfl rfl rfl rfl ?_
    refine as_gskip rfl rfl rfl rfl rfl ?_
    refine as_q rfl rfl (q_pick_t rfl rfl) ?_
    refine Sa rfl rfl ?_
    refine as_nil (κ _ _ ?_)
    refine cw_ret ?_
    exact ⟨_, (res_tmp rfl res_nil), by rw [ltE_iff.2 (by omega)]; rfl, hT.forget⟩
  · skip
    refine cw_rs fun _ κ => ?_
    refine Sf 0 rfl (by kernel_rfl) rfl ?_
    refine S1 rfl (by kernel_rfl) rfl (by exact Blk.cell ho1.1 rfl) ?_
    refine Sf 0 rfl (by kernel_rfl) rfl ?_
    refine S1 rfl (by kernel_rfl) rfl (by exact Blk.cell ho2.1 rfl) ?_
    refine as_q rfl rfl (q_ltF rfl rfl (by omega)) ?_
    refine Sm rfl rfl ?_
    refine as_gh rfl rfl rfl rfl (h_q rfl (q_fieldAddr (off := 0) (by kernel_rfl) rfl) ?_)
    refine as_gh rfl rfl rfl rfl (h_q rfl (q_load1 (by kernel_rfl) rfl (by exact Blk.cell ho1.1 rfl)) ?_)
    refine as_gh rfl rfl rfl rfl (h_q rfl (q_fieldAddr (off := 0) (by kernel_rfl) rfl) ?_)
    refine as_gh rfl rfl rfl rfl (h_q rfl (q_load1 (by kernel_rfl) rfl (by exact Blk.cell ho2.1 rfl)) ?_)
    refine as_gh rfl rfl rfl rfl (h_q rfl (q_eqT rfl rfl (by omega)) ?_)
    refine as_gh rfl rfl rfl rfl (h_q rfl (q_move rfl) ?_)
    refine as_gh rfl rfl rfl rfl (h_q rfl (q_fieldAddr (off := 1) (by kernel_rfl) rfl) ?_)
    refine as_gh rfl rfl rfl rfl (h_q rfl (q_load1 (by kernel_rfl) rfl (by exact Blk.cell ho1.1 rfl)) ?_)
    refine as_gh rfl rfl rfl rfl (h_q rfl (q_fieldAddr (off := 1) (by kernel_rfl) rfl) ?_)
    refine as_gh rfl rfl rfl rfl (h_q rfl (q_load1 (by kernel_rfl) rfl (by exact Blk.cell ho2.1 rfl)) ?_)
    refine as_gh rfl rfl rfl rfl (h_q rfl (q_ltT rfl rfl (by omega)) ?_)
    refine as_gh rfl rfl rfl rfl (h_q rfl (q_pick_t rfl rfl) ?_)
    refine as_q rfl rfl (q_pick_f rfl rfl) ?_
    refine Sa rfl rfl ?_
    refine as_nil (κ _ _ ?_)
    refine cw_ret ?_
    exact ⟨_, (res_tmp rfl res_nil), by rw [ltE_iff.2 (by omega)]; rfl, hT.forget⟩
  · skip
    refine cw_rs fun _ κ => ?_
    refine Sf 0 rfl (by kernel_rfl) rfl ?_
    refine S1 rfl (by kernel_rfl) rfl (by exact Blk.cell ho1.1 rfl) ?_
    refine Sf 0 rfl (by kernel_rfl) rfl ?_
    refine S1 rfl (by kernel_rfl) rfl (by exact Blk.cell ho2.1 rfl) ?_
    refine as_q rfl rfl (q_ltF rfl rfl (by omega)) ?_
    refine Sm rfl rfl ?_
    refine as_gh rfl rfl rfl rfl (h_q rfl (q_fieldAddr (off := 0) (by kernel_rfl) rfl) ?_)
    refine as_gh rfl rfl rfl rfl (h_q rfl (q_load1 (by kernel_rfl) rfl (by exact Blk.cell ho1.1 rfl)) ?_)
    refine as_gh rfl rfl rfl rfl (h_q rfl (q_fieldAddr (off := 0) (by kernel_rfl) rfl) ?_)
    refine as_gh rfl rfl rfl rfl (h_q rfl (q_load1 (by kernel_rfl) rfl (by exact Blk.cell ho2.1 rfl)) ?_)
    refine as_gh rfl rfl rfl rfl (h_q rfl (q_eqT rfl rfl (by omega)) ?_)
    refine as_gh rfl rfl rfl rfl (h_q rfl (q_move rfl) ?_)
    refine as_gh rfl rfl rfl rfl (h_q rfl (q_fieldAddr (off := 1) (by kernel_rfl) rfl) ?_)
    refine as_gh rfl rfl rfl rfl (h_q rfl (q_load1 (by kernel_rfl) rfl (by exact Blk.cell ho1.1 rfl)) ?_)
    refine as_gh rfl rfl rfl rfl (h_q rfl (q_fieldAddr (off := 1) (by kernel_rfl) rfl) ?_)
    refine as_gh rfl rfl rfl rfl (h_q rfl (q_load1 (by kernel_rfl) rfl (by exact Blk.cell ho2.1 rfl)) ?_)
    refine as_gh rfl rfl rfl rfl (h_q rfl (q_ltF rfl rfl (by omega)) ?_)
    refine as_gh rfl rfl rfl rfl (h_q rfl (q_pick_t rfl rfl) ?_)
    refine as_q rfl rfl (q_pick_f rfl rfl) ?_
    refine Sa rfl rfl ?_
    refine as_nil (κ _ _ ?_)
    refine cw_ret ?_
    exact ⟨_, (res_tmp rfl res_nil), by rw [ltE_not.2 (by omega)]; rfl, hT.forget⟩
  · skip
    refine cw_rs fun _ κ => ?_
    refine Sf 0 rfl (by kernel_rfl) rfl ?_
    refine S1 rfl (by kernel_rfl) rfl (by exact Blk.cell ho1.1 rfl) ?_
    refine Sf 0 rfl (by kernel_rfl) rfl ?_
    refine S1 rfl (by kernel_rfl) rfl (by exact Blk.cell ho2.1 rfl) ?_
    refine as_q rfl rfl (q_ltF rfl rfl (by omega)) ?_
    refine Sm rfl rfl ?_
    refine as_gh rfl rfl rfl rfl (h_q rfl (q_fieldAddr (off := 0) (by kernel_rfl) rfl) ?_)
    refine as_gh rfl rfl rfl rfl (h_q rfl (q_load1 (by kernel_rfl) rfl (by exact Blk.cell ho1.1 rfl)) ?_)
    refine as_gh rfl rfl rfl rfl (h_q rfl (q_fieldAddr (off := 0) (by kernel_rfl) rfl) ?_)
    refine as_gh rfl rfl rfl rfl (h_q rfl (q_load1 (by kernel_rfl) rfl (by exact Blk.cell ho2.1 rfl)) ?_)
    refine as_gh rfl rfl rfl rfl (h_q rfl (q_eqF rfl rfl (by omega)) ?_)
    refine as_gh rfl rfl rfl rfl (h_q rfl (q_move rfl) ?_)
    refine as_gskip rfl rfl rfl rfl rfl ?_
    refine as_gskip rfl rfl rfl rfl rfl ?_
    refine as_gskip rfl rfl rfl rfl rfl ?_
    refine as_gskip rfl rfl rfl rfl rfl ?_
    refine as_gskip rfl rfl rfl rfl rfl ?_
    refine as_gh rfl rfl rfl rfl (h_q rfl (q_pick_f rfl rfl) ?_)
    refine as_q rfl rfl (q_pick_f rfl rfl) ?_
    refine Sa rfl rfl ?_
    refine as_nil (κ _ _ ?_)
    refine cw_ret ?_
    exact ⟨_, (res_tmp rfl res_nil), by rw [ltE_not.2 (by omega)]; rfl, hT.forget⟩
theorem ref_put {w : World} {M : Mem} {u : Value} {n : Nat} {xs : List El} {x : El} (hs : Sat M w) (hr : RdM M 2 u n (els xs)) (hn : n ≤ 1000000) :
    Does Tryz.prog 32 #[u, .agg (elc x).toArray] w (fun v w' => ∃ M', Step Nope M w M' w' ∧ RdM M' 2 v (n + 1) (els (putE xs x))) := by
  have hT := Step.refl Nope hs
  have hxl := (hr.rds w).els_len hs
  obtain ⟨sa, sc, rfl, hsc, _⟩ := hr.slice
  refine fn_enter Tryz.func32 rfl (rs := [.tmp 4]) rfl rfl rfl rfl ?_
  refine cw_rs fun _ κ => ?_
  have hqa1 := hT.size
  refine as_h rfl (h_boxO hs rfl rfl fun b1 w1 hs1 ho1 e1 => ?_)
  replace hr := hr.mono hs1.le
  replace hT := hT.then hs1
  have hz1 := hs1.size
  have hl1 := ho1.1.lt
  refine Sa rfl rfl ?_
  refine as_nil (κ _ _ ?_)
  refine cw_rs fun _ κ => ?_
  refine Sa rfl rfl ?_
  refine as_nil (κ _ _ ?_)
  refine cw_seq fun _ hK3 => ?_
  refine cw_block ?_
  refine cw_loop (fun mm l w1 => ∃ i : Nat, mm = n - i ∧ i ≤ n ∧ (∀ j e, j < i → xs[j]? = some e → ltE e x = true) ∧ l = [(0, .slice sa n sc), (3, .pointer (some ⟨b1, 0, none⟩)), (5, .int .i64 i)] ∧ Step Nope M w M w1 ∧ Own w1 M b1 (elc x) 24) (n) [(0, .slice sa n sc), (3, .pointer (some ⟨b1, 0, none⟩)), (5, .int .i64 (0 : Nat))] (.cons rfl (.cons rfl (.cons rfl (.nil _)))) ?_ ?_
  · skip
    exact ⟨0, rfl, Nat.zero_le _, fun j e hj => by omega, rfl, hT, ho1⟩
  have hb1w : w.heap.size ≤ b1 := by omega
  clear hT ho1
  rintro mm l w1 ⟨i, rfl, hi, hpre, rfl, hT, ho1⟩
  refine cw_seq fun _ hK4 => ?_
  refine cw_cutS (fun l w1 => ∃ (bb : Bool), (bb = true → i < n ∧ ∀ e, xs[i]? = some e → ltE e x = true) ∧ (bb = false → ∀ e, xs[i]? = some e → ltE e x = false) ∧ l = [(0, .slice sa n sc), (3, .pointer (some ⟨b1, 0, none⟩)), (5, .int .i64 i), (18, .bool bb)] ∧ Step Nope M w M w1 ∧ Own w1 M b1 (elc x) 24) ?_ ?_
  · skip
    have hio : i = n ∨ i < n := by omega
    rcases hio with hio | hio
    · skip
      refine cw_drawn (by kernel_rfl) (by kernel_rfl) (by kernel_rfl) rfl rfl fun K5 hK5 => ?_
      have hs2 := Step.drew hT.sat
      have hz2 := hs2.size
      replace hr := hr.mono hs2.le
      replace ho1 := ho1.then hs2
      replace hT := hT.then hs2
      refine Dm 0 1 rfl (by kernel_rfl) rfl ?_
      refine Dm 1 3 rfl (by kernel_rfl) rfl ?_
      refine Dq 2 7 rfl (by kernel_rfl) (fun _ => (q_len (by kernel_rfl) rfl _)) ?_
      refine Dq 3 15 rfl (by kernel_rfl) (fun _ => (q_ltF rfl rfl (by omega))) ?_
      refine Dm 4 31 rfl (by kernel_rfl) rfl ?_
      refine Dgs 5 63 rfl (by kernel_rfl) rfl rfl ?_
      refine Dgs 6 127 rfl (by kernel_rfl) rfl rfl ?_
      refine Dgs 7 255 rfl (by kernel_rfl) rfl rfl ?_
      refine Dgs 8 511 rfl (by kernel_rfl) rfl rfl ?_
      refine Dgs 9 1023 rfl (by kernel_rfl) rfl rfl ?_
      refine Dgs 10 2047 rfl (by kernel_rfl) rfl rfl ?_
      refine Dq 11 4095 rfl (by kernel_rfl) (fun _ => (q_pick_f rfl rfl)) ?_
      refine Dd (by kernel_rfl) (hK5 _ _ ?_)
      exact ⟨_, (.cons rfl (.cons rfl (.cons rfl (.cons rfl (.nil _))))), _, (fun h => by cases h), (fun _ e he => by rw [List.getElem?_eq_none (by omega)] at he; cases he), rfl, hT, ho1⟩
    · skip
      obtain ⟨y, hy⟩ : ∃ y, xs[i]? = some y := ⟨xs[i], by simp⟩
      obtain ⟨g, o, rfl⟩ := hr.there (by omega)
      refine cw_drawn (by kernel_rfl) (by kernel_rfl) (by kernel_rfl) rfl rfl fun K6 hK6 => ?_
      have hs3 := Step.drew hT.sat
      have hz3 := hs3.size
      replace hr := hr.mono hs3.le
      replace ho1 := ho1.then hs3
      replace hT := hT.then hs3
      refine Dm 0 1 rfl (by kernel_rfl) rfl ?_
      refine Dm 1 3 rfl (by kernel_rfl) rfl ?_
      refine Dq 2 7 rfl (by kernel_rfl) (fun _ => (q_len (by kernel_rfl) rfl _)) ?_
      refine Dq 3 15 rfl (by kernel_rfl) (fun _ => (q_ltT rfl rfl (by omega))) ?_
      refine Dm 4 31 rfl (by kernel_rfl) rfl ?_
      refine Dgq 5 63 rfl (by kernel_rfl) rfl rfl (fun _ => (q_move rfl)) ?_
      refine Dgq 6 127 rfl (by kernel_rfl) rfl rfl (fun _ => (q_move rfl)) ?_
      refine Dgq 7 255 rfl (by kernel_rfl) rfl rfl (fun _ => (q_indexAddr (e := 24) (size := 2) (by kernel_rfl) (by kernel_rfl) rfl rfl (by omega) (by omega))) ?_
      refine at_gq (i := 8) (li := lb 12 511) (cellsAre _ _ 2 _) rfl (by kernel_rfl) rfl rfl rfl rfl (fun _ h => q_loadc (n := 2) (by kernel_rfl) rfl h) ((hr.rd hT.sat).el (j := (i : Int).toNat) (by simpa using hy)) (by kernel_rfl) ?_
      refine at_gq (i := 9) (li := lb 12 1023) (cellsAre _ _ 2 _) rfl (by kernel_rfl) rfl rfl rfl rfl (fun _ h => q_loadc (n := 2) (by kernel_rfl) rfl h) (by exact Blk.cells ho1.1 rfl) (by kernel_rfl) ?_
      refine Dgh 10 2047 rfl (by kernel_rfl) rfl rfl rfl (h_call (by kernel_rfl) rfl ?_)
      refine (ref_less (a := y) (b := x) hs3.sat).mono ?_
      rintro _ w4 ⟨rfl, hs4⟩
      replace hr := hr.mono hs4.le
      replace ho1 := ho1.then hs4
      replace hT := hT.then hs4
      have hz4 := hs4.size
      refine ⟨(by repeat' first | exact trivial | exact Blk.cell ho1.1 rfl | exact Blk.cells ho1.1 rfl | exact ((hr.rd hT.sat).el (j := (i : Int).toNat) (by simpa using hy)) | assumption | refine all_keep ?_ | refine And.intro ?_ ?_), ?_⟩
      refine Dq 11 4095 rfl (by kernel_rfl) (fun _ => (q_pick_t rfl rfl)) ?_
      refine Dd (by kernel_rfl) (hK6 _ _ ?_)
      exact ⟨_, (.cons rfl (.cons rfl (.cons rfl (.cons rfl (.nil _))))), _, (fun h => ⟨hio, fun e he => by rw [hy] at he; cases he; exact h⟩), (fun h e he => by rw [hy] at he; cases he; exact h), rfl, hT, ho1⟩
  clear hT ho1
  rintro l w2 ⟨bb, hbt, hbf, rfl, hT, ho1⟩
  refine cw_cond rfl (fun hc0 => ?_) (fun hc0 => ?_)
  · skip
    obtain ⟨hlt, hyl⟩ := hbt hc0
    refine cw_skip ?_
    refine hK4 _ _ ?_
    refine cw_block ?_
    refine cw_region fun _ κ => ?_
    refine Sm rfl rfl ?_
    refine as_q rfl rfl (q_addx rfl rfl (by omega) (by omega)) ?_
    refine Sa rfl rfl ?_
    refine as_nil (κ _ _ ?_)
    exact ⟨_, _, by omega, (.cons rfl (.cons rfl (.cons rfl (.nil _)))), i + 1, rfl, by omega, fun j e hj he => by
      rcases Nat.lt_or_ge j i with h | h
      · exact hpre j e h he
      · obtain rfl : j = i := by omega
        exact hyl e he, rfl, hT, ho1⟩
  · skip
    have hst := hbf hc0
    refine cw_exit ?_
    refine hK3 _ _ ?_
    refine cw_rs fun _ κ => ?_
    refine Sa rfl rfl ?_
    refine as_nil (κ _ _ ?_)
    refine cw_rs fun _ κ => ?_
    refine Sm rfl rfl ?_
    refine Sm rfl rfl ?_
    refine Sm rfl rfl ?_
    refine as_q rfl rfl (q_slice (e := 24) (size := 2) (k := .i64) (by kernel_rfl) (by kernel_rfl) rfl rfl rfl (by omega) (by omega) (by omega)) ?_
    have nofl : ∀ g, (Value.slice none 0 0).ownBlock = some g → w.heap.size ≤ g := fun g hg => by cases hg
    have hlb := ho1.1.lt
    have hq5 := hT.size
    refine as_h rfl (h_append (e := 24) (size := 2) (bytes := 16) (by kernel_rfl) hT.sat (Buf.nil _ _ 24 2) (((hr.rd hT.sat).front i (by omega) (by omega))) rfl rfl (els_one _) (by omega) rfl fun hcv w5 hs5 hcb hco => ?_)
    replace hr := hr.mono hs5.le
    replace ho1 := ho1.step hs5 (fun h => by cases h)
    have hcf := floor_of hco nofl hq5
    replace hT := hT.trans hs5 (fun k hk h => absurd (nofl k h) (by omega))
    have hz5 := hs5.size
    have hc1 := lt_of_app (B := b1) hco (by intro h; cases h) (by omega)
    refine Sa rfl rfl ?_
    refine as_nil (κ _ _ ?_)
    refine cw_rs fun _ κ => ?_
    refine Sm rfl rfl ?_
    refine Sc 2 rfl (by kernel_rfl) rfl (by exact Blk.cells ho1.1 rfl) ?_
    refine as_h rfl (h_buildO (e := 24) (size := 2) (zs := [(.int .i64 0), (.int .i64 0)]) (cs := [_, _]) (by kernel_rfl) (by kernel_rfl) (by kernel_rfl) rfl hs5.sat rfl rfl fun b6 w6 hs6 ho6 e6 => ?_)
    replace hr := hr.mono hs6.le
    replace hcb := hcb.then hs6
    replace hT := hT.then hs6
    have hz6 := hs6.size
    have hl6 := ho6.1.lt
    have hlt1 := hcb.lt
    have hq7 := hT.size
    refine as_h rfl (h_append (e := 24) (size := 2) (bytes := 16) (by kernel_rfl) hs6.sat hcb ((Own.buf ho6 (n := 1) (size := 2) rfl (by decide)).rd) rfl rfl (by simp [Value.oneCell']) (by omega) rfl fun hdv w7 hs7 hdb hdo => ?_)
    replace hr := hr.mono hs7.le
    clear ho6
    have hdf := floor_of hdo hcf hq7
    replace hT := hT.trans hs7 (fun k hk h => absurd (hcf k h) (by omega))
    have hz7 := hs7.size
    refine Sa rfl rfl ?_
    refine as_nil (κ _ _ ?_)
    refine cw_rs fun _ κ => ?_
    refine Sm rfl rfl ?_
    refine Sm rfl rfl ?_
    refine Sm rfl rfl ?_
    refine as_q rfl rfl (q_slice (e := 24) (size := 2) (k' := .i64) (by kernel_rfl) (by kernel_rfl) rfl rfl rfl (by omega) (by omega) (by omega)) ?_
    have hq8 := hT.size
    refine as_h rfl (h_append (e := 24) (size := 2) (bytes := 16) (by kernel_rfl) hs7.sat hdb (((hr.rd hs7.sat).rest i (by omega) (by omega))) rfl rfl (els_one _) (by omega) rfl fun hev w8 hs8 heb heo => ?_)
    have hef := floor_of heo hdf hq8
    replace hT := hT.trans hs8 (fun k hk h => absurd (hdf k h) (by omega))
    have hz8 := hs8.size
    refine Sa rfl rfl ?_
    refine as_nil (κ _ _ ?_)
    refine cw_ret ?_
    obtain ⟨M9, h9, _, hr9, _⟩ := hT.freezeB heb hef
    have hput := putE_at (x := x) (i := i) (by omega) hpre hst
    exact ⟨_, (res_tmp rfl res_nil), M9, h9, hr9.cast rfl (by omega) (by rw [hput, els_append, els_cons]; simp [elc])⟩
theorem rdM_nil (M : Mem) (size : Nat) : RdM M size (.slice none 0 0) 0 [] := ⟨by simp, .inl ⟨rfl, none, 0, rfl, fun _ => rfl⟩⟩
theorem ref_sort {w : World} {M : Mem} {u : Value} {n : Nat} {xs : List El} (hs : Sat M w) (hr : RdM M 2 u n (els xs)) (hn : n ≤ 1000000) :
    Does Tryz.prog 12 #[u] w (fun v w' => ∃ M', Step Nope M w M' w' ∧ RdM M' 2 v n (els (srtE xs))) := by
  have hT := Step.refl Nope hs
  have hxl := (hr.rds w).els_len hs
  obtain ⟨sa, sc, rfl, hsc, _⟩ := hr.slice
  refine fn_enter Tryz.func12 rfl (rs := [.tmp 2]) rfl rfl rfl rfl ?_
  refine cw_rs fun _ κ => ?_
  refine Sa rfl rfl ?_
  refine as_nil (κ _ _ ?_)
  refine cw_rs fun _ κ => ?_
  refine Sa rfl rfl ?_
  refine as_nil (κ _ _ ?_)
  refine cw_seq fun _ hK3 => ?_
  refine cw_rs fun _ κ => ?_
  refine Sa rfl rfl ?_
  refine as_nil (κ _ _ ?_)
  refine cw_block ?_
  refine cw_loop (fun mm l w1 => ∃ (i : Nat) (ov : Value) (M1 : Mem), mm = n - i ∧ i ≤ n ∧ l = [(0, .slice sa n sc), (3, ov), (4, .int .i64 i)] ∧ Step Nope M w M1 w1 ∧ RdM M1 2 ov i (els (srtE (xs.take i)))) (n) [(0, .slice sa n sc), (3, .slice none 0 0), (4, .int .i64 (0 : Nat))] (.cons rfl (.cons rfl (.cons rfl (.nil _)))) ?_ ?_
  · skip
    exact ⟨0, _, M, rfl, Nat.zero_le _, rfl, hT, rdM_nil M 2⟩
  clear hT
  rintro mm l w1 ⟨i, ov, M1, rfl, hi, rfl, hT, hb⟩
  replace hr := hr.mono hT.le
  refine cw_seq fun _ hK5 => ?_
  refine cw_rs fun _ κ => ?_
  refine Sm rfl rfl ?_
  refine Sm rfl rfl ?_
  refine as_q rfl rfl (q_len (by kernel_rfl) rfl _) ?_
  refine as_q rfl rfl (q_lt rfl rfl) ?_
  refine as_nil (κ _ _ ?_)
  refine cw_cond rfl (fun hc0 => ?_) (fun hc0 => ?_)
  · skip
    have hlt : i < n := by have := of_decide_eq_true hc0; omega
    obtain ⟨x, hx⟩ : ∃ y, xs[i]? = some y := ⟨xs[i], by simp⟩
    obtain ⟨g, o, rfl⟩ := hr.there (by omega)
    refine cw_skip ?_
    refine hK5 _ _ ?_
    refine cw_seq fun _ hK7 => ?_
    refine cw_block ?_
    refine cw_region fun _ κ => ?_
    refine Sm rfl rfl ?_
    refine Sm rfl rfl ?_
    refine Sm rfl rfl ?_
    refine as_q rfl rfl (q_indexAddr (e := 24) (size := 2) (by kernel_rfl) (by kernel_rfl) rfl rfl (by omega) (by omega)) ?_
    refine Sc 2 rfl (by kernel_rfl) rfl ((hr.rd hT.sat).el (j := (i : Int).toNat) (by simpa using hx)) ?_
    refine as_h rfl (h_call (by kernel_rfl) rfl ?_)
    refine (ref_put hT.sat hb (by omega)).mono ?_
    rintro ov2 w1 ⟨M2, hs1, hb2⟩
    replace hT := hT.then hs1
    refine Sa rfl rfl ?_
    refine as_nil (κ _ _ ?_)
    refine hK7 _ _ ?_
    refine cw_region fun _ κ => ?_
    refine Sm rfl rfl ?_
    refine as_q rfl rfl (q_addx rfl rfl (by omega) (by omega)) ?_
    refine Sa rfl rfl ?_
    refine as_nil (κ _ _ ?_)
    refine ⟨_, _, ?_, (.cons rfl (.cons rfl (.cons rfl (.nil _)))), i + 1, ov2, M2, rfl, by omega, rfl, hT, ?_⟩
    · omega
    · rw [List.take_add_one, hx]
      exact hb2.cast rfl rfl (by rw [← srtE_snoc]; rfl)
  · skip
    have hge : i = n := by have := of_decide_eq_false hc0; omega
    refine cw_exit ?_
    refine hK3 _ _ ?_
    refine cw_rs fun _ κ => ?_
    refine Sm rfl rfl ?_
    refine Sa rfl rfl ?_
    refine as_nil (κ _ _ ?_)
    refine cw_ret ?_
    exact ⟨_, (res_tmp rfl res_nil), M1, hT, by rw [hge, show xs.take n = xs from by rw [← hxl, List.take_length]] at hb; exact hb⟩
theorem ref_sum {w : World} {M : Mem} {va vb : Value} {n m : Nat} {xs ys : List El} (hs : Sat M w) (hr : RdM M 2 va n (els xs)) (hr2 : RdM M 2 vb m (els ys)) (hn : n + m ≤ 1000000) :
    Does Tryz.prog 29 #[va, vb] w (fun v w' => ∃ M', Step Nope M w M' w' ∧ RdM M' 2 v (n + m) (els (ys.foldl putE xs))) := by
  have hT := Step.refl Nope hs
  have hyl := (hr2.rds w).els_len hs
  obtain ⟨sa, sc, rfl, hsc, _⟩ := hr2.slice
  refine fn_enter Tryz.func29 rfl (rs := [.tmp 4]) rfl rfl rfl rfl ?_
  refine cw_rs fun _ κ => ?_
  refine Sa rfl rfl ?_
  refine as_nil (κ _ _ ?_)
  refine cw_rs fun _ κ => ?_
  refine Sm rfl rfl ?_
  refine Sa rfl rfl ?_
  refine as_nil (κ _ _ ?_)
  refine cw_seq fun _ hK3 => ?_
  refine cw_rs fun _ κ => ?_
  refine Sa rfl rfl ?_
  refine as_nil (κ _ _ ?_)
  refine cw_block ?_
  refine cw_loop (fun mm l w1 => ∃ (i : Nat) (ov : Value) (M1 : Mem), mm = m - i ∧ i ≤ m ∧ l = [(1, .slice sa m sc), (5, ov), (6, .int .i64 i)] ∧ Step Nope M w M1 w1 ∧ RdM M1 2 ov (n + i) (els ((ys.take i).foldl putE xs))) (m) [(1, .slice sa m sc), (5, va), (6, .int .i64 (0 : Nat))] (.cons rfl (.cons rfl (.cons rfl (.nil _)))) ?_ ?_
  · skip
    exact ⟨0, _, M, rfl, Nat.zero_le _, rfl, hT, hr⟩
  clear hT
  rintro mm l w1 ⟨i, ov, M1, rfl, hi, rfl, hT, hb⟩
  replace hr2 := hr2.mono hT.le
  refine cw_seq fun _ hK5 => ?_
  refine cw_rs fun _ κ => ?_
  refine Sm rfl rfl ?_
  refine Sm rfl rfl ?_
  refine as_q rfl rfl (q_len (by kernel_rfl) rfl _) ?_
  refine as_q rfl rfl (q_lt rfl rfl) ?_
  refine as_nil (κ _ _ ?_)
  refine cw_cond rfl (fun hc0 => ?_) (fun hc0 => ?_)
  · skip
    have hlt : i < m := by have := of_decide_eq_true hc0; omega
    obtain ⟨x, hx⟩ : ∃ y, ys[i]? = some y := ⟨ys[i]'(by omega), by simp⟩
    obtain ⟨g, o, rfl⟩ := hr2.there (by omega)
    refine cw_skip ?_
    refine hK5 _ _ ?_
    refine cw_seq fun _ hK7 => ?_
    refine cw_block ?_
    refine cw_region fun _ κ => ?_
    refine Sm rfl rfl ?_
    refine Sm rfl rfl ?_
    refine Sm rfl rfl ?_
    refine as_q rfl rfl (q_indexAddr (e := 24) (size := 2) (by kernel_rfl) (by kernel_rfl) rfl rfl (by omega) (by omega)) ?_
    refine Sc 2 rfl (by kernel_rfl) rfl ((hr2.rd hT.sat).el (j := (i : Int).toNat) (by simpa using hx)) ?_
    refine as_h rfl (h_call (by kernel_rfl) rfl ?_)
    refine (ref_put hT.sat hb (by omega)).mono ?_
    rintro ov2 w1 ⟨M2, hs1, hb2⟩
    replace hT := hT.then hs1
    refine Sa rfl rfl ?_
    refine as_nil (κ _ _ ?_)
    refine hK7 _ _ ?_
    refine cw_region fun _ κ => ?_
    refine Sm rfl rfl ?_
    refine as_q rfl rfl (q_addx rfl rfl (by omega) (by omega)) ?_
    refine Sa rfl rfl ?_
    refine as_nil (κ _ _ ?_)
    refine ⟨_, _, ?_, (.cons rfl (.cons rfl (.cons rfl (.nil _)))), i + 1, ov2, M2, rfl, by omega, rfl, hT, ?_⟩
    · omega
    · rw [List.take_add_one, hx, List.foldl_append]
      exact hb2
  · skip
    have hge : i = m := by have := of_decide_eq_false hc0; omega
    refine cw_exit ?_
    refine hK3 _ _ ?_
    refine cw_rs fun _ κ => ?_
    refine Sm rfl rfl ?_
    refine Sa rfl rfl ?_
    refine as_nil (κ _ _ ?_)
    refine cw_ret ?_
    subst hge
    rw [List.take_of_length_le (by omega)] at hb
    exact ⟨_, (res_tmp rfl res_nil), M1, hT, hb⟩
theorem foldl_srt (a b : List El) : (srtE b).foldl putE (srtE a) = srtE (a ++ b) :=
  srtE_eq ((foldl_perm _ _).trans (((srtE_perm b).append (srtE_perm a)).trans List.perm_append_comm)) (foldl_ord _ _ (srtE_ord a))
end Go.Proofs.YtgcgjpfjjgalmaaGreat
/- What is taken out one by one is all, in order, part 1. -/
namespace Go.Proofs.YtgcgjpfjjgalmaaGreat
open Go Go.Eng
set_option maxRecDepth 4000 in
theorem heapDrains_b {w : World} {M : Mem} {z : Int} {sa sb : Option Addr} {n m ca cb : Nat} {tw : Bool} (hs : Sat M w) (hz : 40 < n ∨ 40 < m ∨ z < 1 ∨ 6 < z) :
    Does Tryz.prog 7 #[.int .i64 z, .slice sa n ca, .slice sb m cb, .bool tw] w (fun v w' => v = .bool true ∧ Step Nope M w M w') := by
  have hT := Step.refl Nope hs
  refine fn_enter Tryz.func7 rfl (rs := [.tmp 8]) rfl rfl rfl rfl ?_
  refine cw_rs fun _ κ => ?_
  refine Sa rfl rfl ?_
  refine as_nil (κ _ _ ?_)
  refine cw_rs fun _ κ => ?_
  refine as_h rfl (h_call (by kernel_rfl) rfl ?_)
  refine (awake15 hs).mono ?_
  rintro _ w1 ⟨rfl, hs1⟩
  replace hT := hT.then hs1
  refine Sa rfl rfl ?_
  refine as_nil (κ _ _ ?_)
  refine cw_seq fun _ hK3 => ?_
  refine cw_rs fun _ κ => ?_
  refine Sm rfl rfl ?_
  refine as_q rfl rfl (q_not rfl) ?_
  refine as_nil (κ _ _ ?_)
  refine cw_false rfl ?_
  refine cw_skip ?_
  refine hK3 _ _ ?_
  refine cw_seq fun _ hK5 => ?_
  rcases (show 40 < n ∨ (n ≤ 40 ∧ 40 < m) ∨ (n ≤ 40 ∧ m ≤ 40 ∧ z < 1) ∨ (n ≤ 40 ∧ m ≤ 40 ∧ 1 ≤ z ∧ 6 < z) by omega) with h1 | ⟨h1, h2⟩ | ⟨h1, h2, h3⟩ | ⟨h1, h2, h3, h4⟩
  · skip
    refine cw_rs fun _ κ => ?_
    refine Sm rfl rfl ?_
    refine as_q rfl rfl (q_len (by kernel_rfl) rfl _) ?_
    refine as_q rfl rfl (q_gtT rfl rfl (by omega)) ?_
    refine Sm rfl rfl ?_
    refine as_gskip rfl rfl rfl rfl rfl ?_
    refine as_gskip rfl rfl rfl rfl rfl ?_
    refine as_gskip rfl rfl rfl rfl rfl ?_
    refine as_q rfl rfl (q_pick_t rfl rfl) ?_
    refine Sm rfl rfl ?_
    refine as_gskip rfl rfl rfl rfl rfl ?_
    refine as_gskip rfl rfl rfl rfl rfl ?_
    refine as_q rfl rfl (q_pick_t rfl rfl) ?_
    refine Sm rfl rfl ?_
    refine as_gskip rfl rfl rfl rfl rfl ?_
    refine as_gskip rfl rfl rfl rfl rfl ?_
    refine as_q rfl rfl (q_pick_t rfl rfl) ?_
    refine as_nil (κ _ _ ?_)
    refine cw_true rfl ?_
    refine cw_rs fun _ κ => ?_
    refine Sa rfl rfl ?_
    refine as_nil (κ _ _ ?_)
    refine cw_ret ?_
    exact ⟨_, (res_tmp rfl res_nil), rfl, hT.forget⟩
  · skip
    refine cw_rs fun _ κ => ?_
    refine Sm rfl rfl ?_
    refine as_q rfl rfl (q_len (by kernel_rfl) rfl _) ?_
    refine as_q rfl rfl (q_gtF rfl rfl (by omega)) ?_
    refine Sm rfl rfl ?_
    refine as_gh rfl rfl rfl rfl (h_q rfl (q_move rfl) ?_)
    refine as_gh rfl rfl rfl rfl (h_q rfl (q_len (by kernel_rfl) rfl _) ?_)
    refine as_gh rfl rfl rfl rfl (h_q rfl (q_gtT rfl rfl (by omega)) ?_)
    refine as_q rfl rfl (q_pick_f rfl rfl) ?_
    refine Sm rfl rfl ?_
    refine as_gskip rfl rfl rfl rfl rfl ?_
    refine as_gskip rfl rfl rfl rfl rfl ?_
    refine as_q rfl rfl (q_pick_t rfl rfl) ?_
    refine Sm rfl rfl ?_
    refine as_gskip rfl rfl rfl rfl rfl ?_
    refine as_gskip rfl rfl rfl rfl rfl ?_
    refine as_q rfl rfl (q_pick_t rfl rfl) ?_
    refine as_nil (κ _ _ ?_)
    refine cw_true rfl ?_
    refine cw_rs fun _ κ => ?_
    refine Sa rfl rfl ?_
    refine as_nil (κ _ _ ?_)
    refine cw_ret ?_
    exact ⟨_, (res_tmp rfl res_nil), rfl, hT.forget⟩
  · skip
    refine cw_rs fun _ κ => ?_
    refine Sm rfl rfl ?_
    refine as_q rfl rfl (q_len (by kernel_rfl) rfl _) ?_
    refine as_q rfl rfl (q_gtF rfl rfl (by omega)) ?_
    refine Sm rfl rfl ?_
    refine as_gh rfl rfl rfl rfl (h_q rfl (q_move rfl) ?_)
    refine as_gh rfl rfl rfl rfl (h_q rfl (q_len (by kernel_rfl) rfl _) ?_)
    refine as_gh rfl rfl rfl rfl (h_q rfl (q_gtF rfl rfl (by omega)) ?_)
    refine as_q rfl rfl (q_pick_f rfl rfl) ?_
    refine Sm rfl rfl ?_
    refine as_gh rfl rfl rfl rfl (h_q rfl (q_move rfl) ?_)
    refine as_gh rfl rfl rfl rfl (h_q rfl (q_ltT rfl rfl (by omega)) ?_)
    refine as_q rfl rfl (q_pick_f rfl rfl) ?_
    refine Sm rfl rfl ?_
    refine as_gskip rfl rfl rfl rfl rfl ?_
    refine as_gskip rfl rfl rfl rfl rfl ?_
    refine as_q rfl rfl (q_pick_t rfl rfl) ?_
    refine as_nil (κ _ _ ?_)
    refine cw_true rfl ?_
    refine cw_rs fun _ κ => ?_
    refine Sa rfl rfl ?_
    refine as_nil (κ _ _ ?_)
    refine cw_ret ?_
    exact ⟨_, (res_tmp rfl res_nil), rfl, hT.forget⟩
  · skip
    refine cw_rs fun _ κ => ?_
    refine Sm rfl rfl ?_
    refine as_q rfl rfl (q_len (by kernel_rfl) rfl _) ?_
    refine as_q rfl rfl (q_gtF rfl rfl (by omega)) ?_
    refine Sm rfl rfl ?_
    refine as_gh rfl rfl rfl rfl (h_q rfl (q_move rfl) ?_)
    refine as_gh rfl rfl rfl rfl (h_q rfl (q_len (by kernel_rfl) rfl _) ?_)
    refine as_gh rfl rfl rfl rfl (h_q rfl (q_gtF rfl rfl (by omega)) ?_)
    refine as_q rfl rfl (q_pick_f rfl rfl) ?_
    refine Sm rfl rfl ?_
    refine as_gh rfl rfl rfl rfl (h_q rfl (q_move rfl) ?_)
    refine as_gh rfl rfl rfl rfl (h_q rfl (q_ltF rfl rfl (by omega)) ?_)
    refine as_q rfl rfl (q_pick_f rfl rfl) ?_
    refine Sm rfl rfl ?_
    refine as_gh rfl rfl rfl rfl (h_q rfl (q_move rfl) ?_)
    refine as_gh rfl rfl rfl rfl (h_q rfl (q_gtT rfl rfl (by omega)) ?_)
    refine as_q rfl rfl (q_pick_f rfl rfl) ?_
    refine as_nil (κ _ _ ?_)
    refine cw_true rfl ?_
    refine cw_rs fun _ κ => ?_
    refine Sa rfl rfl ?_
    refine as_nil (κ _ _ ?_)
    refine cw_ret ?_
    exact ⟨_, (res_tmp rfl res_nil), rfl, hT.forget⟩
set_option maxRecDepth 8000 in
theorem heapDrains_1 {w : World} {M : Mem} {z : Int} {sa sb : Option Addr} {n m ca cb : Nat} {xs ys : List El} (hs : Sat M w) (hr : RdM M 2 (.slice sa n ca) n (els xs)) (hr2 : RdM M 2 (.slice sb m cb) m (els ys)) (hz : 1 ≤ z ∧ z ≤ 6) (hn : n ≤ 40) (hm : m ≤ 40) :
    Does Tryz.prog 7 #[.int .i64 z, .slice sa n ca, .slice sb m cb, .bool true] w (fun v w' => v = .bool true ∧ Step Nope M w M w') := by
  have hT := Step.refl Nope hs
  obtain ⟨k, hkz⟩ : ∃ k : Nat, (k : Int) = z := ⟨z.toNat, by omega⟩
  have hem : emE z = 0 := by unfold emE; rw [if_pos hz]
  have hekz : emK z = k := by unfold emK; rw [if_pos hz]; omega
  have hk0 : k ≠ 0 := by omega
  have hofl : ∀ l, ofL z l = srtE l := fun l => by unfold ofL; rw [if_pos hz]
  have hbad : ¬ badM k k := by unfold badM; omega
  have hxl := (hr.rds w).els_len hs
  have hyl := (hr2.rds w).els_len hs
  refine fn_enter Tryz.func7 rfl (rs := [.tmp 8]) rfl rfl rfl rfl ?_
  refine cw_rs fun _ κ => ?_
  refine Sa rfl rfl ?_
  refine as_nil (κ _ _ ?_)
  refine cw_rs fun _ κ => ?_
  refine as_h rfl (h_call (by kernel_rfl) rfl ?_)
  refine (awake15 hs).mono ?_
  rintro _ w1 ⟨rfl, hs1⟩
  replace hr := hr.mono hs1.le
  replace hr2 := hr2.mono hs1.le
  replace hT := hT.then hs1
  have hz1 := hs1.size
  refine Sa rfl rfl ?_
  refine as_nil (κ _ _ ?_)
  refine cw_seq fun _ hK3 => ?_
  refine cw_rs fun _ κ => ?_
  refine Sm rfl rfl ?_
  refine as_q rfl rfl (q_not rfl) ?_
  refine as_nil (κ _ _ ?_)
  refine cw_false rfl ?_
  refine cw_skip ?_
  refine hK3 _ _ ?_
  refine cw_seq fun _ hK5 => ?_
  refine cw_rs fun _ κ => ?_
  refine Sm rfl rfl ?_
  refine as_q rfl rfl (q_len (by kernel_rfl) rfl _) ?_
  refine as_q rfl rfl (q_gtF rfl rfl (by omega)) ?_
  refine Sm rfl rfl ?_
  refine as_gh rfl rfl rfl rfl (h_q rfl (q_move rfl) ?_)
  refine as_gh rfl rfl rfl rfl (h_q rfl (q_len (by kernel_rfl) rfl _) ?_)
  refine as_gh rfl rfl rfl rfl (h_q rfl (q_gtF rfl rfl (by omega)) ?_)
  refine as_q rfl rfl (q_pick_f rfl rfl) ?_
  refine Sm rfl rfl ?_
  refine as_gh rfl rfl rfl rfl (h_q rfl (q_move rfl) ?_)
  refine as_gh rfl rfl rfl rfl (h_q rfl (q_ltF rfl rfl (by omega)) ?_)
  refine as_q rfl rfl (q_pick_f rfl rfl) ?_
  refine Sm rfl rfl ?_
  refine as_gh rfl rfl rfl rfl (h_q rfl (q_move rfl) ?_)
  refine as_gh rfl rfl rfl rfl (h_q rfl (q_gtF rfl rfl (by omega)) ?_)
  refine as_q rfl rfl (q_pick_f rfl rfl) ?_
  refine as_nil (κ _ _ ?_)
  refine cw_false rfl ?_
  refine cw_skip ?_
  refine hK5 _ _ ?_
  refine cw_rs fun _ κ => ?_
  refine Sm rfl rfl ?_
  refine Sm rfl rfl ?_
  refine as_h rfl (h_call (by kernel_rfl) rfl ?_)
  refine (hp_of (z := z) hs1.sat (hr.rds _) (by omega)).mono ?_
  rintro _ w2 ⟨vx, Mx, hrx, hs2, hvx⟩
  rw [hem] at hrx
  subst hrx
  rw [hekz, hofl] at hvx
  replace hr := hr.mono hs2.le
  replace hr2 := hr2.mono hs2.le
  replace hT := hT.then hs2
  have hz2 := hs2.size
  obtain ⟨dx, ux, rfl⟩ := hvx.iface hk0
  refine Sm rfl rfl ?_
  refine Se rfl rfl rfl ?_
  refine Se rfl rfl rfl ?_
  have hqax := hT.size
  refine as_h rfl (h_allocO (z := (.agg #[.nilIface])) hs2.sat (by kernel_rfl) rfl fun bx w3 hs3 hox ex => ?_)
  replace hr := hr.mono hs3.le
  replace hr2 := hr2.mono hs3.le
  replace hvx := hvx.mono hs3.le
  replace hT := hT.then hs3
  have hz3 := hs3.size
  have hlx := hox.1.lt
  refine as_h0 (h_store hs3.sat hox rfl rfl rfl (by kernel_rfl) rfl rfl rfl fun w4 hs4 hn4 => ?_)
  replace hr := hr.mono hs4.le
  replace hr2 := hr2.mono hs4.le
  replace hvx := hvx.mono hs4.le
  clear hox; have hox := hn4; clear hn4
  replace hT := hT.own hs4 (by omega)
  have hz4 := hs4.size
  refine Sa rfl rfl ?_
  refine as_nil (κ _ _ ?_)
  refine cw_rs fun _ κ => ?_
  refine Sm rfl rfl ?_
  refine Sm rfl rfl ?_
  refine as_h rfl (h_call (by kernel_rfl) rfl ?_)
  refine (hp_of (z := z) hs4.sat (hr2.rds _) (by omega)).mono ?_
  rintro _ w5 ⟨vy, My, hry, hs5, hvy⟩
  rw [hem] at hry
  subst hry
  rw [hekz, hofl] at hvy
  replace hr := hr.mono hs5.le
  replace hr2 := hr2.mono hs5.le
  replace hvx := hvx.mono hs5.le
  replace hox := hox.then hs5
  replace hT := hT.then hs5
  have hz5 := hs5.size
  obtain ⟨dy, uy, rfl⟩ := hvy.iface hk0
  refine Sm rfl rfl ?_
  refine Se rfl rfl rfl ?_
  refine Se rfl rfl rfl ?_
  have hqaq := hT.size
  refine as_h rfl (h_allocO (z := (.agg #[.nilIface])) hs5.sat (by kernel_rfl) rfl fun bq w6 hs6 hoq eq => ?_)
  replace hr := hr.mono hs6.le
  replace hr2 := hr2.mono hs6.le
  replace hvx := hvx.mono hs6.le
  replace hox := hox.then hs6
  replace hT := hT.then hs6
  have hz6 := hs6.size
  have hlq := hoq.1.lt
  refine as_h0 (h_store hs6.sat hoq rfl rfl rfl (by kernel_rfl) rfl rfl rfl fun w7 hs7 hn7 => ?_)
  replace hr := hr.mono hs7.le
  replace hr2 := hr2.mono hs7.le
  replace hvx := hvx.mono hs7.le
  replace hox := hox.step hs7 (fun h => by have h : _ = _ := h; omega)
  clear hoq; have hoq := hn7; clear hn7
  replace hT := hT.own hs7 (by omega)
  have hz7 := hs7.size
  refine Sa rfl rfl ?_
  refine as_nil (κ _ _ ?_)
  refine cw_rs fun _ κ => ?_
  refine Sm rfl rfl ?_
  refine as_h rfl (h_call (by kernel_rfl) rfl ?_)
  refine (ref_sort hs7.sat hr (by omega)).mono ?_
  rintro sp w8 ⟨Mp, hs8, hbp⟩
  replace hr := hr.mono hs8.le
  replace hr2 := hr2.mono hs8.le
  replace hvx := hvx.mono hs8.le
  replace hox := hox.then hs8
  replace hoq := hoq.then hs8
  replace hT := hT.then hs8
  have hz8 := hs8.size
  refine Sm rfl rfl ?_
  refine as_h rfl (h_call (by kernel_rfl) rfl ?_)
  refine (ref_sort hs8.sat hr2 (by omega)).mono ?_
  rintro sq w9 ⟨Mq, hs9, hbq⟩
  replace hr := hr.mono hs9.le
  replace hvx := hvx.mono hs9.le
  replace hox := hox.then hs9
  replace hoq := hoq.then hs9
  replace hbp := hbp.mono hs9.le
  replace hT := hT.then hs9
  have hz9 := hs9.size
  refine as_h rfl (h_call (by kernel_rfl) rfl ?_)
  refine (ref_sum hs9.sat hbp hbq (by omega)).mono ?_
  rintro wva w10 ⟨Ma, hs10, hwa⟩
  rw [foldl_srt] at hwa
  replace hr := hr.mono hs10.le
  replace hvx := hvx.mono hs10.le
  replace hox := hox.then hs10
  replace hoq := hoq.then hs10
  replace hT := hT.then hs10
  have hz10 := hs10.size
  refine Sa rfl rfl ?_
  refine as_nil (κ _ _ ?_)
  refine cw_seq fun _ hK10 => ?_
  refine cw_rs fun _ κ => ?_
  refine Sm rfl rfl ?_
  refine as_nil (κ _ _ ?_)
  refine cw_true rfl ?_
  refine cw_rs fun _ κ => ?_
  refine Sc 1 rfl (by kernel_rfl) rfl (by exact Blk.cells hox.1 rfl) ?_
  refine as_h0 (h_store hs10.sat hoq rfl rfl rfl (by kernel_rfl) rfl rfl rfl fun w11 hs11 hn11 => ?_)
  replace hr := hr.mono hs11.le
  replace hvx := hvx.mono hs11.le
  replace hox := hox.step hs11 (fun h => by have h : _ = _ := h; omega)
  clear hoq; have hoq := hn11; clear hn11
  replace hT := hT.own hs11 (by omega)
  have hz11 := hs11.size
  refine as_nil (κ _ _ ?_)
  refine cw_region fun _ κ => ?_
  refine Sm rfl rfl ?_
  refine as_h rfl (h_call (by kernel_rfl) rfl ?_)
  refine (ref_sort hs11.sat hr (by omega)).mono ?_
  rintro sp2 w12 ⟨Mp2, hs12, hbp2⟩
  replace hr := hr.mono hs12.le
  replace hvx := hvx.mono hs12.le
  replace hox := hox.then hs12
  replace hoq := hoq.then hs12
  replace hT := hT.then hs12
  have hz12 := hs12.size
  refine Sm rfl rfl ?_
  refine as_h rfl (h_call (by kernel_rfl) rfl ?_)
  refine (ref_sort hs12.sat hr (by omega)).mono ?_
  rintro sq2 w13 ⟨Mq2, hs13, hbq2⟩
  replace hvx := hvx.mono hs13.le
  replace hox := hox.then hs13
  replace hoq := hoq.then hs13
  replace hbp2 := hbp2.mono hs13.le
  replace hT := hT.then hs13
  have hz13 := hs13.size
  refine as_h rfl (h_call (by kernel_rfl) rfl ?_)
  refine (ref_sum hs13.sat hbp2 hbq2 (by omega)).mono ?_
  rintro wvb w14 ⟨Mb, hs14, hwb⟩
  rw [foldl_srt] at hwb
  replace hvx := hvx.mono hs14.le
  replace hox := hox.then hs14
  replace hoq := hoq.then hs14
  replace hT := hT.then hs14
  have hz14 := hs14.size
  refine Sa rfl rfl ?_
  refine as_nil (κ _ _ ?_)
  refine hK10 _ _ ?_
  refine cw_rs fun _ κ => ?_
  refine Sc 1 rfl (by kernel_rfl) rfl (by exact Blk.cells hox.1 rfl) ?_
  refine Sc 1 rfl (by kernel_rfl) rfl (by exact Blk.cells hoq.1 rfl) ?_
  refine as_h rfl (h_call (by kernel_rfl) rfl ?_)
  refine (hp_meld hs14.sat hvx hvx (by rw [srtE_length]; omega)).mono ?_
  rintro _ w15 ⟨vh, Mh, hrh, hs15, hvh⟩
  rw [melE, if_neg hbad] at hrh
  subst hrh
  rw [melK, melL, if_neg hbad, if_neg hbad, ← srtE_app] at hvh
  replace hvx := hvx.mono hs15.le
  replace hox := hox.then hs15
  replace hwb := hwb.mono hs15.le
  replace hT := hT.then hs15
  have hz15 := hs15.size
  obtain ⟨dh, uh, rfl⟩ := hvh.iface hk0
  refine Sm rfl rfl ?_
  refine Se rfl rfl rfl ?_
  refine Se rfl rfl rfl ?_
  have hqah := hT.size
  refine as_h rfl (h_allocO (z := (.agg #[.nilIface])) hs15.sat (by kernel_rfl) rfl fun bh w16 hs16 hoh eh => ?_)
  replace hvx := hvx.mono hs16.le
  replace hox := hox.then hs16
  replace hwb := hwb.mono hs16.le
  replace hvh := hvh.mono hs16.le
  replace hT := hT.then hs16
  have hz16 := hs16.size
  have hlh := hoh.1.lt
  refine as_h0 (h_store hs16.sat hoh rfl rfl rfl (by kernel_rfl) rfl rfl rfl fun w17 hs17 hn17 => ?_)
  replace hvx := hvx.mono hs17.le
  replace hox := hox.step hs17 (fun h => by have h : _ = _ := h; omega)
  replace hwb := hwb.mono hs17.le
  replace hvh := hvh.mono hs17.le
  clear hoh; have hoh := hn17; clear hn17
  replace hT := hT.own hs17 (by omega)
  have hz17 := hs17.size
  refine Sa rfl rfl ?_
  refine as_nil (κ _ _ ?_)
  refine cw_seq fun _ hK15 => ?_
  refine cw_rs fun _ κ => ?_
  obtain ⟨L, hL⟩ : ∃ L, L = srtE (xs ++ xs) := ⟨_, rfl⟩
  have hLn : L.length = (n + n) := by rw [hL, srtE_length, List.length_append]; omega
  have hw := hwb
  obtain ⟨wa, wc, rfl, _, _⟩ := hw.slice
  rw [← hL] at hw hvh
  refine Sm rfl rfl ?_
  refine as_q rfl rfl (q_neF rfl rfl (by omega)) ?_
  refine Sm rfl rfl ?_
  refine as_gh rfl rfl rfl rfl (h_q rfl (q_move rfl) ?_)
  refine as_gh rfl rfl rfl rfl (h_q rfl (q_neF rfl rfl (by omega)) ?_)
  refine as_q rfl rfl (q_pick_f rfl rfl) ?_
  refine Sm rfl rfl ?_
  refine as_gh rfl rfl rfl rfl (h_q rfl (q_move rfl) ?_)
  refine as_gh rfl rfl rfl rfl (h_q rfl (q_neF rfl rfl (by omega)) ?_)
  refine as_q rfl rfl (q_pick_f rfl rfl) ?_
  refine Sm rfl rfl ?_
  refine as_gh rfl rfl rfl rfl (h_q rfl (q_loadc (n := 1) (by kernel_rfl) rfl (by exact Blk.cells hoh.1 rfl)) ?_)
  refine as_gh rfl rfl rfl rfl (h_call (by kernel_rfl) rfl ?_)
  refine (hp_size hs17.sat hvh (by omega)).mono ?_
  rintro _ w18 ⟨hq18, hs18⟩
  rw [hLn] at hq18
  subst hq18
  replace hvx := hvx.mono hs18.le
  replace hox := hox.then hs18
  replace hvh := hvh.mono hs18.le
  replace hoh := hoh.then hs18
  replace hw := hw.mono hs18.le
  replace hT := hT.then hs18
  have hz18 := hs18.size
  refine as_gh rfl rfl rfl rfl (h_q rfl (q_move rfl) ?_)
  refine as_gh rfl rfl rfl rfl (h_q rfl (q_len (by kernel_rfl) rfl _) ?_)
  refine as_gh rfl rfl rfl rfl (h_q rfl (q_neF rfl rfl (by omega)) ?_)
  refine as_q rfl rfl (q_pick_f rfl rfl) ?_
  refine as_nil (κ _ _ ?_)
  refine cw_false rfl ?_
  refine cw_skip ?_
  refine hK15 _ _ ?_
  refine cw_seq fun _ hK17 => ?_
  refine cw_rs fun _ κ => ?_
  refine Sa rfl rfl ?_
  refine as_nil (κ _ _ ?_)
  refine cw_block ?_
  refine cw_loop (fun mm l1 w1 => ∃ (i : Nat) (v : Value) (M1 : Mem), mm = (n + n) - i ∧ i ≤ (n + n) ∧ l1 = [(0, .int .i64 z), (1, .slice sa n ca), (10, .pointer (some ⟨bx, 0, none⟩)), (14, .slice wa (n + n) wc), (15, .pointer (some ⟨bh, 0, none⟩)), (17, .int .i64 i)] ∧ Step Nope M w M1 w1 ∧ HVal M1 k (L.drop i) v ∧ HVal M1 k (srtE xs) (.iface dx ux) ∧ RdM M1 2 (.slice wa (n + n) wc) (n + n) (els L) ∧ Own w1 M1 bh [v] 29 ∧ Own w1 M1 bx [.iface dx ux] 29) ((n + n)) [(0, .int .i64 z), (1, .slice sa n ca), (10, .pointer (some ⟨bx, 0, none⟩)), (14, .slice wa (n + n) wc), (15, .pointer (some ⟨bh, 0, none⟩)), (17, .int .i64 (0 : Nat))] (.cons rfl (.cons rfl (.cons rfl (.cons rfl (.cons rfl (.cons rfl (.nil _))))))) ?_ ?_
  · skip
    exact ⟨0, _, _, rfl, Nat.zero_le _, rfl, hT, by rw [List.drop_zero]; exact hvh, hvx, hw, hoh, hox⟩
  have hbw : w.heap.size ≤ bh ∧ w.heap.size ≤ bx ∧ bh ≠ bx := by omega
  clear hT hvh hvx hw hoh hox
  rintro mm l1 w1 ⟨i, v, M1, rfl, hi, rfl, hT, hvh, hvx, hw, hoh, hox⟩
  obtain ⟨dh, uh, rfl⟩ := hvh.iface hk0
  have hlo1 := hoh.1.lt
  have hlx1 := hox.1.lt
  refine cw_seq fun _ hK19 => ?_
  refine cw_rs fun _ κ => ?_
  refine Sm rfl rfl ?_
  refine Sm rfl rfl ?_
  refine as_q rfl rfl (q_len (by kernel_rfl) rfl _) ?_
  refine as_q rfl rfl (q_lt rfl rfl) ?_
  refine as_nil (κ _ _ ?_)
  refine cw_cond rfl (fun hc4 => ?_) (fun hc4 => ?_)
  · skip
    have hlt : i < (n + n) := by have := of_decide_eq_true hc4; omega
    obtain ⟨y, hy⟩ : ∃ y, L[i]? = some y := ⟨L[i]'(by omega), by simp⟩
    have hdr : L.drop i = y :: L.drop (i + 1) := by
      rw [List.drop_eq_getElem_cons (by omega)]
      obtain ⟨_, h⟩ := List.getElem?_eq_some_iff.1 hy
      rw [h]
    rw [hdr] at hvh
    have hfe1 : fullE k (y :: L.drop (i + 1)) = 0 := by unfold fullE; rw [if_neg hk0, if_neg (by simp)]
    obtain ⟨g, o, rfl⟩ := hw.there (by omega)
    refine cw_skip ?_
    refine hK19 _ _ ?_
    refine cw_seq fun _ hK21 => ?_
    refine cw_block ?_
    refine cw_rs fun _ κ => ?_
    refine Sc 1 rfl (by kernel_rfl) rfl (by exact Blk.cells hoh.1 rfl) ?_
    refine as_h rfl (h_call (by kernel_rfl) rfl ?_)
    refine (hp_min hT.sat hvh (by rw [← hdr, List.length_drop]; omega)).mono ?_
    rintro _ w19 ⟨hq19, hs19⟩
    rw [hfe1] at hq19
    subst hq19
    replace hvh := hvh.mono hs19.le
    replace hvx := hvx.mono hs19.le
    replace hw := hw.mono hs19.le
    replace hoh := hoh.then hs19
    replace hox := hox.then hs19
    replace hT := hT.then hs19
    have hz19 := hs19.size
    refine Sm rfl rfl ?_
    refine Se rfl rfl rfl ?_
    refine Se rfl rfl rfl ?_
    have hqaz := hT.size
    refine as_h rfl (h_allocO (z := (.agg #[(.int .i64 0), (.int .i64 0)])) hs19.sat (by kernel_rfl) rfl fun bz w20 hs20 hoz ez => ?_)
    replace hvh := hvh.mono hs20.le
    replace hvx := hvx.mono hs20.le
    replace hw := hw.mono hs20.le
    replace hoh := hoh.then hs20
    replace hox := hox.then hs20
    replace hT := hT.then hs20
    have hz20 := hs20.size
    have hlz := hoz.1.lt
    refine as_h0 (h_store hs20.sat hoz rfl rfl rfl (by kernel_rfl) rfl rfl rfl fun w21 hs21 hn21 => ?_)
    replace hvh := hvh.mono hs21.le
    replace hvx := hvx.mono hs21.le
    replace hw := hw.mono hs21.le
    replace hoh := hoh.step hs21 (fun h => by have h : _ = _ := h; omega)
    replace hox := hox.step hs21 (fun h => by have h : _ = _ := h; omega)
    clear hoz; have hoz := hn21; clear hn21
    replace hT := hT.own hs21 (by omega)
    have hz21 := hs21.size
    refine Sa rfl rfl ?_
    refine as_nil (κ _ _ ?_)
    refine cw_rs fun _ κ => ?_
    refine Sc 1 rfl (by kernel_rfl) rfl (by exact Blk.cells hoh.1 rfl) ?_
    refine as_h rfl (h_call (by kernel_rfl) rfl ?_)
    refine (hp_pop hs21.sat hvh (by rw [← hdr, List.length_drop]; omega)).mono ?_
    rintro _ w22 ⟨vn, Mn, hq22, hs22, hvn⟩
    rw [hfe1] at hq22
    subst hq22
    replace hvn : HVal Mn k (L.drop (i + 1)) vn := hvn
    replace hvh := hvh.mono hs22.le
    replace hvx := hvx.mono hs22.le
    replace hw := hw.mono hs22.le
    replace hoh := hoh.then hs22
    replace hox := hox.then hs22
    replace hoz := hoz.then hs22
    replace hT := hT.then hs22
    have hz22 := hs22.size
    obtain ⟨dn, un, rfl⟩ := hvn.iface hk0
    refine Sm rfl rfl ?_
    refine Se rfl rfl rfl ?_
    refine Se rfl rfl rfl ?_
    have hqan := hT.size
    refine as_h rfl (h_allocO (z := (.agg #[.nilIface])) hs22.sat (by kernel_rfl) rfl fun bn w23 hs23 hon en => ?_)
    replace hvh := hvh.mono hs23.le
    replace hvx := hvx.mono hs23.le
    replace hw := hw.mono hs23.le
    replace hoh := hoh.then hs23
    replace hox := hox.then hs23
    replace hoz := hoz.then hs23
    replace hvn := hvn.mono hs23.le
    replace hT := hT.then hs23
    have hz23 := hs23.size
    have hln := hon.1.lt
    refine as_h0 (h_store hs23.sat hon rfl rfl rfl (by kernel_rfl) rfl rfl rfl fun w24 hs24 hn24 => ?_)
    replace hvh := hvh.mono hs24.le
    replace hvx := hvx.mono hs24.le
    replace hw := hw.mono hs24.le
    replace hoh := hoh.step hs24 (fun h => by have h : _ = _ := h; omega)
    replace hox := hox.step hs24 (fun h => by have h : _ = _ := h; omega)
    replace hoz := hoz.step hs24 (fun h => by have h : _ = _ := h; omega)
    replace hvn := hvn.mono hs24.le
    clear hon; have hon := hn24; clear hn24
    replace hT := hT.own hs24 (by omega)
    have hz24 := hs24.size
    refine Sa rfl rfl ?_
    refine as_nil (κ _ _ ?_)
    refine cw_seq fun _ hK24 => ?_
    refine cw_dr (by kernel_rfl) fun _ κ => ?_
    have hs25 := Step.drew hs24.sat
    have hz25 := hs25.size
    replace hvh := hvh.mono hs25.le
    replace hvx := hvx.mono hs25.le
    replace hw := hw.mono hs25.le
    replace hoh := hoh.then hs25
    replace hox := hox.then hs25
    replace hoz := hoz.then hs25
    replace hvn := hvn.mono hs25.le
    replace hon := hon.then hs25
    replace hT := hT.then hs25
    refine Dm 0 1 rfl (by kernel_rfl) rfl ?_
    refine Dq 1 3 rfl (by kernel_rfl) (fun _ => (q_neF rfl rfl (by omega))) ?_
    refine Dm 2 7 rfl (by kernel_rfl) rfl ?_
    refine Dgq 3 15 rfl (by kernel_rfl) rfl rfl (fun _ => (q_move rfl)) ?_
    refine Dgq 4 31 rfl (by kernel_rfl) rfl rfl (fun _ => (q_neF rfl rfl (by omega))) ?_
    refine Dq 5 63 rfl (by kernel_rfl) (fun _ => (q_pick_f rfl rfl)) ?_
    refine Dm 6 127 rfl (by kernel_rfl) rfl ?_
    refine at_gq (i := 7) (li := lb 14 255) (cellsAre _ _ 2 _) rfl (by kernel_rfl) rfl rfl rfl rfl (fun _ h => q_loadc (n := 2) (by kernel_rfl) rfl h) (by exact Blk.cells hoz.1 rfl) (by kernel_rfl) ?_
    refine Dgq 8 511 rfl (by kernel_rfl) rfl rfl (fun _ => (q_move rfl)) ?_
    refine Dgq 9 1023 rfl (by kernel_rfl) rfl rfl (fun _ => (q_move rfl)) ?_
    refine Dgq 10 2047 rfl (by kernel_rfl) rfl rfl (fun _ => (q_indexAddr (e := 24) (size := 2) (by kernel_rfl) (by kernel_rfl) rfl rfl (by omega) (by omega))) ?_
    refine at_gq (i := 11) (li := lb 14 4095) (cellsAre _ _ 2 _) rfl (by kernel_rfl) rfl rfl rfl rfl (fun _ h => q_loadc (n := 2) (by kernel_rfl) rfl h) ((hw.rd hT.sat).el (j := (i : Int).toNat) (by simpa using hy)) (by kernel_rfl) ?_
    refine Dgq 12 8191 rfl (by kernel_rfl) rfl rfl (fun _ => (q_congr (q_neE (a := y) (b := y) (e := 2) (by kernel_rfl) (by kernel_rfl) (by kernel_rfl) (by kernel_rfl) (by kernel_rfl) (by kernel_rfl) rfl rfl) (v' := .bool false) (by simp))) ?_
    refine Dq 13 16383 rfl (by kernel_rfl) (fun _ => (q_pick_f rfl rfl)) ?_
    refine Dd (by kernel_rfl) (κ _ _ ?_)
    refine cw_false rfl ?_
    refine cw_skip ?_
    refine hK24 _ _ ?_
    refine cw_region fun _ κ => ?_
    refine Sc 1 rfl (by kernel_rfl) rfl (by exact Blk.cells hon.1 rfl) ?_
    refine as_h0 (h_store hs25.sat hoh rfl rfl rfl (by kernel_rfl) rfl rfl rfl fun w26 hs26 hn26 => ?_)
    replace hvh := hvh.mono hs26.le
    replace hvx := hvx.mono hs26.le
    replace hw := hw.mono hs26.le
    replace hox := hox.step hs26 (fun h => by have h : _ = _ := h; omega)
    replace hvn := hvn.mono hs26.le
    clear hoh; have hoh := hn26; clear hn26
    replace hT := hT.own hs26 (by omega)
    have hz26 := hs26.size
    refine as_nil (κ _ _ ?_)
    refine hK21 _ _ ?_
    refine cw_region fun _ κ => ?_
    refine Sm rfl rfl ?_
    refine as_q rfl rfl (q_addx rfl rfl (by omega) (by omega)) ?_
    refine Sa rfl rfl ?_
    refine as_nil (κ _ _ ?_)
    refine ⟨_, _, ?_, (.cons rfl (.cons rfl (.cons rfl (.cons rfl (.cons rfl (.cons rfl (.nil _))))))), i + 1, _, _, rfl, by omega, rfl, hT, hvn, hvx, hw, hoh, hox⟩
    omega
  · skip
    have hge : i = (n + n) := by have := of_decide_eq_false hc4; omega
    rw [List.drop_eq_nil_of_le (by omega)] at hvh
    have hfe0 : fullE k [] = 23 := by unfold fullE; rw [if_neg hk0]; rfl
    refine cw_exit ?_
    refine hK17 _ _ ?_
    refine cw_rs fun _ κ => ?_
    refine Sc 1 rfl (by kernel_rfl) rfl (by exact Blk.cells hoh.1 rfl) ?_
    refine as_h rfl (h_call (by kernel_rfl) rfl ?_)
    refine (hp_min hT.sat hvh (by decide)).mono ?_
    rintro _ w27 ⟨hq27, hs27⟩
    rw [hfe0] at hq27
    subst hq27
    replace hvx := hvx.mono hs27.le
    replace hox := hox.then hs27
    replace hT := hT.then hs27
    have hz27 := hs27.size
    refine Sm rfl rfl ?_
    refine Se rfl rfl rfl ?_
    refine Se rfl rfl rfl ?_
    have hqae := hT.size
    refine as_h rfl (h_allocO (z := (.agg #[(.int .i64 0), (.int .i64 0)])) hs27.sat (by kernel_rfl) rfl fun be w28 hs28 hoe ee => ?_)
    replace hvx := hvx.mono hs28.le
    replace hox := hox.then hs28
    replace hT := hT.then hs28
    have hz28 := hs28.size
    have hle := hoe.1.lt
    refine as_h0 (h_store hs28.sat hoe rfl rfl rfl (by kernel_rfl) rfl rfl rfl fun w29 hs29 hn29 => ?_)
    replace hvx := hvx.mono hs29.le
    replace hox := hox.step hs29 (fun h => by have h : _ = _ := h; omega)
    clear hoe; have hoe := hn29; clear hn29
    replace hT := hT.own hs29 (by omega)
    have hz29 := hs29.size
    refine Sa rfl rfl ?_
    refine as_nil (κ _ _ ?_)
    refine cw_rs fun _ κ => ?_
    refine Sm rfl rfl ?_
    refine as_q rfl rfl (q_eqT rfl rfl (by omega)) ?_
    refine Sm rfl rfl ?_
    refine as_gh rfl rfl rfl rfl (h_q rfl (q_loadc (n := 1) (by kernel_rfl) rfl (by exact Blk.cells hox.1 rfl)) ?_)
    refine as_gh rfl rfl rfl rfl (h_call (by kernel_rfl) rfl ?_)
    refine (hp_size hs29.sat hvx (by rw [srtE_length]; omega)).mono ?_
    rintro _ w30 ⟨hq30, hs30⟩
    rw [srtE_length, hxl] at hq30
    subst hq30
    replace hT := hT.then hs30
    have hz30 := hs30.size
    refine as_gh rfl rfl rfl rfl (h_q rfl (q_move rfl) ?_)
    refine as_gh rfl rfl rfl rfl (h_q rfl (q_len (by kernel_rfl) rfl _) ?_)
    refine as_gh rfl rfl rfl rfl (h_q rfl (q_eqT rfl rfl (by omega)) ?_)
    refine as_q rfl rfl (q_pick_t rfl rfl) ?_
    refine Sa rfl rfl ?_
    refine as_nil (κ _ _ ?_)
    refine cw_ret ?_
    exact ⟨_, (res_tmp rfl res_nil), rfl, hT.forget⟩
set_option maxRecDepth 8000 in
theorem heapDrains_0 {w : World} {M : Mem} {z : Int} {sa sb : Option Addr} {n m ca cb : Nat} {xs ys : List El} (hs : Sat M w) (hr : RdM M 2 (.slice sa n ca) n (els xs)) (hr2 : RdM M 2 (.slice sb m cb) m (els ys)) (hz : 1 ≤ z ∧ z ≤ 6) (hn : n ≤ 40) (hm : m ≤ 40) :
    Does Tryz.prog 7 #[.int .i64 z, .slice sa n ca, .slice sb m cb, .bool false] w (fun v w' => v = .bool true ∧ Step Nope M w M w') := by
  have hT := Step.refl Nope hs
  obtain ⟨k, hkz⟩ : ∃ k : Nat, (k : Int) = z := ⟨z.toNat, by omega⟩
  have hem : emE z = 0 := by unfold emE; rw [if_pos hz]
  have hekz : emK z = k := by unfold emK; rw [if_pos hz]; omega
  have hk0 : k ≠ 0 := by omega
  have hofl : ∀ l, ofL z l = srtE l := fun l => by unfold ofL; rw [if_pos hz]
  have hbad : ¬ badM k k := by unfold badM; omega
  have hxl := (hr.rds w).els_len hs
  have hyl := (hr2.rds w).els_len hs
  refine fn_enter Tryz.func7 rfl (rs := [.tmp 8]) rfl rfl rfl rfl ?_
  refine cw_rs fun _ κ => ?_
  refine Sa rfl rfl ?_
  refine as_nil (κ _ _ ?_)
  refine cw_rs fun _ κ => ?_
  refine as_h rfl (h_call (by kernel_rfl) rfl ?_)
  refine (awake15 hs).mono ?_
  rintro _ w1 ⟨rfl, hs1⟩
  replace hr := hr.mono hs1.le
  replace hr2 := hr2.mono hs1.le
  replace hT := hT.then hs1
  have hz1 := hs1.size
  refine Sa rfl rfl ?_
  refine as_nil (κ _ _ ?_)
  refine cw_seq fun _ hK3 => ?_
  refine cw_rs fun _ κ => ?_
  refine Sm rfl rfl ?_
  refine as_q rfl rfl (q_not rfl) ?_
  refine as_nil (κ _ _ ?_)
  refine cw_false rfl ?_
  refine cw_skip ?_
  refine hK3 _ _ ?_
  refine cw_seq fun _ hK5 => ?_
  refine cw_rs fun _ κ => ?_
  refine Sm rfl rfl ?_
  refine as_q rfl rfl (q_len (by kernel_rfl) rfl _) ?_
  refine as_q rfl rfl (q_gtF rfl rfl (by omega)) ?_
  refine Sm rfl rfl ?_
  refine as_gh rfl rfl rfl rfl (h_q rfl (q_move rfl) ?_)
  refine as_gh rfl rfl rfl rfl (h_q rfl (q_len (by kernel_rfl) rfl _) ?_)
  refine as_gh rfl rfl rfl rfl (h_q rfl (q_gtF rfl rfl (by omega)) ?_)
  refine as_q rfl rfl (q_pick_f rfl rfl) ?_
  refine Sm rfl rfl ?_
  refine as_gh rfl rfl rfl rfl (h_q rfl (q_move rfl) ?_)
  refine as_gh rfl rfl rfl rfl (h_q rfl (q_ltF rfl rfl (by omega)) ?_)
  refine as_q rfl rfl (q_pick_f rfl rfl) ?_
  refine Sm rfl rfl ?_
  refine as_gh rfl rfl rfl rfl (h_q rfl (q_move rfl) ?_)
  refine as_gh rfl rfl rfl rfl (h_q rfl (q_gtF rfl rfl (by omega)) ?_)
  refine as_q rfl rfl (q_pick_f rfl rfl) ?_
  refine as_nil (κ _ _ ?_)
  refine cw_false rfl ?_
  refine cw_skip ?_
  refine hK5 _ _ ?_
  refine cw_rs fun _ κ => ?_
  refine Sm rfl rfl ?_
  refine Sm rfl rfl ?_
  refine as_h rfl (h_call (by kernel_rfl) rfl ?_)
  refine (hp_of (z := z) hs1.sat (hr.rds _) (by omega)).mono ?_
  rintro _ w2 ⟨vx, Mx, hrx, hs2, hvx⟩
  rw [hem] at hrx
  subst hrx
  rw [hekz, hofl] at hvx
  replace hr := hr.mono hs2.le
  replace hr2 := hr2.mono hs2.le
  replace hT := hT.then hs2
  have hz2 := hs2.size
  obtain ⟨dx, ux, rfl⟩ := hvx.iface hk0
  refine Sm rfl rfl ?_
  refine Se rfl rfl rfl ?_
  refine Se rfl rfl rfl ?_
  have hqax := hT.size
  refine as_h rfl (h_allocO (z := (.agg #[.nilIface])) hs2.sat (by kernel_rfl) rfl fun bx w3 hs3 hox ex => ?_)
  replace hr := hr.mono hs3.le
  replace hr2 := hr2.mono hs3.le
  replace hvx := hvx.mono hs3.le
  replace hT := hT.then hs3
  have hz3 := hs3.size
  have hlx := hox.1.lt
  refine as_h0 (h_store hs3.sat hox rfl rfl rfl (by kernel_rfl) rfl rfl rfl fun w4 hs4 hn4 => ?_)
  replace hr := hr.mono hs4.le
  replace hr2 := hr2.mono hs4.le
  replace hvx := hvx.mono hs4.le
  clear hox; have hox := hn4; clear hn4
  replace hT := hT.own hs4 (by omega)
  have hz4 := hs4.size
  refine Sa rfl rfl ?_
  refine as_nil (κ _ _ ?_)
  refine cw_rs fun _ κ => ?_
  refine Sm rfl rfl ?_
  refine Sm rfl rfl ?_
  refine as_h rfl (h_call (by kernel_rfl) rfl ?_)
  refine (hp_of (z := z) hs4.sat (hr2.rds _) (by omega)).mono ?_
  rintro _ w5 ⟨vy, My, hry, hs5, hvy⟩
  rw [hem] at hry
  subst hry
  rw [hekz, hofl] at hvy
  replace hr := hr.mono hs5.le
  replace hr2 := hr2.mono hs5.le
  replace hvx := hvx.mono hs5.le
  replace hox := hox.then hs5
  replace hT := hT.then hs5
  have hz5 := hs5.size
  obtain ⟨dy, uy, rfl⟩ := hvy.iface hk0
  refine Sm rfl rfl ?_
  refine Se rfl rfl rfl ?_
  refine Se rfl rfl rfl ?_
  have hqaq := hT.size
  refine as_h rfl (h_allocO (z := (.agg #[.nilIface])) hs5.sat (by kernel_rfl) rfl fun bq w6 hs6 hoq eq => ?_)
  replace hr := hr.mono hs6.le
  replace hr2 := hr2.mono hs6.le
  replace hvx := hvx.mono hs6.le
  replace hox := hox.then hs6
  replace hvy := hvy.mono hs6.le
  replace hT := hT.then hs6
  have hz6 := hs6.size
  have hlq := hoq.1.lt
  refine as_h0 (h_store hs6.sat hoq rfl rfl rfl (by kernel_rfl) rfl rfl rfl fun w7 hs7 hn7 => ?_)
  replace hr := hr.mono hs7.le
  replace hr2 := hr2.mono hs7.le
  replace hvx := hvx.mono hs7.le
  replace hox := hox.step hs7 (fun h => by have h : _ = _ := h; omega)
  replace hvy := hvy.mono hs7.le
  clear hoq; have hoq := hn7; clear hn7
  replace hT := hT.own hs7 (by omega)
  have hz7 := hs7.size
  refine Sa rfl rfl ?_
  refine as_nil (κ _ _ ?_)
  refine cw_rs fun _ κ => ?_
  refine Sm rfl rfl ?_
  refine as_h rfl (h_call (by kernel_rfl) rfl ?_)
  refine (ref_sort hs7.sat hr (by omega)).mono ?_
  rintro sp w8 ⟨Mp, hs8, hbp⟩
  replace hr2 := hr2.mono hs8.le
  replace hvx := hvx.mono hs8.le
  replace hox := hox.then hs8
  replace hvy := hvy.mono hs8.le
  replace hoq := hoq.then hs8
  replace hT := hT.then hs8
  have hz8 := hs8.size
  refine Sm rfl rfl ?_
  refine as_h rfl (h_call (by kernel_rfl) rfl ?_)
  refine (ref_sort hs8.sat hr2 (by omega)).mono ?_
  rintro sq w9 ⟨Mq, hs9, hbq⟩
  replace hvx := hvx.mono hs9.le
  replace hox := hox.then hs9
  replace hvy := hvy.mono hs9.le
  replace hoq := hoq.then hs9
  replace hbp := hbp.mono hs9.le
  replace hT := hT.then hs9
  have hz9 := hs9.size
  refine as_h rfl (h_call (by kernel_rfl) rfl ?_)
  refine (ref_sum hs9.sat hbp hbq (by omega)).mono ?_
  rintro wva w10 ⟨Ma, hs10, hwa⟩
  rw [foldl_srt] at hwa
  replace hvx := hvx.mono hs10.le
  replace hox := hox.then hs10
  replace hvy := hvy.mono hs10.le
  replace hoq := hoq.then hs10
  replace hT := hT.then hs10
  have hz10 := hs10.size
  refine Sa rfl rfl ?_
  refine as_nil (κ _ _ ?_)
  refine cw_seq fun _ hK10 => ?_
  refine cw_rs fun _ κ => ?_
  refine Sm rfl rfl ?_
  refine as_nil (κ _ _ ?_)
  refine cw_false rfl ?_
  refine cw_skip ?_
  refine hK10 _ _ ?_
  refine cw_rs fun _ κ => ?_
  refine Sc 1 rfl (by kernel_rfl) rfl (by exact Blk.cells hox.1 rfl) ?_
  refine Sc 1 rfl (by kernel_rfl) rfl (by exact Blk.cells hoq.1 rfl) ?_
  refine as_h rfl (h_call (by kernel_rfl) rfl ?_)
  refine (hp_meld hs10.sat hvx hvy (by rw [srtE_length, srtE_length]; omega)).mono ?_
  rintro _ w11 ⟨vh, Mh, hrh, hs11, hvh⟩
  rw [melE, if_neg hbad] at hrh
  subst hrh
  rw [melK, melL, if_neg hbad, if_neg hbad, ← srtE_app] at hvh
  replace hvx := hvx.mono hs11.le
  replace hox := hox.then hs11
  replace hwa := hwa.mono hs11.le
  replace hT := hT.then hs11
  have hz11 := hs11.size
  obtain ⟨dh, uh, rfl⟩ := hvh.iface hk0
  refine Sm rfl rfl ?_
  refine Se rfl rfl rfl ?_
  refine Se rfl rfl rfl ?_
  have hqah := hT.size
  refine as_h rfl (h_allocO (z := (.agg #[.nilIface])) hs11.sat (by kernel_rfl) rfl fun bh w12 hs12 hoh eh => ?_)
  replace hvx := hvx.mono hs12.le
  replace hox := hox.then hs12
  replace hwa := hwa.mono hs12.le
  replace hvh := hvh.mono hs12.le
  replace hT := hT.then hs12
  have hz12 := hs12.size
  have hlh := hoh.1.lt
  refine as_h0 (h_store hs12.sat hoh rfl rfl rfl (by kernel_rfl) rfl rfl rfl fun w13 hs13 hn13 => ?_)
  replace hvx := hvx.mono hs13.le
  replace hox := hox.step hs13 (fun h => by have h : _ = _ := h; omega)
  replace hwa := hwa.mono hs13.le
  replace hvh := hvh.mono hs13.le
  clear hoh; have hoh := hn13; clear hn13
  replace hT := hT.own hs13 (by omega)
  have hz13 := hs13.size
  refine Sa rfl rfl ?_
  refine as_nil (κ _ _ ?_)
  refine cw_seq fun _ hK13 => ?_
  refine cw_rs fun _ κ => ?_
  obtain ⟨L, hL⟩ : ∃ L, L = srtE (xs ++ ys) := ⟨_, rfl⟩
  have hLn : L.length = (n + m) := by rw [hL, srtE_length, List.length_append]; omega
  have hw := hwa
  obtain ⟨wa, wc, rfl, _, _⟩ := hw.slice
  rw [← hL] at hw hvh
  refine Sm rfl rfl ?_
  refine as_q rfl rfl (q_neF rfl rfl (by omega)) ?_
  refine Sm rfl rfl ?_
  refine as_gh rfl rfl rfl rfl (h_q rfl (q_move rfl) ?_)
  refine as_gh rfl rfl rfl rfl (h_q rfl (q_neF rfl rfl (by omega)) ?_)
  refine as_q rfl rfl (q_pick_f rfl rfl) ?_
  refine Sm rfl rfl ?_
  refine as_gh rfl rfl rfl rfl (h_q rfl (q_move rfl) ?_)
  refine as_gh rfl rfl rfl rfl (h_q rfl (q_neF rfl rfl (by omega)) ?_)
  refine as_q rfl rfl (q_pick_f rfl rfl) ?_
  refine Sm rfl rfl ?_
  refine as_gh rfl rfl rfl rfl (h_q rfl (q_loadc (n := 1) (by kernel_rfl) rfl (by exact Blk.cells hoh.1 rfl)) ?_)
  refine as_gh rfl rfl rfl rfl (h_call (by kernel_rfl) rfl ?_)
  refine (hp_size hs13.sat hvh (by omega)).mono ?_
  rintro _ w14 ⟨hq14, hs14⟩
  rw [hLn] at hq14
  subst hq14
  replace hvx := hvx.mono hs14.le
  replace hox := hox.then hs14
  replace hvh := hvh.mono hs14.le
  replace hoh := hoh.then hs14
  replace hw := hw.mono hs14.le
  replace hT := hT.then hs14
  have hz14 := hs14.size
  refine as_gh rfl rfl rfl rfl (h_q rfl (q_move rfl) ?_)
  refine as_gh rfl rfl rfl rfl (h_q rfl (q_len (by kernel_rfl) rfl _) ?_)
  refine as_gh rfl rfl rfl rfl (h_q rfl (q_neF rfl rfl (by omega)) ?_)
  refine as_q rfl rfl (q_pick_f rfl rfl) ?_
  refine as_nil (κ _ _ ?_)
  refine cw_false rfl ?_
  refine cw_skip ?_
  refine hK13 _ _ ?_
  refine cw_seq fun _ hK15 => ?_
  refine cw_rs fun _ κ => ?_
  refine Sa rfl rfl ?_
  refine as_nil (κ _ _ ?_)
  refine cw_block ?_
  refine cw_loop (fun mm l1 w1 => ∃ (i : Nat) (v : Value) (M1 : Mem), mm = (n + m) - i ∧ i ≤ (n + m) ∧ l1 = [(0, .int .i64 z), (1, .slice sa n ca), (10, .pointer (some ⟨bx, 0, none⟩)), (14, .slice wa (n + m) wc), (15, .pointer (some ⟨bh, 0, none⟩)), (17, .int .i64 i)] ∧ Step Nope M w M1 w1 ∧ HVal M1 k (L.drop i) v ∧ HVal M1 k (srtE xs) (.iface dx ux) ∧ RdM M1 2 (.slice wa (n + m) wc) (n + m) (els L) ∧ Own w1 M1 bh [v] 29 ∧ Own w1 M1 bx [.iface dx ux] 29) ((n + m)) [(0, .int .i64 z), (1, .slice sa n ca), (10, .pointer (some ⟨bx, 0, none⟩)), (14, .slice wa (n + m) wc), (15, .pointer (some ⟨bh, 0, none⟩)), (17, .int .i64 (0 : Nat))] (.cons rfl (.cons rfl (.cons rfl (.cons rfl (.cons rfl (.cons rfl (.nil _))))))) ?_ ?_
  · skip
    exact ⟨0, _, _, rfl, Nat.zero_le _, rfl, hT, by rw [List.drop_zero]; exact hvh, hvx, hw, hoh, hox⟩
  have hbw : w.heap.size ≤ bh ∧ w.heap.size ≤ bx ∧ bh ≠ bx := by omega
  clear hT hvh hvx hw hoh hox
  rintro mm l1 w1 ⟨i, v, M1, rfl, hi, rfl, hT, hvh, hvx, hw, hoh, hox⟩
  obtain ⟨dh, uh, rfl⟩ := hvh.iface hk0
  have hlo1 := hoh.1.lt
  have hlx1 := hox.1.lt
  refine cw_seq fun _ hK17 => ?_
  refine cw_rs fun _ κ => ?_
  refine Sm rfl rfl ?_
  refine Sm rfl rfl ?_
  refine as_q rfl rfl (q_len (by kernel_rfl) rfl _) ?_
  refine as_q rfl rfl (q_lt rfl rfl) ?_
  refine as_nil (κ _ _ ?_)
  refine cw_cond rfl (fun hc4 => ?_) (fun hc4 => ?_)
  · skip
    have hlt : i < (n + m) := by have := of_decide_eq_true hc4; omega
    obtain ⟨y, hy⟩ : ∃ y, L[i]? = some y := ⟨L[i]'(by omega), by simp⟩
    have hdr : L.drop i = y :: L.drop (i + 1) := by
      rw [List.drop_eq_getElem_cons (by omega)]
      obtain ⟨_, h⟩ := List.getElem?_eq_some_iff.1 hy
      rw [h]
    rw [hdr] at hvh
    have hfe1 : fullE k (y :: L.drop (i + 1)) = 0 := by unfold fullE; rw [if_neg hk0, if_neg (by simp)]
    obtain ⟨g, o, rfl⟩ := hw.there (by omega)
    refine cw_skip ?_
    refine hK17 _ _ ?_
    refine cw_seq fun _ hK19 => ?_
    refine cw_block ?_
    refine cw_rs fun _ κ => ?_
    refine Sc 1 rfl (by kernel_rfl) rfl (by exact Blk.cells hoh.1 rfl) ?_
    refine as_h rfl (h_call (by kernel_rfl) rfl ?_)
    refine (hp_min hT.sat hvh (by rw [← hdr, List.length_drop]; omega)).mono ?_
    rintro _ w15 ⟨hq15, hs15⟩
    rw [hfe1] at hq15
    subst hq15
    replace hvh := hvh.mono hs15.le
    replace hvx := hvx.mono hs15.le
    replace hw := hw.mono hs15.le
    replace hoh := hoh.then hs15
    replace hox := hox.then hs15
    replace hT := hT.then hs15
    have hz15 := hs15.size
    refine Sm rfl rfl ?_
    refine Se rfl rfl rfl ?_
    refine Se rfl rfl rfl ?_
    have hqaz := hT.size
    refine as_h rfl (h_allocO (z := (.agg #[(.int .i64 0), (.int .i64 0)])) hs15.sat (by kernel_rfl) rfl fun bz w16 hs16 hoz ez => ?_)
    replace hvh := hvh.mono hs16.le
    replace hvx := hvx.mono hs16.le
    replace hw := hw.mono hs16.le
    replace hoh := hoh.then hs16
    replace hox := hox.then hs16
    replace hT := hT.then hs16
    have hz16 := hs16.size
    have hlz := hoz.1.lt
    refine as_h0 (h_store hs16.sat hoz rfl rfl rfl (by kernel_rfl) rfl rfl rfl fun w17 hs17 hn17 => ?_)
    replace hvh := hvh.mono hs17.le
    replace hvx := hvx.mono hs17.le
    replace hw := hw.mono hs17.le
    replace hoh := hoh.step hs17 (fun h => by have h : _ = _ := h; omega)
    replace hox := hox.step hs17 (fun h => by have h : _ = _ := h; omega)
    clear hoz; have hoz := hn17; clear hn17
    replace hT := hT.own hs17 (by omega)
    have hz17 := hs17.size
    refine Sa rfl rfl ?_
    refine as_nil (κ _ _ ?_)
    refine cw_rs fun _ κ => ?_
    refine Sc 1 rfl (by kernel_rfl) rfl (by exact Blk.cells hoh.1 rfl) ?_
    refine as_h rfl (h_call (by kernel_rfl) rfl ?_)
    refine (hp_pop hs17.sat hvh (by rw [← hdr, List.length_drop]; omega)).mono ?_
    rintro _ w18 ⟨vn, Mn, hq18, hs18, hvn⟩
    rw [hfe1] at hq18
    subst hq18
    replace hvn : HVal Mn k (L.drop (i + 1)) vn := hvn
    replace hvh := hvh.mono hs18.le
    replace hvx := hvx.mono hs18.le
    replace hw := hw.mono hs18.le
    replace hoh := hoh.then hs18
    replace hox := hox.then hs18
    replace hoz := hoz.then hs18
    replace hT := hT.then hs18
    have hz18 := hs18.size
    obtain ⟨dn, un, rfl⟩ := hvn.iface hk0
    refine Sm rfl rfl ?_
    refine Se rfl rfl rfl ?_
    refine Se rfl rfl rfl ?_
    have hqan := hT.size
    refine as_h rfl (h_allocO (z := (.agg #[.nilIface])) hs18.sat (by kernel_rfl) rfl fun bn w19 hs19 hon en => ?_)
    replace hvh := hvh.mono hs19.le
    replace hvx := hvx.mono hs19.le
    replace hw := hw.mono hs19.le
    replace hoh := hoh.then hs19
    replace hox := hox.then hs19
    replace hoz := hoz.then hs19
    replace hvn := hvn.mono hs19.le
    replace hT := hT.then hs19
    have hz19 := hs19.size
    have hln := hon.1.lt
    refine as_h0 (h_store hs19.sat hon rfl rfl rfl (by kernel_rfl) rfl rfl rfl fun w20 hs20 hn20 => ?_)
    replace hvh := hvh.mono hs20.le
    replace hvx := hvx.mono hs20.le
    replace hw := hw.mono hs20.le
    replace hoh := hoh.step hs20 (fun h => by have h : _ = _ := h; omega)
    replace hox := hox.step hs20 (fun h => by have h : _ = _ := h; omega)
    replace hoz := hoz.step hs20 (fun h => by have h : _ = _ := h; omega)
    replace hvn := hvn.mono hs20.le
    clear hon; have hon := hn20; clear hn20
    replace hT := hT.own hs20 (by omega)
    have hz20 := hs20.size
    refine Sa rfl rfl ?_
    refine as_nil (κ _ _ ?_)
    refine cw_seq fun _ hK22 => ?_
    refine cw_dr (by kernel_rfl) fun _ κ => ?_
    have hs21 := Step.drew hs20.sat
    have hz21 := hs21.size
    replace hvh := hvh.mono hs21.le
    replace hvx := hvx.mono hs21.le
    replace hw := hw.mono hs21.le
    replace hoh := hoh.then hs21
    replace hox := hox.then hs21
    replace hoz := hoz.then hs21
    replace hvn := hvn.mono hs21.le
    replace hon := hon.then hs21
    replace hT := hT.then hs21
    refine Dm 0 1 rfl (by kernel_rfl) rfl ?_
    refine Dq 1 3 rfl (by kernel_rfl) (fun _ => (q_neF rfl rfl (by omega))) ?_
    refine Dm 2 7 rfl (by kernel_rfl) rfl ?_
    refine Dgq 3 15 rfl (by kernel_rfl) rfl rfl (fun _ => (q_move rfl)) ?_
    refine Dgq 4 31 rfl (by kernel_rfl) rfl rfl (fun _ => (q_neF rfl rfl (by omega))) ?_
    refine Dq 5 63 rfl (by kernel_rfl) (fun _ => (q_pick_f rfl rfl)) ?_
    refine Dm 6 127 rfl (by kernel_rfl) rfl ?_
    refine at_gq (i := 7) (li := lb 14 255) (cellsAre _ _ 2 _) rfl (by kernel_rfl) rfl rfl rfl rfl (fun _ h => q_loadc (n := 2) (by kernel_rfl) rfl h) (by exact Blk.cells hoz.1 rfl) (by kernel_rfl) ?_
    refine Dgq 8 511 rfl (by kernel_rfl) rfl rfl (fun _ => (q_move rfl)) ?_
    refine Dgq 9 1023 rfl (by kernel_rfl) rfl rfl (fun _ => (q_move rfl)) ?_
    refine Dgq 10 2047 rfl (by kernel_rfl) rfl rfl (fun _ => (q_indexAddr (e := 24) (size := 2) (by kernel_rfl) (by kernel_rfl) rfl rfl (by omega) (by omega))) ?_
    refine at_gq (i := 11) (li := lb 14 4095) (cellsAre _ _ 2 _) rfl (by kernel_rfl) rfl rfl rfl rfl (fun _ h => q_loadc (n := 2) (by kernel_rfl) rfl h) ((hw.rd hT.sat).el (j := (i : Int).toNat) (by simpa using hy)) (by kernel_rfl) ?_
    refine Dgq 12 8191 rfl (by kernel_rfl) rfl rfl (fun _ => (q_congr (q_neE (a := y) (b := y) (e := 2) (by kernel_rfl) (by kernel_rfl) (by kernel_rfl) (by kernel_rfl) (by kernel_rfl) (by kernel_rfl) rfl rfl) (v' := .bool false) (by simp))) ?_
    refine Dq 13 16383 rfl (by kernel_rfl) (fun _ => (q_pick_f rfl rfl)) ?_
    refine Dd (by kernel_rfl) (κ _ _ ?_)
    refine cw_false rfl ?_
    refine cw_skip ?_
    refine hK22 _ _ ?_
    refine cw_region fun _ κ => ?_
    refine Sc 1 rfl (by kernel_rfl) rfl (by exact Blk.cells hon.1 rfl) ?_
    refine as_h0 (h_store hs21.sat hoh rfl rfl rfl (by kernel_rfl) rfl rfl rfl fun w22 hs22 hn22 => ?_)
    replace hvh := hvh.mono hs22.le
    replace hvx := hvx.mono hs22.le
    replace hw := hw.mono hs22.le
    replace hox := hox.step hs22 (fun h => by have h : _ = _ := h; omega)
    replace hvn := hvn.mono hs22.le
    clear hoh; have hoh := hn22; clear hn22
    replace hT := hT.own hs22 (by omega)
    have hz22 := hs22.size
    refine as_nil (κ _ _ ?_)
    refine hK19 _ _ ?_
    refine cw_region fun _ κ => ?_
    refine Sm rfl rfl ?_
    refine as_q rfl rfl (q_addx rfl rfl (by omega) (by omega)) ?_
    refine Sa rfl rfl ?_
    refine as_nil (κ _ _ ?_)
    refine ⟨_, _, ?_, (.cons rfl (.cons rfl (.cons rfl (.cons rfl (.cons rfl (.cons rfl (.nil _))))))), i + 1, _, _, rfl, by omega, rfl, hT, hvn, hvx, hw, hoh, hox⟩
    omega
  · skip
    have hge : i = (n + m) := by have := of_decide_eq_false hc4; omega
    rw [List.drop_eq_nil_of_le (by omega)] at hvh
    have hfe0 : fullE k [] = 23 := by unfold fullE; rw [if_neg hk0]; rfl
    refine cw_exit ?_
    refine hK15 _ _ ?_
    refine cw_rs fun _ κ => ?_
    refine Sc 1 rfl (by kernel_rfl) rfl (by exact Blk.cells hoh.1 rfl) ?_
    refine as_h rfl (h_call (by kernel_rfl) rfl ?_)
    refine (hp_min hT.sat hvh (by decide)).mono ?_
    rintro _ w23 ⟨hq23, hs23⟩
    rw [hfe0] at hq23
    subst hq23
    replace hvx := hvx.mono hs23.le
    replace hox := hox.then hs23
    replace hT := hT.then hs23
    have hz23 := hs23.size
    refine Sm rfl rfl ?_
    refine Se rfl rfl rfl ?_
    refine Se rfl rfl rfl ?_
    have hqae := hT.size
    refine as_h rfl (h_allocO (z := (.agg #[(.int .i64 0), (.int .i64 0)])) hs23.sat (by kernel_rfl) rfl fun be w24 hs24 hoe ee => ?_)
    replace hvx := hvx.mono hs24.le
    replace hox := hox.then hs24
    replace hT := hT.then hs24
    have hz24 := hs24.size
    have hle := hoe.1.lt
    refine as_h0 (h_store hs24.sat hoe rfl rfl rfl (by kernel_rfl) rfl rfl rfl fun w25 hs25 hn25 => ?_)
    replace hvx := hvx.mono hs25.le
    replace hox := hox.step hs25 (fun h => by have h : _ = _ := h; omega)
    clear hoe; have hoe := hn25; clear hn25
    replace hT := hT.own hs25 (by omega)
    have hz25 := hs25.size
    refine Sa rfl rfl ?_
    refine as_nil (κ _ _ ?_)
    refine cw_rs fun _ κ => ?_
    refine Sm rfl rfl ?_
    refine as_q rfl rfl (q_eqT rfl rfl (by omega)) ?_
    refine Sm rfl rfl ?_
    refine as_gh rfl rfl rfl rfl (h_q rfl (q_loadc (n := 1) (by kernel_rfl) rfl (by exact Blk.cells hox.1 rfl)) ?_)
    refine as_gh rfl rfl rfl rfl (h_call (by kernel_rfl) rfl ?_)
    refine (hp_size hs25.sat hvx (by rw [srtE_length]; omega)).mono ?_
    rintro _ w26 ⟨hq26, hs26⟩
    rw [srtE_length, hxl] at hq26
    subst hq26
    replace hT := hT.then hs26
    have hz26 := hs26.size
    refine as_gh rfl rfl rfl rfl (h_q rfl (q_move rfl) ?_)
    refine as_gh rfl rfl rfl rfl (h_q rfl (q_len (by kernel_rfl) rfl _) ?_)
    refine as_gh rfl rfl rfl rfl (h_q rfl (q_eqT rfl rfl (by omega)) ?_)
    refine as_q rfl rfl (q_pick_t rfl rfl) ?_
    refine Sa rfl rfl ?_
    refine as_nil (κ _ _ ?_)
    refine cw_ret ?_
    exact ⟨_, (res_tmp rfl res_nil), rfl, hT.forget⟩
theorem heapDrains_walk {w : World} {M : Mem} {z : Int} {va vb : Value} {n m : Nat} {xs ys : List El} {tw : Bool} (hs : Sat M w) (hr : RdM M 2 va n (els xs)) (hr2 : RdM M 2 vb m (els ys)) : Does Tryz.prog 7 #[.int .i64 z, va, vb, .bool tw] w (fun v w' => v = .bool true ∧ Step Nope M w M w') := by
  obtain ⟨sa, ca, rfl, _, _⟩ := hr.slice
  obtain ⟨sb, cb, rfl, _, _⟩ := hr2.slice
  by_cases hz : 40 < n ∨ 40 < m ∨ z < 1 ∨ 6 < z
  · exact heapDrains_b hs hz
  · cases tw
    · exact heapDrains_0 hs hr hr2 (by omega) (by omega) (by omega)
    · exact heapDrains_1 hs hr hr2 (by omega) (by omega) (by omega)
end Go.Proofs.YtgcgjpfjjgalmaaGreat
/- Elements, and rows of them, among a law s arguments. -/
namespace Go.Proofs.YtgcgjpfjjgalmaaGreat
open Go Go.Eng Go.ChangeShapes Go.WideShapes Go.RowKit
theorem two_cells {α : Type} : ∀ {cs : List α}, cs.length = 2 → ∃ a b, cs = [a, b]
  | [a, b], _ => ⟨a, b, rfl⟩
/-- Numbers of the kind. -/
def ElOk (e : El) : Prop := (-9223372036854775808 ≤ e.1 ∧ e.1 ≤ 9223372036854775807) ∧ (-9223372036854775808 ≤ e.2 ∧ e.2 ≤ 9223372036854775807)
section
variable {H : Type} {enc : TypeId × Value → H} {W : World} {spare : Nat → Bool} {held : Bool} {v : Value} {x : DataW H × List MemPlace} {fuel : Nat} {d : DataW H} {p : List MemPlace}
theorem read_el {cs : List Value} (h : DataW.trod enc Tryz.prog W 0 spare held fuel 24 cs = some x) : ∃ e : El, cs = elc e ∧ ElOk e := by
  obtain ⟨xs, n, _, _, hl, hx, hf⟩ := DataW.trod_struct Tryz.underlying24 h
  rw [show Tryz.prog.cellsOf 24 = 2 by kernel_rfl] at hl
  obtain ⟨a, b, rfl⟩ := two_cells hl
  have h0 := hf 0 _ rfl
  have h1 := hf 1 _ rfl
  rw [show Tryz.prog.cellsOf _ = 1 by kernel_rfl] at h0 h1
  rw [List.getElem?_eq_getElem (by rw [hx]; decide)] at h0 h1
  obtain ⟨m, hm, wm⟩ := DataW.trod_int Tryz.underlying2 h0
  obtain ⟨k, hk, wk⟩ := DataW.trod_int Tryz.underlying2 h1
  cases hm
  cases hk
  exact ⟨(m, k), rfl, by simpa [Lit.wf, IntKind.min, IntKind.max, IntKind.signed, IntKind.bits] using wm.2, by simpa [Lit.wf, IntKind.min, IntKind.max, IntKind.signed, IntKind.bits] using wk.2⟩
theorem read_els (hv : ∃ a n c, v = .slice a n c) (h : DataW.Trod enc Tryz.prog W 0 spare held 22 v d p) : ∃ (n : Nat) (xs : List El), RdM (memOf W) 2 v n (els xs) ∧ ∀ e ∈ xs, ElOk e := by
  obtain ⟨fuel, h⟩ := h
  obtain ⟨a, k, c, rfl⟩ := hv
  obtain ⟨n, ys, _, h1, h2⟩ := read_rows elc ElOk elc_length Tryz.underlying22 (show Tryz.prog.cellsOf 24 = 2 by kernel_rfl) (by decide) (fun _ cs x hx => read_el hx) (v := .slice a k c) h
  exact ⟨n, ys, h1, h2⟩
end
end Go.Proofs.YtgcgjpfjjgalmaaGreat
