/- Steps of the proof that the law of this claim answers true, part 6. No conditions. -/
import Derived.Shelf.Strings.OnBuilder
import Derived.Shelf.Strconv.Itoa4
import Derived.Test.YtgcgjpfjjgalmaaGreatProg
import Derived.Test.YtgcgjpfjjgalmaaGreatRows
import Derived.KernelRfl
import Derived.Test.YtgcgjpfjjgalmaaGreatCHeapKindsE
/- The calls of heap, part 2. -/
namespace Go.Proofs.YtgcgjpfjjgalmaaGreat
open Go Go.Eng
theorem hp_min_0 {w : World} {M : Mem} {k : Nat} {v : Value} (hs : Sat M w) (h : HVal M k [] v) :
    Does Tryz.prog 28 #[.agg #[v], .pointer none] w (fun r w' => r = .tuple #[.agg (elc (0, 0)).toArray, .int .i64 (fullE k [])] ∧ Step Nope M w M w') := by
  have hT := Step.refl Nope hs
  have hfe : fullE k [] = 22 ∨ fullE k [] = 23 := by unfold fullE; split <;> simp
  refine fn_enter Tryz.func28 rfl (rs := [.cell 4 24, .tmp 5]) rfl rfl rfl rfl ?_
  refine cw_rs fun _ κ => ?_
  refine as_h rfl (h_boxM hs rfl rfl fun b1 M1 w1 hs1 hb1 e1 => ?_)
  replace h := h.mono hs1.le
  replace hT := hT.then hs1
  have hz1 := hs1.size
  have hqar := hT.size
  refine as_h rfl (h_allocO (z := (.agg #[(.int .i64 0), (.int .i64 0)])) hs1.sat (by kernel_rfl) rfl fun br w2 hs2 hor er => ?_)
  replace h := h.mono hs2.le
  replace hb1 := hs2.le _ _ hb1
  replace hT := hT.then hs2
  have hz2 := hs2.size
  have hlr := hor.1.lt
  refine Sa rfl rfl ?_
  refine as_nil (κ _ _ ?_)
  refine cw_seq fun _ hK2 => ?_
  refine cw_rs fun _ κ => ?_
  refine Sc 1 rfl (by kernel_rfl) rfl (by exact BlkR.cells (hs2.sat _ _ _ hb1) rfl) ?_
  refine as_h rfl (h_call (by kernel_rfl) rfl ?_)
  refine (hp_full hs2.sat h (by decide)).mono ?_
  rintro _ w3 ⟨rfl, hs3⟩
  replace h := h.mono hs3.le
  replace hor := hor.then hs3
  replace hT := hT.then hs3
  have hz3 := hs3.size
  refine Sa rfl rfl ?_
  refine as_nil (κ _ _ ?_)
  refine cw_rs fun _ κ => ?_
  refine Sm rfl rfl ?_
  refine as_q rfl rfl (q_neT rfl rfl (by omega)) ?_
  refine as_nil (κ _ _ ?_)
  refine cw_true rfl ?_
  refine cw_rs fun _ κ => ?_
  refine as_q rfl rfl (q_build (zs := [(.int .i64 0), (.int .i64 0)]) (places := [(0, 1), (1, 1)]) (cs := [_, _]) (by kernel_rfl) (by kernel_rfl) rfl rfl) ?_
  refine Sm rfl rfl ?_
  refine as_h0 (h_store hs3.sat hor rfl rfl rfl (by kernel_rfl) rfl rfl rfl fun w4 hs4 hn4 => ?_)
  replace h := h.mono hs4.le
  clear hor; have hor := hn4; clear hn4
  replace hT := hT.own hs4 (by omega)
  have hz4 := hs4.size
  refine Sa rfl rfl ?_
  refine as_nil (κ _ _ ?_)
  refine cw_ret ?_
  exact ⟨_, (res_cell rfl (loadVar_n (n := 2) (by kernel_rfl) (by exact Blk.cells hor.1 rfl)) (res_tmp rfl res_nil)), rfl, hT.forget⟩
theorem hp_min_1 {w : World} {M : Mem} {k : Nat} {x : El} {l : List El} {v : Value} (hs : Sat M w) (h : HVal M k (x :: l) v) (hk : k ≠ 0) (hz : (x :: l).length < 1000000000) :
    Does Tryz.prog 28 #[.agg #[v], .pointer none] w (fun r w' => r = .tuple #[.agg (elc x).toArray, .int .i64 (fullE k (x :: l))] ∧ Step Nope M w M w') := by
  have hT := Step.refl Nope hs
  have hfe : fullE k (x :: l) = 0 := by unfold fullE; rw [if_neg hk, if_neg (by simp)]
  obtain ⟨d, u, rfl⟩ := h.iface hk
  refine fn_enter Tryz.func28 rfl (rs := [.cell 4 24, .tmp 5]) rfl rfl rfl rfl ?_
  refine cw_rs fun _ κ => ?_
  refine as_h rfl (h_boxM hs rfl rfl fun b1 M1 w1 hs1 hb1 e1 => ?_)
  replace h := h.mono hs1.le
  replace hT := hT.then hs1
  have hz1 := hs1.size
  have hqar := hT.size
  refine as_h rfl (h_allocO (z := (.agg #[(.int .i64 0), (.int .i64 0)])) hs1.sat (by kernel_rfl) rfl fun br w2 hs2 hor er => ?_)
  replace h := h.mono hs2.le
  replace hb1 := hs2.le _ _ hb1
  replace hT := hT.then hs2
  have hz2 := hs2.size
  have hlr := hor.1.lt
  refine Sa rfl rfl ?_
  refine as_nil (κ _ _ ?_)
  refine cw_seq fun _ hK2 => ?_
  refine cw_rs fun _ κ => ?_
  refine Sc 1 rfl (by kernel_rfl) rfl (by exact BlkR.cells (hs2.sat _ _ _ hb1) rfl) ?_
  refine as_h rfl (h_call (by kernel_rfl) rfl ?_)
  refine (hp_full hs2.sat h hz).mono ?_
  rintro _ w3 ⟨rfl, hs3⟩
  replace h := h.mono hs3.le
  replace hb1 := hs3.le _ _ hb1
  replace hor := hor.then hs3
  replace hT := hT.then hs3
  have hz3 := hs3.size
  refine Sa rfl rfl ?_
  refine as_nil (κ _ _ ?_)
  refine cw_rs fun _ κ => ?_
  refine Sm rfl rfl ?_
  refine as_q rfl rfl (q_neF rfl rfl (by omega)) ?_
  refine as_nil (κ _ _ ?_)
  refine cw_false rfl ?_
  refine cw_skip ?_
  refine hK2 _ _ ?_
  refine cw_rs fun _ κ => ?_
  refine Sf 0 rfl (by kernel_rfl) rfl ?_
  refine S1 rfl (by kernel_rfl) rfl (by exact BlkR.cell (hs3.sat _ _ _ hb1) rfl) ?_
  refine Sm rfl rfl ?_
  obtain ⟨d0, u0, f0, r0, hv0, hc0_, hm0, hd0⟩ := hv_min hs3.sat h hz
  cases hv0
  refine as_h rfl (h_invokeP hc0_ rfl rfl (hm0 _) ?_)
  refine hd0.mono ?_
  rintro _ w4 ⟨rfl, hs4⟩
  replace h := h.mono hs4.le
  replace hor := hor.then hs4
  replace hT := hT.then hs4
  have hz4 := hs4.size
  refine Sm rfl rfl ?_
  refine Se rfl rfl rfl ?_
  refine Se rfl rfl rfl ?_
  have hqax := hT.size
  refine as_h rfl (h_allocO (z := (.agg #[(.int .i64 0), (.int .i64 0)])) hs4.sat (by kernel_rfl) rfl fun bx w5 hs5 hox ex => ?_)
  replace h := h.mono hs5.le
  replace hor := hor.then hs5
  replace hT := hT.then hs5
  have hz5 := hs5.size
  have hlx := hox.1.lt
  refine as_h0 (h_store hs5.sat hox rfl rfl rfl (by kernel_rfl) rfl rfl rfl fun w6 hs6 hn6 => ?_)
  replace h := h.mono hs6.le
  replace hor := hor.step hs6 (fun h => by have h : _ = _ := h; omega)
  clear hox; have hox := hn6; clear hn6
  replace hT := hT.own hs6 (by omega)
  have hz6 := hs6.size
  refine Sa rfl rfl ?_
  refine as_nil (κ _ _ ?_)
  refine cw_rs fun _ κ => ?_
  refine Sc 2 rfl (by kernel_rfl) rfl (by exact Blk.cells hox.1 rfl) ?_
  refine as_h0 (h_store hs6.sat hor rfl rfl rfl (by kernel_rfl) rfl rfl rfl fun w7 hs7 hn7 => ?_)
  replace h := h.mono hs7.le
  clear hor; have hor := hn7; clear hn7
  replace hT := hT.own hs7 (by omega)
  have hz7 := hs7.size
  refine Sa rfl rfl ?_
  refine as_nil (κ _ _ ?_)
  refine cw_ret ?_
  rw [hfe]
  exact ⟨_, (res_cell rfl (loadVar_n (n := 2) (by kernel_rfl) (by exact Blk.cells hor.1 rfl)) (res_tmp rfl res_nil)), rfl, hT.forget⟩
theorem hp_min {w : World} {M : Mem} {k : Nat} {l : List El} {v : Value} (hs : Sat M w) (h : HVal M k l v) (hz : l.length < 1000000000) : Does Tryz.prog 28 #[.agg #[v], .pointer none] w (fun r w' => r = .tuple #[.agg (elc (l.headD (0, 0))).toArray, .int .i64 (fullE k l)] ∧ Step Nope M w M w') := by
  cases l with
  | nil => exact hp_min_0 hs h
  | cons x l => exact hp_min_1 hs h (by rintro rfl; cases h.zero.1) hz
theorem hp_pop_0 {w : World} {M : Mem} {k : Nat} {v : Value} (hs : Sat M w) (h : HVal M k [] v) :
    Does Tryz.prog 27 #[.agg #[v], .pointer none] w (fun r w' => ∃ v' M', r = .tuple #[.agg #[v'], .int .i64 (fullE k [])] ∧ Step Nope M w M' w' ∧ HVal M' 0 [] v') := by
  have hT := Step.refl Nope hs
  have hfe : fullE k [] = 22 ∨ fullE k [] = 23 := by unfold fullE; split <;> simp
  refine fn_enter Tryz.func27 rfl (rs := [.cell 4 29, .tmp 5]) rfl rfl rfl rfl ?_
  refine cw_rs fun _ κ => ?_
  refine as_h rfl (h_boxM hs rfl rfl fun b1 M1 w1 hs1 hb1 e1 => ?_)
  replace h := h.mono hs1.le
  replace hT := hT.then hs1
  have hz1 := hs1.size
  have hqar := hT.size
  refine as_h rfl (h_allocO (z := (.agg #[.nilIface])) hs1.sat (by kernel_rfl) rfl fun br w2 hs2 hor er => ?_)
  replace h := h.mono hs2.le
  replace hb1 := hs2.le _ _ hb1
  replace hT := hT.then hs2
  have hz2 := hs2.size
  have hlr := hor.1.lt
  refine Sa rfl rfl ?_
  refine as_nil (κ _ _ ?_)
  refine cw_seq fun _ hK2 => ?_
  refine cw_rs fun _ κ => ?_
  refine Sc 1 rfl (by kernel_rfl) rfl (by exact BlkR.cells (hs2.sat _ _ _ hb1) rfl) ?_
  refine as_h rfl (h_call (by kernel_rfl) rfl ?_)
  refine (hp_full hs2.sat h (by decide)).mono ?_
  rintro _ w3 ⟨rfl, hs3⟩
  replace h := h.mono hs3.le
  replace hor := hor.then hs3
  replace hT := hT.then hs3
  have hz3 := hs3.size
  refine Sa rfl rfl ?_
  refine as_nil (κ _ _ ?_)
  refine cw_rs fun _ κ => ?_
  refine Sm rfl rfl ?_
  refine as_q rfl rfl (q_neT rfl rfl (by omega)) ?_
  refine as_nil (κ _ _ ?_)
  refine cw_true rfl ?_
  refine cw_rs fun _ κ => ?_
  refine as_q rfl rfl (q_build (zs := [.nilIface]) (places := [(0, 1)]) (cs := [_]) (by kernel_rfl) (by kernel_rfl) rfl rfl) ?_
  refine Sm rfl rfl ?_
  refine as_h0 (h_store hs3.sat hor rfl rfl rfl (by kernel_rfl) rfl rfl rfl fun w4 hs4 hn4 => ?_)
  replace h := h.mono hs4.le
  clear hor; have hor := hn4; clear hn4
  replace hT := hT.own hs4 (by omega)
  have hz4 := hs4.size
  refine Sa rfl rfl ?_
  refine as_nil (κ _ _ ?_)
  refine cw_ret ?_
  exact ⟨_, (res_cell rfl (loadVar_n (n := 1) (by kernel_rfl) (by exact Blk.cells hor.1 rfl)) (res_tmp rfl res_nil)), _, _, rfl, hT, .z⟩
theorem hp_pop_1 {w : World} {M : Mem} {k : Nat} {x : El} {l : List El} {v : Value} (hs : Sat M w) (h : HVal M k (x :: l) v) (hk : k ≠ 0) (hz : (x :: l).length < 1000000000) :
    Does Tryz.prog 27 #[.agg #[v], .pointer none] w (fun r w' => ∃ v' M', r = .tuple #[.agg #[v'], .int .i64 (fullE k (x :: l))] ∧ Step Nope M w M' w' ∧ HVal M' k l v') := by
  have hT := Step.refl Nope hs
  have hfe : fullE k (x :: l) = 0 := by unfold fullE; rw [if_neg hk, if_neg (by simp)]
  obtain ⟨d, u, rfl⟩ := h.iface hk
  refine fn_enter Tryz.func27 rfl (rs := [.cell 4 29, .tmp 5]) rfl rfl rfl rfl ?_
  refine cw_rs fun _ κ => ?_
  refine as_h rfl (h_boxM hs rfl rfl fun b1 M1 w1 hs1 hb1 e1 => ?_)
  replace h := h.mono hs1.le
  replace hT := hT.then hs1
  have hz1 := hs1.size
  have hqar := hT.size
  refine as_h rfl (h_allocO (z := (.agg #[.nilIface])) hs1.sat (by kernel_rfl) rfl fun br w2 hs2 hor er => ?_)
  replace h := h.mono hs2.le
  replace hb1 := hs2.le _ _ hb1
  replace hT := hT.then hs2
  have hz2 := hs2.size
  have hlr := hor.1.lt
  refine Sa rfl rfl ?_
  refine as_nil (κ _ _ ?_)
  refine cw_seq fun _ hK2 => ?_
  refine cw_rs fun _ κ => ?_
  refine Sc 1 rfl (by kernel_rfl) rfl (by exact BlkR.cells (hs2.sat _ _ _ hb1) rfl) ?_
  refine as_h rfl (h_call (by kernel_rfl) rfl ?_)
  refine (hp_full hs2.sat h hz).mono ?_
  rintro _ w3 ⟨rfl, hs3⟩
  replace h := h.mono hs3.le
  replace hb1 := hs3.le _ _ hb1
  replace hor := hor.then hs3
  replace hT := hT.then hs3
  have hz3 := hs3.size
  refine Sa rfl rfl ?_
  refine as_nil (κ _ _ ?_)
  refine cw_rs fun _ κ => ?_
  refine Sm rfl rfl ?_
  refine as_q rfl rfl (q_neF rfl rfl (by omega)) ?_
  refine as_nil (κ _ _ ?_)
  refine cw_false rfl ?_
  refine cw_skip ?_
  refine hK2 _ _ ?_
  refine cw_rs fun _ κ => ?_
  refine Sf 0 rfl (by kernel_rfl) rfl ?_
  refine S1 rfl (by kernel_rfl) rfl (by exact BlkR.cell (hs3.sat _ _ _ hb1) rfl) ?_
  refine Sm rfl rfl ?_
  obtain ⟨d0, u0, f0, r0, hv0, hc0_, hm0, hd0⟩ := hv_pop hs3.sat h hz
  cases hv0
  refine as_h rfl (h_invokeP hc0_ rfl rfl (hm0 _) ?_)
  refine hd0.mono ?_
  rintro v1 w4 ⟨Mn, hs4, hn⟩
  replace h := h.mono hs4.le
  replace hor := hor.then hs4
  replace hT := hT.then hs4
  have hz4 := hs4.size
  obtain ⟨d9, u9, rfl⟩ := hn.iface hk
  refine as_q rfl rfl (q_build (zs := [.nilIface]) (places := [(0, 1)]) (cs := [_]) (by kernel_rfl) (by kernel_rfl) rfl rfl) ?_
  refine as_h0 (h_store hs4.sat hor rfl rfl rfl (by kernel_rfl) rfl rfl rfl fun w5 hs5 hn5 => ?_)
  replace h := h.mono hs5.le
  replace hn := hn.mono hs5.le
  clear hor; have hor := hn5; clear hn5
  replace hT := hT.own hs5 (by omega)
  have hz5 := hs5.size
  refine Sa rfl rfl ?_
  refine as_nil (κ _ _ ?_)
  refine cw_ret ?_
  rw [hfe]
  exact ⟨_, (res_cell rfl (loadVar_n (n := 1) (by kernel_rfl) (by exact Blk.cells hor.1 rfl)) (res_tmp rfl res_nil)), _, _, rfl, hT, hn⟩
theorem hp_pop {w : World} {M : Mem} {k : Nat} {l : List El} {v : Value} (hs : Sat M w) (h : HVal M k l v) (hz : l.length < 1000000000) : Does Tryz.prog 27 #[.agg #[v], .pointer none] w (fun r w' => ∃ v' M', r = .tuple #[.agg #[v'], .int .i64 (fullE k l)] ∧ Step Nope M w M' w' ∧ HVal M' (popK k l) l.tail v') := by
  cases l with
  | nil => exact hp_pop_0 hs h
  | cons x l => exact hp_pop_1 hs h (by rintro rfl; cases h.zero.1) hz
theorem hp_insert_0 {w : World} {M : Mem} {x : El} (hs : Sat M w) :
    Does Tryz.prog 14 #[.agg #[.nilIface], .pointer none, .agg (elc x).toArray] w (fun r w' => ∃ v' M', r = .tuple #[.agg #[v'], .int .i64 22] ∧ Step Nope M w M' w' ∧ HVal M' 0 [] v') := by
  have hT := Step.refl Nope hs
  refine fn_enter Tryz.func14 rfl (rs := [.cell 6 29, .tmp 7]) rfl rfl rfl rfl ?_
  refine cw_rs fun _ κ => ?_
  refine as_h rfl (h_boxM hs rfl rfl fun b1 M1 w1 hs1 hb1 e1 => ?_)
  replace hT := hT.then hs1
  have hz1 := hs1.size
  refine as_h rfl (h_boxM hs1.sat rfl rfl fun b2 M2 w2 hs2 hb2 e2 => ?_)
  replace hb1 := hs2.le _ _ hb1
  replace hT := hT.then hs2
  have hz2 := hs2.size
  have hqar := hT.size
  refine as_h rfl (h_allocO (z := (.agg #[.nilIface])) hs2.sat (by kernel_rfl) rfl fun br w3 hs3 hor er => ?_)
  replace hb1 := hs3.le _ _ hb1
  replace hT := hT.then hs3
  have hz3 := hs3.size
  have hlr := hor.1.lt
  refine Sa rfl rfl ?_
  refine as_nil (κ _ _ ?_)
  refine cw_seq fun _ hK2 => ?_
  refine cw_rs fun _ κ => ?_
  refine Sf 0 rfl (by kernel_rfl) rfl ?_
  refine S1 rfl (by kernel_rfl) rfl (by exact BlkR.cell (hs3.sat _ _ _ hb1) rfl) ?_
  refine as_q rfl rfl (q_ifNil (by kernel_rfl) rfl) ?_
  refine as_nil (κ _ _ ?_)
  refine cw_true rfl ?_
  refine cw_rs fun _ κ => ?_
  refine Sc 1 rfl (by kernel_rfl) rfl (by exact BlkR.cells (hs3.sat _ _ _ hb1) rfl) ?_
  refine as_h0 (h_store hs3.sat hor rfl rfl rfl (by kernel_rfl) rfl rfl rfl fun w4 hs4 hn4 => ?_)
  clear hor; have hor := hn4; clear hn4
  replace hT := hT.own hs4 (by omega)
  have hz4 := hs4.size
  refine Sa rfl rfl ?_
  refine as_nil (κ _ _ ?_)
  refine cw_ret ?_
  exact ⟨_, (res_cell rfl (loadVar_n (n := 1) (by kernel_rfl) (by exact Blk.cells hor.1 rfl)) (res_tmp rfl res_nil)), _, _, rfl, hT, .z⟩
theorem hp_insert_1 {w : World} {M : Mem} {k : Nat} {x : El} {l : List El} {v : Value} (hs : Sat M w) (h : HVal M k l v) (hk : k ≠ 0) (hz : l.length < 1000000000) :
    Does Tryz.prog 14 #[.agg #[v], .pointer none, .agg (elc x).toArray] w (fun r w' => ∃ v' M', r = .tuple #[.agg #[v'], .int .i64 0] ∧ Step Nope M w M' w' ∧ HVal M' k (putE l x) v') := by
  have hT := Step.refl Nope hs
  obtain ⟨d, u, rfl⟩ := h.iface hk
  refine fn_enter Tryz.func14 rfl (rs := [.cell 6 29, .tmp 7]) rfl rfl rfl rfl ?_
  refine cw_rs fun _ κ => ?_
  refine as_h rfl (h_boxM hs rfl rfl fun b1 M1 w1 hs1 hb1 e1 => ?_)
  replace h := h.mono hs1.le
  replace hT := hT.then hs1
  have hz1 := hs1.size
  refine as_h rfl (h_boxM hs1.sat rfl rfl fun b2 M2 w2 hs2 hb2 e2 => ?_)
  replace h := h.mono hs2.le
  replace hb1 := hs2.le _ _ hb1
  replace hT := hT.then hs2
  have hz2 := hs2.size
  have hqar := hT.size
  refine as_h rfl (h_allocO (z := (.agg #[.nilIface])) hs2.sat (by kernel_rfl) rfl fun br w3 hs3 hor er => ?_)
  replace h := h.mono hs3.le
  replace hb1 := hs3.le _ _ hb1
  replace hb2 := hs3.le _ _ hb2
  replace hT := hT.then hs3
  have hz3 := hs3.size
  have hlr := hor.1.lt
  refine Sa rfl rfl ?_
  refine as_nil (κ _ _ ?_)
  refine cw_seq fun _ hK2 => ?_
  refine cw_rs fun _ κ => ?_
  refine Sf 0 rfl (by kernel_rfl) rfl ?_
  refine S1 rfl (by kernel_rfl) rfl (by exact BlkR.cell (hs3.sat _ _ _ hb1) rfl) ?_
  refine as_q rfl rfl (q_ifSome (by kernel_rfl) rfl) ?_
  refine as_nil (κ _ _ ?_)
  refine cw_false rfl ?_
  refine cw_skip ?_
  refine hK2 _ _ ?_
  refine cw_rs fun _ κ => ?_
  refine Sf 0 rfl (by kernel_rfl) rfl ?_
  refine S1 rfl (by kernel_rfl) rfl (by exact BlkR.cell (hs3.sat _ _ _ hb1) rfl) ?_
  refine Sm rfl rfl ?_
  refine Sc 2 rfl (by kernel_rfl) rfl (by exact BlkR.cells (hs3.sat _ _ _ hb2) rfl) ?_
  obtain ⟨d0, u0, f0, r0, hv0, hc0_, hm0, hd0⟩ := hv_insert (x := x) hs3.sat h hk hz
  cases hv0
  refine as_h rfl (h_invokeP hc0_ rfl rfl (hm0 _) ?_)
  refine hd0.mono ?_
  rintro v1 w4 ⟨Mn, hs4, hn⟩
  replace h := h.mono hs4.le
  replace hor := hor.then hs4
  replace hT := hT.then hs4
  have hz4 := hs4.size
  obtain ⟨d9, u9, rfl⟩ := hn.iface hk
  refine as_q rfl rfl (q_build (zs := [.nilIface]) (places := [(0, 1)]) (cs := [_]) (by kernel_rfl) (by kernel_rfl) rfl rfl) ?_
  refine as_h0 (h_store hs4.sat hor rfl rfl rfl (by kernel_rfl) rfl rfl rfl fun w5 hs5 hn5 => ?_)
  replace h := h.mono hs5.le
  replace hn := hn.mono hs5.le
  clear hor; have hor := hn5; clear hn5
  replace hT := hT.own hs5 (by omega)
  have hz5 := hs5.size
  refine Sa rfl rfl ?_
  refine as_nil (κ _ _ ?_)
  refine cw_ret ?_
  exact ⟨_, (res_cell rfl (loadVar_n (n := 1) (by kernel_rfl) (by exact Blk.cells hor.1 rfl)) (res_tmp rfl res_nil)), _, _, rfl, hT, hn⟩
theorem hp_insert {w : World} {M : Mem} {k : Nat} {x : El} {l : List El} {v : Value} (hs : Sat M w) (h : HVal M k l v) (hz : l.length < 1000000000) : Does Tryz.prog 14 #[.agg #[v], .pointer none, .agg (elc x).toArray] w (fun r w' => ∃ v' M', r = .tuple #[.agg #[v'], .int .i64 (insE k)] ∧ Step Nope M w M' w' ∧ HVal M' k (insL k l x) v') := by
  by_cases hk : k = 0
  · subst hk; obtain ⟨rfl, rfl⟩ := h.zero; exact hp_insert_0 hs
  · unfold insE insL
    rw [if_neg hk, if_neg hk]
    exact hp_insert_1 hs h hk hz
theorem hp_meld_0 {w : World} {M : Mem} {v2 : Value} (hs : Sat M w) :
    Does Tryz.prog 26 #[.agg #[.nilIface], .pointer none, .agg #[v2]] w (fun r w' => ∃ v' M', r = .tuple #[.agg #[v'], .int .i64 22] ∧ Step Nope M w M' w' ∧ HVal M' 0 [] v') := by
  have hT := Step.refl Nope hs
  refine fn_enter Tryz.func26 rfl (rs := [.cell 6 29, .tmp 7]) rfl rfl rfl rfl ?_
  refine cw_rs fun _ κ => ?_
  refine as_h rfl (h_boxM hs rfl rfl fun b1 M1 w1 hs1 hb1 e1 => ?_)
  replace hT := hT.then hs1
  have hz1 := hs1.size
  refine as_h rfl (h_boxM hs1.sat rfl rfl fun b2 M2 w2 hs2 hb2 e2 => ?_)
  replace hb1 := hs2.le _ _ hb1
  replace hT := hT.then hs2
  have hz2 := hs2.size
  have hqar := hT.size
  refine as_h rfl (h_allocO (z := (.agg #[.nilIface])) hs2.sat (by kernel_rfl) rfl fun br w3 hs3 hor er => ?_)
  replace hb1 := hs3.le _ _ hb1
  replace hT := hT.then hs3
  have hz3 := hs3.size
  have hlr := hor.1.lt
  refine Sa rfl rfl ?_
  refine as_nil (κ _ _ ?_)
  refine cw_seq fun _ hK2 => ?_
  refine cw_dr (by kernel_rfl) fun _ κ => ?_
  have hs4 := Step.drew hs3.sat
  have hz4 := hs4.size
  replace hb1 := hs4.le _ _ hb1
  replace hor := hor.then hs4
  replace hT := hT.then hs4
  refine Df 0 1 0 rfl (by kernel_rfl) (by kernel_rfl) rfl ?_
  refine Dl1 1 3 rfl (by kernel_rfl) (by kernel_rfl) rfl (by exact BlkR.cell (hs4.sat _ _ _ hb1) rfl) ?_
  refine Dq 2 7 rfl (by kernel_rfl) (fun _ => (q_ifNil (by kernel_rfl) rfl)) ?_
  refine Dm 3 15 rfl (by kernel_rfl) rfl ?_
  refine Dgs 4 31 rfl (by kernel_rfl) rfl rfl ?_
  refine Dgs 5 63 rfl (by kernel_rfl) rfl rfl ?_
  refine Dgs 6 127 rfl (by kernel_rfl) rfl rfl ?_
  refine Dq 7 255 rfl (by kernel_rfl) (fun _ => (q_pick_t rfl rfl)) ?_
  refine Dm 8 511 rfl (by kernel_rfl) rfl ?_
  refine Dgs 9 1023 rfl (by kernel_rfl) rfl rfl ?_
  refine Dgs 10 2047 rfl (by kernel_rfl) rfl rfl ?_
  refine Dgs 11 4095 rfl (by kernel_rfl) rfl rfl ?_
  refine Dgs 12 8191 rfl (by kernel_rfl) rfl rfl ?_
  refine Dgs 13 16383 rfl (by kernel_rfl) rfl rfl ?_
  refine Dq 14 32767 rfl (by kernel_rfl) (fun _ => (q_pick_t rfl rfl)) ?_
  refine Dd (by kernel_rfl) (κ _ _ ?_)
  refine cw_true rfl ?_
  refine cw_rs fun _ κ => ?_
  refine as_q rfl rfl (q_build (zs := [.nilIface]) (places := [(0, 1)]) (cs := [_]) (by kernel_rfl) (by kernel_rfl) rfl rfl) ?_
  refine as_h0 (h_store hs4.sat hor rfl rfl rfl (by kernel_rfl) rfl rfl rfl fun w5 hs5 hn5 => ?_)
  clear hor; have hor := hn5; clear hn5
  replace hT := hT.own hs5 (by omega)
  have hz5 := hs5.size
  refine Sa rfl rfl ?_
  refine as_nil (κ _ _ ?_)
  refine cw_ret ?_
  exact ⟨_, (res_cell rfl (loadVar_n (n := 1) (by kernel_rfl) (by exact Blk.cells hor.1 rfl)) (res_tmp rfl res_nil)), _, _, rfl, hT, .z⟩
theorem hp_meld_1 {w : World} {M : Mem} {k : Nat} {l : List El} {v : Value} (hs : Sat M w) (h : HVal M k l v) (hk : k ≠ 0) :
    Does Tryz.prog 26 #[.agg #[v], .pointer none, .agg #[.nilIface]] w (fun r w' => ∃ v' M', r = .tuple #[.agg #[v'], .int .i64 22] ∧ Step Nope M w M' w' ∧ HVal M' 0 [] v') := by
  have hT := Step.refl Nope hs
  obtain ⟨d, u, rfl⟩ := h.iface hk
  refine fn_enter Tryz.func26 rfl (rs := [.cell 6 29, .tmp 7]) rfl rfl rfl rfl ?_
  refine cw_rs fun _ κ => ?_
  refine as_h rfl (h_boxM hs rfl rfl fun b1 M1 w1 hs1 hb1 e1 => ?_)
  replace h := h.mono hs1.le
  replace hT := hT.then hs1
  have hz1 := hs1.size
  refine as_h rfl (h_boxM hs1.sat rfl rfl fun b2 M2 w2 hs2 hb2 e2 => ?_)
  replace h := h.mono hs2.le
  replace hb1 := hs2.le _ _ hb1
  replace hT := hT.then hs2
  have hz2 := hs2.size
  have hqar := hT.size
  refine as_h rfl (h_allocO (z := (.agg #[.nilIface])) hs2.sat (by kernel_rfl) rfl fun br w3 hs3 hor er => ?_)
  replace h := h.mono hs3.le
  replace hb1 := hs3.le _ _ hb1
  replace hb2 := hs3.le _ _ hb2
  replace hT := hT.then hs3
  have hz3 := hs3.size
  have hlr := hor.1.lt
  refine Sa rfl rfl ?_
  refine as_nil (κ _ _ ?_)
  refine cw_seq fun _ hK2 => ?_
  refine cw_dr (by kernel_rfl) fun _ κ => ?_
  have hs4 := Step.drew hs3.sat
  have hz4 := hs4.size
  replace h := h.mono hs4.le
  replace hb1 := hs4.le _ _ hb1
  replace hb2 := hs4.le _ _ hb2
  replace hor := hor.then hs4
  replace hT := hT.then hs4
  refine Df 0 1 0 rfl (by kernel_rfl) (by kernel_rfl) rfl ?_
  refine Dl1 1 3 rfl (by kernel_rfl) (by kernel_rfl) rfl (by exact BlkR.cell (hs4.sat _ _ _ hb1) rfl) ?_
  refine Dq 2 7 rfl (by kernel_rfl) (fun _ => (q_ifSome (by kernel_rfl) rfl)) ?_
  refine Dm 3 15 rfl (by kernel_rfl) rfl ?_
  refine Dgq 4 31 rfl (by kernel_rfl) rfl rfl (fun _ => (q_fieldAddr (off := 0) (by kernel_rfl) rfl)) ?_
  refine at_gq (i := 5) (li := lb 15 63) (cellIs _ _ _) rfl (by kernel_rfl) rfl rfl rfl rfl (fun _ h => q_load1 (by kernel_rfl) rfl h) (by exact BlkR.cell (hs4.sat _ _ _ hb2) rfl) (by kernel_rfl) ?_
  refine Dgq 6 127 rfl (by kernel_rfl) rfl rfl (fun _ => (q_ifNil (by kernel_rfl) rfl)) ?_
  refine Dq 7 255 rfl (by kernel_rfl) (fun _ => (q_pick_f rfl rfl)) ?_
  refine Dm 8 511 rfl (by kernel_rfl) rfl ?_
  refine Dgs 9 1023 rfl (by kernel_rfl) rfl rfl ?_
  refine Dgs 10 2047 rfl (by kernel_rfl) rfl rfl ?_
  refine Dgs 11 4095 rfl (by kernel_rfl) rfl rfl ?_
  refine Dgs 12 8191 rfl (by kernel_rfl) rfl rfl ?_
  refine Dgs 13 16383 rfl (by kernel_rfl) rfl rfl ?_
  refine Dq 14 32767 rfl (by kernel_rfl) (fun _ => (q_pick_t rfl rfl)) ?_
  refine Dd (by kernel_rfl) (κ _ _ ?_)
  refine cw_true rfl ?_
  refine cw_rs fun _ κ => ?_
  refine as_q rfl rfl (q_build (zs := [.nilIface]) (places := [(0, 1)]) (cs := [_]) (by kernel_rfl) (by kernel_rfl) rfl rfl) ?_
  refine as_h0 (h_store hs4.sat hor rfl rfl rfl (by kernel_rfl) rfl rfl rfl fun w5 hs5 hn5 => ?_)
  replace h := h.mono hs5.le
  clear hor; have hor := hn5; clear hn5
  replace hT := hT.own hs5 (by omega)
  have hz5 := hs5.size
  refine Sa rfl rfl ?_
  refine as_nil (κ _ _ ?_)
  refine cw_ret ?_
  exact ⟨_, (res_cell rfl (loadVar_n (n := 1) (by kernel_rfl) (by exact Blk.cells hor.1 rfl)) (res_tmp rfl res_nil)), _, _, rfl, hT, .z⟩
theorem hp_meld_2 {w : World} {M : Mem} {k k2 : Nat} {l l2 : List El} {v v2 : Value} (hs : Sat M w) (h : HVal M k l v) (h2 : HVal M k2 l2 v2) (hk : k ≠ 0) (hk2 : k2 ≠ 0) (hkk : k ≠ k2) :
    Does Tryz.prog 26 #[.agg #[v], .pointer none, .agg #[v2]] w (fun r w' => ∃ v' M', r = .tuple #[.agg #[v'], .int .i64 22] ∧ Step Nope M w M' w' ∧ HVal M' 0 [] v') := by
  have hT := Step.refl Nope hs
  obtain ⟨d, u, rfl⟩ := h.iface hk
  obtain ⟨d2, u2, rfl⟩ := h2.iface hk2
  refine fn_enter Tryz.func26 rfl (rs := [.cell 6 29, .tmp 7]) rfl rfl rfl rfl ?_
  refine cw_rs fun _ κ => ?_
  refine as_h rfl (h_boxM hs rfl rfl fun b1 M1 w1 hs1 hb1 e1 => ?_)
  replace h := h.mono hs1.le
  replace h2 := h2.mono hs1.le
  replace hT := hT.then hs1
  have hz1 := hs1.size
  refine as_h rfl (h_boxM hs1.sat rfl rfl fun b2 M2 w2 hs2 hb2 e2 => ?_)
  replace h := h.mono hs2.le
  replace h2 := h2.mono hs2.le
  replace hb1 := hs2.le _ _ hb1
  replace hT := hT.then hs2
  have hz2 := hs2.size
  have hqar := hT.size
  refine as_h rfl (h_allocO (z := (.agg #[.nilIface])) hs2.sat (by kernel_rfl) rfl fun br w3 hs3 hor er => ?_)
  replace h := h.mono hs3.le
  replace h2 := h2.mono hs3.le
  replace hb1 := hs3.le _ _ hb1
  replace hb2 := hs3.le _ _ hb2
  replace hT := hT.then hs3
  have hz3 := hs3.size
  have hlr := hor.1.lt
  refine Sa rfl rfl ?_
  refine as_nil (κ _ _ ?_)
  refine cw_seq fun _ hK2 => ?_
  refine cw_dr (by kernel_rfl) fun _ κ => ?_
  have hs4 := Step.drew hs3.sat
  have hz4 := hs4.size
  replace h := h.mono hs4.le
  replace h2 := h2.mono hs4.le
  replace hb1 := hs4.le _ _ hb1
  replace hb2 := hs4.le _ _ hb2
  replace hor := hor.then hs4
  replace hT := hT.then hs4
  refine Df 0 1 0 rfl (by kernel_rfl) (by kernel_rfl) rfl ?_
  refine Dl1 1 3 rfl (by kernel_rfl) (by kernel_rfl) rfl (by exact BlkR.cell (hs4.sat _ _ _ hb1) rfl) ?_
  refine Dq 2 7 rfl (by kernel_rfl) (fun _ => (q_ifSome (by kernel_rfl) rfl)) ?_
  refine Dm 3 15 rfl (by kernel_rfl) rfl ?_
  refine Dgq 4 31 rfl (by kernel_rfl) rfl rfl (fun _ => (q_fieldAddr (off := 0) (by kernel_rfl) rfl)) ?_
  refine at_gq (i := 5) (li := lb 15 63) (cellIs _ _ _) rfl (by kernel_rfl) rfl rfl rfl rfl (fun _ h => q_load1 (by kernel_rfl) rfl h) (by exact BlkR.cell (hs4.sat _ _ _ hb2) rfl) (by kernel_rfl) ?_
  refine Dgq 6 127 rfl (by kernel_rfl) rfl rfl (fun _ => (q_ifSome (by kernel_rfl) rfl)) ?_
  refine Dq 7 255 rfl (by kernel_rfl) (fun _ => (q_pick_f rfl rfl)) ?_
  refine Dm 8 511 rfl (by kernel_rfl) rfl ?_
  refine at_gq (i := 9) (li := lb 15 1023) (cellsAre _ _ 1 _) rfl (by kernel_rfl) rfl rfl rfl rfl (fun _ h => q_loadc (n := 1) (by kernel_rfl) rfl h) (by exact BlkR.cells (hs4.sat _ _ _ hb1) rfl) (by kernel_rfl) ?_
  refine at_gq (i := 11) (li := lb 15 3071) (cellsAre _ _ 1 _) rfl (by kernel_rfl) rfl rfl rfl rfl (fun _ h => q_loadc (n := 1) (by kernel_rfl) rfl h) (by exact BlkR.cells (hs4.sat _ _ _ hb2) rfl) (by kernel_rfl) ?_
  refine Dgh 10 4095 rfl (by kernel_rfl) rfl rfl (keep_sift (bs := [F,T,F,F]) (by kernel_rfl)) (h_call (by kernel_rfl) rfl ?_)
  refine (hp_kind hs4.sat h).mono ?_
  rintro _ w5 ⟨rfl, hs5⟩
  replace h := h.mono hs5.le
  replace h2 := h2.mono hs5.le
  replace hb1 := hs5.le _ _ hb1
  replace hb2 := hs5.le _ _ hb2
  replace hor := hor.then hs5
  replace hT := hT.then hs5
  have hz5 := hs5.size
  refine ⟨(by repeat' first | exact trivial | exact BlkR.cell (hs5.sat _ _ _ hb1) rfl | exact BlkR.cells (hs5.sat _ _ _ hb1) rfl | exact BlkR.cell (hs5.sat _ _ _ hb2) rfl | exact BlkR.cells (hs5.sat _ _ _ hb2) rfl | exact Blk.cell hor.1 rfl | exact Blk.cells hor.1 rfl | assumption | refine all_keep ?_ | refine And.intro ?_ ?_), ?_⟩
  refine Dgh 12 8191 rfl (by kernel_rfl) rfl rfl (keep_sift (bs := [T,F,F]) (by kernel_rfl)) (h_call (by kernel_rfl) rfl ?_)
  refine (hp_kind hs5.sat h2).mono ?_
  rintro _ w6 ⟨rfl, hs6⟩
  replace h := h.mono hs6.le
  replace hb1 := hs6.le _ _ hb1
  replace hb2 := hs6.le _ _ hb2
  replace hor := hor.then hs6
  replace hT := hT.then hs6
  have hz6 := hs6.size
  refine ⟨(by repeat' first | exact trivial | exact BlkR.cell (hs6.sat _ _ _ hb1) rfl | exact BlkR.cells (hs6.sat _ _ _ hb1) rfl | exact BlkR.cell (hs6.sat _ _ _ hb2) rfl | exact BlkR.cells (hs6.sat _ _ _ hb2) rfl | exact Blk.cell hor.1 rfl | exact Blk.cells hor.1 rfl | assumption | refine all_keep ?_ | refine And.intro ?_ ?_), ?_⟩
  refine Dgq 13 16383 rfl (by kernel_rfl) rfl rfl (fun _ => (q_neT rfl rfl (by omega))) ?_
  refine Dq 14 32767 rfl (by kernel_rfl) (fun _ => (q_pick_f rfl rfl)) ?_
  refine Dd (by kernel_rfl) (κ _ _ ?_)
  refine cw_true rfl ?_
  refine cw_rs fun _ κ => ?_
  refine as_q rfl rfl (q_build (zs := [.nilIface]) (places := [(0, 1)]) (cs := [_]) (by kernel_rfl) (by kernel_rfl) rfl rfl) ?_
  refine as_h0 (h_store hs6.sat hor rfl rfl rfl (by kernel_rfl) rfl rfl rfl fun w7 hs7 hn7 => ?_)
  replace h := h.mono hs7.le
  clear hor; have hor := hn7; clear hn7
  replace hT := hT.own hs7 (by omega)
  have hz7 := hs7.size
  refine Sa rfl rfl ?_
  refine as_nil (κ _ _ ?_)
  refine cw_ret ?_
  exact ⟨_, (res_cell rfl (loadVar_n (n := 1) (by kernel_rfl) (by exact Blk.cells hor.1 rfl)) (res_tmp rfl res_nil)), _, _, rfl, hT, .z⟩
theorem hp_meld_3 {w : World} {M : Mem} {k : Nat} {l l2 : List El} {v v2 : Value} (hs : Sat M w) (h : HVal M k l v) (h2 : HVal M k l2 v2) (hk : k ≠ 0) (hz : l.length + l2.length < 1000000000) :
    Does Tryz.prog 26 #[.agg #[v], .pointer none, .agg #[v2]] w (fun r w' => ∃ v' M', r = .tuple #[.agg #[v'], .int .i64 0] ∧ Step Nope M w M' w' ∧ HVal M' k (srtE (l ++ l2)) v') := by
  have hT := Step.refl Nope hs
  obtain ⟨d, u, rfl⟩ := h.iface hk
  obtain ⟨d2, u2, rfl⟩ := h2.iface hk
  refine fn_enter Tryz.func26 rfl (rs := [.cell 6 29, .tmp 7]) rfl rfl rfl rfl ?_
  refine cw_rs fun _ κ => ?_
  refine as_h rfl (h_boxM hs rfl rfl fun b1 M1 w1 hs1 hb1 e1 => ?_)
  replace h := h.mono hs1.le
  replace h2 := h2.mono hs1.le
  replace hT := hT.then hs1
  have hz1 := hs1.size
  refine as_h rfl (h_boxM hs1.sat rfl rfl fun b2 M2 w2 hs2 hb2 e2 => ?_)
  replace h := h.mono hs2.le
  replace h2 := h2.mono hs2.le
  replace hb1 := hs2.le _ _ hb1
  replace hT := hT.then hs2
  have hz2 := hs2.size
  have hqar := hT.size
  refine as_h rfl (h_allocO (z := (.agg #[.nilIface])) hs2.sat (by kernel_rfl) rfl fun br w3 hs3 hor er => ?_)
  replace h := h.mono hs3.le
  replace h2 := h2.mono hs3.le
  replace hb1 := hs3.le _ _ hb1
  replace hb2 := hs3.le _ _ hb2
  replace hT := hT.then hs3
  have hz3 := hs3.size
  have hlr := hor.1.lt
  refine Sa rfl rfl ?_
  refine as_nil (κ _ _ ?_)
  refine cw_seq fun _ hK2 => ?_
  refine cw_dr (by kernel_rfl) fun _ κ => ?_
  have hs4 := Step.drew hs3.sat
  have hz4 := hs4.size
  replace h := h.mono hs4.le
  replace h2 := h2.mono hs4.le
  replace hb1 := hs4.le _ _ hb1
  replace hb2 := hs4.le _ _ hb2
  replace hor := hor.then hs4
  replace hT := hT.then hs4
  refine Df 0 1 0 rfl (by kernel_rfl) (by kernel_rfl) rfl ?_
  refine Dl1 1 3 rfl (by kernel_rfl) (by kernel_rfl) rfl (by exact BlkR.cell (hs4.sat _ _ _ hb1) rfl) ?_
  refine Dq 2 7 rfl (by kernel_rfl) (fun _ => (q_ifSome (by kernel_rfl) rfl)) ?_
  refine Dm 3 15 rfl (by kernel_rfl) rfl ?_
  refine Dgq 4 31 rfl (by kernel_rfl) rfl rfl (fun _ => (q_fieldAddr (off := 0) (by kernel_rfl) rfl)) ?_
  refine at_gq (i := 5) (li := lb 15 63) (cellIs _ _ _) rfl (by kernel_rfl) rfl rfl rfl rfl (fun _ h => q_load1 (by kernel_rfl) rfl h) (by exact BlkR.cell (hs4.sat _ _ _ hb2) rfl) (by kernel_rfl) ?_
  refine Dgq 6 127 rfl (by kernel_rfl) rfl rfl (fun _ => (q_ifSome (by kernel_rfl) rfl)) ?_
  refine Dq 7 255 rfl (by kernel_rfl) (fun _ => (q_pick_f rfl rfl)) ?_
  refine Dm 8 511 rfl (by kernel_rfl) rfl ?_
  refine at_gq (i := 9) (li := lb 15 1023) (cellsAre _ _ 1 _) rfl (by kernel_rfl) rfl rfl rfl rfl (fun _ h => q_loadc (n := 1) (by kernel_rfl) rfl h) (by exact BlkR.cells (hs4.sat _ _ _ hb1) rfl) (by kernel_rfl) ?_
  refine at_gq (i := 11) (li := lb 15 3071) (cellsAre _ _ 1 _) rfl (by kernel_rfl) rfl rfl rfl rfl (fun _ h => q_loadc (n := 1) (by kernel_rfl) rfl h) (by exact BlkR.cells (hs4.sat _ _ _ hb2) rfl) (by kernel_rfl) ?_
  refine Dgh 10 4095 rfl (by kernel_rfl) rfl rfl (keep_sift (bs := [F,T,F,F]) (by kernel_rfl)) (h_call (by kernel_rfl) rfl ?_)
  refine (hp_kind hs4.sat h).mono ?_
  rintro _ w5 ⟨rfl, hs5⟩
  replace h := h.mono hs5.le
  replace h2 := h2.mono hs5.le
  replace hb1 := hs5.le _ _ hb1
  replace hb2 := hs5.le _ _ hb2
  replace hor := hor.then hs5
  replace hT := hT.then hs5
  have hz5 := hs5.size
  refine ⟨(by repeat' first | exact trivial | exact BlkR.cell (hs5.sat _ _ _ hb1) rfl | exact BlkR.cells (hs5.sat _ _ _ hb1) rfl | exact BlkR.cell (hs5.sat _ _ _ hb2) rfl | exact BlkR.cells (hs5.sat _ _ _ hb2) rfl | exact Blk.cell hor.1 rfl | exact Blk.cells hor.1 rfl | assumption | refine all_keep ?_ | refine And.intro ?_ ?_), ?_⟩
  refine Dgh 12 8191 rfl (by kernel_rfl) rfl rfl (keep_sift (bs := [T,F,F]) (by kernel_rfl)) (h_call (by kernel_rfl) rfl ?_)
  refine (hp_kind hs5.sat h2).mono ?_
  rintro _ w6 ⟨rfl, hs6⟩
  replace h := h.mono hs6.le
  replace h2 := h2.mono hs6.le
  replace hb1 := hs6.le _ _ hb1
  replace hb2 := hs6.le _ _ hb2
  replace hor := hor.then hs6
  replace hT := hT.then hs6
  have hz6 := hs6.size
  refine ⟨(by repeat' first | exact trivial | exact BlkR.cell (hs6.sat _ _ _ hb1) rfl | exact BlkR.cells (hs6.sat _ _ _ hb1) rfl | exact BlkR.cell (hs6.sat _ _ _ hb2) rfl | exact BlkR.cells (hs6.sat _ _ _ hb2) rfl | exact Blk.cell hor.1 rfl | exact Blk.cells hor.1 rfl | assumption | refine all_keep ?_ | refine And.intro ?_ ?_), ?_⟩
  refine Dgq 13 16383 rfl (by kernel_rfl) rfl rfl (fun _ => (q_neF rfl rfl (by omega))) ?_
  refine Dq 14 32767 rfl (by kernel_rfl) (fun _ => (q_pick_f rfl rfl)) ?_
  refine Dd (by kernel_rfl) (κ _ _ ?_)
  refine cw_false rfl ?_
  refine cw_skip ?_
  refine hK2 _ _ ?_
  refine cw_rs fun _ κ => ?_
  refine Sf 0 rfl (by kernel_rfl) rfl ?_
  refine S1 rfl (by kernel_rfl) rfl (by exact BlkR.cell (hs6.sat _ _ _ hb1) rfl) ?_
  refine Sm rfl rfl ?_
  refine Sf 0 rfl (by kernel_rfl) rfl ?_
  refine S1 rfl (by kernel_rfl) rfl (by exact BlkR.cell (hs6.sat _ _ _ hb2) rfl) ?_
  obtain ⟨d0, u0, f0, r0, hv0, hc0_, hm0, hd0⟩ := hv_meld hs6.sat h h2 hk hz
  cases hv0
  refine as_h rfl (h_invokeP hc0_ rfl rfl (hm0 _) ?_)
  refine hd0.mono ?_
  rintro v1 w7 ⟨Mn, hs7, hn⟩
  replace h := h.mono hs7.le
  replace hor := hor.then hs7
  replace hT := hT.then hs7
  have hz7 := hs7.size
  obtain ⟨d9, u9, rfl⟩ := hn.iface hk
  refine as_q rfl rfl (q_build (zs := [.nilIface]) (places := [(0, 1)]) (cs := [_]) (by kernel_rfl) (by kernel_rfl) rfl rfl) ?_
  refine as_h0 (h_store hs7.sat hor rfl rfl rfl (by kernel_rfl) rfl rfl rfl fun w8 hs8 hn8 => ?_)
  replace h := h.mono hs8.le
  replace hn := hn.mono hs8.le
  clear hor; have hor := hn8; clear hn8
  replace hT := hT.own hs8 (by omega)
  have hz8 := hs8.size
  refine Sa rfl rfl ?_
  refine as_nil (κ _ _ ?_)
  refine cw_ret ?_
  exact ⟨_, (res_cell rfl (loadVar_n (n := 1) (by kernel_rfl) (by exact Blk.cells hor.1 rfl)) (res_tmp rfl res_nil)), _, _, rfl, hT, hn⟩
theorem hp_meld {w : World} {M : Mem} {k k2 : Nat} {l l2 : List El} {v v2 : Value} (hs : Sat M w) (h : HVal M k l v) (h2 : HVal M k2 l2 v2) (hz : l.length + l2.length < 1000000000) : Does Tryz.prog 26 #[.agg #[v], .pointer none, .agg #[v2]] w (fun r w' => ∃ v' M', r = .tuple #[.agg #[v'], .int .i64 (melE k k2)] ∧ Step Nope M w M' w' ∧ HVal M' (melK k k2) (melL k k2 l l2) v') := by
  unfold melE melK melL
  by_cases hk : k = 0
  · subst hk; obtain ⟨rfl, rfl⟩ := h.zero
    simp only [if_pos (show badM 0 k2 from .inl rfl)]
    exact hp_meld_0 hs
  · by_cases hk2 : k2 = 0
    · subst hk2; obtain ⟨rfl, rfl⟩ := h2.zero
      simp only [if_pos (show badM k 0 from .inr (.inl rfl))]
      exact hp_meld_1 hs h hk
    · by_cases hkk : k = k2
      · subst hkk
        simp only [if_neg (show ¬ badM k k from fun h => by unfold badM at h; omega)]
        exact hp_meld_3 hs h h2 hk hz
      · simp only [if_pos (show badM k k2 from .inr (.inr hkk))]
        exact hp_meld_2 hs h h2 hk hk2 hkk
end Go.Proofs.YtgcgjpfjjgalmaaGreat
/- The calls of heap, part 3. -/
namespace Go.Proofs.YtgcgjpfjjgalmaaGreat
open Go Go.Eng
theorem hp_empty_1 {w : World} {M : Mem} (hs : Sat M w) :
    Does Tryz.prog 13 #[.int .i64 1] w (fun r w' => ∃ v' M', r = .tuple #[.agg #[v'], .int .i64 0] ∧ Step Nope M w M' w' ∧ HVal M' 1 [] v') := by
  have hT := Step.refl Nope hs
  refine fn_enter Tryz.func13 rfl (rs := [.cell 2 29, .tmp 3]) rfl rfl rfl rfl ?_
  refine cw_rs fun _ κ => ?_
  have hqar := hT.size
  refine as_h rfl (h_allocO (z := (.agg #[.nilIface])) hs (by kernel_rfl) rfl fun br w1 hs1 hor er => ?_)
  replace hT := hT.then hs1
  have hz1 := hs1.size
  have hlr := hor.1.lt
  refine Sa rfl rfl ?_
  refine as_nil (κ _ _ ?_)
  refine cw_seq fun _ hK2 => ?_
  refine cw_rs fun _ κ => ?_
  refine Sm rfl rfl ?_
  refine as_nil (κ _ _ ?_)
  refine cw_block ?_
  refine cw_rs fun _ κ => ?_
  refine as_q rfl rfl (q_eqT rfl rfl (by omega)) ?_
  refine Sa rfl rfl ?_
  refine as_nil (κ _ _ ?_)
  refine cw_true rfl ?_
  refine cw_rs fun _ κ => ?_
  refine as_q rfl rfl (q_build (zs := [(.pointer none)]) (places := [(0, 1)]) (cs := [_]) (by kernel_rfl) (by kernel_rfl) rfl rfl) ?_
  refine as_q rfl rfl (q_iface (by kernel_rfl) rfl) ?_
  refine as_q rfl rfl (q_build (zs := [.nilIface]) (places := [(0, 1)]) (cs := [_]) (by kernel_rfl) (by kernel_rfl) rfl rfl) ?_
  refine as_h0 (h_store hs1.sat hor rfl rfl rfl (by kernel_rfl) rfl rfl rfl fun w2 hs2 hn2 => ?_)
  clear hor; have hor := hn2; clear hn2
  replace hT := hT.own hs2 (by omega)
  have hz2 := hs2.size
  refine Sa rfl rfl ?_
  refine as_nil (κ _ _ ?_)
  refine cw_ret ?_
  exact ⟨_, (res_cell rfl (loadVar_n (n := 1) (by kernel_rfl) (by exact Blk.cells hor.1 rfl)) (res_tmp rfl res_nil)), _, _, rfl, hT, .a (t := .nil) rfl (trivial) rfl⟩
theorem hp_empty_2 {w : World} {M : Mem} (hs : Sat M w) :
    Does Tryz.prog 13 #[.int .i64 2] w (fun r w' => ∃ v' M', r = .tuple #[.agg #[v'], .int .i64 0] ∧ Step Nope M w M' w' ∧ HVal M' 2 [] v') := by
  have hT := Step.refl Nope hs
  refine fn_enter Tryz.func13 rfl (rs := [.cell 2 29, .tmp 3]) rfl rfl rfl rfl ?_
  refine cw_rs fun _ κ => ?_
  have hqar := hT.size
  refine as_h rfl (h_allocO (z := (.agg #[.nilIface])) hs (by kernel_rfl) rfl fun br w1 hs1 hor er => ?_)
  replace hT := hT.then hs1
  have hz1 := hs1.size
  have hlr := hor.1.lt
  refine Sa rfl rfl ?_
  refine as_nil (κ _ _ ?_)
  refine cw_seq fun _ hK2 => ?_
  refine cw_rs fun _ κ => ?_
  refine Sm rfl rfl ?_
  refine as_nil (κ _ _ ?_)
  refine cw_block ?_
  refine cw_rs fun _ κ => ?_
  refine as_q rfl rfl (q_eqF rfl rfl (by omega)) ?_
  refine Sa rfl rfl ?_
  refine as_nil (κ _ _ ?_)
  refine cw_false rfl ?_
  refine cw_rs fun _ κ => ?_
  refine as_q rfl rfl (q_eqT rfl rfl (by omega)) ?_
  refine Sa rfl rfl ?_
  refine as_nil (κ _ _ ?_)
  refine cw_true rfl ?_
  refine cw_rs fun _ κ => ?_
  refine as_q rfl rfl (q_build (zs := [(.pointer none)]) (places := [(0, 1)]) (cs := [_]) (by kernel_rfl) (by kernel_rfl) rfl rfl) ?_
  refine as_q rfl rfl (q_iface (by kernel_rfl) rfl) ?_
  refine as_q rfl rfl (q_build (zs := [.nilIface]) (places := [(0, 1)]) (cs := [_]) (by kernel_rfl) (by kernel_rfl) rfl rfl) ?_
  refine as_h0 (h_store hs1.sat hor rfl rfl rfl (by kernel_rfl) rfl rfl rfl fun w2 hs2 hn2 => ?_)
  clear hor; have hor := hn2; clear hn2
  replace hT := hT.own hs2 (by omega)
  have hz2 := hs2.size
  refine Sa rfl rfl ?_
  refine as_nil (κ _ _ ?_)
  refine cw_ret ?_
  exact ⟨_, (res_cell rfl (loadVar_n (n := 1) (by kernel_rfl) (by exact Blk.cells hor.1 rfl)) (res_tmp rfl res_nil)), _, _, rfl, hT, .b (t := []) (frep_nil.2 rfl) (⟨trivial, trivial⟩) rfl⟩
theorem hp_empty_3 {w : World} {M : Mem} (hs : Sat M w) :
    Does Tryz.prog 13 #[.int .i64 3] w (fun r w' => ∃ v' M', r = .tuple #[.agg #[v'], .int .i64 0] ∧ Step Nope M w M' w' ∧ HVal M' 3 [] v') := by
  have hT := Step.refl Nope hs
  refine fn_enter Tryz.func13 rfl (rs := [.cell 2 29, .tmp 3]) rfl rfl rfl rfl ?_
  refine cw_rs fun _ κ => ?_
  have hqar := hT.size
  refine as_h rfl (h_allocO (z := (.agg #[.nilIface])) hs (by kernel_rfl) rfl fun br w1 hs1 hor er => ?_)
  replace hT := hT.then hs1
  have hz1 := hs1.size
  have hlr := hor.1.lt
  refine Sa rfl rfl ?_
  refine as_nil (κ _ _ ?_)
  refine cw_seq fun _ hK2 => ?_
  refine cw_rs fun _ κ => ?_
  refine Sm rfl rfl ?_
  refine as_nil (κ _ _ ?_)
  refine cw_block ?_
  refine cw_rs fun _ κ => ?_
  refine as_q rfl rfl (q_eqF rfl rfl (by omega)) ?_
  refine Sa rfl rfl ?_
  refine as_nil (κ _ _ ?_)
  refine cw_false rfl ?_
  refine cw_rs fun _ κ => ?_
  refine as_q rfl rfl (q_eqF rfl rfl (by omega)) ?_
  refine Sa rfl rfl ?_
  refine as_nil (κ _ _ ?_)
  refine cw_false rfl ?_
  refine cw_rs fun _ κ => ?_
  refine as_q rfl rfl (q_eqT rfl rfl (by omega)) ?_
  refine Sa rfl rfl ?_
  refine as_nil (κ _ _ ?_)
  refine cw_true rfl ?_
  refine cw_rs fun _ κ => ?_
  refine as_q rfl rfl (q_build (zs := [(.pointer none)]) (places := [(0, 1)]) (cs := [_]) (by kernel_rfl) (by kernel_rfl) rfl rfl) ?_
  refine as_q rfl rfl (q_iface (by kernel_rfl) rfl) ?_
  refine as_q rfl rfl (q_build (zs := [.nilIface]) (places := [(0, 1)]) (cs := [_]) (by kernel_rfl) (by kernel_rfl) rfl rfl) ?_
  refine as_h0 (h_store hs1.sat hor rfl rfl rfl (by kernel_rfl) rfl rfl rfl fun w2 hs2 hn2 => ?_)
  clear hor; have hor := hn2; clear hn2
  replace hT := hT.own hs2 (by omega)
  have hz2 := hs2.size
  refine Sa rfl rfl ?_
  refine as_nil (κ _ _ ?_)
  refine cw_ret ?_
  exact ⟨_, (res_cell rfl (loadVar_n (n := 1) (by kernel_rfl) (by exact Blk.cells hor.1 rfl)) (res_tmp rfl res_nil)), _, _, rfl, hT, .c (t := .nil) (prep_nil.2 rfl) (trivial) (by simp only [Pr.els]; rfl)⟩
theorem hp_empty_4 {w : World} {M : Mem} (hs : Sat M w) :
    Does Tryz.prog 13 #[.int .i64 4] w (fun r w' => ∃ v' M', r = .tuple #[.agg #[v'], .int .i64 0] ∧ Step Nope M w M' w' ∧ HVal M' 4 [] v') := by
  have hT := Step.refl Nope hs
  refine fn_enter Tryz.func13 rfl (rs := [.cell 2 29, .tmp 3]) rfl rfl rfl rfl ?_
  refine cw_rs fun _ κ => ?_
  have hqar := hT.size
  refine as_h rfl (h_allocO (z := (.agg #[.nilIface])) hs (by kernel_rfl) rfl fun br w1 hs1 hor er => ?_)
  replace hT := hT.then hs1
  have hz1 := hs1.size
  have hlr := hor.1.lt
  refine Sa rfl rfl ?_
  refine as_nil (κ _ _ ?_)
  refine cw_seq fun _ hK2 => ?_
  refine cw_rs fun _ κ => ?_
  refine Sm rfl rfl ?_
  refine as_nil (κ _ _ ?_)
  refine cw_block ?_
  refine cw_rs fun _ κ => ?_
  refine as_q rfl rfl (q_eqF rfl rfl (by omega)) ?_
  refine Sa rfl rfl ?_
  refine as_nil (κ _ _ ?_)
  refine cw_false rfl ?_
  refine cw_rs fun _ κ => ?_
  refine as_q rfl rfl (q_eqF rfl rfl (by omega)) ?_
  refine Sa rfl rfl ?_
  refine as_nil (κ _ _ ?_)
  refine cw_false rfl ?_
  refine cw_rs fun _ κ => ?_
  refine as_q rfl rfl (q_eqF rfl rfl (by omega)) ?_
  refine Sa rfl rfl ?_
  refine as_nil (κ _ _ ?_)
  refine cw_false rfl ?_
  refine cw_rs fun _ κ => ?_
  refine as_q rfl rfl (q_eqT rfl rfl (by omega)) ?_
  refine Sa rfl rfl ?_
  refine as_nil (κ _ _ ?_)
  refine cw_true rfl ?_
  refine cw_rs fun _ κ => ?_
  refine as_q rfl rfl (q_build (zs := [(.pointer none)]) (places := [(0, 1)]) (cs := [_]) (by kernel_rfl) (by kernel_rfl) rfl rfl) ?_
  refine as_q rfl rfl (q_iface (by kernel_rfl) rfl) ?_
  refine as_q rfl rfl (q_build (zs := [.nilIface]) (places := [(0, 1)]) (cs := [_]) (by kernel_rfl) (by kernel_rfl) rfl rfl) ?_
  refine as_h0 (h_store hs1.sat hor rfl rfl rfl (by kernel_rfl) rfl rfl rfl fun w2 hs2 hn2 => ?_)
  clear hor; have hor := hn2; clear hn2
  replace hT := hT.own hs2 (by omega)
  have hz2 := hs2.size
  refine Sa rfl rfl ?_
  refine as_nil (κ _ _ ?_)
  refine cw_ret ?_
  exact ⟨_, (res_cell rfl (loadVar_n (n := 1) (by kernel_rfl) (by exact Blk.cells hor.1 rfl)) (res_tmp rfl res_nil)), _, _, rfl, hT, .d (t := []) (frep_nil.2 rfl) (trivial) rfl⟩
theorem hp_empty_5 {w : World} {M : Mem} (hs : Sat M w) :
    Does Tryz.prog 13 #[.int .i64 5] w (fun r w' => ∃ v' M', r = .tuple #[.agg #[v'], .int .i64 0] ∧ Step Nope M w M' w' ∧ HVal M' 5 [] v') := by
  have hT := Step.refl Nope hs
  refine fn_enter Tryz.func13 rfl (rs := [.cell 2 29, .tmp 3]) rfl rfl rfl rfl ?_
  refine cw_rs fun _ κ => ?_
  have hqar := hT.size
  refine as_h rfl (h_allocO (z := (.agg #[.nilIface])) hs (by kernel_rfl) rfl fun br w1 hs1 hor er => ?_)
  replace hT := hT.then hs1
  have hz1 := hs1.size
  have hlr := hor.1.lt
  refine Sa rfl rfl ?_
  refine as_nil (κ _ _ ?_)
  refine cw_seq fun _ hK2 => ?_
  refine cw_rs fun _ κ => ?_
  refine Sm rfl rfl ?_
  refine as_nil (κ _ _ ?_)
  refine cw_block ?_
  refine cw_rs fun _ κ => ?_
  refine as_q rfl rfl (q_eqF rfl rfl (by omega)) ?_
  refine Sa rfl rfl ?_
  refine as_nil (κ _ _ ?_)
  refine cw_false rfl ?_
  refine cw_rs fun _ κ => ?_
  refine as_q rfl rfl (q_eqF rfl rfl (by omega)) ?_
  refine Sa rfl rfl ?_
  refine as_nil (κ _ _ ?_)
  refine cw_false rfl ?_
  refine cw_rs fun _ κ => ?_
  refine as_q rfl rfl (q_eqF rfl rfl (by omega)) ?_
  refine Sa rfl rfl ?_
  refine as_nil (κ _ _ ?_)
  refine cw_false rfl ?_
  refine cw_rs fun _ κ => ?_
  refine as_q rfl rfl (q_eqF rfl rfl (by omega)) ?_
  refine Sa rfl rfl ?_
  refine as_nil (κ _ _ ?_)
  refine cw_false rfl ?_
  refine cw_rs fun _ κ => ?_
  refine as_q rfl rfl (q_eqT rfl rfl (by omega)) ?_
  refine Sa rfl rfl ?_
  refine as_nil (κ _ _ ?_)
  refine cw_true rfl ?_
  refine cw_rs fun _ κ => ?_
  refine as_q rfl rfl (q_build (zs := [(.pointer none)]) (places := [(0, 1)]) (cs := [_]) (by kernel_rfl) (by kernel_rfl) rfl rfl) ?_
  refine as_q rfl rfl (q_iface (by kernel_rfl) rfl) ?_
  refine as_q rfl rfl (q_build (zs := [.nilIface]) (places := [(0, 1)]) (cs := [_]) (by kernel_rfl) (by kernel_rfl) rfl rfl) ?_
  refine as_h0 (h_store hs1.sat hor rfl rfl rfl (by kernel_rfl) rfl rfl rfl fun w2 hs2 hn2 => ?_)
  clear hor; have hor := hn2; clear hn2
  replace hT := hT.own hs2 (by omega)
  have hz2 := hs2.size
  refine Sa rfl rfl ?_
  refine as_nil (κ _ _ ?_)
  refine cw_ret ?_
  exact ⟨_, (res_cell rfl (loadVar_n (n := 1) (by kernel_rfl) (by exact Blk.cells hor.1 rfl)) (res_tmp rfl res_nil)), _, _, rfl, hT, .e (t := .nil) rfl (trivial) rfl⟩
theorem hp_empty_6 {w : World} {M : Mem} (hs : Sat M w) :
    Does Tryz.prog 13 #[.int .i64 6] w (fun r w' => ∃ v' M', r = .tuple #[.agg #[v'], .int .i64 0] ∧ Step Nope M w M' w' ∧ HVal M' 6 [] v') := by
  have hT := Step.refl Nope hs
  refine fn_enter Tryz.func13 rfl (rs := [.cell 2 29, .tmp 3]) rfl rfl rfl rfl ?_
  refine cw_rs fun _ κ => ?_
  have hqar := hT.size
  refine as_h rfl (h_allocO (z := (.agg #[.nilIface])) hs (by kernel_rfl) rfl fun br w1 hs1 hor er => ?_)
  replace hT := hT.then hs1
  have hz1 := hs1.size
  have hlr := hor.1.lt
  refine Sa rfl rfl ?_
  refine as_nil (κ _ _ ?_)
  refine cw_seq fun _ hK2 => ?_
  refine cw_rs fun _ κ => ?_
  refine Sm rfl rfl ?_
  refine as_nil (κ _ _ ?_)
  refine cw_block ?_
  refine cw_rs fun _ κ => ?_
  refine as_q rfl rfl (q_eqF rfl rfl (by omega)) ?_
  refine Sa rfl rfl ?_
  refine as_nil (κ _ _ ?_)
  refine cw_false rfl ?_
  refine cw_rs fun _ κ => ?_
  refine as_q rfl rfl (q_eqF rfl rfl (by omega)) ?_
  refine Sa rfl rfl ?_
  refine as_nil (κ _ _ ?_)
  refine cw_false rfl ?_
  refine cw_rs fun _ κ => ?_
  refine as_q rfl rfl (q_eqF rfl rfl (by omega)) ?_
  refine Sa rfl rfl ?_
  refine as_nil (κ _ _ ?_)
  refine cw_false rfl ?_
  refine cw_rs fun _ κ => ?_
  refine as_q rfl rfl (q_eqF rfl rfl (by omega)) ?_
  refine Sa rfl rfl ?_
  refine as_nil (κ _ _ ?_)
  refine cw_false rfl ?_
  refine cw_rs fun _ κ => ?_
  refine as_q rfl rfl (q_eqF rfl rfl (by omega)) ?_
  refine Sa rfl rfl ?_
  refine as_nil (κ _ _ ?_)
  refine cw_false rfl ?_
  refine cw_rs fun _ κ => ?_
  refine as_q rfl rfl (q_eqT rfl rfl (by omega)) ?_
  refine Sa rfl rfl ?_
  refine as_nil (κ _ _ ?_)
  refine cw_true rfl ?_
  refine cw_rs fun _ κ => ?_
  refine as_q rfl rfl (q_build (zs := [(.pointer none)]) (places := [(0, 1)]) (cs := [_]) (by kernel_rfl) (by kernel_rfl) rfl rfl) ?_
  refine as_q rfl rfl (q_iface (by kernel_rfl) rfl) ?_
  refine as_q rfl rfl (q_build (zs := [.nilIface]) (places := [(0, 1)]) (cs := [_]) (by kernel_rfl) (by kernel_rfl) rfl rfl) ?_
  refine as_h0 (h_store hs1.sat hor rfl rfl rfl (by kernel_rfl) rfl rfl rfl fun w2 hs2 hn2 => ?_)
  clear hor; have hor := hn2; clear hn2
  replace hT := hT.own hs2 (by omega)
  have hz2 := hs2.size
  refine Sa rfl rfl ?_
  refine as_nil (κ _ _ ?_)
  refine cw_ret ?_
  exact ⟨_, (res_cell rfl (loadVar_n (n := 1) (by kernel_rfl) (by exact Blk.cells hor.1 rfl)) (res_tmp rfl res_nil)), _, _, rfl, hT, .f (t := .nil) (brep_nil.2 rfl) (trivial) (by simp only [Bt.els]; rfl)⟩
theorem hp_empty_0 {w : World} {M : Mem} {z : Int} (hs : Sat M w) (hz : ¬ (1 ≤ z ∧ z ≤ 6)) :
    Does Tryz.prog 13 #[.int .i64 z] w (fun r w' => ∃ v' M', r = .tuple #[.agg #[v'], .int .i64 22] ∧ Step Nope M w M' w' ∧ HVal M' 0 [] v') := by
  have hT := Step.refl Nope hs
  refine fn_enter Tryz.func13 rfl (rs := [.cell 2 29, .tmp 3]) rfl rfl rfl rfl ?_
  refine cw_rs fun _ κ => ?_
  have hqar := hT.size
  refine as_h rfl (h_allocO (z := (.agg #[.nilIface])) hs (by kernel_rfl) rfl fun br w1 hs1 hor er => ?_)
  replace hT := hT.then hs1
  have hz1 := hs1.size
  have hlr := hor.1.lt
  refine Sa rfl rfl ?_
  refine as_nil (κ _ _ ?_)
  refine cw_seq fun _ hK2 => ?_
  refine cw_rs fun _ κ => ?_
  refine Sm rfl rfl ?_
  refine as_nil (κ _ _ ?_)
  refine cw_block ?_
  refine cw_rs fun _ κ => ?_
  refine as_q rfl rfl (q_eqF rfl rfl (by omega)) ?_
  refine Sa rfl rfl ?_
  refine as_nil (κ _ _ ?_)
  refine cw_false rfl ?_
  refine cw_rs fun _ κ => ?_
  refine as_q rfl rfl (q_eqF rfl rfl (by omega)) ?_
  refine Sa rfl rfl ?_
  refine as_nil (κ _ _ ?_)
  refine cw_false rfl ?_
  refine cw_rs fun _ κ => ?_
  refine as_q rfl rfl (q_eqF rfl rfl (by omega)) ?_
  refine Sa rfl rfl ?_
  refine as_nil (κ _ _ ?_)
  refine cw_false rfl ?_
  refine cw_rs fun _ κ => ?_
  refine as_q rfl rfl (q_eqF rfl rfl (by omega)) ?_
  refine Sa rfl rfl ?_
  refine as_nil (κ _ _ ?_)
  refine cw_false rfl ?_
  refine cw_rs fun _ κ => ?_
  refine as_q rfl rfl (q_eqF rfl rfl (by omega)) ?_
  refine Sa rfl rfl ?_
  refine as_nil (κ _ _ ?_)
  refine cw_false rfl ?_
  refine cw_rs fun _ κ => ?_
  refine as_q rfl rfl (q_eqF rfl rfl (by omega)) ?_
  refine Sa rfl rfl ?_
  refine as_nil (κ _ _ ?_)
  refine cw_false rfl ?_
  refine cw_skip ?_
  refine hK2 _ _ ?_
  refine cw_rs fun _ κ => ?_
  refine as_q rfl rfl (q_build (zs := [.nilIface]) (places := [(0, 1)]) (cs := [_]) (by kernel_rfl) (by kernel_rfl) rfl rfl) ?_
  refine as_h0 (h_store hs1.sat hor rfl rfl rfl (by kernel_rfl) rfl rfl rfl fun w2 hs2 hn2 => ?_)
  clear hor; have hor := hn2; clear hn2
  replace hT := hT.own hs2 (by omega)
  have hz2 := hs2.size
  refine Sa rfl rfl ?_
  refine as_nil (κ _ _ ?_)
  refine cw_ret ?_
  exact ⟨_, (res_cell rfl (loadVar_n (n := 1) (by kernel_rfl) (by exact Blk.cells hor.1 rfl)) (res_tmp rfl res_nil)), _, _, rfl, hT, .z⟩
theorem hp_empty {w : World} {M : Mem} {z : Int} (hs : Sat M w) : Does Tryz.prog 13 #[.int .i64 z] w (fun r w' => ∃ v' M', r = .tuple #[.agg #[v'], .int .i64 (emE z)] ∧ Step Nope M w M' w' ∧ HVal M' (emK z) [] v') := by
  unfold emE emK
  by_cases hz : 1 ≤ z ∧ z ≤ 6
  · rw [if_pos hz, if_pos hz]
    have hc : z = 1 ∨ z = 2 ∨ z = 3 ∨ z = 4 ∨ z = 5 ∨ z = 6 := by omega
    rcases hc with rfl | rfl | rfl | rfl | rfl | rfl
    · exact hp_empty_1 hs
    · exact hp_empty_2 hs
    · exact hp_empty_3 hs
    · exact hp_empty_4 hs
    · exact hp_empty_5 hs
    · exact hp_empty_6 hs
  · rw [if_neg hz, if_neg hz]
    exact hp_empty_0 hs hz
theorem hp_of_1 {w : World} {M : Mem} {z : Int} {u : Value} {n : Nat} {xs : List El} (hs : Sat M w) (hr : Rds M w 2 u n (els xs)) (hn : n ≤ 1000000) (hz : (1 ≤ z ∧ z ≤ 6)) :
    Does Tryz.prog 11 #[.pointer none, .int .i64 z, u] w (fun r w' => ∃ v' M', r = .tuple #[.agg #[v'], .int .i64 (emE z)] ∧ Step Nope M w M' w' ∧ HVal M' (emK z) (ofL z xs) v') := by
  have hT := Step.refl Nope hs
  have hxl := hr.els_len hs
  obtain ⟨sa, sc, rfl, _, _⟩ := hr.slice hs
  have hof0 : ofL z [] = [] := by unfold ofL; split <;> rfl
  have hie : insE (emK z) = emE z := by unfold insE emE emK; rw [if_pos hz, if_pos hz, if_neg (by omega)]
  have hek : emK z ≠ 0 := by unfold emK; rw [if_pos hz]; omega
  have hem : emE z = 0 := by unfold emE; rw [if_pos hz]
  have hlen : ∀ i, (ofL z (xs.take i)).length ≤ n := fun i => by unfold ofL; rw [if_pos hz, srtE_length, List.length_take]; omega
  have hof1 : ∀ l x, insL (emK z) (ofL z l) x = ofL z (l ++ [x]) := fun l x => by unfold insL ofL emK; rw [if_pos hz, if_pos hz, if_pos hz, if_neg (by omega), srtE_snoc]
  refine fn_enter Tryz.func11 rfl (rs := [.cell 6 29, .tmp 7]) rfl rfl rfl rfl ?_
  refine cw_rs fun _ κ => ?_
  have hqar := hT.size
  refine as_h rfl (h_allocO (z := (.agg #[.nilIface])) hs (by kernel_rfl) rfl fun br w1 hs1 hor er => ?_)
  replace hT := hT.then hs1
  have hz1 := hs1.size
  have hlr := hor.1.lt
  refine Sa rfl rfl ?_
  refine as_nil (κ _ _ ?_)
  refine cw_rs fun _ κ => ?_
  refine Sm rfl rfl ?_
  refine as_h rfl (h_call (by kernel_rfl) rfl ?_)
  refine (hp_empty hs1.sat).mono ?_
  rintro _ w2 ⟨v0, M0, rfl, hs2, hv⟩
  replace hor := hor.then hs2
  replace hT := hT.then hs2
  have hz2 := hs2.size
  obtain ⟨d_hv, u_hv, rfl⟩ := hv.iface hek
  refine Sm rfl rfl ?_
  refine Se rfl rfl rfl ?_
  refine Se rfl rfl rfl ?_
  have hqao := hT.size
  refine as_h rfl (h_allocO (z := (.agg #[.nilIface])) hs2.sat (by kernel_rfl) rfl fun bo w3 hs3 hoo eo => ?_)
  replace hor := hor.then hs3
  replace hv := hv.mono hs3.le
  replace hT := hT.then hs3
  have hz3 := hs3.size
  have hlo := hoo.1.lt
  refine as_h0 (h_store hs3.sat hoo rfl rfl rfl (by kernel_rfl) rfl rfl rfl fun w4 hs4 hn4 => ?_)
  replace hor := hor.step hs4 (fun h => by have h : _ = _ := h; omega)
  replace hv := hv.mono hs4.le
  clear hoo; have hoo := hn4; clear hn4
  replace hT := hT.own hs4 (by omega)
  have hz4 := hs4.size
  refine Sa rfl rfl ?_
  refine as_nil (κ _ _ ?_)
  refine cw_seq fun _ hK3 => ?_
  refine cw_rs fun _ κ => ?_
  refine Sm rfl rfl ?_
  refine as_q rfl rfl (q_len (by kernel_rfl) rfl _) ?_
  refine Sm rfl rfl ?_
  refine as_nil (κ _ _ ?_)
  refine cw_block ?_
  refine cw_loop (fun mm l1 w1 => ∃ (i : Nat) (v : Value) (M1 : Mem), mm = n - i ∧ i ≤ n ∧ l1 = [(0, .pointer none), (6, .pointer (some ⟨br, 0, none⟩)), (8, .pointer (some ⟨bo, 0, none⟩)), (9, .int .i64 (emE z)), (17, .slice sa n sc), (18, .int .i64 (n : Nat)), (19, .int .i64 i)] ∧ Step Nope M w M1 w1 ∧ HVal M1 (emK z) (ofL z (xs.take i)) v ∧ Own w1 M1 bo [v] 29 ∧ Own w1 M1 br [.nilIface] 29) (n) [(0, .pointer none), (6, .pointer (some ⟨br, 0, none⟩)), (8, .pointer (some ⟨bo, 0, none⟩)), (9, .int .i64 (emE z)), (17, .slice sa n sc), (18, .int .i64 (n : Nat)), (19, .int .i64 (0 : Nat))] (.cons rfl (.cons rfl (.cons rfl (.cons rfl (.cons rfl (.cons rfl (.cons rfl (.nil _)))))))) ?_ ?_
  · skip
    exact ⟨0, _, M0, rfl, Nat.zero_le _, rfl, hT, (by rw [List.take_zero, hof0]; exact hv), hoo, hor⟩
  have hbw : w.heap.size ≤ bo ∧ w.heap.size ≤ br ∧ bo ≠ br := by omega
  clear hT hv hoo hor
  rintro mm l1 w1 ⟨i, v, M1, rfl, hi, rfl, hT, hv, hoo, hor⟩
  obtain ⟨d_hv, u_hv, rfl⟩ := hv.iface hek
  have hlo1 := hoo.1.lt
  have hlr1 := hor.1.lt
  refine cw_rs fun _ κ => ?_
  refine as_q rfl rfl (q_lt rfl rfl) ?_
  refine as_nil (κ _ _ ?_)
  refine cw_seq fun _ hK6 => ?_
  refine cw_cond rfl (fun hc0 => ?_) (fun hc0 => ?_)
  · skip
    have hlt : i < n := by have := of_decide_eq_true hc0; omega
    obtain ⟨y, hy⟩ : ∃ y, xs[i]? = some y := ⟨xs[i]'(by omega), by simp⟩
    obtain ⟨g, o, rfl⟩ := (hr _ _ hT).there (by omega)
    refine cw_skip ?_
    refine hK6 _ _ ?_
    refine cw_seq fun _ hK7 => ?_
    refine cw_block ?_
    refine cw_rs fun _ κ => ?_
    refine as_q rfl rfl (q_indexAddr (e := 24) (size := 2) (by kernel_rfl) (by kernel_rfl) rfl rfl (by omega) (by omega)) ?_
    refine Sc 2 rfl (by kernel_rfl) rfl ((hr _ _ hT).el (j := (i : Int).toNat) (by simpa using hy)) ?_
    have hqaxx := hT.size
    refine as_h rfl (h_allocO (z := (.agg #[(.int .i64 0), (.int .i64 0)])) hT.sat (by kernel_rfl) rfl fun bxx w5 hs5 hoxx exx => ?_)
    replace hv := hv.mono hs5.le
    replace hoo := hoo.then hs5
    replace hor := hor.then hs5
    replace hT := hT.then hs5
    have hz5 := hs5.size
    have hlxx := hoxx.1.lt
    refine as_h0 (h_store hs5.sat hoxx rfl rfl rfl (by kernel_rfl) rfl rfl rfl fun w6 hs6 hn6 => ?_)
    replace hv := hv.mono hs6.le
    replace hoo := hoo.step hs6 (fun h => by have h : _ = _ := h; omega)
    replace hor := hor.step hs6 (fun h => by have h : _ = _ := h; omega)
    clear hoxx; have hoxx := hn6; clear hn6
    replace hT := hT.own hs6 (by omega)
    have hz6 := hs6.size
    refine as_nil (κ _ _ ?_)
    refine cw_rs fun _ κ => ?_
    refine Sm rfl rfl ?_
    refine as_q rfl rfl (q_eqT rfl rfl (by omega)) ?_
    refine as_nil (κ _ _ ?_)
    refine cw_true rfl ?_
    refine cw_region fun _ κ => ?_
    refine Sc 1 rfl (by kernel_rfl) rfl (by exact Blk.cells hoo.1 rfl) ?_
    refine Sm rfl rfl ?_
    refine Sc 2 rfl (by kernel_rfl) rfl (by exact Blk.cells hoxx.1 rfl) ?_
    refine as_h rfl (h_call (by kernel_rfl) rfl ?_)
    refine (hp_insert (x := y) hs6.sat hv (by have := hlen i; omega)).mono ?_
    rintro _ w7 ⟨v2, M2, hr2, hs7, hv2⟩
    rw [hie] at hr2
    subst hr2
    replace hv := hv.mono hs7.le
    replace hoo := hoo.then hs7
    replace hor := hor.then hs7
    replace hT := hT.then hs7
    have hz7 := hs7.size
    obtain ⟨d_hv2, u_hv2, rfl⟩ := hv2.iface hek
    refine Sm rfl rfl ?_
    refine Se rfl rfl rfl ?_
    refine Se rfl rfl rfl ?_
    refine as_h0 (h_store hs7.sat hoo rfl rfl rfl (by kernel_rfl) rfl rfl rfl fun w8 hs8 hn8 => ?_)
    replace hv := hv.mono hs8.le
    replace hor := hor.step hs8 (fun h => by have h : br = bo := h; omega)
    replace hv2 := hv2.mono hs8.le
    clear hoo; have hoo := hn8; clear hn8
    replace hT := hT.own hs8 (by omega)
    have hz8 := hs8.size
    refine Sa rfl rfl ?_
    refine as_nil (κ _ _ ?_)
    refine hK7 _ _ ?_
    refine cw_region fun _ κ => ?_
    refine as_q rfl rfl (q_addx rfl rfl (by omega) (by omega)) ?_
    refine Sm rfl rfl ?_
    refine as_nil (κ _ _ ?_)
    refine ⟨_, _, ?_, (.cons rfl (.cons rfl (.cons rfl (.cons rfl (.cons rfl (.cons rfl (.cons rfl (.nil _)))))))), i + 1, _, _, rfl, by omega, rfl, hT, ?_, hoo, hor⟩
    · omega
    · rw [List.take_add_one, hy]; exact hof1 _ _ ▸ hv2
  · skip
    have hge : i = n := by have := of_decide_eq_false hc0; omega
    refine cw_exit ?_
    refine hK3 _ _ ?_
    refine cw_rs fun _ κ => ?_
    refine Sc 1 rfl (by kernel_rfl) rfl (by exact Blk.cells hoo.1 rfl) ?_
    refine Sm rfl rfl ?_
    refine as_h0 (h_store hT.sat hor rfl rfl rfl (by kernel_rfl) rfl rfl rfl fun w9 hs9 hn9 => ?_)
    replace hv := hv.mono hs9.le
    clear hor; have hor := hn9; clear hn9
    replace hT := hT.own hs9 (by omega)
    have hz9 := hs9.size
    refine Sa rfl rfl ?_
    refine as_nil (κ _ _ ?_)
    refine cw_ret ?_
    subst hge
    rw [List.take_of_length_le (by omega)] at hv
    exact ⟨_, (res_cell rfl (loadVar_n (n := 1) (by kernel_rfl) (by exact Blk.cells hor.1 rfl)) (res_tmp rfl res_nil)), _, _, rfl, hT, hv⟩
theorem hp_of_0 {w : World} {M : Mem} {z : Int} {u : Value} {n : Nat} {xs : List El} (hs : Sat M w) (hr : Rds M w 2 u n (els xs)) (hn : n ≤ 1000000) (hz : ¬ (1 ≤ z ∧ z ≤ 6)) :
    Does Tryz.prog 11 #[.pointer none, .int .i64 z, u] w (fun r w' => ∃ v' M', r = .tuple #[.agg #[v'], .int .i64 (emE z)] ∧ Step Nope M w M' w' ∧ HVal M' (emK z) (ofL z xs) v') := by
  have hT := Step.refl Nope hs
  have hxl := hr.els_len hs
  obtain ⟨sa, sc, rfl, _, _⟩ := hr.slice hs
  have hof0 : ofL z [] = [] := by unfold ofL; split <;> rfl
  have hek : emK z = 0 := by unfold emK; rw [if_neg hz]
  have hem : emE z = 22 := by unfold emE; rw [if_neg hz]
  have hofb : ∀ l, ofL z l = [] := fun l => by unfold ofL; rw [if_neg hz]
  refine fn_enter Tryz.func11 rfl (rs := [.cell 6 29, .tmp 7]) rfl rfl rfl rfl ?_
  refine cw_rs fun _ κ => ?_
  have hqar := hT.size
  refine as_h rfl (h_allocO (z := (.agg #[.nilIface])) hs (by kernel_rfl) rfl fun br w1 hs1 hor er => ?_)
  replace hT := hT.then hs1
  have hz1 := hs1.size
  have hlr := hor.1.lt
  refine Sa rfl rfl ?_
  refine as_nil (κ _ _ ?_)
  refine cw_rs fun _ κ => ?_
  refine Sm rfl rfl ?_
  refine as_h rfl (h_call (by kernel_rfl) rfl ?_)
  refine (hp_empty hs1.sat).mono ?_
  rintro _ w2 ⟨v0, M0, rfl, hs2, hv⟩
  replace hor := hor.then hs2
  replace hT := hT.then hs2
  have hz2 := hs2.size
  obtain ⟨_, rfl⟩ := HVal.zero (hek ▸ hv)
  refine Sm rfl rfl ?_
  refine Se rfl rfl rfl ?_
  refine Se rfl rfl rfl ?_
  have hqao := hT.size
  refine as_h rfl (h_allocO (z := (.agg #[.nilIface])) hs2.sat (by kernel_rfl) rfl fun bo w3 hs3 hoo eo => ?_)
  replace hor := hor.then hs3
  replace hv := hv.mono hs3.le
  replace hT := hT.then hs3
  have hz3 := hs3.size
  have hlo := hoo.1.lt
  refine as_h0 (h_store hs3.sat hoo rfl rfl rfl (by kernel_rfl) rfl rfl rfl fun w4 hs4 hn4 => ?_)
  replace hor := hor.step hs4 (fun h => by have h : _ = _ := h; omega)
  replace hv := hv.mono hs4.le
  clear hoo; have hoo := hn4; clear hn4
  replace hT := hT.own hs4 (by omega)
  have hz4 := hs4.size
  refine Sa rfl rfl ?_
  refine as_nil (κ _ _ ?_)
  refine cw_seq fun _ hK3 => ?_
  refine cw_rs fun _ κ => ?_
  refine Sm rfl rfl ?_
  refine as_q rfl rfl (q_len (by kernel_rfl) rfl _) ?_
  refine Sm rfl rfl ?_
  refine as_nil (κ _ _ ?_)
  refine cw_block ?_
  refine cw_loop (fun mm l1 w1 => ∃ (i : Nat) (v : Value) (M1 : Mem), mm = n - i ∧ i ≤ n ∧ l1 = [(0, .pointer none), (6, .pointer (some ⟨br, 0, none⟩)), (8, .pointer (some ⟨bo, 0, none⟩)), (9, .int .i64 (emE z)), (17, .slice sa n sc), (18, .int .i64 (n : Nat)), (19, .int .i64 i)] ∧ Step Nope M w M1 w1 ∧ HVal M1 (emK z) (ofL z (xs.take i)) v ∧ Own w1 M1 bo [v] 29 ∧ Own w1 M1 br [.nilIface] 29) (n) [(0, .pointer none), (6, .pointer (some ⟨br, 0, none⟩)), (8, .pointer (some ⟨bo, 0, none⟩)), (9, .int .i64 (emE z)), (17, .slice sa n sc), (18, .int .i64 (n : Nat)), (19, .int .i64 (0 : Nat))] (.cons rfl (.cons rfl (.cons rfl (.cons rfl (.cons rfl (.cons rfl (.cons rfl (.nil _)))))))) ?_ ?_
  · skip
    exact ⟨0, _, M0, rfl, Nat.zero_le _, rfl, hT, (by rw [List.take_zero, hof0]; exact hv), hoo, hor⟩
  have hbw : w.heap.size ≤ bo ∧ w.heap.size ≤ br ∧ bo ≠ br := by omega
  clear hT hv hoo hor
  rintro mm l1 w1 ⟨i, v, M1, rfl, hi, rfl, hT, hv, hoo, hor⟩
  obtain ⟨_, rfl⟩ := HVal.zero (hek ▸ hv)
  have hlo1 := hoo.1.lt
  have hlr1 := hor.1.lt
  refine cw_rs fun _ κ => ?_
  refine as_q rfl rfl (q_lt rfl rfl) ?_
  refine as_nil (κ _ _ ?_)
  refine cw_seq fun _ hK6 => ?_
  refine cw_cond rfl (fun hc0 => ?_) (fun hc0 => ?_)
  · skip
    have hlt : i < n := by have := of_decide_eq_true hc0; omega
    obtain ⟨y, hy⟩ : ∃ y, xs[i]? = some y := ⟨xs[i]'(by omega), by simp⟩
    obtain ⟨g, o, rfl⟩ := (hr _ _ hT).there (by omega)
    refine cw_skip ?_
    refine hK6 _ _ ?_
    refine cw_seq fun _ hK7 => ?_
    refine cw_block ?_
    refine cw_rs fun _ κ => ?_
    refine as_q rfl rfl (q_indexAddr (e := 24) (size := 2) (by kernel_rfl) (by kernel_rfl) rfl rfl (by omega) (by omega)) ?_
    refine Sc 2 rfl (by kernel_rfl) rfl ((hr _ _ hT).el (j := (i : Int).toNat) (by simpa using hy)) ?_
    have hqaxx := hT.size
    refine as_h rfl (h_allocO (z := (.agg #[(.int .i64 0), (.int .i64 0)])) hT.sat (by kernel_rfl) rfl fun bxx w5 hs5 hoxx exx => ?_)
    replace hv := hv.mono hs5.le
    replace hoo := hoo.then hs5
    replace hor := hor.then hs5
    replace hT := hT.then hs5
    have hz5 := hs5.size
    have hlxx := hoxx.1.lt
    refine as_h0 (h_store hs5.sat hoxx rfl rfl rfl (by kernel_rfl) rfl rfl rfl fun w6 hs6 hn6 => ?_)
    replace hv := hv.mono hs6.le
    replace hoo := hoo.step hs6 (fun h => by have h : _ = _ := h; omega)
    replace hor := hor.step hs6 (fun h => by have h : _ = _ := h; omega)
    clear hoxx; have hoxx := hn6; clear hn6
    replace hT := hT.own hs6 (by omega)
    have hz6 := hs6.size
    refine as_nil (κ _ _ ?_)
    refine cw_rs fun _ κ => ?_
    refine Sm rfl rfl ?_
    refine as_q rfl rfl (q_eqF rfl rfl (by omega)) ?_
    refine as_nil (κ _ _ ?_)
    refine cw_false rfl ?_
    refine cw_skip ?_
    refine hK7 _ _ ?_
    refine cw_region fun _ κ => ?_
    refine as_q rfl rfl (q_addx rfl rfl (by omega) (by omega)) ?_
    refine Sm rfl rfl ?_
    refine as_nil (κ _ _ ?_)
    refine ⟨_, _, ?_, (.cons rfl (.cons rfl (.cons rfl (.cons rfl (.cons rfl (.cons rfl (.cons rfl (.nil _)))))))), i + 1, _, _, rfl, by omega, rfl, hT, ?_, hoo, hor⟩
    · omega
    · rw [hofb] at hv ⊢; exact hv
  · skip
    have hge : i = n := by have := of_decide_eq_false hc0; omega
    refine cw_exit ?_
    refine hK3 _ _ ?_
    refine cw_rs fun _ κ => ?_
    refine Sc 1 rfl (by kernel_rfl) rfl (by exact Blk.cells hoo.1 rfl) ?_
    refine Sm rfl rfl ?_
    refine as_h0 (h_store hT.sat hor rfl rfl rfl (by kernel_rfl) rfl rfl rfl fun w7 hs7 hn7 => ?_)
    replace hv := hv.mono hs7.le
    clear hor; have hor := hn7; clear hn7
    replace hT := hT.own hs7 (by omega)
    have hz7 := hs7.size
    refine Sa rfl rfl ?_
    refine as_nil (κ _ _ ?_)
    refine cw_ret ?_
    subst hge
    rw [List.take_of_length_le (by omega)] at hv
    exact ⟨_, (res_cell rfl (loadVar_n (n := 1) (by kernel_rfl) (by exact Blk.cells hor.1 rfl)) (res_tmp rfl res_nil)), _, _, rfl, hT, hv⟩
theorem hp_of {w : World} {M : Mem} {z : Int} {u : Value} {n : Nat} {xs : List El} (hs : Sat M w) (hr : Rds M w 2 u n (els xs)) (hn : n ≤ 1000000) : Does Tryz.prog 11 #[.pointer none, .int .i64 z, u] w (fun r w' => ∃ v' M', r = .tuple #[.agg #[v'], .int .i64 (emE z)] ∧ Step Nope M w M' w' ∧ HVal M' (emK z) (ofL z xs) v') := by
  by_cases hz : 1 ≤ z ∧ z ≤ 6
  · exact hp_of_1 hs hr hn hz
  · exact hp_of_0 hs hr hn hz
end Go.Proofs.YtgcgjpfjjgalmaaGreat
/- Contracts of the library at this program: FormatInt of small numbers, Join. Laid by the kit's lay-plain. -/
namespace Go.Proofs
open Go.Shelf
def Tryz.lays156_ren : Go.Shelf.Ren := ⟨fun | 156 => 128 | 165 => 141 | 166 => 139 | 169 => 140 | 240 => 146 | 241 => 147 | 276 => 150 | 277 => 151 | n => n, fun | 31 => 211 | 9 => 9 | 3 => 3 | 4 => 4 | 0 => 0 | 20 => 20 | 72 => 227 | 76 => 230 | 70 => 225 | 37 => 184 | 75 => 229 | 127 => 158 | 164 => 143 | 5 => 5 | 80 => 61 | n => n, fun | n => n⟩
theorem Tryz.lays156 : Go.Proofs.Lays.n156 Tryz.prog Tryz.lays156_ren := {
  mixed := by kernel_rfl
  f156 := Tryz.func128.trans (congrArg some (by kernel_rfl))
  f165 := Tryz.func141.trans (congrArg some (by kernel_rfl))
  f166 := Tryz.func139.trans (congrArg some (by kernel_rfl))
  f169 := Tryz.func140.trans (congrArg some (by kernel_rfl))
  f240 := Tryz.func146.trans (congrArg some (by kernel_rfl))
  f241 := Tryz.func147.trans (congrArg some (by kernel_rfl))
  f276 := Tryz.func150.trans (congrArg some (by kernel_rfl))
  f277 := Tryz.func151.trans (congrArg some (by kernel_rfl))
  t0 := Tryz.underlying0
  a0 := Tryz.isAgg0
  z0 := Tryz.sizeOf0
  v0 := Tryz.zeroValue0
  t3 := Tryz.underlying3
  a3 := Tryz.isAgg3
  z3 := Tryz.sizeOf3
  v3 := Tryz.zeroValue3
  t4 := Tryz.underlying4
  a4 := Tryz.isAgg4
  z4 := Tryz.sizeOf4
  v4 := Tryz.zeroValue4
  t9 := Tryz.underlying9
  a9 := Tryz.isAgg9
  z9 := Tryz.sizeOf9
  v9 := Tryz.zeroValue9
  t20 := Tryz.underlying20
  a20 := Tryz.isAgg20
  z20 := Tryz.sizeOf20
  v20 := Tryz.zeroValue20
  t31 := Tryz.underlying211
  a31 := Tryz.isAgg211
  z31 := Tryz.sizeOf211
  v31 := Tryz.zeroValue211
  t37 := Tryz.underlying184
  a37 := Tryz.isAgg184
  z37 := Tryz.sizeOf184
  v37 := Tryz.zeroValue184
  t70 := Tryz.underlying225
  a70 := Tryz.isAgg225
  z70 := Tryz.sizeOf225
  v70 := Tryz.zeroValue225
  t72 := Tryz.underlying227
  a72 := Tryz.isAgg227
  z72 := Tryz.sizeOf227
  v72 := Tryz.zeroValue227
  t75 := Tryz.underlying229
  a75 := Tryz.isAgg229
  z75 := Tryz.sizeOf229
  v75 := Tryz.zeroValue229
  t76 := Tryz.underlying230
  a76 := Tryz.isAgg230
  z76 := Tryz.sizeOf230
  v76 := Tryz.zeroValue230
  t127 := Tryz.underlying158
  a127 := Tryz.isAgg158
  z127 := Tryz.sizeOf158
  v127 := Tryz.zeroValue158
  t164 := Tryz.underlying143
  a164 := Tryz.isAgg143
  z164 := Tryz.sizeOf143
  v164 := Tryz.zeroValue143 }
theorem Tryz.Builder_Extra_156 : Builder.Extra Tryz.prog Tryz.lays156_ren := {
  sizeBuilder := by kernel_rfl
  liesBuilder := by kernel_rfl
  t5 := Tryz.underlying5
  a5 := Tryz.isAgg5
  z5 := Tryz.sizeOf5
  v5 := Tryz.zeroValue5
  infoByte := by kernel_rfl
  cellsByte := by kernel_rfl
  sizeByte := by kernel_rfl
  neB5 := by decide }
open Go.RowKit in
theorem Tryz.strings_Join (bk o c : Nat) (xs : List ByteArray) (sep : ByteArray) (w : World) (hcells : ∀ (j : Nat) x, xs[j]? = some x → w.cell? ⟨bk, o + j, none⟩ = some (.string x)) (hbk : bk < w.heap.size) (hN : xs.length ≤ 140737488355328) (hcap : xs.length ≤ c) (hlen : (Lib.join (xs.map (·.data.toList)) sep.data.toList).length ≤ 140737488355328) :
    Calls Tryz.prog 128 #[.slice (some ⟨bk, o, none⟩) xs.length c, .string sep] w fun e w' => e = .returned (.string ⟨(Lib.join (xs.map (·.data.toList)) sep.data.toList).toArray⟩) ∧ Below w.heap.size w w' := Any.strings_Join Tryz.lays156 Tryz.Builder_Extra_156 bk o c xs sep w hcells hbk hN hcap hlen
def Tryz.lays173_ren : Go.Shelf.Ren := ⟨fun | 173 => 97 | 246 => 98 | 283 => 99 | 284 => 100 | 285 => 101 | 286 => 102 | 129 => 104 | 317 => 103 | 318 => 105 | 319 => 106 | 320 => 107 | 337 => 108 | 338 => 109 | n => n, fun | 2 => 2 | 3 => 3 | 9 => 9 | 4 => 4 | 171 => 180 | 0 => 0 | 53 => 181 | 37 => 184 | 5 => 5 | 173 => 185 | 212 => 189 | 51 => 103 | 20 => 20 | 213 => 190 | 46 => 146 | 232 => 193 | 233 => 194 | n => n, fun | 17 => 0 | 18 => 1 | 19 => 2 | n => n⟩
theorem Tryz.lays173 : Go.Proofs.Lays.n173 Tryz.prog Tryz.lays173_ren := {
  mixed := by kernel_rfl
  f129 := Tryz.func104.trans (congrArg some (by kernel_rfl))
  f173 := Tryz.func97.trans (congrArg some (by kernel_rfl))
  f246 := Tryz.func98.trans (congrArg some (by kernel_rfl))
  f283 := Tryz.func99.trans (congrArg some (by kernel_rfl))
  f284 := Tryz.func100.trans (congrArg some (by kernel_rfl))
  f285 := Tryz.func101.trans (congrArg some (by kernel_rfl))
  f286 := Tryz.func102.trans (congrArg some (by kernel_rfl))
  f317 := Tryz.func103.trans (congrArg some (by kernel_rfl))
  f318 := Tryz.func105.trans (congrArg some (by kernel_rfl))
  f319 := Tryz.func106.trans (congrArg some (by kernel_rfl))
  f320 := Tryz.func107.trans (congrArg some (by kernel_rfl))
  f337 := Tryz.func108.trans (congrArg some (by kernel_rfl))
  f338 := Tryz.func109.trans (congrArg some (by kernel_rfl))
  t0 := Tryz.underlying0
  a0 := Tryz.isAgg0
  z0 := Tryz.sizeOf0
  v0 := Tryz.zeroValue0
  t2 := Tryz.underlying2
  a2 := Tryz.isAgg2
  z2 := Tryz.sizeOf2
  v2 := Tryz.zeroValue2
  t3 := Tryz.underlying3
  a3 := Tryz.isAgg3
  z3 := Tryz.sizeOf3
  v3 := Tryz.zeroValue3
  t4 := Tryz.underlying4
  a4 := Tryz.isAgg4
  z4 := Tryz.sizeOf4
  v4 := Tryz.zeroValue4
  t5 := Tryz.underlying5
  a5 := Tryz.isAgg5
  z5 := Tryz.sizeOf5
  v5 := Tryz.zeroValue5
  t9 := Tryz.underlying9
  a9 := Tryz.isAgg9
  z9 := Tryz.sizeOf9
  v9 := Tryz.zeroValue9
  t20 := Tryz.underlying20
  a20 := Tryz.isAgg20
  z20 := Tryz.sizeOf20
  v20 := Tryz.zeroValue20
  t37 := Tryz.underlying184
  a37 := Tryz.isAgg184
  z37 := Tryz.sizeOf184
  v37 := Tryz.zeroValue184
  t46 := Tryz.underlying146
  a46 := Tryz.isAgg146
  z46 := Tryz.sizeOf146
  v46 := Tryz.zeroValue146
  t51 := Tryz.underlying103
  a51 := Tryz.isAgg103
  z51 := Tryz.sizeOf103
  v51 := Tryz.zeroValue103
  t53 := Tryz.underlying181
  a53 := Tryz.isAgg181
  z53 := Tryz.sizeOf181
  v53 := Tryz.zeroValue181
  t171 := Tryz.underlying180
  a171 := Tryz.isAgg180
  z171 := Tryz.sizeOf180
  v171 := Tryz.zeroValue180
  t173 := Tryz.underlying185
  a173 := Tryz.isAgg185
  z173 := Tryz.sizeOf185
  v173 := Tryz.zeroValue185
  t212 := Tryz.underlying189
  a212 := Tryz.isAgg189
  z212 := Tryz.sizeOf189
  v212 := Tryz.zeroValue189
  t213 := Tryz.underlying190
  a213 := Tryz.isAgg190
  z213 := Tryz.sizeOf190
  t232 := Tryz.underlying193
  a232 := Tryz.isAgg193
  z232 := Tryz.sizeOf193
  v232 := Tryz.zeroValue193
  t233 := Tryz.underlying194
  a233 := Tryz.isAgg194
  z233 := Tryz.sizeOf194
  v233 := Tryz.zeroValue194
  g17 := by kernel_rfl
  g18 := by kernel_rfl
  g19 := by kernel_rfl }
open Go.RowKit Go.Sort Go.Lib in
theorem Tryz.strconv_FormatInt_10_small (i : Nat) (hi : i < 100) (w : World) :
    Calls Tryz.prog 97 #[.int .i64 i, .int .i64 10] w fun e w' => e = .returned (.string ⟨(Lib.decDigits i).toArray⟩) ∧ w' = w := Any.strconv_FormatInt_10_small Tryz.lays173 i hi w
end Go.Proofs
/- Pairing heaps of two elements as texts, part 1. -/
namespace Go.Proofs.YtgcgjpfjjgalmaaGreat
open Go Go.Eng
theorem fmt_0 {w : World} {M : Mem} (hs : Sat M w) : Does Tryz.prog 97 #[.int .i64 0, .int .i64 10] w (fun v w' => v = .string ⟨[48].toArray⟩ ∧ Step Nope M w M w') :=
  Does.of_calls (Tryz.strconv_FormatInt_10_small 0 (by decide) w) fun e w' ⟨he, hw⟩ => ⟨_, he, by rw [dec_small (by decide)]; rfl, by subst hw; exact Step.refl _ hs⟩
theorem fmt_1 {w : World} {M : Mem} (hs : Sat M w) : Does Tryz.prog 97 #[.int .i64 1, .int .i64 10] w (fun v w' => v = .string ⟨[49].toArray⟩ ∧ Step Nope M w M w') :=
  Does.of_calls (Tryz.strconv_FormatInt_10_small 1 (by decide) w) fun e w' ⟨he, hw⟩ => ⟨_, he, by rw [dec_small (by decide)]; rfl, by subst hw; exact Step.refl _ hs⟩
theorem fmt_2 {w : World} {M : Mem} (hs : Sat M w) : Does Tryz.prog 97 #[.int .i64 2, .int .i64 10] w (fun v w' => v = .string ⟨[50].toArray⟩ ∧ Step Nope M w M w') :=
  Does.of_calls (Tryz.strconv_FormatInt_10_small 2 (by decide) w) fun e w' ⟨he, hw⟩ => ⟨_, he, by rw [dec_small (by decide)]; rfl, by subst hw; exact Step.refl _ hs⟩
theorem txt_1 {w : World} {M : Mem} (hs : Sat M w) :
    Does Tryz.prog 96 #[.agg (elc (1, 0)).toArray] w (fun v w' => v = .string ⟨[49, 58, 48].toArray⟩ ∧ Step Nope M w M w') := by
  have hT := Step.refl Nope hs
  refine fn_enter Tryz.func96 rfl (rs := [.tmp 2]) rfl rfl rfl rfl ?_
  refine cw_rs fun _ κ => ?_
  refine as_h rfl (h_boxM hs rfl rfl fun b1 M1 w1 hs1 hb1 e1 => ?_)
  replace hT := hT.then hs1
  refine Sa rfl rfl ?_
  refine as_nil (κ _ _ ?_)
  refine cw_dr (by kernel_rfl) fun _ κ => ?_
  have hs2 := Step.drew hs1.sat
  replace hb1 := hs2.le _ _ hb1
  replace hT := hT.then hs2
  refine Df 0 1 0 rfl (by kernel_rfl) (by kernel_rfl) rfl ?_
  refine Dl1 1 3 rfl (by kernel_rfl) (by kernel_rfl) rfl (by exact BlkR.cell (hs2.sat _ _ _ hb1) rfl) ?_
  refine Df 4 19 1 rfl (by kernel_rfl) (by kernel_rfl) rfl ?_
  refine Dl1 5 51 rfl (by kernel_rfl) (by kernel_rfl) rfl (by exact BlkR.cell (hs2.sat _ _ _ hb1) rfl) ?_
  refine Dh 2 55 rfl (by kernel_rfl) (keep_sift (bs := [F,T]) (by kernel_rfl)) (h_call (by kernel_rfl) rfl ?_)
  refine (fmt_1 hs2.sat).mono ?_
  rintro _ w3 ⟨rfl, hs3⟩
  replace hb1 := hs3.le _ _ hb1
  replace hT := hT.then hs3
  refine ⟨(by repeat' first | exact trivial | exact BlkR.cell (hs3.sat _ _ _ hb1) rfl | exact BlkR.cells (hs3.sat _ _ _ hb1) rfl | assumption | refine all_keep ?_ | refine And.intro ?_ ?_), ?_⟩
  refine Dq 3 63 rfl (by kernel_rfl) (fun _ => (q_catL rfl (show _ = some (Value.string ⟨[58].toArray⟩) from rfl) (by decide))) ?_
  refine Dh 6 127 rfl (by kernel_rfl) (keep_sift (bs := [T]) (by kernel_rfl)) (h_call (by kernel_rfl) rfl ?_)
  refine (fmt_0 hs3.sat).mono ?_
  rintro _ w4 ⟨rfl, hs4⟩
  replace hT := hT.then hs4
  refine ⟨trivial, ?_⟩
  refine Dq 7 255 rfl (by kernel_rfl) (fun _ => (q_catL rfl rfl (by decide))) ?_
  refine Da 8 511 rfl (by kernel_rfl) rfl ?_
  refine Dd (by kernel_rfl) (κ _ _ ?_)
  refine cw_ret ?_
  exact ⟨_, (res_tmp rfl res_nil), rfl, hT.forget⟩
theorem txt_2 {w : World} {M : Mem} (hs : Sat M w) :
    Does Tryz.prog 96 #[.agg (elc (2, 0)).toArray] w (fun v w' => v = .string ⟨[50, 58, 48].toArray⟩ ∧ Step Nope M w M w') := by
  have hT := Step.refl Nope hs
  refine fn_enter Tryz.func96 rfl (rs := [.tmp 2]) rfl rfl rfl rfl ?_
  refine cw_rs fun _ κ => ?_
  refine as_h rfl (h_boxM hs rfl rfl fun b1 M1 w1 hs1 hb1 e1 => ?_)
  replace hT := hT.then hs1
  refine Sa rfl rfl ?_
  refine as_nil (κ _ _ ?_)
  refine cw_dr (by kernel_rfl) fun _ κ => ?_
  have hs2 := Step.drew hs1.sat
  replace hb1 := hs2.le _ _ hb1
  replace hT := hT.then hs2
  refine Df 0 1 0 rfl (by kernel_rfl) (by kernel_rfl) rfl ?_
  refine Dl1 1 3 rfl (by kernel_rfl) (by kernel_rfl) rfl (by exact BlkR.cell (hs2.sat _ _ _ hb1) rfl) ?_
  refine Df 4 19 1 rfl (by kernel_rfl) (by kernel_rfl) rfl ?_
  refine Dl1 5 51 rfl (by kernel_rfl) (by kernel_rfl) rfl (by exact BlkR.cell (hs2.sat _ _ _ hb1) rfl) ?_
  refine Dh 2 55 rfl (by kernel_rfl) (keep_sift (bs := [F,T]) (by kernel_rfl)) (h_call (by kernel_rfl) rfl ?_)
  refine (fmt_2 hs2.sat).mono ?_
  rintro _ w3 ⟨rfl, hs3⟩
  replace hb1 := hs3.le _ _ hb1
  replace hT := hT.then hs3
  refine ⟨(by repeat' first | exact trivial | exact BlkR.cell (hs3.sat _ _ _ hb1) rfl | exact BlkR.cells (hs3.sat _ _ _ hb1) rfl | assumption | refine all_keep ?_ | refine And.intro ?_ ?_), ?_⟩
  refine Dq 3 63 rfl (by kernel_rfl) (fun _ => (q_catL rfl (show _ = some (Value.string ⟨[58].toArray⟩) from rfl) (by decide))) ?_
  refine Dh 6 127 rfl (by kernel_rfl) (keep_sift (bs := [T]) (by kernel_rfl)) (h_call (by kernel_rfl) rfl ?_)
  refine (fmt_0 hs3.sat).mono ?_
  rintro _ w4 ⟨rfl, hs4⟩
  replace hT := hT.then hs4
  refine ⟨trivial, ?_⟩
  refine Dq 7 255 rfl (by kernel_rfl) (fun _ => (q_catL rfl rfl (by decide))) ?_
  refine Da 8 511 rfl (by kernel_rfl) rfl ?_
  refine Dd (by kernel_rfl) (κ _ _ ?_)
  refine cw_ret ?_
  exact ⟨_, (res_tmp rfl res_nil), rfl, hT.forget⟩
theorem join_1 {w : World} {M : Mem} {s : ByteArray} {g c : Nat} {sep : Value} (hs : Sat M w) (hb : Buf w M 9 1 (.slice (some ⟨g, 0, none⟩) 1 c) 1 [.string s]) :
    Does Tryz.prog 128 #[.slice (some ⟨g, 0, none⟩) 1 c, sep] w (fun v w' => v = .string s ∧ Step Nope M w M w') := by
  have hT := Step.refl Nope hs
  refine fn_enter Tryz.func128 rfl (rs := [.tmp 4]) rfl rfl rfl rfl ?_
  refine cw_rs fun _ κ => ?_
  refine Sa rfl rfl ?_
  refine as_nil (κ _ _ ?_)
  refine cw_seq fun _ hK2 => ?_
  refine cw_rs fun _ κ => ?_
  refine Sm rfl rfl ?_
  refine as_q rfl rfl (q_len (by kernel_rfl) rfl _) ?_
  refine as_nil (κ _ _ ?_)
  refine cw_block ?_
  refine cw_rs fun _ κ => ?_
  refine as_q rfl rfl (q_eqF rfl rfl (by decide)) ?_
  refine Sa rfl rfl ?_
  refine as_nil (κ _ _ ?_)
  refine cw_false rfl ?_
  refine cw_rs fun _ κ => ?_
  refine as_q rfl rfl (q_eqT rfl rfl (by decide)) ?_
  refine Sa rfl rfl ?_
  refine as_nil (κ _ _ ?_)
  refine cw_true rfl ?_
  refine cw_rs fun _ κ => ?_
  refine Sm rfl rfl ?_
  refine as_q rfl rfl (q_indexAddr (e := 9) (size := 1) (by kernel_rfl) (by kernel_rfl) rfl rfl (by omega) (by omega)) ?_
  refine S1 rfl (by kernel_rfl) rfl (Buf.cell hb (u := .string s) (j := (0 : Int).toNat * 1) rfl) ?_
  refine Sa rfl rfl ?_
  refine as_nil (κ _ _ ?_)
  refine cw_ret ?_
  exact ⟨_, (res_tmp rfl res_nil), rfl, hT.forget⟩
theorem join_2 {w : World} {M : Mem} {a b : List UInt8} {g c : Nat} (hs : Sat M w) (hb : Buf w M 9 1 (.slice (some ⟨g, 0, none⟩) 2 c) 2 [.string ⟨a.toArray⟩, .string ⟨b.toArray⟩]) (hl : a.length + b.length ≤ 1000) :
    Does Tryz.prog 128 #[.slice (some ⟨g, 0, none⟩) 2 c, .string ⟨[32].toArray⟩] w (fun v w' => v = .string ⟨(a ++ 32 :: b).toArray⟩ ∧ Step Nope M w M w') := by
  have hj : Lib.join ([(⟨a.toArray⟩ : ByteArray), ⟨b.toArray⟩].map (·.data.toList)) (⟨[32].toArray⟩ : ByteArray).data.toList = a ++ 32 :: b := by simp [Lib.join, List.intercalate]
  have hc : 2 ≤ c := by
    obtain ⟨_, _, h, h2, _⟩ := hb.slice
    cases h; exact h2
  refine Does.of_calls (Tryz.strings_Join g 0 c [⟨a.toArray⟩, ⟨b.toArray⟩] ⟨[32].toArray⟩ w (fun j x hj => ?_) (hb.lt g rfl) (by simp) hc (by rw [hj]; simp; omega)) fun e w' ⟨he, hw⟩ => ⟨_, he, by rw [hj], Step.of_below hs hw⟩
  match j, hj with
  | 0, hj => cases hj; exact Buf.cell hb (j := 0) rfl
  | 1, hj => cases hj; exact Buf.cell hb (j := 1) rfl
  | n + 2, hj => simp at hj
theorem p_show_leaf {w : World} {M : Mem} {q : Option Addr} (hs : Sat M w) (h : PRep 251 260 M (.node (2, 0) []) q) :
    Does Tryz.prog 165 #[.agg #[.pointer q]] w (fun v w' => v = .string ⟨[40, 50, 58, 48, 41].toArray⟩ ∧ Step Nope M w M w') := by
  have hT := Step.refl Nope hs
  obtain ⟨b, kq, al, rfl, hb, hc, hk⟩ := prep_node.1 h
  obtain rfl := preps_nil.1 hk
  refine fn_enter Tryz.func165 rfl (rs := [.tmp 2]) rfl rfl rfl rfl ?_
  refine cw_rs fun _ κ => ?_
  refine as_h rfl (h_boxM hs rfl rfl fun b1 M1 w1 hs1 hb1 e1 => ?_)
  replace hb := hs1.le _ _ hb
  replace hc := hc.mono hs1.le
  replace hT := hT.then hs1
  have hz1 := hs1.size
  refine Sa rfl rfl ?_
  refine as_nil (κ _ _ ?_)
  refine cw_seq fun _ hK2 => ?_
  refine cw_rs fun _ κ => ?_
  refine Sf 0 rfl (by kernel_rfl) rfl ?_
  refine S1 rfl (by kernel_rfl) rfl (by exact BlkR.cell (hs1.sat _ _ _ hb1) rfl) ?_
  refine as_q rfl rfl (q_eqnil (by kernel_rfl) rfl) ?_
  refine as_nil (κ _ _ ?_)
  refine cw_false rfl ?_
  refine cw_skip ?_
  refine hK2 _ _ ?_
  refine cw_rs fun _ κ => ?_
  refine Sf 0 rfl (by kernel_rfl) rfl ?_
  refine S1 rfl (by kernel_rfl) rfl (by exact BlkR.cell (hs1.sat _ _ _ hb1) rfl) ?_
  refine as_q rfl rfl (q_nilp rfl) ?_
  refine Sf 0 rfl (by kernel_rfl) rfl ?_
  refine Sc 2 rfl (by kernel_rfl) rfl (by exact BlkR.cells (hs1.sat _ _ _ hb) rfl) ?_
  refine as_h rfl (h_call (by kernel_rfl) rfl ?_)
  refine (txt_2 hs1.sat).mono ?_
  rintro _ w2 ⟨rfl, hs2⟩
  replace hb := hs2.le _ _ hb
  replace hc := hc.mono hs2.le
  replace hb1 := hs2.le _ _ hb1
  replace hT := hT.then hs2
  have hz2 := hs2.size
  refine as_h rfl (h_buildO (e := 9) (size := 1) (zs := [.string ⟨#[]⟩]) (cs := [_]) (by kernel_rfl) (by kernel_rfl) (by kernel_rfl) rfl hs2.sat rfl rfl fun bo w3 hs3 hoo eo => ?_)
  replace hb := hs3.le _ _ hb
  replace hc := hc.mono hs3.le
  replace hb1 := hs3.le _ _ hb1
  replace hT := hT.then hs3
  have hz3 := hs3.size
  have hlo := hoo.1.lt
  refine Sa rfl rfl ?_
  refine as_nil (κ _ _ ?_)
  refine cw_seq fun _ hK5 => ?_
  refine cw_rs fun _ κ => ?_
  refine Sf 0 rfl (by kernel_rfl) rfl ?_
  refine S1 rfl (by kernel_rfl) rfl (by exact BlkR.cell (hs3.sat _ _ _ hb1) rfl) ?_
  refine as_q rfl rfl (q_nilp rfl) ?_
  refine Sf 2 rfl (by kernel_rfl) rfl ?_
  refine Sc 1 rfl (by kernel_rfl) rfl (by exact BlkR.cells (hs3.sat _ _ _ hb) rfl) ?_
  refine as_h rfl (h_call (by kernel_rfl) rfl ?_)
  have hloo := hoo.1.lt
  refine (cp_all (vs := []) hs3.sat hc (by simp)).mono ?_
  rintro av w4 ⟨Ma, hs4, hba, hfa⟩
  replace hoo := hoo.then hs4
  replace hT := hT.then hs4
  have hz4 := hs4.size
  obtain ⟨aa, ac, rfl, _, _⟩ := hba.slice
  refine as_q rfl rfl (q_len (by kernel_rfl) rfl _) ?_
  refine Sm rfl rfl ?_
  refine as_nil (κ _ _ ?_)
  refine cw_block ?_
  refine cw_loop (fun mm l1 w1 => l1 = [(1, .pointer (some ⟨b1, 0, none⟩)), (3, .slice (some ⟨bo, 0, none⟩) 1 1), (21, .slice aa 0 ac), (22, .int .i64 ((0 : Nat) : Int)), (23, .int .i64 0)] ∧ Step Nope M w Ma w1 ∧ Own w1 Ma bo [.string ⟨[50, 58, 48].toArray⟩] 9) (0) [(1, .pointer (some ⟨b1, 0, none⟩)), (3, .slice (some ⟨bo, 0, none⟩) 1 1), (21, .slice aa 0 ac), (22, .int .i64 ((0 : Nat) : Int)), (23, .int .i64 0)] (.cons rfl (.cons rfl (.cons rfl (.cons rfl (.cons rfl (.nil _)))))) ?_ ?_
  · skip
    exact ⟨rfl, hT, hoo⟩
  clear hT hoo hba
  rintro mm l1 w1 ⟨rfl, hT, hoo⟩
  refine cw_rs fun _ κ => ?_
  refine as_q rfl rfl (q_ltF rfl rfl (by omega)) ?_
  refine as_nil (κ _ _ ?_)
  refine cw_seq fun _ hK8 => ?_
  refine cw_false rfl ?_
  refine cw_exit ?_
  refine hK5 _ _ ?_
  refine cw_rs fun _ κ => ?_
  refine Sm rfl rfl ?_
  refine as_h rfl (h_call (by kernel_rfl) rfl ?_)
  have hbb1 := Own.buf hoo (n := 1) (size := 1) rfl (by decide)
  refine (join_1 hT.sat hbb1).mono ?_
  rintro _ w5 ⟨rfl, hs5⟩
  replace hT := hT.then hs5
  have hz5 := hs5.size
  refine as_q rfl rfl (q_catL (show _ = some (Value.string ⟨[40].toArray⟩) from rfl) rfl (by decide)) ?_
  refine as_q rfl rfl (q_catL rfl (show _ = some (Value.string ⟨[41].toArray⟩) from rfl) (by decide)) ?_
  refine Sa rfl rfl ?_
  refine as_nil (κ _ _ ?_)
  refine cw_ret ?_
  exact ⟨_, (res_tmp rfl res_nil), rfl, hT.forget⟩
theorem p_show_one {w : World} {M : Mem} {q : Option Addr} (hs : Sat M w) (h : PRep 251 260 M (.node (1, 0) [.node (2, 0) []]) q) :
    Does Tryz.prog 165 #[.agg #[.pointer q]] w (fun v w' => v = .string ⟨[40, 49, 58, 48, 32, 40, 50, 58, 48, 41, 41].toArray⟩ ∧ Step Nope M w M w') := by
  have hT := Step.refl Nope hs
  obtain ⟨b, kq, al, rfl, hb, hc, hk⟩ := prep_node.1 h
  obtain ⟨_, qy, s, rfl, hky, hk2⟩ := preps_cons.1 hk
  obtain rfl := preps_nil.1 hk2
  refine fn_enter Tryz.func165 rfl (rs := [.tmp 2]) rfl rfl rfl rfl ?_
  refine cw_rs fun _ κ => ?_
  refine as_h rfl (h_boxM hs rfl rfl fun b1 M1 w1 hs1 hb1 e1 => ?_)
  replace hb := hs1.le _ _ hb
  replace hc := hc.mono hs1.le
  replace hky := hky.mono hs1.le
  replace hT := hT.then hs1
  have hz1 := hs1.size
  refine Sa rfl rfl ?_
  refine as_nil (κ _ _ ?_)
  refine cw_seq fun _ hK2 => ?_
  refine cw_rs fun _ κ => ?_
  refine Sf 0 rfl (by kernel_rfl) rfl ?_
  refine S1 rfl (by kernel_rfl) rfl (by exact BlkR.cell (hs1.sat _ _ _ hb1) rfl) ?_
  refine as_q rfl rfl (q_eqnil (by kernel_rfl) rfl) ?_
  refine as_nil (κ _ _ ?_)
  refine cw_false rfl ?_
  refine cw_skip ?_
  refine hK2 _ _ ?_
  refine cw_rs fun _ κ => ?_
  refine Sf 0 rfl (by kernel_rfl) rfl ?_
  refine S1 rfl (by kernel_rfl) rfl (by exact BlkR.cell (hs1.sat _ _ _ hb1) rfl) ?_
  refine as_q rfl rfl (q_nilp rfl) ?_
  refine Sf 0 rfl (by kernel_rfl) rfl ?_
  refine Sc 2 rfl (by kernel_rfl) rfl (by exact BlkR.cells (hs1.sat _ _ _ hb) rfl) ?_
  refine as_h rfl (h_call (by kernel_rfl) rfl ?_)
  refine (txt_1 hs1.sat).mono ?_
  rintro _ w2 ⟨rfl, hs2⟩
  replace hb := hs2.le _ _ hb
  replace hc := hc.mono hs2.le
  replace hky := hky.mono hs2.le
  replace hb1 := hs2.le _ _ hb1
  replace hT := hT.then hs2
  have hz2 := hs2.size
  refine as_h rfl (h_buildO (e := 9) (size := 1) (zs := [.string ⟨#[]⟩]) (cs := [_]) (by kernel_rfl) (by kernel_rfl) (by kernel_rfl) rfl hs2.sat rfl rfl fun bo w3 hs3 hoo eo => ?_)
  replace hb := hs3.le _ _ hb
  replace hc := hc.mono hs3.le
  replace hky := hky.mono hs3.le
  replace hb1 := hs3.le _ _ hb1
  replace hT := hT.then hs3
  have hz3 := hs3.size
  have hlo := hoo.1.lt
  refine Sa rfl rfl ?_
  refine as_nil (κ _ _ ?_)
  refine cw_seq fun _ hK5 => ?_
  refine cw_rs fun _ κ => ?_
  refine Sf 0 rfl (by kernel_rfl) rfl ?_
  refine S1 rfl (by kernel_rfl) rfl (by exact BlkR.cell (hs3.sat _ _ _ hb1) rfl) ?_
  refine as_q rfl rfl (q_nilp rfl) ?_
  refine Sf 2 rfl (by kernel_rfl) rfl ?_
  refine Sc 1 rfl (by kernel_rfl) rfl (by exact BlkR.cells (hs3.sat _ _ _ hb) rfl) ?_
  refine as_h rfl (h_call (by kernel_rfl) rfl ?_)
  have hloo := hoo.1.lt
  refine (cp_all (vs := [qy]) hs3.sat hc (by simp)).mono ?_
  rintro av w4 ⟨Ma, hs4, hba, hfa⟩
  replace hky := hky.mono hs4.le
  replace hoo := hoo.then hs4
  replace hT := hT.then hs4
  have hz4 := hs4.size
  obtain ⟨aa, ac, rfl, _, _⟩ := hba.slice
  refine as_q rfl rfl (q_len (by kernel_rfl) rfl _) ?_
  refine Sm rfl rfl ?_
  refine as_nil (κ _ _ ?_)
  refine cw_block ?_
  refine cw_loop (fun mm l1 w1 => (mm = 1 ∧ l1 = [(1, .pointer (some ⟨b1, 0, none⟩)), (3, .slice (some ⟨bo, 0, none⟩) 1 1), (21, .slice aa 1 ac), (22, .int .i64 ((1 : Nat) : Int)), (23, .int .i64 0)] ∧ Step Nope M w Ma w1 ∧ PRep 251 260 Ma (.node (2, 0) []) qy ∧ Buf w1 Ma 79 1 (.slice aa 1 ac) 1 (ptrs [qy]) ∧ Own w1 Ma bo [.string ⟨[49, 58, 48].toArray⟩] 9) ∨ (mm = 0 ∧ ∃ (g sc : Nat), l1 = [(1, .pointer (some ⟨b1, 0, none⟩)), (3, .slice (some ⟨g, 0, none⟩) 2 sc), (21, .slice aa 1 ac), (22, .int .i64 ((1 : Nat) : Int)), (23, .int .i64 1)] ∧ Step Nope M w Ma w1 ∧ Buf w1 Ma 9 1 (.slice (some ⟨g, 0, none⟩) 2 sc) 2 [.string ⟨[49, 58, 48].toArray⟩, .string ⟨[40, 50, 58, 48, 41].toArray⟩])) (1) [(1, .pointer (some ⟨b1, 0, none⟩)), (3, .slice (some ⟨bo, 0, none⟩) 1 1), (21, .slice aa 1 ac), (22, .int .i64 ((1 : Nat) : Int)), (23, .int .i64 0)] (.cons rfl (.cons rfl (.cons rfl (.cons rfl (.cons rfl (.nil _)))))) ?_ ?_
  · skip
    exact .inl ⟨rfl, rfl, hT, hky, hba, hoo⟩
  have hbow : w.heap.size ≤ bo := by omega
  have hfa2 : ∀ g, (Value.slice aa 1 ac).ownBlock = some g → g ≠ bo := fun g hg => by have := hfa g hg; omega
  clear hT hoo hba hky
  rintro mm l1 w1 (⟨rfl, rfl, hT, hky, hba, hoo⟩ | ⟨rfl, g, sc, rfl, hT, hbb⟩)
  · skip
    obtain ⟨ga, ca, hqa⟩ := hba.head0 (by decide)
    cases hqa
    have hlo1 := hoo.1.lt
    refine cw_rs fun _ κ => ?_
    refine as_q rfl rfl (q_lt rfl rfl) ?_
    refine as_nil (κ _ _ ?_)
    refine cw_seq fun _ hK8 => ?_
    refine cw_true rfl ?_
    refine cw_skip ?_
    refine hK8 _ _ ?_
    refine cw_seq fun _ hK9 => ?_
    refine cw_block ?_
    refine cw_rs fun _ κ => ?_
    refine as_q rfl rfl (q_indexAddr (e := 79) (size := 1) (by kernel_rfl) (by kernel_rfl) rfl rfl (by omega) (by omega)) ?_
    refine Sc 1 rfl (by kernel_rfl) rfl (cells_one (Buf.cell hba (u := .pointer qy) (j := (0 : Int).toNat * 1) rfl)) ?_
    have hbal := hba.lt
    have hqax := hT.size
    refine as_h rfl (h_allocO (z := (.agg #[(.pointer none)])) hT.sat (by kernel_rfl) rfl fun bx w5 hs5 hox ex => ?_)
    replace hky := hky.mono hs5.le
    replace hoo := hoo.then hs5
    replace hT := hT.then hs5
    have hz5 := hs5.size
    have hlx := hox.1.lt
    refine as_h0 (h_store hs5.sat hox rfl rfl rfl (by kernel_rfl) rfl rfl rfl fun w6 hs6 hn6 => ?_)
    replace hky := hky.mono hs6.le
    replace hoo := hoo.step hs6 (fun h => by have h : _ = _ := h; omega)
    clear hox; have hox := hn6; clear hn6
    replace hT := hT.own hs6 (by omega)
    have hz6 := hs6.size
    refine as_nil (κ _ _ ?_)
    refine cw_region fun _ κ => ?_
    refine Sm rfl rfl ?_
    refine Sc 1 rfl (by kernel_rfl) rfl (by exact Blk.cells hox.1 rfl) ?_
    refine as_h rfl (h_call (by kernel_rfl) rfl ?_)
    refine (p_show_leaf hs6.sat hky).mono ?_
    rintro _ w7 ⟨rfl, hs7⟩
    replace hoo := hoo.then hs7
    replace hT := hT.then hs7
    have hz7 := hs7.size
    refine as_h rfl (h_buildO (e := 9) (size := 1) (zs := [.string ⟨#[]⟩]) (cs := [_]) (by kernel_rfl) (by kernel_rfl) (by kernel_rfl) rfl hs7.sat rfl rfl fun bn w8 hs8 hon en => ?_)
    replace hoo := hoo.then hs8
    replace hT := hT.then hs8
    have hz8 := hs8.size
    have hln := hon.1.lt
    have hbb0 := Own.buf hoo (n := 1) (size := 1) rfl (by decide)
    have hrn := Buf.rd (Own.buf hon (n := 1) (size := 1) rfl (by decide))
    have hTq := hT.size
    refine as_h rfl (h_append (e := 9) (size := 1) (bytes := 16) (by kernel_rfl) hs8.sat hbb0 hrn rfl rfl (fun y hy => by obtain rfl := List.mem_singleton.1 hy; rfl) (by omega) rfl fun sv w9 hs9 hbb hor => ?_)
    replace hT := hT.trans hs9 (fun k hk h => by have h2 : bo = k := Option.some.inj h; omega)
    obtain ⟨g, sc, rfl⟩ := hbb.head0 (by decide)
    have hz_ := hs9.size
    refine Sa rfl rfl ?_
    refine as_nil (κ _ _ ?_)
    refine hK9 _ _ ?_
    refine cw_region fun _ κ => ?_
    refine as_q rfl rfl (q_addx rfl rfl (by omega) (by omega)) ?_
    refine Sm rfl rfl ?_
    refine as_nil (κ _ _ ?_)
    refine ⟨_, _, ?_, (.cons rfl (.cons rfl (.cons rfl (.cons rfl (.cons rfl (.nil _)))))), .inr ⟨rfl, g, _, rfl, hT, hbb⟩⟩
    omega
  · skip
    refine cw_rs fun _ κ => ?_
    refine as_q rfl rfl (q_lt rfl rfl) ?_
    refine as_nil (κ _ _ ?_)
    refine cw_seq fun _ hK14 => ?_
    refine cw_false rfl ?_
    refine cw_exit ?_
    refine hK5 _ _ ?_
    refine cw_rs fun _ κ => ?_
    refine Sm rfl rfl ?_
    refine as_h rfl (h_call (by kernel_rfl) rfl ?_)
    refine (join_2 hT.sat hbb (by decide)).mono ?_
    rintro _ w10 ⟨rfl, hs10⟩
    replace hT := hT.then hs10
    have hz10 := hs10.size
    refine as_q rfl rfl (q_catL (show _ = some (Value.string ⟨[40].toArray⟩) from rfl) rfl (by decide)) ?_
    refine as_q rfl rfl (q_catL rfl (show _ = some (Value.string ⟨[41].toArray⟩) from rfl) (by decide)) ?_
    refine Sa rfl rfl ?_
    refine as_nil (κ _ _ ?_)
    refine cw_ret ?_
    exact ⟨_, (res_tmp rfl res_nil), rfl, hT.forget⟩
theorem wc_show {w : World} {M : Mem} {q : Option Addr} (hs : Sat M w) (h : PRep 251 260 M (.node (1, 0) [.node (2, 0) []]) q) :
    Does Tryz.prog 180 #[.agg #[.pointer q]] w (fun v w' => v = .string ⟨[40, 49, 58, 48, 32, 40, 50, 58, 48, 41, 41].toArray⟩ ∧ Step Nope M w M w') := by
  have hT := Step.refl Nope hs
  refine fn_enter Tryz.func180 rfl (rs := [.tmp 2]) rfl rfl rfl rfl ?_
  refine cw_rs fun _ κ => ?_
  refine as_h rfl (h_boxM hs rfl rfl fun b1 M1 w1 hs1 hb1 e1 => ?_)
  replace h := h.mono hs1.le
  replace hT := hT.then hs1
  refine Sa rfl rfl ?_
  refine as_nil (κ _ _ ?_)
  refine cw_rs fun _ κ => ?_
  refine Sf 0 rfl (by kernel_rfl) rfl ?_
  refine Sc 1 rfl (by kernel_rfl) rfl (by exact BlkR.cells (hs1.sat _ _ _ hb1) rfl) ?_
  refine as_q rfl rfl (q_iface (by kernel_rfl) rfl) ?_
  refine as_h rfl (h_invoke (f := 165) (r := .agg #[.pointer q]) (by kernel_rfl) rfl rfl (by kernel_rfl) ?_)
  refine (p_show_one hs1.sat h).mono ?_
  rintro _ w2 ⟨rfl, hs2⟩
  replace h := h.mono hs2.le
  replace hT := hT.then hs2
  refine Sa rfl rfl ?_
  refine as_nil (κ _ _ ?_)
  refine cw_ret ?_
  exact ⟨_, (res_tmp rfl res_nil), rfl, hT.forget⟩
theorem hp_show_c {w : World} {M : Mem} {q : Option Addr} (hs : Sat M w) (h : PRep 251 260 M (.node (1, 0) [.node (2, 0) []]) q) :
    Does Tryz.prog 31 #[.agg #[.iface 81 (.agg #[.pointer q])]] w (fun v w' => v = .string ⟨[40, 49, 58, 48, 32, 40, 50, 58, 48, 41, 41].toArray⟩ ∧ Step Nope M w M w') := by
  have hT := Step.refl Nope hs
  refine fn_enter Tryz.func31 rfl (rs := [.tmp 2]) rfl rfl rfl rfl ?_
  refine cw_rs fun _ κ => ?_
  refine as_h rfl (h_boxM hs rfl rfl fun b1 M1 w1 hs1 hb1 e1 => ?_)
  replace h := h.mono hs1.le
  replace hT := hT.then hs1
  refine Sa rfl rfl ?_
  refine as_nil (κ _ _ ?_)
  refine cw_seq fun _ hK2 => ?_
  refine cw_rs fun _ κ => ?_
  refine Sf 0 rfl (by kernel_rfl) rfl ?_
  refine S1 rfl (by kernel_rfl) rfl (by exact BlkR.cell (hs1.sat _ _ _ hb1) rfl) ?_
  refine as_q rfl rfl (q_ifSome (by kernel_rfl) rfl) ?_
  refine as_nil (κ _ _ ?_)
  refine cw_false rfl ?_
  refine cw_skip ?_
  refine hK2 _ _ ?_
  refine cw_rs fun _ κ => ?_
  refine Sf 0 rfl (by kernel_rfl) rfl ?_
  refine S1 rfl (by kernel_rfl) rfl (by exact BlkR.cell (hs1.sat _ _ _ hb1) rfl) ?_
  refine as_h rfl (h_invoke (f := 180) (r := .agg #[.pointer q]) (by kernel_rfl) rfl rfl (by kernel_rfl) ?_)
  refine (wc_show hs1.sat h).mono ?_
  rintro _ w2 ⟨rfl, hs2⟩
  replace h := h.mono hs2.le
  replace hT := hT.then hs2
  refine Sa rfl rfl ?_
  refine as_nil (κ _ _ ?_)
  refine cw_ret ?_
  exact ⟨_, (res_tmp rfl res_nil), rfl, hT.forget⟩
theorem two_shape {M : Mem} {t : Pr} {q : Option Addr} (h : PRep 251 260 M t q) (hok : t.ok) (hl : [((1, 0) : El), (2, 0)] = srtE t.els) : t = (.node (1, 0) [.node (2, 0) []]) := by
  cases t with
  | nil => simp only [Pr.els] at hl; cases hl
  | node x ks =>
    have hok' : AllGe x (Pr.elsL ks) ∧ Pr.okL ks := by simpa only [Pr.ok] using hok
    have he := els_pop hl (by simp only [Pr.els]; exact .refl _) hok'.1
    obtain ⟨b, kq, al, rfl, hb, hc, hk⟩ := prep_node.1 h
    cases ks with
    | nil => simp only [Pr.elsL] at he; cases he.2
    | cons k r =>
      obtain ⟨hk0, a, s, rfl, hka, hkr⟩ := preps_cons.1 hk
      cases k with
      | nil => exact absurd rfl hk0
      | node y ls =>
        have hln := congrArg List.length he.2
        rw [srtE_length] at hln
        simp only [Pr.elsL, Pr.els, List.length_append, List.length_cons, List.length_nil] at hln
        obtain ⟨_, _, l2, _, _, _, hkl⟩ := prep_node.1 hka
        have h1 := hkl.small
        have h2 := hkr.small
        have h3 := hkl.length
        have h4 := hkr.length
        rw [← Pr.elsL_size] at h1 h2
        obtain rfl : ls = [] := List.eq_nil_of_length_eq_zero (by omega)
        obtain rfl : r = [] := List.eq_nil_of_length_eq_zero (by omega)
        have h5 : [((2, 0) : El)] = srtE [y] := by simpa only [Pr.elsL, Pr.els, List.append_nil] using he.2
        have h6 : srtE [y] = [y] := srtE_sorted (List.pairwise_singleton _ _)
        rw [h6] at h5
        obtain rfl := (List.cons.inj h5).1
        obtain rfl := he.1
        rfl
theorem hp_show_two {w : World} {M : Mem} {v : Value} (hs : Sat M w) (h : HVal M 3 [(1, 0), (2, 0)] v) :
    Does Tryz.prog 31 #[.agg #[v]] w (fun v w' => v = .string ⟨[40, 49, 58, 48, 32, 40, 50, 58, 48, 41, 41].toArray⟩ ∧ Step Nope M w M w') := by
  cases h with
  | c h hok hl => obtain rfl := two_shape h hok hl; exact hp_show_c hs h
end Go.Proofs.YtgcgjpfjjgalmaaGreat
/- The document s example of layer 15, part 1. -/
namespace Go.Proofs.YtgcgjpfjjgalmaaGreat
open Go Go.Eng
theorem of_two {w : World} {M : Mem} {z : Int} {b : Nat} (hs : Sat M w) (ho : Own w M b [.int .i64 2, .int .i64 0, .int .i64 1, .int .i64 0] 24) (hz : 1 ≤ z ∧ z ≤ 6) :
    Does Tryz.prog 11 #[.pointer none, .int .i64 z, .slice (some ⟨b, 0, none⟩) 2 2] w (fun r w' => ∃ v' M', r = .tuple #[.agg #[v'], .int .i64 0] ∧ Step Nope M w M' w' ∧ HVal M' z.toNat [((1, 0) : El), (2, 0)] v') := by
  have hb : Buf w M 24 2 (.slice (some ⟨b, 0, none⟩) 2 2) 2 (els [((2, 0) : El), (1, 0)]) := Own.buf ho (n := 2) rfl (by decide)
  refine (hp_of (z := z) hs hb.rds (by decide)).mono ?_
  rintro r w' ⟨v, M', h1, h2, h3⟩
  refine ⟨v, M', by rw [h1, emE, if_pos hz], h2, ?_⟩
  rw [emK, if_pos hz, ofL, if_pos hz, show srtE [((2, 0) : El), (1, 0)] = [((1, 0) : El), (2, 0)] by decide] at h3
  exact h3
theorem awake15 {w : World} {M : Mem} (hs : Sat M w) :
    Does Tryz.prog 24 #[] w (fun v w' => v = .bool true ∧ Step Nope M w M w') := by
  have hT := Step.refl Nope hs
  refine fn_enter Tryz.func24 rfl (rs := [.tmp 0]) rfl rfl rfl rfl ?_
  refine cw_rs fun _ κ => ?_
  refine Sa rfl rfl ?_
  refine as_nil (κ _ _ ?_)
  refine cw_rs fun _ κ => ?_
  refine as_q rfl rfl (q_build (zs := [(.int .i64 0), (.int .i64 0)]) (places := [(0, 1), (1, 1)]) (cs := [_, _]) (by kernel_rfl) (by kernel_rfl) rfl rfl) ?_
  refine as_q rfl rfl (q_build (zs := [(.int .i64 0), (.int .i64 0)]) (places := [(0, 1), (1, 1)]) (cs := [_, _]) (by kernel_rfl) (by kernel_rfl) rfl rfl) ?_
  refine as_h rfl (h_buildO (e := 24) (size := 2) (zs := [.int .i64 0, .int .i64 0, .int .i64 0, .int .i64 0]) (cs := [_, _, _, _]) (by kernel_rfl) (by kernel_rfl) (by kernel_rfl) rfl hs rfl rfl fun bp w1 hs1 hop ep => ?_)
  replace hT := hT.then hs1
  have hz1 := hs1.size
  refine as_h rfl (h_call (by kernel_rfl) rfl ?_)
  refine (of_two (z := 1) hs1.sat hop (by decide)).mono ?_
  rintro _ w2 ⟨va, Ma, rfl, hs2, ha⟩
  replace hT := hT.then hs2
  have hz2 := hs2.size
  obtain ⟨da, ua, rfl⟩ := ha.iface (by decide)
  refine Sm rfl rfl ?_
  refine Se rfl rfl rfl ?_
  refine Se rfl rfl rfl ?_
  have hqaa := hT.size
  refine as_h rfl (h_allocO (z := (.agg #[.nilIface])) hs2.sat (by kernel_rfl) rfl fun ba w3 hs3 hoa ea => ?_)
  replace ha := ha.mono hs3.le
  replace hT := hT.then hs3
  have hz3 := hs3.size
  have hla := hoa.1.lt
  refine as_h0 (h_store hs3.sat hoa rfl rfl rfl (by kernel_rfl) rfl rfl rfl fun w4 hs4 hn4 => ?_)
  replace ha := ha.mono hs4.le
  clear hoa; have hoa := hn4; clear hn4
  replace hT := hT.own hs4 (by omega)
  have hz4 := hs4.size
  refine Sa rfl rfl ?_
  refine as_nil (κ _ _ ?_)
  refine cw_rs fun _ κ => ?_
  refine as_q rfl rfl (q_build (zs := [(.int .i64 0), (.int .i64 0)]) (places := [(0, 1), (1, 1)]) (cs := [_, _]) (by kernel_rfl) (by kernel_rfl) rfl rfl) ?_
  refine as_q rfl rfl (q_build (zs := [(.int .i64 0), (.int .i64 0)]) (places := [(0, 1), (1, 1)]) (cs := [_, _]) (by kernel_rfl) (by kernel_rfl) rfl rfl) ?_
  refine as_h rfl (h_buildO (e := 24) (size := 2) (zs := [.int .i64 0, .int .i64 0, .int .i64 0, .int .i64 0]) (cs := [_, _, _, _]) (by kernel_rfl) (by kernel_rfl) (by kernel_rfl) rfl hs4.sat rfl rfl fun bq w5 hs5 hoq eq => ?_)
  replace ha := ha.mono hs5.le
  replace hoa := hoa.then hs5
  replace hT := hT.then hs5
  have hz5 := hs5.size
  refine as_h rfl (h_call (by kernel_rfl) rfl ?_)
  refine (of_two (z := 3) hs5.sat hoq (by decide)).mono ?_
  rintro _ w6 ⟨vb, Mb, rfl, hs6, hb⟩
  replace ha := ha.mono hs6.le
  replace hoa := hoa.then hs6
  replace hT := hT.then hs6
  have hz6 := hs6.size
  obtain ⟨db, ub, rfl⟩ := hb.iface (by decide)
  refine Sm rfl rfl ?_
  refine Se rfl rfl rfl ?_
  refine Se rfl rfl rfl ?_
  have hqab := hT.size
  refine as_h rfl (h_allocO (z := (.agg #[.nilIface])) hs6.sat (by kernel_rfl) rfl fun bb w7 hs7 hob eb => ?_)
  replace ha := ha.mono hs7.le
  replace hoa := hoa.then hs7
  replace hb := hb.mono hs7.le
  replace hT := hT.then hs7
  have hz7 := hs7.size
  have hlb := hob.1.lt
  refine as_h0 (h_store hs7.sat hob rfl rfl rfl (by kernel_rfl) rfl rfl rfl fun w8 hs8 hn8 => ?_)
  replace ha := ha.mono hs8.le
  replace hoa := hoa.step hs8 (fun h => by have h : _ = _ := h; omega)
  replace hb := hb.mono hs8.le
  clear hob; have hob := hn8; clear hn8
  replace hT := hT.own hs8 (by omega)
  have hz8 := hs8.size
  refine Sa rfl rfl ?_
  refine as_nil (κ _ _ ?_)
  refine cw_rs fun _ κ => ?_
  refine Sc 1 rfl (by kernel_rfl) rfl (by exact Blk.cells hoa.1 rfl) ?_
  refine Sc 1 rfl (by kernel_rfl) rfl (by exact Blk.cells hob.1 rfl) ?_
  refine as_h rfl (h_call (by kernel_rfl) rfl ?_)
  refine (hp_meld hs8.sat ha hb (by decide)).mono ?_
  rintro _ w9 ⟨vg, Mg, hrg, hs9, hg⟩
  rw [show melE (Int.toNat 1) (Int.toNat 3) = 22 by decide] at hrg
  subst hrg
  replace ha := ha.mono hs9.le
  replace hoa := hoa.then hs9
  replace hb := hb.mono hs9.le
  replace hob := hob.then hs9
  replace hT := hT.then hs9
  have hz9 := hs9.size
  obtain ⟨_, rfl⟩ := hg.zero
  refine Sm rfl rfl ?_
  refine Se rfl rfl rfl ?_
  refine Se rfl rfl rfl ?_
  have hqag := hT.size
  refine as_h rfl (h_allocO (z := (.agg #[.nilIface])) hs9.sat (by kernel_rfl) rfl fun bg w10 hs10 hog eg => ?_)
  replace ha := ha.mono hs10.le
  replace hoa := hoa.then hs10
  replace hb := hb.mono hs10.le
  replace hob := hob.then hs10
  replace hT := hT.then hs10
  have hz10 := hs10.size
  have hlg := hog.1.lt
  refine as_h0 (h_store hs10.sat hog rfl rfl rfl (by kernel_rfl) rfl rfl rfl fun w11 hs11 hn11 => ?_)
  replace ha := ha.mono hs11.le
  replace hoa := hoa.step hs11 (fun h => by have h : _ = _ := h; omega)
  replace hb := hb.mono hs11.le
  replace hob := hob.step hs11 (fun h => by have h : _ = _ := h; omega)
  clear hog; have hog := hn11; clear hn11
  replace hT := hT.own hs11 (by omega)
  have hz11 := hs11.size
  refine Sa rfl rfl ?_
  refine as_nil (κ _ _ ?_)
  refine cw_rs fun _ κ => ?_
  refine Sc 1 rfl (by kernel_rfl) rfl (by exact Blk.cells hoa.1 rfl) ?_
  refine as_h rfl (h_call (by kernel_rfl) rfl ?_)
  refine (hp_min hs11.sat ha (by decide)).mono ?_
  rintro _ w12 ⟨hrm, hs12⟩
  rw [show fullE (Int.toNat 1) [((1, 0) : El), (2, 0)] = 0 by decide] at hrm
  subst hrm
  replace ha := ha.mono hs12.le
  replace hoa := hoa.then hs12
  replace hb := hb.mono hs12.le
  replace hob := hob.then hs12
  replace hT := hT.then hs12
  have hz12 := hs12.size
  refine Sm rfl rfl ?_
  refine Se rfl rfl rfl ?_
  refine Se rfl rfl rfl ?_
  have hqax := hT.size
  refine as_h rfl (h_allocO (z := (.agg #[(.int .i64 0), (.int .i64 0)])) hs12.sat (by kernel_rfl) rfl fun bx w13 hs13 hox ex => ?_)
  replace ha := ha.mono hs13.le
  replace hoa := hoa.then hs13
  replace hb := hb.mono hs13.le
  replace hob := hob.then hs13
  replace hT := hT.then hs13
  have hz13 := hs13.size
  have hlx := hox.1.lt
  refine as_h0 (h_store hs13.sat hox rfl rfl rfl (by kernel_rfl) rfl rfl rfl fun w14 hs14 hn14 => ?_)
  replace ha := ha.mono hs14.le
  replace hoa := hoa.step hs14 (fun h => by have h : _ = _ := h; omega)
  replace hb := hb.mono hs14.le
  replace hob := hob.step hs14 (fun h => by have h : _ = _ := h; omega)
  clear hox; have hox := hn14; clear hn14
  replace hT := hT.own hs14 (by omega)
  have hz14 := hs14.size
  refine Sa rfl rfl ?_
  refine as_nil (κ _ _ ?_)
  refine cw_rs fun _ κ => ?_
  refine as_h rfl (h_call (by kernel_rfl) rfl ?_)
  refine (hp_empty (z := 6) hs14.sat).mono ?_
  rintro _ w15 ⟨vc, Mc, hrc, hs15, hc⟩
  rw [show emE 6 = 0 by decide] at hrc
  rw [show emK 6 = 6 by decide] at hc
  subst hrc
  replace ha := ha.mono hs15.le
  replace hoa := hoa.then hs15
  replace hb := hb.mono hs15.le
  replace hob := hob.then hs15
  replace hox := hox.then hs15
  replace hT := hT.then hs15
  have hz15 := hs15.size
  obtain ⟨dc, uc, rfl⟩ := hc.iface (by decide)
  refine Sm rfl rfl ?_
  refine Se rfl rfl rfl ?_
  refine Se rfl rfl rfl ?_
  have hqac := hT.size
  refine as_h rfl (h_allocO (z := (.agg #[.nilIface])) hs15.sat (by kernel_rfl) rfl fun bc w16 hs16 hoc ec => ?_)
  replace ha := ha.mono hs16.le
  replace hoa := hoa.then hs16
  replace hb := hb.mono hs16.le
  replace hob := hob.then hs16
  replace hox := hox.then hs16
  replace hc := hc.mono hs16.le
  replace hT := hT.then hs16
  have hz16 := hs16.size
  have hlc := hoc.1.lt
  refine as_h0 (h_store hs16.sat hoc rfl rfl rfl (by kernel_rfl) rfl rfl rfl fun w17 hs17 hn17 => ?_)
  replace ha := ha.mono hs17.le
  replace hoa := hoa.step hs17 (fun h => by have h : _ = _ := h; omega)
  replace hb := hb.mono hs17.le
  replace hob := hob.step hs17 (fun h => by have h : _ = _ := h; omega)
  replace hox := hox.step hs17 (fun h => by have h : _ = _ := h; omega)
  replace hc := hc.mono hs17.le
  clear hoc; have hoc := hn17; clear hn17
  replace hT := hT.own hs17 (by omega)
  have hz17 := hs17.size
  refine Sa rfl rfl ?_
  refine as_nil (κ _ _ ?_)
  refine cw_rs fun _ κ => ?_
  refine Sc 1 rfl (by kernel_rfl) rfl (by exact Blk.cells hoc.1 rfl) ?_
  refine as_h rfl (h_call (by kernel_rfl) rfl ?_)
  refine (hp_pop_0 hs17.sat hc).mono ?_
  rintro _ w18 ⟨vj, Mj, hrj, hs18, hj⟩
  rw [show fullE 6 [] = 23 by decide] at hrj
  subst hrj
  replace ha := ha.mono hs18.le
  replace hoa := hoa.then hs18
  replace hb := hb.mono hs18.le
  replace hob := hob.then hs18
  replace hox := hox.then hs18
  replace hc := hc.mono hs18.le
  replace hoc := hoc.then hs18
  replace hT := hT.then hs18
  have hz18 := hs18.size
  obtain ⟨_, rfl⟩ := hj.zero
  refine Sm rfl rfl ?_
  refine Se rfl rfl rfl ?_
  refine Se rfl rfl rfl ?_
  have hqaj := hT.size
  refine as_h rfl (h_allocO (z := (.agg #[.nilIface])) hs18.sat (by kernel_rfl) rfl fun bj w19 hs19 hoj ej => ?_)
  replace ha := ha.mono hs19.le
  replace hoa := hoa.then hs19
  replace hb := hb.mono hs19.le
  replace hob := hob.then hs19
  replace hox := hox.then hs19
  replace hc := hc.mono hs19.le
  replace hoc := hoc.then hs19
  replace hT := hT.then hs19
  have hz19 := hs19.size
  have hlj := hoj.1.lt
  refine as_h0 (h_store hs19.sat hoj rfl rfl rfl (by kernel_rfl) rfl rfl rfl fun w20 hs20 hn20 => ?_)
  replace ha := ha.mono hs20.le
  replace hoa := hoa.step hs20 (fun h => by have h : _ = _ := h; omega)
  replace hb := hb.mono hs20.le
  replace hob := hob.step hs20 (fun h => by have h : _ = _ := h; omega)
  replace hox := hox.step hs20 (fun h => by have h : _ = _ := h; omega)
  replace hc := hc.mono hs20.le
  replace hoc := hoc.step hs20 (fun h => by have h : _ = _ := h; omega)
  clear hoj; have hoj := hn20; clear hn20
  replace hT := hT.own hs20 (by omega)
  have hz20 := hs20.size
  refine Sa rfl rfl ?_
  refine as_nil (κ _ _ ?_)
  refine cw_rs fun _ κ => ?_
  refine as_h rfl (h_call (by kernel_rfl) rfl ?_)
  refine (hp_empty (z := 7) hs20.sat).mono ?_
  rintro _ w21 ⟨vk, Mk, hrk, hs21, hk⟩
  rw [show emE 7 = 22 by decide] at hrk
  rw [show emK 7 = 0 by decide] at hk
  subst hrk
  replace ha := ha.mono hs21.le
  replace hoa := hoa.then hs21
  replace hb := hb.mono hs21.le
  replace hob := hob.then hs21
  replace hox := hox.then hs21
  replace hc := hc.mono hs21.le
  replace hoc := hoc.then hs21
  replace hT := hT.then hs21
  have hz21 := hs21.size
  obtain ⟨_, rfl⟩ := hk.zero
  refine Sm rfl rfl ?_
  refine Se rfl rfl rfl ?_
  refine Se rfl rfl rfl ?_
  have hqak := hT.size
  refine as_h rfl (h_allocO (z := (.agg #[.nilIface])) hs21.sat (by kernel_rfl) rfl fun bk w22 hs22 hok ek => ?_)
  replace ha := ha.mono hs22.le
  replace hoa := hoa.then hs22
  replace hb := hb.mono hs22.le
  replace hob := hob.then hs22
  replace hox := hox.then hs22
  replace hc := hc.mono hs22.le
  replace hoc := hoc.then hs22
  replace hT := hT.then hs22
  have hz22 := hs22.size
  have hlk := hok.1.lt
  refine as_h0 (h_store hs22.sat hok rfl rfl rfl (by kernel_rfl) rfl rfl rfl fun w23 hs23 hn23 => ?_)
  replace ha := ha.mono hs23.le
  replace hoa := hoa.step hs23 (fun h => by have h : _ = _ := h; omega)
  replace hb := hb.mono hs23.le
  replace hob := hob.step hs23 (fun h => by have h : _ = _ := h; omega)
  replace hox := hox.step hs23 (fun h => by have h : _ = _ := h; omega)
  replace hc := hc.mono hs23.le
  replace hoc := hoc.step hs23 (fun h => by have h : _ = _ := h; omega)
  clear hok; have hok := hn23; clear hn23
  replace hT := hT.own hs23 (by omega)
  have hz23 := hs23.size
  refine Sa rfl rfl ?_
  refine as_nil (κ _ _ ?_)
  refine cw_rs fun _ κ => ?_
  refine Sm rfl rfl ?_
  refine as_q rfl rfl (q_eqT rfl rfl (by omega)) ?_
  refine Sm rfl rfl ?_
  refine as_gh rfl rfl rfl rfl (h_q rfl (q_move rfl) ?_)
  refine as_gh rfl rfl rfl rfl (h_q rfl (q_eqT rfl rfl (by omega)) ?_)
  refine as_q rfl rfl (q_pick_t rfl rfl) ?_
  refine Sm rfl rfl ?_
  refine as_gh rfl rfl rfl rfl (h_q rfl (q_move rfl) ?_)
  refine as_gh rfl rfl rfl rfl (h_q rfl (q_eqT rfl rfl (by omega)) ?_)
  refine as_q rfl rfl (q_pick_t rfl rfl) ?_
  refine Sm rfl rfl ?_
  refine as_gh rfl rfl rfl rfl (h_q rfl (q_move rfl) ?_)
  refine as_gh rfl rfl rfl rfl (h_q rfl (q_eqT rfl rfl (by omega)) ?_)
  refine as_q rfl rfl (q_pick_t rfl rfl) ?_
  refine Sm rfl rfl ?_
  refine as_gh rfl rfl rfl rfl (h_q rfl (q_fieldAddr (off := 0) (by kernel_rfl) rfl) ?_)
  refine as_gh rfl rfl rfl rfl (h_q rfl (q_load1 (by kernel_rfl) rfl (by exact Blk.cell hox.1 rfl)) ?_)
  refine as_gh rfl rfl rfl rfl (h_q rfl (q_eq rfl rfl) ?_)
  refine as_q rfl rfl (q_pick_t rfl rfl) ?_
  refine Sm rfl rfl ?_
  refine as_gh rfl rfl rfl rfl (h_q rfl (q_move rfl) ?_)
  refine as_gh rfl rfl rfl rfl (h_q rfl (q_eqT rfl rfl (by omega)) ?_)
  refine as_q rfl rfl (q_pick_t rfl rfl) ?_
  refine Sm rfl rfl ?_
  refine as_gh rfl rfl rfl rfl (h_q rfl (q_move rfl) ?_)
  refine as_gh rfl rfl rfl rfl (h_q rfl (q_eqT rfl rfl (by omega)) ?_)
  refine as_q rfl rfl (q_pick_t rfl rfl) ?_
  refine Sm rfl rfl ?_
  refine as_gh rfl rfl rfl rfl (h_q rfl (q_move rfl) ?_)
  refine as_gh rfl rfl rfl rfl (h_q rfl (q_eqT rfl rfl (by omega)) ?_)
  refine as_q rfl rfl (q_pick_t rfl rfl) ?_
  refine Sm rfl rfl ?_
  refine as_gh rfl rfl rfl rfl (h_q rfl (q_loadc (n := 1) (by kernel_rfl) rfl (by exact Blk.cells hoc.1 rfl)) ?_)
  refine as_gh rfl rfl rfl rfl (h_call (by kernel_rfl) rfl ?_)
  refine (hp_kind hs23.sat hc).mono ?_
  rintro _ w24 ⟨rfl, hs24⟩
  replace ha := ha.mono hs24.le
  replace hoa := hoa.then hs24
  replace hb := hb.mono hs24.le
  replace hob := hob.then hs24
  replace hT := hT.then hs24
  have hz24 := hs24.size
  refine as_gh rfl rfl rfl rfl (h_q rfl (q_eqT rfl rfl (by omega)) ?_)
  refine as_q rfl rfl (q_pick_t rfl rfl) ?_
  refine Sm rfl rfl ?_
  refine as_gh rfl rfl rfl rfl (h_q rfl (q_loadc (n := 1) (by kernel_rfl) rfl (by exact Blk.cells hoa.1 rfl)) ?_)
  refine as_gh rfl rfl rfl rfl (h_call (by kernel_rfl) rfl ?_)
  refine (hp_size hs24.sat ha (by decide)).mono ?_
  rintro _ w25 ⟨rfl, hs25⟩
  replace hb := hb.mono hs25.le
  replace hob := hob.then hs25
  replace hT := hT.then hs25
  have hz25 := hs25.size
  refine as_gh rfl rfl rfl rfl (h_q rfl (q_eq rfl rfl) ?_)
  refine as_q rfl rfl (q_pick_t rfl rfl) ?_
  refine Sm rfl rfl ?_
  refine as_gh rfl rfl rfl rfl (h_q rfl (q_loadc (n := 1) (by kernel_rfl) rfl (by exact Blk.cells hob.1 rfl)) ?_)
  refine as_gh rfl rfl rfl rfl (h_call (by kernel_rfl) rfl ?_)
  refine (hp_show_two hs25.sat hb).mono ?_
  rintro _ w26 ⟨rfl, hs26⟩
  replace hT := hT.then hs26
  have hz26 := hs26.size
  refine as_gh rfl rfl rfl rfl (h_q rfl (q_congr (q_eqL rfl (show _ = some (Value.string ⟨[40, 49, 58, 48, 32, 40, 50, 58, 48, 41, 41].toArray⟩) from rfl)) (v' := .bool true) (congrArg Value.bool (by decide))) ?_)
  refine as_q rfl rfl (q_pick_t rfl rfl) ?_
  refine Sa rfl rfl ?_
  refine as_nil (κ _ _ ?_)
  refine cw_ret ?_
  exact ⟨_, (res_tmp rfl res_nil), rfl, hT.forget⟩
end Go.Proofs.YtgcgjpfjjgalmaaGreat
/- What is done to heaps, part 1. -/
namespace Go.Proofs.YtgcgjpfjjgalmaaGreat
open Go Go.Eng
theorem HVal.one {M : Mem} {k : Nat} {l : List El} {v : Value} (h : HVal M k l v) : v.oneCell' = true := by cases h <;> rfl
theorem all_one {v : Value} (h : v.oneCell' = true) : [v].all (·.oneCell') = true := by simp [h]
theorem mem_one {v : Value} (h : v.oneCell' = true) : ∀ x ∈ [v], x.oneCell' = true := by simp [h]
structure Act where
 w : Int
 a : Int
 b : Int
 z : Int
 x : El
 lv : Value
 nl : Nat
 L : List El
def actc (t : Act) : List Value := [.int .u8 t.w, .int .u8 t.a, .int .u8 t.b, .int .i64 t.z, .int .i64 t.x.1, .int .i64 t.x.2, t.lv]
theorem actc_length (t : Act) : (actc t).length = 7 := rfl
def ActOk (M : Mem) (t : Act) : Prop := (0 ≤ t.w ∧ t.w ≤ 255) ∧ (0 ≤ t.a ∧ t.a ≤ 255) ∧ (0 ≤ t.b ∧ t.b ≤ 255) ∧ RdM M 2 t.lv t.nl (els t.L)
def ActsOk (M : Mem) (ts : List Act) : Prop := ∀ t ∈ ts, ActOk M t
theorem ActOk.mono {M M' : Mem} {t : Act} (h : ActOk M t) (k : Le M M') : ActOk M' t := ⟨h.1, h.2.1, h.2.2.1, h.2.2.2.mono k⟩
theorem ActsOk.mono {M M' : Mem} {ts : List Act} (h : ActsOk M ts) (k : Le M M') : ActsOk M' ts := fun t ht => (h t ht).mono k
theorem act_at {M : Mem} {w : World} {g o n c : Nat} {ts : List Act} (h : RdM M 7 (.slice (some ⟨g, o, none⟩) n c) n (ts.flatMap actc)) (hs : Sat M w) {i : Nat} {t : Act} (ht : ts[i]? = some t) (r : Nat) {u : Value} (hr : (actc t)[r]? = some u) : w.cell? ⟨g, o + i * 7 + r, none⟩ = some u := by
 rw [Nat.add_assoc]
 exact h.cell hs (rows_get actc_length ht r u hr)
theorem act_x {M : Mem} {w : World} {g o n c : Nat} {ts : List Act} (h : RdM M 7 (.slice (some ⟨g, o, none⟩) n c) n (ts.flatMap actc)) (hs : Sat M w) {i : Nat} {t : Act} (ht : ts[i]? = some t) : cellsAre g (o + i * 7 + 4) 2 (elc t.x) w :=
 ⟨rfl, fun j u hj => by
  rw [Nat.add_assoc]
  refine act_at h hs ht (4 + j) ?_
  rcases j with _ | _ | j
  · exact hj
  · exact hj
  · simp [elc] at hj⟩
/-- A heap of a kind, or none. -/
abbrev Kb (k : Nat) (b : Bool) : Nat := if b then k else 0
def HRow (k : Nat) (M : Mem) (D : List (Bool × List El)) (V : List Value) : Prop := D.length = V.length ∧ ∀ (i : Nat) d v, D[i]? = some d → V[i]? = some v → HVal M (Kb k d.1) d.2 v
theorem HRow.mono {k : Nat} {M M' : Mem} {D : List (Bool × List El)} {V : List Value} (h : HRow k M D V) (le : Le M M') : HRow k M' D V := ⟨h.1, fun i d v h1 h2 => (h.2 i d v h1 h2).mono le⟩
theorem HRow.get {k : Nat} {M : Mem} {D : List (Bool × List El)} {V : List Value} (h : HRow k M D V) {i : Nat} {b : Bool} {l : List El} (hd : D[i]? = some (b, l)) : ∃ v, V[i]? = some v ∧ HVal M (Kb k b) l v := by
 have hi : i < V.length := by rw [← h.1]; exact (List.getElem?_eq_some_iff.1 hd).1
 exact ⟨V[i], by simp, h.2 i _ _ hd (by simp)⟩
theorem HRow.snoc {k : Nat} {M : Mem} {D : List (Bool × List El)} {V : List Value} {b : Bool} {l : List El} {v : Value} (h : HRow k M D V) (hv : HVal M (Kb k b) l v) : HRow k M (D ++ [(b, l)]) (V ++ [v]) := by
 refine ⟨by simp [h.1], fun i d u h1 h2 => ?_⟩
 rcases Nat.lt_or_ge i D.length with hi | hi
 ·
  rw [List.getElem?_append_left hi] at h1
  rw [List.getElem?_append_left (by rw [← h.1]; exact hi)] at h2
  exact h.2 i d u h1 h2
 ·
  rw [List.getElem?_append_right hi] at h1
  rw [List.getElem?_append_right (by rw [← h.1]; exact hi), ← h.1] at h2
  have h0 : i - D.length = 0 := by have := (List.getElem?_eq_some_iff.1 h1).1; simp at this; omega
  rw [h0] at h1 h2
  cases h1
  cases h2
  exact hv
theorem HRow.single {k : Nat} {M : Mem} {b : Bool} {l : List El} {v : Value} (hv : HVal M (Kb k b) l v) : HRow k M [(b, l)] [v] := HRow.snoc (D := []) (V := []) ⟨rfl, fun i d u h => by cases h⟩ hv
theorem hrow_at {w : World} {M : Mem} {g n c e : Nat} {V : List Value} (h : Buf w M e 1 (.slice (some ⟨g, 0, none⟩) n c) n V) {j : Nat} {v : Value} (hj : V[j]? = some v) : cellsAre g (0 + j * 1) 1 [v] w :=
 ⟨rfl, fun i u hi => by
  rcases i with _ | i
  ·
   cases hi
   have := h.cell hj
   rwa [Nat.mul_one, Nat.add_zero]
  · cases hi⟩
def eB (b : Bool) : Int := if b then 0 else 22
def iB (b : Bool) (l : List El) (x : El) : List El := if b then putE l x else []
def mB (b b2 : Bool) (l l2 : List El) : List El := if b && b2 then srtE (l ++ l2) else []
def nB (b : Bool) (l : List El) : Bool := b && decide (l ≠ [])
def pE (b : Bool) (l : List El) : Int := if b then (if l = [] then 23 else 0) else 22
theorem iB_le (b : Bool) (l : List El) (x : El) : (iB b l x).length ≤ l.length + 1 := by
 unfold iB; split
 · rw [putE_length]; exact Nat.le_refl _
 · exact Nat.zero_le _
theorem mB_le (b b2 : Bool) (l l2 : List El) : (mB b b2 l l2).length ≤ l.length + l2.length := by
 unfold mB; split
 · rw [srtE_length, List.length_append]; exact Nat.le_refl _
 · exact Nat.zero_le _
theorem hp_insertB {w : World} {M : Mem} {k : Nat} {b : Bool} {x : El} {l : List El} {v : Value} (hs : Sat M w) (hk : k ≠ 0) (h : HVal M (Kb k b) l v) (hz : l.length < 1000000000) : Does Tryz.prog 14 #[.agg #[v], .pointer none, .agg (elc x).toArray] w (fun r w' => ∃ v' M', r = .tuple #[.agg #[v'], .int .i64 (eB b)] ∧ Step Nope M w M' w' ∧ HVal M' (Kb k b) (iB b l x) v') := by
 have e1 : insE (Kb k b) = eB b := by cases b <;> simp [insE, Kb, eB, hk]
 have e2 : insL (Kb k b) l x = iB b l x := by cases b <;> simp [insL, Kb, iB, hk]
 rw [← e1, ← e2]
 exact hp_insert hs h hz
theorem hp_meldB {w : World} {M : Mem} {k : Nat} {b b2 : Bool} {l l2 : List El} {v v2 : Value} (hs : Sat M w) (hk : k ≠ 0) (h : HVal M (Kb k b) l v) (h2 : HVal M (Kb k b2) l2 v2) (hz : l.length + l2.length < 1000000000) : Does Tryz.prog 26 #[.agg #[v], .pointer none, .agg #[v2]] w (fun r w' => ∃ v' M', r = .tuple #[.agg #[v'], .int .i64 (eB (b && b2))] ∧ Step Nope M w M' w' ∧ HVal M' (Kb k (b && b2)) (mB b b2 l l2) v') := by
 have e1 : melE (Kb k b) (Kb k b2) = eB (b && b2) := by cases b <;> cases b2 <;> simp [melE, badM, Kb, eB, hk]
 have e2 : melK (Kb k b) (Kb k b2) = Kb k (b && b2) := by cases b <;> cases b2 <;> simp [melK, badM, Kb, hk]
 have e3 : melL (Kb k b) (Kb k b2) l l2 = mB b b2 l l2 := by cases b <;> cases b2 <;> simp [melL, badM, Kb, mB, hk]
 rw [← e1, ← e2, ← e3]
 exact hp_meld hs h h2 hz
theorem hp_popB {w : World} {M : Mem} {k : Nat} {b : Bool} {l : List El} {v : Value} (hs : Sat M w) (hk : k ≠ 0) (h : HVal M (Kb k b) l v) (hz : l.length < 1000000000) : Does Tryz.prog 27 #[.agg #[v], .pointer none] w (fun r w' => ∃ v' M', r = .tuple #[.agg #[v'], .int .i64 (pE b l)] ∧ Step Nope M w M' w' ∧ HVal M' (Kb k (nB b l)) l.tail v') := by
 have e1 : fullE (Kb k b) l = pE b l := by cases b <;> simp [fullE, Kb, pE, hk]
 have e2 : popK (Kb k b) l = Kb k (nB b l) := by cases b <;> by_cases hl : l = [] <;> simp [popK, Kb, nB, hl]
 rw [← e1, ← e2]
 exact hp_pop hs h hz
theorem hp_minB {w : World} {M : Mem} {k : Nat} {b : Bool} {l : List El} {v : Value} (hs : Sat M w) (hk : k ≠ 0) (h : HVal M (Kb k b) l v) (hz : l.length < 1000000000) : Does Tryz.prog 28 #[.agg #[v], .pointer none] w (fun r w' => r = .tuple #[.agg (elc (l.headD (0, 0))).toArray, .int .i64 (pE b l)] ∧ Step Nope M w M w') := by
 have e1 : fullE (Kb k b) l = pE b l := by cases b <;> simp [fullE, Kb, pE, hk]
 rw [← e1]
 exact hp_min hs h hz
theorem kinds_few {w : World} {M : Mem} {sa : Option Addr} {n ca : Nat} {ts : List Act} (hs : Sat M w) (hr : RdM M 7 (.slice sa n ca) n (ts.flatMap actc)) (hok : ActsOk M ts) (hl : ts.length = n) (hn : n ≤ 9223372036854775807) :
  Does Tryz.prog 25 #[.slice sa n ca] w (fun v w' => ∃ bb, v = .bool bb ∧ (bb = true → n ≤ 30 ∧ ∀ t ∈ ts, t.L.length ≤ 30) ∧ Step Nope M w M w') := by
 have hT := Step.refl Nope hs
 refine fn_enter Tryz.func25 rfl (rs := [.tmp 2]) rfl rfl rfl rfl ?_
 refine cw_rs fun _ κ => ?_
 refine Sa rfl rfl ?_
 refine as_nil (κ _ _ ?_)
 refine cw_seq fun _ hK2 => ?_
 refine cw_rs fun _ κ => ?_
 refine Sa rfl rfl ?_
 refine as_nil (κ _ _ ?_)
 refine cw_block ?_
 refine cw_loop (fun mm l1 wL => ∃ i : Nat, mm = n - i ∧ i ≤ n ∧ (∀ (j : Nat) t, j < i → ts[j]? = some t → t.L.length ≤ 30) ∧ l1 = [(0, .slice sa n ca), (3, .int .i64 i)] ∧ Step Nope M w M wL) (n) [(0, .slice sa n ca), (3, .int .i64 (0 : Nat))] (.cons rfl (.cons rfl (.nil _))) ?_ ?_
 ·
  exact ⟨0, rfl, Nat.zero_le _, fun j t hj => by omega, rfl, hT⟩
 clear hT
 rintro mm l1 wL ⟨i, rfl, hi, hpre, rfl, hT⟩
 refine cw_seq fun _ hK4 => ?_
 refine cw_rs fun _ κ => ?_
 refine Sm rfl rfl ?_
 refine Sm rfl rfl ?_
 refine as_q rfl rfl (q_len (by kernel_rfl) rfl _) ?_
 refine as_q rfl rfl (q_lt rfl rfl) ?_
 refine as_nil (κ _ _ ?_)
 refine cw_cond rfl (fun hc0 => ?_) (fun hc0 => ?_)
 ·
  have hlt : i < n := by have := of_decide_eq_true hc0; omega
  obtain ⟨t, ht⟩ : ∃ y, ts[i]? = some y := ⟨ts[i]'(by omega), by simp⟩
  obtain ⟨g, o, rfl⟩ := hr.there (by omega)
  have hta := hok t (List.mem_of_getElem? ht)
  obtain ⟨aw, c2, hlv, _, _⟩ := hta.2.2.2.slice
  have hlL := hta.2.2.2.rds wL |>.els_len hT.sat
  refine cw_skip ?_
  refine hK4 _ _ ?_
  refine cw_seq fun _ hK6 => ?_
  refine cw_block ?_
  refine cw_rs fun _ κ => ?_
  refine Sm rfl rfl ?_
  refine Sm rfl rfl ?_
  refine as_q rfl rfl (q_indexAddr (e := 53) (size := 7) (by kernel_rfl) (by kernel_rfl) rfl rfl (by omega) (by omega)) ?_
  refine Sf 6 rfl (by kernel_rfl) rfl ?_
  refine S1 rfl (by kernel_rfl) rfl (act_at hr hT.sat (i := (i : Int).toNat) (by simpa using ht) 6 (u := .slice aw t.nl c2) (congrArg some hlv)) ?_
  refine as_q rfl rfl (q_len (by kernel_rfl) rfl _) ?_
  refine as_q rfl rfl (q_gt rfl rfl) ?_
  refine as_nil (κ _ _ ?_)
  refine cw_cond rfl (fun hc1 => ?_) (fun hc1 => ?_)
  ·
   skip
   refine cw_rs fun _ κ => ?_
   refine Sa rfl rfl ?_
   refine as_nil (κ _ _ ?_)
   refine cw_ret ?_
   exact ⟨_, (res_tmp rfl res_nil), false, rfl, fun h => (by cases h), hT⟩
  ·
   have hsm : t.nl ≤ 30 := by have := of_decide_eq_false hc1; omega
   refine cw_skip ?_
   refine hK6 _ _ ?_
   refine cw_region fun _ κ => ?_
   refine Sm rfl rfl ?_
   refine as_q rfl rfl (q_addx rfl rfl (by omega) (by omega)) ?_
   refine Sa rfl rfl ?_
   refine as_nil (κ _ _ ?_)
   exact ⟨_, _, by omega, (.cons rfl (.cons rfl (.nil _))), i + 1, rfl, by omega, fun j u hj hu => by
    rcases Nat.lt_or_ge j i with h | h
    · exact hpre j u h hu
    ·
     obtain rfl : j = i := by omega
     rw [ht] at hu
     cases hu
     omega, rfl, hT⟩
 ·
  have hge : i = n := by have := of_decide_eq_false hc0; omega
  refine cw_exit ?_
  refine hK2 _ _ ?_
  refine cw_rs fun _ κ => ?_
  refine Sm rfl rfl ?_
  refine as_q rfl rfl (q_len (by kernel_rfl) rfl _) ?_
  refine as_q rfl rfl (q_le rfl rfl) ?_
  refine Sa rfl rfl ?_
  refine as_nil (κ _ _ ?_)
  refine cw_ret ?_
  exact ⟨_, (res_tmp rfl res_nil), _, rfl, fun h => ⟨by have := of_decide_eq_true h; omega, fun t ht => by
   obtain ⟨j, hj⟩ := List.getElem?_of_mem ht
   exact hpre j t (by have := (List.getElem?_eq_some_iff.1 hj).1; omega) hj⟩, hT⟩
end Go.Proofs.YtgcgjpfjjgalmaaGreat
/- Heaps of two kinds answer alike, part 1. -/
namespace Go.Proofs.YtgcgjpfjjgalmaaGreat
open Go Go.Eng
theorem tmod_nat {a : Int} {n : Nat} (ha : 0 ≤ a) (hn : 0 < n) : ∃ r : Nat, a.tmod (n : Int) = r ∧ r < n := by
 refine ⟨(a.tmod (n : Int)).toNat, ?_, ?_⟩
 · have := Int.tmod_nonneg (n : Int) ha; omega
 ·
  have := Int.tmod_nonneg (n : Int) ha
  have := Int.tmod_lt_of_pos a (show (0 : Int) < (n : Int) by omega)
  omega
theorem HVal.toB {M : Mem} {k : Nat} {l : List El} {v : Value} (h : HVal M k l v) : HVal M (Kb k true) l v := by simpa [Kb] using h
set_option maxRecDepth 8000 in
set_option maxHeartbeats 1000000 in
theorem heapKinds_g {w : World} {M : Mem} {z y : Int} {sa : Option Addr} {n ca : Nat} {ts : List Act} (hs : Sat M w) (hr : RdM M 7 (.slice sa n ca) n (ts.flatMap actc)) (hok : ActsOk M ts) (hl : ts.length = n) (hn : n ≤ 9223372036854775807) :
  Does Tryz.prog 6 #[.slice sa n ca, .int .i64 z, .int .i64 y] w (fun v w' => v = .bool true ∧ Step Nope M w M w') := by
 have hT := Step.refl Nope hs
 have hr0 := hr
 have hok0 := hok
 refine fn_enter Tryz.func6 rfl (rs := [.tmp 6]) rfl rfl rfl rfl ?_
 refine cw_rs fun _ κ => ?_
 refine Sa rfl rfl ?_
 refine as_nil (κ _ _ ?_)
 refine cw_rs fun _ κ => ?_
 refine as_h rfl (h_call (by kernel_rfl) rfl ?_)
 refine (awake15 hs).mono ?_
 rintro _ w1 ⟨rfl, hs1⟩
 replace hr := hr.mono hs1.le
 replace hok := hok.mono hs1.le
 replace hT := hT.then hs1
 have hz1 := hs1.size
 refine Sa rfl rfl ?_
 refine as_nil (κ _ _ ?_)
 refine cw_seq fun _ hK3 => ?_
 refine cw_rs fun _ κ => ?_
 refine Sm rfl rfl ?_
 refine as_q rfl rfl (q_not rfl) ?_
 refine as_nil (κ _ _ ?_)
 refine cw_false rfl ?_
 refine cw_skip ?_
 refine hK3 _ _ ?_
 refine cw_rs fun _ κ => ?_
 refine Sm rfl rfl ?_
 refine as_h rfl (h_call (by kernel_rfl) rfl ?_)
 refine (kinds_few hs1.sat hr hok hl hn).mono ?_
 rintro _ w2 ⟨bb, rfl, hbb, hs2⟩
 replace hr := hr.mono hs2.le
 replace hok := hok.mono hs2.le
 replace hT := hT.then hs2
 have hz2 := hs2.size
 refine Sa rfl rfl ?_
 refine as_nil (κ _ _ ?_)
 refine cw_seq fun _ hK6 => ?_
 rcases (show (bb = false) ∨ (bb = true ∧ z < 1) ∨ (bb = true ∧ ¬ (z < 1) ∧ 6 < z) ∨ (bb = true ∧ ¬ (z < 1) ∧ ¬ (6 < z) ∧ y < 1) ∨ (bb = true ∧ ¬ (z < 1) ∧ ¬ (6 < z) ∧ ¬ (y < 1) ∧ 6 < y) ∨ (bb = true ∧ ¬ (z < 1) ∧ ¬ (6 < z) ∧ ¬ (y < 1) ∧ ¬ (6 < y)) by rcases bb with _ | _ <;> simp <;> omega) with rfl | ⟨rfl, h0⟩ | ⟨rfl, h0, h1⟩ | ⟨rfl, h0, h1, h2⟩ | ⟨rfl, h0, h1, h2, h3⟩ | ⟨rfl, h0, h1, h2, h3⟩
 ·
  refine cw_rs fun _ κ => ?_
  refine Sm rfl rfl ?_
  refine as_q rfl rfl (q_not rfl) ?_
  refine Sm rfl rfl ?_
  refine as_gskip rfl rfl rfl rfl rfl ?_
  refine as_gskip rfl rfl rfl rfl rfl ?_
  refine as_q rfl rfl (q_pick_t rfl rfl) ?_
  refine Sm rfl rfl ?_
  refine as_gskip rfl rfl rfl rfl rfl ?_
  refine as_gskip rfl rfl rfl rfl rfl ?_
  refine as_q rfl rfl (q_pick_t rfl rfl) ?_
  refine Sm rfl rfl ?_
  refine as_gskip rfl rfl rfl rfl rfl ?_
  refine as_gskip rfl rfl rfl rfl rfl ?_
  refine as_q rfl rfl (q_pick_t rfl rfl) ?_
  refine Sm rfl rfl ?_
  refine as_gskip rfl rfl rfl rfl rfl ?_
  refine as_gskip rfl rfl rfl rfl rfl ?_
  refine as_q rfl rfl (q_pick_t rfl rfl) ?_
  refine as_nil (κ _ _ ?_)
  refine cw_true rfl ?_
  refine cw_rs fun _ κ => ?_
  refine Sa rfl rfl ?_
  refine as_nil (κ _ _ ?_)
  refine cw_ret ?_
  exact ⟨_, (res_tmp rfl res_nil), rfl, hT.forget⟩
 ·
  refine cw_rs fun _ κ => ?_
  refine Sm rfl rfl ?_
  refine as_q rfl rfl (q_not rfl) ?_
  refine Sm rfl rfl ?_
  refine as_gh rfl rfl rfl rfl (h_q rfl (q_move rfl) ?_)
  refine as_gh rfl rfl rfl rfl (h_q rfl (q_ltT rfl rfl (by omega)) ?_)
  refine as_q rfl rfl (q_pick_f rfl rfl) ?_
  refine Sm rfl rfl ?_
  refine as_gskip rfl rfl rfl rfl rfl ?_
  refine as_gskip rfl rfl rfl rfl rfl ?_
  refine as_q rfl rfl (q_pick_t rfl rfl) ?_
  refine Sm rfl rfl ?_
  refine as_gskip rfl rfl rfl rfl rfl ?_
  refine as_gskip rfl rfl rfl rfl rfl ?_
  refine as_q rfl rfl (q_pick_t rfl rfl) ?_
  refine Sm rfl rfl ?_
  refine as_gskip rfl rfl rfl rfl rfl ?_
  refine as_gskip rfl rfl rfl rfl rfl ?_
  refine as_q rfl rfl (q_pick_t rfl rfl) ?_
  refine as_nil (κ _ _ ?_)
  refine cw_true rfl ?_
  refine cw_rs fun _ κ => ?_
  refine Sa rfl rfl ?_
  refine as_nil (κ _ _ ?_)
  refine cw_ret ?_
  exact ⟨_, (res_tmp rfl res_nil), rfl, hT.forget⟩
 ·
  refine cw_rs fun _ κ => ?_
  refine Sm rfl rfl ?_
  refine as_q rfl rfl (q_not rfl) ?_
  refine Sm rfl rfl ?_
  refine as_gh rfl rfl rfl rfl (h_q rfl (q_move rfl) ?_)
  refine as_gh rfl rfl rfl rfl (h_q rfl (q_ltF rfl rfl (by omega)) ?_)
  refine as_q rfl rfl (q_pick_f rfl rfl) ?_
  refine Sm rfl rfl ?_
  refine as_gh rfl rfl rfl rfl (h_q rfl (q_move rfl) ?_)
  refine as_gh rfl rfl rfl rfl (h_q rfl (q_gtT rfl rfl (by omega)) ?_)
  refine as_q rfl rfl (q_pick_f rfl rfl) ?_
  refine Sm rfl rfl ?_
  refine as_gskip rfl rfl rfl rfl rfl ?_
  refine as_gskip rfl rfl rfl rfl rfl ?_
  refine as_q rfl rfl (q_pick_t rfl rfl) ?_
  refine Sm rfl rfl ?_
  refine as_gskip rfl rfl rfl rfl rfl ?_
  refine as_gskip rfl rfl rfl rfl rfl ?_
  refine as_q rfl rfl (q_pick_t rfl rfl) ?_
  refine as_nil (κ _ _ ?_)
  refine cw_true rfl ?_
  refine cw_rs fun _ κ => ?_
  refine Sa rfl rfl ?_
  refine as_nil (κ _ _ ?_)
  refine cw_ret ?_
  exact ⟨_, (res_tmp rfl res_nil), rfl, hT.forget⟩
 ·
  refine cw_rs fun _ κ => ?_
  refine Sm rfl rfl ?_
  refine as_q rfl rfl (q_not rfl) ?_
  refine Sm rfl rfl ?_
  refine as_gh rfl rfl rfl rfl (h_q rfl (q_move rfl) ?_)
  refine as_gh rfl rfl rfl rfl (h_q rfl (q_ltF rfl rfl (by omega)) ?_)
  refine as_q rfl rfl (q_pick_f rfl rfl) ?_
  refine Sm rfl rfl ?_
  refine as_gh rfl rfl rfl rfl (h_q rfl (q_move rfl) ?_)
  refine as_gh rfl rfl rfl rfl (h_q rfl (q_gtF rfl rfl (by omega)) ?_)
  refine as_q rfl rfl (q_pick_f rfl rfl) ?_
  refine Sm rfl rfl ?_
  refine as_gh rfl rfl rfl rfl (h_q rfl (q_move rfl) ?_)
  refine as_gh rfl rfl rfl rfl (h_q rfl (q_ltT rfl rfl (by omega)) ?_)
  refine as_q rfl rfl (q_pick_f rfl rfl) ?_
  refine Sm rfl rfl ?_
  refine as_gskip rfl rfl rfl rfl rfl ?_
  refine as_gskip rfl rfl rfl rfl rfl ?_
  refine as_q rfl rfl (q_pick_t rfl rfl) ?_
  refine as_nil (κ _ _ ?_)
  refine cw_true rfl ?_
  refine cw_rs fun _ κ => ?_
  refine Sa rfl rfl ?_
  refine as_nil (κ _ _ ?_)
  refine cw_ret ?_
  exact ⟨_, (res_tmp rfl res_nil), rfl, hT.forget⟩
 ·
  refine cw_rs fun _ κ => ?_
  refine Sm rfl rfl ?_
  refine as_q rfl rfl (q_not rfl) ?_
  refine Sm rfl rfl ?_
  refine as_gh rfl rfl rfl rfl (h_q rfl (q_move rfl) ?_)
  refine as_gh rfl rfl rfl rfl (h_q rfl (q_ltF rfl rfl (by omega)) ?_)
  refine as_q rfl rfl (q_pick_f rfl rfl) ?_
  refine Sm rfl rfl ?_
  refine as_gh rfl rfl rfl rfl (h_q rfl (q_move rfl) ?_)
  refine as_gh rfl rfl rfl rfl (h_q rfl (q_gtF rfl rfl (by omega)) ?_)
  refine as_q rfl rfl (q_pick_f rfl rfl) ?_
  refine Sm rfl rfl ?_
  refine as_gh rfl rfl rfl rfl (h_q rfl (q_move rfl) ?_)
  refine as_gh rfl rfl rfl rfl (h_q rfl (q_ltF rfl rfl (by omega)) ?_)
  refine as_q rfl rfl (q_pick_f rfl rfl) ?_
  refine Sm rfl rfl ?_
  refine as_gh rfl rfl rfl rfl (h_q rfl (q_move rfl) ?_)
  refine as_gh rfl rfl rfl rfl (h_q rfl (q_gtT rfl rfl (by omega)) ?_)
  refine as_q rfl rfl (q_pick_f rfl rfl) ?_
  refine as_nil (κ _ _ ?_)
  refine cw_true rfl ?_
  refine cw_rs fun _ κ => ?_
  refine Sa rfl rfl ?_
  refine as_nil (κ _ _ ?_)
  refine cw_ret ?_
  exact ⟨_, (res_tmp rfl res_nil), rfl, hT.forget⟩
 ·
  obtain ⟨hn30, hL30⟩ := hbb rfl
  have hz : 1 ≤ z ∧ z ≤ 6 := by omega
  have hz2 : 1 ≤ y ∧ y ≤ 6 := by omega
  obtain ⟨k, hkz⟩ : ∃ k : Nat, (k : Int) = z := ⟨z.toNat, by omega⟩
  have hem : emE z = 0 := by unfold emE; rw [if_pos hz]
  have hekz : emK z = k := by unfold emK; rw [if_pos hz]; omega
  have hk0 : k ≠ 0 := by omega
  have hofl : ∀ l, ofL z l = srtE l := fun l => by unfold ofL; rw [if_pos hz]
  obtain ⟨k2, hkz2⟩ : ∃ k2 : Nat, (k2 : Int) = y := ⟨y.toNat, by omega⟩
  have hem2 : emE y = 0 := by unfold emE; rw [if_pos hz2]
  have hekz2 : emK y = k2 := by unfold emK; rw [if_pos hz2]; omega
  have hk02 : k2 ≠ 0 := by omega
  have hofl2 : ∀ l, ofL y l = srtE l := fun l => by unfold ofL; rw [if_pos hz2]
  refine cw_rs fun _ κ => ?_
  refine Sm rfl rfl ?_
  refine as_q rfl rfl (q_not rfl) ?_
  refine Sm rfl rfl ?_
  refine as_gh rfl rfl rfl rfl (h_q rfl (q_move rfl) ?_)
  refine as_gh rfl rfl rfl rfl (h_q rfl (q_ltF rfl rfl (by omega)) ?_)
  refine as_q rfl rfl (q_pick_f rfl rfl) ?_
  refine Sm rfl rfl ?_
  refine as_gh rfl rfl rfl rfl (h_q rfl (q_move rfl) ?_)
  refine as_gh rfl rfl rfl rfl (h_q rfl (q_gtF rfl rfl (by omega)) ?_)
  refine as_q rfl rfl (q_pick_f rfl rfl) ?_
  refine Sm rfl rfl ?_
  refine as_gh rfl rfl rfl rfl (h_q rfl (q_move rfl) ?_)
  refine as_gh rfl rfl rfl rfl (h_q rfl (q_ltF rfl rfl (by omega)) ?_)
  refine as_q rfl rfl (q_pick_f rfl rfl) ?_
  refine Sm rfl rfl ?_
  refine as_gh rfl rfl rfl rfl (h_q rfl (q_move rfl) ?_)
  refine as_gh rfl rfl rfl rfl (h_q rfl (q_gtF rfl rfl (by omega)) ?_)
  refine as_q rfl rfl (q_pick_f rfl rfl) ?_
  refine as_nil (κ _ _ ?_)
  refine cw_false rfl ?_
  refine cw_skip ?_
  refine hK6 _ _ ?_
  refine cw_rs fun _ κ => ?_
  refine Sm rfl rfl ?_
  refine as_h rfl (h_call (by kernel_rfl) rfl ?_)
  refine (hp_empty (z := z) hs2.sat).mono ?_
  rintro _ w3 ⟨vx, Mn3, hrv, hs3, hvx⟩
  rw [hem] at hrv
  rw [hekz] at hvx
  subst hrv
  replace hr := hr.mono hs3.le
  replace hok := hok.mono hs3.le
  replace hT := hT.then hs3
  have hz3 := hs3.size
  have onex := hvx.one
  refine Sm rfl rfl ?_
  refine Se rfl rfl rfl ?_
  refine Se rfl rfl rfl ?_
  have hqax := hT.size
  refine as_h rfl (h_allocO (z := (.agg #[.nilIface])) hs3.sat (by kernel_rfl) rfl fun bx w4 hs4 hox ex => ?_)
  replace hr := hr.mono hs4.le
  replace hok := hok.mono hs4.le
  replace hvx := hvx.mono hs4.le
  replace hT := hT.then hs4
  have hz4 := hs4.size
  have hlx := hox.1.lt
  refine as_h0 (h_store hs4.sat hox rfl rfl rfl (by kernel_rfl) rfl (all_one onex) rfl fun w5 hs5 hn5 => ?_)
  replace hr := hr.mono hs5.le
  replace hok := hok.mono hs5.le
  replace hvx := hvx.mono hs5.le
  clear hox; have hox := hn5; clear hn5
  replace hT := hT.own hs5 (by omega)
  have hz5 := hs5.size
  refine Sa rfl rfl ?_
  refine as_nil (κ _ _ ?_)
  refine cw_rs fun _ κ => ?_
  refine Sm rfl rfl ?_
  refine as_h rfl (h_call (by kernel_rfl) rfl ?_)
  refine (hp_empty (z := y) hs5.sat).mono ?_
  rintro _ w6 ⟨vq, Mn6, hrv, hs6, hvq⟩
  rw [hem2] at hrv
  rw [hekz2] at hvq
  subst hrv
  replace hr := hr.mono hs6.le
  replace hok := hok.mono hs6.le
  replace hvx := hvx.mono hs6.le
  replace hox := hox.then hs6
  replace hT := hT.then hs6
  have hz6 := hs6.size
  have oneq := hvq.one
  refine Sm rfl rfl ?_
  refine Se rfl rfl rfl ?_
  refine Se rfl rfl rfl ?_
  have hqaq := hT.size
  refine as_h rfl (h_allocO (z := (.agg #[.nilIface])) hs6.sat (by kernel_rfl) rfl fun bq w7 hs7 hoq eq => ?_)
  replace hr := hr.mono hs7.le
  replace hok := hok.mono hs7.le
  replace hvx := hvx.mono hs7.le
  replace hox := hox.then hs7
  replace hvq := hvq.mono hs7.le
  replace hT := hT.then hs7
  have hz7 := hs7.size
  have hlq := hoq.1.lt
  refine as_h0 (h_store hs7.sat hoq rfl rfl rfl (by kernel_rfl) rfl (all_one oneq) rfl fun w8 hs8 hn8 => ?_)
  replace hr := hr.mono hs8.le
  replace hok := hok.mono hs8.le
  replace hvx := hvx.mono hs8.le
  replace hox := hox.step hs8 (fun h => by have h : _ = bq := h; omega)
  replace hvq := hvq.mono hs8.le
  clear hoq; have hoq := hn8; clear hn8
  replace hT := hT.own hs8 (by omega)
  have hz8 := hs8.size
  refine Sa rfl rfl ?_
  refine as_nil (κ _ _ ?_)
  refine cw_rs fun _ κ => ?_
  refine Sc 1 rfl (by kernel_rfl) rfl (by exact Blk.cells hox.1 rfl) ?_
  refine as_h rfl (h_buildO (e := 29) (size := 1) (zs := [.nilIface]) (cs := [_]) (by kernel_rfl) (by kernel_rfl) (by kernel_rfl) rfl hs8.sat rfl rfl fun bp0 w9 hs9 hop0 ep0 => ?_)
  replace hr := hr.mono hs9.le
  replace hok := hok.mono hs9.le
  replace hvx := hvx.mono hs9.le
  replace hox := hox.then hs9
  replace hvq := hvq.mono hs9.le
  replace hoq := hoq.then hs9
  replace hT := hT.then hs9
  have hz9 := hs9.size
  have hlp0 := hop0.1.lt
  refine Sa rfl rfl ?_
  refine as_nil (κ _ _ ?_)
  refine cw_rs fun _ κ => ?_
  refine Sc 1 rfl (by kernel_rfl) rfl (by exact Blk.cells hoq.1 rfl) ?_
  refine as_h rfl (h_buildO (e := 29) (size := 1) (zs := [.nilIface]) (cs := [_]) (by kernel_rfl) (by kernel_rfl) (by kernel_rfl) rfl hs9.sat rfl rfl fun bq0 w10 hs10 hoq0 eq0 => ?_)
  replace hr := hr.mono hs10.le
  replace hok := hok.mono hs10.le
  replace hvx := hvx.mono hs10.le
  replace hox := hox.then hs10
  replace hvq := hvq.mono hs10.le
  replace hoq := hoq.then hs10
  replace hop0 := hop0.then hs10
  replace hT := hT.then hs10
  have hz10 := hs10.size
  have hlq0 := hoq0.1.lt
  refine Sa rfl rfl ?_
  refine as_nil (κ _ _ ?_)
  refine cw_seq fun _ hK22 => ?_
  refine cw_rs fun _ κ => ?_
  refine Sa rfl rfl ?_
  refine as_nil (κ _ _ ?_)
  refine cw_block ?_
  refine cw_loop (fun mm l1 wL => ∃ (i : Nat) (er : Int) (D : List (Bool × List El)) (PP QQ : List Value) (v1 v2 : Value) (gp cp gq cq : Nat) (M1 : Mem), mm = n - i ∧ i ≤ n ∧ D.length = i + 1 ∧ (∀ d ∈ D, d.2.length ≤ 101) ∧ (w.heap.size ≤ gp ∧ w.heap.size ≤ gq ∧ gp ≠ gq ∧ gp ≠ bx ∧ gp ≠ bq ∧ gq ≠ bx ∧ gq ≠ bq) ∧ l1 = [(0, .slice sa n ca), (1, .int .i64 z), (2, .int .i64 y), (9, .pointer (some ⟨bx, 0, none⟩)), (10, .int .i64 er), (11, .pointer (some ⟨bq, 0, none⟩)), (12, .int .i64 er), (13, .slice (some ⟨gp, 0, none⟩) (i + 1) cp), (14, .slice (some ⟨gq, 0, none⟩) (i + 1) cq), (15, .int .i64 i)] ∧ Step Nope M w M1 wL ∧ HRow k M1 D PP ∧ HRow k2 M1 D QQ ∧ Buf wL M1 29 1 (.slice (some ⟨gp, 0, none⟩) (i + 1) cp) (i + 1) PP ∧ Buf wL M1 29 1 (.slice (some ⟨gq, 0, none⟩) (i + 1) cq) (i + 1) QQ ∧ Own wL M1 bx [v1] 29 ∧ Own wL M1 bq [v2] 29) (n) [(0, .slice sa n ca), (1, .int .i64 z), (2, .int .i64 y), (9, .pointer (some ⟨bx, 0, none⟩)), (10, .int .i64 0), (11, .pointer (some ⟨bq, 0, none⟩)), (12, .int .i64 0), (13, .slice (some ⟨bp0, 0, none⟩) 1 1), (14, .slice (some ⟨bq0, 0, none⟩) 1 1), (15, .int .i64 (0 : Nat))] (.cons rfl (.cons rfl (.cons rfl (.cons rfl (.cons rfl (.cons rfl (.cons rfl (.cons rfl (.cons rfl (.cons rfl (.nil _))))))))))) ?_ ?_
  ·
   exact ⟨0, 0, [(true, [])], [vx], [vq], vx, vq, bp0, 1, bq0, 1, _, rfl, Nat.zero_le _, rfl, (fun d hd => by simp at hd; subst hd; simp), (by omega), rfl, hT, HRow.single hvx.toB, HRow.single hvq.toB, Own.buf hop0 (n := 1) (size := 1) rfl (by decide), Own.buf hoq0 (n := 1) (size := 1) rfl (by decide), hox, hoq⟩
  have hbw9 : w.heap.size ≤ bx ∧ w.heap.size ≤ bq ∧ bx ≠ bq := by omega
  clear hT hvx hvq hox hoq hop0 hoq0 hr hok
  rintro mm l1 wL ⟨i, er, D, PP, QQ, v1, v2, gp, cp, gq, cq, M1, rfl, hi, hDl, hD, hgs, rfl, hT, hrp, hrq, hbp, hbq, hox, hoq⟩
  have hr := hr0.mono hT.le
  have hok := hok0.mono hT.le
  have hlx9 := hox.1.lt
  have hlq9 := hoq.1.lt
  have hgl9 := hbp.lt gp rfl
  have hgq9 := hbq.lt gq rfl
  have hsw9 := hT.size
  refine cw_seq fun _ hK24 => ?_
  refine cw_rs fun _ κ => ?_
  refine Sm rfl rfl ?_
  refine Sm rfl rfl ?_
  refine as_q rfl rfl (q_len (by kernel_rfl) rfl _) ?_
  refine as_q rfl rfl (q_lt rfl rfl) ?_
  refine as_nil (κ _ _ ?_)
  refine cw_cond rfl (fun hc2 => ?_) (fun hc2 => ?_)
  ·
   have hlt : i < n := by have := of_decide_eq_true hc2; omega
   obtain ⟨t, ht⟩ : ∃ y, ts[i]? = some y := ⟨ts[i]'(by omega), by simp⟩
   obtain ⟨g, o, rfl⟩ := hr.there (by omega)
   have hta := hok t (List.mem_of_getElem? ht)
   have htl := hL30 t (List.mem_of_getElem? ht)
   have htL := (hta.2.2.2.rds wL).els_len hT.sat
   have htlv := hta.2.2.2
   obtain ⟨ia, hia, hia2⟩ := tmod_nat (n := i + 1) hta.2.1.1 (by omega)
   obtain ⟨ib, hib, hib2⟩ := tmod_nat (n := i + 1) hta.2.2.1.1 (by omega)
   obtain ⟨⟨b, l⟩, hda⟩ : ∃ d, D[ia]? = some d := ⟨D[ia]'(by omega), by simp⟩
   obtain ⟨⟨b2, l2⟩, hdb⟩ : ∃ d, D[ib]? = some d := ⟨D[ib]'(by omega), by simp⟩
   obtain ⟨u1, hp1, hv1⟩ := hrp.get hda
   obtain ⟨u2, hq1, hv2⟩ := hrq.get hda
   obtain ⟨y1, hp2, hw1⟩ := hrp.get hdb
   obtain ⟨y2, hq2, hw2⟩ := hrq.get hdb
   have hl1 : l.length ≤ 101 := hD _ (List.mem_of_getElem? hda)
   have hl2 : l2.length ≤ 101 := hD _ (List.mem_of_getElem? hdb)
   have one1 := hv1.one
   have one2 := hv2.one
   obtain ⟨_, hta1, htb1, _⟩ := hta
   refine cw_skip ?_
   refine hK24 _ _ ?_
   refine cw_seq fun _ hK26 => ?_
   refine cw_block ?_
   refine cw_rs fun _ κ => ?_
   refine Sm rfl rfl ?_
   refine Sm rfl rfl ?_
   refine as_q rfl rfl (q_indexAddr (e := 53) (size := 7) (by kernel_rfl) (by kernel_rfl) rfl rfl (by omega) (by omega)) ?_
   refine Sf 1 rfl (by kernel_rfl) rfl ?_
   refine S1 rfl (by kernel_rfl) rfl (act_at hr hT.sat (i := (i : Int).toNat) (by simpa using ht) 1 rfl) ?_
   refine as_q rfl rfl (q_convx (by kernel_rfl) (by kernel_rfl) rfl (by exact wrap64_of (by omega) (by omega))) ?_
   refine Sm rfl rfl ?_
   refine as_q rfl rfl (q_len (by kernel_rfl) rfl _) ?_
   refine as_q rfl rfl (q_congr (q_rem rfl rfl (by omega)) (v' := .int .i64 (ia : Nat)) (by rw [hia])) ?_
   refine Sa rfl rfl ?_
   refine as_nil (κ _ _ ?_)
   refine cw_rs fun _ κ => ?_
   refine Sm rfl rfl ?_
   refine Sm rfl rfl ?_
   refine as_q rfl rfl (q_indexAddr (e := 53) (size := 7) (by kernel_rfl) (by kernel_rfl) rfl rfl (by omega) (by omega)) ?_
   refine Sf 2 rfl (by kernel_rfl) rfl ?_
   refine S1 rfl (by kernel_rfl) rfl (act_at hr hT.sat (i := (i : Int).toNat) (by simpa using ht) 2 rfl) ?_
   refine as_q rfl rfl (q_convx (by kernel_rfl) (by kernel_rfl) rfl (by exact wrap64_of (by omega) (by omega))) ?_
   refine Sm rfl rfl ?_
   refine as_q rfl rfl (q_len (by kernel_rfl) rfl _) ?_
   refine as_q rfl rfl (q_congr (q_rem rfl rfl (by omega)) (v' := .int .i64 (ib : Nat)) (by rw [hib])) ?_
   refine Sa rfl rfl ?_
   refine as_nil (κ _ _ ?_)
   refine cw_rs fun _ κ => ?_
   refine Sm rfl rfl ?_
   refine Sm rfl rfl ?_
   refine as_q rfl rfl (q_indexAddr (e := 29) (size := 1) (by kernel_rfl) (by kernel_rfl) rfl rfl (by omega) (by omega)) ?_
   refine Sc 1 rfl (by kernel_rfl) rfl (hrow_at hbp hp1) ?_
   refine as_h0 (h_store hT.sat hox rfl rfl rfl (by kernel_rfl) rfl (all_one one1) rfl fun w11 hs11 hn11 => ?_)
   replace hr := hr.mono hs11.le
   replace hok := hok.mono hs11.le
   replace hrp := hrp.mono hs11.le
   replace hrq := hrq.mono hs11.le
   replace hbp := hbp.step hs11 (fun g2 hg h => by have h : g2 = bx := h; have hg : gp = g2 := Option.some.inj hg; omega)
   replace hbq := hbq.step hs11 (fun g2 hg h => by have h : g2 = bx := h; have hg : gq = g2 := Option.some.inj hg; omega)
   replace hoq := hoq.step hs11 (fun h => by have h : _ = bx := h; omega)
   replace hv1 := hv1.mono hs11.le
   replace hv2 := hv2.mono hs11.le
   replace hw1 := hw1.mono hs11.le
   replace hw2 := hw2.mono hs11.le
   replace htlv := htlv.mono hs11.le
   clear hox; have hox := hn11; clear hn11
   replace hT := hT.own hs11 (by omega)
   have hz11 := hs11.size
   refine as_nil (κ _ _ ?_)
   refine cw_rs fun _ κ => ?_
   refine Sm rfl rfl ?_
   refine Sm rfl rfl ?_
   refine as_q rfl rfl (q_indexAddr (e := 29) (size := 1) (by kernel_rfl) (by kernel_rfl) rfl rfl (by omega) (by omega)) ?_
   refine Sc 1 rfl (by kernel_rfl) rfl (hrow_at hbq hq1) ?_
   refine as_h0 (h_store hs11.sat hoq rfl rfl rfl (by kernel_rfl) rfl (all_one one2) rfl fun w12 hs12 hn12 => ?_)
   replace hr := hr.mono hs12.le
   replace hok := hok.mono hs12.le
   replace hrp := hrp.mono hs12.le
   replace hrq := hrq.mono hs12.le
   replace hbp := hbp.step hs12 (fun g2 hg h => by have h : g2 = bq := h; have hg : gp = g2 := Option.some.inj hg; omega)
   replace hbq := hbq.step hs12 (fun g2 hg h => by have h : g2 = bq := h; have hg : gq = g2 := Option.some.inj hg; omega)
   replace hox := hox.step hs12 (fun h => by have h : _ = bq := h; omega)
   replace hv1 := hv1.mono hs12.le
   replace hv2 := hv2.mono hs12.le
   replace hw1 := hw1.mono hs12.le
   replace hw2 := hw2.mono hs12.le
   replace htlv := htlv.mono hs12.le
   clear hoq; have hoq := hn12; clear hn12
   replace hT := hT.own hs12 (by omega)
   have hz12 := hs12.size
   refine as_nil (κ _ _ ?_)
   refine cw_seq fun _ hK31 => ?_
   refine cw_dr (by kernel_rfl) fun _ κ => ?_
   have hs13 := Step.drew hs12.sat
   have hz13 := hs13.size
   replace hr := hr.mono hs13.le
   replace hok := hok.mono hs13.le
   replace hrp := hrp.mono hs13.le
   replace hrq := hrq.mono hs13.le
   replace hbp := hbp.then hs13
   replace hbq := hbq.then hs13
   replace hox := hox.then hs13
   replace hoq := hoq.then hs13
   replace hv1 := hv1.mono hs13.le
   replace hv2 := hv2.mono hs13.le
   replace hw1 := hw1.mono hs13.le
   replace hw2 := hw2.mono hs13.le
   replace htlv := htlv.mono hs13.le
   replace hT := hT.then hs13
   refine Dlc 0 1 1 rfl (by kernel_rfl) (by kernel_rfl) rfl (by exact Blk.cells hox.1 rfl) ?_
   refine Dm 2 5 rfl (by kernel_rfl) rfl ?_
   refine Dm 3 13 rfl (by kernel_rfl) rfl ?_
   refine Dq 4 29 rfl (by kernel_rfl) (fun _ => (q_indexAddr (e := 29) (size := 1) (by kernel_rfl) (by kernel_rfl) rfl rfl (by omega) (by omega))) ?_
   refine Dlc 5 61 1 rfl (by kernel_rfl) (by kernel_rfl) rfl (hrow_at hbp hp2) ?_
   refine Dh 1 63 rfl (by kernel_rfl) (keep_sift (bs := [F,T]) (by kernel_rfl)) (h_call (by kernel_rfl) rfl ?_)
   refine (hp_size hs13.sat hv1 (by omega)).mono ?_
   rintro _ w14 ⟨rfl, hs14⟩
   replace hr := hr.mono hs14.le
   replace hok := hok.mono hs14.le
   replace hrp := hrp.mono hs14.le
   replace hrq := hrq.mono hs14.le
   replace hbp := hbp.then hs14
   replace hbq := hbq.then hs14
   replace hox := hox.then hs14
   replace hoq := hoq.then hs14
   replace hv1 := hv1.mono hs14.le
   replace hv2 := hv2.mono hs14.le
   replace hw1 := hw1.mono hs14.le
   replace hw2 := hw2.mono hs14.le
   replace htlv := htlv.mono hs14.le
   replace hT := hT.then hs14
   have hz14 := hs14.size
   refine ⟨(by repeat' first | exact trivial | exact Blk.cell hox.1 rfl | exact Blk.cells hox.1 rfl | exact Blk.cell hoq.1 rfl | exact Blk.cells hoq.1 rfl | exact (hrow_at hbp hp2) | assumption | refine all_keep ?_ | refine And.intro ?_ ?_), ?_⟩
   refine Dh 6 127 rfl (by kernel_rfl) (keep_sift (bs := [T]) (by kernel_rfl)) (h_call (by kernel_rfl) rfl ?_)
   refine (hp_size hs14.sat hw1 (by omega)).mono ?_
   rintro _ w15 ⟨rfl, hs15⟩
   replace hr := hr.mono hs15.le
   replace hok := hok.mono hs15.le
   replace hrp := hrp.mono hs15.le
   replace hrq := hrq.mono hs15.le
   replace hbp := hbp.then hs15
   replace hbq := hbq.then hs15
   replace hox := hox.then hs15
   replace hoq := hoq.then hs15
   replace hv1 := hv1.mono hs15.le
   replace hv2 := hv2.mono hs15.le
   replace hw1 := hw1.mono hs15.le
   replace hw2 := hw2.mono hs15.le
   replace htlv := htlv.mono hs15.le
   replace hT := hT.then hs15
   have hz15 := hs15.size
   refine ⟨trivial, ?_⟩
   refine Dq 7 255 rfl (by kernel_rfl) (fun _ => (q_addx rfl rfl (by omega) (by omega))) ?_
   refine Dq 8 511 rfl (by kernel_rfl) (fun _ => (q_gt rfl rfl)) ?_
   refine Dd (by kernel_rfl) (κ _ _ ?_)
   refine cw_cond rfl (fun hc3 => ?_) (fun hc3 => ?_)
   ·
    skip
    refine cw_rs fun _ κ => ?_
    refine Sa rfl rfl ?_
    refine as_nil (κ _ _ ?_)
    refine cw_ret ?_
    exact ⟨_, (res_tmp rfl res_nil), rfl, hT.forget⟩
   ·
    have hsum : l.length + l2.length ≤ 100 := by have := of_decide_eq_false hc3; omega
    refine cw_skip ?_
    refine hK31 _ _ ?_
    refine cw_cutS (fun l1 w2 => ∃ (er2 : Int) (b3 : Bool) (l3 : List El) (na nb : Value) (M2 : Mem), l3.length ≤ 101 ∧ l1 = [(0, .slice (some ⟨g, o, none⟩) n ca), (1, .int .i64 z), (2, .int .i64 y), (9, .pointer (some ⟨bx, 0, none⟩)), (10, .int .i64 er2), (11, .pointer (some ⟨bq, 0, none⟩)), (12, .int .i64 er2), (13, .slice (some ⟨gp, 0, none⟩) (i + 1) cp), (14, .slice (some ⟨gq, 0, none⟩) (i + 1) cq), (15, .int .i64 i)] ∧ Step Nope M w M2 w2 ∧ HRow k M2 D PP ∧ HRow k2 M2 D QQ ∧ Buf w2 M2 29 1 (.slice (some ⟨gp, 0, none⟩) (i + 1) cp) (i + 1) PP ∧ Buf w2 M2 29 1 (.slice (some ⟨gq, 0, none⟩) (i + 1) cq) (i + 1) QQ ∧ Own w2 M2 bx [na] 29 ∧ Own w2 M2 bq [nb] 29 ∧ HVal M2 (Kb k b3) l3 na ∧ HVal M2 (Kb k2 b3) l3 nb) ?_ ?_
    ·
     refine cw_rs fun _ κ => ?_
     refine Sm rfl rfl ?_
     refine Sm rfl rfl ?_
     refine as_q rfl rfl (q_indexAddr (e := 53) (size := 7) (by kernel_rfl) (by kernel_rfl) rfl rfl (by omega) (by omega)) ?_
     refine Sf 0 rfl (by kernel_rfl) rfl ?_
     refine S1 rfl (by kernel_rfl) rfl (act_at hr hT.sat (i := (i : Int).toNat) (by simpa using ht) 0 rfl) ?_
     refine as_nil (κ _ _ ?_)
     refine cw_block ?_
     refine cw_rs fun _ κ => ?_
     refine as_q rfl rfl (q_eq rfl rfl) ?_
     refine Sa rfl rfl ?_
     refine as_nil (κ _ _ ?_)
     refine cw_cond rfl (fun hc4 => ?_) (fun hc4 => ?_)
     ·
      refine cw_rdS (fun l1 w2 => ∃ (na : Value) (bc1 : Nat) (M2 : Mem), l1 = [(0, .slice (some ⟨g, o, none⟩) n ca), (1, .int .i64 z), (2, .int .i64 y), (9, .pointer (some ⟨bx, 0, none⟩)), (10, .int .i64 er), (11, .pointer (some ⟨bq, 0, none⟩)), (12, .int .i64 er), (13, .slice (some ⟨gp, 0, none⟩) (i + 1) cp), (14, .slice (some ⟨gq, 0, none⟩) (i + 1) cq), (15, .int .i64 i), (16, .int .i64 (ia : Nat)), (17, .int .i64 (ib : Nat)), (18, .pointer (some ⟨bc1, 0, none⟩)), (19, .int .i64 (eB b))] ∧ Step Nope M w M2 w2 ∧ wL.heap.size ≤ bc1 ∧ HRow k M2 D PP ∧ HRow k2 M2 D QQ ∧ Buf w2 M2 29 1 (.slice (some ⟨gp, 0, none⟩) (i + 1) cp) (i + 1) PP ∧ Buf w2 M2 29 1 (.slice (some ⟨gq, 0, none⟩) (i + 1) cq) (i + 1) QQ ∧ Own w2 M2 bx [u1] 29 ∧ Own w2 M2 bq [u2] 29 ∧ HVal M2 (Kb k b) l u1 ∧ HVal M2 (Kb k2 b) l u2 ∧ HVal M2 (Kb k b2) l2 y1 ∧ HVal M2 (Kb k2 b2) l2 y2 ∧ HVal M2 (Kb k b) (iB b l t.x) na ∧ Own w2 M2 bc1 [na] 29) (by kernel_rfl) (by kernel_rfl) (by kernel_rfl) rfl rfl ?_ ?_
      ·
       have hs16 := Step.drew hs15.sat
       have hz16 := hs16.size
       replace hr := hr.mono hs16.le
       replace hok := hok.mono hs16.le
       replace hrp := hrp.mono hs16.le
       replace hrq := hrq.mono hs16.le
       replace hbp := hbp.then hs16
       replace hbq := hbq.then hs16
       replace hox := hox.then hs16
       replace hoq := hoq.then hs16
       replace hv1 := hv1.mono hs16.le
       replace hv2 := hv2.mono hs16.le
       replace hw1 := hw1.mono hs16.le
       replace hw2 := hw2.mono hs16.le
       replace htlv := htlv.mono hs16.le
       replace hT := hT.then hs16
       refine Dlc 0 1 1 rfl (by kernel_rfl) (by kernel_rfl) rfl (by exact Blk.cells hox.1 rfl) ?_
       refine Dm 1 3 rfl (by kernel_rfl) rfl ?_
       refine Dm 2 7 rfl (by kernel_rfl) rfl ?_
       refine Dq 3 15 rfl (by kernel_rfl) (fun _ => (q_indexAddr (e := 53) (size := 7) (by kernel_rfl) (by kernel_rfl) rfl rfl (by omega) (by omega))) ?_
       refine Df 4 31 4 rfl (by kernel_rfl) (by kernel_rfl) rfl ?_
       refine Dlc 5 63 2 rfl (by kernel_rfl) (by kernel_rfl) rfl (act_x hr hT.sat (i := (i : Int).toNat) (by simpa using ht)) ?_
       refine at_two (i := 6) (j := 10) (by kernel_rfl) ?_ ?_
       ·
        refine Dah 6 127 rfl (by kernel_rfl) (keep_sift (bs := [T,T]) (by kernel_rfl)) (h_call (by kernel_rfl) rfl ?_)
        refine (hp_insertB (x := t.x) hs16.sat hk0 hv1 (by omega)).mono ?_
        rintro _ w17 ⟨na, Mn17, hrv, hs17, hva⟩
        subst hrv
        replace hr := hr.mono hs17.le
        replace hok := hok.mono hs17.le
        replace hrp := hrp.mono hs17.le
        replace hrq := hrq.mono hs17.le
        replace hbp := hbp.then hs17
        replace hbq := hbq.then hs17
        replace hox := hox.then hs17
        replace hoq := hoq.then hs17
        replace hv1 := hv1.mono hs17.le
        replace hv2 := hv2.mono hs17.le
        replace hw1 := hw1.mono hs17.le
        replace hw2 := hw2.mono hs17.le
        replace htlv := htlv.mono hs17.le
        replace hT := hT.then hs17
        have hz17 := hs17.size
        have onea := hva.one
        refine ⟨trivial, ?_⟩
        refine Dm 7 255 rfl (by kernel_rfl) rfl ?_
        refine Dq 8 511 rfl (by kernel_rfl) (fun _ => (q_extract rfl rfl)) ?_
        refine Dq 9 1023 rfl (by kernel_rfl) (fun _ => (q_extract rfl rfl)) ?_
        have hqac1 := hT.size
        refine Dh 10 2047 rfl (by kernel_rfl) rfl (h_allocO (z := (.agg #[.nilIface])) hs17.sat (by kernel_rfl) rfl fun bc1 w18 hs18 hoc1 ec1 => ?_)
        replace hr := hr.mono hs18.le
        replace hok := hok.mono hs18.le
        replace hrp := hrp.mono hs18.le
        replace hrq := hrq.mono hs18.le
        replace hbp := hbp.then hs18
        replace hbq := hbq.then hs18
        replace hox := hox.then hs18
        replace hoq := hoq.then hs18
        replace hv1 := hv1.mono hs18.le
        replace hv2 := hv2.mono hs18.le
        replace hw1 := hw1.mono hs18.le
        replace hw2 := hw2.mono hs18.le
        replace htlv := htlv.mono hs18.le
        replace hva := hva.mono hs18.le
        replace hT := hT.then hs18
        have hz18 := hs18.size
        have hlc1 := hoc1.1.lt
        refine ⟨trivial, ?_⟩
        refine Dh0 11 4095 rfl (by kernel_rfl) rfl (h_store hs18.sat hoc1 rfl rfl rfl (by kernel_rfl) rfl (all_one onea) rfl fun w19 hs19 hn19 => ?_)
        replace hr := hr.mono hs19.le
        replace hok := hok.mono hs19.le
        replace hrp := hrp.mono hs19.le
        replace hrq := hrq.mono hs19.le
        replace hbp := hbp.step hs19 (fun g2 hg h => by have h : g2 = bc1 := h; have hg : gp = g2 := Option.some.inj hg; omega)
        replace hbq := hbq.step hs19 (fun g2 hg h => by have h : g2 = bc1 := h; have hg : gq = g2 := Option.some.inj hg; omega)
        replace hox := hox.step hs19 (fun h => by have h : _ = bc1 := h; omega)
        replace hoq := hoq.step hs19 (fun h => by have h : _ = bc1 := h; omega)
        replace hv1 := hv1.mono hs19.le
        replace hv2 := hv2.mono hs19.le
        replace hw1 := hw1.mono hs19.le
        replace hw2 := hw2.mono hs19.le
        replace htlv := htlv.mono hs19.le
        replace hva := hva.mono hs19.le
        clear hoc1; have hoc1 := hn19; clear hn19
        replace hT := hT.own hs19 (by omega)
        have hz19 := hs19.size
        refine ⟨trivial, ?_⟩
        refine Da 12 8191 rfl (by kernel_rfl) rfl ?_
        refine Dd (by kernel_rfl) ?_
        exact ⟨_, (.cons rfl (.cons rfl (.cons rfl (.cons rfl (.cons rfl (.cons rfl (.cons rfl (.cons rfl (.cons rfl (.cons rfl (.cons rfl (.cons rfl (.cons rfl (.cons rfl (.nil _))))))))))))))), na, bc1, Mn17, rfl, hT, by omega, hrp, hrq, hbp, hbq, hox, hoq, hv1, hv2, hw1, hw2, hva, hoc1⟩
       ·
        have hqac1 := hT.size
        refine Dah 10 1087 rfl (by kernel_rfl) (keep_sift (bs := [F,F]) (by kernel_rfl)) (h_allocO (z := (.agg #[.nilIface])) hs16.sat (by kernel_rfl) rfl fun bc1 w20 hs20 hoc1 ec1 => ?_)
        replace hr := hr.mono hs20.le
        replace hok := hok.mono hs20.le
        replace hrp := hrp.mono hs20.le
        replace hrq := hrq.mono hs20.le
        replace hbp := hbp.then hs20
        replace hbq := hbq.then hs20
        replace hox := hox.then hs20
        replace hoq := hoq.then hs20
        replace hv1 := hv1.mono hs20.le
        replace hv2 := hv2.mono hs20.le
        replace hw1 := hw1.mono hs20.le
        replace hw2 := hw2.mono hs20.le
        replace htlv := htlv.mono hs20.le
        replace hT := hT.then hs20
        have hz20 := hs20.size
        have hlc1 := hoc1.1.lt
        refine ⟨(by repeat' first | exact trivial | exact Blk.cell hox.1 rfl | exact Blk.cells hox.1 rfl | exact Blk.cell hoq.1 rfl | exact Blk.cells hoq.1 rfl | exact Blk.cell hoc1.1 rfl | exact Blk.cells hoc1.1 rfl | exact (act_x hr hT.sat (i := (i : Int).toNat) (by simpa using ht)) | assumption | refine all_keep ?_ | refine And.intro ?_ ?_), ?_⟩
        refine Dh 6 1151 rfl (by kernel_rfl) (keep_sift (bs := [T,T]) (by kernel_rfl)) (h_call (by kernel_rfl) rfl ?_)
        refine (hp_insertB (x := t.x) hs20.sat hk0 hv1 (by omega)).mono ?_
        rintro _ w21 ⟨na, Mn21, hrv, hs21, hva⟩
        subst hrv
        replace hr := hr.mono hs21.le
        replace hok := hok.mono hs21.le
        replace hrp := hrp.mono hs21.le
        replace hrq := hrq.mono hs21.le
        replace hbp := hbp.then hs21
        replace hbq := hbq.then hs21
        replace hox := hox.then hs21
        replace hoq := hoq.then hs21
        replace hv1 := hv1.mono hs21.le
        replace hv2 := hv2.mono hs21.le
        replace hw1 := hw1.mono hs21.le
        replace hw2 := hw2.mono hs21.le
        replace htlv := htlv.mono hs21.le
        replace hoc1 := hoc1.then hs21
        replace hT := hT.then hs21
        have hz21 := hs21.size
        have onea := hva.one
        refine ⟨trivial, ?_⟩
        refine Dm 7 1279 rfl (by kernel_rfl) rfl ?_
        refine Dq 8 1535 rfl (by kernel_rfl) (fun _ => (q_extract rfl rfl)) ?_
        refine Dq 9 2047 rfl (by kernel_rfl) (fun _ => (q_extract rfl rfl)) ?_
        refine Dh0 11 4095 rfl (by kernel_rfl) rfl (h_store hs21.sat hoc1 rfl rfl rfl (by kernel_rfl) rfl (all_one onea) rfl fun w22 hs22 hn22 => ?_)
        replace hr := hr.mono hs22.le
        replace hok := hok.mono hs22.le
        replace hrp := hrp.mono hs22.le
        replace hrq := hrq.mono hs22.le
        replace hbp := hbp.step hs22 (fun g2 hg h => by have h : g2 = bc1 := h; have hg : gp = g2 := Option.some.inj hg; omega)
        replace hbq := hbq.step hs22 (fun g2 hg h => by have h : g2 = bc1 := h; have hg : gq = g2 := Option.some.inj hg; omega)
        replace hox := hox.step hs22 (fun h => by have h : _ = bc1 := h; omega)
        replace hoq := hoq.step hs22 (fun h => by have h : _ = bc1 := h; omega)
        replace hv1 := hv1.mono hs22.le
        replace hv2 := hv2.mono hs22.le
        replace hw1 := hw1.mono hs22.le
        replace hw2 := hw2.mono hs22.le
        replace htlv := htlv.mono hs22.le
        replace hva := hva.mono hs22.le
        clear hoc1; have hoc1 := hn22; clear hn22
        replace hT := hT.own hs22 (by omega)
        have hz22 := hs22.size
        refine ⟨trivial, ?_⟩
        refine Da 12 8191 rfl (by kernel_rfl) rfl ?_
        refine Dd (by kernel_rfl) ?_
        exact ⟨_, (.cons rfl (.cons rfl (.cons rfl (.cons rfl (.cons rfl (.cons rfl (.cons rfl (.cons rfl (.cons rfl (.cons rfl (.cons rfl (.cons rfl (.cons rfl (.cons rfl (.nil _))))))))))))))), na, bc1, Mn21, rfl, hT, by omega, hrp, hrq, hbp, hbq, hox, hoq, hv1, hv2, hw1, hw2, hva, hoc1⟩
      clear hT hrp hrq hbp hbq hox hoq hv1 hv2 hw1 hw2 hr hok htlv
      rintro l1 wA ⟨na, bc1, MA, rfl, hT, hbc1, hrp, hrq, hbp, hbq, hox, hoq, hv1, hv2, hw1, hw2, hva, hoc1⟩
      have hr := hr0.mono hT.le
      have hok := hok0.mono hT.le
      have onea := hva.one
      have hlc1 := hoc1.1.lt
      have hszA := hT.size
      refine cw_rdS (fun l1 w2 => ∃ (nb : Value) (bc2 : Nat) (M2 : Mem), l1 = [(0, .slice (some ⟨g, o, none⟩) n ca), (1, .int .i64 z), (2, .int .i64 y), (9, .pointer (some ⟨bx, 0, none⟩)), (10, .int .i64 er), (11, .pointer (some ⟨bq, 0, none⟩)), (12, .int .i64 er), (13, .slice (some ⟨gp, 0, none⟩) (i + 1) cp), (14, .slice (some ⟨gq, 0, none⟩) (i + 1) cq), (15, .int .i64 i), (16, .int .i64 (ia : Nat)), (17, .int .i64 (ib : Nat)), (18, .pointer (some ⟨bc1, 0, none⟩)), (19, .int .i64 (eB b)), (20, .pointer (some ⟨bc2, 0, none⟩)), (21, .int .i64 (eB b))] ∧ Step Nope M w M2 w2 ∧ bc1 < bc2 ∧ HRow k M2 D PP ∧ HRow k2 M2 D QQ ∧ Buf w2 M2 29 1 (.slice (some ⟨gp, 0, none⟩) (i + 1) cp) (i + 1) PP ∧ Buf w2 M2 29 1 (.slice (some ⟨gq, 0, none⟩) (i + 1) cq) (i + 1) QQ ∧ Own w2 M2 bx [u1] 29 ∧ Own w2 M2 bq [u2] 29 ∧ HVal M2 (Kb k b) (iB b l t.x) na ∧ Own w2 M2 bc1 [na] 29 ∧ HVal M2 (Kb k2 b) (iB b l t.x) nb ∧ Own w2 M2 bc2 [nb] 29) (by kernel_rfl) (by kernel_rfl) (by kernel_rfl) rfl rfl ?_ ?_
      ·
       have hs23 := Step.drew hT.sat
       have hz23 := hs23.size
       replace hr := hr.mono hs23.le
       replace hok := hok.mono hs23.le
       replace hrp := hrp.mono hs23.le
       replace hrq := hrq.mono hs23.le
       replace hbp := hbp.then hs23
       replace hbq := hbq.then hs23
       replace hox := hox.then hs23
       replace hoq := hoq.then hs23
       replace hv1 := hv1.mono hs23.le
       replace hv2 := hv2.mono hs23.le
       replace hw1 := hw1.mono hs23.le
       replace hw2 := hw2.mono hs23.le
       replace hva := hva.mono hs23.le
       replace hoc1 := hoc1.then hs23
       replace hT := hT.then hs23
       refine Dlc 0 1 1 rfl (by kernel_rfl) (by kernel_rfl) rfl (by exact Blk.cells hoq.1 rfl) ?_
       refine Dm 1 3 rfl (by kernel_rfl) rfl ?_
       refine Dm 2 7 rfl (by kernel_rfl) rfl ?_
       refine Dq 3 15 rfl (by kernel_rfl) (fun _ => (q_indexAddr (e := 53) (size := 7) (by kernel_rfl) (by kernel_rfl) rfl rfl (by omega) (by omega))) ?_
       refine Df 4 31 4 rfl (by kernel_rfl) (by kernel_rfl) rfl ?_
       refine Dlc 5 63 2 rfl (by kernel_rfl) (by kernel_rfl) rfl (act_x hr hT.sat (i := (i : Int).toNat) (by simpa using ht)) ?_
       refine at_two (i := 6) (j := 10) (by kernel_rfl) ?_ ?_
       ·
        refine Dah 6 127 rfl (by kernel_rfl) (keep_sift (bs := [T,T]) (by kernel_rfl)) (h_call (by kernel_rfl) rfl ?_)
        refine (hp_insertB (x := t.x) hs23.sat hk02 hv2 (by omega)).mono ?_
        rintro _ w24 ⟨nb, Mn24, hrv, hs24, hvb⟩
        subst hrv
        replace hr := hr.mono hs24.le
        replace hok := hok.mono hs24.le
        replace hrp := hrp.mono hs24.le
        replace hrq := hrq.mono hs24.le
        replace hbp := hbp.then hs24
        replace hbq := hbq.then hs24
        replace hox := hox.then hs24
        replace hoq := hoq.then hs24
        replace hv1 := hv1.mono hs24.le
        replace hv2 := hv2.mono hs24.le
        replace hw1 := hw1.mono hs24.le
        replace hw2 := hw2.mono hs24.le
        replace hva := hva.mono hs24.le
        replace hoc1 := hoc1.then hs24
        replace hT := hT.then hs24
        have hz24 := hs24.size
        have oneb := hvb.one
        refine ⟨trivial, ?_⟩
        refine Dm 7 255 rfl (by kernel_rfl) rfl ?_
        refine Dq 8 511 rfl (by kernel_rfl) (fun _ => (q_extract rfl rfl)) ?_
        refine Dq 9 1023 rfl (by kernel_rfl) (fun _ => (q_extract rfl rfl)) ?_
        have hqac2 := hT.size
        refine Dh 10 2047 rfl (by kernel_rfl) rfl (h_allocO (z := (.agg #[.nilIface])) hs24.sat (by kernel_rfl) rfl fun bc2 w25 hs25 hoc2 ec2 => ?_)
        replace hr := hr.mono hs25.le
        replace hok := hok.mono hs25.le
        replace hrp := hrp.mono hs25.le
        replace hrq := hrq.mono hs25.le
        replace hbp := hbp.then hs25
        replace hbq := hbq.then hs25
        replace hox := hox.then hs25
        replace hoq := hoq.then hs25
        replace hv1 := hv1.mono hs25.le
        replace hv2 := hv2.mono hs25.le
        replace hw1 := hw1.mono hs25.le
        replace hw2 := hw2.mono hs25.le
        replace hva := hva.mono hs25.le
        replace hoc1 := hoc1.then hs25
        replace hvb := hvb.mono hs25.le
        replace hT := hT.then hs25
        have hz25 := hs25.size
        have hlc2 := hoc2.1.lt
        refine ⟨trivial, ?_⟩
        refine Dh0 11 4095 rfl (by kernel_rfl) rfl (h_store hs25.sat hoc2 rfl rfl rfl (by kernel_rfl) rfl (all_one oneb) rfl fun w26 hs26 hn26 => ?_)
        replace hr := hr.mono hs26.le
        replace hok := hok.mono hs26.le
        replace hrp := hrp.mono hs26.le
        replace hrq := hrq.mono hs26.le
        replace hbp := hbp.step hs26 (fun g2 hg h => by have h : g2 = bc2 := h; have hg : gp = g2 := Option.some.inj hg; omega)
        replace hbq := hbq.step hs26 (fun g2 hg h => by have h : g2 = bc2 := h; have hg : gq = g2 := Option.some.inj hg; omega)
        replace hox := hox.step hs26 (fun h => by have h : _ = bc2 := h; omega)
        replace hoq := hoq.step hs26 (fun h => by have h : _ = bc2 := h; omega)
        replace hv1 := hv1.mono hs26.le
        replace hv2 := hv2.mono hs26.le
        replace hw1 := hw1.mono hs26.le
        replace hw2 := hw2.mono hs26.le
        replace hva := hva.mono hs26.le
        replace hoc1 := hoc1.step hs26 (fun h => by have h : _ = bc2 := h; omega)
        replace hvb := hvb.mono hs26.le
        clear hoc2; have hoc2 := hn26; clear hn26
        replace hT := hT.own hs26 (by omega)
        have hz26 := hs26.size
        refine ⟨trivial, ?_⟩
        refine Da 12 8191 rfl (by kernel_rfl) rfl ?_
        refine Dd (by kernel_rfl) ?_
        exact ⟨_, (.cons rfl (.cons rfl (.cons rfl (.cons rfl (.cons rfl (.cons rfl (.cons rfl (.cons rfl (.cons rfl (.cons rfl (.cons rfl (.cons rfl (.cons rfl (.cons rfl (.cons rfl (.cons rfl (.nil _))))))))))))))))), nb, bc2, Mn24, rfl, hT, by omega, hrp, hrq, hbp, hbq, hox, hoq, hva, hoc1, hvb, hoc2⟩
       ·
        have hqac2 := hT.size
        refine Dah 10 1087 rfl (by kernel_rfl) (keep_sift (bs := [F,F]) (by kernel_rfl)) (h_allocO (z := (.agg #[.nilIface])) hs23.sat (by kernel_rfl) rfl fun bc2 w27 hs27 hoc2 ec2 => ?_)
        replace hr := hr.mono hs27.le
        replace hok := hok.mono hs27.le
        replace hrp := hrp.mono hs27.le
        replace hrq := hrq.mono hs27.le
        replace hbp := hbp.then hs27
        replace hbq := hbq.then hs27
        replace hox := hox.then hs27
        replace hoq := hoq.then hs27
        replace hv1 := hv1.mono hs27.le
        replace hv2 := hv2.mono hs27.le
        replace hw1 := hw1.mono hs27.le
        replace hw2 := hw2.mono hs27.le
        replace hva := hva.mono hs27.le
        replace hoc1 := hoc1.then hs27
        replace hT := hT.then hs27
        have hz27 := hs27.size
        have hlc2 := hoc2.1.lt
        refine ⟨(by repeat' first | exact trivial | exact Blk.cell hox.1 rfl | exact Blk.cells hox.1 rfl | exact Blk.cell hoq.1 rfl | exact Blk.cells hoq.1 rfl | exact Blk.cell hoc1.1 rfl | exact Blk.cells hoc1.1 rfl | exact Blk.cell hoc2.1 rfl | exact Blk.cells hoc2.1 rfl | exact (act_x hr hT.sat (i := (i : Int).toNat) (by simpa using ht)) | assumption | refine all_keep ?_ | refine And.intro ?_ ?_), ?_⟩
        refine Dh 6 1151 rfl (by kernel_rfl) (keep_sift (bs := [T,T]) (by kernel_rfl)) (h_call (by kernel_rfl) rfl ?_)
        refine (hp_insertB (x := t.x) hs27.sat hk02 hv2 (by omega)).mono ?_
        rintro _ w28 ⟨nb, Mn28, hrv, hs28, hvb⟩
        subst hrv
        replace hr := hr.mono hs28.le
        replace hok := hok.mono hs28.le
        replace hrp := hrp.mono hs28.le
        replace hrq := hrq.mono hs28.le
        replace hbp := hbp.then hs28
        replace hbq := hbq.then hs28
        replace hox := hox.then hs28
        replace hoq := hoq.then hs28
        replace hv1 := hv1.mono hs28.le
        replace hv2 := hv2.mono hs28.le
        replace hw1 := hw1.mono hs28.le
        replace hw2 := hw2.mono hs28.le
        replace hva := hva.mono hs28.le
        replace hoc1 := hoc1.then hs28
        replace hoc2 := hoc2.then hs28
        replace hT := hT.then hs28
        have hz28 := hs28.size
        have oneb := hvb.one
        refine ⟨trivial, ?_⟩
        refine Dm 7 1279 rfl (by kernel_rfl) rfl ?_
        refine Dq 8 1535 rfl (by kernel_rfl) (fun _ => (q_extract rfl rfl)) ?_
        refine Dq 9 2047 rfl (by kernel_rfl) (fun _ => (q_extract rfl rfl)) ?_
        refine Dh0 11 4095 rfl (by kernel_rfl) rfl (h_store hs28.sat hoc2 rfl rfl rfl (by kernel_rfl) rfl (all_one oneb) rfl fun w29 hs29 hn29 => ?_)
        replace hr := hr.mono hs29.le
        replace hok := hok.mono hs29.le
        replace hrp := hrp.mono hs29.le
        replace hrq := hrq.mono hs29.le
        replace hbp := hbp.step hs29 (fun g2 hg h => by have h : g2 = bc2 := h; have hg : gp = g2 := Option.some.inj hg; omega)
        replace hbq := hbq.step hs29 (fun g2 hg h => by have h : g2 = bc2 := h; have hg : gq = g2 := Option.some.inj hg; omega)
        replace hox := hox.step hs29 (fun h => by have h : _ = bc2 := h; omega)
        replace hoq := hoq.step hs29 (fun h => by have h : _ = bc2 := h; omega)
        replace hv1 := hv1.mono hs29.le
        replace hv2 := hv2.mono hs29.le
        replace hw1 := hw1.mono hs29.le
        replace hw2 := hw2.mono hs29.le
        replace hva := hva.mono hs29.le
        replace hoc1 := hoc1.step hs29 (fun h => by have h : _ = bc2 := h; omega)
        replace hvb := hvb.mono hs29.le
        clear hoc2; have hoc2 := hn29; clear hn29
        replace hT := hT.own hs29 (by omega)
        have hz29 := hs29.size
        refine ⟨trivial, ?_⟩
        refine Da 12 8191 rfl (by kernel_rfl) rfl ?_
        refine Dd (by kernel_rfl) ?_
        exact ⟨_, (.cons rfl (.cons rfl (.cons rfl (.cons rfl (.cons rfl (.cons rfl (.cons rfl (.cons rfl (.cons rfl (.cons rfl (.cons rfl (.cons rfl (.cons rfl (.cons rfl (.cons rfl (.cons rfl (.nil _))))))))))))))))), nb, bc2, Mn28, rfl, hT, by omega, hrp, hrq, hbp, hbq, hox, hoq, hva, hoc1, hvb, hoc2⟩
      clear hT hrp hrq hbp hbq hox hoq hv1 hv2 hw1 hw2 hr hok hva hoc1
      rintro l1 wB ⟨nb, bc2, MB, rfl, hT, hbc2, hrp, hrq, hbp, hbq, hox, hoq, hva, hoc1, hvb, hoc2⟩
      have oneb := hvb.one
      have hlc2 := hoc2.1.lt
      have hszB := hT.size
      refine cw_rs fun _ κ => ?_
      refine Sc 1 rfl (by kernel_rfl) rfl (by exact Blk.cells hoc1.1 rfl) ?_
      refine as_h0 (h_store hT.sat hox rfl rfl rfl (by kernel_rfl) rfl (all_one onea) rfl fun w30 hs30 hn30 => ?_)
      replace hrp := hrp.mono hs30.le
      replace hrq := hrq.mono hs30.le
      replace hbp := hbp.step hs30 (fun g2 hg h => by have h : g2 = bx := h; have hg : gp = g2 := Option.some.inj hg; omega)
      replace hbq := hbq.step hs30 (fun g2 hg h => by have h : g2 = bx := h; have hg : gq = g2 := Option.some.inj hg; omega)
      replace hoq := hoq.step hs30 (fun h => by have h : _ = bx := h; omega)
      replace hva := hva.mono hs30.le
      replace hoc1 := hoc1.step hs30 (fun h => by have h : _ = bx := h; omega)
      replace hvb := hvb.mono hs30.le
      replace hoc2 := hoc2.step hs30 (fun h => by have h : _ = bx := h; omega)
      clear hox; have hox := hn30; clear hn30
      replace hT := hT.own hs30 (by omega)
      have hz30 := hs30.size
      refine as_nil (κ _ _ ?_)
      refine cw_rs fun _ κ => ?_
      refine Sc 1 rfl (by kernel_rfl) rfl (by exact Blk.cells hoc2.1 rfl) ?_
      refine as_h0 (h_store hs30.sat hoq rfl rfl rfl (by kernel_rfl) rfl (all_one oneb) rfl fun w31 hs31 hn31 => ?_)
      replace hrp := hrp.mono hs31.le
      replace hrq := hrq.mono hs31.le
      replace hbp := hbp.step hs31 (fun g2 hg h => by have h : g2 = bq := h; have hg : gp = g2 := Option.some.inj hg; omega)
      replace hbq := hbq.step hs31 (fun g2 hg h => by have h : g2 = bq := h; have hg : gq = g2 := Option.some.inj hg; omega)
      replace hox := hox.step hs31 (fun h => by have h : _ = bq := h; omega)
      replace hva := hva.mono hs31.le
      replace hoc1 := hoc1.step hs31 (fun h => by have h : _ = bq := h; omega)
      replace hvb := hvb.mono hs31.le
      replace hoc2 := hoc2.step hs31 (fun h => by have h : _ = bq := h; omega)
      clear hoq; have hoq := hn31; clear hn31
      replace hT := hT.own hs31 (by omega)
      have hz31 := hs31.size
      refine as_nil (κ _ _ ?_)
      refine cw_rs fun _ κ => ?_
      refine Sm rfl rfl ?_
      refine Sa rfl rfl ?_
      refine as_nil (κ _ _ ?_)
      refine cw_region fun _ κ => ?_
      refine Sm rfl rfl ?_
      refine Sa rfl rfl ?_
      refine as_nil (κ _ _ ?_)
      exact ⟨_, (.cons rfl (.cons rfl (.cons rfl (.cons rfl (.cons rfl (.cons rfl (.cons rfl (.cons rfl (.cons rfl (.cons rfl (.nil _))))))))))), (eB b), b, (iB b l t.x), na, nb, MB, by have := iB_le b l t.x; omega, rfl, hT, hrp, hrq, hbp, hbq, hox, hoq, hva, hvb⟩
     ·
      refine cw_rs fun _ κ => ?_
      refine as_q rfl rfl (q_eq rfl rfl) ?_
      refine Sa rfl rfl ?_
      refine as_nil (κ _ _ ?_)
      refine cw_cond rfl (fun hc5 => ?_) (fun hc5 => ?_)
      ·
       refine cw_rdS (fun l1 w2 => ∃ (na : Value) (bc1 : Nat) (M2 : Mem), l1 = [(0, .slice (some ⟨g, o, none⟩) n ca), (1, .int .i64 z), (2, .int .i64 y), (9, .pointer (some ⟨bx, 0, none⟩)), (10, .int .i64 er), (11, .pointer (some ⟨bq, 0, none⟩)), (12, .int .i64 er), (13, .slice (some ⟨gp, 0, none⟩) (i + 1) cp), (14, .slice (some ⟨gq, 0, none⟩) (i + 1) cq), (15, .int .i64 i), (16, .int .i64 (ia : Nat)), (17, .int .i64 (ib : Nat)), (22, .pointer (some ⟨bc1, 0, none⟩)), (23, .int .i64 (eB (b && b2)))] ∧ Step Nope M w M2 w2 ∧ wL.heap.size ≤ bc1 ∧ HRow k M2 D PP ∧ HRow k2 M2 D QQ ∧ Buf w2 M2 29 1 (.slice (some ⟨gp, 0, none⟩) (i + 1) cp) (i + 1) PP ∧ Buf w2 M2 29 1 (.slice (some ⟨gq, 0, none⟩) (i + 1) cq) (i + 1) QQ ∧ Own w2 M2 bx [u1] 29 ∧ Own w2 M2 bq [u2] 29 ∧ HVal M2 (Kb k b) l u1 ∧ HVal M2 (Kb k2 b) l u2 ∧ HVal M2 (Kb k b2) l2 y1 ∧ HVal M2 (Kb k2 b2) l2 y2 ∧ HVal M2 (Kb k (b && b2)) (mB b b2 l l2) na ∧ Own w2 M2 bc1 [na] 29) (by kernel_rfl) (by kernel_rfl) (by kernel_rfl) rfl rfl ?_ ?_
       ·
        have hs32 := Step.drew hs15.sat
        have hz32 := hs32.size
        replace hr := hr.mono hs32.le
        replace hok := hok.mono hs32.le
        replace hrp := hrp.mono hs32.le
        replace hrq := hrq.mono hs32.le
        replace hbp := hbp.then hs32
        replace hbq := hbq.then hs32
        replace hox := hox.then hs32
        replace hoq := hoq.then hs32
        replace hv1 := hv1.mono hs32.le
        replace hv2 := hv2.mono hs32.le
        replace hw1 := hw1.mono hs32.le
        replace hw2 := hw2.mono hs32.le
        replace htlv := htlv.mono hs32.le
        replace hT := hT.then hs32
        refine Dlc 0 1 1 rfl (by kernel_rfl) (by kernel_rfl) rfl (by exact Blk.cells hox.1 rfl) ?_
        refine Dm 1 3 rfl (by kernel_rfl) rfl ?_
        refine Dm 2 7 rfl (by kernel_rfl) rfl ?_
        refine Dq 3 15 rfl (by kernel_rfl) (fun _ => (q_indexAddr (e := 29) (size := 1) (by kernel_rfl) (by kernel_rfl) rfl rfl (by omega) (by omega))) ?_
        refine Dlc 4 31 1 rfl (by kernel_rfl) (by kernel_rfl) rfl (hrow_at hbp hp2) ?_
        refine at_two (i := 5) (j := 9) (by kernel_rfl) ?_ ?_
        ·
         refine Dah 5 63 rfl (by kernel_rfl) (keep_sift (bs := [T,T]) (by kernel_rfl)) (h_call (by kernel_rfl) rfl ?_)
         refine (hp_meldB hs32.sat hk0 hv1 hw1 (by omega)).mono ?_
         rintro _ w33 ⟨na, Mn33, hrv, hs33, hva⟩
         subst hrv
         replace hr := hr.mono hs33.le
         replace hok := hok.mono hs33.le
         replace hrp := hrp.mono hs33.le
         replace hrq := hrq.mono hs33.le
         replace hbp := hbp.then hs33
         replace hbq := hbq.then hs33
         replace hox := hox.then hs33
         replace hoq := hoq.then hs33
         replace hv1 := hv1.mono hs33.le
         replace hv2 := hv2.mono hs33.le
         replace hw1 := hw1.mono hs33.le
         replace hw2 := hw2.mono hs33.le
         replace htlv := htlv.mono hs33.le
         replace hT := hT.then hs33
         have hz33 := hs33.size
         have onea := hva.one
         refine ⟨trivial, ?_⟩
         refine Dm 6 127 rfl (by kernel_rfl) rfl ?_
         refine Dq 7 255 rfl (by kernel_rfl) (fun _ => (q_extract rfl rfl)) ?_
         refine Dq 8 511 rfl (by kernel_rfl) (fun _ => (q_extract rfl rfl)) ?_
         have hqac1 := hT.size
         refine Dh 9 1023 rfl (by kernel_rfl) rfl (h_allocO (z := (.agg #[.nilIface])) hs33.sat (by kernel_rfl) rfl fun bc1 w34 hs34 hoc1 ec1 => ?_)
         replace hr := hr.mono hs34.le
         replace hok := hok.mono hs34.le
         replace hrp := hrp.mono hs34.le
         replace hrq := hrq.mono hs34.le
         replace hbp := hbp.then hs34
         replace hbq := hbq.then hs34
         replace hox := hox.then hs34
         replace hoq := hoq.then hs34
         replace hv1 := hv1.mono hs34.le
         replace hv2 := hv2.mono hs34.le
         replace hw1 := hw1.mono hs34.le
         replace hw2 := hw2.mono hs34.le
         replace htlv := htlv.mono hs34.le
         replace hva := hva.mono hs34.le
         replace hT := hT.then hs34
         have hz34 := hs34.size
         have hlc1 := hoc1.1.lt
         refine ⟨trivial, ?_⟩
         refine Dh0 10 2047 rfl (by kernel_rfl) rfl (h_store hs34.sat hoc1 rfl rfl rfl (by kernel_rfl) rfl (all_one onea) rfl fun w35 hs35 hn35 => ?_)
         replace hr := hr.mono hs35.le
         replace hok := hok.mono hs35.le
         replace hrp := hrp.mono hs35.le
         replace hrq := hrq.mono hs35.le
         replace hbp := hbp.step hs35 (fun g2 hg h => by have h : g2 = bc1 := h; have hg : gp = g2 := Option.some.inj hg; omega)
         replace hbq := hbq.step hs35 (fun g2 hg h => by have h : g2 = bc1 := h; have hg : gq = g2 := Option.some.inj hg; omega)
         replace hox := hox.step hs35 (fun h => by have h : _ = bc1 := h; omega)
         replace hoq := hoq.step hs35 (fun h => by have h : _ = bc1 := h; omega)
         replace hv1 := hv1.mono hs35.le
         replace hv2 := hv2.mono hs35.le
         replace hw1 := hw1.mono hs35.le
         replace hw2 := hw2.mono hs35.le
         replace htlv := htlv.mono hs35.le
         replace hva := hva.mono hs35.le
         clear hoc1; have hoc1 := hn35; clear hn35
         replace hT := hT.own hs35 (by omega)
         have hz35 := hs35.size
         refine ⟨trivial, ?_⟩
         refine Da 11 4095 rfl (by kernel_rfl) rfl ?_
         refine Dd (by kernel_rfl) ?_
         exact ⟨_, (.cons rfl (.cons rfl (.cons rfl (.cons rfl (.cons rfl (.cons rfl (.cons rfl (.cons rfl (.cons rfl (.cons rfl (.cons rfl (.cons rfl (.cons rfl (.cons rfl (.nil _))))))))))))))), na, bc1, Mn33, rfl, hT, by omega, hrp, hrq, hbp, hbq, hox, hoq, hv1, hv2, hw1, hw2, hva, hoc1⟩
        ·
         have hqac1 := hT.size
         refine Dah 9 543 rfl (by kernel_rfl) (keep_sift (bs := [F,F]) (by kernel_rfl)) (h_allocO (z := (.agg #[.nilIface])) hs32.sat (by kernel_rfl) rfl fun bc1 w36 hs36 hoc1 ec1 => ?_)
         replace hr := hr.mono hs36.le
         replace hok := hok.mono hs36.le
         replace hrp := hrp.mono hs36.le
         replace hrq := hrq.mono hs36.le
         replace hbp := hbp.then hs36
         replace hbq := hbq.then hs36
         replace hox := hox.then hs36
         replace hoq := hoq.then hs36
         replace hv1 := hv1.mono hs36.le
         replace hv2 := hv2.mono hs36.le
         replace hw1 := hw1.mono hs36.le
         replace hw2 := hw2.mono hs36.le
         replace htlv := htlv.mono hs36.le
         replace hT := hT.then hs36
         have hz36 := hs36.size
         have hlc1 := hoc1.1.lt
         refine ⟨(by repeat' first | exact trivial | exact Blk.cell hox.1 rfl | exact Blk.cells hox.1 rfl | exact Blk.cell hoq.1 rfl | exact Blk.cells hoq.1 rfl | exact Blk.cell hoc1.1 rfl | exact Blk.cells hoc1.1 rfl | exact (hrow_at hbp hp2) | assumption | refine all_keep ?_ | refine And.intro ?_ ?_), ?_⟩
         refine Dh 5 575 rfl (by kernel_rfl) (keep_sift (bs := [T,T]) (by kernel_rfl)) (h_call (by kernel_rfl) rfl ?_)
         refine (hp_meldB hs36.sat hk0 hv1 hw1 (by omega)).mono ?_
         rintro _ w37 ⟨na, Mn37, hrv, hs37, hva⟩
         subst hrv
         replace hr := hr.mono hs37.le
         replace hok := hok.mono hs37.le
         replace hrp := hrp.mono hs37.le
         replace hrq := hrq.mono hs37.le
         replace hbp := hbp.then hs37
         replace hbq := hbq.then hs37
         replace hox := hox.then hs37
         replace hoq := hoq.then hs37
         replace hv1 := hv1.mono hs37.le
         replace hv2 := hv2.mono hs37.le
         replace hw1 := hw1.mono hs37.le
         replace hw2 := hw2.mono hs37.le
         replace htlv := htlv.mono hs37.le
         replace hoc1 := hoc1.then hs37
         replace hT := hT.then hs37
         have hz37 := hs37.size
         have onea := hva.one
         refine ⟨trivial, ?_⟩
         refine Dm 6 639 rfl (by kernel_rfl) rfl ?_
         refine Dq 7 767 rfl (by kernel_rfl) (fun _ => (q_extract rfl rfl)) ?_
         refine Dq 8 1023 rfl (by kernel_rfl) (fun _ => (q_extract rfl rfl)) ?_
         refine Dh0 10 2047 rfl (by kernel_rfl) rfl (h_store hs37.sat hoc1 rfl rfl rfl (by kernel_rfl) rfl (all_one onea) rfl fun w38 hs38 hn38 => ?_)
         replace hr := hr.mono hs38.le
         replace hok := hok.mono hs38.le
         replace hrp := hrp.mono hs38.le
         replace hrq := hrq.mono hs38.le
         replace hbp := hbp.step hs38 (fun g2 hg h => by have h : g2 = bc1 := h; have hg : gp = g2 := Option.some.inj hg; omega)
         replace hbq := hbq.step hs38 (fun g2 hg h => by have h : g2 = bc1 := h; have hg : gq = g2 := Option.some.inj hg; omega)
         replace hox := hox.step hs38 (fun h => by have h : _ = bc1 := h; omega)
         replace hoq := hoq.step hs38 (fun h => by have h : _ = bc1 := h; omega)
         replace hv1 := hv1.mono hs38.le
         replace hv2 := hv2.mono hs38.le
         replace hw1 := hw1.mono hs38.le
         replace hw2 := hw2.mono hs38.le
         replace htlv := htlv.mono hs38.le
         replace hva := hva.mono hs38.le
         clear hoc1; have hoc1 := hn38; clear hn38
         replace hT := hT.own hs38 (by omega)
         have hz38 := hs38.size
         refine ⟨trivial, ?_⟩
         refine Da 11 4095 rfl (by kernel_rfl) rfl ?_
         refine Dd (by kernel_rfl) ?_
         exact ⟨_, (.cons rfl (.cons rfl (.cons rfl (.cons rfl (.cons rfl (.cons rfl (.cons rfl (.cons rfl (.cons rfl (.cons rfl (.cons rfl (.cons rfl (.cons rfl (.cons rfl (.nil _))))))))))))))), na, bc1, Mn37, rfl, hT, by omega, hrp, hrq, hbp, hbq, hox, hoq, hv1, hv2, hw1, hw2, hva, hoc1⟩
       clear hT hrp hrq hbp hbq hox hoq hv1 hv2 hw1 hw2 hr hok htlv
       rintro l1 wA ⟨na, bc1, MA, rfl, hT, hbc1, hrp, hrq, hbp, hbq, hox, hoq, hv1, hv2, hw1, hw2, hva, hoc1⟩
       have hr := hr0.mono hT.le
       have hok := hok0.mono hT.le
       have onea := hva.one
       have hlc1 := hoc1.1.lt
       have hszA := hT.size
       refine cw_rdS (fun l1 w2 => ∃ (nb : Value) (bc2 : Nat) (M2 : Mem), l1 = [(0, .slice (some ⟨g, o, none⟩) n ca), (1, .int .i64 z), (2, .int .i64 y), (9, .pointer (some ⟨bx, 0, none⟩)), (10, .int .i64 er), (11, .pointer (some ⟨bq, 0, none⟩)), (12, .int .i64 er), (13, .slice (some ⟨gp, 0, none⟩) (i + 1) cp), (14, .slice (some ⟨gq, 0, none⟩) (i + 1) cq), (15, .int .i64 i), (16, .int .i64 (ia : Nat)), (17, .int .i64 (ib : Nat)), (22, .pointer (some ⟨bc1, 0, none⟩)), (23, .int .i64 (eB (b && b2))), (24, .pointer (some ⟨bc2, 0, none⟩)), (25, .int .i64 (eB (b && b2)))] ∧ Step Nope M w M2 w2 ∧ bc1 < bc2 ∧ HRow k M2 D PP ∧ HRow k2 M2 D QQ ∧ Buf w2 M2 29 1 (.slice (some ⟨gp, 0, none⟩) (i + 1) cp) (i + 1) PP ∧ Buf w2 M2 29 1 (.slice (some ⟨gq, 0, none⟩) (i + 1) cq) (i + 1) QQ ∧ Own w2 M2 bx [u1] 29 ∧ Own w2 M2 bq [u2] 29 ∧ HVal M2 (Kb k (b && b2)) (mB b b2 l l2) na ∧ Own w2 M2 bc1 [na] 29 ∧ HVal M2 (Kb k2 (b && b2)) (mB b b2 l l2) nb ∧ Own w2 M2 bc2 [nb] 29) (by kernel_rfl) (by kernel_rfl) (by kernel_rfl) rfl rfl ?_ ?_
       ·
        have hs39 := Step.drew hT.sat
        have hz39 := hs39.size
        replace hr := hr.mono hs39.le
        replace hok := hok.mono hs39.le
        replace hrp := hrp.mono hs39.le
        replace hrq := hrq.mono hs39.le
        replace hbp := hbp.then hs39
        replace hbq := hbq.then hs39
        replace hox := hox.then hs39
        replace hoq := hoq.then hs39
        replace hv1 := hv1.mono hs39.le
        replace hv2 := hv2.mono hs39.le
        replace hw1 := hw1.mono hs39.le
        replace hw2 := hw2.mono hs39.le
        replace hva := hva.mono hs39.le
        replace hoc1 := hoc1.then hs39
        replace hT := hT.then hs39
        refine Dlc 0 1 1 rfl (by kernel_rfl) (by kernel_rfl) rfl (by exact Blk.cells hoq.1 rfl) ?_
        refine Dm 1 3 rfl (by kernel_rfl) rfl ?_
        refine Dm 2 7 rfl (by kernel_rfl) rfl ?_
        refine Dq 3 15 rfl (by kernel_rfl) (fun _ => (q_indexAddr (e := 29) (size := 1) (by kernel_rfl) (by kernel_rfl) rfl rfl (by omega) (by omega))) ?_
        refine Dlc 4 31 1 rfl (by kernel_rfl) (by kernel_rfl) rfl (hrow_at hbq hq2) ?_
        refine at_two (i := 5) (j := 9) (by kernel_rfl) ?_ ?_
        ·
         refine Dah 5 63 rfl (by kernel_rfl) (keep_sift (bs := [T,T]) (by kernel_rfl)) (h_call (by kernel_rfl) rfl ?_)
         refine (hp_meldB hs39.sat hk02 hv2 hw2 (by omega)).mono ?_
         rintro _ w40 ⟨nb, Mn40, hrv, hs40, hvb⟩
         subst hrv
         replace hr := hr.mono hs40.le
         replace hok := hok.mono hs40.le
         replace hrp := hrp.mono hs40.le
         replace hrq := hrq.mono hs40.le
         replace hbp := hbp.then hs40
         replace hbq := hbq.then hs40
         replace hox := hox.then hs40
         replace hoq := hoq.then hs40
         replace hv1 := hv1.mono hs40.le
         replace hv2 := hv2.mono hs40.le
         replace hw1 := hw1.mono hs40.le
         replace hw2 := hw2.mono hs40.le
         replace hva := hva.mono hs40.le
         replace hoc1 := hoc1.then hs40
         replace hT := hT.then hs40
         have hz40 := hs40.size
         have oneb := hvb.one
         refine ⟨trivial, ?_⟩
         refine Dm 6 127 rfl (by kernel_rfl) rfl ?_
         refine Dq 7 255 rfl (by kernel_rfl) (fun _ => (q_extract rfl rfl)) ?_
         refine Dq 8 511 rfl (by kernel_rfl) (fun _ => (q_extract rfl rfl)) ?_
         have hqac2 := hT.size
         refine Dh 9 1023 rfl (by kernel_rfl) rfl (h_allocO (z := (.agg #[.nilIface])) hs40.sat (by kernel_rfl) rfl fun bc2 w41 hs41 hoc2 ec2 => ?_)
         replace hr := hr.mono hs41.le
         replace hok := hok.mono hs41.le
         replace hrp := hrp.mono hs41.le
         replace hrq := hrq.mono hs41.le
         replace hbp := hbp.then hs41
         replace hbq := hbq.then hs41
         replace hox := hox.then hs41
         replace hoq := hoq.then hs41
         replace hv1 := hv1.mono hs41.le
         replace hv2 := hv2.mono hs41.le
         replace hw1 := hw1.mono hs41.le
         replace hw2 := hw2.mono hs41.le
         replace hva := hva.mono hs41.le
         replace hoc1 := hoc1.then hs41
         replace hvb := hvb.mono hs41.le
         replace hT := hT.then hs41
         have hz41 := hs41.size
         have hlc2 := hoc2.1.lt
         refine ⟨trivial, ?_⟩
         refine Dh0 10 2047 rfl (by kernel_rfl) rfl (h_store hs41.sat hoc2 rfl rfl rfl (by kernel_rfl) rfl (all_one oneb) rfl fun w42 hs42 hn42 => ?_)
         replace hr := hr.mono hs42.le
         replace hok := hok.mono hs42.le
         replace hrp := hrp.mono hs42.le
         replace hrq := hrq.mono hs42.le
         replace hbp := hbp.step hs42 (fun g2 hg h => by have h : g2 = bc2 := h; have hg : gp = g2 := Option.some.inj hg; omega)
         replace hbq := hbq.step hs42 (fun g2 hg h => by have h : g2 = bc2 := h; have hg : gq = g2 := Option.some.inj hg; omega)
         replace hox := hox.step hs42 (fun h => by have h : _ = bc2 := h; omega)
         replace hoq := hoq.step hs42 (fun h => by have h : _ = bc2 := h; omega)
         replace hv1 := hv1.mono hs42.le
         replace hv2 := hv2.mono hs42.le
         replace hw1 := hw1.mono hs42.le
         replace hw2 := hw2.mono hs42.le
         replace hva := hva.mono hs42.le
         replace hoc1 := hoc1.step hs42 (fun h => by have h : _ = bc2 := h; omega)
         replace hvb := hvb.mono hs42.le
         clear hoc2; have hoc2 := hn42; clear hn42
         replace hT := hT.own hs42 (by omega)
         have hz42 := hs42.size
         refine ⟨trivial, ?_⟩
         refine Da 11 4095 rfl (by kernel_rfl) rfl ?_
         refine Dd (by kernel_rfl) ?_
         exact ⟨_, (.cons rfl (.cons rfl (.cons rfl (.cons rfl (.cons rfl (.cons rfl (.cons rfl (.cons rfl (.cons rfl (.cons rfl (.cons rfl (.cons rfl (.cons rfl (.cons rfl (.cons rfl (.cons rfl (.nil _))))))))))))))))), nb, bc2, Mn40, rfl, hT, by omega, hrp, hrq, hbp, hbq, hox, hoq, hva, hoc1, hvb, hoc2⟩
        ·
         have hqac2 := hT.size
         refine Dah 9 543 rfl (by kernel_rfl) (keep_sift (bs := [F,F]) (by kernel_rfl)) (h_allocO (z := (.agg #[.nilIface])) hs39.sat (by kernel_rfl) rfl fun bc2 w43 hs43 hoc2 ec2 => ?_)
         replace hr := hr.mono hs43.le
         replace hok := hok.mono hs43.le
         replace hrp := hrp.mono hs43.le
         replace hrq := hrq.mono hs43.le
         replace hbp := hbp.then hs43
         replace hbq := hbq.then hs43
         replace hox := hox.then hs43
         replace hoq := hoq.then hs43
         replace hv1 := hv1.mono hs43.le
         replace hv2 := hv2.mono hs43.le
         replace hw1 := hw1.mono hs43.le
         replace hw2 := hw2.mono hs43.le
         replace hva := hva.mono hs43.le
         replace hoc1 := hoc1.then hs43
         replace hT := hT.then hs43
         have hz43 := hs43.size
         have hlc2 := hoc2.1.lt
         refine ⟨(by repeat' first | exact trivial | exact Blk.cell hox.1 rfl | exact Blk.cells hox.1 rfl | exact Blk.cell hoq.1 rfl | exact Blk.cells hoq.1 rfl | exact Blk.cell hoc1.1 rfl | exact Blk.cells hoc1.1 rfl | exact Blk.cell hoc2.1 rfl | exact Blk.cells hoc2.1 rfl | exact (hrow_at hbq hq2) | assumption | refine all_keep ?_ | refine And.intro ?_ ?_), ?_⟩
         refine Dh 5 575 rfl (by kernel_rfl) (keep_sift (bs := [T,T]) (by kernel_rfl)) (h_call (by kernel_rfl) rfl ?_)
         refine (hp_meldB hs43.sat hk02 hv2 hw2 (by omega)).mono ?_
         rintro _ w44 ⟨nb, Mn44, hrv, hs44, hvb⟩
         subst hrv
         replace hr := hr.mono hs44.le
         replace hok := hok.mono hs44.le
         replace hrp := hrp.mono hs44.le
         replace hrq := hrq.mono hs44.le
         replace hbp := hbp.then hs44
         replace hbq := hbq.then hs44
         replace hox := hox.then hs44
         replace hoq := hoq.then hs44
         replace hv1 := hv1.mono hs44.le
         replace hv2 := hv2.mono hs44.le
         replace hw1 := hw1.mono hs44.le
         replace hw2 := hw2.mono hs44.le
         replace hva := hva.mono hs44.le
         replace hoc1 := hoc1.then hs44
         replace hoc2 := hoc2.then hs44
         replace hT := hT.then hs44
         have hz44 := hs44.size
         have oneb := hvb.one
         refine ⟨trivial, ?_⟩
         refine Dm 6 639 rfl (by kernel_rfl) rfl ?_
         refine Dq 7 767 rfl (by kernel_rfl) (fun _ => (q_extract rfl rfl)) ?_
         refine Dq 8 1023 rfl (by kernel_rfl) (fun _ => (q_extract rfl rfl)) ?_
         refine Dh0 10 2047 rfl (by kernel_rfl) rfl (h_store hs44.sat hoc2 rfl rfl rfl (by kernel_rfl) rfl (all_one oneb) rfl fun w45 hs45 hn45 => ?_)
         replace hr := hr.mono hs45.le
         replace hok := hok.mono hs45.le
         replace hrp := hrp.mono hs45.le
         replace hrq := hrq.mono hs45.le
         replace hbp := hbp.step hs45 (fun g2 hg h => by have h : g2 = bc2 := h; have hg : gp = g2 := Option.some.inj hg; omega)
         replace hbq := hbq.step hs45 (fun g2 hg h => by have h : g2 = bc2 := h; have hg : gq = g2 := Option.some.inj hg; omega)
         replace hox := hox.step hs45 (fun h => by have h : _ = bc2 := h; omega)
         replace hoq := hoq.step hs45 (fun h => by have h : _ = bc2 := h; omega)
         replace hv1 := hv1.mono hs45.le
         replace hv2 := hv2.mono hs45.le
         replace hw1 := hw1.mono hs45.le
         replace hw2 := hw2.mono hs45.le
         replace hva := hva.mono hs45.le
         replace hoc1 := hoc1.step hs45 (fun h => by have h : _ = bc2 := h; omega)
         replace hvb := hvb.mono hs45.le
         clear hoc2; have hoc2 := hn45; clear hn45
         replace hT := hT.own hs45 (by omega)
         have hz45 := hs45.size
         refine ⟨trivial, ?_⟩
         refine Da 11 4095 rfl (by kernel_rfl) rfl ?_
         refine Dd (by kernel_rfl) ?_
         exact ⟨_, (.cons rfl (.cons rfl (.cons rfl (.cons rfl (.cons rfl (.cons rfl (.cons rfl (.cons rfl (.cons rfl (.cons rfl (.cons rfl (.cons rfl (.cons rfl (.cons rfl (.cons rfl (.cons rfl (.nil _))))))))))))))))), nb, bc2, Mn44, rfl, hT, by omega, hrp, hrq, hbp, hbq, hox, hoq, hva, hoc1, hvb, hoc2⟩
       clear hT hrp hrq hbp hbq hox hoq hv1 hv2 hw1 hw2 hr hok hva hoc1
       rintro l1 wB ⟨nb, bc2, MB, rfl, hT, hbc2, hrp, hrq, hbp, hbq, hox, hoq, hva, hoc1, hvb, hoc2⟩
       have oneb := hvb.one
       have hlc2 := hoc2.1.lt
       have hszB := hT.size
       refine cw_rs fun _ κ => ?_
       refine Sc 1 rfl (by kernel_rfl) rfl (by exact Blk.cells hoc1.1 rfl) ?_
       refine as_h0 (h_store hT.sat hox rfl rfl rfl (by kernel_rfl) rfl (all_one onea) rfl fun w46 hs46 hn46 => ?_)
       replace hrp := hrp.mono hs46.le
       replace hrq := hrq.mono hs46.le
       replace hbp := hbp.step hs46 (fun g2 hg h => by have h : g2 = bx := h; have hg : gp = g2 := Option.some.inj hg; omega)
       replace hbq := hbq.step hs46 (fun g2 hg h => by have h : g2 = bx := h; have hg : gq = g2 := Option.some.inj hg; omega)
       replace hoq := hoq.step hs46 (fun h => by have h : _ = bx := h; omega)
       replace hva := hva.mono hs46.le
       replace hoc1 := hoc1.step hs46 (fun h => by have h : _ = bx := h; omega)
       replace hvb := hvb.mono hs46.le
       replace hoc2 := hoc2.step hs46 (fun h => by have h : _ = bx := h; omega)
       clear hox; have hox := hn46; clear hn46
       replace hT := hT.own hs46 (by omega)
       have hz46 := hs46.size
       refine as_nil (κ _ _ ?_)
       refine cw_rs fun _ κ => ?_
       refine Sc 1 rfl (by kernel_rfl) rfl (by exact Blk.cells hoc2.1 rfl) ?_
       refine as_h0 (h_store hs46.sat hoq rfl rfl rfl (by kernel_rfl) rfl (all_one oneb) rfl fun w47 hs47 hn47 => ?_)
       replace hrp := hrp.mono hs47.le
       replace hrq := hrq.mono hs47.le
       replace hbp := hbp.step hs47 (fun g2 hg h => by have h : g2 = bq := h; have hg : gp = g2 := Option.some.inj hg; omega)
       replace hbq := hbq.step hs47 (fun g2 hg h => by have h : g2 = bq := h; have hg : gq = g2 := Option.some.inj hg; omega)
       replace hox := hox.step hs47 (fun h => by have h : _ = bq := h; omega)
       replace hva := hva.mono hs47.le
       replace hoc1 := hoc1.step hs47 (fun h => by have h : _ = bq := h; omega)
       replace hvb := hvb.mono hs47.le
       replace hoc2 := hoc2.step hs47 (fun h => by have h : _ = bq := h; omega)
       clear hoq; have hoq := hn47; clear hn47
       replace hT := hT.own hs47 (by omega)
       have hz47 := hs47.size
       refine as_nil (κ _ _ ?_)
       refine cw_rs fun _ κ => ?_
       refine Sm rfl rfl ?_
       refine Sa rfl rfl ?_
       refine as_nil (κ _ _ ?_)
       refine cw_region fun _ κ => ?_
       refine Sm rfl rfl ?_
       refine Sa rfl rfl ?_
       refine as_nil (κ _ _ ?_)
       exact ⟨_, (.cons rfl (.cons rfl (.cons rfl (.cons rfl (.cons rfl (.cons rfl (.cons rfl (.cons rfl (.cons rfl (.cons rfl (.nil _))))))))))), (eB (b && b2)), (b && b2), (mB b b2 l l2), na, nb, MB, by have := mB_le b b2 l l2; omega, rfl, hT, hrp, hrq, hbp, hbq, hox, hoq, hva, hvb⟩
      ·
       refine cw_rs fun _ κ => ?_
       refine as_q rfl rfl (q_eq rfl rfl) ?_
       refine Sa rfl rfl ?_
       refine as_nil (κ _ _ ?_)
       refine cw_cond rfl (fun hc6 => ?_) (fun hc6 => ?_)
       ·
        refine cw_rs fun _ κ => ?_
        refine Sc 1 rfl (by kernel_rfl) rfl (by exact Blk.cells hox.1 rfl) ?_
        refine as_h rfl (h_call (by kernel_rfl) rfl ?_)
        refine (hp_popB hs15.sat hk0 hv1 (by omega)).mono ?_
        rintro _ w48 ⟨na, Mn48, hrv, hs48, hva⟩
        subst hrv
        replace hr := hr.mono hs48.le
        replace hok := hok.mono hs48.le
        replace hrp := hrp.mono hs48.le
        replace hrq := hrq.mono hs48.le
        replace hbp := hbp.then hs48
        replace hbq := hbq.then hs48
        replace hox := hox.then hs48
        replace hoq := hoq.then hs48
        replace hv1 := hv1.mono hs48.le
        replace hv2 := hv2.mono hs48.le
        replace hw1 := hw1.mono hs48.le
        replace hw2 := hw2.mono hs48.le
        replace htlv := htlv.mono hs48.le
        replace hT := hT.then hs48
        have hz48 := hs48.size
        have onea := hva.one
        refine Sm rfl rfl ?_
        refine Se rfl rfl rfl ?_
        refine Se rfl rfl rfl ?_
        have hqac1 := hT.size
        refine as_h rfl (h_allocO (z := (.agg #[.nilIface])) hs48.sat (by kernel_rfl) rfl fun bc1 w49 hs49 hoc1 ec1 => ?_)
        replace hr := hr.mono hs49.le
        replace hok := hok.mono hs49.le
        replace hrp := hrp.mono hs49.le
        replace hrq := hrq.mono hs49.le
        replace hbp := hbp.then hs49
        replace hbq := hbq.then hs49
        replace hox := hox.then hs49
        replace hoq := hoq.then hs49
        replace hv1 := hv1.mono hs49.le
        replace hv2 := hv2.mono hs49.le
        replace hw1 := hw1.mono hs49.le
        replace hw2 := hw2.mono hs49.le
        replace htlv := htlv.mono hs49.le
        replace hva := hva.mono hs49.le
        replace hT := hT.then hs49
        have hz49 := hs49.size
        have hlc1 := hoc1.1.lt
        refine as_h0 (h_store hs49.sat hoc1 rfl rfl rfl (by kernel_rfl) rfl (all_one onea) rfl fun w50 hs50 hn50 => ?_)
        replace hr := hr.mono hs50.le
        replace hok := hok.mono hs50.le
        replace hrp := hrp.mono hs50.le
        replace hrq := hrq.mono hs50.le
        replace hbp := hbp.step hs50 (fun g2 hg h => by have h : g2 = bc1 := h; have hg : gp = g2 := Option.some.inj hg; omega)
        replace hbq := hbq.step hs50 (fun g2 hg h => by have h : g2 = bc1 := h; have hg : gq = g2 := Option.some.inj hg; omega)
        replace hox := hox.step hs50 (fun h => by have h : _ = bc1 := h; omega)
        replace hoq := hoq.step hs50 (fun h => by have h : _ = bc1 := h; omega)
        replace hv1 := hv1.mono hs50.le
        replace hv2 := hv2.mono hs50.le
        replace hw1 := hw1.mono hs50.le
        replace hw2 := hw2.mono hs50.le
        replace htlv := htlv.mono hs50.le
        replace hva := hva.mono hs50.le
        clear hoc1; have hoc1 := hn50; clear hn50
        replace hT := hT.own hs50 (by omega)
        have hz50 := hs50.size
        refine Sa rfl rfl ?_
        refine as_nil (κ _ _ ?_)
        refine cw_rs fun _ κ => ?_
        refine Sc 1 rfl (by kernel_rfl) rfl (by exact Blk.cells hoq.1 rfl) ?_
        refine as_h rfl (h_call (by kernel_rfl) rfl ?_)
        refine (hp_popB hs50.sat hk02 hv2 (by omega)).mono ?_
        rintro _ w51 ⟨nb, Mn51, hrv, hs51, hvb⟩
        subst hrv
        replace hr := hr.mono hs51.le
        replace hok := hok.mono hs51.le
        replace hrp := hrp.mono hs51.le
        replace hrq := hrq.mono hs51.le
        replace hbp := hbp.then hs51
        replace hbq := hbq.then hs51
        replace hox := hox.then hs51
        replace hoq := hoq.then hs51
        replace hv1 := hv1.mono hs51.le
        replace hv2 := hv2.mono hs51.le
        replace hw1 := hw1.mono hs51.le
        replace hw2 := hw2.mono hs51.le
        replace htlv := htlv.mono hs51.le
        replace hva := hva.mono hs51.le
        replace hoc1 := hoc1.then hs51
        replace hT := hT.then hs51
        have hz51 := hs51.size
        have oneb := hvb.one
        refine Sm rfl rfl ?_
        refine Se rfl rfl rfl ?_
        refine Se rfl rfl rfl ?_
        have hqac2 := hT.size
        refine as_h rfl (h_allocO (z := (.agg #[.nilIface])) hs51.sat (by kernel_rfl) rfl fun bc2 w52 hs52 hoc2 ec2 => ?_)
        replace hr := hr.mono hs52.le
        replace hok := hok.mono hs52.le
        replace hrp := hrp.mono hs52.le
        replace hrq := hrq.mono hs52.le
        replace hbp := hbp.then hs52
        replace hbq := hbq.then hs52
        replace hox := hox.then hs52
        replace hoq := hoq.then hs52
        replace hv1 := hv1.mono hs52.le
        replace hv2 := hv2.mono hs52.le
        replace hw1 := hw1.mono hs52.le
        replace hw2 := hw2.mono hs52.le
        replace htlv := htlv.mono hs52.le
        replace hva := hva.mono hs52.le
        replace hoc1 := hoc1.then hs52
        replace hvb := hvb.mono hs52.le
        replace hT := hT.then hs52
        have hz52 := hs52.size
        have hlc2 := hoc2.1.lt
        refine as_h0 (h_store hs52.sat hoc2 rfl rfl rfl (by kernel_rfl) rfl (all_one oneb) rfl fun w53 hs53 hn53 => ?_)
        replace hr := hr.mono hs53.le
        replace hok := hok.mono hs53.le
        replace hrp := hrp.mono hs53.le
        replace hrq := hrq.mono hs53.le
        replace hbp := hbp.step hs53 (fun g2 hg h => by have h : g2 = bc2 := h; have hg : gp = g2 := Option.some.inj hg; omega)
        replace hbq := hbq.step hs53 (fun g2 hg h => by have h : g2 = bc2 := h; have hg : gq = g2 := Option.some.inj hg; omega)
        replace hox := hox.step hs53 (fun h => by have h : _ = bc2 := h; omega)
        replace hoq := hoq.step hs53 (fun h => by have h : _ = bc2 := h; omega)
        replace hv1 := hv1.mono hs53.le
        replace hv2 := hv2.mono hs53.le
        replace hw1 := hw1.mono hs53.le
        replace hw2 := hw2.mono hs53.le
        replace htlv := htlv.mono hs53.le
        replace hva := hva.mono hs53.le
        replace hoc1 := hoc1.step hs53 (fun h => by have h : _ = bc2 := h; omega)
        replace hvb := hvb.mono hs53.le
        clear hoc2; have hoc2 := hn53; clear hn53
        replace hT := hT.own hs53 (by omega)
        have hz53 := hs53.size
        refine Sa rfl rfl ?_
        refine as_nil (κ _ _ ?_)
        refine cw_rs fun _ κ => ?_
        refine Sc 1 rfl (by kernel_rfl) rfl (by exact Blk.cells hoc1.1 rfl) ?_
        refine as_h0 (h_store hs53.sat hox rfl rfl rfl (by kernel_rfl) rfl (all_one onea) rfl fun w54 hs54 hn54 => ?_)
        replace hr := hr.mono hs54.le
        replace hok := hok.mono hs54.le
        replace hrp := hrp.mono hs54.le
        replace hrq := hrq.mono hs54.le
        replace hbp := hbp.step hs54 (fun g2 hg h => by have h : g2 = bx := h; have hg : gp = g2 := Option.some.inj hg; omega)
        replace hbq := hbq.step hs54 (fun g2 hg h => by have h : g2 = bx := h; have hg : gq = g2 := Option.some.inj hg; omega)
        replace hoq := hoq.step hs54 (fun h => by have h : _ = bx := h; omega)
        replace hv1 := hv1.mono hs54.le
        replace hv2 := hv2.mono hs54.le
        replace hw1 := hw1.mono hs54.le
        replace hw2 := hw2.mono hs54.le
        replace htlv := htlv.mono hs54.le
        replace hva := hva.mono hs54.le
        replace hoc1 := hoc1.step hs54 (fun h => by have h : _ = bx := h; omega)
        replace hvb := hvb.mono hs54.le
        replace hoc2 := hoc2.step hs54 (fun h => by have h : _ = bx := h; omega)
        clear hox; have hox := hn54; clear hn54
        replace hT := hT.own hs54 (by omega)
        have hz54 := hs54.size
        refine as_nil (κ _ _ ?_)
        refine cw_rs fun _ κ => ?_
        refine Sc 1 rfl (by kernel_rfl) rfl (by exact Blk.cells hoc2.1 rfl) ?_
        refine as_h0 (h_store hs54.sat hoq rfl rfl rfl (by kernel_rfl) rfl (all_one oneb) rfl fun w55 hs55 hn55 => ?_)
        replace hr := hr.mono hs55.le
        replace hok := hok.mono hs55.le
        replace hrp := hrp.mono hs55.le
        replace hrq := hrq.mono hs55.le
        replace hbp := hbp.step hs55 (fun g2 hg h => by have h : g2 = bq := h; have hg : gp = g2 := Option.some.inj hg; omega)
        replace hbq := hbq.step hs55 (fun g2 hg h => by have h : g2 = bq := h; have hg : gq = g2 := Option.some.inj hg; omega)
        replace hox := hox.step hs55 (fun h => by have h : _ = bq := h; omega)
        replace hv1 := hv1.mono hs55.le
        replace hv2 := hv2.mono hs55.le
        replace hw1 := hw1.mono hs55.le
        replace hw2 := hw2.mono hs55.le
        replace htlv := htlv.mono hs55.le
        replace hva := hva.mono hs55.le
        replace hoc1 := hoc1.step hs55 (fun h => by have h : _ = bq := h; omega)
        replace hvb := hvb.mono hs55.le
        replace hoc2 := hoc2.step hs55 (fun h => by have h : _ = bq := h; omega)
        clear hoq; have hoq := hn55; clear hn55
        replace hT := hT.own hs55 (by omega)
        have hz55 := hs55.size
        refine as_nil (κ _ _ ?_)
        refine cw_rs fun _ κ => ?_
        refine Sm rfl rfl ?_
        refine Sa rfl rfl ?_
        refine as_nil (κ _ _ ?_)
        refine cw_region fun _ κ => ?_
        refine Sm rfl rfl ?_
        refine Sa rfl rfl ?_
        refine as_nil (κ _ _ ?_)
        exact ⟨_, (.cons rfl (.cons rfl (.cons rfl (.cons rfl (.cons rfl (.cons rfl (.cons rfl (.cons rfl (.cons rfl (.cons rfl (.nil _))))))))))), (pE b l), (nB b l), l.tail, na, nb, Mn51, by rw [List.length_tail]; omega, rfl, hT, hrp, hrq, hbp, hbq, hox, hoq, hva, hvb⟩
       ·
        refine cw_rs fun _ κ => ?_
        refine Sm rfl rfl ?_
        refine Sm rfl rfl ?_
        refine Sm rfl rfl ?_
        refine as_q rfl rfl (q_indexAddr (e := 53) (size := 7) (by kernel_rfl) (by kernel_rfl) rfl rfl (by omega) (by omega)) ?_
        refine Sf 6 rfl (by kernel_rfl) rfl ?_
        refine S1 rfl (by kernel_rfl) rfl (act_at hr hT.sat (i := (i : Int).toNat) (by simpa using ht) 6 rfl) ?_
        refine as_h rfl (h_call (by kernel_rfl) rfl ?_)
        refine (hp_of (z := z) hs15.sat (RdM.rds (show RdM _ 2 t.lv t.nl (els t.L) from htlv) _) (by omega)).mono ?_
        rintro _ w56 ⟨na, Mn56, hrv, hs56, hva⟩
        rw [hem] at hrv
        rw [hekz, hofl] at hva
        replace hva := hva.toB
        subst hrv
        replace hr := hr.mono hs56.le
        replace hok := hok.mono hs56.le
        replace hrp := hrp.mono hs56.le
        replace hrq := hrq.mono hs56.le
        replace hbp := hbp.then hs56
        replace hbq := hbq.then hs56
        replace hox := hox.then hs56
        replace hoq := hoq.then hs56
        replace hv1 := hv1.mono hs56.le
        replace hv2 := hv2.mono hs56.le
        replace hw1 := hw1.mono hs56.le
        replace hw2 := hw2.mono hs56.le
        replace htlv := htlv.mono hs56.le
        replace hT := hT.then hs56
        have hz56 := hs56.size
        have onea := hva.one
        refine Sm rfl rfl ?_
        refine Se rfl rfl rfl ?_
        refine Se rfl rfl rfl ?_
        have hqac1 := hT.size
        refine as_h rfl (h_allocO (z := (.agg #[.nilIface])) hs56.sat (by kernel_rfl) rfl fun bc1 w57 hs57 hoc1 ec1 => ?_)
        replace hr := hr.mono hs57.le
        replace hok := hok.mono hs57.le
        replace hrp := hrp.mono hs57.le
        replace hrq := hrq.mono hs57.le
        replace hbp := hbp.then hs57
        replace hbq := hbq.then hs57
        replace hox := hox.then hs57
        replace hoq := hoq.then hs57
        replace hv1 := hv1.mono hs57.le
        replace hv2 := hv2.mono hs57.le
        replace hw1 := hw1.mono hs57.le
        replace hw2 := hw2.mono hs57.le
        replace htlv := htlv.mono hs57.le
        replace hva := hva.mono hs57.le
        replace hT := hT.then hs57
        have hz57 := hs57.size
        have hlc1 := hoc1.1.lt
        refine as_h0 (h_store hs57.sat hoc1 rfl rfl rfl (by kernel_rfl) rfl (all_one onea) rfl fun w58 hs58 hn58 => ?_)
        replace hr := hr.mono hs58.le
        replace hok := hok.mono hs58.le
        replace hrp := hrp.mono hs58.le
        replace hrq := hrq.mono hs58.le
        replace hbp := hbp.step hs58 (fun g2 hg h => by have h : g2 = bc1 := h; have hg : gp = g2 := Option.some.inj hg; omega)
        replace hbq := hbq.step hs58 (fun g2 hg h => by have h : g2 = bc1 := h; have hg : gq = g2 := Option.some.inj hg; omega)
        replace hox := hox.step hs58 (fun h => by have h : _ = bc1 := h; omega)
        replace hoq := hoq.step hs58 (fun h => by have h : _ = bc1 := h; omega)
        replace hv1 := hv1.mono hs58.le
        replace hv2 := hv2.mono hs58.le
        replace hw1 := hw1.mono hs58.le
        replace hw2 := hw2.mono hs58.le
        replace htlv := htlv.mono hs58.le
        replace hva := hva.mono hs58.le
        clear hoc1; have hoc1 := hn58; clear hn58
        replace hT := hT.own hs58 (by omega)
        have hz58 := hs58.size
        refine Sa rfl rfl ?_
        refine as_nil (κ _ _ ?_)
        refine cw_rs fun _ κ => ?_
        refine Sm rfl rfl ?_
        refine Sm rfl rfl ?_
        refine Sm rfl rfl ?_
        refine as_q rfl rfl (q_indexAddr (e := 53) (size := 7) (by kernel_rfl) (by kernel_rfl) rfl rfl (by omega) (by omega)) ?_
        refine Sf 6 rfl (by kernel_rfl) rfl ?_
        refine S1 rfl (by kernel_rfl) rfl (act_at hr hT.sat (i := (i : Int).toNat) (by simpa using ht) 6 rfl) ?_
        refine as_h rfl (h_call (by kernel_rfl) rfl ?_)
        refine (hp_of (z := y) hs58.sat (RdM.rds (show RdM _ 2 t.lv t.nl (els t.L) from htlv) _) (by omega)).mono ?_
        rintro _ w59 ⟨nb, Mn59, hrv, hs59, hvb⟩
        rw [hem2] at hrv
        rw [hekz2, hofl2] at hvb
        replace hvb := hvb.toB
        subst hrv
        replace hr := hr.mono hs59.le
        replace hok := hok.mono hs59.le
        replace hrp := hrp.mono hs59.le
        replace hrq := hrq.mono hs59.le
        replace hbp := hbp.then hs59
        replace hbq := hbq.then hs59
        replace hox := hox.then hs59
        replace hoq := hoq.then hs59
        replace hv1 := hv1.mono hs59.le
        replace hv2 := hv2.mono hs59.le
        replace hw1 := hw1.mono hs59.le
        replace hw2 := hw2.mono hs59.le
        replace htlv := htlv.mono hs59.le
        replace hva := hva.mono hs59.le
        replace hoc1 := hoc1.then hs59
        replace hT := hT.then hs59
        have hz59 := hs59.size
        have oneb := hvb.one
        refine Sm rfl rfl ?_
        refine Se rfl rfl rfl ?_
        refine Se rfl rfl rfl ?_
        have hqac2 := hT.size
        refine as_h rfl (h_allocO (z := (.agg #[.nilIface])) hs59.sat (by kernel_rfl) rfl fun bc2 w60 hs60 hoc2 ec2 => ?_)
        replace hr := hr.mono hs60.le
        replace hok := hok.mono hs60.le
        replace hrp := hrp.mono hs60.le
        replace hrq := hrq.mono hs60.le
        replace hbp := hbp.then hs60
        replace hbq := hbq.then hs60
        replace hox := hox.then hs60
        replace hoq := hoq.then hs60
        replace hv1 := hv1.mono hs60.le
        replace hv2 := hv2.mono hs60.le
        replace hw1 := hw1.mono hs60.le
        replace hw2 := hw2.mono hs60.le
        replace htlv := htlv.mono hs60.le
        replace hva := hva.mono hs60.le
        replace hoc1 := hoc1.then hs60
        replace hvb := hvb.mono hs60.le
        replace hT := hT.then hs60
        have hz60 := hs60.size
        have hlc2 := hoc2.1.lt
        refine as_h0 (h_store hs60.sat hoc2 rfl rfl rfl (by kernel_rfl) rfl (all_one oneb) rfl fun w61 hs61 hn61 => ?_)
        replace hr := hr.mono hs61.le
        replace hok := hok.mono hs61.le
        replace hrp := hrp.mono hs61.le
        replace hrq := hrq.mono hs61.le
        replace hbp := hbp.step hs61 (fun g2 hg h => by have h : g2 = bc2 := h; have hg : gp = g2 := Option.some.inj hg; omega)
        replace hbq := hbq.step hs61 (fun g2 hg h => by have h : g2 = bc2 := h; have hg : gq = g2 := Option.some.inj hg; omega)
        replace hox := hox.step hs61 (fun h => by have h : _ = bc2 := h; omega)
        replace hoq := hoq.step hs61 (fun h => by have h : _ = bc2 := h; omega)
        replace hv1 := hv1.mono hs61.le
        replace hv2 := hv2.mono hs61.le
        replace hw1 := hw1.mono hs61.le
        replace hw2 := hw2.mono hs61.le
        replace htlv := htlv.mono hs61.le
        replace hva := hva.mono hs61.le
        replace hoc1 := hoc1.step hs61 (fun h => by have h : _ = bc2 := h; omega)
        replace hvb := hvb.mono hs61.le
        clear hoc2; have hoc2 := hn61; clear hn61
        replace hT := hT.own hs61 (by omega)
        have hz61 := hs61.size
        refine Sa rfl rfl ?_
        refine as_nil (κ _ _ ?_)
        refine cw_rs fun _ κ => ?_
        refine Sc 1 rfl (by kernel_rfl) rfl (by exact Blk.cells hoc1.1 rfl) ?_
        refine as_h0 (h_store hs61.sat hox rfl rfl rfl (by kernel_rfl) rfl (all_one onea) rfl fun w62 hs62 hn62 => ?_)
        replace hr := hr.mono hs62.le
        replace hok := hok.mono hs62.le
        replace hrp := hrp.mono hs62.le
        replace hrq := hrq.mono hs62.le
        replace hbp := hbp.step hs62 (fun g2 hg h => by have h : g2 = bx := h; have hg : gp = g2 := Option.some.inj hg; omega)
        replace hbq := hbq.step hs62 (fun g2 hg h => by have h : g2 = bx := h; have hg : gq = g2 := Option.some.inj hg; omega)
        replace hoq := hoq.step hs62 (fun h => by have h : _ = bx := h; omega)
        replace hv1 := hv1.mono hs62.le
        replace hv2 := hv2.mono hs62.le
        replace hw1 := hw1.mono hs62.le
        replace hw2 := hw2.mono hs62.le
        replace htlv := htlv.mono hs62.le
        replace hva := hva.mono hs62.le
        replace hvb := hvb.mono hs62.le
        replace hoc2 := hoc2.step hs62 (fun h => by have h : _ = bx := h; omega)
        clear hox; have hox := hn62; clear hn62
        replace hT := hT.own hs62 (by omega)
        have hz62 := hs62.size
        refine as_nil (κ _ _ ?_)
        refine cw_rs fun _ κ => ?_
        refine Sc 1 rfl (by kernel_rfl) rfl (by exact Blk.cells hoc2.1 rfl) ?_
        refine as_h0 (h_store hs62.sat hoq rfl rfl rfl (by kernel_rfl) rfl (all_one oneb) rfl fun w63 hs63 hn63 => ?_)
        replace hr := hr.mono hs63.le
        replace hok := hok.mono hs63.le
        replace hrp := hrp.mono hs63.le
        replace hrq := hrq.mono hs63.le
        replace hbp := hbp.step hs63 (fun g2 hg h => by have h : g2 = bq := h; have hg : gp = g2 := Option.some.inj hg; omega)
        replace hbq := hbq.step hs63 (fun g2 hg h => by have h : g2 = bq := h; have hg : gq = g2 := Option.some.inj hg; omega)
        replace hox := hox.step hs63 (fun h => by have h : _ = bq := h; omega)
        replace hv1 := hv1.mono hs63.le
        replace hv2 := hv2.mono hs63.le
        replace hw1 := hw1.mono hs63.le
        replace hw2 := hw2.mono hs63.le
        replace htlv := htlv.mono hs63.le
        replace hva := hva.mono hs63.le
        replace hvb := hvb.mono hs63.le
        clear hoq; have hoq := hn63; clear hn63
        replace hT := hT.own hs63 (by omega)
        have hz63 := hs63.size
        refine as_nil (κ _ _ ?_)
        refine cw_rs fun _ κ => ?_
        refine Sm rfl rfl ?_
        refine Sa rfl rfl ?_
        refine as_nil (κ _ _ ?_)
        refine cw_region fun _ κ => ?_
        refine Sm rfl rfl ?_
        refine Sa rfl rfl ?_
        refine as_nil (κ _ _ ?_)
        exact ⟨_, (.cons rfl (.cons rfl (.cons rfl (.cons rfl (.cons rfl (.cons rfl (.cons rfl (.cons rfl (.cons rfl (.cons rfl (.nil _))))))))))), 0, true, (srtE t.L), na, nb, Mn59, by rw [srtE_length]; omega, rfl, hT, hrp, hrq, hbp, hbq, hox, hoq, hva, hvb⟩
    clear hT hrp hrq hbp hbq hox hoq hv1 hv2 hw1 hw2 hr hok htlv
    rintro l1 wC ⟨er2, b3, l3, na, nb, MC, hl3, rfl, hT, hrp, hrq, hbp, hbq, hox, hoq, hva, hvb⟩
    have onea := hva.one
    have oneb := hvb.one
    have hlx8 := hox.1.lt
    have hlq8 := hoq.1.lt
    have hgl8 := hbp.lt gp rfl
    have hgq8 := hbq.lt gq rfl
    have hszC := hT.size
    refine cw_rs fun _ κ => ?_
    refine Sc 1 rfl (by kernel_rfl) rfl (by exact Blk.cells hox.1 rfl) ?_
    refine as_h rfl (h_call (by kernel_rfl) rfl ?_)
    refine (hp_minB hT.sat hk0 hva (by omega)).mono ?_
    rintro _ w64 ⟨rfl, hs64⟩
    replace hrp := hrp.mono hs64.le
    replace hrq := hrq.mono hs64.le
    replace hbp := hbp.then hs64
    replace hbq := hbq.then hs64
    replace hox := hox.then hs64
    replace hoq := hoq.then hs64
    replace hva := hva.mono hs64.le
    replace hvb := hvb.mono hs64.le
    replace hT := hT.then hs64
    have hz64 := hs64.size
    refine Sm rfl rfl ?_
    refine Se rfl rfl rfl ?_
    refine Se rfl rfl rfl ?_
    have hqam1 := hT.size
    refine as_h rfl (h_allocO (z := (.agg #[(.int .i64 0), (.int .i64 0)])) hs64.sat (by kernel_rfl) rfl fun bm1 w65 hs65 hom1 em1 => ?_)
    replace hrp := hrp.mono hs65.le
    replace hrq := hrq.mono hs65.le
    replace hbp := hbp.then hs65
    replace hbq := hbq.then hs65
    replace hox := hox.then hs65
    replace hoq := hoq.then hs65
    replace hva := hva.mono hs65.le
    replace hvb := hvb.mono hs65.le
    replace hT := hT.then hs65
    have hz65 := hs65.size
    have hlm1 := hom1.1.lt
    refine as_h0 (h_store hs65.sat hom1 rfl rfl rfl (by kernel_rfl) rfl rfl rfl fun w66 hs66 hn66 => ?_)
    replace hrp := hrp.mono hs66.le
    replace hrq := hrq.mono hs66.le
    replace hbp := hbp.step hs66 (fun g2 hg h => by have h : g2 = bm1 := h; have hg : gp = g2 := Option.some.inj hg; omega)
    replace hbq := hbq.step hs66 (fun g2 hg h => by have h : g2 = bm1 := h; have hg : gq = g2 := Option.some.inj hg; omega)
    replace hox := hox.step hs66 (fun h => by have h : _ = _ := h; omega)
    replace hoq := hoq.step hs66 (fun h => by have h : _ = _ := h; omega)
    replace hva := hva.mono hs66.le
    replace hvb := hvb.mono hs66.le
    clear hom1; have hom1 := hn66; clear hn66
    replace hT := hT.own hs66 (by omega)
    have hz66 := hs66.size
    refine Sa rfl rfl ?_
    refine as_nil (κ _ _ ?_)
    refine cw_rs fun _ κ => ?_
    refine Sc 1 rfl (by kernel_rfl) rfl (by exact Blk.cells hoq.1 rfl) ?_
    refine as_h rfl (h_call (by kernel_rfl) rfl ?_)
    refine (hp_minB hs66.sat hk02 hvb (by omega)).mono ?_
    rintro _ w67 ⟨rfl, hs67⟩
    replace hrp := hrp.mono hs67.le
    replace hrq := hrq.mono hs67.le
    replace hbp := hbp.then hs67
    replace hbq := hbq.then hs67
    replace hox := hox.then hs67
    replace hoq := hoq.then hs67
    replace hva := hva.mono hs67.le
    replace hvb := hvb.mono hs67.le
    replace hom1 := hom1.then hs67
    replace hT := hT.then hs67
    have hz67 := hs67.size
    refine Sm rfl rfl ?_
    refine Se rfl rfl rfl ?_
    refine Se rfl rfl rfl ?_
    have hqam2 := hT.size
    refine as_h rfl (h_allocO (z := (.agg #[(.int .i64 0), (.int .i64 0)])) hs67.sat (by kernel_rfl) rfl fun bm2 w68 hs68 hom2 em2 => ?_)
    replace hrp := hrp.mono hs68.le
    replace hrq := hrq.mono hs68.le
    replace hbp := hbp.then hs68
    replace hbq := hbq.then hs68
    replace hox := hox.then hs68
    replace hoq := hoq.then hs68
    replace hva := hva.mono hs68.le
    replace hvb := hvb.mono hs68.le
    replace hom1 := hom1.then hs68
    replace hT := hT.then hs68
    have hz68 := hs68.size
    have hlm2 := hom2.1.lt
    refine as_h0 (h_store hs68.sat hom2 rfl rfl rfl (by kernel_rfl) rfl rfl rfl fun w69 hs69 hn69 => ?_)
    replace hrp := hrp.mono hs69.le
    replace hrq := hrq.mono hs69.le
    replace hbp := hbp.step hs69 (fun g2 hg h => by have h : g2 = bm2 := h; have hg : gp = g2 := Option.some.inj hg; omega)
    replace hbq := hbq.step hs69 (fun g2 hg h => by have h : g2 = bm2 := h; have hg : gq = g2 := Option.some.inj hg; omega)
    replace hox := hox.step hs69 (fun h => by have h : _ = _ := h; omega)
    replace hoq := hoq.step hs69 (fun h => by have h : _ = _ := h; omega)
    replace hva := hva.mono hs69.le
    replace hvb := hvb.mono hs69.le
    replace hom1 := hom1.step hs69 (fun h => by have h : _ = _ := h; omega)
    clear hom2; have hom2 := hn69; clear hn69
    replace hT := hT.own hs69 (by omega)
    have hz69 := hs69.size
    refine Sa rfl rfl ?_
    refine as_nil (κ _ _ ?_)
    refine cw_seq fun _ hK64 => ?_
    refine cw_dr (by kernel_rfl) fun _ κ => ?_
    have hs70 := Step.drew hs69.sat
    have hz70 := hs70.size
    replace hrp := hrp.mono hs70.le
    replace hrq := hrq.mono hs70.le
    replace hbp := hbp.then hs70
    replace hbq := hbq.then hs70
    replace hox := hox.then hs70
    replace hoq := hoq.then hs70
    replace hva := hva.mono hs70.le
    replace hvb := hvb.mono hs70.le
    replace hom1 := hom1.then hs70
    replace hom2 := hom2.then hs70
    replace hT := hT.then hs70
    refine Dm 0 1 rfl (by kernel_rfl) rfl ?_
    refine Dm 1 3 rfl (by kernel_rfl) rfl ?_
    refine Dq 2 7 rfl (by kernel_rfl) (fun _ => (q_neF rfl rfl (by omega))) ?_
    refine Dm 3 15 rfl (by kernel_rfl) rfl ?_
    refine Dgq 4 31 rfl (by kernel_rfl) rfl rfl (fun _ => (q_move rfl)) ?_
    refine Dgq 5 63 rfl (by kernel_rfl) rfl rfl (fun _ => (q_move rfl)) ?_
    refine Dgq 6 127 rfl (by kernel_rfl) rfl rfl (fun _ => (q_neF rfl rfl (by omega))) ?_
    refine Dq 7 255 rfl (by kernel_rfl) (fun _ => (q_pick_f rfl rfl)) ?_
    refine Dm 8 511 rfl (by kernel_rfl) rfl ?_
    refine at_gq (i := 9) (li := lb 20 1023) (cellsAre _ _ 2 _) rfl (by kernel_rfl) rfl rfl rfl rfl (fun _ h => q_loadc (n := 2) (by kernel_rfl) rfl h) (by exact Blk.cells hom1.1 rfl) (by kernel_rfl) ?_
    refine at_gq (i := 10) (li := lb 20 2047) (cellsAre _ _ 2 _) rfl (by kernel_rfl) rfl rfl rfl rfl (fun _ h => q_loadc (n := 2) (by kernel_rfl) rfl h) (by exact Blk.cells hom2.1 rfl) (by kernel_rfl) ?_
    refine Dgq 11 4095 rfl (by kernel_rfl) rfl rfl (fun _ => (q_congr (q_neE (a := l3.headD (0, 0)) (b := l3.headD (0, 0)) (e := 2) (by kernel_rfl) (by kernel_rfl) (by kernel_rfl) (by kernel_rfl) (by kernel_rfl) (by kernel_rfl) rfl rfl) (v' := .bool false) (by simp))) ?_
    refine Dq 12 8191 rfl (by kernel_rfl) (fun _ => (q_pick_f rfl rfl)) ?_
    refine Dm 13 16383 rfl (by kernel_rfl) rfl ?_
    refine at_gq (i := 14) (li := lb 20 32767) (cellsAre _ _ 1 _) rfl (by kernel_rfl) rfl rfl rfl rfl (fun _ h => q_loadc (n := 1) (by kernel_rfl) rfl h) (by exact Blk.cells hox.1 rfl) (by kernel_rfl) ?_
    refine at_gq (i := 16) (li := lb 20 98303) (cellsAre _ _ 1 _) rfl (by kernel_rfl) rfl rfl rfl rfl (fun _ h => q_loadc (n := 1) (by kernel_rfl) rfl h) (by exact Blk.cells hoq.1 rfl) (by kernel_rfl) ?_
    refine Dgh 15 131071 rfl (by kernel_rfl) rfl rfl (keep_sift (bs := [F,T,F,F]) (by kernel_rfl)) (h_call (by kernel_rfl) rfl ?_)
    refine (hp_size hs70.sat hva (by omega)).mono ?_
    rintro _ w71 ⟨rfl, hs71⟩
    replace hrp := hrp.mono hs71.le
    replace hrq := hrq.mono hs71.le
    replace hbp := hbp.then hs71
    replace hbq := hbq.then hs71
    replace hox := hox.then hs71
    replace hoq := hoq.then hs71
    replace hva := hva.mono hs71.le
    replace hvb := hvb.mono hs71.le
    replace hom1 := hom1.then hs71
    replace hom2 := hom2.then hs71
    replace hT := hT.then hs71
    have hz71 := hs71.size
    refine ⟨(by repeat' first | exact trivial | exact Blk.cell hox.1 rfl | exact Blk.cells hox.1 rfl | exact Blk.cell hoq.1 rfl | exact Blk.cells hoq.1 rfl | exact Blk.cell hom1.1 rfl | exact Blk.cells hom1.1 rfl | exact Blk.cell hom2.1 rfl | exact Blk.cells hom2.1 rfl | assumption | refine all_keep ?_ | refine And.intro ?_ ?_), ?_⟩
    refine Dgh 17 262143 rfl (by kernel_rfl) rfl rfl (keep_sift (bs := [T,F,F]) (by kernel_rfl)) (h_call (by kernel_rfl) rfl ?_)
    refine (hp_size hs71.sat hvb (by omega)).mono ?_
    rintro _ w72 ⟨rfl, hs72⟩
    replace hrp := hrp.mono hs72.le
    replace hrq := hrq.mono hs72.le
    replace hbp := hbp.then hs72
    replace hbq := hbq.then hs72
    replace hox := hox.then hs72
    replace hoq := hoq.then hs72
    replace hva := hva.mono hs72.le
    replace hvb := hvb.mono hs72.le
    replace hom1 := hom1.then hs72
    replace hom2 := hom2.then hs72
    replace hT := hT.then hs72
    have hz72 := hs72.size
    refine ⟨(by repeat' first | exact trivial | exact Blk.cell hox.1 rfl | exact Blk.cells hox.1 rfl | exact Blk.cell hoq.1 rfl | exact Blk.cells hoq.1 rfl | exact Blk.cell hom1.1 rfl | exact Blk.cells hom1.1 rfl | exact Blk.cell hom2.1 rfl | exact Blk.cells hom2.1 rfl | assumption | refine all_keep ?_ | refine And.intro ?_ ?_), ?_⟩
    refine Dgq 18 524287 rfl (by kernel_rfl) rfl rfl (fun _ => (q_neF rfl rfl (by omega))) ?_
    refine Dq 19 1048575 rfl (by kernel_rfl) (fun _ => (q_pick_f rfl rfl)) ?_
    refine Dd (by kernel_rfl) (κ _ _ ?_)
    refine cw_false rfl ?_
    refine cw_skip ?_
    refine hK64 _ _ ?_
    refine cw_rs fun _ κ => ?_
    refine Sm rfl rfl ?_
    refine Sc 1 rfl (by kernel_rfl) rfl (by exact Blk.cells hox.1 rfl) ?_
    refine as_h rfl (h_buildO (e := 29) (size := 1) (zs := [.nilIface]) (cs := [_]) (by kernel_rfl) (by kernel_rfl) (by kernel_rfl) rfl hs72.sat rfl rfl fun be1 w73 hs73 hoe1 ee1 => ?_)
    replace hrp := hrp.mono hs73.le
    replace hrq := hrq.mono hs73.le
    replace hbp := hbp.then hs73
    replace hbq := hbq.then hs73
    replace hox := hox.then hs73
    replace hoq := hoq.then hs73
    replace hva := hva.mono hs73.le
    replace hvb := hvb.mono hs73.le
    replace hT := hT.then hs73
    have hz73 := hs73.size
    have hle1 := hoe1.1.lt
    have hqspn := w73.heap.size
    have hqtpn := hT.size
    refine as_h rfl (h_append (e := 29) (size := 1) (bytes := 16) (by kernel_rfl) hs73.sat hbp (Own.buf hoe1 (n := 1) (size := 1) rfl (by decide)).rd rfl rfl (mem_one onea) (by omega) rfl fun pv w74 hs74 hbn hbo => ?_)
    replace hrp := hrp.mono hs74.le
    replace hrq := hrq.mono hs74.le
    replace hbq := hbq.step hs74 (fun g2 hg h => by have h : gp = g2 := Option.some.inj h; have hg : gq = g2 := Option.some.inj hg; omega)
    replace hox := hox.step hs74 (fun h => by have h : gp = _ := Option.some.inj h; omega)
    replace hoq := hoq.step hs74 (fun h => by have h : gp = _ := Option.some.inj h; omega)
    replace hva := hva.mono hs74.le
    replace hvb := hvb.mono hs74.le
    obtain ⟨gpn, cpn, rfl, _⟩ := hbn.head (by omega)
    have hgpn : gpn = gp ∨ gpn = w73.heap.size := by
     rcases hbo with h | h
     · exact .inl (Option.some.inj h)
     · exact .inr (Option.some.inj h)
    clear hbo
    clear hbp; have hbp := hbn; clear hbn
    replace hT := hT.trans hs74 (fun b hb h => by have h : gp = b := Option.some.inj h; omega)
    have hz74 := hs74.size
    refine Sa rfl rfl ?_
    refine as_nil (κ _ _ ?_)
    refine cw_region fun _ κ => ?_
    refine Sm rfl rfl ?_
    refine Sc 1 rfl (by kernel_rfl) rfl (by exact Blk.cells hoq.1 rfl) ?_
    refine as_h rfl (h_buildO (e := 29) (size := 1) (zs := [.nilIface]) (cs := [_]) (by kernel_rfl) (by kernel_rfl) (by kernel_rfl) rfl hs74.sat rfl rfl fun be2 w75 hs75 hoe2 ee2 => ?_)
    replace hrp := hrp.mono hs75.le
    replace hrq := hrq.mono hs75.le
    replace hbp := hbp.then hs75
    replace hbq := hbq.then hs75
    replace hox := hox.then hs75
    replace hoq := hoq.then hs75
    replace hva := hva.mono hs75.le
    replace hvb := hvb.mono hs75.le
    replace hT := hT.then hs75
    have hz75 := hs75.size
    have hle2 := hoe2.1.lt
    have hqsqn := w75.heap.size
    have hqtqn := hT.size
    refine as_h rfl (h_append (e := 29) (size := 1) (bytes := 16) (by kernel_rfl) hs75.sat hbq (Own.buf hoe2 (n := 1) (size := 1) rfl (by decide)).rd rfl rfl (mem_one oneb) (by omega) rfl fun pv w76 hs76 hbn hbo => ?_)
    replace hrp := hrp.mono hs76.le
    replace hrq := hrq.mono hs76.le
    replace hbp := hbp.step hs76 (fun g2 hg h => by have h : gq = g2 := Option.some.inj h; have hg : gpn = g2 := Option.some.inj hg; omega)
    replace hox := hox.step hs76 (fun h => by have h : gq = _ := Option.some.inj h; omega)
    replace hoq := hoq.step hs76 (fun h => by have h : gq = _ := Option.some.inj h; omega)
    replace hva := hva.mono hs76.le
    replace hvb := hvb.mono hs76.le
    obtain ⟨gqn, cqn, rfl, _⟩ := hbn.head (by omega)
    have hgqn : gqn = gq ∨ gqn = w75.heap.size := by
     rcases hbo with h | h
     · exact .inl (Option.some.inj h)
     · exact .inr (Option.some.inj h)
    clear hbo
    clear hbq; have hbq := hbn; clear hbn
    replace hT := hT.trans hs76 (fun b hb h => by have h : gq = b := Option.some.inj h; omega)
    have hz76 := hs76.size
    refine Sa rfl rfl ?_
    refine as_nil (κ _ _ ?_)
    refine hK26 _ _ ?_
    refine cw_region fun _ κ => ?_
    refine Sm rfl rfl ?_
    refine as_q rfl rfl (q_addx rfl rfl (by omega) (by omega)) ?_
    refine Sa rfl rfl ?_
    refine as_nil (κ _ _ ?_)
    refine ⟨_, _, ?_, (.cons rfl (.cons rfl (.cons rfl (.cons rfl (.cons rfl (.cons rfl (.cons rfl (.cons rfl (.cons rfl (.cons rfl (.nil _))))))))))), i + 1, er2, D ++ [(b3, l3)], PP ++ [na], QQ ++ [nb], _, _, gpn, cpn, gqn, cqn, _, rfl, by omega, by simp [hDl], ?_, by omega, rfl, hT, hrp.snoc hva, hrq.snoc hvb, hbp, hbq, hox, hoq⟩
    · omega
    ·
     intro d hd
     rcases List.mem_append.1 hd with h | h
     · exact hD d h
     ·
      obtain rfl : d = (b3, l3) := by simpa using h
      exact hl3
  ·
   refine cw_exit ?_
   refine hK22 _ _ ?_
   refine cw_rs fun _ κ => ?_
   refine Sm rfl rfl ?_
   refine Sm rfl rfl ?_
   refine as_q rfl rfl (q_eqT rfl rfl (by omega)) ?_
   refine Sa rfl rfl ?_
   refine as_nil (κ _ _ ?_)
   refine cw_ret ?_
   exact ⟨_, (res_tmp rfl res_nil), rfl, hT.forget⟩
theorem heapKinds_walk {w : World} {M : Mem} {z y : Int} {va : Value} {n : Nat} {ts : List Act} (hs : Sat M w) (hr : RdM M 7 va n (ts.flatMap actc)) (hok : ActsOk M ts) (hl : ts.length = n) (hn : n ≤ 9223372036854775807) : Does Tryz.prog 6 #[va, .int .i64 z, .int .i64 y] w (fun v w' => v = .bool true ∧ Step Nope M w M w') := by
 obtain ⟨sa, ca, rfl, _, _⟩ := hr.slice
 exact heapKinds_g hs hr hok hl hn
end Go.Proofs.YtgcgjpfjjgalmaaGreat
/- Elements, and rows of them, among a law s arguments. -/
namespace Go.Proofs.YtgcgjpfjjgalmaaGreat
open Go Go.Eng Go.ChangeShapes Go.WideShapes Go.RowKit
theorem two_cells {α : Type} : ∀ {cs : List α}, cs.length = 2 → ∃ a b, cs = [a, b]
  | [a, b], _ => ⟨a, b, rfl⟩
/-- Numbers of the kind. -/
def ElOk (e : El) : Prop := (-9223372036854775808 ≤ e.1 ∧ e.1 ≤ 9223372036854775807) ∧ (-9223372036854775808 ≤ e.2 ∧ e.2 ≤ 9223372036854775807)
section
variable {H : Type} {enc : TypeId × Value → H} {W : World} {spare : Nat → Bool} {held : Bool} {v : Value} {x : DataW H × List MemPlace} {fuel : Nat} {d : DataW H} {p : List MemPlace}
theorem read_el {cs : List Value} (h : DataW.trod enc Tryz.prog W 0 spare held fuel 24 cs = some x) : ∃ e : El, cs = elc e ∧ ElOk e := by
  obtain ⟨xs, n, _, _, hl, hx, hf⟩ := DataW.trod_struct Tryz.underlying24 h
  rw [show Tryz.prog.cellsOf 24 = 2 by kernel_rfl] at hl
  obtain ⟨a, b, rfl⟩ := two_cells hl
  have h0 := hf 0 _ rfl
  have h1 := hf 1 _ rfl
  rw [show Tryz.prog.cellsOf _ = 1 by kernel_rfl] at h0 h1
  rw [List.getElem?_eq_getElem (by rw [hx]; decide)] at h0 h1
  obtain ⟨m, hm, wm⟩ := DataW.trod_int Tryz.underlying2 h0
  obtain ⟨k, hk, wk⟩ := DataW.trod_int Tryz.underlying2 h1
  cases hm
  cases hk
  exact ⟨(m, k), rfl, by simpa [Lit.wf, IntKind.min, IntKind.max, IntKind.signed, IntKind.bits] using wm.2, by simpa [Lit.wf, IntKind.min, IntKind.max, IntKind.signed, IntKind.bits] using wk.2⟩
end
end Go.Proofs.YtgcgjpfjjgalmaaGreat
/- What is done to heaps, among a law s arguments, part 1. -/
namespace Go.Proofs.YtgcgjpfjjgalmaaGreat
open Go Go.Eng Go.ChangeShapes Go.WideShapes Go.RowKit
section
variable {H : Type} {enc : TypeId × Value → H} {W : World} {spare : Nat → Bool} {held : Bool} {v : Value} {x : DataW H × List MemPlace} {fuel : Nat} {d : DataW H} {p : List MemPlace}
theorem seven_cells {α : Type} : ∀ {cs : List α}, cs.length = 7 → ∃ a b c d e f g, cs = [a, b, c, d, e, f, g]
 | [a, b, c, d, e, f, g], _ => ⟨a, b, c, d, e, f, g, rfl⟩
theorem read_els' (h : DataW.trod enc Tryz.prog W 0 spare held fuel 22 [v] = some x) : ∃ (n : Nat) (xs : List El), RdM (memOf W) 2 v n (els xs) := by
 obtain ⟨n, ys, _, h1, _⟩ := read_rows elc ElOk elc_length Tryz.underlying22 (show Tryz.prog.cellsOf 24 = 2 by kernel_rfl) (by decide) (fun _ cs x hx => read_el hx) h
 exact ⟨n, ys, h1⟩
theorem read_act {cs : List Value} (h : DataW.trod enc Tryz.prog W 0 spare held fuel 53 cs = some x) : ∃ t : Act, cs = actc t ∧ ActOk (memOf W) t := by
 obtain ⟨xs, n, _, _, hl, hx, hf⟩ := DataW.trod_struct Tryz.underlying53 h
 rw [show Tryz.prog.cellsOf 53 = 7 by kernel_rfl] at hl
 obtain ⟨c0, c1, c2, c3, c4, c5, c6, rfl⟩ := seven_cells hl
 have h0 := hf 0 _ rfl
 have h1 := hf 1 _ rfl
 have h2 := hf 2 _ rfl
 have h3 := hf 3 _ rfl
 have h4 := hf 4 _ rfl
 have h5 := hf 5 _ rfl
 rw [show Tryz.prog.cellsOf _ = 1 by kernel_rfl] at h0 h1 h2 h3 h5
 rw [show Tryz.prog.cellsOf _ = 2 by kernel_rfl] at h4
 rw [List.getElem?_eq_getElem (by rw [hx]; decide)] at h0 h1 h2 h3 h4 h5
 obtain ⟨m0, e0, k0⟩ := DataW.trod_int Tryz.underlying5 h0
 obtain ⟨m1, e1, k1⟩ := DataW.trod_int Tryz.underlying5 h1
 obtain ⟨m2, e2, k2⟩ := DataW.trod_int Tryz.underlying5 h2
 obtain ⟨m3, e3, _⟩ := DataW.trod_int Tryz.underlying3 h3
 obtain ⟨q, e4, _⟩ := read_el h4
 obtain ⟨nl, L, h6⟩ := read_els' (v := c6) h5
 cases e0
 cases e1
 cases e2
 cases e3
 cases e4
 refine ⟨⟨m0, m1, m2, m3, q, c6, nl, L⟩, rfl, ?_, ?_, ?_, h6⟩
 · simpa [Lit.wf, IntKind.min, IntKind.max, IntKind.signed, IntKind.bits] using k0.2
 · simpa [Lit.wf, IntKind.min, IntKind.max, IntKind.signed, IntKind.bits] using k1.2
 · simpa [Lit.wf, IntKind.min, IntKind.max, IntKind.signed, IntKind.bits] using k2.2
theorem read_acts (hv : ∃ a n c, v = .slice a n c) (h : DataW.Trod enc Tryz.prog W 0 spare held 49 v d p) : ∃ (n : Nat) (ts : List Act), RdM (memOf W) 7 v n (ts.flatMap actc) ∧ ActsOk (memOf W) ts ∧ ts.length = n ∧ n ≤ 9223372036854775807 := by
 obtain ⟨fuel, h⟩ := h
 obtain ⟨a, k, c, rfl⟩ := hv
 obtain ⟨n, ys, h0, h1, h2⟩ := read_rows actc (ActOk (memOf W)) actc_length Tryz.underlying49 (show Tryz.prog.cellsOf 53 = 7 by kernel_rfl) (by decide) (fun _ cs x hx => read_act hx) (v := .slice a k c) h
 refine ⟨n, ys, h1, h2, h0, ?_⟩
 obtain ⟨a', c', he, _⟩ := h1.slice
 cases he
 rcases DataW.trod_slice Tryz.underlying49 h with ⟨hcs, _⟩ | ⟨a2, len, cap, elems, rest, n2, _, hcs, _, _, hl, hm, _⟩
 ·
  cases hcs
  omega
 ·
  cases hcs
  have : c ≤ 9223372036854775807 := hm
  omega
end
end Go.Proofs.YtgcgjpfjjgalmaaGreat
