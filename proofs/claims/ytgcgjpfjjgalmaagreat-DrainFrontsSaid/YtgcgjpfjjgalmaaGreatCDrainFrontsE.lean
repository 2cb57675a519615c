/- Steps of the proof that the law of this claim answers true, part 5. No conditions. -/
import Derived.Test.YtgcgjpfjjgalmaaGreatCDrainFrontsD
/- Heaps whose others are heaps, part 1. -/
namespace Go.Proofs.YtgcgjpfjjgalmaaGreat
open Go Go.Eng
theorem bo_made {w : World} {M : Mem} {x : El} {ts : List (RT Bt)} {q : Option Addr} (hs : Sat M w) (ht : FRep 330 332 1 EncB M ts q) :
  Does Tryz.prog 223 #[.pointer none, .agg (elc x).toArray, .agg #[.pointer q]] w (fun v w' => ∃ q M', v = .agg #[.pointer q] ∧ Step Nope M w M' w' ∧ BRep 296 330 332 M' (.node x ts) q) := by
 have hT := Step.refl Nope hs
 refine fn_enter Tryz.func223 rfl (rs := [.cell 6 93]) rfl rfl rfl rfl ?_
 refine cw_rs fun _ κ => ?_
 refine as_h rfl (h_boxM hs rfl rfl fun b1 M1 w1 hs1 hb1 e1 => ?_)
 have ht:=ht.mono' encB_mono hs1.le
 have hT:=hT.then hs1
 have hz1 := hs1.size
 refine as_h rfl (h_boxM hs1.sat rfl rfl fun b2 M2 w2 hs2 hb2 e2 => ?_)
 have ht:=ht.mono' encB_mono hs2.le
 have hb1:=hs2.le _ _ hb1
 have hT:=hT.then hs2
 have hz2 := hs2.size
 have hqar := hT.size
 refine as_h rfl (h_allocO (z := (.agg #[(.pointer none)])) hs2.sat (by kernel_rfl) rfl fun br w3 hs3 hor er => ?_)
 have ht:=ht.mono' encB_mono hs3.le
 have hb1:=hs3.le _ _ hb1
 have hb2:=hs3.le _ _ hb2
 have hT:=hT.then hs3
 have hz3 := hs3.size
 have hlr := hor.1.lt
 refine as_nil (κ _ _ ?_)
 refine cw_rs fun _ κ => ?_
 refine Sm rfl rfl ?_
 refine as_h rfl (h_call (by kernel_rfl) rfl ?_)
 refine (m_made hs3.sat).mono ?_
 rintro _ w4 hs4
 have ht:=ht.mono' encB_mono hs4.le
 have hb1:=hs4.le _ _ hb1
 have hb2:=hs4.le _ _ hb2
 have hor:=hor.then hs4
 have hT:=hT.then hs4
 have hz4 := hs4.size
 refine as_nil (κ _ _ ?_)
 refine cw_rs fun _ κ => ?_
 refine Sc 2 rfl (by kernel_rfl) rfl (by exact BlkR.cells (hs4.sat _ _ _ hb1) rfl) ?_
 refine Sc 1 rfl (by kernel_rfl) rfl (by exact BlkR.cells (hs4.sat _ _ _ hb2) rfl) ?_
 refine as_q rfl rfl (q_build (zs := [(.int .i64 0), (.int .i64 0), (.pointer none)]) (places := [(0, 2), (2, 1)]) (cs := [_, _, _]) (by kernel_rfl) (by kernel_rfl) rfl rfl) ?_
 refine as_h rfl (h_boxM hs4.sat rfl rfl fun b5 M5 w5 hs5 hb5 e5 => ?_)
 have ht:=ht.mono' encB_mono hs5.le
 have hor:=hor.then hs5
 have hT:=hT.then hs5
 have hz5 := hs5.size
 refine as_q rfl rfl (q_build (zs := [(.pointer none)]) (places := [(0, 1)]) (cs := [_]) (by kernel_rfl) (by kernel_rfl) rfl rfl) ?_
 refine as_h0 (h_store hs5.sat hor rfl rfl rfl (by kernel_rfl) rfl rfl rfl fun w6 hs6 hn6 => ?_)
 have ht:=ht.mono' encB_mono hs6.le
 have hb5:=hs6.le _ _ hb5
 clear hor; have hor := hn6; clear hn6
 have hT:=hT.own hs6 (by omega)
 have hz6 := hs6.size
 refine as_nil (κ _ _ ?_)
 refine cw_ret ?_
 exact ⟨_, (res_cell rfl (loadVar_n (n := 1) (by kernel_rfl) (by exact Blk.cells hor.1 rfl)) res_nil), _, _, rfl, hT, brep_node.2 ⟨_, _, rfl, hb5, ht⟩⟩
theorem bo_min {w : World} {M : Mem} {x : El} {ts : List (RT Bt)} {q : Option Addr} (hs : Sat M w) (h : BRep 296 330 332 M (.node x ts) q) :
  Does Tryz.prog 219 #[.agg #[.pointer q], .pointer none] w (fun v w' => v = .tuple #[.agg (elc x).toArray, .bool true] ∧ Step Nope M w M w') := by
 have hT := Step.refl Nope hs
 obtain ⟨b, qs, rfl, hb, ht⟩ := brep_node.1 h
 refine fn_enter Tryz.func219 rfl (rs := [.cell 4 24, .tmp 5]) rfl rfl rfl rfl ?_
 refine cw_rs fun _ κ => ?_
 refine as_h rfl (h_boxM hs rfl rfl fun b1 M1 w1 hs1 hb1 e1 => ?_)
 have hb:=hs1.le _ _ hb
 have hT:=hT.then hs1
 have hz1 := hs1.size
 have hqar := hT.size
 refine as_h rfl (h_allocO (z := (.agg #[(.int .i64 0), (.int .i64 0)])) hs1.sat (by kernel_rfl) rfl fun br w2 hs2 hor er => ?_)
 have hb:=hs2.le _ _ hb
 have hb1:=hs2.le _ _ hb1
 have hT:=hT.then hs2
 have hz2 := hs2.size
 have hlr := hor.1.lt
 refine Sa rfl rfl ?_
 refine as_nil (κ _ _ ?_)
 refine cw_seq fun _ hK2 => ?_
 refine cw_rs fun _ κ => ?_
 refine Sf 0 rfl (by kernel_rfl) rfl ?_
 refine S1 rfl (by kernel_rfl) rfl (by exact BlkR.cell (hs2.sat _ _ _ hb1) rfl) ?_
 refine as_q rfl rfl (q_eqnil (by kernel_rfl) rfl) ?_
 refine as_nil (κ _ _ ?_)
 refine cw_false rfl ?_
 refine cw_skip ?_
 refine hK2 _ _ ?_
 refine cw_rs fun _ κ => ?_
 refine Sf 0 rfl (by kernel_rfl) rfl ?_
 refine S1 rfl (by kernel_rfl) rfl (by exact BlkR.cell (hs2.sat _ _ _ hb1) rfl) ?_
 refine as_q rfl rfl (q_nilp rfl) ?_
 refine Sf 0 rfl (by kernel_rfl) rfl ?_
 refine Sc 2 rfl (by kernel_rfl) rfl (by exact BlkR.cells (hs2.sat _ _ _ hb) rfl) ?_
 refine as_h0 (h_store hs2.sat hor rfl rfl rfl (by kernel_rfl) rfl rfl rfl fun w3 hs3 hn3 => ?_)
 clear hor; have hor := hn3; clear hn3
 have hT:=hT.own hs3 (by omega)
 have hz3 := hs3.size
 refine Sa rfl rfl ?_
 refine as_nil (κ _ _ ?_)
 refine cw_ret ?_
 exact ⟨_, (res_cell rfl (loadVar_n (n := 2) (by kernel_rfl) (by exact Blk.cells hor.1 rfl)) (res_tmp rfl res_nil)), rfl, hT.forget⟩
theorem bo_meld_a {w : World} {M : Mem} {u : Bt} {q2 : Option Addr} (hs : Sat M w) (h2 : BRep 296 330 332 M u q2) :
  Does Tryz.prog 218 #[.agg #[.pointer none], .pointer none, .agg #[.pointer q2]] w (fun v w' => ∃ q M', v = .agg #[.pointer q] ∧ Step Nope M w M' w' ∧ BRep 296 330 332 M' u q) := by
 have hT := Step.refl Nope hs
 refine fn_enter Tryz.func218 rfl (rs := [.cell 6 93]) rfl rfl rfl rfl ?_
 refine cw_rs fun _ κ => ?_
 refine as_h rfl (h_boxM hs rfl rfl fun b1 M1 w1 hs1 hb1 e1 => ?_)
 have h2:=h2.mono hs1.le
 have hT:=hT.then hs1
 have hz1 := hs1.size
 refine as_h rfl (h_boxM hs1.sat rfl rfl fun b2 M2 w2 hs2 hb2 e2 => ?_)
 have h2:=h2.mono hs2.le
 have hb1:=hs2.le _ _ hb1
 have hT:=hT.then hs2
 have hz2 := hs2.size
 have hqar := hT.size
 refine as_h rfl (h_allocO (z := (.agg #[(.pointer none)])) hs2.sat (by kernel_rfl) rfl fun br w3 hs3 hor er => ?_)
 have h2:=h2.mono hs3.le
 have hb1:=hs3.le _ _ hb1
 have hb2:=hs3.le _ _ hb2
 have hT:=hT.then hs3
 have hz3 := hs3.size
 have hlr := hor.1.lt
 refine as_nil (κ _ _ ?_)
 refine cw_seq fun _ hK2 => ?_
 refine cw_block ?_
 refine cw_rs fun _ κ => ?_
 refine Sf 0 rfl (by kernel_rfl) rfl ?_
 refine S1 rfl (by kernel_rfl) rfl (by exact BlkR.cell (hs3.sat _ _ _ hb1) rfl) ?_
 refine as_q rfl rfl (q_eqnil (by kernel_rfl) rfl) ?_
 refine Sa rfl rfl ?_
 refine as_nil (κ _ _ ?_)
 refine cw_true rfl ?_
 refine cw_rs fun _ κ => ?_
 refine Sc 1 rfl (by kernel_rfl) rfl (by exact BlkR.cells (hs3.sat _ _ _ hb2) rfl) ?_
 refine as_h0 (h_store hs3.sat hor rfl rfl rfl (by kernel_rfl) rfl rfl rfl fun w4 hs4 hn4 => ?_)
 have h2:=h2.mono hs4.le
 clear hor; have hor := hn4; clear hn4
 have hT:=hT.own hs4 (by omega)
 have hz4 := hs4.size
 refine as_nil (κ _ _ ?_)
 refine cw_ret ?_
 exact ⟨_, (res_cell rfl (loadVar_n (n := 1) (by kernel_rfl) (by exact Blk.cells hor.1 rfl)) res_nil), _, _, rfl, hT, h2⟩
theorem bo_meld_b {w : World} {M : Mem} {t : Bt} {a : Addr} (hs : Sat M w) (h : BRep 296 330 332 M t (some a)) :
  Does Tryz.prog 218 #[.agg #[.pointer (some a)], .pointer none, .agg #[.pointer none]] w (fun v w' => ∃ q M', v = .agg #[.pointer q] ∧ Step Nope M w M' w' ∧ BRep 296 330 332 M' t q) := by
 have hT := Step.refl Nope hs
 refine fn_enter Tryz.func218 rfl (rs := [.cell 6 93]) rfl rfl rfl rfl ?_
 refine cw_rs fun _ κ => ?_
 refine as_h rfl (h_boxM hs rfl rfl fun b1 M1 w1 hs1 hb1 e1 => ?_)
 have h:=h.mono hs1.le
 have hT:=hT.then hs1
 have hz1 := hs1.size
 refine as_h rfl (h_boxM hs1.sat rfl rfl fun b2 M2 w2 hs2 hb2 e2 => ?_)
 have h:=h.mono hs2.le
 have hb1:=hs2.le _ _ hb1
 have hT:=hT.then hs2
 have hz2 := hs2.size
 have hqar := hT.size
 refine as_h rfl (h_allocO (z := (.agg #[(.pointer none)])) hs2.sat (by kernel_rfl) rfl fun br w3 hs3 hor er => ?_)
 have h:=h.mono hs3.le
 have hb1:=hs3.le _ _ hb1
 have hb2:=hs3.le _ _ hb2
 have hT:=hT.then hs3
 have hz3 := hs3.size
 have hlr := hor.1.lt
 refine as_nil (κ _ _ ?_)
 refine cw_seq fun _ hK2 => ?_
 refine cw_block ?_
 refine cw_rs fun _ κ => ?_
 refine Sf 0 rfl (by kernel_rfl) rfl ?_
 refine S1 rfl (by kernel_rfl) rfl (by exact BlkR.cell (hs3.sat _ _ _ hb1) rfl) ?_
 refine as_q rfl rfl (q_eqnil (by kernel_rfl) rfl) ?_
 refine Sa rfl rfl ?_
 refine as_nil (κ _ _ ?_)
 refine cw_false rfl ?_
 refine cw_rs fun _ κ => ?_
 refine Sf 0 rfl (by kernel_rfl) rfl ?_
 refine S1 rfl (by kernel_rfl) rfl (by exact BlkR.cell (hs3.sat _ _ _ hb2) rfl) ?_
 refine as_q rfl rfl (q_eqnil (by kernel_rfl) rfl) ?_
 refine Sa rfl rfl ?_
 refine as_nil (κ _ _ ?_)
 refine cw_true rfl ?_
 refine cw_rs fun _ κ => ?_
 refine Sc 1 rfl (by kernel_rfl) rfl (by exact BlkR.cells (hs3.sat _ _ _ hb1) rfl) ?_
 refine as_h0 (h_store hs3.sat hor rfl rfl rfl (by kernel_rfl) rfl rfl rfl fun w4 hs4 hn4 => ?_)
 have h:=h.mono hs4.le
 clear hor; have hor := hn4; clear hn4
 have hT:=hT.own hs4 (by omega)
 have hz4 := hs4.size
 refine as_nil (κ _ _ ?_)
 refine cw_ret ?_
 exact ⟨_, (res_cell rfl (loadVar_n (n := 1) (by kernel_rfl) (by exact Blk.cells hor.1 rfl)) res_nil), _, _, rfl, hT, h⟩
theorem bo_meld_c {w : World} {M : Mem} {x y : El} {ts us : List (RT Bt)} {q q2 : Option Addr} (hs : Sat M w) (h : BRep 296 330 332 M (.node x ts) q) (h2 : BRep 296 330 332 M (.node y us) q2) (hz : RT.sizes ts < 1000000000) (hz2 : RT.sizes us < 1000000000) :
  Does Tryz.prog 218 #[.agg #[.pointer q], .pointer none, .agg #[.pointer q2]] w (fun v w' => ∃ q M', v = .agg #[.pointer q] ∧ Step Nope M w M' w' ∧ BRep 296 330 332 M' ((Bt.node x ts).meld (.node y us)) q) := by
 have hT := Step.refl Nope hs
 obtain ⟨b, qs, rfl, hb, ht⟩ := brep_node.1 h
 obtain ⟨bb, qs2, rfl, hbb, hu⟩ := brep_node.1 h2
 refine fn_enter Tryz.func218 rfl (rs := [.cell 6 93]) rfl rfl rfl rfl ?_
 refine cw_rs fun _ κ => ?_
 have hqah := hT.size
 refine as_h rfl (h_boxO hs rfl rfl fun bh w1 hs1 hoh eh => ?_)
 have hb:=hs1.le _ _ hb
 have ht:=ht.mono' encB_mono hs1.le
 have hbb:=hs1.le _ _ hbb
 have hu:=hu.mono' encB_mono hs1.le
 have h:=h.mono hs1.le
 have h2:=h2.mono hs1.le
 have hT:=hT.then hs1
 have hz1 := hs1.size
 have hlh := hoh.1.lt
 have hqao := hT.size
 refine as_h rfl (h_boxO hs1.sat rfl rfl fun bo w2 hs2 hoo eo => ?_)
 have hb:=hs2.le _ _ hb
 have ht:=ht.mono' encB_mono hs2.le
 have hbb:=hs2.le _ _ hbb
 have hu:=hu.mono' encB_mono hs2.le
 have h:=h.mono hs2.le
 have h2:=h2.mono hs2.le
 have hoh:=hoh.then hs2
 have hT:=hT.then hs2
 have hz2 := hs2.size
 have hlo := hoo.1.lt
 have hqar := hT.size
 refine as_h rfl (h_allocO (z := (.agg #[(.pointer none)])) hs2.sat (by kernel_rfl) rfl fun br w3 hs3 hor er => ?_)
 have hb:=hs3.le _ _ hb
 have ht:=ht.mono' encB_mono hs3.le
 have hbb:=hs3.le _ _ hbb
 have hu:=hu.mono' encB_mono hs3.le
 have h:=h.mono hs3.le
 have h2:=h2.mono hs3.le
 have hoh:=hoh.then hs3
 have hoo:=hoo.then hs3
 have hT:=hT.then hs3
 have hz3 := hs3.size
 have hlr := hor.1.lt
 refine as_nil (κ _ _ ?_)
 refine cw_seq fun _ hK2 => ?_
 refine cw_block ?_
 refine cw_rs fun _ κ => ?_
 refine Sf 0 rfl (by kernel_rfl) rfl ?_
 refine S1 rfl (by kernel_rfl) rfl (by exact Blk.cell hoh.1 rfl) ?_
 refine as_q rfl rfl (q_eqnil (by kernel_rfl) rfl) ?_
 refine Sa rfl rfl ?_
 refine as_nil (κ _ _ ?_)
 refine cw_false rfl ?_
 refine cw_rs fun _ κ => ?_
 refine Sf 0 rfl (by kernel_rfl) rfl ?_
 refine S1 rfl (by kernel_rfl) rfl (by exact Blk.cell hoo.1 rfl) ?_
 refine as_q rfl rfl (q_eqnil (by kernel_rfl) rfl) ?_
 refine Sa rfl rfl ?_
 refine as_nil (κ _ _ ?_)
 refine cw_false rfl ?_
 refine cw_skip ?_
 refine hK2 _ _ ?_
 refine cw_seq fun _ hK5 => ?_
 refine cw_dr (by kernel_rfl) fun _ κ => ?_
 have hs4 := Step.drew hs3.sat
 have hz4 := hs4.size
 have hb:=hs4.le _ _ hb
 have ht:=ht.mono' encB_mono hs4.le
 have hbb:=hs4.le _ _ hbb
 have hu:=hu.mono' encB_mono hs4.le
 have h:=h.mono hs4.le
 have h2:=h2.mono hs4.le
 have hoh:=hoh.then hs4
 have hoo:=hoo.then hs4
 have hor:=hor.then hs4
 have hT:=hT.then hs4
 refine Dm 0 1 rfl (by kernel_rfl) rfl ?_
 refine Df 1 3 0 rfl (by kernel_rfl) (by kernel_rfl) rfl ?_
 refine Dl1 2 7 rfl (by kernel_rfl) (by kernel_rfl) rfl (by exact Blk.cell hoo.1 rfl) ?_
 refine Dq 3 15 rfl (by kernel_rfl) (fun _ => (q_nilp rfl)) ?_
 refine Df 4 31 0 rfl (by kernel_rfl) (by kernel_rfl) rfl ?_
 refine Dlc 5 63 2 rfl (by kernel_rfl) (by kernel_rfl) rfl (by exact BlkR.cells (hs4.sat _ _ _ hbb) rfl) ?_
 refine Df 6 127 0 rfl (by kernel_rfl) (by kernel_rfl) rfl ?_
 refine Dl1 7 255 rfl (by kernel_rfl) (by kernel_rfl) rfl (by exact Blk.cell hoh.1 rfl) ?_
 refine Dq 8 511 rfl (by kernel_rfl) (fun _ => (q_nilp rfl)) ?_
 refine Df 9 1023 0 rfl (by kernel_rfl) (by kernel_rfl) rfl ?_
 refine Dlc 10 2047 2 rfl (by kernel_rfl) (by kernel_rfl) rfl (by exact BlkR.cells (hs4.sat _ _ _ hb) rfl) ?_
 refine Dh 11 4095 rfl (by kernel_rfl) (keep_sift (bs := [T,F,T,F]) (by kernel_rfl)) (h_call (by kernel_rfl) rfl ?_)
 refine (m_less (a := y) (b := x) hs4.sat).mono ?_
 rintro _ w5 ⟨rfl, hs5⟩
 have hb:=hs5.le _ _ hb
 have ht:=ht.mono' encB_mono hs5.le
 have hbb:=hs5.le _ _ hbb
 have hu:=hu.mono' encB_mono hs5.le
 have h:=h.mono hs5.le
 have h2:=h2.mono hs5.le
 have hoh:=hoh.then hs5
 have hoo:=hoo.then hs5
 have hor:=hor.then hs5
 have hT:=hT.then hs5
 have hz5 := hs5.size
 refine ⟨(by repeat' first | exact trivial | exact BlkR.cell (hs5.sat _ _ _ hb) rfl | exact BlkR.cells (hs5.sat _ _ _ hb) rfl | exact BlkR.cell (hs5.sat _ _ _ hbb) rfl | exact BlkR.cells (hs5.sat _ _ _ hbb) rfl | exact Blk.cell hoh.1 rfl | exact Blk.cells hoh.1 rfl | exact Blk.cell hoo.1 rfl | exact Blk.cells hoo.1 rfl | exact Blk.cell hor.1 rfl | exact Blk.cells hor.1 rfl | assumption | refine all_keep ?_ | refine And.intro ?_ ?_), ?_⟩
 refine Dd (by kernel_rfl) (κ _ _ ?_)
 refine cw_cond rfl (fun hc2 => ?_) (fun hc2 => ?_)
 ·
  skip
  refine cw_region fun _ κ => ?_
  refine Sc 1 rfl (by kernel_rfl) rfl (by exact Blk.cells hoo.1 rfl) ?_
  refine Sc 1 rfl (by kernel_rfl) rfl (by exact Blk.cells hoh.1 rfl) ?_
  refine as_h0 (h_store hs5.sat hoh rfl rfl rfl (by kernel_rfl) rfl rfl rfl fun w6 hs6 hn6 => ?_)
  have hb:=hs6.le _ _ hb
  have ht:=ht.mono' encB_mono hs6.le
  have hbb:=hs6.le _ _ hbb
  have hu:=hu.mono' encB_mono hs6.le
  have h:=h.mono hs6.le
  have h2:=h2.mono hs6.le
  have hoo:=hoo.step hs6 (fun h => by have h : _ = _ := h; omega)
  have hor:=hor.step hs6 (fun h => by have h : _ = _ := h; omega)
  clear hoh; have hoh := hn6; clear hn6
  have hT:=hT.own hs6 (by omega)
  have hz6 := hs6.size
  refine as_h0 (h_store hs6.sat hoo rfl rfl rfl (by kernel_rfl) rfl rfl rfl fun w7 hs7 hn7 => ?_)
  have hb:=hs7.le _ _ hb
  have ht:=ht.mono' encB_mono hs7.le
  have hbb:=hs7.le _ _ hbb
  have hu:=hu.mono' encB_mono hs7.le
  have h:=h.mono hs7.le
  have h2:=h2.mono hs7.le
  have hoh:=hoh.step hs7 (fun h => by have h : _ = _ := h; omega)
  have hor:=hor.step hs7 (fun h => by have h : _ = _ := h; omega)
  clear hoo; have hoo := hn7; clear hn7
  have hT:=hT.own hs7 (by omega)
  have hz7 := hs7.size
  refine as_nil (κ _ _ ?_)
  refine hK5 _ _ ?_
  refine cw_dr (by kernel_rfl) fun _ κ => ?_
  have hs8 := Step.drew hs7.sat
  have hz8 := hs8.size
  have hb:=hs8.le _ _ hb
  have ht:=ht.mono' encB_mono hs8.le
  have hbb:=hs8.le _ _ hbb
  have hu:=hu.mono' encB_mono hs8.le
  have h:=h.mono hs8.le
  have h2:=h2.mono hs8.le
  have hoh:=hoh.then hs8
  have hoo:=hoo.then hs8
  have hor:=hor.then hs8
  have hT:=hT.then hs8
  refine Dm 0 1 rfl (by kernel_rfl) rfl ?_
  refine Df 1 3 0 rfl (by kernel_rfl) (by kernel_rfl) rfl ?_
  refine Dl1 2 7 rfl (by kernel_rfl) (by kernel_rfl) rfl (by exact Blk.cell hoh.1 rfl) ?_
  refine Dq 3 15 rfl (by kernel_rfl) (fun _ => (q_nilp rfl)) ?_
  refine Df 4 31 0 rfl (by kernel_rfl) (by kernel_rfl) rfl ?_
  refine Dlc 5 63 2 rfl (by kernel_rfl) (by kernel_rfl) rfl (by exact BlkR.cells (hs8.sat _ _ _ hbb) rfl) ?_
  refine Df 6 127 0 rfl (by kernel_rfl) (by kernel_rfl) rfl ?_
  refine Dl1 7 255 rfl (by kernel_rfl) (by kernel_rfl) rfl (by exact Blk.cell hoh.1 rfl) ?_
  refine Dq 8 511 rfl (by kernel_rfl) (fun _ => (q_nilp rfl)) ?_
  refine Df 9 1023 2 rfl (by kernel_rfl) (by kernel_rfl) rfl ?_
  refine Dlc 10 2047 1 rfl (by kernel_rfl) (by kernel_rfl) rfl (by exact BlkR.cells (hs8.sat _ _ _ hbb) rfl) ?_
  refine Dm 11 4095 rfl (by kernel_rfl) rfl ?_
  refine Dlc 12 8191 1 rfl (by kernel_rfl) (by kernel_rfl) rfl (by exact Blk.cells hoo.1 rfl) ?_
  refine Dh 13 16383 rfl (by kernel_rfl) (keep_sift (bs := [T,T,F,F,F]) (by kernel_rfl)) (h_call (by kernel_rfl) rfl ?_)
  refine (sh_insert (x := .node x ts) (ts := us) hs8.sat (encB_iff.2 ⟨_, rfl, h⟩) hu (by omega)).mono ?_
  rintro _ w9 ⟨qi, Mi, rfl, hs9, hi⟩
  have hb:=hs9.le _ _ hb
  have ht:=ht.mono' encB_mono hs9.le
  have hbb:=hs9.le _ _ hbb
  have h:=h.mono hs9.le
  have h2:=h2.mono hs9.le
  have hoh:=hoh.then hs9
  have hoo:=hoo.then hs9
  have hor:=hor.then hs9
  have hT:=hT.then hs9
  have hz9 := hs9.size
  refine ⟨(by repeat' first | exact trivial | exact BlkR.cell (hs9.sat _ _ _ hb) rfl | exact BlkR.cells (hs9.sat _ _ _ hb) rfl | exact BlkR.cell (hs9.sat _ _ _ hbb) rfl | exact BlkR.cells (hs9.sat _ _ _ hbb) rfl | exact Blk.cell hoh.1 rfl | exact Blk.cells hoh.1 rfl | exact Blk.cell hoo.1 rfl | exact Blk.cells hoo.1 rfl | exact Blk.cell hor.1 rfl | exact Blk.cells hor.1 rfl | assumption | refine all_keep ?_ | refine And.intro ?_ ?_), ?_⟩
  refine Dh 14 32767 rfl (by kernel_rfl) (keep_sift (bs := [F,T,F]) (by kernel_rfl)) (h_call (by kernel_rfl) rfl ?_)
  refine (bo_made (x := y) hs9.sat hi).mono ?_
  rintro _ w10 ⟨qm, Mm, rfl, hs10, hm⟩
  have hb:=hs10.le _ _ hb
  have ht:=ht.mono' encB_mono hs10.le
  have hbb:=hs10.le _ _ hbb
  have h:=h.mono hs10.le
  have h2:=h2.mono hs10.le
  have hoh:=hoh.then hs10
  have hoo:=hoo.then hs10
  have hor:=hor.then hs10
  have hi:=hi.mono' encB_mono hs10.le
  have hT:=hT.then hs10
  have hz10 := hs10.size
  refine ⟨(by repeat' first | exact trivial | exact BlkR.cell (hs10.sat _ _ _ hb) rfl | exact BlkR.cells (hs10.sat _ _ _ hb) rfl | exact BlkR.cell (hs10.sat _ _ _ hbb) rfl | exact BlkR.cells (hs10.sat _ _ _ hbb) rfl | exact Blk.cell hoh.1 rfl | exact Blk.cells hoh.1 rfl | exact Blk.cell hoo.1 rfl | exact Blk.cells hoo.1 rfl | exact Blk.cell hor.1 rfl | exact Blk.cells hor.1 rfl | assumption | refine all_keep ?_ | refine And.intro ?_ ?_), ?_⟩
  refine Dh0 15 65535 rfl (by kernel_rfl) (keep_sift (bs := [T,T]) (by kernel_rfl)) (h_store hs10.sat hor rfl rfl rfl (by kernel_rfl) rfl rfl rfl fun w11 hs11 hn11 => ?_)
  have hb:=hs11.le _ _ hb
  have ht:=ht.mono' encB_mono hs11.le
  have hbb:=hs11.le _ _ hbb
  have h:=h.mono hs11.le
  have h2:=h2.mono hs11.le
  have hoh:=hoh.step hs11 (fun h => by have h : _ = _ := h; omega)
  have hoo:=hoo.step hs11 (fun h => by have h : _ = _ := h; omega)
  have hi:=hi.mono' encB_mono hs11.le
  have hm:=hm.mono hs11.le
  clear hor; have hor := hn11; clear hn11
  have hT:=hT.own hs11 (by omega)
  have hz11 := hs11.size
  refine ⟨trivial, ?_⟩
  refine Dd (by kernel_rfl) (κ _ _ ?_)
  refine cw_ret ?_
  rw [Bt.meld, if_pos hc2]
  exact ⟨_, (res_cell rfl (loadVar_n (n := 1) (by kernel_rfl) (by exact Blk.cells hor.1 rfl)) res_nil), _, _, rfl, hT, hm⟩
 ·
  skip
  refine cw_skip ?_
  refine hK5 _ _ ?_
  refine cw_dr (by kernel_rfl) fun _ κ => ?_
  have hs12 := Step.drew hs5.sat
  have hz12 := hs12.size
  have hb:=hs12.le _ _ hb
  have ht:=ht.mono' encB_mono hs12.le
  have hbb:=hs12.le _ _ hbb
  have h:=h.mono hs12.le
  have h2:=h2.mono hs12.le
  have hoh:=hoh.then hs12
  have hoo:=hoo.then hs12
  have hor:=hor.then hs12
  have hT:=hT.then hs12
  refine Dm 0 1 rfl (by kernel_rfl) rfl ?_
  refine Df 1 3 0 rfl (by kernel_rfl) (by kernel_rfl) rfl ?_
  refine Dl1 2 7 rfl (by kernel_rfl) (by kernel_rfl) rfl (by exact Blk.cell hoh.1 rfl) ?_
  refine Dq 3 15 rfl (by kernel_rfl) (fun _ => (q_nilp rfl)) ?_
  refine Df 4 31 0 rfl (by kernel_rfl) (by kernel_rfl) rfl ?_
  refine Dlc 5 63 2 rfl (by kernel_rfl) (by kernel_rfl) rfl (by exact BlkR.cells (hs12.sat _ _ _ hb) rfl) ?_
  refine Df 6 127 0 rfl (by kernel_rfl) (by kernel_rfl) rfl ?_
  refine Dl1 7 255 rfl (by kernel_rfl) (by kernel_rfl) rfl (by exact Blk.cell hoh.1 rfl) ?_
  refine Dq 8 511 rfl (by kernel_rfl) (fun _ => (q_nilp rfl)) ?_
  refine Df 9 1023 2 rfl (by kernel_rfl) (by kernel_rfl) rfl ?_
  refine Dlc 10 2047 1 rfl (by kernel_rfl) (by kernel_rfl) rfl (by exact BlkR.cells (hs12.sat _ _ _ hb) rfl) ?_
  refine Dm 11 4095 rfl (by kernel_rfl) rfl ?_
  refine Dlc 12 8191 1 rfl (by kernel_rfl) (by kernel_rfl) rfl (by exact Blk.cells hoo.1 rfl) ?_
  refine Dh 13 16383 rfl (by kernel_rfl) (keep_sift (bs := [T,T,F,F,F]) (by kernel_rfl)) (h_call (by kernel_rfl) rfl ?_)
  refine (sh_insert (x := .node y us) (ts := ts) hs12.sat (encB_iff.2 ⟨_, rfl, h2⟩) ht (by omega)).mono ?_
  rintro _ w13 ⟨qi, Mi, rfl, hs13, hi⟩
  have hb:=hs13.le _ _ hb
  have hbb:=hs13.le _ _ hbb
  have h:=h.mono hs13.le
  have hoh:=hoh.then hs13
  have hoo:=hoo.then hs13
  have hor:=hor.then hs13
  have hT:=hT.then hs13
  have hz13 := hs13.size
  refine ⟨(by repeat' first | exact trivial | exact BlkR.cell (hs13.sat _ _ _ hb) rfl | exact BlkR.cells (hs13.sat _ _ _ hb) rfl | exact BlkR.cell (hs13.sat _ _ _ hbb) rfl | exact BlkR.cells (hs13.sat _ _ _ hbb) rfl | exact Blk.cell hoh.1 rfl | exact Blk.cells hoh.1 rfl | exact Blk.cell hoo.1 rfl | exact Blk.cells hoo.1 rfl | exact Blk.cell hor.1 rfl | exact Blk.cells hor.1 rfl | assumption | refine all_keep ?_ | refine And.intro ?_ ?_), ?_⟩
  refine Dh 14 32767 rfl (by kernel_rfl) (keep_sift (bs := [F,T,F]) (by kernel_rfl)) (h_call (by kernel_rfl) rfl ?_)
  refine (bo_made (x := x) hs13.sat hi).mono ?_
  rintro _ w14 ⟨qm, Mm, rfl, hs14, hm⟩
  have hb:=hs14.le _ _ hb
  have hbb:=hs14.le _ _ hbb
  have h:=h.mono hs14.le
  have hoh:=hoh.then hs14
  have hoo:=hoo.then hs14
  have hor:=hor.then hs14
  have hT:=hT.then hs14
  have hz14 := hs14.size
  refine ⟨(by repeat' first | exact trivial | exact BlkR.cell (hs14.sat _ _ _ hb) rfl | exact BlkR.cells (hs14.sat _ _ _ hb) rfl | exact BlkR.cell (hs14.sat _ _ _ hbb) rfl | exact BlkR.cells (hs14.sat _ _ _ hbb) rfl | exact Blk.cell hoh.1 rfl | exact Blk.cells hoh.1 rfl | exact Blk.cell hoo.1 rfl | exact Blk.cells hoo.1 rfl | exact Blk.cell hor.1 rfl | exact Blk.cells hor.1 rfl | assumption | refine all_keep ?_ | refine And.intro ?_ ?_), ?_⟩
  refine Dh0 15 65535 rfl (by kernel_rfl) (keep_sift (bs := [T,T]) (by kernel_rfl)) (h_store hs14.sat hor rfl rfl rfl (by kernel_rfl) rfl rfl rfl fun w15 hs15 hn15 => ?_)
  have h:=h.mono hs15.le
  have hm:=hm.mono hs15.le
  clear hor; have hor := hn15; clear hn15
  have hT:=hT.own hs15 (by omega)
  have hz15 := hs15.size
  refine ⟨trivial, ?_⟩
  refine Dd (by kernel_rfl) (κ _ _ ?_)
  refine cw_ret ?_
  rw [Bt.meld, if_neg (by rw [hc2]; decide)]
  exact ⟨_, (res_cell rfl (loadVar_n (n := 1) (by kernel_rfl) (by exact Blk.cells hor.1 rfl)) res_nil), _, _, rfl, hT, hm⟩
theorem bo_meld {w : World} {M : Mem} {t u : Bt} {q q2 : Option Addr} (hs : Sat M w) (h : BRep 296 330 332 M t q) (h2 : BRep 296 330 332 M u q2) (hz : RT.sizes t.queue < 1000000000) (hz2 : RT.sizes u.queue < 1000000000) : Does Tryz.prog 218 #[.agg #[.pointer q], .pointer none, .agg #[.pointer q2]] w (fun v w' => ∃ q M', v = .agg #[.pointer q] ∧ Step Nope M w M' w' ∧ BRep 296 330 332 M' (t.meld u) q) := by
 cases t with
 | nil => obtain rfl := brep_nil.1 h; exact bo_meld_a hs h2
 | node x ts =>
  cases u with
  | nil => obtain rfl := brep_nil.1 h2; obtain ⟨b, _, rfl, _⟩ := brep_node.1 h; exact bo_meld_b hs h
  | node y us => exact bo_meld_c hs h h2 hz hz2
theorem bo_insert {w : World} {M : Mem} {x : El} {t : Bt} {q : Option Addr} (hs : Sat M w) (h : BRep 296 330 332 M t q) (hz : RT.sizes t.queue < 1000000000) :
  Does Tryz.prog 216 #[.agg #[.pointer q], .pointer none, .agg (elc x).toArray] w (fun v w' => ∃ q M', v = .agg #[.pointer q] ∧ Step Nope M w M' w' ∧ BRep 296 330 332 M' (Bt.insert x t) q) := by
 have hT := Step.refl Nope hs
 refine fn_enter Tryz.func216 rfl (rs := [.cell 6 93]) rfl rfl rfl rfl ?_
 refine cw_rs fun _ κ => ?_
 refine as_h rfl (h_boxM hs rfl rfl fun b1 M1 w1 hs1 hb1 e1 => ?_)
 have h:=h.mono hs1.le
 have hT:=hT.then hs1
 have hz1 := hs1.size
 refine as_h rfl (h_boxM hs1.sat rfl rfl fun b2 M2 w2 hs2 hb2 e2 => ?_)
 have h:=h.mono hs2.le
 have hb1:=hs2.le _ _ hb1
 have hT:=hT.then hs2
 have hz2 := hs2.size
 have hqar := hT.size
 refine as_h rfl (h_allocO (z := (.agg #[(.pointer none)])) hs2.sat (by kernel_rfl) rfl fun br w3 hs3 hor er => ?_)
 have h:=h.mono hs3.le
 have hb1:=hs3.le _ _ hb1
 have hb2:=hs3.le _ _ hb2
 have hT:=hT.then hs3
 have hz3 := hs3.size
 have hlr := hor.1.lt
 refine as_nil (κ _ _ ?_)
 refine cw_dr (by kernel_rfl) fun _ κ => ?_
 have hs4 := Step.drew hs3.sat
 have hz4 := hs4.size
 have h:=h.mono hs4.le
 have hb1:=hs4.le _ _ hb1
 have hb2:=hs4.le _ _ hb2
 have hor:=hor.then hs4
 have hT:=hT.then hs4
 refine Dm 0 1 rfl (by kernel_rfl) rfl ?_
 refine Dlc 1 3 2 rfl (by kernel_rfl) (by kernel_rfl) rfl (by exact BlkR.cells (hs4.sat _ _ _ hb2) rfl) ?_
 refine Dq 2 7 rfl (by kernel_rfl) (fun _ => (q_build (zs := [(.pointer none)]) (places := [(0, 1)]) (cs := [_]) (by kernel_rfl) (by kernel_rfl) rfl rfl)) ?_
 refine Dm 4 23 rfl (by kernel_rfl) rfl ?_
 refine Dlc 5 55 1 rfl (by kernel_rfl) (by kernel_rfl) rfl (by exact BlkR.cells (hs4.sat _ _ _ hb1) rfl) ?_
 refine Dh 3 63 rfl (by kernel_rfl) (keep_sift (bs := [F,T]) (by kernel_rfl)) (h_call (by kernel_rfl) rfl ?_)
 refine (bo_made (x := x) (ts := []) hs4.sat (frep_nil.2 rfl)).mono ?_
 rintro _ w5 ⟨qm, Mm, rfl, hs5, hm⟩
 have h:=h.mono hs5.le
 have hb1:=hs5.le _ _ hb1
 have hb2:=hs5.le _ _ hb2
 have hor:=hor.then hs5
 have hT:=hT.then hs5
 have hz5 := hs5.size
 refine ⟨(by repeat' first | exact trivial | exact BlkR.cell (hs5.sat _ _ _ hb1) rfl | exact BlkR.cells (hs5.sat _ _ _ hb1) rfl | exact BlkR.cell (hs5.sat _ _ _ hb2) rfl | exact BlkR.cells (hs5.sat _ _ _ hb2) rfl | exact Blk.cell hor.1 rfl | exact Blk.cells hor.1 rfl | assumption | refine all_keep ?_ | refine And.intro ?_ ?_), ?_⟩
 refine Dh 6 127 rfl (by kernel_rfl) (keep_sift (bs := [T]) (by kernel_rfl)) (h_call (by kernel_rfl) rfl ?_)
 refine (bo_meld hs5.sat hm h (by simp [Bt.queue, RT.sizes]) hz).mono ?_
 rintro _ w6 ⟨qn, Mn, rfl, hs6, hn⟩
 have h:=h.mono hs6.le
 have hor:=hor.then hs6
 have hT:=hT.then hs6
 have hz6 := hs6.size
 refine ⟨trivial, ?_⟩
 refine Dh0 7 255 rfl (by kernel_rfl) rfl (h_store hs6.sat hor rfl rfl rfl (by kernel_rfl) rfl rfl rfl fun w7 hs7 hn7 => ?_)
 have h:=h.mono hs7.le
 have hn:=hn.mono hs7.le
 clear hor; have hor := hn7; clear hn7
 have hT:=hT.own hs7 (by omega)
 have hz7 := hs7.size
 refine ⟨trivial, ?_⟩
 refine Dd (by kernel_rfl) (κ _ _ ?_)
 refine cw_ret ?_
 exact ⟨_, (res_cell rfl (loadVar_n (n := 1) (by kernel_rfl) (by exact Blk.cells hor.1 rfl)) res_nil), _, _, rfl, hT, hn⟩
end Go.Proofs.YtgcgjpfjjgalmaaGreat
/- All heaps behind a heap, part 1. -/
namespace Go.Proofs.YtgcgjpfjjgalmaaGreat
open Go Go.Eng
theorem th_aheadb {w : World} {M : Mem} {qx : Option Addr} {l : Value} {n : Nat} {bcs : List Value} (hs : Sat M w) (hl : RdM M 1 l n bcs) (h1 : ∀ x ∈ bcs, x.oneCell' = true) (hz : n ≤ 1000000000) :
  Does Tryz.prog 253 #[.agg #[.pointer qx], l] w (fun v w' => ∃ sa sc M', v = .slice sa (n + 1) sc ∧ Step Nope M w M' w' ∧ Buf w' M' 93 1 (.slice sa (n + 1) sc) (n + 1) ([.pointer qx] ++ bcs) ∧ ∀ g, (Value.slice sa (n + 1) sc).ownBlock = some g → w.heap.size ≤ g) := by
 have hT := Step.refl Nope hs
 obtain ⟨la, lc, rfl, _, _⟩ := hl.slice
 refine fn_enter Tryz.func253 rfl (rs := [.tmp 4]) rfl rfl rfl rfl ?_
 refine cw_rs fun _ κ => ?_
 refine as_h rfl (h_boxM hs rfl rfl fun b1 M1 w1 hs1 hb1 e1 => ?_)
 have hl:=hl.mono hs1.le
 have hT:=hT.then hs1
 have hz1 := hs1.size
 refine Sa rfl rfl ?_
 refine as_nil (κ _ _ ?_)
 refine cw_rs fun _ κ => ?_
 refine Sc 1 rfl (by kernel_rfl) rfl (by exact BlkR.cells (hs1.sat _ _ _ hb1) rfl) ?_
 refine as_h rfl (h_buildO (e := 93) (size := 1) (zs := [.pointer none]) (cs := [_]) (by kernel_rfl) (by kernel_rfl) (by kernel_rfl) rfl hs1.sat rfl rfl fun bB w2 hs2 hoB eB => ?_)
 have hl:=hl.mono hs2.le
 have hT:=hT.then hs2
 have hz2 := hs2.size
 refine Sm rfl rfl ?_
 have hbb := Own.buf hoB (n := 1) (size := 1) rfl (by decide)
 refine as_h rfl (h_append (e := 93) (size := 1) (bytes := 8) (by kernel_rfl) hs2.sat hbb (hl.rd hs2.sat) rfl rfl h1 (by omega) rfl fun sv w3 hs3 hbu hor => ?_)
 have hqb := hT.size
 have hz_ := hs3.size
 have hT:=hT.trans hs3 (fun k hk h => by have h2 : bB = k := Option.some.inj h; omega)
 have hfr : ∀ g, sv.ownBlock = some g → w.heap.size ≤ g := fun g hg => by
  rcases hor with h | h
  · rw [h] at hg; have h2 : bB = g := Option.some.inj hg; omega
  · rw [h] at hg; have h2 := Option.some.inj hg; omega
 obtain ⟨sa, sc, rfl, _, _⟩ := hbu.slice
 refine Sa rfl rfl ?_
 refine as_nil (κ _ _ ?_)
 refine cw_ret ?_
 rw [show 1 + n = n + 1 by omega] at hbu
 exact ⟨_, (res_tmp rfl res_nil), _, _, _, congrArg (fun k => Value.slice sa k sc) (Nat.add_comm 1 n), hT, hbu, fun g hg => hfr g (by cases sa <;> exact hg)⟩
def TAll (k : Nat) : Prop := ∀ (w : World) (M : Mem) (t : RT Bt) (q : Option Addr), Sat M w → TRep 332 1 EncB M t q → t.size < k → t.size ≤ 1000000000 →
  Does Tryz.prog 248 #[.pointer q] w (fun v w' => ∃ sa sc M' cs, v = .slice sa t.size sc ∧ Step Nope M w M' w' ∧ Buf w' M' 93 1 (.slice sa t.size sc) t.size cs ∧ EncL EncB 1 M' (RT.all t) cs ∧ ∀ g, (Value.slice sa t.size sc).ownBlock = some g → w.heap.size ≤ g)
theorem th_all_n {w : World} {M : Mem} {x : Bt} {bs : List Bt} {ks : List (RT Bt)} {q : Option Addr} {k : Nat} (ih : TAll k) (hs : Sat M w) (h : TRep 332 1 EncB M (.node x bs ks) q) (hk : (RT.node x bs ks).size < k + 1) (hz : (RT.node x bs ks).size ≤ 1000000000) :
  Does Tryz.prog 248 #[.pointer q] w (fun v w' => ∃ sa sc M' cs, v = .slice sa (1 + bs.length + RT.sizes ks) sc ∧ Step Nope M w M' w' ∧ Buf w' M' 93 1 (.slice sa (1 + bs.length + RT.sizes ks) sc) (1 + bs.length + RT.sizes ks) cs ∧ EncL EncB 1 M' (RT.all (.node x bs ks)) cs ∧ ∀ g, (Value.slice sa (1 + bs.length + RT.sizes ks) sc).ownBlock = some g → w.heap.size ≤ g) := by
 have hT := Step.refl Nope hs
 obtain ⟨b, xc, bv, bcs, kv, ka, rfl, hb, hx, hxl, hbs, hbl, hks, hkl⟩ := trep_node.1 h
 obtain ⟨qx, rfl, _⟩ := encB_iff.1 hx
 obtain ⟨ba, bk, rfl, _, _⟩ := hbs.slice
 obtain ⟨kp, kk, rfl, _, _⟩ := hks.slice
 have hksM := hks
 have hklM := hkl
 simp only [RT.size] at hk hz
 refine fn_enter Tryz.func248 rfl (rs := [.tmp 2]) rfl rfl rfl rfl ?_
 refine cw_rs fun _ κ => ?_
 refine Sa rfl rfl ?_
 refine as_nil (κ _ _ ?_)
 refine cw_seq fun _ hK2 => ?_
 refine cw_rs fun _ κ => ?_
 refine Sm rfl rfl ?_
 refine as_q rfl rfl (q_eqnil (by kernel_rfl) rfl) ?_
 refine as_nil (κ _ _ ?_)
 refine cw_false rfl ?_
 refine cw_skip ?_
 refine hK2 _ _ ?_
 refine cw_dr (by kernel_rfl) fun _ κ => ?_
 have hs1 := Step.drew hs
 have hz1 := hs1.size
 have hb:=hs1.le _ _ hb
 have hks:=hks.mono hs1.le
 have hkl:=hkl.mono' EncB.mono hs1.le
 have hbs:=hbs.mono hs1.le
 have hbl:=hbl.mono EncB.mono hs1.le
 have hx:=EncB.mono _ _ _ _ hs1.le hx
 have hT:=hT.then hs1
 refine Dm 0 1 rfl (by kernel_rfl) rfl ?_
 refine Dq 1 3 rfl (by kernel_rfl) (fun _ => (q_nilp rfl)) ?_
 refine Df 2 7 1 rfl (by kernel_rfl) (by kernel_rfl) rfl ?_
 refine Dlc 3 15 1 rfl (by kernel_rfl) (by kernel_rfl) rfl (by exact BlkR.cells (hs1.sat _ _ _ hb) rfl) ?_
 refine Dm 4 31 rfl (by kernel_rfl) rfl ?_
 refine Dq 5 63 rfl (by kernel_rfl) (fun _ => (q_nilp rfl)) ?_
 refine Df 6 127 2 rfl (by kernel_rfl) (by kernel_rfl) rfl ?_
 refine Dl1 7 255 rfl (by kernel_rfl) (by kernel_rfl) rfl (by exact BlkR.cell (hs1.sat _ _ _ hb) rfl) ?_
 refine Dh 8 511 rfl (by kernel_rfl) (keep_sift (bs := [T,T]) (by kernel_rfl)) (h_call (by kernel_rfl) rfl ?_)
 refine (th_aheadb (qx := qx) hs1.sat hbs (encB_one hbl) (by omega)).mono ?_
 rintro _ w2 ⟨sa, sc, Mn, rfl, hs2, hbu, hfr⟩
 have hsz_ := hT.size
 replace hfr : ∀ g, (Value.slice sa (bs.length + 1) sc).ownBlock = some g → w.heap.size ≤ g := fun g hg => Nat.le_trans hsz_ (hfr g hg)
 have hb:=hs2.le _ _ hb
 have hks:=hks.mono hs2.le
 have hkl:=hkl.mono' EncB.mono hs2.le
 have hbl:=hbl.mono EncB.mono hs2.le
 have hx:=EncB.mono _ _ _ _ hs2.le hx
 have hT:=hT.then hs2
 have hz2 := hs2.size
 refine ⟨trivial, ?_⟩
 refine Da 9 1023 rfl (by kernel_rfl) rfl ?_
 refine Dd (by kernel_rfl) (κ _ _ ?_)
 refine cw_seq fun _ hK5 => ?_
 refine cw_rs fun _ κ => ?_
 refine Sm rfl rfl ?_
 refine as_q rfl rfl (q_nilp rfl) ?_
 refine Sf 3 rfl (by kernel_rfl) rfl ?_
 refine S1 rfl (by kernel_rfl) rfl (by exact BlkR.cell (hs2.sat _ _ _ hb) rfl) ?_
 refine as_q rfl rfl (q_len (by kernel_rfl) rfl _) ?_
 refine Sm rfl rfl ?_
 refine as_nil (κ _ _ ?_)
 refine cw_block ?_
 refine cw_loop (fun mm l1 w1 => ∃ (i n : Nat) (sa : Option Addr) (sc : Nat) (M1 : Mem) (cs : List Value), mm = ks.length - i ∧ i ≤ ks.length ∧ n = 1 + bs.length + RT.sizes (ks.take i) ∧ l1 = [(20, .slice kp ks.length kk), (21, .int .i64 (ks.length : Nat)), (22, .int .i64 i), (3, .slice sa n sc)] ∧ Step Nope M w M1 w1 ∧ Buf w1 M1 93 1 (.slice sa n sc) n cs ∧ EncL EncB 1 M1 (x :: (bs ++ RT.alls (ks.take i))) cs ∧ (∀ g, (Value.slice sa n sc).ownBlock = some g → w.heap.size ≤ g)) (ks.length) [(20, .slice kp ks.length kk), (21, .int .i64 (ks.length : Nat)), (22, .int .i64 (0 : Nat)), (3, .slice sa (bs.length + 1) sc)] (.cons rfl (.cons rfl (.cons rfl (.cons rfl (.nil _))))) ?_ ?_
 ·
  refine ⟨0, bs.length + 1, sa, sc, Mn, _, rfl, Nat.zero_le _, by simp [RT.sizes]; omega, rfl, hT, hbu, ?_, hfr⟩
  simp only [List.take_zero, RT.alls, List.append_nil]
  exact ⟨_, _, rfl, rfl, hx, hbl⟩
 have hleM := hT.le
 have hks0 := hks
 have hkl0 := hkl
 clear hT hbu hfr
 rintro mm l1 w1 ⟨i, n, sa, sc, M1, cs, rfl, hi, hn, rfl, hT, hbu, hcl, hfr⟩
 have hks:=hksM.mono hT.le
 have hkl:=hklM.mono' EncB.mono hT.le
 refine cw_rs fun _ κ => ?_
 refine as_q rfl rfl (q_lt rfl rfl) ?_
 refine as_nil (κ _ _ ?_)
 refine cw_seq fun _ hK8 => ?_
 refine cw_cond rfl (fun hc1 => ?_) (fun hc1 => ?_)
 ·
  have hlt : i < ks.length := by have := of_decide_eq_true hc1; omega
  obtain ⟨k, hk⟩ : ∃ k, ks[i]? = some k := ⟨ks[i], by simp⟩
  obtain ⟨kq, hkq, hkr⟩ := hkl.get hk
  obtain ⟨kb, ko, rfl⟩ := hks.there (by omega)
  have hks1 := RT.sizes_take hk
  have hks2 := RT.sizes_take_le ks (i + 1)
  have hksl := RT.sizes_length ks
  refine cw_skip ?_
  refine hK8 _ _ ?_
  refine cw_seq fun _ hK9 => ?_
  refine cw_block ?_
  refine cw_rs fun _ κ => ?_
  refine as_q rfl rfl (q_indexAddr (e := 311) (size := 1) (by kernel_rfl) (by kernel_rfl) rfl rfl (by omega) (by omega)) ?_
  refine S1 rfl (by kernel_rfl) rfl (hks.cell hT.sat (u := .pointer kq) (by rw [show (i : Int).toNat * 1 = i from by omega]; simp [ptrs, hkq])) ?_
  refine Sa rfl rfl ?_
  refine as_nil (κ _ _ ?_)
  refine cw_region fun _ κ => ?_
  refine Sm rfl rfl ?_
  refine Sm rfl rfl ?_
  refine as_h rfl (h_call (by kernel_rfl) rfl ?_)
  refine (ih _ _ k _ hT.sat hkr (by omega) (by omega)).mono ?_
  rintro _ w3 ⟨ra, rc, Mr, ds, rfl, hs3, hrb, hrl, _⟩
  have hbu:=hbu.then hs3
  have hcl:=hcl.mono EncB.mono hs3.le
  have hT:=hT.then hs3
  have hz3 := hs3.size
  have hTq := hT.size
  refine as_h rfl (h_append (e := 93) (size := 1) (bytes := 8) (by kernel_rfl) hs3.sat hbu hrb.rd rfl rfl (encB_one hrl) (by omega) rfl fun sv w4 hs4 hbu2 hor => ?_)
  have hcl:=hcl.mono EncB.mono hs4.le
  have hrl:=hrl.mono EncB.mono hs4.le
  have hT:=hT.trans hs4 (fun k hk h => by have := hfr k h; omega)
  have hz_ := hs4.size
  have hfr2 : ∀ g, sv.ownBlock = some g → w.heap.size ≤ g := fun g hg => by
   rcases hor with h | h
   · rw [h] at hg; exact hfr g hg
   · rw [h] at hg; have h2 := Option.some.inj hg; omega
  obtain ⟨sva, svc, rfl, _, _⟩ := hbu2.slice
  refine Sa rfl rfl ?_
  refine as_nil (κ _ _ ?_)
  refine hK9 _ _ ?_
  refine cw_region fun _ κ => ?_
  refine as_q rfl rfl (q_addx rfl rfl (by omega) (by omega)) ?_
  refine Sm rfl rfl ?_
  refine as_nil (κ _ _ ?_)
  refine ⟨_, _, ?_, (.cons rfl (.cons rfl (.cons rfl (.cons rfl (.nil _))))), i + 1, _, _, _, _, _, rfl, by omega, ?_, rfl, hT, hbu2, ?_, hfr2⟩
  · omega
  · omega
  · rw [RT.alls_take hk, ← List.append_assoc, ← List.cons_append]; exact hcl.append hrl
 ·
  have hge : i = ks.length := by have := of_decide_eq_false hc1; omega
  refine cw_exit ?_
  refine hK5 _ _ ?_
  refine cw_rs fun _ κ => ?_
  refine Sm rfl rfl ?_
  refine Sa rfl rfl ?_
  refine as_nil (κ _ _ ?_)
  refine cw_ret ?_
  subst hge
  rw [List.take_length] at hn hcl
  subst hn
  exact ⟨_, (res_tmp rfl res_nil), _, _, _, _, rfl, hT, hbu, hcl, hfr⟩
theorem th_all_all : ∀ k, TAll k
 | 0 => fun _ _ _ _ _ _ h _ => absurd h (Nat.not_lt_zero _)
 | k + 1 => fun w M t q hs h hk hz => by
  cases t with
  | node x bs ks => exact th_all_n (th_all_all k) hs h hk hz
theorem th_all {w : World} {M : Mem} {t : RT Bt} {q : Option Addr} (hs : Sat M w) (h : TRep 332 1 EncB M t q) (hz : t.size ≤ 1000000000) :
  Does Tryz.prog 248 #[.pointer q] w (fun v w' => ∃ sa sc M' cs, v = .slice sa t.size sc ∧ Step Nope M w M' w' ∧ Buf w' M' 93 1 (.slice sa t.size sc) t.size cs ∧ EncL EncB 1 M' (RT.all t) cs ∧ ∀ g, (Value.slice sa t.size sc).ownBlock = some g → w.heap.size ≤ g) := th_all_all _ _ _ _ _ hs h (Nat.lt_succ_self _) hz
theorem sh_all {w : World} {M : Mem} {ts : List (RT Bt)} {q : Option Addr} (hs : Sat M w) (h : FRep 330 332 1 EncB M ts q) (hz : RT.sizes ts ≤ 1000000000) :
  Does Tryz.prog 228 #[.agg #[.pointer q]] w (fun v w' => ∃ sa sc M' cs, v = .slice sa (RT.sizes ts) sc ∧ Step Nope M w M' w' ∧ Buf w' M' 93 1 (.slice sa (RT.sizes ts) sc) (RT.sizes ts) cs ∧ EncL EncB 1 M' (RT.alls ts) cs ∧ ∀ g, (Value.slice sa (RT.sizes ts) sc).ownBlock = some g → w.heap.size ≤ g) := by
 have hT := Step.refl Nope hs
 obtain ⟨l, hc, hk, hll, hlz⟩ := h.len
 refine fn_enter Tryz.func228 rfl (rs := [.tmp 2]) rfl rfl rfl rfl ?_
 refine cw_rs fun _ κ => ?_
 refine as_h rfl (h_boxM hs rfl rfl fun b1 M1 w1 hs1 hb1 e1 => ?_)
 have hc:=hc.mono hs1.le
 have hk:=hk.mono' EncB.mono hs1.le
 have hT:=hT.then hs1
 have hz1 := hs1.size
 refine Sa rfl rfl ?_
 refine as_nil (κ _ _ ?_)
 refine cw_rs fun _ κ => ?_
 refine Sa rfl rfl ?_
 refine as_nil (κ _ _ ?_)
 refine cw_seq fun _ hK3 => ?_
 refine cw_rs fun _ κ => ?_
 refine Sf 0 rfl (by kernel_rfl) rfl ?_
 refine Sc 1 rfl (by kernel_rfl) rfl (by exact BlkR.cells (hs1.sat _ _ _ hb1) rfl) ?_
 refine as_h rfl (h_call (by kernel_rfl) rfl ?_)
 refine (ch_all hs1.sat hc (by omega)).mono ?_
 rintro av w2 ⟨Ma, hs2, hba, hfa⟩
 have hk:=hk.mono' EncB.mono hs2.le
 have hT:=hT.then hs2
 have hz2 := hs2.size
 obtain ⟨aa, ac, rfl, _, _⟩ := hba.slice
 have hTa := hT
 have hra0 := hba.rds
 refine as_q rfl rfl (q_len (by kernel_rfl) rfl _) ?_
 refine Sm rfl rfl ?_
 refine as_nil (κ _ _ ?_)
 refine cw_block ?_
 refine cw_loop (fun mm l1 w1 => ∃ (i n : Nat) (sa : Option Addr) (sc : Nat) (M1 : Mem) (cs : List Value), mm = l.length - i ∧ i ≤ l.length ∧ n = RT.sizes (ts.take i) ∧ l1 = [(8, .slice aa l.length ac), (9, .int .i64 (l.length : Nat)), (10, .int .i64 i), (3, .slice sa n sc)] ∧ Step Nope M w M1 w1 ∧ Step Nope Ma w2 M1 w1 ∧ Buf w1 M1 93 1 (.slice sa n sc) n cs ∧ EncL EncB 1 M1 (RT.alls (ts.take i)) cs ∧ (∀ g, (Value.slice sa n sc).ownBlock = some g → w2.heap.size ≤ g)) (l.length) [(8, .slice aa l.length ac), (9, .int .i64 (l.length : Nat)), (10, .int .i64 (0 : Nat)), (3, .slice none (0 : Nat) 0)] (.cons rfl (.cons rfl (.cons rfl (.cons rfl (.nil _))))) ?_ ?_
 ·
  exact ⟨0, 0, none, 0, Ma, [], rfl, Nat.zero_le _, by simp [RT.sizes], rfl, hT, Step.refl _ hs2.sat, Buf.nil _ _ _ _, rfl, fun g hg => by cases hg⟩
 have hkM := hk
 have hTs0 := hT.size
 clear hT hba
 rintro mm l1 w1 ⟨i, n, sa, sc, M1, cs, rfl, hi, hn, rfl, hT, hT2, hbu, hcl, hfr⟩
 have hk:=hkM.mono' EncB.mono hT2.le
 refine cw_rs fun _ κ => ?_
 refine as_q rfl rfl (q_lt rfl rfl) ?_
 refine as_nil (κ _ _ ?_)
 refine cw_seq fun _ hK6 => ?_
 refine cw_cond rfl (fun hc0 => ?_) (fun hc0 => ?_)
 ·
  have hlt : i < l.length := by have := of_decide_eq_true hc0; omega
  obtain ⟨k, hkk⟩ : ∃ k, ts[i]? = some k := ⟨ts[i]'(by omega), by simp⟩
  obtain ⟨kq, hkq, hkr⟩ := hk.get hkk
  obtain ⟨g, o, rfl⟩ := (hra0 _ _ hT2).there (by omega)
  have hks1 := RT.sizes_take hkk
  have hks2 := RT.sizes_take_le ts (i + 1)
  refine cw_skip ?_
  refine hK6 _ _ ?_
  refine cw_seq fun _ hK7 => ?_
  refine cw_block ?_
  refine cw_rs fun _ κ => ?_
  refine as_q rfl rfl (q_indexAddr (e := 311) (size := 1) (by kernel_rfl) (by kernel_rfl) rfl rfl (by omega) (by omega)) ?_
  refine S1 rfl (by kernel_rfl) rfl ((hra0 _ _ hT2).cell (u := .pointer kq) (j := (i : Int).toNat * 1) (by rw [show (i : Int).toNat * 1 = i from by omega]; simp [ptrs, hkq])) ?_
  refine Sa rfl rfl ?_
  refine as_nil (κ _ _ ?_)
  refine cw_region fun _ κ => ?_
  refine Sm rfl rfl ?_
  refine Sm rfl rfl ?_
  refine as_h rfl (h_call (by kernel_rfl) rfl ?_)
  refine (th_all hT.sat hkr (by omega)).mono ?_
  rintro _ w3 ⟨ra, rc, Mr, ds, rfl, hs3, hrb, hrl, _⟩
  have hk:=hk.mono' EncB.mono hs3.le
  have hbu:=hbu.then hs3
  have hcl:=hcl.mono EncB.mono hs3.le
  have hT:=hT.then hs3
  have hz3 := hs3.size
  have hT2:=hT2.then hs3
  have hTq := hT2.size
  refine as_h rfl (h_append (e := 93) (size := 1) (bytes := 8) (by kernel_rfl) hs3.sat hbu hrb.rd rfl rfl (encB_one hrl) (by omega) rfl fun sv w4 hs4 hbu2 hor => ?_)
  have hk:=hk.mono' EncB.mono hs4.le
  have hcl:=hcl.mono EncB.mono hs4.le
  have hrl:=hrl.mono EncB.mono hs4.le
  have hT:=hT.trans hs4 (fun k hk h => by have := hfr k h; omega)
  have hT2:=hT2.trans hs4 (fun k hk h => by have := hfr k h; omega)
  have hz_ := hs4.size
  have hfr2 : ∀ g, sv.ownBlock = some g → w2.heap.size ≤ g := fun g hg => by
   rcases hor with h | h
   · rw [h] at hg; exact hfr g hg
   · rw [h] at hg; have h2 := Option.some.inj hg; omega
  obtain ⟨sva, svc, rfl, _, _⟩ := hbu2.slice
  refine Sa rfl rfl ?_
  refine as_nil (κ _ _ ?_)
  refine hK7 _ _ ?_
  refine cw_region fun _ κ => ?_
  refine as_q rfl rfl (q_addx rfl rfl (by omega) (by omega)) ?_
  refine Sm rfl rfl ?_
  refine as_nil (κ _ _ ?_)
  refine ⟨_, _, ?_, (.cons rfl (.cons rfl (.cons rfl (.cons rfl (.nil _))))), i + 1, _, _, _, _, _, rfl, by omega, ?_, rfl, hT, hT2, hbu2, ?_, hfr2⟩
  · omega
  · omega
  · rw [RT.alls_take hkk]; exact hcl.append hrl
 ·
  have hge : i = l.length := by have := of_decide_eq_false hc0; omega
  refine cw_exit ?_
  refine hK3 _ _ ?_
  refine cw_rs fun _ κ => ?_
  refine Sm rfl rfl ?_
  refine Sa rfl rfl ?_
  refine as_nil (κ _ _ ?_)
  refine cw_ret ?_
  subst hge
  rw [List.take_of_length_le (by omega)] at hn hcl
  subst hn
  exact ⟨_, (res_tmp rfl res_nil), _, _, _, _, rfl, hT, hbu, hcl, fun g hg => Nat.le_trans hTs0 (hfr g hg)⟩
theorem cells_oneB {b o : Nat} {v : Value} {w : World} (h : w.cell? ⟨b, o, none⟩ = some v) : cellsAre b o 1 [v] w := ⟨rfl, fun j u hj => by
 cases j with
 | zero => cases hj; exact h
 | succ j => simp at hj⟩
end Go.Proofs.YtgcgjpfjjgalmaaGreat
/- Copies of rows, part 1. -/
namespace Go.Proofs.YtgcgjpfjjgalmaaGreat
open Go Go.Eng
theorem clke_some {w : World} {M : Mem} {n c : Nat} {p : Addr} {cs : List Value} (hs : Sat M w) (hr : Rds M w 1 (.slice (some p) n c) n cs) (h1 : ∀ x ∈ cs, x.oneCell' = true) (hn : n ≤ 1000000000) :
  Does Tryz.prog 138 #[.slice (some p) n c] w (fun v w' => Step Nope M w M w' ∧ Buf w' M 195 1 v n cs ∧ ∀ g, v.ownBlock = some g → w.heap.size ≤ g) := by
 have hT := Step.refl Nope hs
 refine fn_enter Tryz.func138 rfl (rs := [.tmp 2]) rfl rfl rfl rfl ?_
 refine cw_rs fun _ κ => ?_
 refine Sa rfl rfl ?_
 refine as_nil (κ _ _ ?_)
 refine cw_seq fun _ hK2 => ?_
 refine cw_rs fun _ κ => ?_
 refine Sm rfl rfl ?_
 refine as_q rfl rfl (q_eqsl (by kernel_rfl) rfl) ?_
 refine as_nil (κ _ _ ?_)
 refine cw_false rfl ?_
 refine cw_skip ?_
 refine hK2 _ _ ?_
 refine cw_rs fun _ κ => ?_
 refine as_h rfl (h_buildO (e := 195) (size := 1) (zs := []) (cs := []) (by kernel_rfl) (by kernel_rfl) (by kernel_rfl) rfl hs rfl rfl fun b1 w1 hs1 ho1 e1 => ?_)
 have hT:=hT.then hs1
 have hz1 := hs1.size
 have hl1 := ho1.1.lt
 refine Sm rfl rfl ?_
 have hbb := Own.buf ho1 (n := 0) (size := 1) rfl (by decide)
 have hqb := hT.size
 refine as_h rfl (h_append (e := 195) (size := 1) (bytes := 8) (by kernel_rfl) hs1.sat hbb (hr _ _ hT) rfl rfl h1 (by omega) rfl fun sv w2 hs2 hb hor => ?_)
 have hz_ := hs2.size
 have hfr : ∀ g, sv.ownBlock = some g → w.heap.size ≤ g := fun g hg => by
  rcases hor with h | h
  · rw [h] at hg; have h2 : b1 = g := Option.some.inj hg; omega
  · rw [h] at hg; have h2 := Option.some.inj hg; omega
 have hT:=hT.trans hs2 (fun k hk h => by have h2 : b1 = k := Option.some.inj h; omega)
 rw [Nat.zero_add, List.nil_append] at hb
 refine Sa rfl rfl ?_
 refine as_nil (κ _ _ ?_)
 refine cw_ret ?_
 exact ⟨_, (res_tmp rfl res_nil), hT, hb, hfr⟩
theorem clke_nil {w : World} {M : Mem} (hs : Sat M w) :
  Does Tryz.prog 138 #[.slice none 0 0] w (fun v w' => v = .slice none 0 0 ∧ Step Nope M w M w') := by
 have hT := Step.refl Nope hs
 refine fn_enter Tryz.func138 rfl (rs := [.tmp 2]) rfl rfl rfl rfl ?_
 refine cw_rs fun _ κ => ?_
 refine Sa rfl rfl ?_
 refine as_nil (κ _ _ ?_)
 refine cw_seq fun _ hK2 => ?_
 refine cw_rs fun _ κ => ?_
 refine Sm rfl rfl ?_
 refine as_q rfl rfl (q_eqsl (by kernel_rfl) rfl) ?_
 refine as_nil (κ _ _ ?_)
 refine cw_true rfl ?_
 refine cw_rs fun _ κ => ?_
 refine Sa rfl rfl ?_
 refine as_nil (κ _ _ ?_)
 refine cw_ret ?_
 exact ⟨_, (res_tmp rfl res_nil), rfl, hT⟩
theorem clke {w : World} {M : Mem} {n : Nat} {u : Value} {cs : List Value} (hs : Sat M w) (hr : Rds M w 1 u n cs) (h1 : ∀ x ∈ cs, x.oneCell' = true) (hn : n ≤ 1000000000) :
  Does Tryz.prog 138 #[u] w (fun v w' => Step Nope M w M w' ∧ Buf w' M 195 1 v n cs ∧ ∀ g, v.ownBlock = some g → w.heap.size ≤ g) := by
 obtain ⟨a, c, rfl, _, hnil⟩ := hr.slice hs
 cases a with
 | none =>
  obtain ⟨rfl, rfl⟩ := hnil rfl
  obtain rfl : cs = [] := List.eq_nil_of_length_eq_zero (by have := hr.len hs; omega)
  exact (clke_nil hs).mono fun v w' ⟨h1, h2⟩ => by
   subst h1
   exact ⟨h2, Buf.nil _ _ _ _, fun g hg => (by cases hg)⟩
 | some p => exact clke_some hs hr h1 hn
theorem clxe_some {w : World} {M : Mem} {n c : Nat} {p : Addr} {cs : List Value} (hs : Sat M w) (hr : Rds M w 2 (.slice (some p) n c) n cs) (h1 : ∀ x ∈ cs, x.oneCell' = true) (hn : n ≤ 1000000000) :
  Does Tryz.prog 38 #[.slice (some p) n c] w (fun v w' => Step Nope M w M w' ∧ Buf w' M 24 2 v n cs ∧ ∀ g, v.ownBlock = some g → w.heap.size ≤ g) := by
 have hT := Step.refl Nope hs
 refine fn_enter Tryz.func38 rfl (rs := [.tmp 2]) rfl rfl rfl rfl ?_
 refine cw_rs fun _ κ => ?_
 refine Sa rfl rfl ?_
 refine as_nil (κ _ _ ?_)
 refine cw_seq fun _ hK2 => ?_
 refine cw_rs fun _ κ => ?_
 refine Sm rfl rfl ?_
 refine as_q rfl rfl (q_eqsl (by kernel_rfl) rfl) ?_
 refine as_nil (κ _ _ ?_)
 refine cw_false rfl ?_
 refine cw_skip ?_
 refine hK2 _ _ ?_
 refine cw_rs fun _ κ => ?_
 refine as_h rfl (h_buildO (e := 24) (size := 2) (zs := []) (cs := []) (by kernel_rfl) (by kernel_rfl) (by kernel_rfl) rfl hs rfl rfl fun b1 w1 hs1 ho1 e1 => ?_)
 have hT:=hT.then hs1
 have hz1 := hs1.size
 have hl1 := ho1.1.lt
 refine Sm rfl rfl ?_
 have hbb := Own.buf ho1 (n := 0) (size := 2) rfl (by decide)
 have hqb := hT.size
 refine as_h rfl (h_append (e := 24) (size := 2) (bytes := 16) (by kernel_rfl) hs1.sat hbb (hr _ _ hT) rfl rfl h1 (by omega) rfl fun sv w2 hs2 hb hor => ?_)
 have hz_ := hs2.size
 have hfr : ∀ g, sv.ownBlock = some g → w.heap.size ≤ g := fun g hg => by
  rcases hor with h | h
  · rw [h] at hg; have h2 : b1 = g := Option.some.inj hg; omega
  · rw [h] at hg; have h2 := Option.some.inj hg; omega
 have hT:=hT.trans hs2 (fun k hk h => by have h2 : b1 = k := Option.some.inj h; omega)
 rw [Nat.zero_add, List.nil_append] at hb
 refine Sa rfl rfl ?_
 refine as_nil (κ _ _ ?_)
 refine cw_ret ?_
 exact ⟨_, (res_tmp rfl res_nil), hT, hb, hfr⟩
theorem clxe_nil {w : World} {M : Mem} (hs : Sat M w) :
  Does Tryz.prog 38 #[.slice none 0 0] w (fun v w' => v = .slice none 0 0 ∧ Step Nope M w M w') := by
 have hT := Step.refl Nope hs
 refine fn_enter Tryz.func38 rfl (rs := [.tmp 2]) rfl rfl rfl rfl ?_
 refine cw_rs fun _ κ => ?_
 refine Sa rfl rfl ?_
 refine as_nil (κ _ _ ?_)
 refine cw_seq fun _ hK2 => ?_
 refine cw_rs fun _ κ => ?_
 refine Sm rfl rfl ?_
 refine as_q rfl rfl (q_eqsl (by kernel_rfl) rfl) ?_
 refine as_nil (κ _ _ ?_)
 refine cw_true rfl ?_
 refine cw_rs fun _ κ => ?_
 refine Sa rfl rfl ?_
 refine as_nil (κ _ _ ?_)
 refine cw_ret ?_
 exact ⟨_, (res_tmp rfl res_nil), rfl, hT⟩
theorem clxe {w : World} {M : Mem} {n : Nat} {u : Value} {cs : List Value} (hs : Sat M w) (hr : Rds M w 2 u n cs) (h1 : ∀ x ∈ cs, x.oneCell' = true) (hn : n ≤ 1000000000) :
  Does Tryz.prog 38 #[u] w (fun v w' => Step Nope M w M w' ∧ Buf w' M 24 2 v n cs ∧ ∀ g, v.ownBlock = some g → w.heap.size ≤ g) := by
 obtain ⟨a, c, rfl, _, hnil⟩ := hr.slice hs
 cases a with
 | none =>
  obtain ⟨rfl, rfl⟩ := hnil rfl
  obtain rfl : cs = [] := List.eq_nil_of_length_eq_zero (by have := hr.len hs; omega)
  exact (clxe_nil hs).mono fun v w' ⟨h1, h2⟩ => by
   subst h1
   exact ⟨h2, Buf.nil _ _ _ _, fun g hg => (by cases hg)⟩
 | some p => exact clxe_some hs hr h1 hn
theorem te_kids {w : World} {M : Mem} {x : El} {bs : List El} {ks : List (RT El)} {q : Option Addr} (hs : Sat M w) (h : TRep 220 2 EncE M (.node x bs ks) q) (hz : RT.sizes ks ≤ 1000000000) :
  Does Tryz.prog 123 #[.pointer q] w (fun v w' => ∃ sa sc M' ka, v = .slice sa ks.length sc ∧ Step Nope M w M' w' ∧ Buf w' M' 195 1 (.slice sa ks.length sc) ks.length (ptrs ka) ∧ TReps 220 2 EncE M' ks ka ∧ ∀ g, (Value.slice sa ks.length sc).ownBlock = some g → w.heap.size ≤ g) := by
 have hT := Step.refl Nope hs
 obtain ⟨b, xc, bv, bcs, kv, ka, rfl, hb, hx, hxl, hbs, hbl, hks, hkl⟩ := trep_node.1 h
 obtain rfl := (show xc = elc _ from hx)
 obtain ⟨ba, bk, rfl, _, _⟩ := hbs.slice
 obtain ⟨kp, kk, rfl, _, _⟩ := hks.slice
 refine fn_enter Tryz.func123 rfl (rs := [.tmp 2]) rfl rfl rfl rfl ?_
 refine cw_rs fun _ κ => ?_
 refine Sa rfl rfl ?_
 refine as_nil (κ _ _ ?_)
 refine cw_seq fun _ hK2 => ?_
 refine cw_rs fun _ κ => ?_
 refine Sm rfl rfl ?_
 refine as_q rfl rfl (q_eqnil (by kernel_rfl) rfl) ?_
 refine as_nil (κ _ _ ?_)
 refine cw_false rfl ?_
 refine cw_skip ?_
 refine hK2 _ _ ?_
 refine cw_rs fun _ κ => ?_
 refine Sm rfl rfl ?_
 refine as_q rfl rfl (q_nilp rfl) ?_
 refine Sf 4 rfl (by kernel_rfl) rfl ?_
 refine S1 rfl (by kernel_rfl) rfl (by exact BlkR.cell (hs _ _ _ hb) rfl) ?_
 refine as_h rfl (h_call (by kernel_rfl) rfl ?_)
 refine (clke hs (hks.rds _) (ptrs_one _) (by have := RT.sizes_length ks; omega)).mono ?_
 rintro kv w1 ⟨hs1, hkb, hkf⟩
 have hT:=hT.then hs1
 have hz1 := hs1.size
 obtain ⟨ksa, ksc, rfl, _, _⟩ := hkb.slice
 refine Sa rfl rfl ?_
 refine as_nil (κ _ _ ?_)
 refine cw_ret ?_
 exact ⟨_, (res_tmp rfl res_nil), _, _, _, _, rfl, hT, hkb, hkl.mono' EncE.mono hT.le, hkf⟩
theorem clkh_some {w : World} {M : Mem} {n c : Nat} {p : Addr} {cs : List Value} (hs : Sat M w) (hr : Rds M w 1 (.slice (some p) n c) n cs) (h1 : ∀ x ∈ cs, x.oneCell' = true) (hn : n ≤ 1000000000) :
  Does Tryz.prog 256 #[.slice (some p) n c] w (fun v w' => Step Nope M w M w' ∧ Buf w' M 311 1 v n cs ∧ ∀ g, v.ownBlock = some g → w.heap.size ≤ g) := by
 have hT := Step.refl Nope hs
 refine fn_enter Tryz.func256 rfl (rs := [.tmp 2]) rfl rfl rfl rfl ?_
 refine cw_rs fun _ κ => ?_
 refine Sa rfl rfl ?_
 refine as_nil (κ _ _ ?_)
 refine cw_seq fun _ hK2 => ?_
 refine cw_rs fun _ κ => ?_
 refine Sm rfl rfl ?_
 refine as_q rfl rfl (q_eqsl (by kernel_rfl) rfl) ?_
 refine as_nil (κ _ _ ?_)
 refine cw_false rfl ?_
 refine cw_skip ?_
 refine hK2 _ _ ?_
 refine cw_rs fun _ κ => ?_
 refine as_h rfl (h_buildO (e := 311) (size := 1) (zs := []) (cs := []) (by kernel_rfl) (by kernel_rfl) (by kernel_rfl) rfl hs rfl rfl fun b1 w1 hs1 ho1 e1 => ?_)
 have hT:=hT.then hs1
 have hz1 := hs1.size
 have hl1 := ho1.1.lt
 refine Sm rfl rfl ?_
 have hbb := Own.buf ho1 (n := 0) (size := 1) rfl (by decide)
 have hqb := hT.size
 refine as_h rfl (h_append (e := 311) (size := 1) (bytes := 8) (by kernel_rfl) hs1.sat hbb (hr _ _ hT) rfl rfl h1 (by omega) rfl fun sv w2 hs2 hb hor => ?_)
 have hz_ := hs2.size
 have hfr : ∀ g, sv.ownBlock = some g → w.heap.size ≤ g := fun g hg => by
  rcases hor with h | h
  · rw [h] at hg; have h2 : b1 = g := Option.some.inj hg; omega
  · rw [h] at hg; have h2 := Option.some.inj hg; omega
 have hT:=hT.trans hs2 (fun k hk h => by have h2 : b1 = k := Option.some.inj h; omega)
 rw [Nat.zero_add, List.nil_append] at hb
 refine Sa rfl rfl ?_
 refine as_nil (κ _ _ ?_)
 refine cw_ret ?_
 exact ⟨_, (res_tmp rfl res_nil), hT, hb, hfr⟩
theorem clkh_nil {w : World} {M : Mem} (hs : Sat M w) :
  Does Tryz.prog 256 #[.slice none 0 0] w (fun v w' => v = .slice none 0 0 ∧ Step Nope M w M w') := by
 have hT := Step.refl Nope hs
 refine fn_enter Tryz.func256 rfl (rs := [.tmp 2]) rfl rfl rfl rfl ?_
 refine cw_rs fun _ κ => ?_
 refine Sa rfl rfl ?_
 refine as_nil (κ _ _ ?_)
 refine cw_seq fun _ hK2 => ?_
 refine cw_rs fun _ κ => ?_
 refine Sm rfl rfl ?_
 refine as_q rfl rfl (q_eqsl (by kernel_rfl) rfl) ?_
 refine as_nil (κ _ _ ?_)
 refine cw_true rfl ?_
 refine cw_rs fun _ κ => ?_
 refine Sa rfl rfl ?_
 refine as_nil (κ _ _ ?_)
 refine cw_ret ?_
 exact ⟨_, (res_tmp rfl res_nil), rfl, hT⟩
theorem clkh {w : World} {M : Mem} {n : Nat} {u : Value} {cs : List Value} (hs : Sat M w) (hr : Rds M w 1 u n cs) (h1 : ∀ x ∈ cs, x.oneCell' = true) (hn : n ≤ 1000000000) :
  Does Tryz.prog 256 #[u] w (fun v w' => Step Nope M w M w' ∧ Buf w' M 311 1 v n cs ∧ ∀ g, v.ownBlock = some g → w.heap.size ≤ g) := by
 obtain ⟨a, c, rfl, _, hnil⟩ := hr.slice hs
 cases a with
 | none =>
  obtain ⟨rfl, rfl⟩ := hnil rfl
  obtain rfl : cs = [] := List.eq_nil_of_length_eq_zero (by have := hr.len hs; omega)
  exact (clkh_nil hs).mono fun v w' ⟨h1, h2⟩ => by
   subst h1
   exact ⟨h2, Buf.nil _ _ _ _, fun g hg => (by cases hg)⟩
 | some p => exact clkh_some hs hr h1 hn
theorem clxh_some {w : World} {M : Mem} {n c : Nat} {p : Addr} {cs : List Value} (hs : Sat M w) (hr : Rds M w 1 (.slice (some p) n c) n cs) (h1 : ∀ x ∈ cs, x.oneCell' = true) (hn : n ≤ 1000000000) :
  Does Tryz.prog 258 #[.slice (some p) n c] w (fun v w' => Step Nope M w M w' ∧ Buf w' M 93 1 v n cs ∧ ∀ g, v.ownBlock = some g → w.heap.size ≤ g) := by
 have hT := Step.refl Nope hs
 refine fn_enter Tryz.func258 rfl (rs := [.tmp 2]) rfl rfl rfl rfl ?_
 refine cw_rs fun _ κ => ?_
 refine Sa rfl rfl ?_
 refine as_nil (κ _ _ ?_)
 refine cw_seq fun _ hK2 => ?_
 refine cw_rs fun _ κ => ?_
 refine Sm rfl rfl ?_
 refine as_q rfl rfl (q_eqsl (by kernel_rfl) rfl) ?_
 refine as_nil (κ _ _ ?_)
 refine cw_false rfl ?_
 refine cw_skip ?_
 refine hK2 _ _ ?_
 refine cw_rs fun _ κ => ?_
 refine as_h rfl (h_buildO (e := 93) (size := 1) (zs := []) (cs := []) (by kernel_rfl) (by kernel_rfl) (by kernel_rfl) rfl hs rfl rfl fun b1 w1 hs1 ho1 e1 => ?_)
 have hT:=hT.then hs1
 have hz1 := hs1.size
 have hl1 := ho1.1.lt
 refine Sm rfl rfl ?_
 have hbb := Own.buf ho1 (n := 0) (size := 1) rfl (by decide)
 have hqb := hT.size
 refine as_h rfl (h_append (e := 93) (size := 1) (bytes := 8) (by kernel_rfl) hs1.sat hbb (hr _ _ hT) rfl rfl h1 (by omega) rfl fun sv w2 hs2 hb hor => ?_)
 have hz_ := hs2.size
 have hfr : ∀ g, sv.ownBlock = some g → w.heap.size ≤ g := fun g hg => by
  rcases hor with h | h
  · rw [h] at hg; have h2 : b1 = g := Option.some.inj hg; omega
  · rw [h] at hg; have h2 := Option.some.inj hg; omega
 have hT:=hT.trans hs2 (fun k hk h => by have h2 : b1 = k := Option.some.inj h; omega)
 rw [Nat.zero_add, List.nil_append] at hb
 refine Sa rfl rfl ?_
 refine as_nil (κ _ _ ?_)
 refine cw_ret ?_
 exact ⟨_, (res_tmp rfl res_nil), hT, hb, hfr⟩
theorem clxh_nil {w : World} {M : Mem} (hs : Sat M w) :
  Does Tryz.prog 258 #[.slice none 0 0] w (fun v w' => v = .slice none 0 0 ∧ Step Nope M w M w') := by
 have hT := Step.refl Nope hs
 refine fn_enter Tryz.func258 rfl (rs := [.tmp 2]) rfl rfl rfl rfl ?_
 refine cw_rs fun _ κ => ?_
 refine Sa rfl rfl ?_
 refine as_nil (κ _ _ ?_)
 refine cw_seq fun _ hK2 => ?_
 refine cw_rs fun _ κ => ?_
 refine Sm rfl rfl ?_
 refine as_q rfl rfl (q_eqsl (by kernel_rfl) rfl) ?_
 refine as_nil (κ _ _ ?_)
 refine cw_true rfl ?_
 refine cw_rs fun _ κ => ?_
 refine Sa rfl rfl ?_
 refine as_nil (κ _ _ ?_)
 refine cw_ret ?_
 exact ⟨_, (res_tmp rfl res_nil), rfl, hT⟩
theorem clxh {w : World} {M : Mem} {n : Nat} {u : Value} {cs : List Value} (hs : Sat M w) (hr : Rds M w 1 u n cs) (h1 : ∀ x ∈ cs, x.oneCell' = true) (hn : n ≤ 1000000000) :
  Does Tryz.prog 258 #[u] w (fun v w' => Step Nope M w M w' ∧ Buf w' M 93 1 v n cs ∧ ∀ g, v.ownBlock = some g → w.heap.size ≤ g) := by
 obtain ⟨a, c, rfl, _, hnil⟩ := hr.slice hs
 cases a with
 | none =>
  obtain ⟨rfl, rfl⟩ := hnil rfl
  obtain rfl : cs = [] := List.eq_nil_of_length_eq_zero (by have := hr.len hs; omega)
  exact (clxh_nil hs).mono fun v w' ⟨h1, h2⟩ => by
   subst h1
   exact ⟨h2, Buf.nil _ _ _ _, fun g hg => (by cases hg)⟩
 | some p => exact clxh_some hs hr h1 hn
theorem th_kids {w : World} {M : Mem} {x : Bt} {bs : List Bt} {ks : List (RT Bt)} {q : Option Addr} (hs : Sat M w) (h : TRep 332 1 EncB M (.node x bs ks) q) (hz : RT.sizes ks ≤ 1000000000) :
  Does Tryz.prog 241 #[.pointer q] w (fun v w' => ∃ sa sc M' ka, v = .slice sa ks.length sc ∧ Step Nope M w M' w' ∧ Buf w' M' 311 1 (.slice sa ks.length sc) ks.length (ptrs ka) ∧ TReps 332 1 EncB M' ks ka ∧ ∀ g, (Value.slice sa ks.length sc).ownBlock = some g → w.heap.size ≤ g) := by
 have hT := Step.refl Nope hs
 obtain ⟨b, xc, bv, bcs, kv, ka, rfl, hb, hx, hxl, hbs, hbl, hks, hkl⟩ := trep_node.1 h
 obtain ⟨qx, rfl, _⟩ := encB_iff.1 hx
 obtain ⟨ba, bk, rfl, _, _⟩ := hbs.slice
 obtain ⟨kp, kk, rfl, _, _⟩ := hks.slice
 refine fn_enter Tryz.func241 rfl (rs := [.tmp 2]) rfl rfl rfl rfl ?_
 refine cw_rs fun _ κ => ?_
 refine Sa rfl rfl ?_
 refine as_nil (κ _ _ ?_)
 refine cw_seq fun _ hK2 => ?_
 refine cw_rs fun _ κ => ?_
 refine Sm rfl rfl ?_
 refine as_q rfl rfl (q_eqnil (by kernel_rfl) rfl) ?_
 refine as_nil (κ _ _ ?_)
 refine cw_false rfl ?_
 refine cw_skip ?_
 refine hK2 _ _ ?_
 refine cw_rs fun _ κ => ?_
 refine Sm rfl rfl ?_
 refine as_q rfl rfl (q_nilp rfl) ?_
 refine Sf 3 rfl (by kernel_rfl) rfl ?_
 refine S1 rfl (by kernel_rfl) rfl (by exact BlkR.cell (hs _ _ _ hb) rfl) ?_
 refine as_h rfl (h_call (by kernel_rfl) rfl ?_)
 refine (clkh hs (hks.rds _) (ptrs_one _) (by have := RT.sizes_length ks; omega)).mono ?_
 rintro kv w1 ⟨hs1, hkb, hkf⟩
 have hT:=hT.then hs1
 have hz1 := hs1.size
 obtain ⟨ksa, ksc, rfl, _, _⟩ := hkb.slice
 refine Sa rfl rfl ?_
 refine as_nil (κ _ _ ?_)
 refine cw_ret ?_
 exact ⟨_, (res_tmp rfl res_nil), _, _, _, _, rfl, hT, hkb, hkl.mono' EncB.mono hT.le, hkf⟩
end Go.Proofs.YtgcgjpfjjgalmaaGreat
/- Rows turned, and cut, part 1. -/
namespace Go.Proofs.YtgcgjpfjjgalmaaGreat
open Go Go.Eng
theorem tail_val {g cap i n : Nat} {z : Int} (h : z.toNat = i + 1) (h2 : i + 1 ≤ n) : Value.slice (if cap = z.toNat then some (⟨g, 0, none⟩ : Addr) else (some (⟨g, 0, none⟩ : Addr)).map (·.add (z.toNat * 1))) ((n : Int).toNat - z.toNat) (cap - z.toNat) = .slice (if cap = i + 1 then some ⟨g, 0, none⟩ else some ⟨g, i + 1, none⟩) (n - (i + 1)) (cap - (i + 1)) := by
 rw [h, Int.toNat_natCast, Nat.mul_one, Option.map_some, Addr.add_lit, Nat.zero_add]
theorem mid_val {g cap n a b : Nat} (ha : a = n - 1) (hb : b = n) (h : n ≤ cap ∧ 0 < n) : Value.slice (if cap = ((a : Nat) : Int).toNat then some (⟨g, 0, none⟩ : Addr) else (some (⟨g, 0, none⟩ : Addr)).map (·.add (((a : Nat) : Int).toNat * 1))) (((b : Nat) : Int).toNat - ((a : Nat) : Int).toNat) (cap - ((a : Nat) : Int).toNat) = .slice (some ⟨g, n - 1, none⟩) 1 (cap - (n - 1)) := by
 subst ha; subst hb
 rw [Int.toNat_natCast, Int.toNat_natCast, if_neg (by omega), Nat.mul_one, Option.map_some, Addr.add_lit, Nat.zero_add, show b - (b - 1) = 1 by omega]
theorem rve_some {w : World} {M : Mem} {g n cap : Nat} {l0 : List (Option Addr)} (hs : Sat M w) (hd : PtRow 195 w M g n cap l0) (hn : n ≤ 1000000000) :
  Does Tryz.prog 124 #[.slice (some ⟨g, 0, none⟩) n cap] w (fun _ w' => Step (Just g) M w M w' ∧ PtRow 195 w' M g n cap l0.reverse) := by
 have hT := Step.refl (Just g) hs
 have hl0 := hd.len
 refine fn_enter Tryz.func124 rfl (rs := []) rfl rfl rfl rfl ?_
 refine cw_rs fun _ κ => ?_
 refine Sm rfl rfl ?_
 refine as_q rfl rfl (q_len (by kernel_rfl) rfl _) ?_
 refine as_q rfl rfl (q_subx rfl rfl (by omega) (by omega)) ?_
 refine Sa rfl rfl ?_
 refine Sa rfl rfl ?_
 refine as_nil (κ _ _ ?_)
 refine cw_block ?_
 refine cw_loop (fun mm l w1 => ∃ (i : Nat) (z : Int) (l1 : List (Option Addr)), mm = n - i ∧ 2 * i ≤ n ∧ z = (n : Int) - 1 - i ∧ Rvd l0 l1 i ∧ l = [(0, .slice (some ⟨g, 0, none⟩) n cap), (2, .int .i64 i), (3, .int .i64 z)] ∧ Step (Just g) M w M w1 ∧ PtRow 195 w1 M g n cap l1) (n) [(0, .slice (some ⟨g, 0, none⟩) n cap), (2, .int .i64 (0 : Nat)), (3, .int .i64 ((n : Int) - 1))] (.cons rfl (.cons rfl (.cons rfl (.nil _)))) ?_ ?_
 ·
  exact ⟨0, (n : Int) - 1, l0, by omega, by omega, by omega, rvd_zero _, rfl, hT, hd⟩
 clear hT hd
 rintro mm l w1 ⟨i, z, l1, rfl, hi2, hz, hrv, rfl, hT, hd⟩
 have hl1 := hrv.1
 refine cw_seq fun _ hK2 => ?_
 refine cw_rs fun _ κ => ?_
 refine Sm rfl rfl ?_
 refine Sm rfl rfl ?_
 refine as_q rfl rfl (q_lt rfl rfl) ?_
 refine as_nil (κ _ _ ?_)
 refine cw_cond rfl (fun hc0 => ?_) (fun hc0 => ?_)
 ·
  have hc0:=of_decide_eq_true hc0
  obtain ⟨x, hx⟩ : ∃ x, l1[(i : Int).toNat]? = some x := ⟨l1[(i : Int).toNat]'(by omega), by simp⟩
  obtain ⟨y, hy⟩ : ∃ y, l1[z.toNat]? = some y := ⟨l1[z.toNat]'(by omega), by simp⟩
  refine cw_skip ?_
  refine hK2 _ _ ?_
  refine cw_seq fun _ hK4 => ?_
  refine cw_block ?_
  refine cw_drawn (by kernel_rfl) (by kernel_rfl) (by kernel_rfl) rfl rfl fun K5 hK5 => ?_
  have hs1 := Step.drew hT.sat
  have hd:=hd.then hs1
  have hT:=hT.then hs1
  refine Dm 0 1 rfl (by kernel_rfl) rfl ?_
  refine Dm 1 3 rfl (by kernel_rfl) rfl ?_
  refine Dm 2 7 rfl (by kernel_rfl) rfl ?_
  refine Dm 3 15 rfl (by kernel_rfl) rfl ?_
  refine Dm 4 31 rfl (by kernel_rfl) rfl ?_
  refine Dm 5 63 rfl (by kernel_rfl) rfl ?_
  refine Dq 6 127 rfl (by kernel_rfl) (fun _ => (q_indexAddr (e := 195) (size := 1) (by kernel_rfl) (by kernel_rfl) rfl rfl (by omega) (by omega))) ?_
  refine Dl1 7 255 rfl (by kernel_rfl) (by kernel_rfl) rfl (hd.cell (j := (z : Int).toNat * 1) (by rw [Nat.mul_one]; exact hy)) ?_
  refine Dm 8 511 rfl (by kernel_rfl) rfl ?_
  refine Dm 9 1023 rfl (by kernel_rfl) rfl ?_
  refine Dq 10 2047 rfl (by kernel_rfl) (fun _ => (q_indexAddr (e := 195) (size := 1) (by kernel_rfl) (by kernel_rfl) rfl rfl (by omega) (by omega))) ?_
  refine Dl1 11 4095 rfl (by kernel_rfl) (by kernel_rfl) rfl (hd.cell (j := (i : Int).toNat * 1) (by rw [Nat.mul_one]; exact hx)) ?_
  refine Dq 12 8191 rfl (by kernel_rfl) (fun _ => (q_indexAddr (e := 195) (size := 1) (by kernel_rfl) (by kernel_rfl) rfl rfl (by omega) (by omega))) ?_
  refine Dh0 13 16383 rfl (by kernel_rfl) (keep_sift (bs := [T,T]) (by kernel_rfl)) (h_storeP (i := (i : Int).toNat) (q := y) hs1.sat hd rfl rfl (by kernel_rfl) (by omega) fun w2 hs2 hd2 => ?_)
  have hT:=hT.also hs2
  clear hd; have hd := hd2; clear hd2
  refine ⟨trivial, ?_⟩
  refine Dq 14 32767 rfl (by kernel_rfl) (fun _ => (q_indexAddr (e := 195) (size := 1) (by kernel_rfl) (by kernel_rfl) rfl rfl (by omega) (by omega))) ?_
  refine Dh0 15 65535 rfl (by kernel_rfl) rfl (h_storeP (i := z.toNat) (q := x) hs2.sat hd rfl rfl (by kernel_rfl) (by omega) fun w3 hs3 hd3 => ?_)
  have hT:=hT.also hs3
  clear hd; have hd := hd3; clear hd3
  refine ⟨trivial, ?_⟩
  refine Dd (by kernel_rfl) (hK5 _ _ ?_)
  refine hK4 _ _ ?_
  refine cw_region fun _ κ => ?_
  refine Sm rfl rfl ?_
  refine as_q rfl rfl (q_addx rfl rfl (by omega) (by omega)) ?_
  refine Sm rfl rfl ?_
  refine as_q rfl rfl (q_subx rfl rfl (by omega) (by omega)) ?_
  refine Sa rfl rfl ?_
  refine Sa rfl rfl ?_
  refine as_nil (κ _ _ ?_)
  refine ⟨_, _, ?_, (.cons rfl (.cons rfl (.cons rfl (.nil _)))), i + 1, z - 1, _, rfl, by omega, by omega, ?_, rfl, hT, hd⟩
  · omega
  · exact rvd_step hrv (by omega) (by omega) hx hy
 ·
  have hc0:=of_decide_eq_false hc0
  refine cw_exit ?_
  rw [← rvd_done hrv (by omega) (by omega)]
  exact ⟨_, res_nil, hT, hd⟩
theorem rve_nil {w : World} {M : Mem} (hs : Sat M w) :
  Does Tryz.prog 124 #[.slice none 0 0] w (fun _ w' => Step Nope M w M w') := by
 have hT := Step.refl Nope hs
 refine fn_enter Tryz.func124 rfl (rs := []) rfl rfl rfl rfl ?_
 refine cw_rs fun _ κ => ?_
 refine Sm rfl rfl ?_
 refine as_q rfl rfl (q_len (by kernel_rfl) rfl _) ?_
 refine as_q rfl rfl (q_congr (q_subx rfl rfl (by omega) (by omega)) (v' := .int .i64 (-1)) rfl) ?_
 refine Sa rfl rfl ?_
 refine Sa rfl rfl ?_
 refine as_nil (κ _ _ ?_)
 refine cw_block ?_
 refine cw_loop (fun mm l w1 => l = [(0, .slice none 0 0), (2, .int .i64 0), (3, .int .i64 (-1))] ∧ Step Nope M w M w1) (0) [(0, .slice none 0 0), (2, .int .i64 0), (3, .int .i64 (-1))] (.cons rfl (.cons rfl (.cons rfl (.nil _)))) ?_ ?_
 ·
  exact ⟨rfl, hT⟩
 clear hT
 rintro mm l w1 ⟨rfl, hT⟩
 refine cw_seq fun _ hK2 => ?_
 refine cw_rs fun _ κ => ?_
 refine Sm rfl rfl ?_
 refine Sm rfl rfl ?_
 refine as_q rfl rfl (q_ltF rfl rfl (by omega)) ?_
 refine as_nil (κ _ _ ?_)
 refine cw_false rfl ?_
 refine cw_exit ?_
 exact ⟨_, res_nil, hT⟩
theorem rve {w : World} {M : Mem} {n : Nat} {v : Value} {l : List (Option Addr)} (hs : Sat M w) (hb : Buf w M 195 1 v n (ptrs l)) (hn : n ≤ 1000000000) :
  Does Tryz.prog 124 #[v] w (fun _ w' => Step (fun k => v.ownBlock = some k) M w M w' ∧ Buf w' M 195 1 v n (ptrs l.reverse)) := by
 have hll : l.length = n := by have := hb.1.1; rw [ptrs_length] at this; omega
 obtain ⟨⟨_, h2⟩, _⟩ := id hb
 rcases h2 with ⟨rfl, rfl⟩ | ⟨g, cap, cur, rfl, _⟩
 ·
  obtain rfl := List.eq_nil_of_length_eq_zero hll
  exact (rve_nil hs).mono fun _ w' h => ⟨h.any _, hb.then h⟩
 · exact (rve_some hs hb hn).mono fun _ w' ⟨h1, h2⟩ => ⟨h1.wide fun k _ h => by cases h; rfl, h2⟩
theorem dle {w : World} {M : Mem} {g n cap i : Nat} {l0 : List (Option Addr)} (hs : Sat M w) (hb : PtRow 195 w M g n cap l0) (hi : i < n) (hn : n ≤ 1000000000) :
  Does Tryz.prog 126 #[.slice (some ⟨g, 0, none⟩) n cap, .int .i64 (i : Nat), .int .i64 ((i : Nat) + 1)] w (fun v w' => v = .slice (some ⟨g, 0, none⟩) (n - 1) cap ∧ Step (Just g) M w M w' ∧ PtRow 195 w' M g (n - 1) cap (l0.eraseIdx i)) := by
 have hT := Step.refl (Just g) hs
 have hl0 := hb.len
 have hcap : n ≤ cap := by obtain ⟨_, _, h, h2, _⟩ := hb.slice; cases h; exact h2
 refine fn_enter Tryz.func126 rfl (rs := [.tmp 6]) rfl rfl rfl rfl ?_
 refine cw_rs fun _ κ => ?_
 refine Sa rfl rfl ?_
 refine as_nil (κ _ _ ?_)
 refine cw_rs fun _ κ => ?_
 refine Sm rfl rfl ?_
 refine Sm rfl rfl ?_
 refine Sm rfl rfl ?_
 refine Sm rfl rfl ?_
 refine as_q rfl rfl (q_len (by kernel_rfl) rfl _) ?_
 refine as_q rfl rfl (q_slice3 (e := 195) (size := 1) (by kernel_rfl) (by kernel_rfl) rfl rfl rfl rfl (by omega) (by omega) (by omega) (by omega)) ?_
 refine as_nil (κ _ _ ?_)
 refine cw_seq fun _ hK3 => ?_
 refine cw_rs fun _ κ => ?_
 refine Sm rfl rfl ?_
 refine Sm rfl rfl ?_
 refine as_q rfl rfl (q_eqF rfl rfl (by omega)) ?_
 refine as_nil (κ _ _ ?_)
 refine cw_false rfl ?_
 refine cw_skip ?_
 refine hK3 _ _ ?_
 refine cw_rs fun _ κ => ?_
 refine Sm rfl rfl ?_
 refine as_q rfl rfl (q_len (by kernel_rfl) rfl _) ?_
 refine Sa rfl rfl ?_
 refine as_nil (κ _ _ ?_)
 refine cw_dr (by kernel_rfl) fun _ κ => ?_
 have hs1 := Step.drew hs
 have hb:=hb.then hs1
 have hT:=hT.then hs1
 refine Dm 0 1 rfl (by kernel_rfl) rfl ?_
 refine Dm 1 3 rfl (by kernel_rfl) rfl ?_
 refine Dq 2 7 rfl (by kernel_rfl) (fun _ => (q_congr (q_slice (e := 195) (size := 1) (k := .i64) (by kernel_rfl) (by kernel_rfl) rfl rfl rfl (by omega) (by omega) (by omega)) (v' := .slice (some ⟨g, 0, none⟩) i cap) (front_val2 (by omega)))) ?_
 refine Dm 3 15 rfl (by kernel_rfl) rfl ?_
 refine Dm 4 31 rfl (by kernel_rfl) rfl ?_
 refine Dq 5 63 rfl (by kernel_rfl) (fun _ => (q_congr (q_slice (e := 195) (size := 1) (k' := .i64) (by kernel_rfl) (by kernel_rfl) rfl rfl rfl (by omega) (by omega) (by omega)) (v' := .slice (if cap = i + 1 then some ⟨g, 0, none⟩ else some ⟨g, i + 1, none⟩) (n - (i + 1)) (cap - (i + 1))) (tail_val (by omega) (by omega)))) ?_
 have hrd : Rd w.drew 1 (.slice (if cap = i + 1 then some ⟨g, 0, none⟩ else some ⟨g, i + 1, none⟩) (n - (i + 1)) (cap - (i + 1))) (n - (i + 1)) ((ptrs l0).drop (i + 1)) := by
  have h := hb.rd.sub ((i + 1 : Nat) : Int) (n : Int) (by omega) (by omega) (by omega)
  exact h.cast (tail_val (by omega) (by omega)) (by omega) (by rw [show (((i + 1 : Nat) : Int)).toNat * 1 = i + 1 by omega]; exact List.take_of_length_le (by simp [ptrs]; omega))
 refine Dh 6 127 rfl (by kernel_rfl) rfl (h_appendIn (g := g) (N := n) (cap := cap) (i := i) (m := n - (i + 1)) (cs := ptrs l0) (e := 195) (bytes := 8) (by kernel_rfl) hs1.sat hb hrd rfl rfl (fun x hx => ptrs_one _ x (List.mem_of_mem_drop hx)) (by omega) fun w2 hs2 hb2 => ?_)
 have hT:=hT.also hs2
 clear hb; have hb := hb2; clear hb2
 refine ⟨trivial, ?_⟩
 refine Da 7 255 rfl (by kernel_rfl) rfl ?_
 refine Dd (by kernel_rfl) (κ _ _ ?_)
 refine cw_rs fun _ κ => ?_
 refine Sm rfl rfl ?_
 refine Sm rfl rfl ?_
 refine as_q rfl rfl (q_len (by kernel_rfl) rfl _) ?_
 refine Sm rfl rfl ?_
 refine as_q rfl rfl (q_congr (q_slice (e := 195) (size := 1) (k := .i64) (k' := .i64) (by kernel_rfl) (by kernel_rfl) rfl rfl rfl (by omega) (by omega) (by omega)) (v' := .slice (some ⟨g, n - 1, none⟩) 1 (cap - (n - 1))) (mid_val (by omega) (by omega) (by omega))) ?_
 refine as_h0 (h_clearP (e := 195) (by kernel_rfl) (by kernel_rfl) hs2.sat hb rfl (by omega) fun w3 hs3 hb3 => ?_)
 have hT:=hT.also hs3
 clear hb; have hb := hb3; clear hb3
 refine as_nil (κ _ _ ?_)
 refine cw_rs fun _ κ => ?_
 refine Sm rfl rfl ?_
 refine Sa rfl rfl ?_
 refine as_nil (κ _ _ ?_)
 refine cw_ret ?_
 have hfin : Buf w3 M 195 1 (.slice (some ⟨g, 0, none⟩) (n - 1) cap) (n - 1) (ptrs (l0.eraseIdx i)) := by
  have h := hb.front1 (j := n - 1) (by omega)
  rw [List.take_append_of_le_length (by simp [ptrs]; omega), List.take_append_of_le_length (by simp [ptrs]; omega), List.take_take, Nat.min_self, ptrs_out (by omega) (by omega)] at h
  exact h
 exact ⟨_, (res_tmp rfl res_nil), by rw [show i + (n - (i + 1)) = n - 1 by omega]; rfl, hT, hfin⟩
theorem rvh_some {w : World} {M : Mem} {g n cap : Nat} {l0 : List (Option Addr)} (hs : Sat M w) (hd : PtRow 311 w M g n cap l0) (hn : n ≤ 1000000000) :
  Does Tryz.prog 242 #[.slice (some ⟨g, 0, none⟩) n cap] w (fun _ w' => Step (Just g) M w M w' ∧ PtRow 311 w' M g n cap l0.reverse) := by
 have hT := Step.refl (Just g) hs
 have hl0 := hd.len
 refine fn_enter Tryz.func242 rfl (rs := []) rfl rfl rfl rfl ?_
 refine cw_rs fun _ κ => ?_
 refine Sm rfl rfl ?_
 refine as_q rfl rfl (q_len (by kernel_rfl) rfl _) ?_
 refine as_q rfl rfl (q_subx rfl rfl (by omega) (by omega)) ?_
 refine Sa rfl rfl ?_
 refine Sa rfl rfl ?_
 refine as_nil (κ _ _ ?_)
 refine cw_block ?_
 refine cw_loop (fun mm l w1 => ∃ (i : Nat) (z : Int) (l1 : List (Option Addr)), mm = n - i ∧ 2 * i ≤ n ∧ z = (n : Int) - 1 - i ∧ Rvd l0 l1 i ∧ l = [(0, .slice (some ⟨g, 0, none⟩) n cap), (2, .int .i64 i), (3, .int .i64 z)] ∧ Step (Just g) M w M w1 ∧ PtRow 311 w1 M g n cap l1) (n) [(0, .slice (some ⟨g, 0, none⟩) n cap), (2, .int .i64 (0 : Nat)), (3, .int .i64 ((n : Int) - 1))] (.cons rfl (.cons rfl (.cons rfl (.nil _)))) ?_ ?_
 ·
  exact ⟨0, (n : Int) - 1, l0, by omega, by omega, by omega, rvd_zero _, rfl, hT, hd⟩
 clear hT hd
 rintro mm l w1 ⟨i, z, l1, rfl, hi2, hz, hrv, rfl, hT, hd⟩
 have hl1 := hrv.1
 refine cw_seq fun _ hK2 => ?_
 refine cw_rs fun _ κ => ?_
 refine Sm rfl rfl ?_
 refine Sm rfl rfl ?_
 refine as_q rfl rfl (q_lt rfl rfl) ?_
 refine as_nil (κ _ _ ?_)
 refine cw_cond rfl (fun hc0 => ?_) (fun hc0 => ?_)
 ·
  have hc0:=of_decide_eq_true hc0
  obtain ⟨x, hx⟩ : ∃ x, l1[(i : Int).toNat]? = some x := ⟨l1[(i : Int).toNat]'(by omega), by simp⟩
  obtain ⟨y, hy⟩ : ∃ y, l1[z.toNat]? = some y := ⟨l1[z.toNat]'(by omega), by simp⟩
  refine cw_skip ?_
  refine hK2 _ _ ?_
  refine cw_seq fun _ hK4 => ?_
  refine cw_block ?_
  refine cw_drawn (by kernel_rfl) (by kernel_rfl) (by kernel_rfl) rfl rfl fun K5 hK5 => ?_
  have hs1 := Step.drew hT.sat
  have hd:=hd.then hs1
  have hT:=hT.then hs1
  refine Dm 0 1 rfl (by kernel_rfl) rfl ?_
  refine Dm 1 3 rfl (by kernel_rfl) rfl ?_
  refine Dm 2 7 rfl (by kernel_rfl) rfl ?_
  refine Dm 3 15 rfl (by kernel_rfl) rfl ?_
  refine Dm 4 31 rfl (by kernel_rfl) rfl ?_
  refine Dm 5 63 rfl (by kernel_rfl) rfl ?_
  refine Dq 6 127 rfl (by kernel_rfl) (fun _ => (q_indexAddr (e := 311) (size := 1) (by kernel_rfl) (by kernel_rfl) rfl rfl (by omega) (by omega))) ?_
  refine Dl1 7 255 rfl (by kernel_rfl) (by kernel_rfl) rfl (hd.cell (j := (z : Int).toNat * 1) (by rw [Nat.mul_one]; exact hy)) ?_
  refine Dm 8 511 rfl (by kernel_rfl) rfl ?_
  refine Dm 9 1023 rfl (by kernel_rfl) rfl ?_
  refine Dq 10 2047 rfl (by kernel_rfl) (fun _ => (q_indexAddr (e := 311) (size := 1) (by kernel_rfl) (by kernel_rfl) rfl rfl (by omega) (by omega))) ?_
  refine Dl1 11 4095 rfl (by kernel_rfl) (by kernel_rfl) rfl (hd.cell (j := (i : Int).toNat * 1) (by rw [Nat.mul_one]; exact hx)) ?_
  refine Dq 12 8191 rfl (by kernel_rfl) (fun _ => (q_indexAddr (e := 311) (size := 1) (by kernel_rfl) (by kernel_rfl) rfl rfl (by omega) (by omega))) ?_
  refine Dh0 13 16383 rfl (by kernel_rfl) (keep_sift (bs := [T,T]) (by kernel_rfl)) (h_storeP (i := (i : Int).toNat) (q := y) hs1.sat hd rfl rfl (by kernel_rfl) (by omega) fun w2 hs2 hd2 => ?_)
  have hT:=hT.also hs2
  clear hd; have hd := hd2; clear hd2
  refine ⟨trivial, ?_⟩
  refine Dq 14 32767 rfl (by kernel_rfl) (fun _ => (q_indexAddr (e := 311) (size := 1) (by kernel_rfl) (by kernel_rfl) rfl rfl (by omega) (by omega))) ?_
  refine Dh0 15 65535 rfl (by kernel_rfl) rfl (h_storeP (i := z.toNat) (q := x) hs2.sat hd rfl rfl (by kernel_rfl) (by omega) fun w3 hs3 hd3 => ?_)
  have hT:=hT.also hs3
  clear hd; have hd := hd3; clear hd3
  refine ⟨trivial, ?_⟩
  refine Dd (by kernel_rfl) (hK5 _ _ ?_)
  refine hK4 _ _ ?_
  refine cw_region fun _ κ => ?_
  refine Sm rfl rfl ?_
  refine as_q rfl rfl (q_addx rfl rfl (by omega) (by omega)) ?_
  refine Sm rfl rfl ?_
  refine as_q rfl rfl (q_subx rfl rfl (by omega) (by omega)) ?_
  refine Sa rfl rfl ?_
  refine Sa rfl rfl ?_
  refine as_nil (κ _ _ ?_)
  refine ⟨_, _, ?_, (.cons rfl (.cons rfl (.cons rfl (.nil _)))), i + 1, z - 1, _, rfl, by omega, by omega, ?_, rfl, hT, hd⟩
  · omega
  · exact rvd_step hrv (by omega) (by omega) hx hy
 ·
  have hc0:=of_decide_eq_false hc0
  refine cw_exit ?_
  rw [← rvd_done hrv (by omega) (by omega)]
  exact ⟨_, res_nil, hT, hd⟩
theorem rvh_nil {w : World} {M : Mem} (hs : Sat M w) :
  Does Tryz.prog 242 #[.slice none 0 0] w (fun _ w' => Step Nope M w M w') := by
 have hT := Step.refl Nope hs
 refine fn_enter Tryz.func242 rfl (rs := []) rfl rfl rfl rfl ?_
 refine cw_rs fun _ κ => ?_
 refine Sm rfl rfl ?_
 refine as_q rfl rfl (q_len (by kernel_rfl) rfl _) ?_
 refine as_q rfl rfl (q_congr (q_subx rfl rfl (by omega) (by omega)) (v' := .int .i64 (-1)) rfl) ?_
 refine Sa rfl rfl ?_
 refine Sa rfl rfl ?_
 refine as_nil (κ _ _ ?_)
 refine cw_block ?_
 refine cw_loop (fun mm l w1 => l = [(0, .slice none 0 0), (2, .int .i64 0), (3, .int .i64 (-1))] ∧ Step Nope M w M w1) (0) [(0, .slice none 0 0), (2, .int .i64 0), (3, .int .i64 (-1))] (.cons rfl (.cons rfl (.cons rfl (.nil _)))) ?_ ?_
 ·
  exact ⟨rfl, hT⟩
 clear hT
 rintro mm l w1 ⟨rfl, hT⟩
 refine cw_seq fun _ hK2 => ?_
 refine cw_rs fun _ κ => ?_
 refine Sm rfl rfl ?_
 refine Sm rfl rfl ?_
 refine as_q rfl rfl (q_ltF rfl rfl (by omega)) ?_
 refine as_nil (κ _ _ ?_)
 refine cw_false rfl ?_
 refine cw_exit ?_
 exact ⟨_, res_nil, hT⟩
theorem rvh {w : World} {M : Mem} {n : Nat} {v : Value} {l : List (Option Addr)} (hs : Sat M w) (hb : Buf w M 311 1 v n (ptrs l)) (hn : n ≤ 1000000000) :
  Does Tryz.prog 242 #[v] w (fun _ w' => Step (fun k => v.ownBlock = some k) M w M w' ∧ Buf w' M 311 1 v n (ptrs l.reverse)) := by
 have hll : l.length = n := by have := hb.1.1; rw [ptrs_length] at this; omega
 obtain ⟨⟨_, h2⟩, _⟩ := id hb
 rcases h2 with ⟨rfl, rfl⟩ | ⟨g, cap, cur, rfl, _⟩
 ·
  obtain rfl := List.eq_nil_of_length_eq_zero hll
  exact (rvh_nil hs).mono fun _ w' h => ⟨h.any _, hb.then h⟩
 · exact (rvh_some hs hb hn).mono fun _ w' ⟨h1, h2⟩ => ⟨h1.wide fun k _ h => by cases h; rfl, h2⟩
theorem dlh {w : World} {M : Mem} {g n cap i : Nat} {l0 : List (Option Addr)} (hs : Sat M w) (hb : PtRow 311 w M g n cap l0) (hi : i < n) (hn : n ≤ 1000000000) :
  Does Tryz.prog 244 #[.slice (some ⟨g, 0, none⟩) n cap, .int .i64 (i : Nat), .int .i64 ((i : Nat) + 1)] w (fun v w' => v = .slice (some ⟨g, 0, none⟩) (n - 1) cap ∧ Step (Just g) M w M w' ∧ PtRow 311 w' M g (n - 1) cap (l0.eraseIdx i)) := by
 have hT := Step.refl (Just g) hs
 have hl0 := hb.len
 have hcap : n ≤ cap := by obtain ⟨_, _, h, h2, _⟩ := hb.slice; cases h; exact h2
 refine fn_enter Tryz.func244 rfl (rs := [.tmp 6]) rfl rfl rfl rfl ?_
 refine cw_rs fun _ κ => ?_
 refine Sa rfl rfl ?_
 refine as_nil (κ _ _ ?_)
 refine cw_rs fun _ κ => ?_
 refine Sm rfl rfl ?_
 refine Sm rfl rfl ?_
 refine Sm rfl rfl ?_
 refine Sm rfl rfl ?_
 refine as_q rfl rfl (q_len (by kernel_rfl) rfl _) ?_
 refine as_q rfl rfl (q_slice3 (e := 311) (size := 1) (by kernel_rfl) (by kernel_rfl) rfl rfl rfl rfl (by omega) (by omega) (by omega) (by omega)) ?_
 refine as_nil (κ _ _ ?_)
 refine cw_seq fun _ hK3 => ?_
 refine cw_rs fun _ κ => ?_
 refine Sm rfl rfl ?_
 refine Sm rfl rfl ?_
 refine as_q rfl rfl (q_eqF rfl rfl (by omega)) ?_
 refine as_nil (κ _ _ ?_)
 refine cw_false rfl ?_
 refine cw_skip ?_
 refine hK3 _ _ ?_
 refine cw_rs fun _ κ => ?_
 refine Sm rfl rfl ?_
 refine as_q rfl rfl (q_len (by kernel_rfl) rfl _) ?_
 refine Sa rfl rfl ?_
 refine as_nil (κ _ _ ?_)
 refine cw_dr (by kernel_rfl) fun _ κ => ?_
 have hs1 := Step.drew hs
 have hb:=hb.then hs1
 have hT:=hT.then hs1
 refine Dm 0 1 rfl (by kernel_rfl) rfl ?_
 refine Dm 1 3 rfl (by kernel_rfl) rfl ?_
 refine Dq 2 7 rfl (by kernel_rfl) (fun _ => (q_congr (q_slice (e := 311) (size := 1) (k := .i64) (by kernel_rfl) (by kernel_rfl) rfl rfl rfl (by omega) (by omega) (by omega)) (v' := .slice (some ⟨g, 0, none⟩) i cap) (front_val2 (by omega)))) ?_
 refine Dm 3 15 rfl (by kernel_rfl) rfl ?_
 refine Dm 4 31 rfl (by kernel_rfl) rfl ?_
 refine Dq 5 63 rfl (by kernel_rfl) (fun _ => (q_congr (q_slice (e := 311) (size := 1) (k' := .i64) (by kernel_rfl) (by kernel_rfl) rfl rfl rfl (by omega) (by omega) (by omega)) (v' := .slice (if cap = i + 1 then some ⟨g, 0, none⟩ else some ⟨g, i + 1, none⟩) (n - (i + 1)) (cap - (i + 1))) (tail_val (by omega) (by omega)))) ?_
 have hrd : Rd w.drew 1 (.slice (if cap = i + 1 then some ⟨g, 0, none⟩ else some ⟨g, i + 1, none⟩) (n - (i + 1)) (cap - (i + 1))) (n - (i + 1)) ((ptrs l0).drop (i + 1)) := by
  have h := hb.rd.sub ((i + 1 : Nat) : Int) (n : Int) (by omega) (by omega) (by omega)
  exact h.cast (tail_val (by omega) (by omega)) (by omega) (by rw [show (((i + 1 : Nat) : Int)).toNat * 1 = i + 1 by omega]; exact List.take_of_length_le (by simp [ptrs]; omega))
 refine Dh 6 127 rfl (by kernel_rfl) rfl (h_appendIn (g := g) (N := n) (cap := cap) (i := i) (m := n - (i + 1)) (cs := ptrs l0) (e := 311) (bytes := 8) (by kernel_rfl) hs1.sat hb hrd rfl rfl (fun x hx => ptrs_one _ x (List.mem_of_mem_drop hx)) (by omega) fun w2 hs2 hb2 => ?_)
 have hT:=hT.also hs2
 clear hb; have hb := hb2; clear hb2
 refine ⟨trivial, ?_⟩
 refine Da 7 255 rfl (by kernel_rfl) rfl ?_
 refine Dd (by kernel_rfl) (κ _ _ ?_)
 refine cw_rs fun _ κ => ?_
 refine Sm rfl rfl ?_
 refine Sm rfl rfl ?_
 refine as_q rfl rfl (q_len (by kernel_rfl) rfl _) ?_
 refine Sm rfl rfl ?_
 refine as_q rfl rfl (q_congr (q_slice (e := 311) (size := 1) (k := .i64) (k' := .i64) (by kernel_rfl) (by kernel_rfl) rfl rfl rfl (by omega) (by omega) (by omega)) (v' := .slice (some ⟨g, n - 1, none⟩) 1 (cap - (n - 1))) (mid_val (by omega) (by omega) (by omega))) ?_
 refine as_h0 (h_clearP (e := 311) (by kernel_rfl) (by kernel_rfl) hs2.sat hb rfl (by omega) fun w3 hs3 hb3 => ?_)
 have hT:=hT.also hs3
 clear hb; have hb := hb3; clear hb3
 refine as_nil (κ _ _ ?_)
 refine cw_rs fun _ κ => ?_
 refine Sm rfl rfl ?_
 refine Sa rfl rfl ?_
 refine as_nil (κ _ _ ?_)
 refine cw_ret ?_
 have hfin : Buf w3 M 311 1 (.slice (some ⟨g, 0, none⟩) (n - 1) cap) (n - 1) (ptrs (l0.eraseIdx i)) := by
  have h := hb.front1 (j := n - 1) (by omega)
  rw [List.take_append_of_le_length (by simp [ptrs]; omega), List.take_append_of_le_length (by simp [ptrs]; omega), List.take_take, Nat.min_self, ptrs_out (by omega) (by omega)] at h
  exact h
 exact ⟨_, (res_tmp rfl res_nil), by rw [show i + (n - (i + 1)) = n - 1 by omega]; rfl, hT, hfin⟩
end Go.Proofs.YtgcgjpfjjgalmaaGreat
/- Heaps without their least element, part 1. -/
namespace Go.Proofs.YtgcgjpfjjgalmaaGreat
open Go Go.Eng
theorem sizes_out {α : Type} {l : List (RT α)} {i : Nat} {k : RT α} (h : l[i]? = some k) : RT.sizes l = k.size + RT.sizes (l.eraseIdx i) := by
 have h1 := (alls_out h).length_eq
 have h2 := k.size_eq
 rw [RT.alls_length] at h1
 simp only [List.length_cons, List.length_append, RT.alls_length] at h1
 omega
theorem sizes_rev {α : Type} (l : List (RT α)) : RT.sizes l.reverse = RT.sizes l := by
 have h1 := (alls_rev l).length_eq
 rwa [RT.alls_length, RT.alls_length] at h1
theorem te_beside {w : World} {M : Mem} {x : El} {bs : List El} {ks : List (RT El)} {q : Option Addr} (hs : Sat M w) (h : TRep 220 2 EncE M (.node x bs ks) q) (hz : bs.length ≤ 1000000000) :
  Does Tryz.prog 193 #[.pointer q] w (fun v w' => ∃ sa sc M' cs, v = .slice sa bs.length sc ∧ Step Nope M w M' w' ∧ Buf w' M' 24 2 (.slice sa bs.length sc) bs.length cs ∧ EncL EncE 2 M' bs cs ∧ ∀ g, (Value.slice sa bs.length sc).ownBlock = some g → w.heap.size ≤ g) := by
 have hT := Step.refl Nope hs
 obtain ⟨b, xc, bv, bcs, kv, ka, rfl, hb, hx, hxl, hbs, hbl, hks, hkl⟩ := trep_node.1 h
 obtain rfl := (show xc = elc _ from hx)
 obtain ⟨ba, bk, rfl, _, _⟩ := hbs.slice
 obtain ⟨kp, kk, rfl, _, _⟩ := hks.slice
 refine fn_enter Tryz.func193 rfl (rs := [.tmp 2]) rfl rfl rfl rfl ?_
 refine cw_rs fun _ κ => ?_
 refine Sa rfl rfl ?_
 refine as_nil (κ _ _ ?_)
 refine cw_seq fun _ hK2 => ?_
 refine cw_rs fun _ κ => ?_
 refine Sm rfl rfl ?_
 refine as_q rfl rfl (q_eqnil (by kernel_rfl) rfl) ?_
 refine as_nil (κ _ _ ?_)
 refine cw_false rfl ?_
 refine cw_skip ?_
 refine hK2 _ _ ?_
 refine cw_rs fun _ κ => ?_
 refine Sm rfl rfl ?_
 refine as_q rfl rfl (q_nilp rfl) ?_
 refine Sf 3 rfl (by kernel_rfl) rfl ?_
 refine S1 rfl (by kernel_rfl) rfl (by exact BlkR.cell (hs _ _ _ hb) rfl) ?_
 refine as_h rfl (h_call (by kernel_rfl) rfl ?_)
 refine (clxe hs (hbs.rds _) (by obtain rfl := encE_list.1 hbl; exact els_one _) hz).mono ?_
 rintro kv w1 ⟨hs1, hkb, hkf⟩
 have hT:=hT.then hs1
 have hz1 := hs1.size
 obtain ⟨ksa, ksc, rfl, _, _⟩ := hkb.slice
 refine Sa rfl rfl ?_
 refine as_nil (κ _ _ ?_)
 refine cw_ret ?_
 exact ⟨_, (res_tmp rfl res_nil), _, _, _, _, rfl, hT, hkb, hbl.mono EncE.mono hT.le, hkf⟩
theorem th_beside {w : World} {M : Mem} {x : Bt} {bs : List Bt} {ks : List (RT Bt)} {q : Option Addr} (hs : Sat M w) (h : TRep 332 1 EncB M (.node x bs ks) q) (hz : bs.length ≤ 1000000000) :
  Does Tryz.prog 247 #[.pointer q] w (fun v w' => ∃ sa sc M' cs, v = .slice sa bs.length sc ∧ Step Nope M w M' w' ∧ Buf w' M' 93 1 (.slice sa bs.length sc) bs.length cs ∧ EncL EncB 1 M' bs cs ∧ ∀ g, (Value.slice sa bs.length sc).ownBlock = some g → w.heap.size ≤ g) := by
 have hT := Step.refl Nope hs
 obtain ⟨b, xc, bv, bcs, kv, ka, rfl, hb, hx, hxl, hbs, hbl, hks, hkl⟩ := trep_node.1 h
 obtain ⟨qx, rfl, _⟩ := encB_iff.1 hx
 obtain ⟨ba, bk, rfl, _, _⟩ := hbs.slice
 obtain ⟨kp, kk, rfl, _, _⟩ := hks.slice
 refine fn_enter Tryz.func247 rfl (rs := [.tmp 2]) rfl rfl rfl rfl ?_
 refine cw_rs fun _ κ => ?_
 refine Sa rfl rfl ?_
 refine as_nil (κ _ _ ?_)
 refine cw_seq fun _ hK2 => ?_
 refine cw_rs fun _ κ => ?_
 refine Sm rfl rfl ?_
 refine as_q rfl rfl (q_eqnil (by kernel_rfl) rfl) ?_
 refine as_nil (κ _ _ ?_)
 refine cw_false rfl ?_
 refine cw_skip ?_
 refine hK2 _ _ ?_
 refine cw_rs fun _ κ => ?_
 refine Sm rfl rfl ?_
 refine as_q rfl rfl (q_nilp rfl) ?_
 refine Sf 2 rfl (by kernel_rfl) rfl ?_
 refine S1 rfl (by kernel_rfl) rfl (by exact BlkR.cell (hs _ _ _ hb) rfl) ?_
 refine as_h rfl (h_call (by kernel_rfl) rfl ?_)
 refine (clxh hs (hbs.rds _) (encB_one hbl) hz).mono ?_
 rintro kv w1 ⟨hs1, hkb, hkf⟩
 have hT:=hT.then hs1
 have hz1 := hs1.size
 obtain ⟨ksa, ksc, rfl, _, _⟩ := hkb.slice
 refine Sa rfl rfl ?_
 refine as_nil (κ _ _ ?_)
 refine cw_ret ?_
 exact ⟨_, (res_tmp rfl res_nil), _, _, _, _, rfl, hT, hkb, hbl.mono EncB.mono hT.le, hkf⟩
theorem b_pop {w : World} {M : Mem} {ts : List (RT El)} {x : El} {bs : List El} {ks : List (RT El)} {q : Option Addr} (hs : Sat M w) (h : FRep 197 220 2 EncE M ts q) (ht : ts[leastN ltE (ts.map RT.root) (ts.length - 1)]? = some (.node x bs ks)) (hz : RT.sizes ts ≤ 1000000000) :
  Does Tryz.prog 114 #[.agg #[.pointer q], .pointer none] w (fun v w' => ∃ q M', v = .tuple #[.agg #[.pointer q], .bool true] ∧ Step Nope M w M' w' ∧ FRep 197 220 2 EncE M' (bpop ltE ts (.node x bs ks)) q) := by
 have hT := Step.refl Nope hs
 obtain ⟨l, hc, hk, hll, hlz⟩ := h.len
 obtain ⟨kq, hkq, hkr⟩ := hk.get ht
 have hpos : 0 < ts.length := Nat.lt_of_le_of_lt (Nat.zero_le _) (List.getElem?_eq_some_iff.1 ht).1
 have hbl := leastN_le ltE (ts.map RT.root) (ts.length - 1)
 have hszo := sizes_out ht
 have hksl := RT.sizes_length ks
 simp only [RT.size] at hszo
 refine fn_enter Tryz.func114 rfl (rs := [.cell 4 74, .tmp 5]) rfl rfl rfl rfl ?_
 refine cw_rs fun _ κ => ?_
 refine as_h rfl (h_boxM hs rfl rfl fun b1 M1 w1 hs1 hb1 e1 => ?_)
 have hk:=hk.mono' EncE.mono hs1.le
 have hkr:=hkr.mono' EncE.mono hs1.le
 have hc:=hc.mono hs1.le
 have hT:=hT.then hs1
 have hz1 := hs1.size
 have hqar := hT.size
 refine as_h rfl (h_allocO (z := (.agg #[(.pointer none)])) hs1.sat (by kernel_rfl) rfl fun br w2 hs2 hor er => ?_)
 have hk:=hk.mono' EncE.mono hs2.le
 have hkr:=hkr.mono' EncE.mono hs2.le
 have hc:=hc.mono hs2.le
 have hb1:=hs2.le _ _ hb1
 have hT:=hT.then hs2
 have hz2 := hs2.size
 have hlr := hor.1.lt
 refine Sa rfl rfl ?_
 refine as_nil (κ _ _ ?_)
 refine cw_rs fun _ κ => ?_
 refine Sf 0 rfl (by kernel_rfl) rfl ?_
 refine Sc 1 rfl (by kernel_rfl) rfl (by exact BlkR.cells (hs2.sat _ _ _ hb1) rfl) ?_
 refine as_h rfl (h_call (by kernel_rfl) rfl ?_)
 refine (ce_all hs2.sat hc (by omega)).mono ?_
 rintro av w3 ⟨Ma, hs3, hba, hfa⟩
 clear hc
 have hk:=hk.mono' EncE.mono hs3.le
 have hkr:=hkr.mono' EncE.mono hs3.le
 have hor:=hor.then hs3
 have hT:=hT.then hs3
 have hz3 := hs3.size
 rw [hll] at hba
 obtain ⟨ag, ac, rfl⟩ := hba.head0 hpos
 have hfa0 := hfa ag rfl
 replace hfa : w.heap.size ≤ ag := Nat.le_trans (by omega) hfa0
 refine Sa rfl rfl ?_
 refine as_nil (κ _ _ ?_)
 refine cw_seq fun _ hK3 => ?_
 refine cw_rs fun _ κ => ?_
 refine Sm rfl rfl ?_
 refine as_q rfl rfl (q_len (by kernel_rfl) rfl _) ?_
 refine as_q rfl rfl (q_eqF rfl rfl (by omega)) ?_
 refine as_nil (κ _ _ ?_)
 refine cw_false rfl ?_
 refine cw_skip ?_
 refine hK3 _ _ ?_
 refine cw_rs fun _ κ => ?_
 refine Sm rfl rfl ?_
 refine Sm rfl rfl ?_
 refine as_h rfl (h_call (by kernel_rfl) rfl ?_)
 refine (b_least hs3.sat hba.rds hk (by omega)).mono ?_
 rintro _ w4 ⟨rfl, hs4⟩
 have hk:=hk.mono' EncE.mono hs4.le
 have hkr:=hkr.mono' EncE.mono hs4.le
 have hor:=hor.then hs4
 have hba:=hba.then hs4
 have hT:=hT.then hs4
 have hz4 := hs4.size
 refine Sa rfl rfl ?_
 refine as_nil (κ _ _ ?_)
 refine cw_rs fun _ κ => ?_
 refine Sm rfl rfl ?_
 refine Sm rfl rfl ?_
 refine as_q rfl rfl (q_indexAddr (e := 195) (size := 1) (by kernel_rfl) (by kernel_rfl) rfl rfl (by omega) (by omega)) ?_
 refine S1 rfl (by kernel_rfl) rfl (Buf.cell hba (u := .pointer kq) (j := ((leastN ltE (ts.map RT.root) (ts.length - 1) : Nat) : Int).toNat * 1) (by rw [show ((leastN ltE (ts.map RT.root) (ts.length - 1) : Nat) : Int).toNat * 1 = leastN ltE (ts.map RT.root) (ts.length - 1) from by omega]; simp [ptrs, hkq])) ?_
 refine as_h rfl (h_call (by kernel_rfl) rfl ?_)
 have hblt := hba.lt ag rfl
 refine (te_kids hs4.sat hkr (by omega)).mono ?_
 rintro _ w5 ⟨ka_, kc_, Mk, kas, rfl, hs5, hkb, hkk, hkf⟩
 have hk:=hk.mono' EncE.mono hs5.le
 have hor:=hor.then hs5
 have hba:=hba.then hs5
 have hT:=hT.then hs5
 have hz5 := hs5.size
 refine Sa rfl rfl ?_
 refine as_nil (κ _ _ ?_)
 refine cw_rs fun _ κ => ?_
 refine Sm rfl rfl ?_
 refine as_h rfl (h_call (by kernel_rfl) rfl ?_)
 refine (rve hs5.sat hkb (by omega)).mono ?_
 rintro _ w6 ⟨hs6, hkb2⟩
 have hk:=hk.mono' EncE.mono hs6.le
 have hor:=hor.step hs6 (fun h => by have := hkf _ h; omega)
 have hba:=hba.step hs6 (fun g2 hg h => by have h2 : ag = g2 := Option.some.inj hg; have := hkf _ h; omega)
 have hkk:=hkk.mono' EncE.mono hs6.le
 clear hkb; have hkb := hkb2; clear hkb2
 have hT:=hT.trans hs6 (fun k hk h => by have := hkf k h; omega)
 have hz6 := hs6.size
 refine as_nil (κ _ _ ?_)
 refine cw_rs fun _ κ => ?_
 refine Sm rfl rfl ?_
 refine Sm rfl rfl ?_
 refine as_h rfl (h_call (by kernel_rfl) rfl ?_)
 refine (ce_ofn (l := kas.reverse) hs6.sat (by rw [List.length_reverse]; exact hkk.length) hkb.rds (by omega)).mono ?_
 rintro _ w7 ⟨qc0, Mc0, rfl, hs7, hco0⟩
 have hk:=hk.mono' EncE.mono hs7.le
 have hor:=hor.then hs7
 have hba:=hba.then hs7
 have hkk:=hkk.mono' EncE.mono hs7.le
 have hT:=hT.then hs7
 have hz7 := hs7.size
 refine Sm rfl rfl ?_
 refine Sm rfl rfl ?_
 refine Sm rfl rfl ?_
 refine as_q rfl rfl (q_addx rfl rfl (by omega) (by omega)) ?_
 refine as_h rfl (h_call (by kernel_rfl) rfl ?_)
 refine (dle (i := leastN ltE (ts.map RT.root) (ts.length - 1)) hs7.sat hba (by omega) (by omega)).mono ?_
 rintro _ w8 ⟨rfl, hs8, hba2⟩
 have hk:=hk.mono' EncE.mono hs8.le
 have hor:=hor.step hs8 (fun h => by have h : _ = ag := h; omega)
 have hkk:=hkk.mono' EncE.mono hs8.le
 have hco0:=hco0.mono hs8.le
 clear hba; have hba : Buf _ _ _ 1 _ _ _ := hba2; clear hba2
 have hT:=hT.trans hs8 (fun k hk h => by have h : k = ag := h; omega)
 have hz8 := hs8.size
 refine as_h rfl (h_call (by kernel_rfl) rfl ?_)
 refine (ce_ofn (l := l.eraseIdx (leastN ltE (ts.map RT.root) (ts.length - 1))) hs8.sat (by rw [List.length_eraseIdx_of_lt (by omega)]; omega) hba.rds (by omega)).mono ?_
 rintro _ w9 ⟨qc1, Mc1, rfl, hs9, hco1⟩
 have hk:=hk.mono' EncE.mono hs9.le
 have hor:=hor.then hs9
 have hkk:=hkk.mono' EncE.mono hs9.le
 have hco0:=hco0.mono hs9.le
 have hT:=hT.then hs9
 have hz9 := hs9.size
 refine as_h rfl (h_call (by kernel_rfl) rfl ?_)
 refine (b_meld_all _ _ _ ks.reverse (ts.eraseIdx (leastN ltE (ts.map RT.root) (ts.length - 1))) _ _ hs9.sat ⟨_, hco0, treps_rev hkk⟩ ⟨_, hco1, treps_out _ hk⟩ (Nat.lt_succ_self _) (by rw [sizes_rev]; omega)).mono ?_
 rintro _ w10 ⟨qm, Mm, rfl, hs10, hm⟩
 have hor:=hor.then hs10
 have hT:=hT.then hs10
 have hz10 := hs10.size
 refine as_q rfl rfl (q_build (zs := [(.pointer none)]) (places := [(0, 1)]) (cs := [_]) (by kernel_rfl) (by kernel_rfl) rfl rfl) ?_
 refine as_h0 (h_store hs10.sat hor rfl rfl rfl (by kernel_rfl) rfl rfl rfl fun w11 hs11 hn11 => ?_)
 have hm:=hm.mono' EncE.mono hs11.le
 clear hor; have hor := hn11; clear hn11
 have hT:=hT.own hs11 (by omega)
 have hz11 := hs11.size
 refine Sa rfl rfl ?_
 refine as_nil (κ _ _ ?_)
 refine cw_ret ?_
 exact ⟨_, (res_cell rfl (loadVar_n (n := 1) (by kernel_rfl) (by exact Blk.cells hor.1 rfl)) (res_tmp rfl res_nil)), _, _, rfl, hT, hm⟩
end Go.Proofs.YtgcgjpfjjgalmaaGreat
/- Heaps without their least element, part 2. -/
namespace Go.Proofs.YtgcgjpfjjgalmaaGreat
open Go Go.Eng
theorem se_pop {w : World} {M : Mem} {ts : List (RT El)} {x : El} {bs : List El} {ks : List (RT El)} {q : Option Addr} (hs : Sat M w) (h : FRep 197 220 2 EncE M ts q) (ht : ts[leastN ltE (ts.map RT.root) (ts.length - 1)]? = some (.node x bs ks)) (hz : RT.sizes ts ≤ 1000000000) :
  Does Tryz.prog 185 #[.agg #[.pointer q], .pointer none] w (fun v w' => ∃ q M', v = .tuple #[.agg #[.pointer q], .bool true] ∧ Step Nope M w M' w' ∧ FRep 197 220 2 EncE M' (spop ltE ts (.node x bs ks)) q) := by
 have hT := Step.refl Nope hs
 obtain ⟨l, hc, hk, hll, hlz⟩ := h.len
 obtain ⟨kq, hkq, hkr⟩ := hk.get ht
 have hpos : 0 < ts.length := Nat.lt_of_le_of_lt (Nat.zero_le _) (List.getElem?_eq_some_iff.1 ht).1
 have hbl := leastN_le ltE (ts.map RT.root) (ts.length - 1)
 have hszo := sizes_out ht
 have hksl := RT.sizes_length ks
 simp only [RT.size] at hszo
 refine fn_enter Tryz.func185 rfl (rs := [.cell 4 83, .tmp 5]) rfl rfl rfl rfl ?_
 refine cw_rs fun _ κ => ?_
 refine as_h rfl (h_boxM hs rfl rfl fun b1 M1 w1 hs1 hb1 e1 => ?_)
 have hk:=hk.mono' EncE.mono hs1.le
 have hkr:=hkr.mono' EncE.mono hs1.le
 have hc:=hc.mono hs1.le
 have hT:=hT.then hs1
 have hz1 := hs1.size
 have hqar := hT.size
 refine as_h rfl (h_allocO (z := (.agg #[(.pointer none)])) hs1.sat (by kernel_rfl) rfl fun br w2 hs2 hor er => ?_)
 have hk:=hk.mono' EncE.mono hs2.le
 have hkr:=hkr.mono' EncE.mono hs2.le
 have hc:=hc.mono hs2.le
 have hb1:=hs2.le _ _ hb1
 have hT:=hT.then hs2
 have hz2 := hs2.size
 have hlr := hor.1.lt
 refine Sa rfl rfl ?_
 refine as_nil (κ _ _ ?_)
 refine cw_rs fun _ κ => ?_
 refine Sf 0 rfl (by kernel_rfl) rfl ?_
 refine Sc 1 rfl (by kernel_rfl) rfl (by exact BlkR.cells (hs2.sat _ _ _ hb1) rfl) ?_
 refine as_h rfl (h_call (by kernel_rfl) rfl ?_)
 refine (ce_all hs2.sat hc (by omega)).mono ?_
 rintro av w3 ⟨Ma, hs3, hba, hfa⟩
 clear hc
 have hk:=hk.mono' EncE.mono hs3.le
 have hkr:=hkr.mono' EncE.mono hs3.le
 have hor:=hor.then hs3
 have hT:=hT.then hs3
 have hz3 := hs3.size
 rw [hll] at hba
 obtain ⟨ag, ac, rfl⟩ := hba.head0 hpos
 have hfa0 := hfa ag rfl
 replace hfa : w.heap.size ≤ ag := Nat.le_trans (by omega) hfa0
 refine Sa rfl rfl ?_
 refine as_nil (κ _ _ ?_)
 refine cw_seq fun _ hK3 => ?_
 refine cw_rs fun _ κ => ?_
 refine Sm rfl rfl ?_
 refine as_q rfl rfl (q_len (by kernel_rfl) rfl _) ?_
 refine as_q rfl rfl (q_eqF rfl rfl (by omega)) ?_
 refine as_nil (κ _ _ ?_)
 refine cw_false rfl ?_
 refine cw_skip ?_
 refine hK3 _ _ ?_
 refine cw_rs fun _ κ => ?_
 refine Sm rfl rfl ?_
 refine Sm rfl rfl ?_
 refine as_h rfl (h_call (by kernel_rfl) rfl ?_)
 refine (se_least hs3.sat hba.rds hk (by omega)).mono ?_
 rintro _ w4 ⟨rfl, hs4⟩
 have hk:=hk.mono' EncE.mono hs4.le
 have hkr:=hkr.mono' EncE.mono hs4.le
 have hor:=hor.then hs4
 have hba:=hba.then hs4
 have hT:=hT.then hs4
 have hz4 := hs4.size
 refine Sa rfl rfl ?_
 refine as_nil (κ _ _ ?_)
 refine cw_rs fun _ κ => ?_
 refine Sm rfl rfl ?_
 refine Sm rfl rfl ?_
 refine as_q rfl rfl (q_indexAddr (e := 195) (size := 1) (by kernel_rfl) (by kernel_rfl) rfl rfl (by omega) (by omega)) ?_
 refine S1 rfl (by kernel_rfl) rfl (Buf.cell hba (u := .pointer kq) (j := ((leastN ltE (ts.map RT.root) (ts.length - 1) : Nat) : Int).toNat * 1) (by rw [show ((leastN ltE (ts.map RT.root) (ts.length - 1) : Nat) : Int).toNat * 1 = leastN ltE (ts.map RT.root) (ts.length - 1) from by omega]; simp [ptrs, hkq])) ?_
 refine Sa rfl rfl ?_
 refine as_nil (κ _ _ ?_)
 refine cw_rs fun _ κ => ?_
 refine Sm rfl rfl ?_
 refine as_h rfl (h_call (by kernel_rfl) rfl ?_)
 have hblt := hba.lt ag rfl
 refine (te_kids hs4.sat hkr (by omega)).mono ?_
 rintro _ w5 ⟨ka_, kc_, Mk, kas, rfl, hs5, hkb, hkk, hkf⟩
 have hk:=hk.mono' EncE.mono hs5.le
 have hkr:=hkr.mono' EncE.mono hs5.le
 have hor:=hor.then hs5
 have hba:=hba.then hs5
 have hT:=hT.then hs5
 have hz5 := hs5.size
 refine Sa rfl rfl ?_
 refine as_nil (κ _ _ ?_)
 refine cw_rs fun _ κ => ?_
 refine Sm rfl rfl ?_
 refine as_h rfl (h_call (by kernel_rfl) rfl ?_)
 refine (rve hs5.sat hkb (by omega)).mono ?_
 rintro _ w6 ⟨hs6, hkb2⟩
 have hk:=hk.mono' EncE.mono hs6.le
 have hkr:=hkr.mono' EncE.mono hs6.le
 have hor:=hor.step hs6 (fun h => by have := hkf _ h; omega)
 have hba:=hba.step hs6 (fun g2 hg h => by have h2 : ag = g2 := Option.some.inj hg; have := hkf _ h; omega)
 have hkk:=hkk.mono' EncE.mono hs6.le
 clear hkb; have hkb := hkb2; clear hkb2
 have hT:=hT.trans hs6 (fun k hk h => by have := hkf k h; omega)
 have hz6 := hs6.size
 refine as_nil (κ _ _ ?_)
 refine cw_rs fun _ κ => ?_
 refine Sm rfl rfl ?_
 refine Sm rfl rfl ?_
 refine Sm rfl rfl ?_
 refine Sm rfl rfl ?_
 refine as_q rfl rfl (q_addx rfl rfl (by omega) (by omega)) ?_
 refine as_h rfl (h_call (by kernel_rfl) rfl ?_)
 refine (dle (i := leastN ltE (ts.map RT.root) (ts.length - 1)) hs6.sat hba (by omega) (by omega)).mono ?_
 rintro _ w7 ⟨rfl, hs7, hba2⟩
 have hk:=hk.mono' EncE.mono hs7.le
 have hkr:=hkr.mono' EncE.mono hs7.le
 have hor:=hor.step hs7 (fun h => by have h : _ = ag := h; omega)
 have hkb:=hkb.step hs7 (fun g2 hg h => by have h : g2 = ag := h; have := hkf _ hg; omega)
 have hkk:=hkk.mono' EncE.mono hs7.le
 clear hba; have hba : Buf _ _ _ 1 _ _ _ := hba2; clear hba2
 have hT:=hT.trans hs7 (fun k hk h => by have h : k = ag := h; omega)
 have hz7 := hs7.size
 refine as_h rfl (h_call (by kernel_rfl) rfl ?_)
 have hel : (ts.eraseIdx (leastN ltE (ts.map RT.root) (ts.length - 1))).length = ts.length - 1 := List.length_eraseIdx_of_lt (by omega)
 refine (se_level (ts := ts.eraseIdx (leastN ltE (ts.map RT.root) (ts.length - 1))) hs7.sat ⟨some ⟨ag, 0, none⟩, ac, l.eraseIdx (leastN ltE (ts.map RT.root) (ts.length - 1)), by rw [hel], by rw [hel]; exact hba.rds, treps_out _ hk⟩ (by omega)).mono ?_
 rintro lvv w8 ⟨Ml, hs8, hlv⟩
 have hkr:=hkr.mono' EncE.mono hs8.le
 have hor:=hor.then hs8
 have hkb:=hkb.then hs8
 have hkk:=hkk.mono' EncE.mono hs8.le
 have hT:=hT.then hs8
 have hz8 := hs8.size
 refine Sa rfl rfl ?_
 refine as_nil (κ _ _ ?_)
 refine cw_rs fun _ κ => ?_
 refine Sm rfl rfl ?_
 refine Sm rfl rfl ?_
 refine Sm rfl rfl ?_
 refine as_h rfl (h_call (by kernel_rfl) rfl ?_)
 refine (se_rmeld (a := ks.reverse) hs8.sat ⟨ka_, kc_, kas.reverse, by rw [List.length_reverse], by rw [List.length_reverse]; exact hkb.rds, treps_rev hkk⟩ hlv (by rw [sizes_rev, slevel_size]; omega)).mono ?_
 rintro _ w9 ⟨Mm, hs9, ⟨ra, rc, rl, rfl, hrr, hrt⟩⟩
 have hmz := bmeld_size ltE ks.reverse (slevel ltE (ts.eraseIdx (leastN ltE (ts.map RT.root) (ts.length - 1))))
 rw [sizes_rev, slevel_size] at hmz
 have hmzl := RT.sizes_length (bmeld ltE ks.reverse (slevel ltE (ts.eraseIdx (leastN ltE (ts.map RT.root) (ts.length - 1)))))
 have hkr:=hkr.mono' EncE.mono hs9.le
 have hor:=hor.then hs9
 have hT:=hT.then hs9
 have hz9 := hs9.size
 refine as_h rfl (h_call (by kernel_rfl) rfl ?_)
 refine (ce_ofn (l := rl) hs9.sat hrt.length hrr (by omega)).mono ?_
 rintro _ w10 ⟨qc0, Mc0, rfl, hs10, hco0⟩
 have hkr:=hkr.mono' EncE.mono hs10.le
 have hor:=hor.then hs10
 have hrt:=hrt.mono' EncE.mono hs10.le
 have hT:=hT.then hs10
 have hz10 := hs10.size
 refine as_q rfl rfl (q_build (zs := [(.pointer none)]) (places := [(0, 1)]) (cs := [_]) (by kernel_rfl) (by kernel_rfl) rfl rfl) ?_
 have hqaout := hT.size
 refine as_h rfl (h_allocO (z := (.agg #[(.pointer none)])) hs10.sat (by kernel_rfl) rfl fun bout w11 hs11 hoout eout => ?_)
 have hkr:=hkr.mono' EncE.mono hs11.le
 have hor:=hor.then hs11
 have hrt:=hrt.mono' EncE.mono hs11.le
 have hco0:=hco0.mono hs11.le
 have hT:=hT.then hs11
 have hz11 := hs11.size
 have hlout := hoout.1.lt
 refine as_h0 (h_store hs11.sat hoout rfl rfl rfl (by kernel_rfl) rfl rfl rfl fun w12 hs12 hn12 => ?_)
 have hkr:=hkr.mono' EncE.mono hs12.le
 have hor:=hor.step hs12 (fun h => by have h : _ = _ := h; omega)
 have hrt:=hrt.mono' EncE.mono hs12.le
 have hco0:=hco0.mono hs12.le
 clear hoout; have hoout := hn12; clear hn12
 have hT:=hT.own hs12 (by omega)
 have hz12 := hs12.size
 refine as_nil (κ _ _ ?_)
 refine cw_seq fun _ hK11 => ?_
 refine cw_rs fun _ κ => ?_
 refine Sm rfl rfl ?_
 refine as_h rfl (h_call (by kernel_rfl) rfl ?_)
 have hrd0 : FRep 197 220 2 EncE Mc0 (bmeld ltE ks.reverse (slevel ltE (ts.eraseIdx (leastN ltE (ts.map RT.root) (ts.length - 1))))) qc0 := ⟨_, hco0, hrt⟩
 refine (te_beside hs12.sat hkr (by omega)).mono ?_
 rintro _ w13 ⟨sa, sc, Mb, bcs2, rfl, hs13, hbb, hbl, hbf⟩
 have hor:=hor.then hs13
 have hoout:=hoout.then hs13
 have hrd0:=hrd0.mono' EncE.mono hs13.le
 have hT:=hT.then hs13
 have hz13 := hs13.size
 refine as_q rfl rfl (q_len (by kernel_rfl) rfl _) ?_
 refine Sm rfl rfl ?_
 refine as_nil (κ _ _ ?_)
 refine cw_block ?_
 refine cw_loop (fun mm l1 w1 => ∃ (i : Nat) (q : Option Addr) (M1 : Mem), mm = bs.length - i ∧ i ≤ bs.length ∧ l1 = [(1, .pointer none), (4, .pointer (some ⟨br, 0, none⟩)), (11, .pointer (some ⟨bout, 0, none⟩)), (46, .slice sa bs.length sc), (47, .int .i64 (bs.length : Nat)), (48, .int .i64 i)] ∧ Step Nope M w M1 w1 ∧ FRep 197 220 2 EncE M1 ((bs.take i).foldl (fun h x => sinsert ltE x h) (bmeld ltE ks.reverse (slevel ltE (ts.eraseIdx (leastN ltE (ts.map RT.root) (ts.length - 1)))))) q ∧ Buf w1 M1 24 2 (.slice sa bs.length sc) bs.length bcs2 ∧ EncL EncE 2 M1 bs bcs2 ∧ Own w1 M1 bout [.pointer q] 83 ∧ Own w1 M1 br [.pointer none] 83) (bs.length) [(1, .pointer none), (4, .pointer (some ⟨br, 0, none⟩)), (11, .pointer (some ⟨bout, 0, none⟩)), (46, .slice sa bs.length sc), (47, .int .i64 (bs.length : Nat)), (48, .int .i64 (0 : Nat))] (.cons rfl (.cons rfl (.cons rfl (.cons rfl (.cons rfl (.cons rfl (.nil _))))))) ?_ ?_
 ·
  exact ⟨0, _, _, rfl, Nat.zero_le _, rfl, hT, hrd0, hbb, hbl, hoout, hor⟩
 have hbrw : w.heap.size ≤ br ∧ w.heap.size ≤ bout ∧ bout ≠ br ∧ br < w13.heap.size ∧ bout < w13.heap.size := by omega
 have hbf2 : ∀ g, (Value.slice sa bs.length sc).ownBlock = some g → g ≠ br ∧ g ≠ bout := fun g hg => by have := hbf g hg; omega
 clear hT hrd0 hbb hbl hoout hor
 rintro mm l1 w1 ⟨i, q, M1, rfl, hi, rfl, hT, hrd, hbb, hbl, hoout, hor⟩
 have hszi := sins_size (lt := ltE) (bs.take i) (bmeld ltE ks.reverse (slevel ltE (ts.eraseIdx (leastN ltE (ts.map RT.root) (ts.length - 1)))))
 rw [List.length_take] at hszi
 have hlo1 := hoout.1.lt
 have hlr1 := hor.1.lt
 refine cw_rs fun _ κ => ?_
 refine as_q rfl rfl (q_lt rfl rfl) ?_
 refine as_nil (κ _ _ ?_)
 refine cw_seq fun _ hK14 => ?_
 refine cw_cond rfl (fun hc1 => ?_) (fun hc1 => ?_)
 ·
  have hlt : i < bs.length := by have := of_decide_eq_true hc1; omega
  obtain ⟨y, hy⟩ : ∃ y, bs[i]? = some y := ⟨bs[i], by simp⟩
  obtain ⟨yc, hyl, hyx, hyc⟩ := hbl.get hy
  obtain ⟨g, o, rfl⟩ := hbb.rd.there (by omega)
  obtain rfl : yc = elc y := hyx
  have hblt := hbb.lt
  refine cw_skip ?_
  refine hK14 _ _ ?_
  refine cw_seq fun _ hK15 => ?_
  refine cw_block ?_
  refine cw_rs fun _ κ => ?_
  refine as_q rfl rfl (q_indexAddr (e := 24) (size := 2) (by kernel_rfl) (by kernel_rfl) rfl rfl (by omega) (by omega)) ?_
  refine Sc 2 rfl (by kernel_rfl) rfl ⟨rfl, fun j u hj => by rw [Nat.add_assoc]; exact Buf.cell hbb (hyc j u hj)⟩ ?_
  have hqayy := hT.size
  refine as_h rfl (h_allocO (z := (.agg #[(.int .i64 0), (.int .i64 0)])) hT.sat (by kernel_rfl) rfl fun byy w14 hs14 hoyy eyy => ?_)
  have hrd:=hrd.mono' EncE.mono hs14.le
  have hbb:=hbb.then hs14
  have hbl:=hbl.mono EncE.mono hs14.le
  have hoout:=hoout.then hs14
  have hor:=hor.then hs14
  have hT:=hT.then hs14
  have hz14 := hs14.size
  have hlyy := hoyy.1.lt
  refine as_h0 (h_store hs14.sat hoyy rfl rfl rfl (by kernel_rfl) rfl rfl rfl fun w15 hs15 hn15 => ?_)
  have hrd:=hrd.mono' EncE.mono hs15.le
  have hbb:=hbb.step hs15 (fun g2 hg h => by have h : g2 = byy := h; have := hblt _ hg; omega)
  have hbl:=hbl.mono EncE.mono hs15.le
  have hoout:=hoout.step hs15 (fun h => by have h : _ = _ := h; omega)
  have hor:=hor.step hs15 (fun h => by have h : _ = _ := h; omega)
  clear hoyy; have hoyy := hn15; clear hn15
  have hT:=hT.own hs15 (by omega)
  have hz15 := hs15.size
  refine as_nil (κ _ _ ?_)
  refine cw_region fun _ κ => ?_
  refine Sc 1 rfl (by kernel_rfl) rfl (by exact Blk.cells hoout.1 rfl) ?_
  refine Sm rfl rfl ?_
  refine Sc 2 rfl (by kernel_rfl) rfl (by exact Blk.cells hoyy.1 rfl) ?_
  refine as_h rfl (h_call (by kernel_rfl) rfl ?_)
  refine (se_insert (x := y) hs15.sat hrd (by omega)).mono ?_
  rintro _ w16 ⟨qi, Mi, rfl, hs16, hin⟩
  have hrd:=hrd.mono' EncE.mono hs16.le
  have hbb:=hbb.then hs16
  have hbl:=hbl.mono EncE.mono hs16.le
  have hoout:=hoout.then hs16
  have hor:=hor.then hs16
  have hT:=hT.then hs16
  have hz16 := hs16.size
  refine as_h0 (h_store hs16.sat hoout rfl rfl rfl (by kernel_rfl) rfl rfl rfl fun w17 hs17 hn17 => ?_)
  have hrd:=hrd.mono' EncE.mono hs17.le
  have hbb:=hbb.step hs17 (fun g2 hg h => (hbf2 g2 hg).2 h)
  have hbl:=hbl.mono EncE.mono hs17.le
  have hor:=hor.step hs17 (fun h => by have h : br = bout := h; omega)
  have hin:=hin.mono' EncE.mono hs17.le
  clear hoout; have hoout := hn17; clear hn17
  have hT:=hT.own hs17 (by omega)
  have hz17 := hs17.size
  refine as_nil (κ _ _ ?_)
  refine hK15 _ _ ?_
  refine cw_region fun _ κ => ?_
  refine as_q rfl rfl (q_addx rfl rfl (by omega) (by omega)) ?_
  refine Sm rfl rfl ?_
  refine as_nil (κ _ _ ?_)
  refine ⟨_, _, ?_, (.cons rfl (.cons rfl (.cons rfl (.cons rfl (.cons rfl (.cons rfl (.nil _))))))), i + 1, _, _, rfl, by omega, rfl, hT, ?_, hbb, hbl, hoout, hor⟩
  · omega
  · rw [List.take_add_one, hy, List.foldl_append]; exact hin
 ·
  have hge : i = bs.length := by have := of_decide_eq_false hc1; omega
  refine cw_exit ?_
  refine hK11 _ _ ?_
  refine cw_rs fun _ κ => ?_
  refine Sc 1 rfl (by kernel_rfl) rfl (by exact Blk.cells hoout.1 rfl) ?_
  refine as_h0 (h_store hT.sat hor rfl rfl rfl (by kernel_rfl) rfl rfl rfl fun w18 hs18 hn18 => ?_)
  have hrd:=hrd.mono' EncE.mono hs18.le
  clear hor; have hor := hn18; clear hn18
  have hT:=hT.own hs18 (by omega)
  have hz18 := hs18.size
  refine Sa rfl rfl ?_
  refine as_nil (κ _ _ ?_)
  refine cw_ret ?_
  subst hge
  rw [List.take_length] at hrd
  exact ⟨_, (res_cell rfl (loadVar_n (n := 1) (by kernel_rfl) (by exact Blk.cells hor.1 rfl)) (res_tmp rfl res_nil)), _, _, rfl, hT, hrd⟩
end Go.Proofs.YtgcgjpfjjgalmaaGreat
/- Heaps without their least element, part 3. -/
namespace Go.Proofs.YtgcgjpfjjgalmaaGreat
open Go Go.Eng
theorem sh_pop {w : World} {M : Mem} {ts : List (RT Bt)} {x : Bt} {bs : List Bt} {ks : List (RT Bt)} {q : Option Addr} (hs : Sat M w) (h : FRep 330 332 1 EncB M ts q) (ht : ts[leastN ltB (ts.map RT.root) (ts.length - 1)]? = some (.node x bs ks)) (hz : RT.sizes ts ≤ 1000000000) :
  Does Tryz.prog 226 #[.agg #[.pointer q], .pointer none] w (fun v w' => ∃ q M', v = .tuple #[.agg #[.pointer q], .bool true] ∧ Step Nope M w M' w' ∧ FRep 330 332 1 EncB M' (spop ltB ts (.node x bs ks)) q) := by
 have hT := Step.refl Nope hs
 obtain ⟨l, hc, hk, hll, hlz⟩ := h.len
 obtain ⟨kq, hkq, hkr⟩ := hk.get ht
 have hpos : 0 < ts.length := Nat.lt_of_le_of_lt (Nat.zero_le _) (List.getElem?_eq_some_iff.1 ht).1
 have hbl := leastN_le ltB (ts.map RT.root) (ts.length - 1)
 have hszo := sizes_out ht
 have hksl := RT.sizes_length ks
 simp only [RT.size] at hszo
 refine fn_enter Tryz.func226 rfl (rs := [.cell 4 294, .tmp 5]) rfl rfl rfl rfl ?_
 refine cw_rs fun _ κ => ?_
 refine as_h rfl (h_boxM hs rfl rfl fun b1 M1 w1 hs1 hb1 e1 => ?_)
 have hk:=hk.mono' EncB.mono hs1.le
 have hkr:=hkr.mono' EncB.mono hs1.le
 have hc:=hc.mono hs1.le
 have hT:=hT.then hs1
 have hz1 := hs1.size
 have hqar := hT.size
 refine as_h rfl (h_allocO (z := (.agg #[(.pointer none)])) hs1.sat (by kernel_rfl) rfl fun br w2 hs2 hor er => ?_)
 have hk:=hk.mono' EncB.mono hs2.le
 have hkr:=hkr.mono' EncB.mono hs2.le
 have hc:=hc.mono hs2.le
 have hb1:=hs2.le _ _ hb1
 have hT:=hT.then hs2
 have hz2 := hs2.size
 have hlr := hor.1.lt
 refine Sa rfl rfl ?_
 refine as_nil (κ _ _ ?_)
 refine cw_rs fun _ κ => ?_
 refine Sf 0 rfl (by kernel_rfl) rfl ?_
 refine Sc 1 rfl (by kernel_rfl) rfl (by exact BlkR.cells (hs2.sat _ _ _ hb1) rfl) ?_
 refine as_h rfl (h_call (by kernel_rfl) rfl ?_)
 refine (ch_all hs2.sat hc (by omega)).mono ?_
 rintro av w3 ⟨Ma, hs3, hba, hfa⟩
 clear hc
 have hk:=hk.mono' EncB.mono hs3.le
 have hkr:=hkr.mono' EncB.mono hs3.le
 have hor:=hor.then hs3
 have hT:=hT.then hs3
 have hz3 := hs3.size
 rw [hll] at hba
 obtain ⟨ag, ac, rfl⟩ := hba.head0 hpos
 have hfa0 := hfa ag rfl
 replace hfa : w.heap.size ≤ ag := Nat.le_trans (by omega) hfa0
 refine Sa rfl rfl ?_
 refine as_nil (κ _ _ ?_)
 refine cw_seq fun _ hK3 => ?_
 refine cw_rs fun _ κ => ?_
 refine Sm rfl rfl ?_
 refine as_q rfl rfl (q_len (by kernel_rfl) rfl _) ?_
 refine as_q rfl rfl (q_eqF rfl rfl (by omega)) ?_
 refine as_nil (κ _ _ ?_)
 refine cw_false rfl ?_
 refine cw_skip ?_
 refine hK3 _ _ ?_
 refine cw_rs fun _ κ => ?_
 refine Sm rfl rfl ?_
 refine Sm rfl rfl ?_
 refine as_h rfl (h_call (by kernel_rfl) rfl ?_)
 refine (sh_least hs3.sat hba.rds hk (by omega)).mono ?_
 rintro _ w4 ⟨rfl, hs4⟩
 have hk:=hk.mono' EncB.mono hs4.le
 have hkr:=hkr.mono' EncB.mono hs4.le
 have hor:=hor.then hs4
 have hba:=hba.then hs4
 have hT:=hT.then hs4
 have hz4 := hs4.size
 refine Sa rfl rfl ?_
 refine as_nil (κ _ _ ?_)
 refine cw_rs fun _ κ => ?_
 refine Sm rfl rfl ?_
 refine Sm rfl rfl ?_
 refine as_q rfl rfl (q_indexAddr (e := 311) (size := 1) (by kernel_rfl) (by kernel_rfl) rfl rfl (by omega) (by omega)) ?_
 refine S1 rfl (by kernel_rfl) rfl (Buf.cell hba (u := .pointer kq) (j := ((leastN ltB (ts.map RT.root) (ts.length - 1) : Nat) : Int).toNat * 1) (by rw [show ((leastN ltB (ts.map RT.root) (ts.length - 1) : Nat) : Int).toNat * 1 = leastN ltB (ts.map RT.root) (ts.length - 1) from by omega]; simp [ptrs, hkq])) ?_
 refine Sa rfl rfl ?_
 refine as_nil (κ _ _ ?_)
 refine cw_rs fun _ κ => ?_
 refine Sm rfl rfl ?_
 refine as_h rfl (h_call (by kernel_rfl) rfl ?_)
 have hblt := hba.lt ag rfl
 refine (th_kids hs4.sat hkr (by omega)).mono ?_
 rintro _ w5 ⟨ka_, kc_, Mk, kas, rfl, hs5, hkb, hkk, hkf⟩
 have hk:=hk.mono' EncB.mono hs5.le
 have hkr:=hkr.mono' EncB.mono hs5.le
 have hor:=hor.then hs5
 have hba:=hba.then hs5
 have hT:=hT.then hs5
 have hz5 := hs5.size
 refine Sa rfl rfl ?_
 refine as_nil (κ _ _ ?_)
 refine cw_rs fun _ κ => ?_
 refine Sm rfl rfl ?_
 refine as_h rfl (h_call (by kernel_rfl) rfl ?_)
 refine (rvh hs5.sat hkb (by omega)).mono ?_
 rintro _ w6 ⟨hs6, hkb2⟩
 have hk:=hk.mono' EncB.mono hs6.le
 have hkr:=hkr.mono' EncB.mono hs6.le
 have hor:=hor.step hs6 (fun h => by have := hkf _ h; omega)
 have hba:=hba.step hs6 (fun g2 hg h => by have h2 : ag = g2 := Option.some.inj hg; have := hkf _ h; omega)
 have hkk:=hkk.mono' EncB.mono hs6.le
 clear hkb; have hkb := hkb2; clear hkb2
 have hT:=hT.trans hs6 (fun k hk h => by have := hkf k h; omega)
 have hz6 := hs6.size
 refine as_nil (κ _ _ ?_)
 refine cw_rs fun _ κ => ?_
 refine Sm rfl rfl ?_
 refine Sm rfl rfl ?_
 refine Sm rfl rfl ?_
 refine Sm rfl rfl ?_
 refine as_q rfl rfl (q_addx rfl rfl (by omega) (by omega)) ?_
 refine as_h rfl (h_call (by kernel_rfl) rfl ?_)
 refine (dlh (i := leastN ltB (ts.map RT.root) (ts.length - 1)) hs6.sat hba (by omega) (by omega)).mono ?_
 rintro _ w7 ⟨rfl, hs7, hba2⟩
 have hk:=hk.mono' EncB.mono hs7.le
 have hkr:=hkr.mono' EncB.mono hs7.le
 have hor:=hor.step hs7 (fun h => by have h : _ = ag := h; omega)
 have hkb:=hkb.step hs7 (fun g2 hg h => by have h : g2 = ag := h; have := hkf _ hg; omega)
 have hkk:=hkk.mono' EncB.mono hs7.le
 clear hba; have hba : Buf _ _ _ 1 _ _ _ := hba2; clear hba2
 have hT:=hT.trans hs7 (fun k hk h => by have h : k = ag := h; omega)
 have hz7 := hs7.size
 refine as_h rfl (h_call (by kernel_rfl) rfl ?_)
 have hel : (ts.eraseIdx (leastN ltB (ts.map RT.root) (ts.length - 1))).length = ts.length - 1 := List.length_eraseIdx_of_lt (by omega)
 refine (sh_level (ts := ts.eraseIdx (leastN ltB (ts.map RT.root) (ts.length - 1))) hs7.sat ⟨some ⟨ag, 0, none⟩, ac, l.eraseIdx (leastN ltB (ts.map RT.root) (ts.length - 1)), by rw [hel], by rw [hel]; exact hba.rds, treps_out _ hk⟩ (by omega)).mono ?_
 rintro lvv w8 ⟨Ml, hs8, hlv⟩
 have hkr:=hkr.mono' EncB.mono hs8.le
 have hor:=hor.then hs8
 have hkb:=hkb.then hs8
 have hkk:=hkk.mono' EncB.mono hs8.le
 have hT:=hT.then hs8
 have hz8 := hs8.size
 refine Sa rfl rfl ?_
 refine as_nil (κ _ _ ?_)
 refine cw_rs fun _ κ => ?_
 refine Sm rfl rfl ?_
 refine Sm rfl rfl ?_
 refine Sm rfl rfl ?_
 refine as_h rfl (h_call (by kernel_rfl) rfl ?_)
 refine (sh_rmeld (a := ks.reverse) hs8.sat ⟨ka_, kc_, kas.reverse, by rw [List.length_reverse], by rw [List.length_reverse]; exact hkb.rds, treps_rev hkk⟩ hlv (by rw [sizes_rev, slevel_size]; omega)).mono ?_
 rintro _ w9 ⟨Mm, hs9, ⟨ra, rc, rl, rfl, hrr, hrt⟩⟩
 have hmz := bmeld_size ltB ks.reverse (slevel ltB (ts.eraseIdx (leastN ltB (ts.map RT.root) (ts.length - 1))))
 rw [sizes_rev, slevel_size] at hmz
 have hmzl := RT.sizes_length (bmeld ltB ks.reverse (slevel ltB (ts.eraseIdx (leastN ltB (ts.map RT.root) (ts.length - 1)))))
 have hkr:=hkr.mono' EncB.mono hs9.le
 have hor:=hor.then hs9
 have hT:=hT.then hs9
 have hz9 := hs9.size
 refine as_h rfl (h_call (by kernel_rfl) rfl ?_)
 refine (ch_ofn (l := rl) hs9.sat hrt.length hrr (by omega)).mono ?_
 rintro _ w10 ⟨qc0, Mc0, rfl, hs10, hco0⟩
 have hkr:=hkr.mono' EncB.mono hs10.le
 have hor:=hor.then hs10
 have hrt:=hrt.mono' EncB.mono hs10.le
 have hT:=hT.then hs10
 have hz10 := hs10.size
 refine as_q rfl rfl (q_build (zs := [(.pointer none)]) (places := [(0, 1)]) (cs := [_]) (by kernel_rfl) (by kernel_rfl) rfl rfl) ?_
 have hqaout := hT.size
 refine as_h rfl (h_allocO (z := (.agg #[(.pointer none)])) hs10.sat (by kernel_rfl) rfl fun bout w11 hs11 hoout eout => ?_)
 have hkr:=hkr.mono' EncB.mono hs11.le
 have hor:=hor.then hs11
 have hrt:=hrt.mono' EncB.mono hs11.le
 have hco0:=hco0.mono hs11.le
 have hT:=hT.then hs11
 have hz11 := hs11.size
 have hlout := hoout.1.lt
 refine as_h0 (h_store hs11.sat hoout rfl rfl rfl (by kernel_rfl) rfl rfl rfl fun w12 hs12 hn12 => ?_)
 have hkr:=hkr.mono' EncB.mono hs12.le
 have hor:=hor.step hs12 (fun h => by have h : _ = _ := h; omega)
 have hrt:=hrt.mono' EncB.mono hs12.le
 have hco0:=hco0.mono hs12.le
 clear hoout; have hoout := hn12; clear hn12
 have hT:=hT.own hs12 (by omega)
 have hz12 := hs12.size
 refine as_nil (κ _ _ ?_)
 refine cw_seq fun _ hK11 => ?_
 refine cw_rs fun _ κ => ?_
 refine Sm rfl rfl ?_
 refine as_h rfl (h_call (by kernel_rfl) rfl ?_)
 have hrd0 : FRep 330 332 1 EncB Mc0 (bmeld ltB ks.reverse (slevel ltB (ts.eraseIdx (leastN ltB (ts.map RT.root) (ts.length - 1))))) qc0 := ⟨_, hco0, hrt⟩
 refine (th_beside hs12.sat hkr (by omega)).mono ?_
 rintro _ w13 ⟨sa, sc, Mb, bcs2, rfl, hs13, hbb, hbl, hbf⟩
 have hor:=hor.then hs13
 have hoout:=hoout.then hs13
 have hrd0:=hrd0.mono' EncB.mono hs13.le
 have hT:=hT.then hs13
 have hz13 := hs13.size
 refine as_q rfl rfl (q_len (by kernel_rfl) rfl _) ?_
 refine Sm rfl rfl ?_
 refine as_nil (κ _ _ ?_)
 refine cw_block ?_
 refine cw_loop (fun mm l1 w1 => ∃ (i : Nat) (q : Option Addr) (M1 : Mem), mm = bs.length - i ∧ i ≤ bs.length ∧ l1 = [(1, .pointer none), (4, .pointer (some ⟨br, 0, none⟩)), (11, .pointer (some ⟨bout, 0, none⟩)), (46, .slice sa bs.length sc), (47, .int .i64 (bs.length : Nat)), (48, .int .i64 i)] ∧ Step Nope M w M1 w1 ∧ FRep 330 332 1 EncB M1 ((bs.take i).foldl (fun h x => sinsert ltB x h) (bmeld ltB ks.reverse (slevel ltB (ts.eraseIdx (leastN ltB (ts.map RT.root) (ts.length - 1)))))) q ∧ Buf w1 M1 93 1 (.slice sa bs.length sc) bs.length bcs2 ∧ EncL EncB 1 M1 bs bcs2 ∧ Own w1 M1 bout [.pointer q] 294 ∧ Own w1 M1 br [.pointer none] 294) (bs.length) [(1, .pointer none), (4, .pointer (some ⟨br, 0, none⟩)), (11, .pointer (some ⟨bout, 0, none⟩)), (46, .slice sa bs.length sc), (47, .int .i64 (bs.length : Nat)), (48, .int .i64 (0 : Nat))] (.cons rfl (.cons rfl (.cons rfl (.cons rfl (.cons rfl (.cons rfl (.nil _))))))) ?_ ?_
 ·
  exact ⟨0, _, _, rfl, Nat.zero_le _, rfl, hT, hrd0, hbb, hbl, hoout, hor⟩
 have hbrw : w.heap.size ≤ br ∧ w.heap.size ≤ bout ∧ bout ≠ br ∧ br < w13.heap.size ∧ bout < w13.heap.size := by omega
 have hbf2 : ∀ g, (Value.slice sa bs.length sc).ownBlock = some g → g ≠ br ∧ g ≠ bout := fun g hg => by have := hbf g hg; omega
 clear hT hrd0 hbb hbl hoout hor
 rintro mm l1 w1 ⟨i, q, M1, rfl, hi, rfl, hT, hrd, hbb, hbl, hoout, hor⟩
 have hszi := sins_size (lt := ltB) (bs.take i) (bmeld ltB ks.reverse (slevel ltB (ts.eraseIdx (leastN ltB (ts.map RT.root) (ts.length - 1)))))
 rw [List.length_take] at hszi
 have hlo1 := hoout.1.lt
 have hlr1 := hor.1.lt
 refine cw_rs fun _ κ => ?_
 refine as_q rfl rfl (q_lt rfl rfl) ?_
 refine as_nil (κ _ _ ?_)
 refine cw_seq fun _ hK14 => ?_
 refine cw_cond rfl (fun hc1 => ?_) (fun hc1 => ?_)
 ·
  have hlt : i < bs.length := by have := of_decide_eq_true hc1; omega
  obtain ⟨y, hy⟩ : ∃ y, bs[i]? = some y := ⟨bs[i], by simp⟩
  obtain ⟨yc, hyl, hyx, hyc⟩ := hbl.get hy
  obtain ⟨g, o, rfl⟩ := hbb.rd.there (by omega)
  obtain ⟨qy, rfl, _⟩ := encB_iff.1 hyx
  have hblt := hbb.lt
  skip
  ·
   refine cw_skip ?_
   refine hK14 _ _ ?_
   refine cw_seq fun _ hK15 => ?_
   refine cw_block ?_
   refine cw_rs fun _ κ => ?_
   refine as_q rfl rfl (q_indexAddr (e := 93) (size := 1) (by kernel_rfl) (by kernel_rfl) rfl rfl (by omega) (by omega)) ?_
   refine Sc 1 rfl (by kernel_rfl) rfl ⟨rfl, fun j u hj => by rw [Nat.add_assoc]; exact Buf.cell hbb (hyc j u hj)⟩ ?_
   have hqayy := hT.size
   refine as_h rfl (h_allocO (z := (.agg #[(.pointer none)])) hT.sat (by kernel_rfl) rfl fun byy w14 hs14 hoyy eyy => ?_)
   have hrd:=hrd.mono' EncB.mono hs14.le
   have hbb:=hbb.then hs14
   have hbl:=hbl.mono EncB.mono hs14.le
   have hoout:=hoout.then hs14
   have hor:=hor.then hs14
   have hyx:=EncB.mono _ _ _ _ hs14.le hyx
   have hT:=hT.then hs14
   have hz14 := hs14.size
   have hlyy := hoyy.1.lt
   refine as_h0 (h_store hs14.sat hoyy rfl rfl rfl (by kernel_rfl) rfl rfl rfl fun w15 hs15 hn15 => ?_)
   have hrd:=hrd.mono' EncB.mono hs15.le
   have hbb:=hbb.step hs15 (fun g2 hg h => by have h : g2 = byy := h; have := hblt _ hg; omega)
   have hbl:=hbl.mono EncB.mono hs15.le
   have hoout:=hoout.step hs15 (fun h => by have h : _ = _ := h; omega)
   have hor:=hor.step hs15 (fun h => by have h : _ = _ := h; omega)
   have hyx:=EncB.mono _ _ _ _ hs15.le hyx
   clear hoyy; have hoyy := hn15; clear hn15
   have hT:=hT.own hs15 (by omega)
   have hz15 := hs15.size
   refine as_nil (κ _ _ ?_)
   refine cw_region fun _ κ => ?_
   refine Sc 1 rfl (by kernel_rfl) rfl (by exact Blk.cells hoout.1 rfl) ?_
   refine Sm rfl rfl ?_
   refine Sc 1 rfl (by kernel_rfl) rfl (by exact Blk.cells hoyy.1 rfl) ?_
   refine as_h rfl (h_call (by kernel_rfl) rfl ?_)
   refine (sh_insert (x := y) hs15.sat hyx hrd (by omega)).mono ?_
   rintro _ w16 ⟨qi, Mi, rfl, hs16, hin⟩
   have hrd:=hrd.mono' EncB.mono hs16.le
   have hbb:=hbb.then hs16
   have hbl:=hbl.mono EncB.mono hs16.le
   have hoout:=hoout.then hs16
   have hor:=hor.then hs16
   have hT:=hT.then hs16
   have hz16 := hs16.size
   refine as_h0 (h_store hs16.sat hoout rfl rfl rfl (by kernel_rfl) rfl rfl rfl fun w17 hs17 hn17 => ?_)
   have hrd:=hrd.mono' EncB.mono hs17.le
   have hbb:=hbb.step hs17 (fun g2 hg h => (hbf2 g2 hg).2 h)
   have hbl:=hbl.mono EncB.mono hs17.le
   have hor:=hor.step hs17 (fun h => by have h : br = bout := h; omega)
   have hin:=hin.mono' EncB.mono hs17.le
   clear hoout; have hoout := hn17; clear hn17
   have hT:=hT.own hs17 (by omega)
   have hz17 := hs17.size
   refine as_nil (κ _ _ ?_)
   refine hK15 _ _ ?_
   refine cw_region fun _ κ => ?_
   refine as_q rfl rfl (q_addx rfl rfl (by omega) (by omega)) ?_
   refine Sm rfl rfl ?_
   refine as_nil (κ _ _ ?_)
   refine ⟨_, _, ?_, (.cons rfl (.cons rfl (.cons rfl (.cons rfl (.cons rfl (.cons rfl (.nil _))))))), i + 1, _, _, rfl, by omega, rfl, hT, ?_, hbb, hbl, hoout, hor⟩
   · omega
   · rw [List.take_add_one, hy, List.foldl_append]; exact hin
 ·
  have hge : i = bs.length := by have := of_decide_eq_false hc1; omega
  refine cw_exit ?_
  refine hK11 _ _ ?_
  refine cw_rs fun _ κ => ?_
  refine Sc 1 rfl (by kernel_rfl) rfl (by exact Blk.cells hoout.1 rfl) ?_
  refine as_h0 (h_store hT.sat hor rfl rfl rfl (by kernel_rfl) rfl rfl rfl fun w18 hs18 hn18 => ?_)
  have hrd:=hrd.mono' EncB.mono hs18.le
  clear hor; have hor := hn18; clear hn18
  have hT:=hT.own hs18 (by omega)
  have hz18 := hs18.size
  refine Sa rfl rfl ?_
  refine as_nil (κ _ _ ?_)
  refine cw_ret ?_
  subst hge
  rw [List.take_length] at hrd
  exact ⟨_, (res_cell rfl (loadVar_n (n := 1) (by kernel_rfl) (by exact Blk.cells hor.1 rfl)) (res_tmp rfl res_nil)), _, _, rfl, hT, hrd⟩
end Go.Proofs.YtgcgjpfjjgalmaaGreat
/- All heaps behind a heap, part 2. -/
namespace Go.Proofs.YtgcgjpfjjgalmaaGreat
open Go Go.Eng
theorem front_val {a : Option Addr} {sc k : Nat} {z : Int} (h : z.toNat = k) : Value.slice (if sc = (0 : Int).toNat then a else a.map (·.add ((0 : Int).toNat * 1))) (z.toNat - (0 : Int).toNat) (sc - (0 : Int).toNat) = .slice a k sc := by
 subst h
 cases a <;> simp [Addr.add]
theorem bo_each1 {w : World} {M : Mem} {t : Bt} {bx0 : Nat} {q : Option Addr} (hb0 : M bx0 = some ([.pointer q], 93)) (hr : BRep 296 330 332 M t q) (hz : Bt.cnt 1 t ≤ 1000000000) :
  IterP Tryz.prog 249 [.pointer (some ⟨bx0, 0, none⟩)] (fun k => w.heap.size + 2 ≤ k) (Bt.cnt 0 t) (fun i _ => i < Bt.cnt 0 t) M w := by
 intro r J M0 W0 h0 hW habide hround hJ
 have hb0:=h0.le _ _ hb0
 have hrp := encB_iff.2 ⟨q, rfl, hr.mono h0.le⟩
 refine fn_enter Tryz.func249 rfl (rs := []) rfl rfl rfl rfl ?_
 refine cw_rs fun _ κ => ?_
 refine Sc 1 rfl (by kernel_rfl) rfl (by exact BlkR.cells (h0.sat _ _ _ hb0) rfl) ?_
 refine as_h rfl (h_buildO (e := 93) (size := 1) (zs := [.pointer none]) (cs := [_]) (by kernel_rfl) (by kernel_rfl) (by kernel_rfl) rfl h0.sat rfl rfl fun bB w1 hs1 hoB eB => ?_)
 have hb0:=hs1.le _ _ hb0
 have hrp:=EncB.mono _ _ _ _ hs1.le hrp
 have hz1 := hs1.size
 refine Sa rfl rfl ?_
 refine as_nil (κ _ _ ?_)
 refine cw_block ?_
 refine cw_loop (fun mm l1 w1 => ∃ (i : Nat) (st : List Bt) (sa : Option Addr) (sc : Nat) (M1 : Mem) (cs : List Value), mm = Bt.cntL 1 st ∧ i + Bt.cntL 0 st = Bt.cnt 0 t ∧ Bt.cntL 1 st ≤ 1000000000 ∧ l1 = [(0, .func (.yield r) #[] #[]), (1, .pointer (some ⟨bx0, 0, none⟩)), (3, .slice sa st.length sc)] ∧ Le M0 M1 ∧ Sat M1 w1 ∧ W0.heap.size ≤ w1.heap.size ∧ J i M1 w1 ∧ Buf w1 M1 93 1 (.slice sa st.length sc) st.length cs ∧ EncL EncB 1 M1 st cs ∧ ∀ g, (Value.slice sa st.length sc).ownBlock = some g → W0.heap.size ≤ g) (Bt.cnt 1 t) [(0, .func (.yield r) #[] #[]), (1, .pointer (some ⟨bx0, 0, none⟩)), (3, .slice (some ⟨bB, 0, none⟩) 1 1)] (.cons rfl (.cons rfl (.cons rfl (.nil _)))) ?_ ?_
 ·
  refine ⟨0, [t], some ⟨bB, 0, none⟩, 1, M0, _, by simp [Bt.cntL], by simp [Bt.cntL], by simpa [Bt.cntL] using hz, rfl, Le.refl _, hs1.sat, hs1.size, habide _ _ _ _ _ hJ (hs1.any _), Own.buf hoB (n := 1) (size := 1) rfl (by decide), ⟨_, _, rfl, rfl, hrp, rfl⟩, fun g hg => ?_⟩
  have h2 : bB = g := Option.some.inj hg
  omega
 clear hJ hoB
 rintro mm l1 w1 ⟨i, st, sa, sc, M1, cs, rfl, hcn, hcz, rfl, hle, hst, hw01, hJ, hbu, hcl, hfr⟩
 have hstl := Bt.cntL_length st
 refine cw_seq fun _ hK2 => ?_
 have hcs : st = [] ∨ (∃ st1, st = st1 ++ [Bt.nil]) ∨ ∃ st1 x ts, st = st1 ++ [Bt.node x ts] := by
  rcases List.eq_nil_or_concat st with h | ⟨s1, b, h⟩
  · exact .inl h
  ·
   cases b with
   | nil => exact .inr (.inl ⟨s1, by simpa using h⟩)
   | node x ts => exact .inr (.inr ⟨s1, x, ts, by simpa using h⟩)
 rcases hcs with rfl | ⟨st1, rfl⟩ | ⟨st1, x, ts, rfl⟩
 ·
  have hlc : ([] : List Bt).length = 0 := rfl
  refine cw_rs fun _ κ => ?_
  refine Sm rfl rfl ?_
  refine as_q rfl rfl (q_len (by kernel_rfl) rfl _) ?_
  refine as_q rfl rfl (q_gtF rfl rfl (by omega)) ?_
  refine as_nil (κ _ _ ?_)
  refine cw_false rfl ?_
  refine cw_exit ?_
  have e : i = Bt.cnt 0 t := by simpa [Bt.cntL] using hcn
  exact ⟨_, res_nil, M1, hst, hle, by rw [← e]; exact hJ⟩
 ·
  have hlc : (st1 ++ [Bt.nil]).length = st1.length + 1 := by simp
  obtain ⟨ds, c, rfl, hcl1, hxc⟩ := hcl.last
  obtain ⟨xq, hcq, hxr⟩ := encB_iff.1 hxc
  obtain rfl : c = .pointer xq := by simpa using hcq
  have hds := hcl1.length
  obtain ⟨g, o, rfl⟩ := hbu.rd.there (by omega)
  have hcap : (st1 ++ [Bt.nil]).length ≤ sc := by
   obtain ⟨_, _, h, h2, _⟩ := hbu.slice
   cases h; exact h2
  have hbs := hbu.front1 (j := st1.length) (by omega)
  rw [List.take_append_of_le_length (by omega), List.take_of_length_le (by omega)] at hbs
  have hfr1 : ∀ g2, (Value.slice (some ⟨g, o, none⟩) st1.length sc).ownBlock = some g2 → W0.heap.size ≤ g2 := fun g2 hg => hfr g2 hg
  have hct0 : Bt.cntL 0 (st1 ++ [Bt.nil]) = Bt.cntL 0 st1 + (Bt.cnt 0 (Bt.nil) + 0) := by rw [Bt.cntL_append]; rfl
  have hct1 : Bt.cntL 1 (st1 ++ [Bt.nil]) = Bt.cntL 1 st1 + (Bt.cnt 1 (Bt.nil) + 0) := by rw [Bt.cntL_append]; rfl
  obtain rfl := brep_nil.1 hxr
  have hn0 : Bt.cnt 0 Bt.nil = 0 := rfl
  have hn1 : Bt.cnt 1 Bt.nil = 1 := rfl
  have hT := Step.refl (fun k => w.heap.size + 2 ≤ k) hst
  have hblt := hbu.lt
  have hb0:=hle _ _ hb0
  refine cw_rs fun _ κ => ?_
  refine Sm rfl rfl ?_
  refine as_q rfl rfl (q_len (by kernel_rfl) rfl _) ?_
  refine as_q rfl rfl (q_gtT rfl rfl (by omega)) ?_
  refine as_nil (κ _ _ ?_)
  refine cw_true rfl ?_
  refine cw_skip ?_
  refine hK2 _ _ ?_
  refine cw_block ?_
  refine cw_rs fun _ κ => ?_
  refine Sm rfl rfl ?_
  refine Sm rfl rfl ?_
  refine as_q rfl rfl (q_len (by kernel_rfl) rfl _) ?_
  refine as_q rfl rfl (q_subx rfl rfl (by omega) (by omega)) ?_
  refine as_q rfl rfl (q_indexAddr (e := 93) (size := 1) (by kernel_rfl) (by kernel_rfl) rfl rfl (by omega) (by omega)) ?_
  refine Sc 1 rfl (by kernel_rfl) rfl (cells_oneB (Buf.cell hbu (u := .pointer none) (j := ((((st1 ++ [Bt.nil]).length : Nat) : Int) - 1).toNat * 1) (by rw [show ((((st1 ++ [Bt.nil]).length : Nat) : Int) - 1).toNat * 1 = ds.length by omega]; simp))) ?_
  have hblt2 := hbu.lt
  have hqax := hT.size
  refine as_h rfl (h_allocO (z := (.agg #[(.pointer none)])) hst (by kernel_rfl) rfl fun bx w2 hs2 hox ex => ?_)
  have hbu:=hbu.then hs2
  have hb0:=hs2.le _ _ hb0
  have hcl1:=hcl1.mono EncB.mono hs2.le
  have hT:=hT.then hs2
  have hz2 := hs2.size
  have hlx := hox.1.lt
  refine as_h0 (h_store hs2.sat hox rfl rfl rfl (by kernel_rfl) rfl rfl rfl fun w3 hs3 hn3 => ?_)
  have hbu:=hbu.step hs3 (fun g2 hg h => by have h : g2 = bx := h; have := hblt g2 hg; omega)
  have hb0:=hs3.le _ _ hb0
  have hcl1:=hcl1.mono EncB.mono hs3.le
  clear hox; have hox := hn3; clear hn3
  have hT:=hT.own hs3 (by omega)
  have hz3 := hs3.size
  refine as_nil (κ _ _ ?_)
  refine cw_rs fun _ κ => ?_
  refine Sm rfl rfl ?_
  refine Sm rfl rfl ?_
  refine as_q rfl rfl (q_len (by kernel_rfl) rfl _) ?_
  refine as_q rfl rfl (q_subx rfl rfl (by omega) (by omega)) ?_
  refine as_q rfl rfl (q_congr (q_slice (e := 93) (size := 1) (k := .i64) (by kernel_rfl) (by kernel_rfl) rfl rfl rfl (by omega) (by omega) (by omega)) (v' := .slice (some ⟨g, o, none⟩) st1.length sc) (front_val (by omega))) ?_
  refine Sa rfl rfl ?_
  refine as_nil (κ _ _ ?_)
  refine cw_seq fun _ hK7 => ?_
  refine cw_rs fun _ κ => ?_
  refine Sf 0 rfl (by kernel_rfl) rfl ?_
  refine S1 rfl (by kernel_rfl) rfl (by exact Blk.cell hox.1 rfl) ?_
  refine as_q rfl rfl (q_eqnil (by kernel_rfl) rfl) ?_
  refine as_nil (κ _ _ ?_)
  refine cw_true rfl ?_
  refine cw_exit ?_
  refine ⟨_, _, ?_, (.cons rfl (.cons rfl (.cons rfl (.nil _)))), i, st1, _, _, _, _, rfl, ?_, ?_, rfl, hle, hT.sat, by omega, habide _ _ _ _ _ hJ hT, (by have h := hbu.front1 (j := st1.length) (by omega); rw [List.take_append_of_le_length (by omega), List.take_of_length_le (by omega)] at h; exact h), hcl1.mono EncB.mono hT.le, hfr1⟩
  · omega
  · omega
  · omega
 ·
  have hlc : (st1 ++ [Bt.node x ts]).length = st1.length + 1 := by simp
  obtain ⟨ds, c, rfl, hcl1, hxc⟩ := hcl.last
  obtain ⟨xq, hcq, hxr⟩ := encB_iff.1 hxc
  obtain rfl : c = .pointer xq := by simpa using hcq
  have hds := hcl1.length
  obtain ⟨g, o, rfl⟩ := hbu.rd.there (by omega)
  have hcap : (st1 ++ [Bt.node x ts]).length ≤ sc := by
   obtain ⟨_, _, h, h2, _⟩ := hbu.slice
   cases h; exact h2
  have hbs := hbu.front1 (j := st1.length) (by omega)
  rw [List.take_append_of_le_length (by omega), List.take_of_length_le (by omega)] at hbs
  have hfr1 : ∀ g2, (Value.slice (some ⟨g, o, none⟩) st1.length sc).ownBlock = some g2 → W0.heap.size ≤ g2 := fun g2 hg => hfr g2 hg
  have hct0 : Bt.cntL 0 (st1 ++ [Bt.node x ts]) = Bt.cntL 0 st1 + (Bt.cnt 0 (Bt.node x ts) + 0) := by rw [Bt.cntL_append]; rfl
  have hct1 : Bt.cntL 1 (st1 ++ [Bt.node x ts]) = Bt.cntL 1 st1 + (Bt.cnt 1 (Bt.node x ts) + 0) := by rw [Bt.cntL_append]; rfl
  obtain ⟨xb, qs, rfl, hxb, hxts⟩ := brep_node.1 hxr
  have hn0 : Bt.cnt 0 (Bt.node x ts) = 1 + Bt.cntQ 0 ts := rfl
  have hn1 : Bt.cnt 1 (Bt.node x ts) = 1 + Bt.cntQ 1 ts := rfl
  have hal := Bt.cntL_length (RT.alls ts)
  rw [RT.alls_length, Bt.cntQ_alls] at hal
  have hT := Step.refl (fun k => w.heap.size + 2 ≤ k) hst
  have hblt := hbu.lt
  have hb0:=hle _ _ hb0
  refine cw_rs fun _ κ => ?_
  refine Sm rfl rfl ?_
  refine as_q rfl rfl (q_len (by kernel_rfl) rfl _) ?_
  refine as_q rfl rfl (q_gtT rfl rfl (by omega)) ?_
  refine as_nil (κ _ _ ?_)
  refine cw_true rfl ?_
  refine cw_skip ?_
  refine hK2 _ _ ?_
  refine cw_block ?_
  refine cw_rs fun _ κ => ?_
  refine Sm rfl rfl ?_
  refine Sm rfl rfl ?_
  refine as_q rfl rfl (q_len (by kernel_rfl) rfl _) ?_
  refine as_q rfl rfl (q_subx rfl rfl (by omega) (by omega)) ?_
  refine as_q rfl rfl (q_indexAddr (e := 93) (size := 1) (by kernel_rfl) (by kernel_rfl) rfl rfl (by omega) (by omega)) ?_
  refine Sc 1 rfl (by kernel_rfl) rfl (cells_oneB (Buf.cell hbu (u := .pointer (some ⟨xb, 0, none⟩)) (j := ((((st1 ++ [Bt.node x ts]).length : Nat) : Int) - 1).toNat * 1) (by rw [show ((((st1 ++ [Bt.node x ts]).length : Nat) : Int) - 1).toNat * 1 = ds.length by omega]; simp))) ?_
  have hblt2 := hbu.lt
  have hqax := hT.size
  refine as_h rfl (h_allocO (z := (.agg #[(.pointer none)])) hst (by kernel_rfl) rfl fun bx w4 hs4 hox ex => ?_)
  have hbu:=hbu.then hs4
  have hcl1:=hcl1.mono EncB.mono hs4.le
  have hxb:=hs4.le _ _ hxb
  have hxts:=hxts.mono' EncB.mono hs4.le
  have hT:=hT.then hs4
  have hz4 := hs4.size
  have hlx := hox.1.lt
  refine as_h0 (h_store hs4.sat hox rfl rfl rfl (by kernel_rfl) rfl rfl rfl fun w5 hs5 hn5 => ?_)
  have hbu:=hbu.step hs5 (fun g2 hg h => by have h : g2 = bx := h; have := hblt g2 hg; omega)
  have hcl1:=hcl1.mono EncB.mono hs5.le
  have hxb:=hs5.le _ _ hxb
  have hxts:=hxts.mono' EncB.mono hs5.le
  clear hox; have hox := hn5; clear hn5
  have hT:=hT.own hs5 (by omega)
  have hz5 := hs5.size
  refine as_nil (κ _ _ ?_)
  refine cw_rs fun _ κ => ?_
  refine Sm rfl rfl ?_
  refine Sm rfl rfl ?_
  refine as_q rfl rfl (q_len (by kernel_rfl) rfl _) ?_
  refine as_q rfl rfl (q_subx rfl rfl (by omega) (by omega)) ?_
  refine as_q rfl rfl (q_congr (q_slice (e := 93) (size := 1) (k := .i64) (by kernel_rfl) (by kernel_rfl) rfl rfl rfl (by omega) (by omega) (by omega)) (v' := .slice (some ⟨g, o, none⟩) st1.length sc) (front_val (by omega))) ?_
  refine Sa rfl rfl ?_
  refine as_nil (κ _ _ ?_)
  refine cw_seq fun _ hK12 => ?_
  refine cw_rs fun _ κ => ?_
  refine Sf 0 rfl (by kernel_rfl) rfl ?_
  refine S1 rfl (by kernel_rfl) rfl (by exact Blk.cell hox.1 rfl) ?_
  refine as_q rfl rfl (q_eqnil (by kernel_rfl) rfl) ?_
  refine as_nil (κ _ _ ?_)
  refine cw_false rfl ?_
  refine cw_skip ?_
  refine hK12 _ _ ?_
  refine cw_seq fun _ hK14 => ?_
  refine cw_rs fun _ κ => ?_
  refine Sm rfl rfl ?_
  refine Sc 1 rfl (by kernel_rfl) rfl (by exact Blk.cells hox.1 rfl) ?_
  have hJ2 := habide _ _ _ _ _ hJ hT
  have hTz := hT.size
  refine as_h rfl (h_yield rfl rfl ?_)
  obtain ⟨fn_, tm_, as_, bo_, hy1, hy2⟩ := hround i (.agg #[.pointer (some ⟨xb, 0, none⟩)]) _ _ (show i < Bt.cnt 0 t by omega) hJ2 hT.sat (hle.trans hT.le)
  refine ⟨fn_, tm_, as_, bo_, hy1, RoundIn.mono hy2 fun e w6 he => ?_⟩
  cases e <;> try exact (he : False).elim
  obtain ⟨rfl, M2, hs6, hJ3⟩ := he
  have hbu:=hbu.step hs6 (fun g2 hg hn => hn (by have := hfr g2 hg; show _ ≤ _; omega))
  have hcl1:=hcl1.mono EncB.mono hs6.le
  have hxb:=hs6.le _ _ hxb
  have hxts:=hxts.mono' EncB.mono hs6.le
  have hox:=hox.step hs6 (fun hn => hn (by show _ ≤ _; omega))
  have hle2 := (hle.trans hT.le).trans hs6.le
  have hz6 := hs6.size
  clear hT
  have hT := Step.refl (fun k => w.heap.size + 2 ≤ k) hs6.sat
  refine as_q rfl rfl (q_not rfl) ?_
  refine as_nil (κ _ _ ?_)
  refine cw_false rfl ?_
  refine cw_skip ?_
  refine hK14 _ _ ?_
  refine cw_region fun _ κ => ?_
  refine Sm rfl rfl ?_
  refine Sf 0 rfl (by kernel_rfl) rfl ?_
  refine S1 rfl (by kernel_rfl) rfl (by exact Blk.cell hox.1 rfl) ?_
  refine as_q rfl rfl (q_nilp rfl) ?_
  refine Sf 2 rfl (by kernel_rfl) rfl ?_
  refine Sc 1 rfl (by kernel_rfl) rfl (by exact BlkR.cells (hs6.sat _ _ _ hxb) rfl) ?_
  refine as_h rfl (h_call (by kernel_rfl) rfl ?_)
  refine (sh_all hs6.sat hxts (by omega)).mono ?_
  rintro _ w7 ⟨ra, rc, Mr, es, rfl, hs7, hrb, hrl, _⟩
  have hbu:=hbu.then hs7
  have hcl1:=hcl1.mono EncB.mono hs7.le
  have hT:=hT.then hs7
  have hz7 := hs7.size
  have hb2 := hbu.front1 (j := st1.length) (by omega)
  rw [List.take_append_of_le_length (by omega), List.take_of_length_le (by omega)] at hb2
  have hTq := hT.size
  refine as_h rfl (h_append (e := 93) (size := 1) (bytes := 8) (by kernel_rfl) hs7.sat hb2 hrb.rd rfl rfl (encB_one hrl) (by omega) rfl fun sv w8 hs8 hbu3 hor => ?_)
  have hcl1:=hcl1.mono EncB.mono hs8.le
  have hrl:=hrl.mono EncB.mono hs8.le
  have hT:=hT.trans hs8 (fun k hk h => by have := hfr1 k h; show _ ≤ _; omega)
  have hz_ := hs8.size
  have hfr2 : ∀ g2, sv.ownBlock = some g2 → W0.heap.size ≤ g2 := fun g2 hg => by
   rcases hor with h | h
   · rw [h] at hg; exact hfr1 g2 hg
   · rw [h] at hg; have h2 := Option.some.inj hg; omega
  have hlen2 : st1.length + RT.sizes ts = (st1 ++ RT.alls ts).length := by rw [List.length_append, RT.alls_length]
  rw [hlen2] at hbu3
  obtain ⟨sva, svc, rfl, _, _⟩ := hbu3.slice
  have hbu2 := hbu3
  refine Sa rfl rfl ?_
  refine as_nil (κ _ _ ?_)
  refine ⟨_, _, ?_, (.cons rfl (.cons rfl (.cons rfl (.nil _)))), i + 1, st1 ++ RT.alls ts, _, _, _, _, rfl, ?_, ?_, rfl, hle2.trans hT.le, hT.sat, by omega, habide _ _ _ _ _ hJ3 hT, hbu2, hcl1.append hrl, hfr2⟩
  · rw [Bt.cntL_append, Bt.cntQ_alls]; omega
  · rw [Bt.cntL_append, Bt.cntQ_alls]; omega
  · rw [Bt.cntL_append, Bt.cntQ_alls]; omega
end Go.Proofs.YtgcgjpfjjgalmaaGreat
/- Heaps without their least element, and sizes, part 1. -/
namespace Go.Proofs.YtgcgjpfjjgalmaaGreat
open Go Go.Eng
mutual
theorem Bt.cnt_le : ∀ t : Bt, Bt.cnt 0 t ≤ Bt.cnt 1 t
 | .nil => Nat.zero_le _
 | .node _ ts => by have := Bt.cntQ_le ts; simp only [Bt.cnt]; omega
theorem Bt.cntQ_le : ∀ l : List (RT Bt), Bt.cntQ 0 l ≤ Bt.cntQ 1 l
 | [] => Nat.le_refl _
 | t :: r => by have := Bt.cntT_le t; have := Bt.cntQ_le r; simp only [Bt.cntQ]; omega
theorem Bt.cntT_le : ∀ t : RT Bt, Bt.cntT 0 t ≤ Bt.cntT 1 t
 | .node x bs ks => by have := Bt.cnt_le x; have := Bt.cntL_le bs; have := Bt.cntQ_le ks; simp only [Bt.cntT]; omega
theorem Bt.cntL_le : ∀ l : List Bt, Bt.cntL 0 l ≤ Bt.cntL 1 l
 | [] => Nat.le_refl _
 | t :: r => by have := Bt.cnt_le t; have := Bt.cntL_le r; simp only [Bt.cntL]; omega
end
theorem se_min0 {w : World} {M : Mem} (hs : Sat M w) :
  Does Tryz.prog 184 #[.agg #[.pointer none], .pointer none] w (fun v w' => v = .tuple #[.agg (elc (0, 0)).toArray, .bool false] ∧ Step Nope M w M w') := by
 have hT := Step.refl Nope hs
 refine fn_enter Tryz.func184 rfl (rs := [.cell 4 24, .tmp 5]) rfl rfl rfl rfl ?_
 refine cw_rs fun _ κ => ?_
 refine as_h rfl (h_boxM hs rfl rfl fun b1 M1 w1 hs1 hb1 e1 => ?_)
 have hT:=hT.then hs1
 have hz1 := hs1.size
 have hqar := hT.size
 refine as_h rfl (h_allocO (z := (.agg #[(.int .i64 0), (.int .i64 0)])) hs1.sat (by kernel_rfl) rfl fun br w2 hs2 hor er => ?_)
 have hb1:=hs2.le _ _ hb1
 have hT:=hT.then hs2
 have hz2 := hs2.size
 have hlr := hor.1.lt
 refine Sa rfl rfl ?_
 refine as_nil (κ _ _ ?_)
 refine cw_rs fun _ κ => ?_
 refine Sf 0 rfl (by kernel_rfl) rfl ?_
 refine Sc 1 rfl (by kernel_rfl) rfl (by exact BlkR.cells (hs2.sat _ _ _ hb1) rfl) ?_
 refine as_h rfl (h_call (by kernel_rfl) rfl ?_)
 refine (ce_all (vs := []) hs2.sat rfl (by decide)).mono ?_
 rintro av w3 ⟨Ma, hs3, hba, hfa⟩
 have hor:=hor.then hs3
 have hT:=hT.then hs3
 have hz3 := hs3.size
 obtain ⟨aa, ac, rfl, _, _⟩ := hba.slice
 refine Sa rfl rfl ?_
 refine as_nil (κ _ _ ?_)
 refine cw_seq fun _ hK3 => ?_
 refine cw_rs fun _ κ => ?_
 refine Sm rfl rfl ?_
 refine as_q rfl rfl (q_len (by kernel_rfl) rfl _) ?_
 refine as_q rfl rfl (q_eq rfl rfl) ?_
 refine as_nil (κ _ _ ?_)
 refine cw_true rfl ?_
 refine cw_rs fun _ κ => ?_
 have hqaz := hT.size
 refine as_h rfl (h_allocO (z := (.agg #[(.int .i64 0), (.int .i64 0)])) hs3.sat (by kernel_rfl) rfl fun bz w4 hs4 hoz ez => ?_)
 have hor:=hor.then hs4
 have hT:=hT.then hs4
 have hz4 := hs4.size
 have hlz := hoz.1.lt
 refine as_nil (κ _ _ ?_)
 refine cw_rs fun _ κ => ?_
 refine Sc 2 rfl (by kernel_rfl) rfl (by exact Blk.cells hoz.1 rfl) ?_
 refine as_h0 (h_store hs4.sat hor rfl rfl rfl (by kernel_rfl) rfl rfl rfl fun w5 hs5 hn5 => ?_)
 clear hor; have hor := hn5; clear hn5
 have hT:=hT.own hs5 (by omega)
 have hz5 := hs5.size
 refine Sa rfl rfl ?_
 refine as_nil (κ _ _ ?_)
 refine cw_ret ?_
 exact ⟨_, (res_cell rfl (loadVar_n (n := 2) (by kernel_rfl) (by exact Blk.cells hor.1 rfl)) (res_tmp rfl res_nil)), rfl, hT.forget⟩
theorem sh_min0 {w : World} {M : Mem} (hs : Sat M w) :
  Does Tryz.prog 225 #[.agg #[.pointer none], .pointer none] w (fun v w' => v = .tuple #[.agg #[.pointer none], .bool false] ∧ Step Nope M w M w') := by
 have hT := Step.refl Nope hs
 refine fn_enter Tryz.func225 rfl (rs := [.cell 4 93, .tmp 5]) rfl rfl rfl rfl ?_
 refine cw_rs fun _ κ => ?_
 refine as_h rfl (h_boxM hs rfl rfl fun b1 M1 w1 hs1 hb1 e1 => ?_)
 have hT:=hT.then hs1
 have hz1 := hs1.size
 have hqar := hT.size
 refine as_h rfl (h_allocO (z := (.agg #[(.pointer none)])) hs1.sat (by kernel_rfl) rfl fun br w2 hs2 hor er => ?_)
 have hb1:=hs2.le _ _ hb1
 have hT:=hT.then hs2
 have hz2 := hs2.size
 have hlr := hor.1.lt
 refine Sa rfl rfl ?_
 refine as_nil (κ _ _ ?_)
 refine cw_rs fun _ κ => ?_
 refine Sf 0 rfl (by kernel_rfl) rfl ?_
 refine Sc 1 rfl (by kernel_rfl) rfl (by exact BlkR.cells (hs2.sat _ _ _ hb1) rfl) ?_
 refine as_h rfl (h_call (by kernel_rfl) rfl ?_)
 refine (ch_all (vs := []) hs2.sat rfl (by decide)).mono ?_
 rintro av w3 ⟨Ma, hs3, hba, hfa⟩
 have hor:=hor.then hs3
 have hT:=hT.then hs3
 have hz3 := hs3.size
 obtain ⟨aa, ac, rfl, _, _⟩ := hba.slice
 refine Sa rfl rfl ?_
 refine as_nil (κ _ _ ?_)
 refine cw_seq fun _ hK3 => ?_
 refine cw_rs fun _ κ => ?_
 refine Sm rfl rfl ?_
 refine as_q rfl rfl (q_len (by kernel_rfl) rfl _) ?_
 refine as_q rfl rfl (q_eq rfl rfl) ?_
 refine as_nil (κ _ _ ?_)
 refine cw_true rfl ?_
 refine cw_rs fun _ κ => ?_
 have hqaz := hT.size
 refine as_h rfl (h_allocO (z := (.agg #[(.pointer none)])) hs3.sat (by kernel_rfl) rfl fun bz w4 hs4 hoz ez => ?_)
 have hor:=hor.then hs4
 have hT:=hT.then hs4
 have hz4 := hs4.size
 have hlz := hoz.1.lt
 refine as_nil (κ _ _ ?_)
 refine cw_rs fun _ κ => ?_
 refine Sc 1 rfl (by kernel_rfl) rfl (by exact Blk.cells hoz.1 rfl) ?_
 refine as_h0 (h_store hs4.sat hor rfl rfl rfl (by kernel_rfl) rfl rfl rfl fun w5 hs5 hn5 => ?_)
 clear hor; have hor := hn5; clear hn5
 have hT:=hT.own hs5 (by omega)
 have hz5 := hs5.size
 refine Sa rfl rfl ?_
 refine as_nil (κ _ _ ?_)
 refine cw_ret ?_
 exact ⟨_, (res_cell rfl (loadVar_n (n := 1) (by kernel_rfl) (by exact Blk.cells hor.1 rfl)) (res_tmp rfl res_nil)), rfl, hT.forget⟩
theorem r_pop_1 {w : World} {M : Mem} {x : El} {q : Option Addr} (hs : Sat M w) (h : RoRep 283 197 220 M (.node x []) q) :
  Does Tryz.prog 206 #[.agg #[.pointer q], .pointer none] w (fun v w' => ∃ q M', v = .tuple #[.agg #[.pointer q], .bool true] ∧ Step Nope M w M' w' ∧ RoRep 283 197 220 M' .nil q) := by
 have hT := Step.refl Nope hs
 obtain ⟨b, qs, rfl, hb, ht⟩ := h
 obtain rfl := frep_nil.1 ht
 refine fn_enter Tryz.func206 rfl (rs := [.cell 4 88, .tmp 5]) rfl rfl rfl rfl ?_
 refine cw_rs fun _ κ => ?_
 refine as_h rfl (h_boxM hs rfl rfl fun b1 M1 w1 hs1 hb1 e1 => ?_)
 have hb:=hs1.le _ _ hb
 have hT:=hT.then hs1
 have hz1 := hs1.size
 have hqar := hT.size
 refine as_h rfl (h_allocO (z := (.agg #[(.pointer none)])) hs1.sat (by kernel_rfl) rfl fun br w2 hs2 hor er => ?_)
 have hb:=hs2.le _ _ hb
 have hb1:=hs2.le _ _ hb1
 have hT:=hT.then hs2
 have hz2 := hs2.size
 have hlr := hor.1.lt
 refine Sa rfl rfl ?_
 refine as_nil (κ _ _ ?_)
 refine cw_seq fun _ hK2 => ?_
 refine cw_rs fun _ κ => ?_
 refine Sf 0 rfl (by kernel_rfl) rfl ?_
 refine S1 rfl (by kernel_rfl) rfl (by exact BlkR.cell (hs2.sat _ _ _ hb1) rfl) ?_
 refine as_q rfl rfl (q_eqnil (by kernel_rfl) rfl) ?_
 refine as_nil (κ _ _ ?_)
 refine cw_false rfl ?_
 refine cw_skip ?_
 refine hK2 _ _ ?_
 refine cw_rs fun _ κ => ?_
 refine Sf 0 rfl (by kernel_rfl) rfl ?_
 refine S1 rfl (by kernel_rfl) rfl (by exact BlkR.cell (hs2.sat _ _ _ hb1) rfl) ?_
 refine as_q rfl rfl (q_nilp rfl) ?_
 refine Sf 0 rfl (by kernel_rfl) rfl ?_
 refine Sc 1 rfl (by kernel_rfl) rfl (by exact BlkR.cells (hs2.sat _ _ _ hb) rfl) ?_
 refine Sm rfl rfl ?_
 refine as_h rfl (h_call (by kernel_rfl) rfl ?_)
 refine (se_min0 hs2.sat).mono ?_
 rintro _ w3 ⟨rfl, hs3⟩
 have hor:=hor.then hs3
 have hT:=hT.then hs3
 have hz3 := hs3.size
 refine Sm rfl rfl ?_
 refine Se rfl rfl rfl ?_
 refine Se rfl rfl rfl ?_
 have hqam := hT.size
 refine as_h rfl (h_allocO (z := (.agg #[(.int .i64 0), (.int .i64 0)])) hs3.sat (by kernel_rfl) rfl fun bm w4 hs4 hom em => ?_)
 have hor:=hor.then hs4
 have hT:=hT.then hs4
 have hz4 := hs4.size
 have hlm := hom.1.lt
 refine as_h0 (h_store hs4.sat hom rfl rfl rfl (by kernel_rfl) rfl rfl rfl fun w5 hs5 hn5 => ?_)
 have hor:=hor.step hs5 (fun h => by have h : _ = _ := h; omega)
 clear hom; have hom := hn5; clear hn5
 have hT:=hT.own hs5 (by omega)
 have hz5 := hs5.size
 refine Sa rfl rfl ?_
 refine as_nil (κ _ _ ?_)
 refine cw_seq fun _ hK5 => ?_
 refine cw_rs fun _ κ => ?_
 refine Sm rfl rfl ?_
 refine as_q rfl rfl (q_not rfl) ?_
 refine as_nil (κ _ _ ?_)
 refine cw_true rfl ?_
 refine cw_rs fun _ κ => ?_
 refine as_q rfl rfl (q_build (zs := [(.pointer none)]) (places := [(0, 1)]) (cs := [_]) (by kernel_rfl) (by kernel_rfl) rfl rfl) ?_
 refine as_h0 (h_store hs5.sat hor rfl rfl rfl (by kernel_rfl) rfl rfl rfl fun w6 hs6 hn6 => ?_)
 clear hor; have hor := hn6; clear hn6
 have hT:=hT.own hs6 (by omega)
 have hz6 := hs6.size
 refine Sa rfl rfl ?_
 refine as_nil (κ _ _ ?_)
 refine cw_ret ?_
 exact ⟨_, (res_cell rfl (loadVar_n (n := 1) (by kernel_rfl) (by exact Blk.cells hor.1 rfl)) (res_tmp rfl res_nil)), _, _, rfl, hT, rfl⟩
theorem r_pop_2 {w : World} {M : Mem} {x y : El} {bs : List El} {ks ts : List (RT El)} {q : Option Addr} (hs : Sat M w) (h : RoRep 283 197 220 M (.node x ts) q) (hk : ts[leastN ltE (ts.map RT.root) (ts.length - 1)]? = some (.node y bs ks)) (hz : RT.sizes ts ≤ 1000000000) :
  Does Tryz.prog 206 #[.agg #[.pointer q], .pointer none] w (fun v w' => ∃ q M', v = .tuple #[.agg #[.pointer q], .bool true] ∧ Step Nope M w M' w' ∧ RoRep 283 197 220 M' (.node y (spop ltE ts (.node y bs ks))) q) := by
 have hT := Step.refl Nope hs
 obtain ⟨b, qs, rfl, hb, ht⟩ := h
 refine fn_enter Tryz.func206 rfl (rs := [.cell 4 88, .tmp 5]) rfl rfl rfl rfl ?_
 refine cw_rs fun _ κ => ?_
 refine as_h rfl (h_boxM hs rfl rfl fun b1 M1 w1 hs1 hb1 e1 => ?_)
 have hb:=hs1.le _ _ hb
 have ht:=ht.mono' EncE.mono hs1.le
 have hT:=hT.then hs1
 have hz1 := hs1.size
 have hqar := hT.size
 refine as_h rfl (h_allocO (z := (.agg #[(.pointer none)])) hs1.sat (by kernel_rfl) rfl fun br w2 hs2 hor er => ?_)
 have hb:=hs2.le _ _ hb
 have ht:=ht.mono' EncE.mono hs2.le
 have hb1:=hs2.le _ _ hb1
 have hT:=hT.then hs2
 have hz2 := hs2.size
 have hlr := hor.1.lt
 refine Sa rfl rfl ?_
 refine as_nil (κ _ _ ?_)
 refine cw_seq fun _ hK2 => ?_
 refine cw_rs fun _ κ => ?_
 refine Sf 0 rfl (by kernel_rfl) rfl ?_
 refine S1 rfl (by kernel_rfl) rfl (by exact BlkR.cell (hs2.sat _ _ _ hb1) rfl) ?_
 refine as_q rfl rfl (q_eqnil (by kernel_rfl) rfl) ?_
 refine as_nil (κ _ _ ?_)
 refine cw_false rfl ?_
 refine cw_skip ?_
 refine hK2 _ _ ?_
 refine cw_rs fun _ κ => ?_
 refine Sf 0 rfl (by kernel_rfl) rfl ?_
 refine S1 rfl (by kernel_rfl) rfl (by exact BlkR.cell (hs2.sat _ _ _ hb1) rfl) ?_
 refine as_q rfl rfl (q_nilp rfl) ?_
 refine Sf 0 rfl (by kernel_rfl) rfl ?_
 refine Sc 1 rfl (by kernel_rfl) rfl (by exact BlkR.cells (hs2.sat _ _ _ hb) rfl) ?_
 refine Sm rfl rfl ?_
 refine as_h rfl (h_call (by kernel_rfl) rfl ?_)
 refine (se_min hs2.sat ht hk hz).mono ?_
 rintro _ w3 ⟨rfl, hs3⟩
 have hb:=hs3.le _ _ hb
 have ht:=ht.mono' EncE.mono hs3.le
 have hb1:=hs3.le _ _ hb1
 have hor:=hor.then hs3
 have hT:=hT.then hs3
 have hz3 := hs3.size
 refine Sm rfl rfl ?_
 refine Se rfl rfl rfl ?_
 refine Se rfl rfl rfl ?_
 have hqam := hT.size
 refine as_h rfl (h_allocO (z := (.agg #[(.int .i64 0), (.int .i64 0)])) hs3.sat (by kernel_rfl) rfl fun bm w4 hs4 hom em => ?_)
 have hb:=hs4.le _ _ hb
 have ht:=ht.mono' EncE.mono hs4.le
 have hb1:=hs4.le _ _ hb1
 have hor:=hor.then hs4
 have hT:=hT.then hs4
 have hz4 := hs4.size
 have hlm := hom.1.lt
 refine as_h0 (h_store hs4.sat hom rfl rfl rfl (by kernel_rfl) rfl rfl rfl fun w5 hs5 hn5 => ?_)
 have hb:=hs5.le _ _ hb
 have ht:=ht.mono' EncE.mono hs5.le
 have hb1:=hs5.le _ _ hb1
 have hor:=hor.step hs5 (fun h => by have h : _ = _ := h; omega)
 clear hom; have hom := hn5; clear hn5
 have hT:=hT.own hs5 (by omega)
 have hz5 := hs5.size
 refine Sa rfl rfl ?_
 refine as_nil (κ _ _ ?_)
 refine cw_seq fun _ hK5 => ?_
 refine cw_rs fun _ κ => ?_
 refine Sm rfl rfl ?_
 refine as_q rfl rfl (q_not rfl) ?_
 refine as_nil (κ _ _ ?_)
 refine cw_false rfl ?_
 refine cw_skip ?_
 refine hK5 _ _ ?_
 refine cw_rs fun _ κ => ?_
 refine Sf 0 rfl (by kernel_rfl) rfl ?_
 refine S1 rfl (by kernel_rfl) rfl (by exact BlkR.cell (hs5.sat _ _ _ hb1) rfl) ?_
 refine as_q rfl rfl (q_nilp rfl) ?_
 refine Sf 0 rfl (by kernel_rfl) rfl ?_
 refine Sc 1 rfl (by kernel_rfl) rfl (by exact BlkR.cells (hs5.sat _ _ _ hb) rfl) ?_
 refine Sm rfl rfl ?_
 refine as_h rfl (h_call (by kernel_rfl) rfl ?_)
 refine (se_pop (ts := ts) hs5.sat ht hk hz).mono ?_
 rintro _ w6 ⟨qp, Mp, rfl, hs6, hpp⟩
 have hor:=hor.then hs6
 have hom:=hom.then hs6
 have hT:=hT.then hs6
 have hz6 := hs6.size
 refine Sm rfl rfl ?_
 refine Se rfl rfl rfl ?_
 refine Se rfl rfl rfl ?_
 have hqal := hT.size
 refine as_h rfl (h_allocO (z := (.agg #[(.pointer none)])) hs6.sat (by kernel_rfl) rfl fun bl w7 hs7 hol el => ?_)
 have hor:=hor.then hs7
 have hom:=hom.then hs7
 have hpp:=hpp.mono' EncE.mono hs7.le
 have hT:=hT.then hs7
 have hz7 := hs7.size
 have hll := hol.1.lt
 refine as_h0 (h_store hs7.sat hol rfl rfl rfl (by kernel_rfl) rfl rfl rfl fun w8 hs8 hn8 => ?_)
 have hor:=hor.step hs8 (fun h => by have h : _ = _ := h; omega)
 have hom:=hom.step hs8 (fun h => by have h : _ = _ := h; omega)
 have hpp:=hpp.mono' EncE.mono hs8.le
 clear hol; have hol := hn8; clear hn8
 have hT:=hT.own hs8 (by omega)
 have hz8 := hs8.size
 refine Sa rfl rfl ?_
 refine as_nil (κ _ _ ?_)
 refine cw_rs fun _ κ => ?_
 refine Sm rfl rfl ?_
 refine Sc 2 rfl (by kernel_rfl) rfl (by exact Blk.cells hom.1 rfl) ?_
 refine Sc 1 rfl (by kernel_rfl) rfl (by exact Blk.cells hol.1 rfl) ?_
 refine as_h rfl (h_call (by kernel_rfl) rfl ?_)
 refine (r_made (x := y) hs8.sat hpp).mono ?_
 rintro _ w9 ⟨qm, Mm, rfl, hs9, hm⟩
 have hor:=hor.then hs9
 have hT:=hT.then hs9
 have hz9 := hs9.size
 refine as_h0 (h_store hs9.sat hor rfl rfl rfl (by kernel_rfl) rfl rfl rfl fun w10 hs10 hn10 => ?_)
 have hm:=hm.mono hs10.le
 clear hor; have hor := hn10; clear hn10
 have hT:=hT.own hs10 (by omega)
 have hz10 := hs10.size
 refine Sa rfl rfl ?_
 refine as_nil (κ _ _ ?_)
 refine cw_ret ?_
 exact ⟨_, (res_cell rfl (loadVar_n (n := 1) (by kernel_rfl) (by exact Blk.cells hor.1 rfl)) (res_tmp rfl res_nil)), _, _, rfl, hT, hm⟩
theorem bo_pop_1 {w : World} {M : Mem} {x : El} {q : Option Addr} (hs : Sat M w) (h : BRep 296 330 332 M (.node x []) q) :
  Does Tryz.prog 220 #[.agg #[.pointer q], .pointer none] w (fun v w' => ∃ q M', v = .tuple #[.agg #[.pointer q], .bool true] ∧ Step Nope M w M' w' ∧ BRep 296 330 332 M' .nil q) := by
 have hT := Step.refl Nope hs
 obtain ⟨b, qs, rfl, hb, ht⟩ := brep_node.1 h
 obtain rfl := frep_nil.1 ht
 refine fn_enter Tryz.func220 rfl (rs := [.cell 4 93, .tmp 5]) rfl rfl rfl rfl ?_
 refine cw_rs fun _ κ => ?_
 refine as_h rfl (h_boxM hs rfl rfl fun b1 M1 w1 hs1 hb1 e1 => ?_)
 have hb:=hs1.le _ _ hb
 have hT:=hT.then hs1
 have hz1 := hs1.size
 have hqar := hT.size
 refine as_h rfl (h_allocO (z := (.agg #[(.pointer none)])) hs1.sat (by kernel_rfl) rfl fun br w2 hs2 hor er => ?_)
 have hb:=hs2.le _ _ hb
 have hb1:=hs2.le _ _ hb1
 have hT:=hT.then hs2
 have hz2 := hs2.size
 have hlr := hor.1.lt
 refine Sa rfl rfl ?_
 refine as_nil (κ _ _ ?_)
 refine cw_seq fun _ hK2 => ?_
 refine cw_rs fun _ κ => ?_
 refine Sf 0 rfl (by kernel_rfl) rfl ?_
 refine S1 rfl (by kernel_rfl) rfl (by exact BlkR.cell (hs2.sat _ _ _ hb1) rfl) ?_
 refine as_q rfl rfl (q_eqnil (by kernel_rfl) rfl) ?_
 refine as_nil (κ _ _ ?_)
 refine cw_false rfl ?_
 refine cw_skip ?_
 refine hK2 _ _ ?_
 refine cw_rs fun _ κ => ?_
 refine Sf 0 rfl (by kernel_rfl) rfl ?_
 refine S1 rfl (by kernel_rfl) rfl (by exact BlkR.cell (hs2.sat _ _ _ hb1) rfl) ?_
 refine as_q rfl rfl (q_nilp rfl) ?_
 refine Sf 2 rfl (by kernel_rfl) rfl ?_
 refine Sc 1 rfl (by kernel_rfl) rfl (by exact BlkR.cells (hs2.sat _ _ _ hb) rfl) ?_
 refine Sm rfl rfl ?_
 refine as_h rfl (h_call (by kernel_rfl) rfl ?_)
 refine (sh_min0 hs2.sat).mono ?_
 rintro _ w3 ⟨rfl, hs3⟩
 have hor:=hor.then hs3
 have hT:=hT.then hs3
 have hz3 := hs3.size
 refine Sm rfl rfl ?_
 refine Se rfl rfl rfl ?_
 refine Se rfl rfl rfl ?_
 have hqaf := hT.size
 refine as_h rfl (h_allocO (z := (.agg #[(.pointer none)])) hs3.sat (by kernel_rfl) rfl fun bf w4 hs4 hof ef => ?_)
 have hor:=hor.then hs4
 have hT:=hT.then hs4
 have hz4 := hs4.size
 have hlf := hof.1.lt
 refine as_h0 (h_store hs4.sat hof rfl rfl rfl (by kernel_rfl) rfl rfl rfl fun w5 hs5 hn5 => ?_)
 have hor:=hor.step hs5 (fun h => by have h : _ = _ := h; omega)
 clear hof; have hof := hn5; clear hn5
 have hT:=hT.own hs5 (by omega)
 have hz5 := hs5.size
 refine Sa rfl rfl ?_
 refine as_nil (κ _ _ ?_)
 refine cw_seq fun _ hK5 => ?_
 refine cw_rs fun _ κ => ?_
 refine Sm rfl rfl ?_
 refine as_q rfl rfl (q_not rfl) ?_
 refine as_nil (κ _ _ ?_)
 refine cw_true rfl ?_
 refine cw_rs fun _ κ => ?_
 refine as_q rfl rfl (q_build (zs := [(.pointer none)]) (places := [(0, 1)]) (cs := [_]) (by kernel_rfl) (by kernel_rfl) rfl rfl) ?_
 refine as_h0 (h_store hs5.sat hor rfl rfl rfl (by kernel_rfl) rfl rfl rfl fun w6 hs6 hn6 => ?_)
 clear hor; have hor := hn6; clear hn6
 have hT:=hT.own hs6 (by omega)
 have hz6 := hs6.size
 refine Sa rfl rfl ?_
 refine as_nil (κ _ _ ?_)
 refine cw_ret ?_
 exact ⟨_, (res_cell rfl (loadVar_n (n := 1) (by kernel_rfl) (by exact Blk.cells hor.1 rfl)) (res_tmp rfl res_nil)), _, _, rfl, hT, brep_nil.2 rfl⟩
theorem bo_pop_2 {w : World} {M : Mem} {x y : El} {bs : List Bt} {ks ts us : List (RT Bt)} {q : Option Addr} (hs : Sat M w) (h : BRep 296 330 332 M (.node x ts) q) (hk : ts[leastN ltB (ts.map RT.root) (ts.length - 1)]? = some (.node (.node y us) bs ks)) (hz : RT.sizes ts ≤ 1000000000) (hzm : RT.sizes us + RT.sizes (spop ltB ts (.node (.node y us) bs ks)) ≤ 1000000000) :
  Does Tryz.prog 220 #[.agg #[.pointer q], .pointer none] w (fun v w' => ∃ q M', v = .tuple #[.agg #[.pointer q], .bool true] ∧ Step Nope M w M' w' ∧ BRep 296 330 332 M' (Bt.popped ts (.node (.node y us) bs ks) y us) q) := by
 have hT := Step.refl Nope hs
 obtain ⟨b, qs, rfl, hb, ht⟩ := brep_node.1 h
 refine fn_enter Tryz.func220 rfl (rs := [.cell 4 93, .tmp 5]) rfl rfl rfl rfl ?_
 refine cw_rs fun _ κ => ?_
 refine as_h rfl (h_boxM hs rfl rfl fun b1 M1 w1 hs1 hb1 e1 => ?_)
 have hb:=hs1.le _ _ hb
 have ht:=ht.mono' encB_mono hs1.le
 have hT:=hT.then hs1
 have hz1 := hs1.size
 have hqar := hT.size
 refine as_h rfl (h_allocO (z := (.agg #[(.pointer none)])) hs1.sat (by kernel_rfl) rfl fun br w2 hs2 hor er => ?_)
 have hb:=hs2.le _ _ hb
 have ht:=ht.mono' encB_mono hs2.le
 have hb1:=hs2.le _ _ hb1
 have hT:=hT.then hs2
 have hz2 := hs2.size
 have hlr := hor.1.lt
 refine Sa rfl rfl ?_
 refine as_nil (κ _ _ ?_)
 refine cw_seq fun _ hK2 => ?_
 refine cw_rs fun _ κ => ?_
 refine Sf 0 rfl (by kernel_rfl) rfl ?_
 refine S1 rfl (by kernel_rfl) rfl (by exact BlkR.cell (hs2.sat _ _ _ hb1) rfl) ?_
 refine as_q rfl rfl (q_eqnil (by kernel_rfl) rfl) ?_
 refine as_nil (κ _ _ ?_)
 refine cw_false rfl ?_
 refine cw_skip ?_
 refine hK2 _ _ ?_
 refine cw_rs fun _ κ => ?_
 refine Sf 0 rfl (by kernel_rfl) rfl ?_
 refine S1 rfl (by kernel_rfl) rfl (by exact BlkR.cell (hs2.sat _ _ _ hb1) rfl) ?_
 refine as_q rfl rfl (q_nilp rfl) ?_
 refine Sf 2 rfl (by kernel_rfl) rfl ?_
 refine Sc 1 rfl (by kernel_rfl) rfl (by exact BlkR.cells (hs2.sat _ _ _ hb) rfl) ?_
 refine Sm rfl rfl ?_
 refine as_h rfl (h_call (by kernel_rfl) rfl ?_)
 refine (sh_min hs2.sat ht hk hz).mono ?_
 rintro _ w3 ⟨qx, Mx, rfl, hs3, hqx⟩
 obtain ⟨qy, hqy, hqx⟩ := encB_iff.1 hqx
 obtain rfl : qx = qy := by simpa using hqy
 obtain ⟨by_, qys, rfl, hby, hus⟩ := brep_node.1 hqx
 have hb:=hs3.le _ _ hb
 have ht:=ht.mono' encB_mono hs3.le
 have hb1:=hs3.le _ _ hb1
 have hor:=hor.then hs3
 have hT:=hT.then hs3
 have hz3 := hs3.size
 refine Sm rfl rfl ?_
 refine Se rfl rfl rfl ?_
 refine Se rfl rfl rfl ?_
 have hqaf := hT.size
 refine as_h rfl (h_allocO (z := (.agg #[(.pointer none)])) hs3.sat (by kernel_rfl) rfl fun bf w4 hs4 hof ef => ?_)
 have hb:=hs4.le _ _ hb
 have ht:=ht.mono' encB_mono hs4.le
 have hb1:=hs4.le _ _ hb1
 have hor:=hor.then hs4
 have hby:=hs4.le _ _ hby
 have hus:=hus.mono' encB_mono hs4.le
 have hT:=hT.then hs4
 have hz4 := hs4.size
 have hlf := hof.1.lt
 refine as_h0 (h_store hs4.sat hof rfl rfl rfl (by kernel_rfl) rfl rfl rfl fun w5 hs5 hn5 => ?_)
 have hb:=hs5.le _ _ hb
 have ht:=ht.mono' encB_mono hs5.le
 have hb1:=hs5.le _ _ hb1
 have hor:=hor.step hs5 (fun h => by have h : _ = _ := h; omega)
 have hby:=hs5.le _ _ hby
 have hus:=hus.mono' encB_mono hs5.le
 clear hof; have hof := hn5; clear hn5
 have hT:=hT.own hs5 (by omega)
 have hz5 := hs5.size
 refine Sa rfl rfl ?_
 refine as_nil (κ _ _ ?_)
 refine cw_seq fun _ hK5 => ?_
 refine cw_rs fun _ κ => ?_
 refine Sm rfl rfl ?_
 refine as_q rfl rfl (q_not rfl) ?_
 refine as_nil (κ _ _ ?_)
 refine cw_false rfl ?_
 refine cw_skip ?_
 refine hK5 _ _ ?_
 refine cw_rs fun _ κ => ?_
 refine Sf 0 rfl (by kernel_rfl) rfl ?_
 refine S1 rfl (by kernel_rfl) rfl (by exact BlkR.cell (hs5.sat _ _ _ hb1) rfl) ?_
 refine as_q rfl rfl (q_nilp rfl) ?_
 refine Sf 2 rfl (by kernel_rfl) rfl ?_
 refine Sc 1 rfl (by kernel_rfl) rfl (by exact BlkR.cells (hs5.sat _ _ _ hb) rfl) ?_
 refine Sm rfl rfl ?_
 refine as_h rfl (h_call (by kernel_rfl) rfl ?_)
 refine (sh_pop (ts := ts) hs5.sat ht hk hz).mono ?_
 rintro _ w6 ⟨qp, Mp, rfl, hs6, hpp⟩
 have hb:=hs6.le _ _ hb
 have hb1:=hs6.le _ _ hb1
 have hor:=hor.then hs6
 have hby:=hs6.le _ _ hby
 have hus:=hus.mono' encB_mono hs6.le
 have hof:=hof.then hs6
 have hT:=hT.then hs6
 have hz6 := hs6.size
 refine Sm rfl rfl ?_
 refine Se rfl rfl rfl ?_
 refine Se rfl rfl rfl ?_
 have hqal := hT.size
 refine as_h rfl (h_allocO (z := (.agg #[(.pointer none)])) hs6.sat (by kernel_rfl) rfl fun bl w7 hs7 hol el => ?_)
 have hb:=hs7.le _ _ hb
 have hb1:=hs7.le _ _ hb1
 have hor:=hor.then hs7
 have hby:=hs7.le _ _ hby
 have hus:=hus.mono' encB_mono hs7.le
 have hof:=hof.then hs7
 have hpp:=hpp.mono' encB_mono hs7.le
 have hT:=hT.then hs7
 have hz7 := hs7.size
 have hll := hol.1.lt
 refine as_h0 (h_store hs7.sat hol rfl rfl rfl (by kernel_rfl) rfl rfl rfl fun w8 hs8 hn8 => ?_)
 have hb:=hs8.le _ _ hb
 have hb1:=hs8.le _ _ hb1
 have hor:=hor.step hs8 (fun h => by have h : _ = _ := h; omega)
 have hby:=hs8.le _ _ hby
 have hus:=hus.mono' encB_mono hs8.le
 have hof:=hof.step hs8 (fun h => by have h : _ = _ := h; omega)
 have hpp:=hpp.mono' encB_mono hs8.le
 clear hol; have hol := hn8; clear hn8
 have hT:=hT.own hs8 (by omega)
 have hz8 := hs8.size
 refine Sa rfl rfl ?_
 refine as_nil (κ _ _ ?_)
 refine cw_dr (by kernel_rfl) fun _ κ => ?_
 have hs9 := Step.drew hs8.sat
 have hz9 := hs9.size
 have hb:=hs9.le _ _ hb
 have hb1:=hs9.le _ _ hb1
 have hor:=hor.then hs9
 have hby:=hs9.le _ _ hby
 have hus:=hus.mono' encB_mono hs9.le
 have hof:=hof.then hs9
 have hpp:=hpp.mono' encB_mono hs9.le
 have hol:=hol.then hs9
 have hT:=hT.then hs9
 refine Dm 0 1 rfl (by kernel_rfl) rfl ?_
 refine Df 1 3 0 rfl (by kernel_rfl) (by kernel_rfl) rfl ?_
 refine Dl1 2 7 rfl (by kernel_rfl) (by kernel_rfl) rfl (by exact Blk.cell hof.1 rfl) ?_
 refine Dq 3 15 rfl (by kernel_rfl) (fun _ => (q_nilp rfl)) ?_
 refine Df 4 31 0 rfl (by kernel_rfl) (by kernel_rfl) rfl ?_
 refine Dlc 5 63 2 rfl (by kernel_rfl) (by kernel_rfl) rfl (by exact BlkR.cells (hs9.sat _ _ _ hby) rfl) ?_
 refine Df 6 127 0 rfl (by kernel_rfl) (by kernel_rfl) rfl ?_
 refine Dl1 7 255 rfl (by kernel_rfl) (by kernel_rfl) rfl (by exact Blk.cell hof.1 rfl) ?_
 refine Dq 8 511 rfl (by kernel_rfl) (fun _ => (q_nilp rfl)) ?_
 refine Df 9 1023 2 rfl (by kernel_rfl) (by kernel_rfl) rfl ?_
 refine Dlc 10 2047 1 rfl (by kernel_rfl) (by kernel_rfl) rfl (by exact BlkR.cells (hs9.sat _ _ _ hby) rfl) ?_
 refine Dm 11 4095 rfl (by kernel_rfl) rfl ?_
 refine Dlc 12 8191 1 rfl (by kernel_rfl) (by kernel_rfl) rfl (by exact Blk.cells hol.1 rfl) ?_
 refine Dh 13 16383 rfl (by kernel_rfl) (keep_sift (bs := [T,T,F,F,F]) (by kernel_rfl)) (h_call (by kernel_rfl) rfl ?_)
 refine (sh_meld hs9.sat hus hpp hzm).mono ?_
 rintro _ w10 ⟨ql, Ml, rfl, hs10, hml⟩
 have hb:=hs10.le _ _ hb
 have hb1:=hs10.le _ _ hb1
 have hor:=hor.then hs10
 have hby:=hs10.le _ _ hby
 have hof:=hof.then hs10
 have hol:=hol.then hs10
 have hT:=hT.then hs10
 have hz10 := hs10.size
 refine ⟨(by repeat' first | exact trivial | exact BlkR.cell (hs10.sat _ _ _ hb) rfl | exact BlkR.cells (hs10.sat _ _ _ hb) rfl | exact BlkR.cell (hs10.sat _ _ _ hb1) rfl | exact BlkR.cells (hs10.sat _ _ _ hb1) rfl | exact Blk.cell hor.1 rfl | exact Blk.cells hor.1 rfl | exact BlkR.cell (hs10.sat _ _ _ hby) rfl | exact BlkR.cells (hs10.sat _ _ _ hby) rfl | exact Blk.cell hof.1 rfl | exact Blk.cells hof.1 rfl | exact Blk.cell hol.1 rfl | exact Blk.cells hol.1 rfl | assumption | refine all_keep ?_ | refine And.intro ?_ ?_), ?_⟩
 refine Dh 14 32767 rfl (by kernel_rfl) (keep_sift (bs := [F,T,F]) (by kernel_rfl)) (h_call (by kernel_rfl) rfl ?_)
 refine (bo_made (x := y) hs10.sat hml).mono ?_
 rintro _ w11 ⟨qm, Mm, rfl, hs11, hm⟩
 have hb:=hs11.le _ _ hb
 have hb1:=hs11.le _ _ hb1
 have hor:=hor.then hs11
 have hby:=hs11.le _ _ hby
 have hof:=hof.then hs11
 have hol:=hol.then hs11
 have hT:=hT.then hs11
 have hz11 := hs11.size
 refine ⟨(by repeat' first | exact trivial | exact BlkR.cell (hs11.sat _ _ _ hb) rfl | exact BlkR.cells (hs11.sat _ _ _ hb) rfl | exact BlkR.cell (hs11.sat _ _ _ hb1) rfl | exact BlkR.cells (hs11.sat _ _ _ hb1) rfl | exact Blk.cell hor.1 rfl | exact Blk.cells hor.1 rfl | exact BlkR.cell (hs11.sat _ _ _ hby) rfl | exact BlkR.cells (hs11.sat _ _ _ hby) rfl | exact Blk.cell hof.1 rfl | exact Blk.cells hof.1 rfl | exact Blk.cell hol.1 rfl | exact Blk.cells hol.1 rfl | assumption | refine all_keep ?_ | refine And.intro ?_ ?_), ?_⟩
 refine Dh0 15 65535 rfl (by kernel_rfl) (keep_sift (bs := [T,T]) (by kernel_rfl)) (h_store hs11.sat hor rfl rfl rfl (by kernel_rfl) rfl rfl rfl fun w12 hs12 hn12 => ?_)
 have hby:=hs12.le _ _ hby
 have hm:=hm.mono hs12.le
 clear hor; have hor := hn12; clear hn12
 have hT:=hT.own hs12 (by omega)
 have hz12 := hs12.size
 refine ⟨trivial, ?_⟩
 refine Da 16 131071 rfl (by kernel_rfl) rfl ?_
 refine Dd (by kernel_rfl) (κ _ _ ?_)
 refine cw_ret ?_
 exact ⟨_, (res_cell rfl (loadVar_n (n := 1) (by kernel_rfl) (by exact Blk.cells hor.1 rfl)) (res_tmp rfl res_nil)), _, _, rfl, hT, hm⟩
theorem bo_each {w : World} {M : Mem} {p : Option Addr} (hs : Sat M w) :
  Does Tryz.prog 230 #[.agg #[.pointer p]] w (fun v w' => ∃ bx M', v = .func (.func 249) #[] #[.pointer (some ⟨bx, 0, none⟩)] ∧ Step Nope M w M' w' ∧ M' bx = some ([.pointer p], 93)) := by
 have hT := Step.refl Nope hs
 refine fn_enter Tryz.func230 rfl (rs := [.tmp 2]) rfl rfl rfl rfl ?_
 refine cw_rs fun _ κ => ?_
 refine as_h rfl (h_boxM hs rfl rfl fun b1 M1 w1 hs1 hb1 e1 => ?_)
 have hT:=hT.then hs1
 refine Sa rfl rfl ?_
 refine as_nil (κ _ _ ?_)
 refine cw_rs fun _ κ => ?_
 refine as_q rfl rfl (q_func rfl rfl) ?_
 refine Sa rfl rfl ?_
 refine as_nil (κ _ _ ?_)
 refine cw_ret ?_
 exact ⟨_, (res_tmp rfl res_nil), _, _, rfl, hT, hb1⟩
theorem bo_size1 {w : World} {M : Mem} {b : Nat} {z : Int} (hs : Sat M w) (ho : Own w M b [.int .i64 z] 3) (h0 : 0 ≤ z) (h1 : z ≤ 1000000000) :
  Does Tryz.prog 229 #[.pointer (some ⟨b, 0, none⟩)] w (fun _ w' => Step (Just b) M w M w' ∧ Own w' M b [.int .i64 (z + 1)] 3) := by
 have hT := Step.refl (Just b) hs
 refine fn_enter Tryz.func229 rfl (rs := []) rfl rfl rfl rfl ?_
 refine cw_region fun _ κ => ?_
 refine S1 rfl (by kernel_rfl) rfl (by exact Blk.cell ho.1 rfl) ?_
 refine as_q rfl rfl (q_addx rfl rfl (by omega) (by omega)) ?_
 refine as_h0 (h_store hs ho rfl rfl rfl (by kernel_rfl) rfl rfl rfl fun w1 hs1 hn1 => ?_)
 clear ho; have ho := hn1; clear hn1
 have hT:=hT.also hs1
 refine as_nil (κ _ _ ?_)
 exact ⟨_, res_nil, hT, ho⟩
theorem bo_size {w : World} {M : Mem} {t : Bt} {q : Option Addr} (hs : Sat M w) (h : BRep 296 330 332 M t q) (hz : Bt.cnt 1 t ≤ 1000000000) :
  Does Tryz.prog 222 #[.agg #[.pointer q]] w (fun v w' => v = .int .i64 (Bt.cnt 0 t : Nat) ∧ Step Nope M w M w') := by
 have hzz := Bt.cnt_le t
 have hT := Step.refl Nope hs
 refine fn_enterM (K' := fun v w' => v = .int .i64 (Bt.cnt 0 t : Nat) ∧ ∃ M', Step Nope M w M' w') Tryz.func222 rfl (rs := [.tmp 2]) rfl rfl rfl rfl ?_ (fun _ _ _ _ _ _ h => resT rfl h) ?_
 ·
  refine cm_seq fun K0a hK0a => cw_region fun K0b hK0b => ?_
  refine as_h rfl (h_boxM hs rfl rfl fun b1 M1 w1 hs1 hb1 e1 => ?_)
  have h:=h.mono hs1.le
  have hT:=hT.then hs1
  have hz1 := hs1.size
  refine Sa rfl rfl ?_
  refine as_nil (hK0b _ _ (hK0a _ _ ?_))
  clear hK0b hK0a K0b K0a
  refine cm_seq fun K1a hK1a => cw_region fun K1b hK1b => ?_
  have hqan := hT.size
  refine as_h rfl (h_allocO (z := (.int .i64 0)) hs1.sat (by kernel_rfl) rfl fun bn w2 hs2 hon en => ?_)
  have h:=h.mono hs2.le
  have hb1:=hs2.le _ _ hb1
  have hT:=hT.then hs2
  have hz2 := hs2.size
  have hln := hon.1.lt
  refine as_h0 (h_store hs2.sat hon rfl rfl rfl (by kernel_rfl) rfl rfl rfl fun w3 hs3 hn3 => ?_)
  have h:=h.mono hs3.le
  have hb1:=hs3.le _ _ hb1
  clear hon; have hon := hn3; clear hn3
  have hT:=hT.own hs3 (by omega)
  have hz3 := hs3.size
  refine as_nil (hK1b _ _ (hK1a _ _ ?_))
  clear hK1b hK1a K1b K1a
  refine cm_seq fun K2a hK2a => cw_region fun K2b hK2b => ?_
  refine as_q rfl rfl (q_func rfl rfl) ?_
  have hqaf := hT.size
  refine as_h rfl (h_allocO (z := .nilFunc) hs3.sat (by kernel_rfl) rfl fun bf w4 hs4 hof ef => ?_)
  have h:=h.mono hs4.le
  have hb1:=hs4.le _ _ hb1
  have hon:=hon.then hs4
  have hT:=hT.then hs4
  have hz4 := hs4.size
  have hlf := hof.1.lt
  refine as_h0 (h_store hs4.sat hof rfl rfl rfl (by kernel_rfl) rfl rfl rfl fun w5 hs5 hn5 => ?_)
  have h:=h.mono hs5.le
  have hb1:=hs5.le _ _ hb1
  have hon:=hon.step hs5 (fun h => by have h : _ = _ := h; omega)
  clear hof; have hof := hn5; clear hn5
  have hT:=hT.own hs5 (by omega)
  have hz5 := hs5.size
  refine as_nil (hK2b _ _ (hK2a _ _ ?_))
  clear hK2b hK2a K2b K2a
  refine cm_seqM ?_
  refine cm_seq fun K2a hK2a => cw_region fun K2b hK2b => ?_
  refine Sc 1 rfl (by kernel_rfl) rfl (by exact BlkR.cells (hs5.sat _ _ _ hb1) rfl) ?_
  refine as_h rfl (h_call (by kernel_rfl) rfl ?_)
  refine (bo_each hs5.sat).mono ?_
  rintro _ w6 ⟨bx, Mx, rfl, hs6, hbx⟩
  have h:=h.mono hs6.le
  have hon:=hon.then hs6
  have hof:=hof.then hs6
  have hT:=hT.then hs6
  have hz6 := hs6.size
  refine as_nil (hK2b _ _ (hK2a _ _ ?_))
  clear hK2b hK2a K2b K2a
  have hTs := hT.size
  have hln := hon.1.lt
  have hlf := hof.1.lt
  have hbw : w.heap.size ≤ bn ∧ w.heap.size ≤ bf ∧ bn ≠ bf := by omega
  refine cm_block ?_
  refine cm_rangeP (M := Mx) (S := fun k => w6.heap.size + 2 ≤ k) (N := Bt.cnt 0 t) (ok := fun i _ => i < Bt.cnt 0 t) (lb := [.pointer (some ⟨bx, 0, none⟩)]) (gf := 249) rfl rfl rfl (by kernel_rfl) rfl hs6.sat hTs (bo_each1 hbx h hz) (fun k hk => by constructor <;> omega) (fun i M' W' => (Own W' M' bn [.int .i64 ((i : Nat) : Int)] 3 ∧ Own W' M' bf [.func (.func 229) #[] #[.pointer (some ⟨bn, 0, none⟩)]] 1 ∧ Step Nope M w M' W')) (fun i v la M' W' => la = [(3, .pointer (some ⟨bn, 0, none⟩)), (4, .pointer (some ⟨bf, 0, none⟩))] ∧ (Own W' M' bn [.int .i64 ((i : Nat) : Int)] 3 ∧ Own W' M' bf [.func (.func 229) #[] #[.pointer (some ⟨bn, 0, none⟩)]] 1 ∧ Step Nope M w M' W')) ?_ ?_ ?_ ?_ ?_ ?_
  ·
   rintro i M' W' M'' W'' ⟨h1, h2, h3⟩ k
   exact ⟨h1.step k (by rintro (h | h | h) <;> omega), h2.step k (by rintro (h | h | h) <;> omega), h3.trans k (fun b hb h => by rcases h with h | h | h <;> omega)⟩
  · exact ⟨hon, hof, hT⟩
  ·
   rintro i v la M' W' M'' W'' ⟨rfl, h1, h2, h3⟩ k
   exact ⟨rfl, h1.step k (by rintro (h | h | h) <;> omega), h2.step k (by rintro (h | h | h) <;> omega), h3.trans k (fun b hb h => by rcases h with h | h | h <;> omega)⟩
  ·
   rintro i v r M' W' hv ⟨h1, h2, h3⟩ hs' hle hlt
   exact cw_skip ⟨_, M', .cons rfl (.cons rfl (.nil _)), Step.refl _ hs', rfl, h1, h2, h3⟩
  ·
   rintro i v la r M' W' hv ⟨rfl, h1, h2, h3⟩ hs' hle hlt
   have hln1 := h1.1.lt
   refine cw_block (cw_region fun K4 hK4 => ?_)
   refine S1 rfl (by kernel_rfl) rfl (by exact Blk.cell h2.1 rfl) ?_
   refine as_h rfl (h_callv (f := 229) (first := []) (cap := [.pointer (some ⟨bn, 0, none⟩)]) (by kernel_rfl) rfl rfl rfl ?_)
   refine (bo_size1 hs' h1 (by omega) (by omega)).mono ?_
   rintro _ w7 ⟨hs7, h1n⟩
   refine as_nil (hK4 _ _ ⟨M', hs7.wide fun k _ h => by have h : k = bn := h; exact ⟨by omega, by omega, by omega⟩, by rw [show (((i + 1 : Nat)) : Int) = (i : Int) + 1 from by omega]; exact h1n, h2.step hs7 (fun h => by have h : bf = bn := h; omega), h3.trans hs7 (fun k hk h => by have h : k = bn := h; omega)⟩)
  ·
   rintro M' W' hs' hle ⟨h1, h2, h3⟩ D hD hDd
   refine cw_rs fun _ κ => ?_
   refine S1 rfl (by kernel_rfl) rfl (by exact Blk.cell h1.1 rfl) ?_
   refine Sa rfl rfl ?_
   exact as_nil (κ _ _ (cw_ret ⟨hDd, _, res_tmp rfl res_nil, rfl, M', h3⟩))
 ·
  rintro v w' D hB hD ⟨h0, M', h1⟩
  have k := Step.putObj h1.sat hD (by simp) (.deferred none)
  exact ⟨h0, (h1.trans k (fun b hb h => by have h : b = D := h; omega)).forget⟩
end Go.Proofs.YtgcgjpfjjgalmaaGreat
/- Leftist heaps, part 1. -/
namespace Go.Proofs.YtgcgjpfjjgalmaaGreat
open Go Go.Eng
theorem l_rank_nil {w : World} {M : Mem} (hs : Sat M w) :
  Does Tryz.prog 284 #[.agg #[.pointer none]] w (fun v w' => v = .int .i64 ((Lft.nil.rank : Nat) : Int) ∧ Step Nope M w M w') := by
 have hT := Step.refl Nope hs
 refine fn_enter Tryz.func284 rfl (rs := [.tmp 2]) rfl rfl rfl rfl ?_
 refine cw_rs fun _ κ => ?_
 refine as_h rfl (h_boxM hs rfl rfl fun b1 M1 w1 hs1 hb1 e1 => ?_)
 have hT:=hT.then hs1
 refine Sa rfl rfl ?_
 refine as_nil (κ _ _ ?_)
 refine cw_seq fun _ hK2 => ?_
 refine cw_rs fun _ κ => ?_
 refine Sf 0 rfl (by kernel_rfl) rfl ?_
 refine S1 rfl (by kernel_rfl) rfl (by exact BlkR.cell (hs1.sat _ _ _ hb1) rfl) ?_
 refine as_q rfl rfl (q_eqnil (by kernel_rfl) rfl) ?_
 refine as_nil (κ _ _ ?_)
 refine cw_true rfl ?_
 refine cw_rs fun _ κ => ?_
 refine Sa rfl rfl ?_
 refine as_nil (κ _ _ ?_)
 refine cw_ret ?_
 exact ⟨_, (res_tmp rfl res_nil), rfl, hT.forget⟩
theorem l_rank_node {w : World} {M : Mem} {x : El} {l r : Lft} {p : Value} (hs : Sat M w) (h : LRep 171 M (.node x l r) p) :
  Does Tryz.prog 284 #[.agg #[p]] w (fun v w' => v = .int .i64 (((Lft.node x l r).rank : Nat) : Int) ∧ Step Nope M w M w') := by
 have hT := Step.refl Nope hs
 obtain ⟨b, pl, pr, rfl, hb, hl, hr⟩ := h
 refine fn_enter Tryz.func284 rfl (rs := [.tmp 2]) rfl rfl rfl rfl ?_
 refine cw_rs fun _ κ => ?_
 refine as_h rfl (h_boxM hs rfl rfl fun b1 M1 w1 hs1 hb1 e1 => ?_)
 have hb:=hs1.le _ _ hb
 have hT:=hT.then hs1
 refine Sa rfl rfl ?_
 refine as_nil (κ _ _ ?_)
 refine cw_seq fun _ hK2 => ?_
 refine cw_rs fun _ κ => ?_
 refine Sf 0 rfl (by kernel_rfl) rfl ?_
 refine S1 rfl (by kernel_rfl) rfl (by exact BlkR.cell (hs1.sat _ _ _ hb1) rfl) ?_
 refine as_q rfl rfl (q_eqnil (by kernel_rfl) rfl) ?_
 refine as_nil (κ _ _ ?_)
 refine cw_false rfl ?_
 refine cw_skip ?_
 refine hK2 _ _ ?_
 refine cw_rs fun _ κ => ?_
 refine Sf 0 rfl (by kernel_rfl) rfl ?_
 refine S1 rfl (by kernel_rfl) rfl (by exact BlkR.cell (hs1.sat _ _ _ hb1) rfl) ?_
 refine as_q rfl rfl (q_nilp rfl) ?_
 refine Sf 4 rfl (by kernel_rfl) rfl ?_
 refine S1 rfl (by kernel_rfl) rfl (by exact BlkR.cell (hs1.sat _ _ _ hb) rfl) ?_
 refine Sa rfl rfl ?_
 refine as_nil (κ _ _ ?_)
 refine cw_ret ?_
 exact ⟨_, (res_tmp rfl res_nil), congrArg (Value.int .i64) (by simp [Lft.rank]), hT.forget⟩
theorem l_rank {w : World} {M : Mem} {t : Lft} {p : Value} (hs : Sat M w) (h : LRep 171 M t p) :
  Does Tryz.prog 284 #[.agg #[p]] w (fun v w' => v = .int .i64 (t.rank : Nat) ∧ Step Nope M w M w') := by
 cases t with
 | nil => cases h; exact l_rank_nil hs
 | node x l r => exact l_rank_node hs h
theorem l_size_nil {w : World} {M : Mem} (hs : Sat M w) :
  Does Tryz.prog 282 #[.agg #[.pointer none]] w (fun v w' => v = .int .i64 ((Lft.nil.size : Nat) : Int) ∧ Step Nope M w M w') := by
 have hT := Step.refl Nope hs
 refine fn_enter Tryz.func282 rfl (rs := [.tmp 2]) rfl rfl rfl rfl ?_
 refine cw_rs fun _ κ => ?_
 refine as_h rfl (h_boxM hs rfl rfl fun b1 M1 w1 hs1 hb1 e1 => ?_)
 have hT:=hT.then hs1
 refine Sa rfl rfl ?_
 refine as_nil (κ _ _ ?_)
 refine cw_seq fun _ hK2 => ?_
 refine cw_rs fun _ κ => ?_
 refine Sf 0 rfl (by kernel_rfl) rfl ?_
 refine S1 rfl (by kernel_rfl) rfl (by exact BlkR.cell (hs1.sat _ _ _ hb1) rfl) ?_
 refine as_q rfl rfl (q_eqnil (by kernel_rfl) rfl) ?_
 refine as_nil (κ _ _ ?_)
 refine cw_true rfl ?_
 refine cw_rs fun _ κ => ?_
 refine Sa rfl rfl ?_
 refine as_nil (κ _ _ ?_)
 refine cw_ret ?_
 exact ⟨_, (res_tmp rfl res_nil), rfl, hT.forget⟩
theorem l_size_node {w : World} {M : Mem} {x : El} {l r : Lft} {p : Value} (hs : Sat M w) (h : LRep 171 M (.node x l r) p) :
  Does Tryz.prog 282 #[.agg #[p]] w (fun v w' => v = .int .i64 (((Lft.node x l r).size : Nat) : Int) ∧ Step Nope M w M w') := by
 have hT := Step.refl Nope hs
 obtain ⟨b, pl, pr, rfl, hb, hl, hr⟩ := h
 refine fn_enter Tryz.func282 rfl (rs := [.tmp 2]) rfl rfl rfl rfl ?_
 refine cw_rs fun _ κ => ?_
 refine as_h rfl (h_boxM hs rfl rfl fun b1 M1 w1 hs1 hb1 e1 => ?_)
 have hb:=hs1.le _ _ hb
 have hT:=hT.then hs1
 refine Sa rfl rfl ?_
 refine as_nil (κ _ _ ?_)
 refine cw_seq fun _ hK2 => ?_
 refine cw_rs fun _ κ => ?_
 refine Sf 0 rfl (by kernel_rfl) rfl ?_
 refine S1 rfl (by kernel_rfl) rfl (by exact BlkR.cell (hs1.sat _ _ _ hb1) rfl) ?_
 refine as_q rfl rfl (q_eqnil (by kernel_rfl) rfl) ?_
 refine as_nil (κ _ _ ?_)
 refine cw_false rfl ?_
 refine cw_skip ?_
 refine hK2 _ _ ?_
 refine cw_rs fun _ κ => ?_
 refine Sf 0 rfl (by kernel_rfl) rfl ?_
 refine S1 rfl (by kernel_rfl) rfl (by exact BlkR.cell (hs1.sat _ _ _ hb1) rfl) ?_
 refine as_q rfl rfl (q_nilp rfl) ?_
 refine Sf 5 rfl (by kernel_rfl) rfl ?_
 refine S1 rfl (by kernel_rfl) rfl (by exact BlkR.cell (hs1.sat _ _ _ hb) rfl) ?_
 refine Sa rfl rfl ?_
 refine as_nil (κ _ _ ?_)
 refine cw_ret ?_
 exact ⟨_, (res_tmp rfl res_nil), congrArg (Value.int .i64) (by simp [Lft.size]), hT.forget⟩
theorem l_size {w : World} {M : Mem} {t : Lft} {p : Value} (hs : Sat M w) (h : LRep 171 M t p) :
  Does Tryz.prog 282 #[.agg #[p]] w (fun v w' => v = .int .i64 (t.size : Nat) ∧ Step Nope M w M w') := by
 cases t with
 | nil => cases h; exact l_size_nil hs
 | node x l r => exact l_size_node hs h
theorem l_made {w : World} {M : Mem} {x : El} {a b : Lft} {pa pb : Value} (hs : Sat M w) (ha : LRep 171 M a pa) (hb : LRep 171 M b pb) (hz : a.size + b.size ≤ 1000000000) :
  Does Tryz.prog 283 #[.pointer none, .agg (elc x).toArray, .agg #[pa], .agg #[pb]] w (fun v w' => ∃ p M', v = .agg #[p] ∧ Step Nope M w M' w' ∧ LRep 171 M' (Lft.mk x a b) p) := by
 have hT := Step.refl Nope hs
 have hra := a.rank_le
 have hrb := b.rank_le
 obtain ⟨qa, rfl⟩ := ha.ptr
 obtain ⟨qb, rfl⟩ := hb.ptr
 refine fn_enter Tryz.func283 rfl (rs := [.cell 8 67]) rfl rfl rfl rfl ?_
 refine cw_rs fun _ κ => ?_
 refine as_h rfl (h_boxM hs rfl rfl fun b1 M1 w1 hs1 hb1 e1 => ?_)
 have ha:=ha.mono hs1.le
 have hb:=hb.mono hs1.le
 have hT:=hT.then hs1
 have hz1 := hs1.size
 have hqaa := hT.size
 refine as_h rfl (h_boxO hs1.sat rfl rfl fun ba w2 hs2 hoa ea => ?_)
 have ha:=ha.mono hs2.le
 have hb:=hb.mono hs2.le
 have hb1:=hs2.le _ _ hb1
 have hT:=hT.then hs2
 have hz2 := hs2.size
 have hla := hoa.1.lt
 have hqab := hT.size
 refine as_h rfl (h_boxO hs2.sat rfl rfl fun bb w3 hs3 hob eb => ?_)
 have ha:=ha.mono hs3.le
 have hb:=hb.mono hs3.le
 have hb1:=hs3.le _ _ hb1
 have hoa:=hoa.then hs3
 have hT:=hT.then hs3
 have hz3 := hs3.size
 have hlb := hob.1.lt
 have hqar := hT.size
 refine as_h rfl (h_allocO (z := (.agg #[(.pointer none)])) hs3.sat (by kernel_rfl) rfl fun br w4 hs4 hor er => ?_)
 have ha:=ha.mono hs4.le
 have hb:=hb.mono hs4.le
 have hb1:=hs4.le _ _ hb1
 have hoa:=hoa.then hs4
 have hob:=hob.then hs4
 have hT:=hT.then hs4
 have hz4 := hs4.size
 have hlr := hor.1.lt
 refine as_nil (κ _ _ ?_)
 refine cw_rs fun _ κ => ?_
 refine Sm rfl rfl ?_
 refine as_h rfl (h_call (by kernel_rfl) rfl ?_)
 refine (m_made hs4.sat).mono ?_
 rintro _ w5 hs5
 have ha:=ha.mono hs5.le
 have hb:=hb.mono hs5.le
 have hb1:=hs5.le _ _ hb1
 have hoa:=hoa.then hs5
 have hob:=hob.then hs5
 have hor:=hor.then hs5
 have hT:=hT.then hs5
 have hz5 := hs5.size
 refine as_nil (κ _ _ ?_)
 refine cw_seq fun _ hK3 => ?_
 refine cw_dr (by kernel_rfl) fun _ κ => ?_
 have hs6 := Step.drew hs5.sat
 have hz6 := hs6.size
 have ha:=ha.mono hs6.le
 have hb:=hb.mono hs6.le
 have hb1:=hs6.le _ _ hb1
 have hoa:=hoa.then hs6
 have hob:=hob.then hs6
 have hor:=hor.then hs6
 have hT:=hT.then hs6
 refine Dlc 0 1 1 rfl (by kernel_rfl) (by kernel_rfl) rfl (by exact Blk.cells hoa.1 rfl) ?_
 refine Dlc 2 5 1 rfl (by kernel_rfl) (by kernel_rfl) rfl (by exact Blk.cells hob.1 rfl) ?_
 refine Dh 1 7 rfl (by kernel_rfl) (keep_sift (bs := [F,T]) (by kernel_rfl)) (h_call (by kernel_rfl) rfl ?_)
 refine (l_rank hs6.sat ha).mono ?_
 rintro _ w7 ⟨rfl, hs7⟩
 have ha:=ha.mono hs7.le
 have hb:=hb.mono hs7.le
 have hb1:=hs7.le _ _ hb1
 have hoa:=hoa.then hs7
 have hob:=hob.then hs7
 have hor:=hor.then hs7
 have hT:=hT.then hs7
 have hz7 := hs7.size
 refine ⟨(by repeat' first | exact trivial | exact BlkR.cell (hs7.sat _ _ _ hb1) rfl | exact BlkR.cells (hs7.sat _ _ _ hb1) rfl | exact Blk.cell hoa.1 rfl | exact Blk.cells hoa.1 rfl | exact Blk.cell hob.1 rfl | exact Blk.cells hob.1 rfl | exact Blk.cell hor.1 rfl | exact Blk.cells hor.1 rfl | assumption | refine all_keep ?_ | refine And.intro ?_ ?_), ?_⟩
 refine Dh 3 15 rfl (by kernel_rfl) (keep_sift (bs := [T]) (by kernel_rfl)) (h_call (by kernel_rfl) rfl ?_)
 refine (l_rank hs7.sat hb).mono ?_
 rintro _ w8 ⟨rfl, hs8⟩
 have ha:=ha.mono hs8.le
 have hb:=hb.mono hs8.le
 have hb1:=hs8.le _ _ hb1
 have hoa:=hoa.then hs8
 have hob:=hob.then hs8
 have hor:=hor.then hs8
 have hT:=hT.then hs8
 have hz8 := hs8.size
 refine ⟨trivial, ?_⟩
 refine Dq 4 31 rfl (by kernel_rfl) (fun _ => (q_lt rfl rfl)) ?_
 refine Dd (by kernel_rfl) (κ _ _ ?_)
 refine cw_cond rfl (fun hc0 => ?_) (fun hc0 => ?_)
 ·
  have hc0:=of_decide_eq_true hc0
  refine cw_region fun _ κ => ?_
  refine Sc 1 rfl (by kernel_rfl) rfl (by exact Blk.cells hob.1 rfl) ?_
  refine Sc 1 rfl (by kernel_rfl) rfl (by exact Blk.cells hoa.1 rfl) ?_
  refine as_h0 (h_store hs8.sat hoa rfl rfl rfl (by kernel_rfl) rfl rfl rfl fun w9 hs9 hn9 => ?_)
  have ha:=ha.mono hs9.le
  have hb:=hb.mono hs9.le
  have hb1:=hs9.le _ _ hb1
  have hob:=hob.step hs9 (fun h => by have h : _ = _ := h; omega)
  have hor:=hor.step hs9 (fun h => by have h : _ = _ := h; omega)
  clear hoa; have hoa := hn9; clear hn9
  have hT:=hT.own hs9 (by omega)
  have hz9 := hs9.size
  refine as_h0 (h_store hs9.sat hob rfl rfl rfl (by kernel_rfl) rfl rfl rfl fun w10 hs10 hn10 => ?_)
  have ha:=ha.mono hs10.le
  have hb:=hb.mono hs10.le
  have hb1:=hs10.le _ _ hb1
  have hoa:=hoa.step hs10 (fun h => by have h : _ = _ := h; omega)
  have hor:=hor.step hs10 (fun h => by have h : _ = _ := h; omega)
  clear hob; have hob := hn10; clear hn10
  have hT:=hT.own hs10 (by omega)
  have hz10 := hs10.size
  refine as_nil (κ _ _ ?_)
  refine hK3 _ _ ?_
  refine cw_dr (by kernel_rfl) fun _ κ => ?_
  have hs11 := Step.drew hs10.sat
  have hz11 := hs11.size
  have ha:=ha.mono hs11.le
  have hb:=hb.mono hs11.le
  have hb1:=hs11.le _ _ hb1
  have hoa:=hoa.then hs11
  have hob:=hob.then hs11
  have hor:=hor.then hs11
  have hT:=hT.then hs11
  refine Dlc 0 1 2 rfl (by kernel_rfl) (by kernel_rfl) rfl (by exact BlkR.cells (hs11.sat _ _ _ hb1) rfl) ?_
  refine Dlc 1 3 1 rfl (by kernel_rfl) (by kernel_rfl) rfl (by exact Blk.cells hoa.1 rfl) ?_
  refine Dlc 2 7 1 rfl (by kernel_rfl) (by kernel_rfl) rfl (by exact Blk.cells hob.1 rfl) ?_
  refine Dlc 3 15 1 rfl (by kernel_rfl) (by kernel_rfl) rfl (by exact Blk.cells hob.1 rfl) ?_
  refine Dlc 6 79 1 rfl (by kernel_rfl) (by kernel_rfl) rfl (by exact Blk.cells hoa.1 rfl) ?_
  refine Dlc 9 591 1 rfl (by kernel_rfl) (by kernel_rfl) rfl (by exact Blk.cells hob.1 rfl) ?_
  refine Dh 4 607 rfl (by kernel_rfl) (keep_sift (bs := [F,F,T,F,F,F]) (by kernel_rfl)) (h_call (by kernel_rfl) rfl ?_)
  refine (l_rank hs11.sat ha).mono ?_
  rintro _ w12 ⟨rfl, hs12⟩
  have ha:=ha.mono hs12.le
  have hb:=hb.mono hs12.le
  have hb1:=hs12.le _ _ hb1
  have hoa:=hoa.then hs12
  have hob:=hob.then hs12
  have hor:=hor.then hs12
  have hT:=hT.then hs12
  have hz12 := hs12.size
  refine ⟨(by repeat' first | exact trivial | exact BlkR.cell (hs12.sat _ _ _ hb1) rfl | exact BlkR.cells (hs12.sat _ _ _ hb1) rfl | exact Blk.cell hoa.1 rfl | exact Blk.cells hoa.1 rfl | exact Blk.cell hob.1 rfl | exact Blk.cells hob.1 rfl | exact Blk.cell hor.1 rfl | exact Blk.cells hor.1 rfl | assumption | refine all_keep ?_ | refine And.intro ?_ ?_), ?_⟩
  refine Dq 5 639 rfl (by kernel_rfl) (fun _ => (q_addx rfl rfl (by omega) (by omega))) ?_
  refine Dh 7 767 rfl (by kernel_rfl) (keep_sift (bs := [F,T,F,F,F]) (by kernel_rfl)) (h_call (by kernel_rfl) rfl ?_)
  refine (l_size hs12.sat hb).mono ?_
  rintro _ w13 ⟨rfl, hs13⟩
  have ha:=ha.mono hs13.le
  have hb:=hb.mono hs13.le
  have hb1:=hs13.le _ _ hb1
  have hoa:=hoa.then hs13
  have hob:=hob.then hs13
  have hor:=hor.then hs13
  have hT:=hT.then hs13
  have hz13 := hs13.size
  refine ⟨(by repeat' first | exact trivial | exact BlkR.cell (hs13.sat _ _ _ hb1) rfl | exact BlkR.cells (hs13.sat _ _ _ hb1) rfl | exact Blk.cell hoa.1 rfl | exact Blk.cells hoa.1 rfl | exact Blk.cell hob.1 rfl | exact Blk.cells hob.1 rfl | exact Blk.cell hor.1 rfl | exact Blk.cells hor.1 rfl | assumption | refine all_keep ?_ | refine And.intro ?_ ?_), ?_⟩
  refine Dq 8 1023 rfl (by kernel_rfl) (fun _ => (q_addx rfl rfl (by omega) (by omega))) ?_
  refine Dh 10 2047 rfl (by kernel_rfl) (keep_sift (bs := [T,F,F,F]) (by kernel_rfl)) (h_call (by kernel_rfl) rfl ?_)
  refine (l_size hs13.sat ha).mono ?_
  rintro _ w14 ⟨rfl, hs14⟩
  have ha:=ha.mono hs14.le
  have hb:=hb.mono hs14.le
  have hb1:=hs14.le _ _ hb1
  have hoa:=hoa.then hs14
  have hob:=hob.then hs14
  have hor:=hor.then hs14
  have hT:=hT.then hs14
  have hz14 := hs14.size
  refine ⟨(by repeat' first | exact trivial | exact BlkR.cell (hs14.sat _ _ _ hb1) rfl | exact BlkR.cells (hs14.sat _ _ _ hb1) rfl | exact Blk.cell hoa.1 rfl | exact Blk.cells hoa.1 rfl | exact Blk.cell hob.1 rfl | exact Blk.cells hob.1 rfl | exact Blk.cell hor.1 rfl | exact Blk.cells hor.1 rfl | assumption | refine all_keep ?_ | refine And.intro ?_ ?_), ?_⟩
  refine Dq 11 4095 rfl (by kernel_rfl) (fun _ => (q_addx rfl rfl (by omega) (by omega))) ?_
  refine Dq 12 8191 rfl (by kernel_rfl) (fun _ => (q_build (zs := [(.int .i64 0), (.int .i64 0), (.pointer none), (.pointer none), (.int .i64 0), (.int .i64 0)]) (places := [(0, 2), (2, 1), (3, 1), (4, 1), (5, 1)]) (cs := [_, _, _, _, _, _]) (by kernel_rfl) (by kernel_rfl) rfl rfl)) ?_
  refine Dh 13 16383 rfl (by kernel_rfl) (keep_sift (bs := [F,F,F]) (by kernel_rfl)) (h_boxM hs14.sat rfl rfl fun b15 M15 w15 hs15 hb15 e15 => ?_)
  have ha:=ha.mono hs15.le
  have hb:=hb.mono hs15.le
  have hb1:=hs15.le _ _ hb1
  have hoa:=hoa.then hs15
  have hob:=hob.then hs15
  have hor:=hor.then hs15
  have hT:=hT.then hs15
  have hz15 := hs15.size
  refine ⟨(by repeat' first | exact trivial | exact BlkR.cell (hs15.sat _ _ _ hb1) rfl | exact BlkR.cells (hs15.sat _ _ _ hb1) rfl | exact Blk.cell hoa.1 rfl | exact Blk.cells hoa.1 rfl | exact Blk.cell hob.1 rfl | exact Blk.cells hob.1 rfl | exact Blk.cell hor.1 rfl | exact Blk.cells hor.1 rfl | exact BlkR.cell (hs15.sat _ _ _ hb15) rfl | exact BlkR.cells (hs15.sat _ _ _ hb15) rfl | assumption | refine all_keep ?_ | refine And.intro ?_ ?_), ?_⟩
  refine Dq 14 32767 rfl (by kernel_rfl) (fun _ => (q_build (zs := [(.pointer none)]) (places := [(0, 1)]) (cs := [_]) (by kernel_rfl) (by kernel_rfl) rfl rfl)) ?_
  refine Dh0 15 65535 rfl (by kernel_rfl) (keep_sift (bs := [T,T,T]) (by kernel_rfl)) (h_store hs15.sat hor rfl rfl rfl (by kernel_rfl) rfl rfl rfl fun w16 hs16 hn16 => ?_)
  have ha:=ha.mono hs16.le
  have hb:=hb.mono hs16.le
  have hb1:=hs16.le _ _ hb1
  have hoa:=hoa.step hs16 (fun h => by have h : _ = _ := h; omega)
  have hob:=hob.step hs16 (fun h => by have h : _ = _ := h; omega)
  have hb15:=hs16.le _ _ hb15
  clear hor; have hor := hn16; clear hn16
  have hT:=hT.own hs16 (by omega)
  have hz16 := hs16.size
  refine ⟨trivial, ?_⟩
  refine Dd (by kernel_rfl) (κ _ _ ?_)
  refine cw_ret ?_
  exact ⟨_, (res_cell rfl (loadVar_n (n := 1) (by kernel_rfl) (by exact Blk.cells hor.1 rfl)) res_nil), _, _, rfl, hT, by rw [Lft.mk, if_pos (by omega)]; exact ⟨_, _, _, rfl, hb15, hb, ha⟩⟩
 ·
  have hc0:=of_decide_eq_false hc0
  refine cw_skip ?_
  refine hK3 _ _ ?_
  refine cw_dr (by kernel_rfl) fun _ κ => ?_
  have hs17 := Step.drew hs8.sat
  have hz17 := hs17.size
  have ha:=ha.mono hs17.le
  have hb:=hb.mono hs17.le
  have hb1:=hs17.le _ _ hb1
  have hoa:=hoa.then hs17
  have hob:=hob.then hs17
  have hor:=hor.then hs17
  have hT:=hT.then hs17
  refine Dlc 0 1 2 rfl (by kernel_rfl) (by kernel_rfl) rfl (by exact BlkR.cells (hs17.sat _ _ _ hb1) rfl) ?_
  refine Dlc 1 3 1 rfl (by kernel_rfl) (by kernel_rfl) rfl (by exact Blk.cells hoa.1 rfl) ?_
  refine Dlc 2 7 1 rfl (by kernel_rfl) (by kernel_rfl) rfl (by exact Blk.cells hob.1 rfl) ?_
  refine Dlc 3 15 1 rfl (by kernel_rfl) (by kernel_rfl) rfl (by exact Blk.cells hob.1 rfl) ?_
  refine Dlc 6 79 1 rfl (by kernel_rfl) (by kernel_rfl) rfl (by exact Blk.cells hoa.1 rfl) ?_
  refine Dlc 9 591 1 rfl (by kernel_rfl) (by kernel_rfl) rfl (by exact Blk.cells hob.1 rfl) ?_
  refine Dh 4 607 rfl (by kernel_rfl) (keep_sift (bs := [F,F,T,F,F,F]) (by kernel_rfl)) (h_call (by kernel_rfl) rfl ?_)
  refine (l_rank hs17.sat hb).mono ?_
  rintro _ w18 ⟨rfl, hs18⟩
  have ha:=ha.mono hs18.le
  have hb:=hb.mono hs18.le
  have hb1:=hs18.le _ _ hb1
  have hoa:=hoa.then hs18
  have hob:=hob.then hs18
  have hor:=hor.then hs18
  have hT:=hT.then hs18
  have hz18 := hs18.size
  refine ⟨(by repeat' first | exact trivial | exact BlkR.cell (hs18.sat _ _ _ hb1) rfl | exact BlkR.cells (hs18.sat _ _ _ hb1) rfl | exact Blk.cell hoa.1 rfl | exact Blk.cells hoa.1 rfl | exact Blk.cell hob.1 rfl | exact Blk.cells hob.1 rfl | exact Blk.cell hor.1 rfl | exact Blk.cells hor.1 rfl | assumption | refine all_keep ?_ | refine And.intro ?_ ?_), ?_⟩
  refine Dq 5 639 rfl (by kernel_rfl) (fun _ => (q_addx rfl rfl (by omega) (by omega))) ?_
  refine Dh 7 767 rfl (by kernel_rfl) (keep_sift (bs := [F,T,F,F,F]) (by kernel_rfl)) (h_call (by kernel_rfl) rfl ?_)
  refine (l_size hs18.sat ha).mono ?_
  rintro _ w19 ⟨rfl, hs19⟩
  have ha:=ha.mono hs19.le
  have hb:=hb.mono hs19.le
  have hb1:=hs19.le _ _ hb1
  have hoa:=hoa.then hs19
  have hob:=hob.then hs19
  have hor:=hor.then hs19
  have hT:=hT.then hs19
  have hz19 := hs19.size
  refine ⟨(by repeat' first | exact trivial | exact BlkR.cell (hs19.sat _ _ _ hb1) rfl | exact BlkR.cells (hs19.sat _ _ _ hb1) rfl | exact Blk.cell hoa.1 rfl | exact Blk.cells hoa.1 rfl | exact Blk.cell hob.1 rfl | exact Blk.cells hob.1 rfl | exact Blk.cell hor.1 rfl | exact Blk.cells hor.1 rfl | assumption | refine all_keep ?_ | refine And.intro ?_ ?_), ?_⟩
  refine Dq 8 1023 rfl (by kernel_rfl) (fun _ => (q_addx rfl rfl (by omega) (by omega))) ?_
  refine Dh 10 2047 rfl (by kernel_rfl) (keep_sift (bs := [T,F,F,F]) (by kernel_rfl)) (h_call (by kernel_rfl) rfl ?_)
  refine (l_size hs19.sat hb).mono ?_
  rintro _ w20 ⟨rfl, hs20⟩
  have ha:=ha.mono hs20.le
  have hb:=hb.mono hs20.le
  have hb1:=hs20.le _ _ hb1
  have hoa:=hoa.then hs20
  have hob:=hob.then hs20
  have hor:=hor.then hs20
  have hT:=hT.then hs20
  have hz20 := hs20.size
  refine ⟨(by repeat' first | exact trivial | exact BlkR.cell (hs20.sat _ _ _ hb1) rfl | exact BlkR.cells (hs20.sat _ _ _ hb1) rfl | exact Blk.cell hoa.1 rfl | exact Blk.cells hoa.1 rfl | exact Blk.cell hob.1 rfl | exact Blk.cells hob.1 rfl | exact Blk.cell hor.1 rfl | exact Blk.cells hor.1 rfl | assumption | refine all_keep ?_ | refine And.intro ?_ ?_), ?_⟩
  refine Dq 11 4095 rfl (by kernel_rfl) (fun _ => (q_addx rfl rfl (by omega) (by omega))) ?_
  refine Dq 12 8191 rfl (by kernel_rfl) (fun _ => (q_build (zs := [(.int .i64 0), (.int .i64 0), (.pointer none), (.pointer none), (.int .i64 0), (.int .i64 0)]) (places := [(0, 2), (2, 1), (3, 1), (4, 1), (5, 1)]) (cs := [_, _, _, _, _, _]) (by kernel_rfl) (by kernel_rfl) rfl rfl)) ?_
  refine Dh 13 16383 rfl (by kernel_rfl) (keep_sift (bs := [F,F,F]) (by kernel_rfl)) (h_boxM hs20.sat rfl rfl fun b21 M21 w21 hs21 hb21 e21 => ?_)
  have ha:=ha.mono hs21.le
  have hb:=hb.mono hs21.le
  have hb1:=hs21.le _ _ hb1
  have hoa:=hoa.then hs21
  have hob:=hob.then hs21
  have hor:=hor.then hs21
  have hT:=hT.then hs21
  have hz21 := hs21.size
  refine ⟨(by repeat' first | exact trivial | exact BlkR.cell (hs21.sat _ _ _ hb1) rfl | exact BlkR.cells (hs21.sat _ _ _ hb1) rfl | exact Blk.cell hoa.1 rfl | exact Blk.cells hoa.1 rfl | exact Blk.cell hob.1 rfl | exact Blk.cells hob.1 rfl | exact Blk.cell hor.1 rfl | exact Blk.cells hor.1 rfl | exact BlkR.cell (hs21.sat _ _ _ hb21) rfl | exact BlkR.cells (hs21.sat _ _ _ hb21) rfl | assumption | refine all_keep ?_ | refine And.intro ?_ ?_), ?_⟩
  refine Dq 14 32767 rfl (by kernel_rfl) (fun _ => (q_build (zs := [(.pointer none)]) (places := [(0, 1)]) (cs := [_]) (by kernel_rfl) (by kernel_rfl) rfl rfl)) ?_
  refine Dh0 15 65535 rfl (by kernel_rfl) (keep_sift (bs := [T,T,T]) (by kernel_rfl)) (h_store hs21.sat hor rfl rfl rfl (by kernel_rfl) rfl rfl rfl fun w22 hs22 hn22 => ?_)
  have ha:=ha.mono hs22.le
  have hb:=hb.mono hs22.le
  have hb21:=hs22.le _ _ hb21
  clear hor; have hor := hn22; clear hn22
  have hT:=hT.own hs22 (by omega)
  have hz22 := hs22.size
  refine ⟨trivial, ?_⟩
  refine Dd (by kernel_rfl) (κ _ _ ?_)
  refine cw_ret ?_
  exact ⟨_, (res_cell rfl (loadVar_n (n := 1) (by kernel_rfl) (by exact Blk.cells hor.1 rfl)) res_nil), _, _, rfl, hT, by rw [Lft.mk, if_neg (by omega)]; exact ⟨_, _, _, rfl, hb21, ha, hb⟩⟩
theorem l_meld_a {w : World} {M : Mem} {o : Lft} {po : Value} (hs : Sat M w) (ho : LRep 171 M o po) :
  Does Tryz.prog 279 #[.agg #[.pointer none], .pointer none, .agg #[po]] w (fun v w' => ∃ p M', v = .agg #[p] ∧ Step Nope M w M' w' ∧ LRep 171 M' o p) := by
 have hT := Step.refl Nope hs
 obtain ⟨qo, rfl⟩ := ho.ptr
 refine fn_enter Tryz.func279 rfl (rs := [.cell 6 67]) rfl rfl rfl rfl ?_
 refine cw_rs fun _ κ => ?_
 have hqah := hT.size
 refine as_h rfl (h_boxO hs rfl rfl fun bh w1 hs1 hoh eh => ?_)
 have ho:=ho.mono hs1.le
 have hT:=hT.then hs1
 have hz1 := hs1.size
 have hlh := hoh.1.lt
 have hqao := hT.size
 refine as_h rfl (h_boxO hs1.sat rfl rfl fun bo w2 hs2 hoo eo => ?_)
 have ho:=ho.mono hs2.le
 have hoh:=hoh.then hs2
 have hT:=hT.then hs2
 have hz2 := hs2.size
 have hlo := hoo.1.lt
 have hqar := hT.size
 refine as_h rfl (h_allocO (z := (.agg #[(.pointer none)])) hs2.sat (by kernel_rfl) rfl fun br w3 hs3 hor er => ?_)
 have ho:=ho.mono hs3.le
 have hoh:=hoh.then hs3
 have hoo:=hoo.then hs3
 have hT:=hT.then hs3
 have hz3 := hs3.size
 have hlr := hor.1.lt
 refine as_nil (κ _ _ ?_)
 refine cw_seq fun _ hK2 => ?_
 refine cw_block ?_
 refine cw_rs fun _ κ => ?_
 refine Sf 0 rfl (by kernel_rfl) rfl ?_
 refine S1 rfl (by kernel_rfl) rfl (by exact Blk.cell hoh.1 rfl) ?_
 refine as_q rfl rfl (q_eqnil (by kernel_rfl) rfl) ?_
 refine Sa rfl rfl ?_
 refine as_nil (κ _ _ ?_)
 refine cw_true rfl ?_
 refine cw_rs fun _ κ => ?_
 refine Sc 1 rfl (by kernel_rfl) rfl (by exact Blk.cells hoo.1 rfl) ?_
 refine as_h0 (h_store hs3.sat hor rfl rfl rfl (by kernel_rfl) rfl rfl rfl fun w4 hs4 hn4 => ?_)
 have ho:=ho.mono hs4.le
 clear hor; have hor := hn4; clear hn4
 have hT:=hT.own hs4 (by omega)
 have hz4 := hs4.size
 refine as_nil (κ _ _ ?_)
 refine cw_ret ?_
 exact ⟨_, (res_cell rfl (loadVar_n (n := 1) (by kernel_rfl) (by exact Blk.cells hor.1 rfl)) res_nil), _, _, rfl, hT, ho⟩
theorem l_meld_b {w : World} {M : Mem} {x : El} {l r : Lft} {p : Value} (hs : Sat M w) (h : LRep 171 M (.node x l r) p) :
  Does Tryz.prog 279 #[.agg #[p], .pointer none, .agg #[.pointer none]] w (fun v w' => ∃ p M', v = .agg #[p] ∧ Step Nope M w M' w' ∧ LRep 171 M' (.node x l r) p) := by
 have hT := Step.refl Nope hs
 obtain ⟨b, pl, pr, rfl, hb, hl, hr⟩ := h
 refine fn_enter Tryz.func279 rfl (rs := [.cell 6 67]) rfl rfl rfl rfl ?_
 refine cw_rs fun _ κ => ?_
 have hqah := hT.size
 refine as_h rfl (h_boxO hs rfl rfl fun bh w1 hs1 hoh eh => ?_)
 have hb:=hs1.le _ _ hb
 have hl:=hl.mono hs1.le
 have hr:=hr.mono hs1.le
 have hT:=hT.then hs1
 have hz1 := hs1.size
 have hlh := hoh.1.lt
 have hqao := hT.size
 refine as_h rfl (h_boxO hs1.sat rfl rfl fun bo w2 hs2 hoo eo => ?_)
 have hb:=hs2.le _ _ hb
 have hl:=hl.mono hs2.le
 have hr:=hr.mono hs2.le
 have hoh:=hoh.then hs2
 have hT:=hT.then hs2
 have hz2 := hs2.size
 have hlo := hoo.1.lt
 have hqar := hT.size
 refine as_h rfl (h_allocO (z := (.agg #[(.pointer none)])) hs2.sat (by kernel_rfl) rfl fun br w3 hs3 hor er => ?_)
 have hb:=hs3.le _ _ hb
 have hl:=hl.mono hs3.le
 have hr:=hr.mono hs3.le
 have hoh:=hoh.then hs3
 have hoo:=hoo.then hs3
 have hT:=hT.then hs3
 have hz3 := hs3.size
 have hlr := hor.1.lt
 refine as_nil (κ _ _ ?_)
 refine cw_seq fun _ hK2 => ?_
 refine cw_block ?_
 refine cw_rs fun _ κ => ?_
 refine Sf 0 rfl (by kernel_rfl) rfl ?_
 refine S1 rfl (by kernel_rfl) rfl (by exact Blk.cell hoh.1 rfl) ?_
 refine as_q rfl rfl (q_eqnil (by kernel_rfl) rfl) ?_
 refine Sa rfl rfl ?_
 refine as_nil (κ _ _ ?_)
 refine cw_false rfl ?_
 refine cw_rs fun _ κ => ?_
 refine Sf 0 rfl (by kernel_rfl) rfl ?_
 refine S1 rfl (by kernel_rfl) rfl (by exact Blk.cell hoo.1 rfl) ?_
 refine as_q rfl rfl (q_eqnil (by kernel_rfl) rfl) ?_
 refine Sa rfl rfl ?_
 refine as_nil (κ _ _ ?_)
 refine cw_true rfl ?_
 refine cw_rs fun _ κ => ?_
 refine Sc 1 rfl (by kernel_rfl) rfl (by exact Blk.cells hoh.1 rfl) ?_
 refine as_h0 (h_store hs3.sat hor rfl rfl rfl (by kernel_rfl) rfl rfl rfl fun w4 hs4 hn4 => ?_)
 have hb:=hs4.le _ _ hb
 have hl:=hl.mono hs4.le
 have hr:=hr.mono hs4.le
 clear hor; have hor := hn4; clear hn4
 have hT:=hT.own hs4 (by omega)
 have hz4 := hs4.size
 refine as_nil (κ _ _ ?_)
 refine cw_ret ?_
 exact ⟨_, (res_cell rfl (loadVar_n (n := 1) (by kernel_rfl) (by exact Blk.cells hor.1 rfl)) res_nil), _, _, rfl, hT, _, _, _, rfl, hb, hl, hr⟩
def LMeld (k : Nat) : Prop := ∀ (w : World) (M : Mem) (a b : Lft) (pa pb : Value), Sat M w → LRep 171 M a pa → LRep 171 M b pb → a.size + b.size < k → a.size + b.size ≤ 1000000000 →
  Does Tryz.prog 279 #[.agg #[pa], .pointer none, .agg #[pb]] w (fun v w' => ∃ p M', v = .agg #[p] ∧ Step Nope M w M' w' ∧ LRep 171 M' (a.meld b) p)
theorem l_meld_c {w : World} {M : Mem} {x y : El} {l r l2 r2 : Lft} {p p2 : Value} {k : Nat} (ih : LMeld k) (hs : Sat M w) (h : LRep 171 M (.node x l r) p) (h2 : LRep 171 M (.node y l2 r2) p2) (hk : (Lft.node x l r).size + (Lft.node y l2 r2).size < k + 1) (hz : (Lft.node x l r).size + (Lft.node y l2 r2).size ≤ 1000000000) :
  Does Tryz.prog 279 #[.agg #[p], .pointer none, .agg #[p2]] w (fun v w' => ∃ p M', v = .agg #[p] ∧ Step Nope M w M' w' ∧ LRep 171 M' ((Lft.node x l r).meld (.node y l2 r2)) p) := by
 have hT := Step.refl Nope hs
 obtain ⟨b, pl, pr, rfl, hb, hl, hr⟩ := h
 obtain ⟨b2, pl2, pr2, rfl, hb2, hl2, hr2⟩ := h2
 obtain ⟨ql, rfl⟩ := hl.ptr
 obtain ⟨qr, rfl⟩ := hr.ptr
 obtain ⟨ql2, rfl⟩ := hl2.ptr
 obtain ⟨qr2, rfl⟩ := hr2.ptr
 refine fn_enter Tryz.func279 rfl (rs := [.cell 6 67]) rfl rfl rfl rfl ?_
 refine cw_rs fun _ κ => ?_
 have hqah := hT.size
 refine as_h rfl (h_boxO hs rfl rfl fun bh w1 hs1 hoh eh => ?_)
 have hb:=hs1.le _ _ hb
 have hl:=hl.mono hs1.le
 have hr:=hr.mono hs1.le
 have hb2:=hs1.le _ _ hb2
 have hl2:=hl2.mono hs1.le
 have hr2:=hr2.mono hs1.le
 have hT:=hT.then hs1
 have hz1 := hs1.size
 have hlh := hoh.1.lt
 have hqao := hT.size
 refine as_h rfl (h_boxO hs1.sat rfl rfl fun bo w2 hs2 hoo eo => ?_)
 have hb:=hs2.le _ _ hb
 have hl:=hl.mono hs2.le
 have hr:=hr.mono hs2.le
 have hb2:=hs2.le _ _ hb2
 have hl2:=hl2.mono hs2.le
 have hr2:=hr2.mono hs2.le
 have hoh:=hoh.then hs2
 have hT:=hT.then hs2
 have hz2 := hs2.size
 have hlo := hoo.1.lt
 have hqar := hT.size
 refine as_h rfl (h_allocO (z := (.agg #[(.pointer none)])) hs2.sat (by kernel_rfl) rfl fun br w3 hs3 hor er => ?_)
 have hb:=hs3.le _ _ hb
 have hl:=hl.mono hs3.le
 have hr:=hr.mono hs3.le
 have hb2:=hs3.le _ _ hb2
 have hl2:=hl2.mono hs3.le
 have hr2:=hr2.mono hs3.le
 have hoh:=hoh.then hs3
 have hoo:=hoo.then hs3
 have hT:=hT.then hs3
 have hz3 := hs3.size
 have hlr := hor.1.lt
 refine as_nil (κ _ _ ?_)
 refine cw_seq fun _ hK2 => ?_
 refine cw_block ?_
 refine cw_rs fun _ κ => ?_
 refine Sf 0 rfl (by kernel_rfl) rfl ?_
 refine S1 rfl (by kernel_rfl) rfl (by exact Blk.cell hoh.1 rfl) ?_
 refine as_q rfl rfl (q_eqnil (by kernel_rfl) rfl) ?_
 refine Sa rfl rfl ?_
 refine as_nil (κ _ _ ?_)
 refine cw_false rfl ?_
 refine cw_rs fun _ κ => ?_
 refine Sf 0 rfl (by kernel_rfl) rfl ?_
 refine S1 rfl (by kernel_rfl) rfl (by exact Blk.cell hoo.1 rfl) ?_
 refine as_q rfl rfl (q_eqnil (by kernel_rfl) rfl) ?_
 refine Sa rfl rfl ?_
 refine as_nil (κ _ _ ?_)
 refine cw_false rfl ?_
 refine cw_skip ?_
 refine hK2 _ _ ?_
 refine cw_seq fun _ hK5 => ?_
 refine cw_dr (by kernel_rfl) fun _ κ => ?_
 have hs4 := Step.drew hs3.sat
 have hz4 := hs4.size
 have hb:=hs4.le _ _ hb
 have hl:=hl.mono hs4.le
 have hr:=hr.mono hs4.le
 have hb2:=hs4.le _ _ hb2
 have hl2:=hl2.mono hs4.le
 have hr2:=hr2.mono hs4.le
 have hoh:=hoh.then hs4
 have hoo:=hoo.then hs4
 have hor:=hor.then hs4
 have hT:=hT.then hs4
 refine Dm 0 1 rfl (by kernel_rfl) rfl ?_
 refine Df 1 3 0 rfl (by kernel_rfl) (by kernel_rfl) rfl ?_
 refine Dl1 2 7 rfl (by kernel_rfl) (by kernel_rfl) rfl (by exact Blk.cell hoo.1 rfl) ?_
 refine Dq 3 15 rfl (by kernel_rfl) (fun _ => (q_nilp rfl)) ?_
 refine Df 4 31 0 rfl (by kernel_rfl) (by kernel_rfl) rfl ?_
 refine Dlc 5 63 2 rfl (by kernel_rfl) (by kernel_rfl) rfl (by exact BlkR.cells (hs4.sat _ _ _ hb2) rfl) ?_
 refine Df 6 127 0 rfl (by kernel_rfl) (by kernel_rfl) rfl ?_
 refine Dl1 7 255 rfl (by kernel_rfl) (by kernel_rfl) rfl (by exact Blk.cell hoh.1 rfl) ?_
 refine Dq 8 511 rfl (by kernel_rfl) (fun _ => (q_nilp rfl)) ?_
 refine Df 9 1023 0 rfl (by kernel_rfl) (by kernel_rfl) rfl ?_
 refine Dlc 10 2047 2 rfl (by kernel_rfl) (by kernel_rfl) rfl (by exact BlkR.cells (hs4.sat _ _ _ hb) rfl) ?_
 refine Dh 11 4095 rfl (by kernel_rfl) (keep_sift (bs := [T,F,T,F]) (by kernel_rfl)) (h_call (by kernel_rfl) rfl ?_)
 refine (m_less (a := y) (b := x) hs4.sat).mono ?_
 rintro _ w5 ⟨rfl, hs5⟩
 have hb:=hs5.le _ _ hb
 have hl:=hl.mono hs5.le
 have hr:=hr.mono hs5.le
 have hb2:=hs5.le _ _ hb2
 have hl2:=hl2.mono hs5.le
 have hr2:=hr2.mono hs5.le
 have hoh:=hoh.then hs5
 have hoo:=hoo.then hs5
 have hor:=hor.then hs5
 have hT:=hT.then hs5
 have hz5 := hs5.size
 refine ⟨(by repeat' first | exact trivial | exact BlkR.cell (hs5.sat _ _ _ hb) rfl | exact BlkR.cells (hs5.sat _ _ _ hb) rfl | exact BlkR.cell (hs5.sat _ _ _ hb2) rfl | exact BlkR.cells (hs5.sat _ _ _ hb2) rfl | exact Blk.cell hoh.1 rfl | exact Blk.cells hoh.1 rfl | exact Blk.cell hoo.1 rfl | exact Blk.cells hoo.1 rfl | exact Blk.cell hor.1 rfl | exact Blk.cells hor.1 rfl | assumption | refine all_keep ?_ | refine And.intro ?_ ?_), ?_⟩
 refine Dd (by kernel_rfl) (κ _ _ ?_)
 refine cw_cond rfl (fun hc2 => ?_) (fun hc2 => ?_)
 ·
  skip
  refine cw_region fun _ κ => ?_
  refine Sc 1 rfl (by kernel_rfl) rfl (by exact Blk.cells hoo.1 rfl) ?_
  refine Sc 1 rfl (by kernel_rfl) rfl (by exact Blk.cells hoh.1 rfl) ?_
  refine as_h0 (h_store hs5.sat hoh rfl rfl rfl (by kernel_rfl) rfl rfl rfl fun w6 hs6 hn6 => ?_)
  have hb:=hs6.le _ _ hb
  have hl:=hl.mono hs6.le
  have hr:=hr.mono hs6.le
  have hb2:=hs6.le _ _ hb2
  have hl2:=hl2.mono hs6.le
  have hr2:=hr2.mono hs6.le
  have hoo:=hoo.step hs6 (fun h => by have h : _ = _ := h; omega)
  have hor:=hor.step hs6 (fun h => by have h : _ = _ := h; omega)
  clear hoh; have hoh := hn6; clear hn6
  have hT:=hT.own hs6 (by omega)
  have hz6 := hs6.size
  refine as_h0 (h_store hs6.sat hoo rfl rfl rfl (by kernel_rfl) rfl rfl rfl fun w7 hs7 hn7 => ?_)
  have hb:=hs7.le _ _ hb
  have hl:=hl.mono hs7.le
  have hr:=hr.mono hs7.le
  have hb2:=hs7.le _ _ hb2
  have hl2:=hl2.mono hs7.le
  have hr2:=hr2.mono hs7.le
  have hoh:=hoh.step hs7 (fun h => by have h : _ = _ := h; omega)
  have hor:=hor.step hs7 (fun h => by have h : _ = _ := h; omega)
  clear hoo; have hoo := hn7; clear hn7
  have hT:=hT.own hs7 (by omega)
  have hz7 := hs7.size
  refine as_nil (κ _ _ ?_)
  refine hK5 _ _ ?_
  refine cw_dr (by kernel_rfl) fun _ κ => ?_
  have hs8 := Step.drew hs7.sat
  have hz8 := hs8.size
  have hb:=hs8.le _ _ hb
  have hl:=hl.mono hs8.le
  have hr:=hr.mono hs8.le
  have hb2:=hs8.le _ _ hb2
  have hl2:=hl2.mono hs8.le
  have hr2:=hr2.mono hs8.le
  have hoh:=hoh.then hs8
  have hoo:=hoo.then hs8
  have hor:=hor.then hs8
  have hT:=hT.then hs8
  refine Dm 0 1 rfl (by kernel_rfl) rfl ?_
  refine Df 1 3 0 rfl (by kernel_rfl) (by kernel_rfl) rfl ?_
  refine Dl1 2 7 rfl (by kernel_rfl) (by kernel_rfl) rfl (by exact Blk.cell hoh.1 rfl) ?_
  refine Dq 3 15 rfl (by kernel_rfl) (fun _ => (q_nilp rfl)) ?_
  refine Df 4 31 0 rfl (by kernel_rfl) (by kernel_rfl) rfl ?_
  refine Dlc 5 63 2 rfl (by kernel_rfl) (by kernel_rfl) rfl (by exact BlkR.cells (hs8.sat _ _ _ hb2) rfl) ?_
  refine Df 6 127 0 rfl (by kernel_rfl) (by kernel_rfl) rfl ?_
  refine Dl1 7 255 rfl (by kernel_rfl) (by kernel_rfl) rfl (by exact Blk.cell hoh.1 rfl) ?_
  refine Dq 8 511 rfl (by kernel_rfl) (fun _ => (q_nilp rfl)) ?_
  refine Df 9 1023 2 rfl (by kernel_rfl) (by kernel_rfl) rfl ?_
  refine Dlc 10 2047 1 rfl (by kernel_rfl) (by kernel_rfl) rfl (by exact BlkR.cells (hs8.sat _ _ _ hb2) rfl) ?_
  refine Df 11 4095 0 rfl (by kernel_rfl) (by kernel_rfl) rfl ?_
  refine Dl1 12 8191 rfl (by kernel_rfl) (by kernel_rfl) rfl (by exact Blk.cell hoh.1 rfl) ?_
  refine Dq 13 16383 rfl (by kernel_rfl) (fun _ => (q_nilp rfl)) ?_
  refine Df 14 32767 3 rfl (by kernel_rfl) (by kernel_rfl) rfl ?_
  refine Dlc 15 65535 1 rfl (by kernel_rfl) (by kernel_rfl) rfl (by exact BlkR.cells (hs8.sat _ _ _ hb2) rfl) ?_
  refine Dm 16 131071 rfl (by kernel_rfl) rfl ?_
  refine Dlc 17 262143 1 rfl (by kernel_rfl) (by kernel_rfl) rfl (by exact Blk.cells hoo.1 rfl) ?_
  refine Dh 18 524287 rfl (by kernel_rfl) (keep_sift (bs := [T,T,F,F,F,F,F]) (by kernel_rfl)) (h_call (by kernel_rfl) rfl ?_)
  refine (ih _ _ _ _ _ _ hs8.sat hr2 (show LRep _ _ (.node x l r) _ from ⟨_, _, _, rfl, hb, hl, hr⟩) (by simp only [Lft.size] at hk ⊢; omega) (by simp only [Lft.size] at hz ⊢; omega)).mono ?_
  rintro _ w9 ⟨pm, Mm, rfl, hs9, hm⟩
  obtain ⟨qm, rfl⟩ := hm.ptr
  have hb:=hs9.le _ _ hb
  have hl:=hl.mono hs9.le
  have hr:=hr.mono hs9.le
  have hb2:=hs9.le _ _ hb2
  have hl2:=hl2.mono hs9.le
  have hr2:=hr2.mono hs9.le
  have hoh:=hoh.then hs9
  have hoo:=hoo.then hs9
  have hor:=hor.then hs9
  have hT:=hT.then hs9
  have hz9 := hs9.size
  refine ⟨(by repeat' first | exact trivial | exact BlkR.cell (hs9.sat _ _ _ hb) rfl | exact BlkR.cells (hs9.sat _ _ _ hb) rfl | exact BlkR.cell (hs9.sat _ _ _ hb2) rfl | exact BlkR.cells (hs9.sat _ _ _ hb2) rfl | exact Blk.cell hoh.1 rfl | exact Blk.cells hoh.1 rfl | exact Blk.cell hoo.1 rfl | exact Blk.cells hoo.1 rfl | exact Blk.cell hor.1 rfl | exact Blk.cells hor.1 rfl | assumption | refine all_keep ?_ | refine And.intro ?_ ?_), ?_⟩
  refine Dh 19 1048575 rfl (by kernel_rfl) (keep_sift (bs := [F,T,F,T,F]) (by kernel_rfl)) (h_call (by kernel_rfl) rfl ?_)
  refine (l_made (x := y) hs9.sat hl2 hm (by rw [Lft.meld_size]; simp only [Lft.size] at hz ⊢; omega)).mono ?_
  rintro _ w10 ⟨pn, Mn, rfl, hs10, hn⟩
  obtain ⟨qn, rfl⟩ := hn.ptr
  have hb:=hs10.le _ _ hb
  have hl:=hl.mono hs10.le
  have hr:=hr.mono hs10.le
  have hb2:=hs10.le _ _ hb2
  have hl2:=hl2.mono hs10.le
  have hr2:=hr2.mono hs10.le
  have hoh:=hoh.then hs10
  have hoo:=hoo.then hs10
  have hor:=hor.then hs10
  have hm:=hm.mono hs10.le
  have hT:=hT.then hs10
  have hz10 := hs10.size
  refine ⟨(by repeat' first | exact trivial | exact BlkR.cell (hs10.sat _ _ _ hb) rfl | exact BlkR.cells (hs10.sat _ _ _ hb) rfl | exact BlkR.cell (hs10.sat _ _ _ hb2) rfl | exact BlkR.cells (hs10.sat _ _ _ hb2) rfl | exact Blk.cell hoh.1 rfl | exact Blk.cells hoh.1 rfl | exact Blk.cell hoo.1 rfl | exact Blk.cells hoo.1 rfl | exact Blk.cell hor.1 rfl | exact Blk.cells hor.1 rfl | assumption | refine all_keep ?_ | refine And.intro ?_ ?_), ?_⟩
  refine Dh0 20 2097151 rfl (by kernel_rfl) (keep_sift (bs := [T,T,T]) (by kernel_rfl)) (h_store hs10.sat hor rfl rfl rfl (by kernel_rfl) rfl rfl rfl fun w11 hs11 hn11 => ?_)
  have hb:=hs11.le _ _ hb
  have hl:=hl.mono hs11.le
  have hr:=hr.mono hs11.le
  have hb2:=hs11.le _ _ hb2
  have hl2:=hl2.mono hs11.le
  have hr2:=hr2.mono hs11.le
  have hoh:=hoh.step hs11 (fun h => by have h : _ = _ := h; omega)
  have hoo:=hoo.step hs11 (fun h => by have h : _ = _ := h; omega)
  have hm:=hm.mono hs11.le
  have hn:=hn.mono hs11.le
  clear hor; have hor := hn11; clear hn11
  have hT:=hT.own hs11 (by omega)
  have hz11 := hs11.size
  refine ⟨trivial, ?_⟩
  refine Dd (by kernel_rfl) (κ _ _ ?_)
  refine cw_ret ?_
  exact ⟨_, (res_cell rfl (loadVar_n (n := 1) (by kernel_rfl) (by exact Blk.cells hor.1 rfl)) res_nil), _, _, rfl, hT, by rw [Lft.meld, if_pos hc2]; exact hn⟩
 ·
  skip
  refine cw_skip ?_
  refine hK5 _ _ ?_
  refine cw_dr (by kernel_rfl) fun _ κ => ?_
  have hs12 := Step.drew hs5.sat
  have hz12 := hs12.size
  have hb:=hs12.le _ _ hb
  have hl:=hl.mono hs12.le
  have hr:=hr.mono hs12.le
  have hb2:=hs12.le _ _ hb2
  have hl2:=hl2.mono hs12.le
  have hr2:=hr2.mono hs12.le
  have hoh:=hoh.then hs12
  have hoo:=hoo.then hs12
  have hor:=hor.then hs12
  have hT:=hT.then hs12
  refine Dm 0 1 rfl (by kernel_rfl) rfl ?_
  refine Df 1 3 0 rfl (by kernel_rfl) (by kernel_rfl) rfl ?_
  refine Dl1 2 7 rfl (by kernel_rfl) (by kernel_rfl) rfl (by exact Blk.cell hoh.1 rfl) ?_
  refine Dq 3 15 rfl (by kernel_rfl) (fun _ => (q_nilp rfl)) ?_
  refine Df 4 31 0 rfl (by kernel_rfl) (by kernel_rfl) rfl ?_
  refine Dlc 5 63 2 rfl (by kernel_rfl) (by kernel_rfl) rfl (by exact BlkR.cells (hs12.sat _ _ _ hb) rfl) ?_
  refine Df 6 127 0 rfl (by kernel_rfl) (by kernel_rfl) rfl ?_
  refine Dl1 7 255 rfl (by kernel_rfl) (by kernel_rfl) rfl (by exact Blk.cell hoh.1 rfl) ?_
  refine Dq 8 511 rfl (by kernel_rfl) (fun _ => (q_nilp rfl)) ?_
  refine Df 9 1023 2 rfl (by kernel_rfl) (by kernel_rfl) rfl ?_
  refine Dlc 10 2047 1 rfl (by kernel_rfl) (by kernel_rfl) rfl (by exact BlkR.cells (hs12.sat _ _ _ hb) rfl) ?_
  refine Df 11 4095 0 rfl (by kernel_rfl) (by kernel_rfl) rfl ?_
  refine Dl1 12 8191 rfl (by kernel_rfl) (by kernel_rfl) rfl (by exact Blk.cell hoh.1 rfl) ?_
  refine Dq 13 16383 rfl (by kernel_rfl) (fun _ => (q_nilp rfl)) ?_
  refine Df 14 32767 3 rfl (by kernel_rfl) (by kernel_rfl) rfl ?_
  refine Dlc 15 65535 1 rfl (by kernel_rfl) (by kernel_rfl) rfl (by exact BlkR.cells (hs12.sat _ _ _ hb) rfl) ?_
  refine Dm 16 131071 rfl (by kernel_rfl) rfl ?_
  refine Dlc 17 262143 1 rfl (by kernel_rfl) (by kernel_rfl) rfl (by exact Blk.cells hoo.1 rfl) ?_
  refine Dh 18 524287 rfl (by kernel_rfl) (keep_sift (bs := [T,T,F,F,F,F,F]) (by kernel_rfl)) (h_call (by kernel_rfl) rfl ?_)
  refine (ih _ _ _ _ _ _ hs12.sat hr (show LRep _ _ (.node y l2 r2) _ from ⟨_, _, _, rfl, hb2, hl2, hr2⟩) (by simp only [Lft.size] at hk ⊢; omega) (by simp only [Lft.size] at hz ⊢; omega)).mono ?_
  rintro _ w13 ⟨pm, Mm, rfl, hs13, hm⟩
  obtain ⟨qm, rfl⟩ := hm.ptr
  have hb:=hs13.le _ _ hb
  have hl:=hl.mono hs13.le
  have hb2:=hs13.le _ _ hb2
  have hoh:=hoh.then hs13
  have hoo:=hoo.then hs13
  have hor:=hor.then hs13
  have hT:=hT.then hs13
  have hz13 := hs13.size
  refine ⟨(by repeat' first | exact trivial | exact BlkR.cell (hs13.sat _ _ _ hb) rfl | exact BlkR.cells (hs13.sat _ _ _ hb) rfl | exact BlkR.cell (hs13.sat _ _ _ hb2) rfl | exact BlkR.cells (hs13.sat _ _ _ hb2) rfl | exact Blk.cell hoh.1 rfl | exact Blk.cells hoh.1 rfl | exact Blk.cell hoo.1 rfl | exact Blk.cells hoo.1 rfl | exact Blk.cell hor.1 rfl | exact Blk.cells hor.1 rfl | assumption | refine all_keep ?_ | refine And.intro ?_ ?_), ?_⟩
  refine Dh 19 1048575 rfl (by kernel_rfl) (keep_sift (bs := [F,T,F,T,F]) (by kernel_rfl)) (h_call (by kernel_rfl) rfl ?_)
  refine (l_made (x := x) hs13.sat hl hm (by rw [Lft.meld_size]; simp only [Lft.size] at hz ⊢; omega)).mono ?_
  rintro _ w14 ⟨pn, Mn, rfl, hs14, hn⟩
  obtain ⟨qn, rfl⟩ := hn.ptr
  have hb:=hs14.le _ _ hb
  have hb2:=hs14.le _ _ hb2
  have hoh:=hoh.then hs14
  have hoo:=hoo.then hs14
  have hor:=hor.then hs14
  have hT:=hT.then hs14
  have hz14 := hs14.size
  refine ⟨(by repeat' first | exact trivial | exact BlkR.cell (hs14.sat _ _ _ hb) rfl | exact BlkR.cells (hs14.sat _ _ _ hb) rfl | exact BlkR.cell (hs14.sat _ _ _ hb2) rfl | exact BlkR.cells (hs14.sat _ _ _ hb2) rfl | exact Blk.cell hoh.1 rfl | exact Blk.cells hoh.1 rfl | exact Blk.cell hoo.1 rfl | exact Blk.cells hoo.1 rfl | exact Blk.cell hor.1 rfl | exact Blk.cells hor.1 rfl | assumption | refine all_keep ?_ | refine And.intro ?_ ?_), ?_⟩
  refine Dh0 20 2097151 rfl (by kernel_rfl) (keep_sift (bs := [T,T,T]) (by kernel_rfl)) (h_store hs14.sat hor rfl rfl rfl (by kernel_rfl) rfl rfl rfl fun w15 hs15 hn15 => ?_)
  have hn:=hn.mono hs15.le
  clear hor; have hor := hn15; clear hn15
  have hT:=hT.own hs15 (by omega)
  have hz15 := hs15.size
  refine ⟨trivial, ?_⟩
  refine Dd (by kernel_rfl) (κ _ _ ?_)
  refine cw_ret ?_
  exact ⟨_, (res_cell rfl (loadVar_n (n := 1) (by kernel_rfl) (by exact Blk.cells hor.1 rfl)) res_nil), _, _, rfl, hT, by rw [Lft.meld, if_neg (by rw [hc2]; decide)]; exact hn⟩
theorem l_meld_all : ∀ k, LMeld k
 | 0 => fun _ _ _ _ _ _ _ _ _ h _ => absurd h (Nat.not_lt_zero _)
 | k + 1 => fun w M a b pa pb hs ha hb hk hz => by
  cases a with
  | nil => cases ha; rw [show Lft.nil.meld b = b by rw [Lft.meld]]; exact l_meld_a hs hb
  | node x l r =>
   cases b with
   | nil => cases hb; rw [show (Lft.node x l r).meld .nil = .node x l r by rw [Lft.meld]]; exact l_meld_b hs ha
   | node y l2 r2 => exact l_meld_c (l_meld_all k) hs ha hb hk hz
theorem l_meld {w : World} {M : Mem} {a b : Lft} {pa pb : Value} (hs : Sat M w) (ha : LRep 171 M a pa) (hb : LRep 171 M b pb) (hz : a.size + b.size ≤ 1000000000) :
  Does Tryz.prog 279 #[.agg #[pa], .pointer none, .agg #[pb]] w (fun v w' => ∃ p M', v = .agg #[p] ∧ Step Nope M w M' w' ∧ LRep 171 M' (a.meld b) p) := l_meld_all _ _ _ _ _ _ _ hs ha hb (Nat.lt_succ_self _) hz
theorem l_insert {w : World} {M : Mem} {x : El} {t : Lft} {p : Value} (hs : Sat M w) (h : LRep 171 M t p) (hz : t.size < 1000000000) :
  Does Tryz.prog 278 #[.agg #[p], .pointer none, .agg (elc x).toArray] w (fun v w' => ∃ p M', v = .agg #[p] ∧ Step Nope M w M' w' ∧ LRep 171 M' (t.insert x) p) := by
 have hT := Step.refl Nope hs
 obtain ⟨q, rfl⟩ := h.ptr
 refine fn_enter Tryz.func278 rfl (rs := [.cell 6 67]) rfl rfl rfl rfl ?_
 refine cw_rs fun _ κ => ?_
 refine as_h rfl (h_boxM hs rfl rfl fun b1 M1 w1 hs1 hb1 e1 => ?_)
 have h:=h.mono hs1.le
 have hT:=hT.then hs1
 have hz1 := hs1.size
 refine as_h rfl (h_boxM hs1.sat rfl rfl fun b2 M2 w2 hs2 hb2 e2 => ?_)
 have h:=h.mono hs2.le
 have hb1:=hs2.le _ _ hb1
 have hT:=hT.then hs2
 have hz2 := hs2.size
 have hqar := hT.size
 refine as_h rfl (h_allocO (z := (.agg #[(.pointer none)])) hs2.sat (by kernel_rfl) rfl fun br w3 hs3 hor er => ?_)
 have h:=h.mono hs3.le
 have hb1:=hs3.le _ _ hb1
 have hb2:=hs3.le _ _ hb2
 have hT:=hT.then hs3
 have hz3 := hs3.size
 have hlr := hor.1.lt
 refine as_nil (κ _ _ ?_)
 refine cw_dr (by kernel_rfl) fun _ κ => ?_
 have hs4 := Step.drew hs3.sat
 have hz4 := hs4.size
 have h:=h.mono hs4.le
 have hb1:=hs4.le _ _ hb1
 have hb2:=hs4.le _ _ hb2
 have hor:=hor.then hs4
 have hT:=hT.then hs4
 refine Dm 0 1 rfl (by kernel_rfl) rfl ?_
 refine Dlc 1 3 2 rfl (by kernel_rfl) (by kernel_rfl) rfl (by exact BlkR.cells (hs4.sat _ _ _ hb2) rfl) ?_
 refine Dq 2 7 rfl (by kernel_rfl) (fun _ => (q_build (zs := [(.pointer none)]) (places := [(0, 1)]) (cs := [_]) (by kernel_rfl) (by kernel_rfl) rfl rfl)) ?_
 refine Dq 3 15 rfl (by kernel_rfl) (fun _ => (q_build (zs := [(.pointer none)]) (places := [(0, 1)]) (cs := [_]) (by kernel_rfl) (by kernel_rfl) rfl rfl)) ?_
 refine Dm 5 47 rfl (by kernel_rfl) rfl ?_
 refine Dlc 6 111 1 rfl (by kernel_rfl) (by kernel_rfl) rfl (by exact BlkR.cells (hs4.sat _ _ _ hb1) rfl) ?_
 refine Dh 4 127 rfl (by kernel_rfl) (keep_sift (bs := [F,T]) (by kernel_rfl)) (h_call (by kernel_rfl) rfl ?_)
 refine (l_made (x := x) (a := .nil) (b := .nil) hs4.sat rfl rfl (by decide)).mono ?_
 rintro _ w5 ⟨pn, Mn, rfl, hs5, hn⟩
 obtain ⟨qn, rfl⟩ := hn.ptr
 have h:=h.mono hs5.le
 have hb1:=hs5.le _ _ hb1
 have hb2:=hs5.le _ _ hb2
 have hor:=hor.then hs5
 have hT:=hT.then hs5
 have hz5 := hs5.size
 refine ⟨(by repeat' first | exact trivial | exact BlkR.cell (hs5.sat _ _ _ hb1) rfl | exact BlkR.cells (hs5.sat _ _ _ hb1) rfl | exact BlkR.cell (hs5.sat _ _ _ hb2) rfl | exact BlkR.cells (hs5.sat _ _ _ hb2) rfl | exact Blk.cell hor.1 rfl | exact Blk.cells hor.1 rfl | assumption | refine all_keep ?_ | refine And.intro ?_ ?_), ?_⟩
 refine Dh 7 255 rfl (by kernel_rfl) (keep_sift (bs := [T]) (by kernel_rfl)) (h_call (by kernel_rfl) rfl ?_)
 refine (l_meld hs5.sat hn h (by rw [Lft.mk_size]; simp only [Lft.size]; omega)).mono ?_
 rintro _ w6 ⟨pm, Mm, rfl, hs6, hm⟩
 obtain ⟨qm, rfl⟩ := hm.ptr
 have h:=h.mono hs6.le
 have hor:=hor.then hs6
 have hT:=hT.then hs6
 have hz6 := hs6.size
 refine ⟨trivial, ?_⟩
 refine Dh0 8 511 rfl (by kernel_rfl) rfl (h_store hs6.sat hor rfl rfl rfl (by kernel_rfl) rfl rfl rfl fun w7 hs7 hn7 => ?_)
 have h:=h.mono hs7.le
 have hm:=hm.mono hs7.le
 clear hor; have hor := hn7; clear hn7
 have hT:=hT.own hs7 (by omega)
 have hz7 := hs7.size
 refine ⟨trivial, ?_⟩
 refine Dd (by kernel_rfl) (κ _ _ ?_)
 refine cw_ret ?_
 exact ⟨_, (res_cell rfl (loadVar_n (n := 1) (by kernel_rfl) (by exact Blk.cells hor.1 rfl)) res_nil), _, _, rfl, hT, hm⟩
theorem l_min {w : World} {M : Mem} {x : El} {l r : Lft} {p : Value} (hs : Sat M w) (h : LRep 171 M (.node x l r) p) :
  Does Tryz.prog 280 #[.agg #[p], .pointer none] w (fun v w' => v = .tuple #[.agg (elc x).toArray, .bool true] ∧ Step Nope M w M w') := by
 have hT := Step.refl Nope hs
 obtain ⟨b, pl, pr, rfl, hb, hl, hr⟩ := h
 refine fn_enter Tryz.func280 rfl (rs := [.cell 4 24, .tmp 5]) rfl rfl rfl rfl ?_
 refine cw_rs fun _ κ => ?_
 refine as_h rfl (h_boxM hs rfl rfl fun b1 M1 w1 hs1 hb1 e1 => ?_)
 have hb:=hs1.le _ _ hb
 have hT:=hT.then hs1
 have hz1 := hs1.size
 have hqar := hT.size
 refine as_h rfl (h_allocO (z := (.agg #[(.int .i64 0), (.int .i64 0)])) hs1.sat (by kernel_rfl) rfl fun br w2 hs2 hor er => ?_)
 have hb:=hs2.le _ _ hb
 have hb1:=hs2.le _ _ hb1
 have hT:=hT.then hs2
 have hz2 := hs2.size
 have hlr := hor.1.lt
 refine Sa rfl rfl ?_
 refine as_nil (κ _ _ ?_)
 refine cw_seq fun _ hK2 => ?_
 refine cw_rs fun _ κ => ?_
 refine Sf 0 rfl (by kernel_rfl) rfl ?_
 refine S1 rfl (by kernel_rfl) rfl (by exact BlkR.cell (hs2.sat _ _ _ hb1) rfl) ?_
 refine as_q rfl rfl (q_eqnil (by kernel_rfl) rfl) ?_
 refine as_nil (κ _ _ ?_)
 refine cw_false rfl ?_
 refine cw_skip ?_
 refine hK2 _ _ ?_
 refine cw_rs fun _ κ => ?_
 refine Sf 0 rfl (by kernel_rfl) rfl ?_
 refine S1 rfl (by kernel_rfl) rfl (by exact BlkR.cell (hs2.sat _ _ _ hb1) rfl) ?_
 refine as_q rfl rfl (q_nilp rfl) ?_
 refine Sf 0 rfl (by kernel_rfl) rfl ?_
 refine Sc 2 rfl (by kernel_rfl) rfl (by exact BlkR.cells (hs2.sat _ _ _ hb) rfl) ?_
 refine as_h0 (h_store hs2.sat hor rfl rfl rfl (by kernel_rfl) rfl rfl rfl fun w3 hs3 hn3 => ?_)
 clear hor; have hor := hn3; clear hn3
 have hT:=hT.own hs3 (by omega)
 have hz3 := hs3.size
 refine Sa rfl rfl ?_
 refine as_nil (κ _ _ ?_)
 refine cw_ret ?_
 exact ⟨_, (res_cell rfl (loadVar_n (n := 2) (by kernel_rfl) (by exact Blk.cells hor.1 rfl)) (res_tmp rfl res_nil)), rfl, hT.forget⟩
theorem l_pop {w : World} {M : Mem} {x : El} {l r : Lft} {p : Value} (hs : Sat M w) (h : LRep 171 M (.node x l r) p) (hz : (Lft.node x l r).size ≤ 1000000000) :
  Does Tryz.prog 281 #[.agg #[p], .pointer none] w (fun v w' => ∃ p M', v = .tuple #[.agg #[p], .bool true] ∧ Step Nope M w M' w' ∧ LRep 171 M' (l.meld r) p) := by
 have hT := Step.refl Nope hs
 obtain ⟨b, pl, pr, rfl, hb, hl, hr⟩ := h
 obtain ⟨ql, rfl⟩ := hl.ptr
 obtain ⟨qr, rfl⟩ := hr.ptr
 refine fn_enter Tryz.func281 rfl (rs := [.cell 4 67, .tmp 5]) rfl rfl rfl rfl ?_
 refine cw_rs fun _ κ => ?_
 refine as_h rfl (h_boxM hs rfl rfl fun b1 M1 w1 hs1 hb1 e1 => ?_)
 have hb:=hs1.le _ _ hb
 have hl:=hl.mono hs1.le
 have hr:=hr.mono hs1.le
 have hT:=hT.then hs1
 have hz1 := hs1.size
 have hqar := hT.size
 refine as_h rfl (h_allocO (z := (.agg #[(.pointer none)])) hs1.sat (by kernel_rfl) rfl fun br w2 hs2 hor er => ?_)
 have hb:=hs2.le _ _ hb
 have hl:=hl.mono hs2.le
 have hr:=hr.mono hs2.le
 have hb1:=hs2.le _ _ hb1
 have hT:=hT.then hs2
 have hz2 := hs2.size
 have hlr := hor.1.lt
 refine Sa rfl rfl ?_
 refine as_nil (κ _ _ ?_)
 refine cw_seq fun _ hK2 => ?_
 refine cw_rs fun _ κ => ?_
 refine Sf 0 rfl (by kernel_rfl) rfl ?_
 refine S1 rfl (by kernel_rfl) rfl (by exact BlkR.cell (hs2.sat _ _ _ hb1) rfl) ?_
 refine as_q rfl rfl (q_eqnil (by kernel_rfl) rfl) ?_
 refine as_nil (κ _ _ ?_)
 refine cw_false rfl ?_
 refine cw_skip ?_
 refine hK2 _ _ ?_
 refine cw_dr (by kernel_rfl) fun _ κ => ?_
 have hs3 := Step.drew hs2.sat
 have hz3 := hs3.size
 have hb:=hs3.le _ _ hb
 have hl:=hl.mono hs3.le
 have hr:=hr.mono hs3.le
 have hb1:=hs3.le _ _ hb1
 have hor:=hor.then hs3
 have hT:=hT.then hs3
 refine Df 0 1 0 rfl (by kernel_rfl) (by kernel_rfl) rfl ?_
 refine Dl1 1 3 rfl (by kernel_rfl) (by kernel_rfl) rfl (by exact BlkR.cell (hs3.sat _ _ _ hb1) rfl) ?_
 refine Dq 2 7 rfl (by kernel_rfl) (fun _ => (q_nilp rfl)) ?_
 refine Df 3 15 2 rfl (by kernel_rfl) (by kernel_rfl) rfl ?_
 refine Dlc 4 31 1 rfl (by kernel_rfl) (by kernel_rfl) rfl (by exact BlkR.cells (hs3.sat _ _ _ hb) rfl) ?_
 refine Dm 5 63 rfl (by kernel_rfl) rfl ?_
 refine Df 6 127 0 rfl (by kernel_rfl) (by kernel_rfl) rfl ?_
 refine Dl1 7 255 rfl (by kernel_rfl) (by kernel_rfl) rfl (by exact BlkR.cell (hs3.sat _ _ _ hb1) rfl) ?_
 refine Dq 8 511 rfl (by kernel_rfl) (fun _ => (q_nilp rfl)) ?_
 refine Df 9 1023 3 rfl (by kernel_rfl) (by kernel_rfl) rfl ?_
 refine Dlc 10 2047 1 rfl (by kernel_rfl) (by kernel_rfl) rfl (by exact BlkR.cells (hs3.sat _ _ _ hb) rfl) ?_
 refine Dh 11 4095 rfl (by kernel_rfl) (keep_sift (bs := [T,F,T,F]) (by kernel_rfl)) (h_call (by kernel_rfl) rfl ?_)
 refine (l_meld hs3.sat hl hr (by simp only [Lft.size] at hz; omega)).mono ?_
 rintro _ w4 ⟨pm, Mm, rfl, hs4, hm⟩
 obtain ⟨qm, rfl⟩ := hm.ptr
 have hb:=hs4.le _ _ hb
 have hb1:=hs4.le _ _ hb1
 have hor:=hor.then hs4
 have hT:=hT.then hs4
 have hz4 := hs4.size
 refine ⟨(by repeat' first | exact trivial | exact BlkR.cell (hs4.sat _ _ _ hb) rfl | exact BlkR.cells (hs4.sat _ _ _ hb) rfl | exact BlkR.cell (hs4.sat _ _ _ hb1) rfl | exact BlkR.cells (hs4.sat _ _ _ hb1) rfl | exact Blk.cell hor.1 rfl | exact Blk.cells hor.1 rfl | assumption | refine all_keep ?_ | refine And.intro ?_ ?_), ?_⟩
 refine Dh0 12 8191 rfl (by kernel_rfl) (keep_sift (bs := [T,T]) (by kernel_rfl)) (h_store hs4.sat hor rfl rfl rfl (by kernel_rfl) rfl rfl rfl fun w5 hs5 hn5 => ?_)
 have hm:=hm.mono hs5.le
 clear hor; have hor := hn5; clear hn5
 have hT:=hT.own hs5 (by omega)
 have hz5 := hs5.size
 refine ⟨trivial, ?_⟩
 refine Da 13 16383 rfl (by kernel_rfl) rfl ?_
 refine Dd (by kernel_rfl) (κ _ _ ?_)
 refine cw_ret ?_
 exact ⟨_, (res_cell rfl (loadVar_n (n := 1) (by kernel_rfl) (by exact Blk.cells hor.1 rfl)) (res_tmp rfl res_nil)), _, _, rfl, hT, hm⟩
end Go.Proofs.YtgcgjpfjjgalmaaGreat
/- Lists of heaps, part 1. -/
namespace Go.Proofs.YtgcgjpfjjgalmaaGreat
open Go Go.Eng
theorem cp_len_n {w : World} {M : Mem} (hs : Sat M w) :
  Does Tryz.prog 170 #[.agg #[.pointer none]] w (fun v w' => v = .int .i64 0 ∧ Step Nope M w M w') := by
 have hT := Step.refl Nope hs
 refine fn_enter Tryz.func170 rfl (rs := [.tmp 2]) rfl rfl rfl rfl ?_
 refine cw_rs fun _ κ => ?_
 refine as_h rfl (h_boxM hs rfl rfl fun b1 M1 w1 hs1 hb1 e1 => ?_)
 have hT:=hT.then hs1
 refine Sa rfl rfl ?_
 refine as_nil (κ _ _ ?_)
 refine cw_seq fun _ hK2 => ?_
 refine cw_rs fun _ κ => ?_
 refine Sf 0 rfl (by kernel_rfl) rfl ?_
 refine S1 rfl (by kernel_rfl) rfl (by exact BlkR.cell (hs1.sat _ _ _ hb1) rfl) ?_
 refine as_q rfl rfl (q_eqnil (by kernel_rfl) rfl) ?_
 refine as_nil (κ _ _ ?_)
 refine cw_true rfl ?_
 refine cw_rs fun _ κ => ?_
 refine Sa rfl rfl ?_
 refine as_nil (κ _ _ ?_)
 refine cw_ret ?_
 exact ⟨_, (res_tmp rfl res_nil), rfl, hT.forget⟩
theorem cp_len_c {w : World} {M : Mem} {x : Option Addr} {r : List (Option Addr)} {p : Value} (hs : Sat M w) (h : CRep 260 M (x :: r) p) :
  Does Tryz.prog 170 #[.agg #[p]] w (fun v w' => v = .int .i64 ((r.length : Int) + 1) ∧ Step Nope M w M w') := by
 have hT := Step.refl Nope hs
 obtain ⟨b, q, rfl, hb, hc⟩ := h
 refine fn_enter Tryz.func170 rfl (rs := [.tmp 2]) rfl rfl rfl rfl ?_
 refine cw_rs fun _ κ => ?_
 refine as_h rfl (h_boxM hs rfl rfl fun b1 M1 w1 hs1 hb1 e1 => ?_)
 have hb:=hs1.le _ _ hb
 have hT:=hT.then hs1
 refine Sa rfl rfl ?_
 refine as_nil (κ _ _ ?_)
 refine cw_seq fun _ hK2 => ?_
 refine cw_rs fun _ κ => ?_
 refine Sf 0 rfl (by kernel_rfl) rfl ?_
 refine S1 rfl (by kernel_rfl) rfl (by exact BlkR.cell (hs1.sat _ _ _ hb1) rfl) ?_
 refine as_q rfl rfl (q_eqnil (by kernel_rfl) rfl) ?_
 refine as_nil (κ _ _ ?_)
 refine cw_false rfl ?_
 refine cw_skip ?_
 refine hK2 _ _ ?_
 refine cw_rs fun _ κ => ?_
 refine Sf 0 rfl (by kernel_rfl) rfl ?_
 refine S1 rfl (by kernel_rfl) rfl (by exact BlkR.cell (hs1.sat _ _ _ hb1) rfl) ?_
 refine as_q rfl rfl (q_nilp rfl) ?_
 refine Sf 2 rfl (by kernel_rfl) rfl ?_
 refine S1 rfl (by kernel_rfl) rfl (by exact BlkR.cell (hs1.sat _ _ _ hb) rfl) ?_
 refine Sa rfl rfl ?_
 refine as_nil (κ _ _ ?_)
 refine cw_ret ?_
 exact ⟨_, (res_tmp rfl res_nil), rfl, hT.forget⟩
theorem cp_len {w : World} {M : Mem} {vs : List (Option Addr)} {p : Value} (hs : Sat M w) (h : CRep 260 M vs p) : Does Tryz.prog 170 #[.agg #[p]] w (fun v w' => v = .int .i64 (vs.length : Nat) ∧ Step Nope M w M w') := by
 cases vs with
 | nil => cases h; exact cp_len_n hs
 | cons x r => exact (cp_len_c hs h).mono fun v w' ⟨h1, h2⟩ => ⟨by rw [h1]; simp, h2⟩
theorem cp_first_n {w : World} {M : Mem} (hs : Sat M w) :
  Does Tryz.prog 171 #[.agg #[.pointer none]] w (fun v w' => v = .tuple #[(Value.agg #[.pointer none]), .bool false] ∧ Step Nope M w M w') := by
 have hT := Step.refl Nope hs
 refine fn_enter Tryz.func171 rfl (rs := [.cell 2 79, .tmp 3]) rfl rfl rfl rfl ?_
 refine cw_rs fun _ κ => ?_
 refine as_h rfl (h_boxM hs rfl rfl fun b1 M1 w1 hs1 hb1 e1 => ?_)
 have hT:=hT.then hs1
 have hz1 := hs1.size
 have hqar := hT.size
 refine as_h rfl (h_allocO (z := (.agg #[(.pointer none)])) hs1.sat (by kernel_rfl) rfl fun br w2 hs2 hor er => ?_)
 have hb1:=hs2.le _ _ hb1
 have hT:=hT.then hs2
 have hz2 := hs2.size
 have hlr := hor.1.lt
 refine Sa rfl rfl ?_
 refine as_nil (κ _ _ ?_)
 refine cw_seq fun _ hK2 => ?_
 refine cw_rs fun _ κ => ?_
 refine Sf 0 rfl (by kernel_rfl) rfl ?_
 refine S1 rfl (by kernel_rfl) rfl (by exact BlkR.cell (hs2.sat _ _ _ hb1) rfl) ?_
 refine as_q rfl rfl (q_eqnil (by kernel_rfl) rfl) ?_
 refine as_nil (κ _ _ ?_)
 refine cw_true rfl ?_
 refine cw_rs fun _ κ => ?_
 have hqaz := hT.size
 refine as_h rfl (h_allocO (z := (.agg #[(.pointer none)])) hs2.sat (by kernel_rfl) rfl fun bz w3 hs3 hoz ez => ?_)
 have hor:=hor.then hs3
 have hT:=hT.then hs3
 have hz3 := hs3.size
 have hlz := hoz.1.lt
 refine as_nil (κ _ _ ?_)
 refine cw_rs fun _ κ => ?_
 refine Sc 1 rfl (by kernel_rfl) rfl (by exact Blk.cells hoz.1 rfl) ?_
 refine as_h0 (h_store hs3.sat hor rfl rfl rfl (by kernel_rfl) rfl rfl rfl fun w4 hs4 hn4 => ?_)
 clear hor; have hor := hn4; clear hn4
 have hT:=hT.own hs4 (by omega)
 have hz4 := hs4.size
 refine Sa rfl rfl ?_
 refine as_nil (κ _ _ ?_)
 refine cw_ret ?_
 exact ⟨_, (res_cell rfl (loadVar_n (n := 1) (by kernel_rfl) (by exact Blk.cells hor.1 rfl)) (res_tmp rfl res_nil)), rfl, hT.forget⟩
theorem cp_first {w : World} {M : Mem} {x : Option Addr} {r : List (Option Addr)} {p : Value} (hs : Sat M w) (h : CRep 260 M (x :: r) p) :
  Does Tryz.prog 171 #[.agg #[p]] w (fun v w' => v = .tuple #[(Value.agg #[.pointer x]), .bool true] ∧ Step Nope M w M w') := by
 have hT := Step.refl Nope hs
 obtain ⟨b, q, rfl, hb, hc⟩ := h
 refine fn_enter Tryz.func171 rfl (rs := [.cell 2 79, .tmp 3]) rfl rfl rfl rfl ?_
 refine cw_rs fun _ κ => ?_
 refine as_h rfl (h_boxM hs rfl rfl fun b1 M1 w1 hs1 hb1 e1 => ?_)
 have hb:=hs1.le _ _ hb
 have hT:=hT.then hs1
 have hz1 := hs1.size
 have hqar := hT.size
 refine as_h rfl (h_allocO (z := (.agg #[(.pointer none)])) hs1.sat (by kernel_rfl) rfl fun br w2 hs2 hor er => ?_)
 have hb:=hs2.le _ _ hb
 have hb1:=hs2.le _ _ hb1
 have hT:=hT.then hs2
 have hz2 := hs2.size
 have hlr := hor.1.lt
 refine Sa rfl rfl ?_
 refine as_nil (κ _ _ ?_)
 refine cw_seq fun _ hK2 => ?_
 refine cw_rs fun _ κ => ?_
 refine Sf 0 rfl (by kernel_rfl) rfl ?_
 refine S1 rfl (by kernel_rfl) rfl (by exact BlkR.cell (hs2.sat _ _ _ hb1) rfl) ?_
 refine as_q rfl rfl (q_eqnil (by kernel_rfl) rfl) ?_
 refine as_nil (κ _ _ ?_)
 refine cw_false rfl ?_
 refine cw_skip ?_
 refine hK2 _ _ ?_
 refine cw_rs fun _ κ => ?_
 refine Sf 0 rfl (by kernel_rfl) rfl ?_
 refine S1 rfl (by kernel_rfl) rfl (by exact BlkR.cell (hs2.sat _ _ _ hb1) rfl) ?_
 refine as_q rfl rfl (q_nilp rfl) ?_
 refine Sf 0 rfl (by kernel_rfl) rfl ?_
 refine Sc 1 rfl (by kernel_rfl) rfl (by exact BlkR.cells (hs2.sat _ _ _ hb) rfl) ?_
 refine as_h0 (h_store hs2.sat hor rfl rfl rfl (by kernel_rfl) rfl rfl rfl fun w3 hs3 hn3 => ?_)
 clear hor; have hor := hn3; clear hn3
 have hT:=hT.own hs3 (by omega)
 have hz3 := hs3.size
 refine Sa rfl rfl ?_
 refine as_nil (κ _ _ ?_)
 refine cw_ret ?_
 exact ⟨_, (res_cell rfl (loadVar_n (n := 1) (by kernel_rfl) (by exact Blk.cells hor.1 rfl)) (res_tmp rfl res_nil)), rfl, hT.forget⟩
theorem cp_rest {w : World} {M : Mem} {x : Option Addr} {r : List (Option Addr)} {p : Value} (hs : Sat M w) (h : CRep 260 M (x :: r) p) :
  Does Tryz.prog 172 #[.agg #[p]] w (fun v w' => ∃ q, v = .agg #[.pointer q] ∧ Step Nope M w M w' ∧ CRep 260 M r (.pointer q)) := by
 have hT := Step.refl Nope hs
 obtain ⟨b, q, rfl, hb, hc⟩ := h
 have hc0 := hc
 refine fn_enter Tryz.func172 rfl (rs := [.cell 2 249]) rfl rfl rfl rfl ?_
 refine cw_rs fun _ κ => ?_
 refine as_h rfl (h_boxM hs rfl rfl fun b1 M1 w1 hs1 hb1 e1 => ?_)
 have hb:=hs1.le _ _ hb
 have hT:=hT.then hs1
 have hz1 := hs1.size
 have hqar := hT.size
 refine as_h rfl (h_allocO (z := (.agg #[(.pointer none)])) hs1.sat (by kernel_rfl) rfl fun br w2 hs2 hor er => ?_)
 have hb:=hs2.le _ _ hb
 have hb1:=hs2.le _ _ hb1
 have hT:=hT.then hs2
 have hz2 := hs2.size
 have hlr := hor.1.lt
 refine as_nil (κ _ _ ?_)
 refine cw_seq fun _ hK2 => ?_
 refine cw_rs fun _ κ => ?_
 refine Sf 0 rfl (by kernel_rfl) rfl ?_
 refine S1 rfl (by kernel_rfl) rfl (by exact BlkR.cell (hs2.sat _ _ _ hb1) rfl) ?_
 refine as_q rfl rfl (q_eqnil (by kernel_rfl) rfl) ?_
 refine as_nil (κ _ _ ?_)
 refine cw_false rfl ?_
 refine cw_skip ?_
 refine hK2 _ _ ?_
 refine cw_rs fun _ κ => ?_
 refine Sf 0 rfl (by kernel_rfl) rfl ?_
 refine S1 rfl (by kernel_rfl) rfl (by exact BlkR.cell (hs2.sat _ _ _ hb1) rfl) ?_
 refine as_q rfl rfl (q_nilp rfl) ?_
 refine Sf 1 rfl (by kernel_rfl) rfl ?_
 refine S1 rfl (by kernel_rfl) rfl (by exact BlkR.cell (hs2.sat _ _ _ hb) rfl) ?_
 refine as_q rfl rfl (q_build (zs := [(.pointer none)]) (places := [(0, 1)]) (cs := [_]) (by kernel_rfl) (by kernel_rfl) rfl rfl) ?_
 refine as_h0 (h_store hs2.sat hor rfl rfl rfl (by kernel_rfl) rfl rfl rfl fun w3 hs3 hn3 => ?_)
 clear hor; have hor := hn3; clear hn3
 have hT:=hT.own hs3 (by omega)
 have hz3 := hs3.size
 refine as_nil (κ _ _ ?_)
 refine cw_ret ?_
 exact ⟨_, (res_cell rfl (loadVar_n (n := 1) (by kernel_rfl) (by exact Blk.cells hor.1 rfl)) res_nil), q, rfl, hT.forget, hc0⟩
theorem cp_push {w : World} {M : Mem} {x : Option Addr} {vs : List (Option Addr)} {p : Value} (hs : Sat M w) (h : CRep 260 M vs p) (hz : vs.length ≤ 1000000000) :
  Does Tryz.prog 167 #[.agg #[p], (Value.agg #[.pointer x])] w (fun v w' => ∃ q M', v = .agg #[.pointer q] ∧ Step Nope M w M' w' ∧ CRep 260 M' (x :: vs) (.pointer q)) := by
 have hT := Step.refl Nope hs
 obtain ⟨q, rfl⟩ := h.ptr
 refine fn_enter Tryz.func167 rfl (rs := [.cell 4 249]) rfl rfl rfl rfl ?_
 refine cw_rs fun _ κ => ?_
 refine as_h rfl (h_boxM hs rfl rfl fun b1 M1 w1 hs1 hb1 e1 => ?_)
 have h:=h.mono hs1.le
 have hT:=hT.then hs1
 have hz1 := hs1.size
 refine as_h rfl (h_boxM hs1.sat rfl rfl fun b2 M2 w2 hs2 hb2 e2 => ?_)
 have h:=h.mono hs2.le
 have hb1:=hs2.le _ _ hb1
 have hT:=hT.then hs2
 have hz2 := hs2.size
 have hqar := hT.size
 refine as_h rfl (h_allocO (z := (.agg #[(.pointer none)])) hs2.sat (by kernel_rfl) rfl fun br w3 hs3 hor er => ?_)
 have h:=h.mono hs3.le
 have hb1:=hs3.le _ _ hb1
 have hb2:=hs3.le _ _ hb2
 have hT:=hT.then hs3
 have hz3 := hs3.size
 have hlr := hor.1.lt
 refine as_nil (κ _ _ ?_)
 refine cw_dr (by kernel_rfl) fun _ κ => ?_
 have hs4 := Step.drew hs3.sat
 have hz4 := hs4.size
 have h:=h.mono hs4.le
 have hb1:=hs4.le _ _ hb1
 have hb2:=hs4.le _ _ hb2
 have hor:=hor.then hs4
 have hT:=hT.then hs4
 refine Dlc 0 1 1 rfl (by kernel_rfl) (by kernel_rfl) rfl (by exact BlkR.cells (hs4.sat _ _ _ hb2) rfl) ?_
 refine Df 1 3 0 rfl (by kernel_rfl) (by kernel_rfl) rfl ?_
 refine Dl1 2 7 rfl (by kernel_rfl) (by kernel_rfl) rfl (by exact BlkR.cell (hs4.sat _ _ _ hb1) rfl) ?_
 refine Dlc 3 15 1 rfl (by kernel_rfl) (by kernel_rfl) rfl (by exact BlkR.cells (hs4.sat _ _ _ hb1) rfl) ?_
 refine Dh 4 31 rfl (by kernel_rfl) (keep_sift (bs := [T,F,F]) (by kernel_rfl)) (h_call (by kernel_rfl) rfl ?_)
 refine (cp_len hs4.sat h).mono ?_
 rintro _ w5 ⟨rfl, hs5⟩
 have h:=h.mono hs5.le
 have hb1:=hs5.le _ _ hb1
 have hb2:=hs5.le _ _ hb2
 have hor:=hor.then hs5
 have hT:=hT.then hs5
 have hz5 := hs5.size
 refine ⟨(by repeat' first | exact trivial | exact BlkR.cell (hs5.sat _ _ _ hb1) rfl | exact BlkR.cells (hs5.sat _ _ _ hb1) rfl | exact BlkR.cell (hs5.sat _ _ _ hb2) rfl | exact BlkR.cells (hs5.sat _ _ _ hb2) rfl | exact Blk.cell hor.1 rfl | exact Blk.cells hor.1 rfl | assumption | refine all_keep ?_ | refine And.intro ?_ ?_), ?_⟩
 refine Dq 5 63 rfl (by kernel_rfl) (fun _ => (q_addx rfl rfl (by omega) (by omega))) ?_
 refine Dq 6 127 rfl (by kernel_rfl) (fun _ => (q_build (zs := [(.pointer none), (.pointer none), (.int .i64 0)]) (places := [(0, 1), (1, 1), (2, 1)]) (cs := [_, _, _]) (by kernel_rfl) (by kernel_rfl) rfl rfl)) ?_
 refine Dh 7 255 rfl (by kernel_rfl) (keep_sift (bs := [F,F]) (by kernel_rfl)) (h_boxM hs5.sat rfl rfl fun b6 M6 w6 hs6 hb6 e6 => ?_)
 have h:=h.mono hs6.le
 have hb1:=hs6.le _ _ hb1
 have hb2:=hs6.le _ _ hb2
 have hor:=hor.then hs6
 have hT:=hT.then hs6
 have hz6 := hs6.size
 refine ⟨(by repeat' first | exact trivial | exact BlkR.cell (hs6.sat _ _ _ hb1) rfl | exact BlkR.cells (hs6.sat _ _ _ hb1) rfl | exact BlkR.cell (hs6.sat _ _ _ hb2) rfl | exact BlkR.cells (hs6.sat _ _ _ hb2) rfl | exact Blk.cell hor.1 rfl | exact Blk.cells hor.1 rfl | exact BlkR.cell (hs6.sat _ _ _ hb6) rfl | exact BlkR.cells (hs6.sat _ _ _ hb6) rfl | assumption | refine all_keep ?_ | refine And.intro ?_ ?_), ?_⟩
 refine Dq 8 511 rfl (by kernel_rfl) (fun _ => (q_build (zs := [(.pointer none)]) (places := [(0, 1)]) (cs := [_]) (by kernel_rfl) (by kernel_rfl) rfl rfl)) ?_
 refine Dh0 9 1023 rfl (by kernel_rfl) (keep_sift (bs := [T,T]) (by kernel_rfl)) (h_store hs6.sat hor rfl rfl rfl (by kernel_rfl) rfl rfl rfl fun w7 hs7 hn7 => ?_)
 have h:=h.mono hs7.le
 have hb6:=hs7.le _ _ hb6
 clear hor; have hor := hn7; clear hn7
 have hT:=hT.own hs7 (by omega)
 have hz7 := hs7.size
 refine ⟨trivial, ?_⟩
 refine Dd (by kernel_rfl) (κ _ _ ?_)
 refine cw_ret ?_
 exact ⟨_, (res_cell rfl (loadVar_n (n := 1) (by kernel_rfl) (by exact Blk.cells hor.1 rfl)) res_nil), _, _, rfl, hT, _, _, rfl, hb6, h⟩
theorem cp_drop {w : World} {M : Mem} {vs : List (Option Addr)} {q : Option Addr} {n : Nat} (hs : Sat M w) (h : CRep 260 M vs (.pointer q)) (hn : n ≤ 1000000000) :
  Does Tryz.prog 173 #[.agg #[.pointer q], .int .i64 n] w (fun v w' => ∃ q, v = .agg #[.pointer q] ∧ Step Nope M w M w' ∧ CRep 260 M (vs.drop n) (.pointer q)) := by
 have hT := Step.refl Nope hs
 have hzn : (0:Int) ≤ n := Int.natCast_nonneg n
 refine fn_enter Tryz.func173 rfl (rs := [.cell 4 249]) rfl rfl rfl rfl ?_
 refine cw_rs fun _ κ => ?_
 have hqal := hT.size
 refine as_h rfl (h_boxO hs rfl rfl fun bl w1 hs1 hol el => ?_)
 have hT:=hT.then hs1
 have hz1 := hs1.size
 have hll := hol.1.lt
 have hqar := hT.size
 refine as_h rfl (h_allocO (z := (.agg #[(.pointer none)])) hs1.sat (by kernel_rfl) rfl fun br w2 hs2 hor er => ?_)
 have hol:=hol.then hs2
 have hT:=hT.then hs2
 have hz2 := hs2.size
 have hlr := hor.1.lt
 refine as_nil (κ _ _ ?_)
 refine cw_seq fun _ hK2 => ?_
 refine cw_block ?_
 refine cw_loop (fun mm l w1 => ∃ (i : Nat) (z : Int) (rest : List (Option Addr)) (p1 : Option Addr), mm = rest.length ∧ z = n - i ∧ 0 ≤ z ∧ vs.drop i = rest ∧ CRep 260 M rest (.pointer p1) ∧ l = [(2, .pointer (some ⟨bl, 0, none⟩)), (4, .pointer (some ⟨br, 0, none⟩)), (1, .int .i64 z)] ∧ Step Nope M w M w1 ∧ Own w1 M bl [.pointer p1] 249 ∧ Own w1 M br [.pointer none] 249) (vs.length) [(2, .pointer (some ⟨bl, 0, none⟩)), (4, .pointer (some ⟨br, 0, none⟩)), (1, .int .i64 (n : Int))] (.cons rfl (.cons rfl (.cons rfl (.nil _)))) ?_ ?_
 ·
  exact ⟨0, n, vs, q, rfl, by simp, by omega, rfl, h, rfl, hT, hol, hor⟩
 have hblw : w.heap.size ≤ bl := by omega
 have hbrw : w.heap.size ≤ br ∧ bl ≠ br := by omega
 clear hT hol hor
 rintro mm l w1 ⟨i, z, rest, p1, rfl, hz, hz0, hdr, hc, rfl, hT, hol, hor⟩
 refine cw_seq fun _ hK3 => ?_
 have hcs : (z = 0) ∨ (0 < z ∧ p1 = none) ∨ (0 < z ∧ ∃ a, p1 = some a) := by
  rcases p1 with _ | a
  ·
   rcases Int.lt_or_le 0 z with h | h
   · exact .inr (.inl ⟨h, rfl⟩)
   · left; omega
  ·
   rcases Int.lt_or_le 0 z with h | h
   · exact .inr (.inr ⟨h, a, rfl⟩)
   · left; omega
 rcases hcs with h0 | ⟨h0, rfl⟩ | ⟨h0, a, rfl⟩
 ·
  refine cw_rs fun _ κ => ?_
  refine Sm rfl rfl ?_
  refine as_q rfl rfl (q_gtF rfl rfl (by omega)) ?_
  refine Sm rfl rfl ?_
  refine as_gskip rfl rfl rfl rfl rfl ?_
  refine as_gskip rfl rfl rfl rfl rfl ?_
  refine as_gskip rfl rfl rfl rfl rfl ?_
  refine as_q rfl rfl (q_pick_f rfl rfl) ?_
  refine as_nil (κ _ _ ?_)
  refine cw_false rfl ?_
  refine cw_exit ?_
  refine hK2 _ _ ?_
  refine cw_rs fun _ κ => ?_
  refine Sc 1 rfl (by kernel_rfl) rfl (by exact Blk.cells hol.1 rfl) ?_
  refine as_h0 (h_store hT.sat hor rfl rfl rfl (by kernel_rfl) rfl rfl rfl fun w3 hs3 hn3 => ?_)
  have hol:=hol.step hs3 (fun h => by have h : _ = _ := h; omega)
  have hc:=hc.mono hs3.le
  clear hor; have hor := hn3; clear hn3
  have hT:=hT.own hs3 (by omega)
  have hz3 := hs3.size
  refine as_nil (κ _ _ ?_)
  refine cw_ret ?_
  have e : vs.drop n = rest := by rw [← hdr]; congr 1; omega
  exact ⟨_, (res_cell rfl (loadVar_n (n := 1) (by kernel_rfl) (by exact Blk.cells hor.1 rfl)) res_nil), _, rfl, hT, by rw [e]; exact hc⟩
 ·
  refine cw_rs fun _ κ => ?_
  refine Sm rfl rfl ?_
  refine as_q rfl rfl (q_gtT rfl rfl (by omega)) ?_
  refine Sm rfl rfl ?_
  refine as_gh rfl rfl rfl rfl (h_q rfl (q_fieldAddr (off := 0) (by kernel_rfl) rfl) ?_)
  refine as_gh rfl rfl rfl rfl (h_q rfl (q_load1 (by kernel_rfl) rfl (by exact Blk.cell hol.1 rfl)) ?_)
  refine as_gh rfl rfl rfl rfl (h_q rfl (q_nenil (by kernel_rfl) rfl) ?_)
  refine as_q rfl rfl (q_pick_t rfl rfl) ?_
  refine as_nil (κ _ _ ?_)
  refine cw_false rfl ?_
  refine cw_exit ?_
  refine hK2 _ _ ?_
  refine cw_rs fun _ κ => ?_
  refine Sc 1 rfl (by kernel_rfl) rfl (by exact Blk.cells hol.1 rfl) ?_
  refine as_h0 (h_store hT.sat hor rfl rfl rfl (by kernel_rfl) rfl rfl rfl fun w4 hs4 hn4 => ?_)
  have hol:=hol.step hs4 (fun h => by have h : _ = _ := h; omega)
  have hc:=hc.mono hs4.le
  clear hor; have hor := hn4; clear hn4
  have hT:=hT.own hs4 (by omega)
  have hz4 := hs4.size
  refine as_nil (κ _ _ ?_)
  refine cw_ret ?_
  have e : vs.drop n = rest := by
   have h2 : rest = [] := by
    rcases rest with _ | ⟨x, rest⟩
    · rfl
    · obtain ⟨_, _, h, _⟩ := hc; cases h
   subst h2
   refine List.drop_eq_nil_of_le ?_
   have := List.drop_eq_nil_iff.1 hdr
   omega
  exact ⟨_, (res_cell rfl (loadVar_n (n := 1) (by kernel_rfl) (by exact Blk.cells hor.1 rfl)) res_nil), _, rfl, hT, by rw [e]; exact hc⟩
 ·
  refine cw_rs fun _ κ => ?_
  refine Sm rfl rfl ?_
  refine as_q rfl rfl (q_gtT rfl rfl (by omega)) ?_
  refine Sm rfl rfl ?_
  refine as_gh rfl rfl rfl rfl (h_q rfl (q_fieldAddr (off := 0) (by kernel_rfl) rfl) ?_)
  refine as_gh rfl rfl rfl rfl (h_q rfl (q_load1 (by kernel_rfl) rfl (by exact Blk.cell hol.1 rfl)) ?_)
  refine as_gh rfl rfl rfl rfl (h_q rfl (q_nenil (by kernel_rfl) rfl) ?_)
  refine as_q rfl rfl (q_pick_t rfl rfl) ?_
  refine as_nil (κ _ _ ?_)
  refine cw_true rfl ?_
  refine cw_skip ?_
  refine hK3 _ _ ?_
  refine cw_seq fun _ hK9 => ?_
  refine cw_block ?_
  refine cw_region fun _ κ => ?_
  refine Sc 1 rfl (by kernel_rfl) rfl (by exact Blk.cells hol.1 rfl) ?_
  refine as_h rfl (h_call (by kernel_rfl) rfl ?_)
  rcases rest with _ | ⟨x, rest⟩
  ·
   have h : Value.pointer (some a) = .pointer none := hc
   cases h
  refine (cp_rest hT.sat hc).mono ?_
  rintro _ w5 ⟨q, rfl, hs5, hc⟩
  have hol:=hol.then hs5
  have hor:=hor.then hs5
  have hc:=hc.mono hs5.le
  have hT:=hT.then hs5
  have hz5 := hs5.size
  refine as_h0 (h_store hs5.sat hol rfl rfl rfl (by kernel_rfl) rfl rfl rfl fun w6 hs6 hn6 => ?_)
  have hor:=hor.step hs6 (fun h => by have h : _ = _ := h; omega)
  have hc:=hc.mono hs6.le
  clear hol; have hol := hn6; clear hn6
  have hT:=hT.own hs6 (by omega)
  have hz6 := hs6.size
  refine as_nil (κ _ _ ?_)
  refine hK9 _ _ ?_
  refine cw_region fun _ κ => ?_
  refine Sm rfl rfl ?_
  refine as_q rfl rfl (q_subx rfl rfl (by omega) (by omega)) ?_
  refine Sa rfl rfl ?_
  refine as_nil (κ _ _ ?_)
  refine ⟨_, _, ?_, (.cons rfl (.cons rfl (.cons rfl (.nil _)))), i + 1, _, rest, q, rfl, by omega, by omega, by rw [← List.drop_drop, hdr]; rfl, hc, rfl, hT, hol, hor⟩
  simp
theorem cp_each1 {w : World} {M : Mem} {vs : List (Option Addr)} {bx : Nat} {p : Option Addr} (hb : M bx = some ([.pointer p], 249)) (hc : CRep 260 M vs (.pointer p)) :
  IterOk Tryz.prog 175 [.pointer (some ⟨bx, 0, none⟩)] Nope (vs.map fun q => (Value.agg #[.pointer q])) M w := by
 intro r J M0 W0 h0 _ _ hround hJ
 have hb:=h0.le _ _ hb
 have hc:=hc.mono h0.le
 refine fn_enter Tryz.func175 rfl (rs := []) rfl rfl rfl rfl ?_
 refine cw_rs fun _ κ => ?_
 refine Sf 0 rfl (by kernel_rfl) rfl ?_
 refine S1 rfl (by kernel_rfl) rfl (by exact BlkR.cell (h0.sat _ _ _ hb) rfl) ?_
 refine Sa rfl rfl ?_
 refine as_nil (κ _ _ ?_)
 refine cw_block ?_
 refine cw_loop (fun mm l w1 => ∃ (i : Nat) (rest : List (Option Addr)) (p1 : Option Addr) (M1 : Mem), mm = rest.length ∧ vs.drop i = rest ∧ i + rest.length = vs.length ∧ CRep 260 M1 rest (.pointer p1) ∧ l = [(0, .func (.yield r) #[] #[]), (1, .pointer (some ⟨bx, 0, none⟩)), (3, .pointer p1)] ∧ Le M0 M1 ∧ Sat M1 w1 ∧ J i M1 w1) (vs.length) [(0, .func (.yield r) #[] #[]), (1, .pointer (some ⟨bx, 0, none⟩)), (3, .pointer p)] (.cons rfl (.cons rfl (.cons rfl (.nil _)))) ?_ ?_
 ·
  exact ⟨0, vs, p, M0, rfl, rfl, by omega, hc, rfl, Le.refl _, h0.sat, hJ⟩
 clear hc hJ
 rintro mm l w1 ⟨i, rest, p1, M1, rfl, hdr, hi, hc, rfl, hle, hst, hJ⟩
 refine cw_seq fun _ hK2 => ?_
 refine cw_rs fun _ κ => ?_
 refine Sm rfl rfl ?_
 refine as_q rfl rfl (q_nenil (by kernel_rfl) rfl) ?_
 refine as_nil (κ _ _ ?_)
 refine cw_cond rfl (fun hc0 => ?_) (fun hc0 => ?_)
 ·
  rcases rest with _ | ⟨x, rest⟩
  ·
   have h : Value.pointer p1 = .pointer none := hc
   cases h; cases hc0
  obtain ⟨b, q, hpb, hb1, hc⟩ := hc
  cases hpb
  have hx : vs[i]? = some x := by rw [← List.head?_drop, hdr]; rfl
  refine cw_skip ?_
  refine hK2 _ _ ?_
  refine cw_seq fun _ hK4 => ?_
  refine cw_block ?_
  refine cw_rs fun _ κ => ?_
  refine Sm rfl rfl ?_
  refine Sm rfl rfl ?_
  refine as_q rfl rfl (q_nilp rfl) ?_
  refine Sf 0 rfl (by kernel_rfl) rfl ?_
  refine Sc 1 rfl (by kernel_rfl) rfl (by exact BlkR.cells (hst _ _ _ hb1) rfl) ?_
  refine as_h rfl (h_yield rfl rfl ?_)
  obtain ⟨fn_, tm_, as_, bo_, hy1, hy2⟩ := hround i ((Value.agg #[.pointer x])) M1 w1 (by show (vs.map _)[i]? = _; rw [List.getElem?_map, hx]; rfl) hJ hst hle
  refine ⟨fn_, tm_, as_, bo_, hy1, RoundIn.mono hy2 fun e w1 he => ?_⟩
  cases e <;> try exact (he : False).elim
  obtain ⟨rfl, M2, hs1, hJ2⟩ := he
  have hb1:=hs1.le _ _ hb1
  have hc:=hc.mono hs1.le
  refine as_q rfl rfl (q_not rfl) ?_
  refine as_nil (κ _ _ ?_)
  refine cw_false rfl ?_
  refine cw_skip ?_
  refine hK4 _ _ ?_
  refine cw_region fun _ κ => ?_
  refine Sm rfl rfl ?_
  refine as_q rfl rfl (q_nilp rfl) ?_
  refine Sf 1 rfl (by kernel_rfl) rfl ?_
  refine S1 rfl (by kernel_rfl) rfl (by exact BlkR.cell (hs1.sat _ _ _ hb1) rfl) ?_
  refine Sa rfl rfl ?_
  refine as_nil (κ _ _ ?_)
  refine ⟨_, _, ?_, (.cons rfl (.cons rfl (.cons rfl (.nil _)))), i + 1, rest, q, _, rfl, by rw [← List.drop_drop, hdr]; rfl, by simp only [List.length_cons] at hi ⊢; omega, hc, rfl, hle.trans hs1.le, hs1.sat, hJ2⟩
  simp
 ·
  have hrn : rest = [] := by
   rcases rest with _ | ⟨x, rest⟩
   · rfl
   ·
    obtain ⟨b, q, h, _⟩ := hc
    cases h; cases hc0
  subst hrn
  refine cw_exit ?_
  have e : i = vs.length := by simpa using hi
  exact ⟨_, res_nil, M1, hst, hle, by rw [List.length_map, ← e]; exact hJ⟩
theorem cp_each {w : World} {M : Mem} {p : Option Addr} (hs : Sat M w) :
  Does Tryz.prog 174 #[.agg #[.pointer p]] w (fun v w' => ∃ bx M', v = .func (.func 175) #[] #[.pointer (some ⟨bx, 0, none⟩)] ∧ Step Nope M w M' w' ∧ M' bx = some ([.pointer p], 249)) := by
 have hT := Step.refl Nope hs
 refine fn_enter Tryz.func174 rfl (rs := [.tmp 2]) rfl rfl rfl rfl ?_
 refine cw_rs fun _ κ => ?_
 refine as_h rfl (h_boxM hs rfl rfl fun b1 M1 w1 hs1 hb1 e1 => ?_)
 have hT:=hT.then hs1
 refine Sa rfl rfl ?_
 refine as_nil (κ _ _ ?_)
 refine cw_rs fun _ κ => ?_
 refine as_q rfl rfl (q_func rfl rfl) ?_
 refine Sa rfl rfl ?_
 refine as_nil (κ _ _ ?_)
 refine cw_ret ?_
 exact ⟨_, (res_tmp rfl res_nil), _, _, rfl, hT, hb1⟩
theorem cp_all {w : World} {M : Mem} {vs : List (Option Addr)} {p : Value} (hs : Sat M w) (h : CRep 260 M vs p) (hz : vs.length ≤ 1000000000) :
  Does Tryz.prog 169 #[.agg #[p]] w (fun v w' => ∃ M', Step Nope M w M' w' ∧ Buf w' M' 79 1 v vs.length (ptrs vs) ∧ ∀ g, v.ownBlock = some g → w.heap.size ≤ g) := by
 have hT := Step.refl Nope hs
 obtain ⟨p, rfl⟩ := h.ptr
 refine fn_enterM (K' := fun v w' => ∃ M', Step Nope M w M' w' ∧ Buf w' M' 79 1 v vs.length (ptrs vs) ∧ ∀ g, v.ownBlock = some g → w.heap.size ≤ g) Tryz.func169 rfl (rs := [.tmp 2]) rfl rfl rfl rfl ?_ (fun _ _ _ _ _ _ h => resT rfl h) ?_
 ·
  refine cm_seq fun K0a hK0a => cw_region fun K0b hK0b => ?_
  refine as_h rfl (h_boxM hs rfl rfl fun b1 M1 w1 hs1 hb1 e1 => ?_)
  have h:=h.mono hs1.le
  have hT:=hT.then hs1
  have hz1 := hs1.size
  refine Sa rfl rfl ?_
  refine as_nil (hK0b _ _ (hK0a _ _ ?_))
  clear hK0b hK0a K0b K0a
  refine cm_seq fun K1a hK1a => cw_region fun K1b hK1b => ?_
  have hqao := hT.size
  refine as_h rfl (h_allocO (z := (.slice none 0 0)) hs1.sat (by kernel_rfl) rfl fun bo w2 hs2 hoo eo => ?_)
  have h:=h.mono hs2.le
  have hb1:=hs2.le _ _ hb1
  have hT:=hT.then hs2
  have hz2 := hs2.size
  have hlo := hoo.1.lt
  refine as_nil (hK1b _ _ (hK1a _ _ ?_))
  clear hK1b hK1a K1b K1a
  refine cm_seqM ?_
  refine cm_seq fun K2a hK2a => cw_region fun K2b hK2b => ?_
  refine Sc 1 rfl (by kernel_rfl) rfl (by exact BlkR.cells (hs2.sat _ _ _ hb1) rfl) ?_
  refine as_h rfl (h_call (by kernel_rfl) rfl ?_)
  refine (cp_each hs2.sat).mono ?_
  rintro _ w3 ⟨bx, Mx, rfl, hs3, hbx⟩
  have h:=h.mono hs3.le
  have hoo:=hoo.then hs3
  have hT:=hT.then hs3
  have hz3 := hs3.size
  refine as_nil (hK2b _ _ (hK2a _ _ ?_))
  clear hK2b hK2a K2b K2a
  have hTs := hT.size
  have hbo := hoo.1.lt
  have hboo : w.heap.size ≤ bo := by omega
  refine cm_block ?_
  refine cm_rangeC (M := Mx) (S := Nope) (vs := vs.map fun q => (Value.agg #[.pointer q])) (lb := [.pointer (some ⟨bx, 0, none⟩)]) (gf := 175) rfl rfl rfl (by kernel_rfl) rfl hs3.sat hTs (cp_each1 hbx h) (fun _ h => h.elim) (fun i M' W' => ∃ sv, Own W' M' bo [sv] 257 ∧ Buf W' M' 79 1 sv i (ptrs (vs.take i)) ∧ Step Nope M w M' W' ∧ ∀ g, sv.ownBlock = some g → w.heap.size ≤ g ∧ g ≠ bo ∧ g ≠ w3.heap.size ∧ g ≠ w3.heap.size + 1) (fun i v la M' W' => ∃ bz q, v = .agg #[.pointer q] ∧ la = [(3, .pointer (some ⟨bo, 0, none⟩)), (4, .pointer (some ⟨bz, 0, none⟩))] ∧ Own W' M' bz [.pointer q] 79 ∧ bz ≠ w3.heap.size ∧ bz ≠ w3.heap.size + 1 ∧ ∃ sv, Own W' M' bo [sv] 257 ∧ Buf W' M' 79 1 sv i (ptrs (vs.take i)) ∧ Step Nope M w M' W' ∧ ∀ g, sv.ownBlock = some g → w.heap.size ≤ g ∧ g ≠ bo ∧ g ≠ w3.heap.size ∧ g ≠ w3.heap.size + 1) ?_ ?_ ?_ ?_ ?_ ?_
  ·
   rintro i M' W' M'' W'' ⟨sv, h1, h2, h3, h4⟩ k
   refine ⟨sv, h1.step k (by rintro (h | h | h); exact h; all_goals omega), h2.step k (fun g hg => by rintro (h | h | h); exact h; exact (h4 g hg).2.2.1 h; exact (h4 g hg).2.2.2 h), h3.trans k (fun b hb => by rintro (h | h | h); exact h; all_goals omega), h4⟩
  · exact ⟨_, hoo, by rw [List.take_zero]; exact Buf.nil _ _ _ _, hT, fun g hg => by cases hg⟩
  ·
   rintro i v la M' W' M'' W'' ⟨bz, q, rfl, rfl, h0, hz1, hz2, sv, h1, h2, h3, h4⟩ k
   refine ⟨bz, q, rfl, rfl, h0.step k (by rintro (h | h | h); exact h; all_goals omega), hz1, hz2, ?_⟩
   refine ⟨sv, h1.step k (by rintro (h | h | h); exact h; all_goals omega), h2.step k (fun g hg => by rintro (h | h | h); exact h; exact (h4 g hg).2.2.1 h; exact (h4 g hg).2.2.2 h), h3.trans k (fun b hb => by rintro (h | h | h); exact h; all_goals omega), h4⟩
  ·
   rintro i v r M' W' hv ⟨sv, h1, h2, h3, h4⟩ hs' hle hlt
   obtain ⟨q, _, rfl⟩ : ∃ q, _ ∧ v = .agg #[.pointer q] := by
    rw [List.getElem?_map] at hv
    obtain ⟨q, h5, h6⟩ := Option.map_eq_some_iff.1 hv
    exact ⟨q, h5, h6.symm⟩
   refine cw_region fun _ κ => ?_
   refine as_h rfl (h_allocO (z := (.agg #[(.pointer none)])) hs' (by kernel_rfl) rfl fun bz w4 hs4 hz ez => ?_)
   have hz4 := hs4.size
   refine as_h0 (h_store hs4.sat hz rfl rfl rfl (by kernel_rfl) rfl rfl rfl fun w5 hs5 hz5 => ?_)
   have hst : Step Nope M' W' M' w5 := hs4.trans hs5 (fun b hb h => by have h : b = bz := h; omega)
   have hz0 := hs4.size
   have hb2 := h2.lt
   refine as_nil (κ _ _ ⟨_, M', .cons rfl (.cons rfl (.nil _)), hst, bz, q, rfl, rfl, hz5, by omega, by omega, sv, h1.then hst, h2.then hst, h3.also hst, h4⟩)
  ·
   rintro i v la r M' W' hv ⟨bz, q, rfl, rfl, hz, hz1, hz2, sv, h1, h2, h3, h4⟩ hs' hle hlt
   obtain ⟨x, hx, hxv⟩ : ∃ x, vs[i]? = some x ∧ (Value.agg #[.pointer x]) = Value.agg #[.pointer q] := by
    rw [List.getElem?_map] at hv
    exact Option.map_eq_some_iff.1 hv
   have h1l := h1.1.lt
   have h2l := h2.lt
   have hin : i < vs.length := (List.getElem?_eq_some_iff.1 hx).1
   cases hxv
   refine cw_block (cw_region fun K4 hK4 => ?_)
   refine S1 rfl (by kernel_rfl) rfl (by exact Blk.cell h1.1 rfl) ?_
   refine Sc 1 rfl (by kernel_rfl) rfl (by exact Blk.cells hz.1 rfl) ?_
   refine as_h rfl (h_buildO (e := 79) (size := 1) (zs := [.pointer none]) (cs := [_]) (by kernel_rfl) (by kernel_rfl) (by kernel_rfl) rfl hs' rfl rfl fun b6 w6 hs6 ho6 e6 => ?_)
   have hsB := hs6
   have h1:=h1.then hs6
   have hz6 := hs6.size
   have hrx := Buf.rd (Own.buf ho6 (n := 1) (size := 1) rfl (by decide))
   have h2b := h2.then hsB
   refine as_h rfl (h_append (e := 79) (size := 1) (bytes := 8) (by kernel_rfl) hs6.sat h2b hrx rfl rfl (fun y hy => by obtain rfl := List.mem_singleton.1 hy; rfl) (by omega) rfl fun sv2 w7 hs7 h2c hor => ?_)
   have hsv : ∃ a k c, sv2 = .slice a k c := by obtain ⟨a, c, h, _⟩ := h2c.slice; exact ⟨a, _, c, h⟩
   have h1:=h1.step hs7 (fun h => (h4 _ h).2.1 rfl)
   obtain ⟨sa, sk, sc, rfl⟩ := hsv
   refine as_h0 (h_store hs7.sat h1 rfl rfl rfl (by kernel_rfl) rfl rfl rfl fun w8 hs8 h1n => ?_)
   have hzb := hs6.size
   have hza := hs7.size
   have hownf : ∀ g, (Value.slice sa sk sc).ownBlock = some g → w.heap.size ≤ g ∧ g ≠ bo ∧ g ≠ w3.heap.size ∧ g ≠ w3.heap.size + 1 := fun g hg => by
    rcases hor with h | h
    · rw [h] at hg; exact h4 g hg
    · rw [h] at hg; have hg := Option.some.inj hg; omega
   have k1 : Step (fun k => ¬ Nope k ∧ k ≠ w3.heap.size ∧ k ≠ w3.heap.size + 1) M' w6 M' w7 := hs7.wide fun k _ h => ⟨id, (h4 k h).2.2.1, (h4 k h).2.2.2⟩
   have k2 : Step (fun k => ¬ Nope k ∧ k ≠ w3.heap.size ∧ k ≠ w3.heap.size + 1) M' w7 M' w8 := hs8.wide fun k _ h => by have h : k = bo := h; exact ⟨id, by omega, by omega⟩
   refine as_nil (hK4 _ _ ⟨M', ((hs6.any _).also k1).also k2, _, h1n, ?_, ?_, hownf⟩)
   ·
    have h5 := h2c.step hs8 (fun g hg h => (hownf g hg).2.1 h)
    rw [ptrs_take hx] at h5
    exact h5
   · exact ((h3.also hs6).trans hs7 (fun k hk h => by have := (h4 k h).1; omega)).trans hs8 (fun k hk h => by have h : k = bo := h; omega)
  ·
   rintro M' W' hs' hle ⟨sv, h1, h2, h3, h4⟩ D hD hDd
   refine cw_rs fun _ κ => ?_
   refine S1 rfl (by kernel_rfl) rfl (by exact Blk.cell h1.1 rfl) ?_
   refine Sa rfl rfl ?_
   refine as_nil (κ _ _ ?_)
   refine cw_ret ⟨hDd, _, res_tmp rfl res_nil, M', h3, ?_, fun g hg => (h4 g hg).1⟩
   rw [List.length_map] at h2
   rw [List.take_length] at h2
   exact h2
 ·
  rintro v w' D hB hD ⟨M', h1, h2, h3⟩
  have k := Step.putObj h1.sat hD (by simp) (.deferred none)
  refine ⟨M', h1.trans k (fun b hb h => by have h : b = D := h; omega), h2.step k (fun g hg h => ?_), h3⟩
  have h : g = D := h
  subst h
  obtain ⟨⟨_, hh⟩, _⟩ := h2
  rcases hh with ⟨rfl, _⟩ | ⟨g2, cap, cur, rfl, _, hh, _⟩
  · cases hg
  · cases hg; rw [hD] at hh; cases hh
end Go.Proofs.YtgcgjpfjjgalmaaGreat
