/- Steps of the proof that the law of this claim answers true, part 6. No conditions. -/
import Derived.Test.YtgcgjpfjjgalmaaGreatCDrainFrontsE
/- Pairing heaps, part 1. -/
namespace Go.Proofs.YtgcgjpfjjgalmaaGreat
open Go Go.Eng
theorem p_size_n {w : World} {M : Mem} (hs : Sat M w) :
  Does Tryz.prog 166 #[.agg #[.pointer none]] w (fun v w' => v = .int .i64 (Pr.nil.size : Nat) ∧ Step Nope M w M w') := by
 have hT := Step.refl Nope hs
 refine fn_enter Tryz.func166 rfl (rs := [.tmp 2]) rfl rfl rfl rfl ?_
 refine cw_rs fun _ κ => ?_
 refine as_h rfl (h_boxM hs rfl rfl fun b1 M1 w1 hs1 hb1 e1 => ?_)
 have hT:=hT.then hs1
 refine Sa rfl rfl ?_
 refine as_nil (κ _ _ ?_)
 refine cw_seq fun _ hK2 => ?_
 refine cw_rs fun _ κ => ?_
 refine Sf 0 rfl (by kernel_rfl) rfl ?_
 refine S1 rfl (by kernel_rfl) rfl (by exact BlkR.cell (hs1.sat _ _ _ hb1) rfl) ?_
 refine as_q rfl rfl (q_eqnil (by kernel_rfl) rfl) ?_
 refine as_nil (κ _ _ ?_)
 refine cw_true rfl ?_
 refine cw_rs fun _ κ => ?_
 refine Sa rfl rfl ?_
 refine as_nil (κ _ _ ?_)
 refine cw_ret ?_
 exact ⟨_, (res_tmp rfl res_nil), rfl, hT.forget⟩
theorem p_size_c {w : World} {M : Mem} {x : El} {ks : List Pr} {q : Option Addr} (hs : Sat M w) (h : PRep 251 260 M (.node x ks) q) :
  Does Tryz.prog 166 #[.agg #[.pointer q]] w (fun v w' => v = .int .i64 ((Pr.node x ks).size : Nat) ∧ Step Nope M w M w') := by
 have hT := Step.refl Nope hs
 obtain ⟨b, kq, al, rfl, hb, hc, hk⟩ := prep_node.1 h
 refine fn_enter Tryz.func166 rfl (rs := [.tmp 2]) rfl rfl rfl rfl ?_
 refine cw_rs fun _ κ => ?_
 refine as_h rfl (h_boxM hs rfl rfl fun b1 M1 w1 hs1 hb1 e1 => ?_)
 have hb:=hs1.le _ _ hb
 have hT:=hT.then hs1
 refine Sa rfl rfl ?_
 refine as_nil (κ _ _ ?_)
 refine cw_seq fun _ hK2 => ?_
 refine cw_rs fun _ κ => ?_
 refine Sf 0 rfl (by kernel_rfl) rfl ?_
 refine S1 rfl (by kernel_rfl) rfl (by exact BlkR.cell (hs1.sat _ _ _ hb1) rfl) ?_
 refine as_q rfl rfl (q_eqnil (by kernel_rfl) rfl) ?_
 refine as_nil (κ _ _ ?_)
 refine cw_false rfl ?_
 refine cw_skip ?_
 refine hK2 _ _ ?_
 refine cw_rs fun _ κ => ?_
 refine Sf 0 rfl (by kernel_rfl) rfl ?_
 refine S1 rfl (by kernel_rfl) rfl (by exact BlkR.cell (hs1.sat _ _ _ hb1) rfl) ?_
 refine as_q rfl rfl (q_nilp rfl) ?_
 refine Sf 3 rfl (by kernel_rfl) rfl ?_
 refine S1 rfl (by kernel_rfl) rfl (by exact BlkR.cell (hs1.sat _ _ _ hb) rfl) ?_
 refine Sa rfl rfl ?_
 refine as_nil (κ _ _ ?_)
 refine cw_ret ?_
 exact ⟨_, (res_tmp rfl res_nil), by rw [Pr.size]; rfl, hT.forget⟩
theorem p_size {w : World} {M : Mem} {t : Pr} {q : Option Addr} (hs : Sat M w) (h : PRep 251 260 M t q) : Does Tryz.prog 166 #[.agg #[.pointer q]] w (fun v w' => v = .int .i64 (t.size : Nat) ∧ Step Nope M w M w') := by
 cases t with
 | nil => obtain rfl := prep_nil.1 h; exact p_size_n hs
 | node x ks => exact p_size_c hs h
theorem p_min {w : World} {M : Mem} {x : El} {ks : List Pr} {q : Option Addr} (hs : Sat M w) (h : PRep 251 260 M (.node x ks) q) :
  Does Tryz.prog 163 #[.agg #[.pointer q], .pointer none] w (fun v w' => v = .tuple #[.agg (elc x).toArray, .bool true] ∧ Step Nope M w M w') := by
 have hT := Step.refl Nope hs
 obtain ⟨b, kq, al, rfl, hb, hc, hk⟩ := prep_node.1 h
 refine fn_enter Tryz.func163 rfl (rs := [.cell 4 24, .tmp 5]) rfl rfl rfl rfl ?_
 refine cw_rs fun _ κ => ?_
 refine as_h rfl (h_boxM hs rfl rfl fun b1 M1 w1 hs1 hb1 e1 => ?_)
 have hb:=hs1.le _ _ hb
 have hT:=hT.then hs1
 have hz1 := hs1.size
 have hqar := hT.size
 refine as_h rfl (h_allocO (z := (.agg #[(.int .i64 0), (.int .i64 0)])) hs1.sat (by kernel_rfl) rfl fun br w2 hs2 hor er => ?_)
 have hb:=hs2.le _ _ hb
 have hb1:=hs2.le _ _ hb1
 have hT:=hT.then hs2
 have hz2 := hs2.size
 have hlr := hor.1.lt
 refine Sa rfl rfl ?_
 refine as_nil (κ _ _ ?_)
 refine cw_seq fun _ hK2 => ?_
 refine cw_rs fun _ κ => ?_
 refine Sf 0 rfl (by kernel_rfl) rfl ?_
 refine S1 rfl (by kernel_rfl) rfl (by exact BlkR.cell (hs2.sat _ _ _ hb1) rfl) ?_
 refine as_q rfl rfl (q_eqnil (by kernel_rfl) rfl) ?_
 refine as_nil (κ _ _ ?_)
 refine cw_false rfl ?_
 refine cw_skip ?_
 refine hK2 _ _ ?_
 refine cw_rs fun _ κ => ?_
 refine Sf 0 rfl (by kernel_rfl) rfl ?_
 refine S1 rfl (by kernel_rfl) rfl (by exact BlkR.cell (hs2.sat _ _ _ hb1) rfl) ?_
 refine as_q rfl rfl (q_nilp rfl) ?_
 refine Sf 0 rfl (by kernel_rfl) rfl ?_
 refine Sc 2 rfl (by kernel_rfl) rfl (by exact BlkR.cells (hs2.sat _ _ _ hb) rfl) ?_
 refine as_h0 (h_store hs2.sat hor rfl rfl rfl (by kernel_rfl) rfl rfl rfl fun w3 hs3 hn3 => ?_)
 clear hor; have hor := hn3; clear hn3
 have hT:=hT.own hs3 (by omega)
 have hz3 := hs3.size
 refine Sa rfl rfl ?_
 refine as_nil (κ _ _ ?_)
 refine cw_ret ?_
 exact ⟨_, (res_cell rfl (loadVar_n (n := 2) (by kernel_rfl) (by exact Blk.cells hor.1 rfl)) (res_tmp rfl res_nil)), rfl, hT.forget⟩
theorem p_meld_a {w : World} {M : Mem} {o : Pr} {qo : Option Addr} (hs : Sat M w) (ho : PRep 251 260 M o qo) :
  Does Tryz.prog 162 #[.agg #[.pointer none], .pointer none, .agg #[.pointer qo]] w (fun v w' => ∃ q M', v = .agg #[.pointer q] ∧ Step Nope M w M' w' ∧ PRep 251 260 M' o q) := by
 have hT := Step.refl Nope hs
 refine fn_enter Tryz.func162 rfl (rs := [.cell 6 79]) rfl rfl rfl rfl ?_
 refine cw_rs fun _ κ => ?_
 have hqah := hT.size
 refine as_h rfl (h_boxO hs rfl rfl fun bh w1 hs1 hoh eh => ?_)
 have ho:=ho.mono hs1.le
 have hT:=hT.then hs1
 have hz1 := hs1.size
 have hlh := hoh.1.lt
 have hqao := hT.size
 refine as_h rfl (h_boxO hs1.sat rfl rfl fun bo w2 hs2 hoo eo => ?_)
 have ho:=ho.mono hs2.le
 have hoh:=hoh.then hs2
 have hT:=hT.then hs2
 have hz2 := hs2.size
 have hlo := hoo.1.lt
 have hqar := hT.size
 refine as_h rfl (h_allocO (z := (.agg #[(.pointer none)])) hs2.sat (by kernel_rfl) rfl fun br w3 hs3 hor er => ?_)
 have ho:=ho.mono hs3.le
 have hoh:=hoh.then hs3
 have hoo:=hoo.then hs3
 have hT:=hT.then hs3
 have hz3 := hs3.size
 have hlr := hor.1.lt
 refine as_nil (κ _ _ ?_)
 refine cw_seq fun _ hK2 => ?_
 refine cw_block ?_
 refine cw_rs fun _ κ => ?_
 refine Sf 0 rfl (by kernel_rfl) rfl ?_
 refine S1 rfl (by kernel_rfl) rfl (by exact Blk.cell hoh.1 rfl) ?_
 refine as_q rfl rfl (q_eqnil (by kernel_rfl) rfl) ?_
 refine Sa rfl rfl ?_
 refine as_nil (κ _ _ ?_)
 refine cw_true rfl ?_
 refine cw_rs fun _ κ => ?_
 refine Sc 1 rfl (by kernel_rfl) rfl (by exact Blk.cells hoo.1 rfl) ?_
 refine as_h0 (h_store hs3.sat hor rfl rfl rfl (by kernel_rfl) rfl rfl rfl fun w4 hs4 hn4 => ?_)
 have ho:=ho.mono hs4.le
 clear hor; have hor := hn4; clear hn4
 have hT:=hT.own hs4 (by omega)
 have hz4 := hs4.size
 refine as_nil (κ _ _ ?_)
 refine cw_ret ?_
 exact ⟨_, (res_cell rfl (loadVar_n (n := 1) (by kernel_rfl) (by exact Blk.cells hor.1 rfl)) res_nil), _, _, rfl, hT, ho⟩
theorem p_meld_b {w : World} {M : Mem} {t : Pr} {a : Addr} (hs : Sat M w) (h : PRep 251 260 M t (some a)) :
  Does Tryz.prog 162 #[.agg #[.pointer (some a)], .pointer none, .agg #[.pointer none]] w (fun v w' => ∃ q M', v = .agg #[.pointer q] ∧ Step Nope M w M' w' ∧ PRep 251 260 M' t q) := by
 have hT := Step.refl Nope hs
 refine fn_enter Tryz.func162 rfl (rs := [.cell 6 79]) rfl rfl rfl rfl ?_
 refine cw_rs fun _ κ => ?_
 have hqah := hT.size
 refine as_h rfl (h_boxO hs rfl rfl fun bh w1 hs1 hoh eh => ?_)
 have h:=h.mono hs1.le
 have hT:=hT.then hs1
 have hz1 := hs1.size
 have hlh := hoh.1.lt
 have hqao := hT.size
 refine as_h rfl (h_boxO hs1.sat rfl rfl fun bo w2 hs2 hoo eo => ?_)
 have h:=h.mono hs2.le
 have hoh:=hoh.then hs2
 have hT:=hT.then hs2
 have hz2 := hs2.size
 have hlo := hoo.1.lt
 have hqar := hT.size
 refine as_h rfl (h_allocO (z := (.agg #[(.pointer none)])) hs2.sat (by kernel_rfl) rfl fun br w3 hs3 hor er => ?_)
 have h:=h.mono hs3.le
 have hoh:=hoh.then hs3
 have hoo:=hoo.then hs3
 have hT:=hT.then hs3
 have hz3 := hs3.size
 have hlr := hor.1.lt
 refine as_nil (κ _ _ ?_)
 refine cw_seq fun _ hK2 => ?_
 refine cw_block ?_
 refine cw_rs fun _ κ => ?_
 refine Sf 0 rfl (by kernel_rfl) rfl ?_
 refine S1 rfl (by kernel_rfl) rfl (by exact Blk.cell hoh.1 rfl) ?_
 refine as_q rfl rfl (q_eqnil (by kernel_rfl) rfl) ?_
 refine Sa rfl rfl ?_
 refine as_nil (κ _ _ ?_)
 refine cw_false rfl ?_
 refine cw_rs fun _ κ => ?_
 refine Sf 0 rfl (by kernel_rfl) rfl ?_
 refine S1 rfl (by kernel_rfl) rfl (by exact Blk.cell hoo.1 rfl) ?_
 refine as_q rfl rfl (q_eqnil (by kernel_rfl) rfl) ?_
 refine Sa rfl rfl ?_
 refine as_nil (κ _ _ ?_)
 refine cw_true rfl ?_
 refine cw_rs fun _ κ => ?_
 refine Sc 1 rfl (by kernel_rfl) rfl (by exact Blk.cells hoh.1 rfl) ?_
 refine as_h0 (h_store hs3.sat hor rfl rfl rfl (by kernel_rfl) rfl rfl rfl fun w4 hs4 hn4 => ?_)
 have h:=h.mono hs4.le
 clear hor; have hor := hn4; clear hn4
 have hT:=hT.own hs4 (by omega)
 have hz4 := hs4.size
 refine as_nil (κ _ _ ?_)
 refine cw_ret ?_
 exact ⟨_, (res_cell rfl (loadVar_n (n := 1) (by kernel_rfl) (by exact Blk.cells hor.1 rfl)) res_nil), _, _, rfl, hT, h⟩
theorem p_meld_c {w : World} {M : Mem} {x y : El} {ks ls : List Pr} {q q2 : Option Addr} (hs : Sat M w) (h : PRep 251 260 M (.node x ks) q) (h2 : PRep 251 260 M (.node y ls) q2) (hz : (Pr.node x ks).size + (Pr.node y ls).size ≤ 1000000000) :
  Does Tryz.prog 162 #[.agg #[.pointer q], .pointer none, .agg #[.pointer q2]] w (fun v w' => ∃ q M', v = .agg #[.pointer q] ∧ Step Nope M w M' w' ∧ PRep 251 260 M' ((Pr.node x ks).meld (.node y ls)) q) := by
 have hT := Step.refl Nope hs
 obtain ⟨b, kq, al, rfl, hb, hc, hk⟩ := prep_node.1 h
 obtain ⟨b2, kq2, al2, rfl, hb2, hc2, hk2⟩ := prep_node.1 h2
 have hz0 : (1 + Pr.sizes ks) + (1 + Pr.sizes ls) ≤ 1000000000 := by simpa only [Pr.size] using hz
 refine fn_enter Tryz.func162 rfl (rs := [.cell 6 79]) rfl rfl rfl rfl ?_
 refine cw_rs fun _ κ => ?_
 have hqah := hT.size
 refine as_h rfl (h_boxO hs rfl rfl fun bh w1 hs1 hoh eh => ?_)
 have hb:=hs1.le _ _ hb
 have hc:=hc.mono hs1.le
 have hk:=hk.mono hs1.le
 have hb2:=hs1.le _ _ hb2
 have hc2:=hc2.mono hs1.le
 have hk2:=hk2.mono hs1.le
 have hT:=hT.then hs1
 have hz1 := hs1.size
 have hlh := hoh.1.lt
 have hqao := hT.size
 refine as_h rfl (h_boxO hs1.sat rfl rfl fun bo w2 hs2 hoo eo => ?_)
 have hb:=hs2.le _ _ hb
 have hc:=hc.mono hs2.le
 have hk:=hk.mono hs2.le
 have hb2:=hs2.le _ _ hb2
 have hc2:=hc2.mono hs2.le
 have hk2:=hk2.mono hs2.le
 have hoh:=hoh.then hs2
 have hT:=hT.then hs2
 have hz2 := hs2.size
 have hlo := hoo.1.lt
 have hqar := hT.size
 refine as_h rfl (h_allocO (z := (.agg #[(.pointer none)])) hs2.sat (by kernel_rfl) rfl fun br w3 hs3 hor er => ?_)
 have hb:=hs3.le _ _ hb
 have hc:=hc.mono hs3.le
 have hk:=hk.mono hs3.le
 have hb2:=hs3.le _ _ hb2
 have hc2:=hc2.mono hs3.le
 have hk2:=hk2.mono hs3.le
 have hoh:=hoh.then hs3
 have hoo:=hoo.then hs3
 have hT:=hT.then hs3
 have hz3 := hs3.size
 have hlr := hor.1.lt
 refine as_nil (κ _ _ ?_)
 refine cw_seq fun _ hK2 => ?_
 refine cw_block ?_
 refine cw_rs fun _ κ => ?_
 refine Sf 0 rfl (by kernel_rfl) rfl ?_
 refine S1 rfl (by kernel_rfl) rfl (by exact Blk.cell hoh.1 rfl) ?_
 refine as_q rfl rfl (q_eqnil (by kernel_rfl) rfl) ?_
 refine Sa rfl rfl ?_
 refine as_nil (κ _ _ ?_)
 refine cw_false rfl ?_
 refine cw_rs fun _ κ => ?_
 refine Sf 0 rfl (by kernel_rfl) rfl ?_
 refine S1 rfl (by kernel_rfl) rfl (by exact Blk.cell hoo.1 rfl) ?_
 refine as_q rfl rfl (q_eqnil (by kernel_rfl) rfl) ?_
 refine Sa rfl rfl ?_
 refine as_nil (κ _ _ ?_)
 refine cw_false rfl ?_
 refine cw_skip ?_
 refine hK2 _ _ ?_
 refine cw_seq fun _ hK5 => ?_
 refine cw_dr (by kernel_rfl) fun _ κ => ?_
 have hs4 := Step.drew hs3.sat
 have hz4 := hs4.size
 have hb:=hs4.le _ _ hb
 have hc:=hc.mono hs4.le
 have hk:=hk.mono hs4.le
 have hb2:=hs4.le _ _ hb2
 have hc2:=hc2.mono hs4.le
 have hk2:=hk2.mono hs4.le
 have hoh:=hoh.then hs4
 have hoo:=hoo.then hs4
 have hor:=hor.then hs4
 have hT:=hT.then hs4
 refine Dm 0 1 rfl (by kernel_rfl) rfl ?_
 refine Df 1 3 0 rfl (by kernel_rfl) (by kernel_rfl) rfl ?_
 refine Dl1 2 7 rfl (by kernel_rfl) (by kernel_rfl) rfl (by exact Blk.cell hoo.1 rfl) ?_
 refine Dq 3 15 rfl (by kernel_rfl) (fun _ => (q_nilp rfl)) ?_
 refine Df 4 31 0 rfl (by kernel_rfl) (by kernel_rfl) rfl ?_
 refine Dlc 5 63 2 rfl (by kernel_rfl) (by kernel_rfl) rfl (by exact BlkR.cells (hs4.sat _ _ _ hb2) rfl) ?_
 refine Df 6 127 0 rfl (by kernel_rfl) (by kernel_rfl) rfl ?_
 refine Dl1 7 255 rfl (by kernel_rfl) (by kernel_rfl) rfl (by exact Blk.cell hoh.1 rfl) ?_
 refine Dq 8 511 rfl (by kernel_rfl) (fun _ => (q_nilp rfl)) ?_
 refine Df 9 1023 0 rfl (by kernel_rfl) (by kernel_rfl) rfl ?_
 refine Dlc 10 2047 2 rfl (by kernel_rfl) (by kernel_rfl) rfl (by exact BlkR.cells (hs4.sat _ _ _ hb) rfl) ?_
 refine Dh 11 4095 rfl (by kernel_rfl) (keep_sift (bs := [T,F,T,F]) (by kernel_rfl)) (h_call (by kernel_rfl) rfl ?_)
 refine (m_less (a := y) (b := x) hs4.sat).mono ?_
 rintro _ w5 ⟨rfl, hs5⟩
 have hb:=hs5.le _ _ hb
 have hc:=hc.mono hs5.le
 have hk:=hk.mono hs5.le
 have hb2:=hs5.le _ _ hb2
 have hc2:=hc2.mono hs5.le
 have hk2:=hk2.mono hs5.le
 have hoh:=hoh.then hs5
 have hoo:=hoo.then hs5
 have hor:=hor.then hs5
 have hT:=hT.then hs5
 have hz5 := hs5.size
 refine ⟨(by repeat' first | exact trivial | exact BlkR.cell (hs5.sat _ _ _ hb) rfl | exact BlkR.cells (hs5.sat _ _ _ hb) rfl | exact BlkR.cell (hs5.sat _ _ _ hb2) rfl | exact BlkR.cells (hs5.sat _ _ _ hb2) rfl | exact Blk.cell hoh.1 rfl | exact Blk.cells hoh.1 rfl | exact Blk.cell hoo.1 rfl | exact Blk.cells hoo.1 rfl | exact Blk.cell hor.1 rfl | exact Blk.cells hor.1 rfl | assumption | refine all_keep ?_ | refine And.intro ?_ ?_), ?_⟩
 refine Dd (by kernel_rfl) (κ _ _ ?_)
 refine cw_cond rfl (fun hC2 => ?_) (fun hC2 => ?_)
 ·
  have hc2_ := hC2
  refine cw_region fun _ κ => ?_
  refine Sc 1 rfl (by kernel_rfl) rfl (by exact Blk.cells hoo.1 rfl) ?_
  refine Sc 1 rfl (by kernel_rfl) rfl (by exact Blk.cells hoh.1 rfl) ?_
  refine as_h0 (h_store hs5.sat hoh rfl rfl rfl (by kernel_rfl) rfl rfl rfl fun w6 hs6 hn6 => ?_)
  have hb:=hs6.le _ _ hb
  have hc:=hc.mono hs6.le
  have hk:=hk.mono hs6.le
  have hb2:=hs6.le _ _ hb2
  have hc2:=hc2.mono hs6.le
  have hk2:=hk2.mono hs6.le
  have hoo:=hoo.step hs6 (fun h => by have h : _ = _ := h; omega)
  have hor:=hor.step hs6 (fun h => by have h : _ = _ := h; omega)
  clear hoh; have hoh := hn6; clear hn6
  have hT:=hT.own hs6 (by omega)
  have hz6 := hs6.size
  refine as_h0 (h_store hs6.sat hoo rfl rfl rfl (by kernel_rfl) rfl rfl rfl fun w7 hs7 hn7 => ?_)
  have hb:=hs7.le _ _ hb
  have hc:=hc.mono hs7.le
  have hk:=hk.mono hs7.le
  have hb2:=hs7.le _ _ hb2
  have hc2:=hc2.mono hs7.le
  have hk2:=hk2.mono hs7.le
  have hoh:=hoh.step hs7 (fun h => by have h : _ = _ := h; omega)
  have hor:=hor.step hs7 (fun h => by have h : _ = _ := h; omega)
  clear hoo; have hoo := hn7; clear hn7
  have hT:=hT.own hs7 (by omega)
  have hz7 := hs7.size
  refine as_nil (κ _ _ ?_)
  refine hK5 _ _ ?_
  refine cw_rs fun _ κ => ?_
  refine Sm rfl rfl ?_
  refine as_h rfl (h_call (by kernel_rfl) rfl ?_)
  refine (m_made hs7.sat).mono ?_
  rintro _ w8 hs8
  have hb:=hs8.le _ _ hb
  have hc:=hc.mono hs8.le
  have hk:=hk.mono hs8.le
  have hb2:=hs8.le _ _ hb2
  have hc2:=hc2.mono hs8.le
  have hk2:=hk2.mono hs8.le
  have hoh:=hoh.then hs8
  have hoo:=hoo.then hs8
  have hor:=hor.then hs8
  have hT:=hT.then hs8
  have hz8 := hs8.size
  refine as_nil (κ _ _ ?_)
  refine cw_dr (by kernel_rfl) fun _ κ => ?_
  have hs9 := Step.drew hs8.sat
  have hz9 := hs9.size
  have hb:=hs9.le _ _ hb
  have hc:=hc.mono hs9.le
  have hk:=hk.mono hs9.le
  have hb2:=hs9.le _ _ hb2
  have hc2:=hc2.mono hs9.le
  have hk2:=hk2.mono hs9.le
  have hoh:=hoh.then hs9
  have hoo:=hoo.then hs9
  have hor:=hor.then hs9
  have hT:=hT.then hs9
  refine Df 0 1 0 rfl (by kernel_rfl) (by kernel_rfl) rfl ?_
  refine Dl1 1 3 rfl (by kernel_rfl) (by kernel_rfl) rfl (by exact Blk.cell hoh.1 rfl) ?_
  refine Dq 2 7 rfl (by kernel_rfl) (fun _ => (q_nilp rfl)) ?_
  refine Df 3 15 0 rfl (by kernel_rfl) (by kernel_rfl) rfl ?_
  refine Dlc 4 31 2 rfl (by kernel_rfl) (by kernel_rfl) rfl (by exact BlkR.cells (hs9.sat _ _ _ hb2) rfl) ?_
  refine Df 5 63 0 rfl (by kernel_rfl) (by kernel_rfl) rfl ?_
  refine Dl1 6 127 rfl (by kernel_rfl) (by kernel_rfl) rfl (by exact Blk.cell hoh.1 rfl) ?_
  refine Dq 7 255 rfl (by kernel_rfl) (fun _ => (q_nilp rfl)) ?_
  refine Df 8 511 2 rfl (by kernel_rfl) (by kernel_rfl) rfl ?_
  refine Dlc 9 1023 1 rfl (by kernel_rfl) (by kernel_rfl) rfl (by exact BlkR.cells (hs9.sat _ _ _ hb2) rfl) ?_
  refine Dlc 10 2047 1 rfl (by kernel_rfl) (by kernel_rfl) rfl (by exact Blk.cells hoo.1 rfl) ?_
  refine Df 12 6143 0 rfl (by kernel_rfl) (by kernel_rfl) rfl ?_
  refine Dl1 13 14335 rfl (by kernel_rfl) (by kernel_rfl) rfl (by exact Blk.cell hoh.1 rfl) ?_
  refine Dq 14 30719 rfl (by kernel_rfl) (fun _ => (q_nilp rfl)) ?_
  refine Df 15 63487 3 rfl (by kernel_rfl) (by kernel_rfl) rfl ?_
  refine Dl1 16 129023 rfl (by kernel_rfl) (by kernel_rfl) rfl (by exact BlkR.cell (hs9.sat _ _ _ hb2) rfl) ?_
  refine Df 17 260095 0 rfl (by kernel_rfl) (by kernel_rfl) rfl ?_
  refine Dl1 18 522239 rfl (by kernel_rfl) (by kernel_rfl) rfl (by exact Blk.cell hoo.1 rfl) ?_
  refine Dq 19 1046527 rfl (by kernel_rfl) (fun _ => (q_nilp rfl)) ?_
  refine Df 20 2095103 3 rfl (by kernel_rfl) (by kernel_rfl) rfl ?_
  refine Dl1 21 4192255 rfl (by kernel_rfl) (by kernel_rfl) rfl (by exact BlkR.cell (hs9.sat _ _ _ hb) rfl) ?_
  refine Dq 22 8386559 rfl (by kernel_rfl) (fun _ => (q_addx rfl rfl (by omega) (by omega))) ?_
  refine Dh 11 8388607 rfl (by kernel_rfl) (keep_sift (bs := [F,F,F,F,T,T,F,F,F]) (by kernel_rfl)) (h_call (by kernel_rfl) rfl ?_)
  refine (cp_push hs9.sat hc2 (by have := hk2.small; simp only [Pr.size] at hz; omega)).mono ?_
  rintro _ w10 ⟨qn, Mn, rfl, hs10, hn⟩
  have hb:=hs10.le _ _ hb
  have hc:=hc.mono hs10.le
  have hk:=hk.mono hs10.le
  have hb2:=hs10.le _ _ hb2
  have hc2:=hc2.mono hs10.le
  have hk2:=hk2.mono hs10.le
  have hoh:=hoh.then hs10
  have hoo:=hoo.then hs10
  have hor:=hor.then hs10
  have hT:=hT.then hs10
  have hz10 := hs10.size
  refine ⟨(by repeat' first | exact trivial | exact BlkR.cell (hs10.sat _ _ _ hb) rfl | exact BlkR.cells (hs10.sat _ _ _ hb) rfl | exact BlkR.cell (hs10.sat _ _ _ hb2) rfl | exact BlkR.cells (hs10.sat _ _ _ hb2) rfl | exact Blk.cell hoh.1 rfl | exact Blk.cells hoh.1 rfl | exact Blk.cell hoo.1 rfl | exact Blk.cells hoo.1 rfl | exact Blk.cell hor.1 rfl | exact Blk.cells hor.1 rfl | assumption | refine all_keep ?_ | refine And.intro ?_ ?_), ?_⟩
  refine Dq 23 16777215 rfl (by kernel_rfl) (fun _ => (q_build (zs := [(.int .i64 0), (.int .i64 0), (.pointer none), (.int .i64 0)]) (places := [(0, 2), (2, 1), (3, 1)]) (cs := [_, _, _, _]) (by kernel_rfl) (by kernel_rfl) rfl rfl)) ?_
  refine Dh 24 33554431 rfl (by kernel_rfl) (keep_sift (bs := [F,F,F,F,F,F,F]) (by kernel_rfl)) (h_boxM hs10.sat rfl rfl fun b11 M11 w11 hs11 hb11 e11 => ?_)
  have hb:=hs11.le _ _ hb
  have hc:=hc.mono hs11.le
  have hk:=hk.mono hs11.le
  have hb2:=hs11.le _ _ hb2
  have hc2:=hc2.mono hs11.le
  have hk2:=hk2.mono hs11.le
  have hoh:=hoh.then hs11
  have hoo:=hoo.then hs11
  have hor:=hor.then hs11
  have hn:=hn.mono hs11.le
  have hT:=hT.then hs11
  have hz11 := hs11.size
  refine ⟨(by repeat' first | exact trivial | exact BlkR.cell (hs11.sat _ _ _ hb) rfl | exact BlkR.cells (hs11.sat _ _ _ hb) rfl | exact BlkR.cell (hs11.sat _ _ _ hb2) rfl | exact BlkR.cells (hs11.sat _ _ _ hb2) rfl | exact Blk.cell hoh.1 rfl | exact Blk.cells hoh.1 rfl | exact Blk.cell hoo.1 rfl | exact Blk.cells hoo.1 rfl | exact Blk.cell hor.1 rfl | exact Blk.cells hor.1 rfl | exact BlkR.cell (hs11.sat _ _ _ hb11) rfl | exact BlkR.cells (hs11.sat _ _ _ hb11) rfl | assumption | refine all_keep ?_ | refine And.intro ?_ ?_), ?_⟩
  refine Dq 25 67108863 rfl (by kernel_rfl) (fun _ => (q_build (zs := [(.pointer none)]) (places := [(0, 1)]) (cs := [_]) (by kernel_rfl) (by kernel_rfl) rfl rfl)) ?_
  refine Dh0 26 134217727 rfl (by kernel_rfl) (keep_sift (bs := [T,T,T,T,T,T,T]) (by kernel_rfl)) (h_store hs11.sat hor rfl rfl rfl (by kernel_rfl) rfl rfl rfl fun w12 hs12 hn12 => ?_)
  have hb:=hs12.le _ _ hb
  have hc:=hc.mono hs12.le
  have hk:=hk.mono hs12.le
  have hb2:=hs12.le _ _ hb2
  have hc2:=hc2.mono hs12.le
  have hk2:=hk2.mono hs12.le
  have hoh:=hoh.step hs12 (fun h => by have h : _ = _ := h; omega)
  have hoo:=hoo.step hs12 (fun h => by have h : _ = _ := h; omega)
  have hn:=hn.mono hs12.le
  have hb11:=hs12.le _ _ hb11
  clear hor; have hor := hn12; clear hn12
  have hT:=hT.own hs12 (by omega)
  have hz12 := hs12.size
  refine ⟨trivial, ?_⟩
  refine Dd (by kernel_rfl) (κ _ _ ?_)
  refine cw_ret ?_
  refine ⟨_, (res_cell rfl (loadVar_n (n := 1) (by kernel_rfl) (by exact Blk.cells hor.1 rfl)) res_nil), _, _, rfl, hT, ?_⟩
  rw [Pr.meld, if_pos hc2_]
  exact prep_node.2 ⟨_, _, _, rfl, hb11.trans (cell4 (by simp only [Pr.sizes, Pr.size]; omega)), hn, preps_cons.2 ⟨by simp, _, _, rfl, (prep_node.2 ⟨_, _, _, rfl, hb, hc, hk⟩), hk2⟩⟩
 ·
  have hc2_ := hC2
  refine cw_skip ?_
  refine hK5 _ _ ?_
  refine cw_rs fun _ κ => ?_
  refine Sm rfl rfl ?_
  refine as_h rfl (h_call (by kernel_rfl) rfl ?_)
  refine (m_made hs5.sat).mono ?_
  rintro _ w13 hs13
  have hb:=hs13.le _ _ hb
  have hc:=hc.mono hs13.le
  have hk:=hk.mono hs13.le
  have hb2:=hs13.le _ _ hb2
  have hc2:=hc2.mono hs13.le
  have hk2:=hk2.mono hs13.le
  have hoh:=hoh.then hs13
  have hoo:=hoo.then hs13
  have hor:=hor.then hs13
  have hT:=hT.then hs13
  have hz13 := hs13.size
  refine as_nil (κ _ _ ?_)
  refine cw_dr (by kernel_rfl) fun _ κ => ?_
  have hs14 := Step.drew hs13.sat
  have hz14 := hs14.size
  have hb:=hs14.le _ _ hb
  have hc:=hc.mono hs14.le
  have hk:=hk.mono hs14.le
  have hb2:=hs14.le _ _ hb2
  have hc2:=hc2.mono hs14.le
  have hk2:=hk2.mono hs14.le
  have hoh:=hoh.then hs14
  have hoo:=hoo.then hs14
  have hor:=hor.then hs14
  have hT:=hT.then hs14
  refine Df 0 1 0 rfl (by kernel_rfl) (by kernel_rfl) rfl ?_
  refine Dl1 1 3 rfl (by kernel_rfl) (by kernel_rfl) rfl (by exact Blk.cell hoh.1 rfl) ?_
  refine Dq 2 7 rfl (by kernel_rfl) (fun _ => (q_nilp rfl)) ?_
  refine Df 3 15 0 rfl (by kernel_rfl) (by kernel_rfl) rfl ?_
  refine Dlc 4 31 2 rfl (by kernel_rfl) (by kernel_rfl) rfl (by exact BlkR.cells (hs14.sat _ _ _ hb) rfl) ?_
  refine Df 5 63 0 rfl (by kernel_rfl) (by kernel_rfl) rfl ?_
  refine Dl1 6 127 rfl (by kernel_rfl) (by kernel_rfl) rfl (by exact Blk.cell hoh.1 rfl) ?_
  refine Dq 7 255 rfl (by kernel_rfl) (fun _ => (q_nilp rfl)) ?_
  refine Df 8 511 2 rfl (by kernel_rfl) (by kernel_rfl) rfl ?_
  refine Dlc 9 1023 1 rfl (by kernel_rfl) (by kernel_rfl) rfl (by exact BlkR.cells (hs14.sat _ _ _ hb) rfl) ?_
  refine Dlc 10 2047 1 rfl (by kernel_rfl) (by kernel_rfl) rfl (by exact Blk.cells hoo.1 rfl) ?_
  refine Df 12 6143 0 rfl (by kernel_rfl) (by kernel_rfl) rfl ?_
  refine Dl1 13 14335 rfl (by kernel_rfl) (by kernel_rfl) rfl (by exact Blk.cell hoh.1 rfl) ?_
  refine Dq 14 30719 rfl (by kernel_rfl) (fun _ => (q_nilp rfl)) ?_
  refine Df 15 63487 3 rfl (by kernel_rfl) (by kernel_rfl) rfl ?_
  refine Dl1 16 129023 rfl (by kernel_rfl) (by kernel_rfl) rfl (by exact BlkR.cell (hs14.sat _ _ _ hb) rfl) ?_
  refine Df 17 260095 0 rfl (by kernel_rfl) (by kernel_rfl) rfl ?_
  refine Dl1 18 522239 rfl (by kernel_rfl) (by kernel_rfl) rfl (by exact Blk.cell hoo.1 rfl) ?_
  refine Dq 19 1046527 rfl (by kernel_rfl) (fun _ => (q_nilp rfl)) ?_
  refine Df 20 2095103 3 rfl (by kernel_rfl) (by kernel_rfl) rfl ?_
  refine Dl1 21 4192255 rfl (by kernel_rfl) (by kernel_rfl) rfl (by exact BlkR.cell (hs14.sat _ _ _ hb2) rfl) ?_
  refine Dq 22 8386559 rfl (by kernel_rfl) (fun _ => (q_addx rfl rfl (by omega) (by omega))) ?_
  refine Dh 11 8388607 rfl (by kernel_rfl) (keep_sift (bs := [F,F,F,F,T,T,F,F,F]) (by kernel_rfl)) (h_call (by kernel_rfl) rfl ?_)
  refine (cp_push hs14.sat hc (by have := hk.small; simp only [Pr.size] at hz; omega)).mono ?_
  rintro _ w15 ⟨qn, Mn, rfl, hs15, hn⟩
  have hb:=hs15.le _ _ hb
  have hk:=hk.mono hs15.le
  have hb2:=hs15.le _ _ hb2
  have hc2:=hc2.mono hs15.le
  have hk2:=hk2.mono hs15.le
  have hoh:=hoh.then hs15
  have hoo:=hoo.then hs15
  have hor:=hor.then hs15
  have hT:=hT.then hs15
  have hz15 := hs15.size
  refine ⟨(by repeat' first | exact trivial | exact BlkR.cell (hs15.sat _ _ _ hb) rfl | exact BlkR.cells (hs15.sat _ _ _ hb) rfl | exact BlkR.cell (hs15.sat _ _ _ hb2) rfl | exact BlkR.cells (hs15.sat _ _ _ hb2) rfl | exact Blk.cell hoh.1 rfl | exact Blk.cells hoh.1 rfl | exact Blk.cell hoo.1 rfl | exact Blk.cells hoo.1 rfl | exact Blk.cell hor.1 rfl | exact Blk.cells hor.1 rfl | assumption | refine all_keep ?_ | refine And.intro ?_ ?_), ?_⟩
  refine Dq 23 16777215 rfl (by kernel_rfl) (fun _ => (q_build (zs := [(.int .i64 0), (.int .i64 0), (.pointer none), (.int .i64 0)]) (places := [(0, 2), (2, 1), (3, 1)]) (cs := [_, _, _, _]) (by kernel_rfl) (by kernel_rfl) rfl rfl)) ?_
  refine Dh 24 33554431 rfl (by kernel_rfl) (keep_sift (bs := [F,F,F,F,F,F,F]) (by kernel_rfl)) (h_boxM hs15.sat rfl rfl fun b16 M16 w16 hs16 hb16 e16 => ?_)
  have hb:=hs16.le _ _ hb
  have hk:=hk.mono hs16.le
  have hb2:=hs16.le _ _ hb2
  have hc2:=hc2.mono hs16.le
  have hk2:=hk2.mono hs16.le
  have hoh:=hoh.then hs16
  have hoo:=hoo.then hs16
  have hor:=hor.then hs16
  have hn:=hn.mono hs16.le
  have hT:=hT.then hs16
  have hz16 := hs16.size
  refine ⟨(by repeat' first | exact trivial | exact BlkR.cell (hs16.sat _ _ _ hb) rfl | exact BlkR.cells (hs16.sat _ _ _ hb) rfl | exact BlkR.cell (hs16.sat _ _ _ hb2) rfl | exact BlkR.cells (hs16.sat _ _ _ hb2) rfl | exact Blk.cell hoh.1 rfl | exact Blk.cells hoh.1 rfl | exact Blk.cell hoo.1 rfl | exact Blk.cells hoo.1 rfl | exact Blk.cell hor.1 rfl | exact Blk.cells hor.1 rfl | exact BlkR.cell (hs16.sat _ _ _ hb16) rfl | exact BlkR.cells (hs16.sat _ _ _ hb16) rfl | assumption | refine all_keep ?_ | refine And.intro ?_ ?_), ?_⟩
  refine Dq 25 67108863 rfl (by kernel_rfl) (fun _ => (q_build (zs := [(.pointer none)]) (places := [(0, 1)]) (cs := [_]) (by kernel_rfl) (by kernel_rfl) rfl rfl)) ?_
  refine Dh0 26 134217727 rfl (by kernel_rfl) (keep_sift (bs := [T,T,T,T,T,T,T]) (by kernel_rfl)) (h_store hs16.sat hor rfl rfl rfl (by kernel_rfl) rfl rfl rfl fun w17 hs17 hn17 => ?_)
  have hk:=hk.mono hs17.le
  have hb2:=hs17.le _ _ hb2
  have hc2:=hc2.mono hs17.le
  have hk2:=hk2.mono hs17.le
  have hn:=hn.mono hs17.le
  have hb16:=hs17.le _ _ hb16
  clear hor; have hor := hn17; clear hn17
  have hT:=hT.own hs17 (by omega)
  have hz17 := hs17.size
  refine ⟨trivial, ?_⟩
  refine Dd (by kernel_rfl) (κ _ _ ?_)
  refine cw_ret ?_
  refine ⟨_, (res_cell rfl (loadVar_n (n := 1) (by kernel_rfl) (by exact Blk.cells hor.1 rfl)) res_nil), _, _, rfl, hT, ?_⟩
  rw [Pr.meld, if_neg (by rw [hc2_]; decide)]
  exact prep_node.2 ⟨_, _, _, rfl, hb16.trans (cell4 (by simp only [Pr.sizes, Pr.size]; omega)), hn, preps_cons.2 ⟨by simp, _, _, rfl, (prep_node.2 ⟨_, _, _, rfl, hb2, hc2, hk2⟩), hk⟩⟩
theorem p_meld {w : World} {M : Mem} {t o : Pr} {q q2 : Option Addr} (hs : Sat M w) (h : PRep 251 260 M t q) (h2 : PRep 251 260 M o q2) (hz : t.size + o.size ≤ 1000000000) :
  Does Tryz.prog 162 #[.agg #[.pointer q], .pointer none, .agg #[.pointer q2]] w (fun v w' => ∃ q M', v = .agg #[.pointer q] ∧ Step Nope M w M' w' ∧ PRep 251 260 M' (t.meld o) q) := by
 cases t with
 | nil => obtain rfl := prep_nil.1 h; rw [show Pr.nil.meld o = o from rfl]; exact p_meld_a hs h2
 | node x ks =>
  cases o with
  | nil =>
   obtain rfl := prep_nil.1 h2
   obtain ⟨b, _, _, rfl, _⟩ := prep_node.1 h
   exact p_meld_b hs h
  | node y ls => exact p_meld_c hs h h2 hz
theorem p_insert {w : World} {M : Mem} {x : El} {t : Pr} {q : Option Addr} (hs : Sat M w) (h : PRep 251 260 M t q) (hz : t.size < 1000000000) :
  Does Tryz.prog 161 #[.agg #[.pointer q], .pointer none, .agg (elc x).toArray] w (fun v w' => ∃ q M', v = .agg #[.pointer q] ∧ Step Nope M w M' w' ∧ PRep 251 260 M' (t.insert x) q) := by
 have hT := Step.refl Nope hs
 refine fn_enter Tryz.func161 rfl (rs := [.cell 6 79]) rfl rfl rfl rfl ?_
 refine cw_rs fun _ κ => ?_
 refine as_h rfl (h_boxM hs rfl rfl fun b1 M1 w1 hs1 hb1 e1 => ?_)
 have h:=h.mono hs1.le
 have hT:=hT.then hs1
 have hz1 := hs1.size
 refine as_h rfl (h_boxM hs1.sat rfl rfl fun b2 M2 w2 hs2 hb2 e2 => ?_)
 have h:=h.mono hs2.le
 have hb1:=hs2.le _ _ hb1
 have hT:=hT.then hs2
 have hz2 := hs2.size
 have hqar := hT.size
 refine as_h rfl (h_allocO (z := (.agg #[(.pointer none)])) hs2.sat (by kernel_rfl) rfl fun br w3 hs3 hor er => ?_)
 have h:=h.mono hs3.le
 have hb1:=hs3.le _ _ hb1
 have hb2:=hs3.le _ _ hb2
 have hT:=hT.then hs3
 have hz3 := hs3.size
 have hlr := hor.1.lt
 refine as_nil (κ _ _ ?_)
 refine cw_rs fun _ κ => ?_
 refine Sm rfl rfl ?_
 refine as_h rfl (h_call (by kernel_rfl) rfl ?_)
 refine (m_made hs3.sat).mono ?_
 rintro _ w4 hs4
 have h:=h.mono hs4.le
 have hb1:=hs4.le _ _ hb1
 have hb2:=hs4.le _ _ hb2
 have hor:=hor.then hs4
 have hT:=hT.then hs4
 have hz4 := hs4.size
 refine as_nil (κ _ _ ?_)
 refine cw_rs fun _ κ => ?_
 refine Sc 2 rfl (by kernel_rfl) rfl (by exact BlkR.cells (hs4.sat _ _ _ hb2) rfl) ?_
 refine as_q rfl rfl (q_build (zs := [(.int .i64 0), (.int .i64 0), (.pointer none), (.int .i64 0)]) (places := [(0, 2), (2, 1), (3, 1)]) (cs := [_, _, _, _]) (by kernel_rfl) (by kernel_rfl) rfl rfl) ?_
 refine as_h rfl (h_boxM hs4.sat rfl rfl fun b5 M5 w5 hs5 hb5 e5 => ?_)
 have h:=h.mono hs5.le
 have hb1:=hs5.le _ _ hb1
 have hor:=hor.then hs5
 have hT:=hT.then hs5
 have hz5 := hs5.size
 refine as_q rfl rfl (q_build (zs := [(.pointer none)]) (places := [(0, 1)]) (cs := [_]) (by kernel_rfl) (by kernel_rfl) rfl rfl) ?_
 refine Sm rfl rfl ?_
 refine Sc 1 rfl (by kernel_rfl) rfl (by exact BlkR.cells (hs5.sat _ _ _ hb1) rfl) ?_
 refine as_h rfl (h_call (by kernel_rfl) rfl ?_)
 refine (p_meld (t := .node x []) hs5.sat (prep_node.2 ⟨_, none, [], rfl, hb5, rfl, preps_nil.2 rfl⟩) h (by simp only [Pr.size, Pr.sizes]; omega)).mono ?_
 rintro _ w6 ⟨qn, Mn, rfl, hs6, hn⟩
 have h:=h.mono hs6.le
 have hor:=hor.then hs6
 have hT:=hT.then hs6
 have hz6 := hs6.size
 refine as_h0 (h_store hs6.sat hor rfl rfl rfl (by kernel_rfl) rfl rfl rfl fun w7 hs7 hn7 => ?_)
 have h:=h.mono hs7.le
 have hn:=hn.mono hs7.le
 clear hor; have hor := hn7; clear hn7
 have hT:=hT.own hs7 (by omega)
 have hz7 := hs7.size
 refine as_nil (κ _ _ ?_)
 refine cw_ret ?_
 exact ⟨_, (res_cell rfl (loadVar_n (n := 1) (by kernel_rfl) (by exact Blk.cells hor.1 rfl)) res_nil), _, _, rfl, hT, hn⟩
end Go.Proofs.YtgcgjpfjjgalmaaGreat
/- Heaps of the kinds, as heaps of any kind, part 1. -/
namespace Go.Proofs.YtgcgjpfjjgalmaaGreat
open Go Go.Eng
theorem wa_insert {w : World} {M : Mem} {x : El} {t : Lft} {q : Option Addr} (hs : Sat M w) (h : LRep 171 M t (.pointer q)) (hz : t.size < 1000000000) :
  Does Tryz.prog 90 #[.agg #[.pointer q], .pointer none, .agg (elc x).toArray] w (fun v w' => ∃ q M', v = .iface 69 (.agg #[.pointer q]) ∧ Step Nope M w M' w' ∧ LRep 171 M' (Lft.insert x t) (.pointer q)) := by
 have hT := Step.refl Nope hs
 refine fn_enter Tryz.func90 rfl (rs := [.tmp 6]) rfl rfl rfl rfl ?_
 refine cw_rs fun _ κ => ?_
 refine as_h rfl (h_boxM hs rfl rfl fun b1 M1 w1 hs1 hb1 e1 => ?_)
 have h:=h.mono hs1.le
 have hT:=hT.then hs1
 refine as_h rfl (h_boxM hs1.sat rfl rfl fun b2 M2 w2 hs2 hb2 e2 => ?_)
 have h:=h.mono hs2.le
 have hb1:=hs2.le _ _ hb1
 have hT:=hT.then hs2
 refine Sa rfl rfl ?_
 refine as_nil (κ _ _ ?_)
 refine cw_rs fun _ κ => ?_
 refine Sf 0 rfl (by kernel_rfl) rfl ?_
 refine Sc 1 rfl (by kernel_rfl) rfl (by exact BlkR.cells (hs2.sat _ _ _ hb1) rfl) ?_
 refine as_q rfl rfl (q_iface (by kernel_rfl) rfl) ?_
 refine Sm rfl rfl ?_
 refine Sc 2 rfl (by kernel_rfl) rfl (by exact BlkR.cells (hs2.sat _ _ _ hb2) rfl) ?_
 refine as_h rfl (h_invoke (f := 278) (r := .agg #[.pointer q]) (by kernel_rfl) rfl rfl (by kernel_rfl) ?_)
 refine (l_insert (x := x) hs2.sat h hz).mono ?_
 rintro _ w3 ⟨pn, Mn, rfl, hs3, hn⟩
 obtain ⟨qn, rfl⟩ := hn.ptr
 have h:=h.mono hs3.le
 have hT:=hT.then hs3
 refine as_q rfl rfl (q_build (zs := [(.pointer none)]) (places := [(0, 1)]) (cs := [_]) (by kernel_rfl) (by kernel_rfl) rfl rfl) ?_
 refine as_q rfl rfl (q_iface (by kernel_rfl) rfl) ?_
 refine Sa rfl rfl ?_
 refine as_nil (κ _ _ ?_)
 refine cw_ret ?_
 exact ⟨_, (res_tmp rfl res_nil), _, _, rfl, hT, hn⟩
theorem wa_size {w : World} {M : Mem} {t : Lft} {q : Option Addr} (hs : Sat M w) (h : LRep 171 M t (.pointer q)) :
  Does Tryz.prog 95 #[.agg #[.pointer q]] w (fun v w' => v = .int .i64 (t.size : Nat) ∧ Step Nope M w M w') := by
 have hT := Step.refl Nope hs
 refine fn_enter Tryz.func95 rfl (rs := [.tmp 2]) rfl rfl rfl rfl ?_
 refine cw_rs fun _ κ => ?_
 refine as_h rfl (h_boxM hs rfl rfl fun b1 M1 w1 hs1 hb1 e1 => ?_)
 have h:=h.mono hs1.le
 have hT:=hT.then hs1
 refine Sa rfl rfl ?_
 refine as_nil (κ _ _ ?_)
 refine cw_rs fun _ κ => ?_
 refine Sf 0 rfl (by kernel_rfl) rfl ?_
 refine Sc 1 rfl (by kernel_rfl) rfl (by exact BlkR.cells (hs1.sat _ _ _ hb1) rfl) ?_
 refine as_q rfl rfl (q_iface (by kernel_rfl) rfl) ?_
 refine as_h rfl (h_invoke (f := 282) (r := .agg #[.pointer q]) (by kernel_rfl) rfl rfl (by kernel_rfl) ?_)
 refine (l_size hs1.sat h).mono ?_
 rintro _ w2 ⟨rfl, hs2⟩
 have h:=h.mono hs2.le
 have hT:=hT.then hs2
 refine Sa rfl rfl ?_
 refine as_nil (κ _ _ ?_)
 refine cw_ret ?_
 exact ⟨_, (res_tmp rfl res_nil), rfl, hT.forget⟩
theorem wa_min {w : World} {M : Mem} {x : El} {l r : Lft} {q : Option Addr} (hs : Sat M w) (h : LRep 171 M (Lft.node x l r) (.pointer q)) :
  Does Tryz.prog 92 #[.agg #[.pointer q], .pointer none] w (fun v w' => v = .tuple #[.agg (elc x).toArray, .bool true] ∧ Step Nope M w M w') := by
 have hT := Step.refl Nope hs
 refine fn_enter Tryz.func92 rfl (rs := [.cell 4 24, .tmp 5]) rfl rfl rfl rfl ?_
 refine cw_rs fun _ κ => ?_
 refine as_h rfl (h_boxM hs rfl rfl fun b1 M1 w1 hs1 hb1 e1 => ?_)
 have h:=h.mono hs1.le
 have hT:=hT.then hs1
 have hz1 := hs1.size
 have hqar := hT.size
 refine as_h rfl (h_allocO (z := (.agg #[(.int .i64 0), (.int .i64 0)])) hs1.sat (by kernel_rfl) rfl fun br w2 hs2 hor er => ?_)
 have h:=h.mono hs2.le
 have hb1:=hs2.le _ _ hb1
 have hT:=hT.then hs2
 have hz2 := hs2.size
 have hlr := hor.1.lt
 refine Sa rfl rfl ?_
 refine as_nil (κ _ _ ?_)
 refine cw_rs fun _ κ => ?_
 refine Sf 0 rfl (by kernel_rfl) rfl ?_
 refine Sc 1 rfl (by kernel_rfl) rfl (by exact BlkR.cells (hs2.sat _ _ _ hb1) rfl) ?_
 refine as_q rfl rfl (q_iface (by kernel_rfl) rfl) ?_
 refine Sm rfl rfl ?_
 refine as_h rfl (h_invoke (f := 280) (r := .agg #[.pointer q]) (by kernel_rfl) rfl rfl (by kernel_rfl) ?_)
 refine (l_min hs2.sat h).mono ?_
 rintro _ w3 ⟨rfl, hs3⟩
 have h:=h.mono hs3.le
 have hor:=hor.then hs3
 have hT:=hT.then hs3
 have hz3 := hs3.size
 refine Se rfl rfl rfl ?_
 refine Se rfl rfl rfl ?_
 refine as_h0 (h_store hs3.sat hor rfl rfl rfl (by kernel_rfl) rfl rfl rfl fun w4 hs4 hn4 => ?_)
 have h:=h.mono hs4.le
 clear hor; have hor := hn4; clear hn4
 have hT:=hT.own hs4 (by omega)
 have hz4 := hs4.size
 refine Sa rfl rfl ?_
 refine as_nil (κ _ _ ?_)
 refine cw_ret ?_
 exact ⟨_, (res_cell rfl (loadVar_n (n := 2) (by kernel_rfl) (by exact Blk.cells hor.1 rfl)) (res_tmp rfl res_nil)), rfl, hT.forget⟩
theorem wb_insert {w : World} {M : Mem} {x : El} {t : List (RT El)} {q : Option Addr} (hs : Sat M w) (h : FRep 197 220 2 EncE M t q) (hz : RT.sizes t < 1000000000) :
  Does Tryz.prog 155 #[.agg #[.pointer q], .pointer none, .agg (elc x).toArray] w (fun v w' => ∃ q M', v = .iface 76 (.agg #[.pointer q]) ∧ Step Nope M w M' w' ∧ FRep 197 220 2 EncE M' (bput ltE (RT.leaf x) t) q) := by
 have hT := Step.refl Nope hs
 refine fn_enter Tryz.func155 rfl (rs := [.tmp 6]) rfl rfl rfl rfl ?_
 refine cw_rs fun _ κ => ?_
 refine as_h rfl (h_boxM hs rfl rfl fun b1 M1 w1 hs1 hb1 e1 => ?_)
 have h:=h.mono' EncE.mono hs1.le
 have hT:=hT.then hs1
 refine as_h rfl (h_boxM hs1.sat rfl rfl fun b2 M2 w2 hs2 hb2 e2 => ?_)
 have h:=h.mono' EncE.mono hs2.le
 have hb1:=hs2.le _ _ hb1
 have hT:=hT.then hs2
 refine Sa rfl rfl ?_
 refine as_nil (κ _ _ ?_)
 refine cw_rs fun _ κ => ?_
 refine Sf 0 rfl (by kernel_rfl) rfl ?_
 refine Sc 1 rfl (by kernel_rfl) rfl (by exact BlkR.cells (hs2.sat _ _ _ hb1) rfl) ?_
 refine as_q rfl rfl (q_iface (by kernel_rfl) rfl) ?_
 refine Sm rfl rfl ?_
 refine Sc 2 rfl (by kernel_rfl) rfl (by exact BlkR.cells (hs2.sat _ _ _ hb2) rfl) ?_
 refine as_h rfl (h_invoke (f := 111) (r := .agg #[.pointer q]) (by kernel_rfl) rfl rfl (by kernel_rfl) ?_)
 refine (b_insert (x := x) hs2.sat h hz).mono ?_
 rintro _ w3 ⟨qn, Mn, rfl, hs3, hn⟩
 have h:=h.mono' EncE.mono hs3.le
 have hT:=hT.then hs3
 refine as_q rfl rfl (q_build (zs := [(.pointer none)]) (places := [(0, 1)]) (cs := [_]) (by kernel_rfl) (by kernel_rfl) rfl rfl) ?_
 refine as_q rfl rfl (q_iface (by kernel_rfl) rfl) ?_
 refine Sa rfl rfl ?_
 refine as_nil (κ _ _ ?_)
 refine cw_ret ?_
 exact ⟨_, (res_tmp rfl res_nil), _, _, rfl, hT, hn⟩
theorem wb_size {w : World} {M : Mem} {t : List (RT El)} {q : Option Addr} (hs : Sat M w) (h : FRep 197 220 2 EncE M t q) (hz : RT.sizes t ≤ 1000000000) :
  Does Tryz.prog 160 #[.agg #[.pointer q]] w (fun v w' => v = .int .i64 (RT.sizes t : Nat) ∧ Step Nope M w M w') := by
 have hT := Step.refl Nope hs
 refine fn_enter Tryz.func160 rfl (rs := [.tmp 2]) rfl rfl rfl rfl ?_
 refine cw_rs fun _ κ => ?_
 refine as_h rfl (h_boxM hs rfl rfl fun b1 M1 w1 hs1 hb1 e1 => ?_)
 have h:=h.mono' EncE.mono hs1.le
 have hT:=hT.then hs1
 refine Sa rfl rfl ?_
 refine as_nil (κ _ _ ?_)
 refine cw_rs fun _ κ => ?_
 refine Sf 0 rfl (by kernel_rfl) rfl ?_
 refine Sc 1 rfl (by kernel_rfl) rfl (by exact BlkR.cells (hs1.sat _ _ _ hb1) rfl) ?_
 refine as_q rfl rfl (q_iface (by kernel_rfl) rfl) ?_
 refine as_h rfl (h_invoke (f := 116) (r := .agg #[.pointer q]) (by kernel_rfl) rfl rfl (by kernel_rfl) ?_)
 refine (b_size hs1.sat h hz).mono ?_
 rintro _ w2 ⟨rfl, hs2⟩
 have h:=h.mono' EncE.mono hs2.le
 have hT:=hT.then hs2
 refine Sa rfl rfl ?_
 refine as_nil (κ _ _ ?_)
 refine cw_ret ?_
 exact ⟨_, (res_tmp rfl res_nil), rfl, hT.forget⟩
theorem wb_min {w : World} {M : Mem} {t : List (RT El)} {k : RT El} {q : Option Addr} (hs : Sat M w) (h : FRep 197 220 2 EncE M t q) (ht : t[leastN ltE (t.map RT.root) (t.length - 1)]? = some k) (hz : RT.sizes t ≤ 1000000000) :
  Does Tryz.prog 157 #[.agg #[.pointer q], .pointer none] w (fun v w' => v = .tuple #[.agg (elc k.root).toArray, .bool true] ∧ Step Nope M w M w') := by
 have hT := Step.refl Nope hs
 refine fn_enter Tryz.func157 rfl (rs := [.cell 4 24, .tmp 5]) rfl rfl rfl rfl ?_
 refine cw_rs fun _ κ => ?_
 refine as_h rfl (h_boxM hs rfl rfl fun b1 M1 w1 hs1 hb1 e1 => ?_)
 have h:=h.mono' EncE.mono hs1.le
 have hT:=hT.then hs1
 have hz1 := hs1.size
 have hqar := hT.size
 refine as_h rfl (h_allocO (z := (.agg #[(.int .i64 0), (.int .i64 0)])) hs1.sat (by kernel_rfl) rfl fun br w2 hs2 hor er => ?_)
 have h:=h.mono' EncE.mono hs2.le
 have hb1:=hs2.le _ _ hb1
 have hT:=hT.then hs2
 have hz2 := hs2.size
 have hlr := hor.1.lt
 refine Sa rfl rfl ?_
 refine as_nil (κ _ _ ?_)
 refine cw_rs fun _ κ => ?_
 refine Sf 0 rfl (by kernel_rfl) rfl ?_
 refine Sc 1 rfl (by kernel_rfl) rfl (by exact BlkR.cells (hs2.sat _ _ _ hb1) rfl) ?_
 refine as_q rfl rfl (q_iface (by kernel_rfl) rfl) ?_
 refine Sm rfl rfl ?_
 refine as_h rfl (h_invoke (f := 113) (r := .agg #[.pointer q]) (by kernel_rfl) rfl rfl (by kernel_rfl) ?_)
 refine (b_min hs2.sat h ht hz).mono ?_
 rintro _ w3 ⟨rfl, hs3⟩
 have h:=h.mono' EncE.mono hs3.le
 have hor:=hor.then hs3
 have hT:=hT.then hs3
 have hz3 := hs3.size
 refine Se rfl rfl rfl ?_
 refine Se rfl rfl rfl ?_
 refine as_h0 (h_store hs3.sat hor rfl rfl rfl (by kernel_rfl) rfl rfl rfl fun w4 hs4 hn4 => ?_)
 have h:=h.mono' EncE.mono hs4.le
 clear hor; have hor := hn4; clear hn4
 have hT:=hT.own hs4 (by omega)
 have hz4 := hs4.size
 refine Sa rfl rfl ?_
 refine as_nil (κ _ _ ?_)
 refine cw_ret ?_
 exact ⟨_, (res_cell rfl (loadVar_n (n := 2) (by kernel_rfl) (by exact Blk.cells hor.1 rfl)) (res_tmp rfl res_nil)), rfl, hT.forget⟩
theorem wc_insert {w : World} {M : Mem} {x : El} {t : Pr} {q : Option Addr} (hs : Sat M w) (h : PRep 251 260 M t q) (hz : t.size < 1000000000) :
  Does Tryz.prog 176 #[.agg #[.pointer q], .pointer none, .agg (elc x).toArray] w (fun v w' => ∃ q M', v = .iface 81 (.agg #[.pointer q]) ∧ Step Nope M w M' w' ∧ PRep 251 260 M' (Pr.insert x t) q) := by
 have hT := Step.refl Nope hs
 refine fn_enter Tryz.func176 rfl (rs := [.tmp 6]) rfl rfl rfl rfl ?_
 refine cw_rs fun _ κ => ?_
 refine as_h rfl (h_boxM hs rfl rfl fun b1 M1 w1 hs1 hb1 e1 => ?_)
 have h:=h.mono hs1.le
 have hT:=hT.then hs1
 refine as_h rfl (h_boxM hs1.sat rfl rfl fun b2 M2 w2 hs2 hb2 e2 => ?_)
 have h:=h.mono hs2.le
 have hb1:=hs2.le _ _ hb1
 have hT:=hT.then hs2
 refine Sa rfl rfl ?_
 refine as_nil (κ _ _ ?_)
 refine cw_rs fun _ κ => ?_
 refine Sf 0 rfl (by kernel_rfl) rfl ?_
 refine Sc 1 rfl (by kernel_rfl) rfl (by exact BlkR.cells (hs2.sat _ _ _ hb1) rfl) ?_
 refine as_q rfl rfl (q_iface (by kernel_rfl) rfl) ?_
 refine Sm rfl rfl ?_
 refine Sc 2 rfl (by kernel_rfl) rfl (by exact BlkR.cells (hs2.sat _ _ _ hb2) rfl) ?_
 refine as_h rfl (h_invoke (f := 161) (r := .agg #[.pointer q]) (by kernel_rfl) rfl rfl (by kernel_rfl) ?_)
 refine (p_insert (x := x) hs2.sat h hz).mono ?_
 rintro _ w3 ⟨qn, Mn, rfl, hs3, hn⟩
 have h:=h.mono hs3.le
 have hT:=hT.then hs3
 refine as_q rfl rfl (q_build (zs := [(.pointer none)]) (places := [(0, 1)]) (cs := [_]) (by kernel_rfl) (by kernel_rfl) rfl rfl) ?_
 refine as_q rfl rfl (q_iface (by kernel_rfl) rfl) ?_
 refine Sa rfl rfl ?_
 refine as_nil (κ _ _ ?_)
 refine cw_ret ?_
 exact ⟨_, (res_tmp rfl res_nil), _, _, rfl, hT, hn⟩
theorem wc_size {w : World} {M : Mem} {t : Pr} {q : Option Addr} (hs : Sat M w) (h : PRep 251 260 M t q) :
  Does Tryz.prog 181 #[.agg #[.pointer q]] w (fun v w' => v = .int .i64 (t.size : Nat) ∧ Step Nope M w M w') := by
 have hT := Step.refl Nope hs
 refine fn_enter Tryz.func181 rfl (rs := [.tmp 2]) rfl rfl rfl rfl ?_
 refine cw_rs fun _ κ => ?_
 refine as_h rfl (h_boxM hs rfl rfl fun b1 M1 w1 hs1 hb1 e1 => ?_)
 have h:=h.mono hs1.le
 have hT:=hT.then hs1
 refine Sa rfl rfl ?_
 refine as_nil (κ _ _ ?_)
 refine cw_rs fun _ κ => ?_
 refine Sf 0 rfl (by kernel_rfl) rfl ?_
 refine Sc 1 rfl (by kernel_rfl) rfl (by exact BlkR.cells (hs1.sat _ _ _ hb1) rfl) ?_
 refine as_q rfl rfl (q_iface (by kernel_rfl) rfl) ?_
 refine as_h rfl (h_invoke (f := 166) (r := .agg #[.pointer q]) (by kernel_rfl) rfl rfl (by kernel_rfl) ?_)
 refine (p_size hs1.sat h).mono ?_
 rintro _ w2 ⟨rfl, hs2⟩
 have h:=h.mono hs2.le
 have hT:=hT.then hs2
 refine Sa rfl rfl ?_
 refine as_nil (κ _ _ ?_)
 refine cw_ret ?_
 exact ⟨_, (res_tmp rfl res_nil), rfl, hT.forget⟩
theorem wc_min {w : World} {M : Mem} {x : El} {ks : List Pr} {q : Option Addr} (hs : Sat M w) (h : PRep 251 260 M (Pr.node x ks) q) :
  Does Tryz.prog 178 #[.agg #[.pointer q], .pointer none] w (fun v w' => v = .tuple #[.agg (elc x).toArray, .bool true] ∧ Step Nope M w M w') := by
 have hT := Step.refl Nope hs
 refine fn_enter Tryz.func178 rfl (rs := [.cell 4 24, .tmp 5]) rfl rfl rfl rfl ?_
 refine cw_rs fun _ κ => ?_
 refine as_h rfl (h_boxM hs rfl rfl fun b1 M1 w1 hs1 hb1 e1 => ?_)
 have h:=h.mono hs1.le
 have hT:=hT.then hs1
 have hz1 := hs1.size
 have hqar := hT.size
 refine as_h rfl (h_allocO (z := (.agg #[(.int .i64 0), (.int .i64 0)])) hs1.sat (by kernel_rfl) rfl fun br w2 hs2 hor er => ?_)
 have h:=h.mono hs2.le
 have hb1:=hs2.le _ _ hb1
 have hT:=hT.then hs2
 have hz2 := hs2.size
 have hlr := hor.1.lt
 refine Sa rfl rfl ?_
 refine as_nil (κ _ _ ?_)
 refine cw_rs fun _ κ => ?_
 refine Sf 0 rfl (by kernel_rfl) rfl ?_
 refine Sc 1 rfl (by kernel_rfl) rfl (by exact BlkR.cells (hs2.sat _ _ _ hb1) rfl) ?_
 refine as_q rfl rfl (q_iface (by kernel_rfl) rfl) ?_
 refine Sm rfl rfl ?_
 refine as_h rfl (h_invoke (f := 163) (r := .agg #[.pointer q]) (by kernel_rfl) rfl rfl (by kernel_rfl) ?_)
 refine (p_min hs2.sat h).mono ?_
 rintro _ w3 ⟨rfl, hs3⟩
 have h:=h.mono hs3.le
 have hor:=hor.then hs3
 have hT:=hT.then hs3
 have hz3 := hs3.size
 refine Se rfl rfl rfl ?_
 refine Se rfl rfl rfl ?_
 refine as_h0 (h_store hs3.sat hor rfl rfl rfl (by kernel_rfl) rfl rfl rfl fun w4 hs4 hn4 => ?_)
 have h:=h.mono hs4.le
 clear hor; have hor := hn4; clear hn4
 have hT:=hT.own hs4 (by omega)
 have hz4 := hs4.size
 refine Sa rfl rfl ?_
 refine as_nil (κ _ _ ?_)
 refine cw_ret ?_
 exact ⟨_, (res_cell rfl (loadVar_n (n := 2) (by kernel_rfl) (by exact Blk.cells hor.1 rfl)) (res_tmp rfl res_nil)), rfl, hT.forget⟩
theorem wd_insert {w : World} {M : Mem} {x : El} {t : List (RT El)} {q : Option Addr} (hs : Sat M w) (h : FRep 197 220 2 EncE M t q) (hz : RT.sizes t < 1000000000) :
  Does Tryz.prog 197 #[.agg #[.pointer q], .pointer none, .agg (elc x).toArray] w (fun v w' => ∃ q M', v = .iface 85 (.agg #[.pointer q]) ∧ Step Nope M w M' w' ∧ FRep 197 220 2 EncE M' (sinsert ltE x t) q) := by
 have hT := Step.refl Nope hs
 refine fn_enter Tryz.func197 rfl (rs := [.tmp 6]) rfl rfl rfl rfl ?_
 refine cw_rs fun _ κ => ?_
 refine as_h rfl (h_boxM hs rfl rfl fun b1 M1 w1 hs1 hb1 e1 => ?_)
 have h:=h.mono' EncE.mono hs1.le
 have hT:=hT.then hs1
 refine as_h rfl (h_boxM hs1.sat rfl rfl fun b2 M2 w2 hs2 hb2 e2 => ?_)
 have h:=h.mono' EncE.mono hs2.le
 have hb1:=hs2.le _ _ hb1
 have hT:=hT.then hs2
 refine Sa rfl rfl ?_
 refine as_nil (κ _ _ ?_)
 refine cw_rs fun _ κ => ?_
 refine Sf 0 rfl (by kernel_rfl) rfl ?_
 refine Sc 1 rfl (by kernel_rfl) rfl (by exact BlkR.cells (hs2.sat _ _ _ hb1) rfl) ?_
 refine as_q rfl rfl (q_iface (by kernel_rfl) rfl) ?_
 refine Sm rfl rfl ?_
 refine Sc 2 rfl (by kernel_rfl) rfl (by exact BlkR.cells (hs2.sat _ _ _ hb2) rfl) ?_
 refine as_h rfl (h_invoke (f := 182) (r := .agg #[.pointer q]) (by kernel_rfl) rfl rfl (by kernel_rfl) ?_)
 refine (se_insert (x := x) hs2.sat h hz).mono ?_
 rintro _ w3 ⟨qn, Mn, rfl, hs3, hn⟩
 have h:=h.mono' EncE.mono hs3.le
 have hT:=hT.then hs3
 refine as_q rfl rfl (q_build (zs := [(.pointer none)]) (places := [(0, 1)]) (cs := [_]) (by kernel_rfl) (by kernel_rfl) rfl rfl) ?_
 refine as_q rfl rfl (q_iface (by kernel_rfl) rfl) ?_
 refine Sa rfl rfl ?_
 refine as_nil (κ _ _ ?_)
 refine cw_ret ?_
 exact ⟨_, (res_tmp rfl res_nil), _, _, rfl, hT, hn⟩
theorem wd_size {w : World} {M : Mem} {t : List (RT El)} {q : Option Addr} (hs : Sat M w) (h : FRep 197 220 2 EncE M t q) (hz : RT.sizes t ≤ 1000000000) :
  Does Tryz.prog 202 #[.agg #[.pointer q]] w (fun v w' => v = .int .i64 (RT.sizes t : Nat) ∧ Step Nope M w M w') := by
 have hT := Step.refl Nope hs
 refine fn_enter Tryz.func202 rfl (rs := [.tmp 2]) rfl rfl rfl rfl ?_
 refine cw_rs fun _ κ => ?_
 refine as_h rfl (h_boxM hs rfl rfl fun b1 M1 w1 hs1 hb1 e1 => ?_)
 have h:=h.mono' EncE.mono hs1.le
 have hT:=hT.then hs1
 refine Sa rfl rfl ?_
 refine as_nil (κ _ _ ?_)
 refine cw_rs fun _ κ => ?_
 refine Sf 0 rfl (by kernel_rfl) rfl ?_
 refine Sc 1 rfl (by kernel_rfl) rfl (by exact BlkR.cells (hs1.sat _ _ _ hb1) rfl) ?_
 refine as_q rfl rfl (q_iface (by kernel_rfl) rfl) ?_
 refine as_h rfl (h_invoke (f := 187) (r := .agg #[.pointer q]) (by kernel_rfl) rfl rfl (by kernel_rfl) ?_)
 refine (se_size hs1.sat h hz).mono ?_
 rintro _ w2 ⟨rfl, hs2⟩
 have h:=h.mono' EncE.mono hs2.le
 have hT:=hT.then hs2
 refine Sa rfl rfl ?_
 refine as_nil (κ _ _ ?_)
 refine cw_ret ?_
 exact ⟨_, (res_tmp rfl res_nil), rfl, hT.forget⟩
theorem wd_min {w : World} {M : Mem} {t : List (RT El)} {k : RT El} {q : Option Addr} (hs : Sat M w) (h : FRep 197 220 2 EncE M t q) (ht : t[leastN ltE (t.map RT.root) (t.length - 1)]? = some k) (hz : RT.sizes t ≤ 1000000000) :
  Does Tryz.prog 199 #[.agg #[.pointer q], .pointer none] w (fun v w' => v = .tuple #[.agg (elc k.root).toArray, .bool true] ∧ Step Nope M w M w') := by
 have hT := Step.refl Nope hs
 refine fn_enter Tryz.func199 rfl (rs := [.cell 4 24, .tmp 5]) rfl rfl rfl rfl ?_
 refine cw_rs fun _ κ => ?_
 refine as_h rfl (h_boxM hs rfl rfl fun b1 M1 w1 hs1 hb1 e1 => ?_)
 have h:=h.mono' EncE.mono hs1.le
 have hT:=hT.then hs1
 have hz1 := hs1.size
 have hqar := hT.size
 refine as_h rfl (h_allocO (z := (.agg #[(.int .i64 0), (.int .i64 0)])) hs1.sat (by kernel_rfl) rfl fun br w2 hs2 hor er => ?_)
 have h:=h.mono' EncE.mono hs2.le
 have hb1:=hs2.le _ _ hb1
 have hT:=hT.then hs2
 have hz2 := hs2.size
 have hlr := hor.1.lt
 refine Sa rfl rfl ?_
 refine as_nil (κ _ _ ?_)
 refine cw_rs fun _ κ => ?_
 refine Sf 0 rfl (by kernel_rfl) rfl ?_
 refine Sc 1 rfl (by kernel_rfl) rfl (by exact BlkR.cells (hs2.sat _ _ _ hb1) rfl) ?_
 refine as_q rfl rfl (q_iface (by kernel_rfl) rfl) ?_
 refine Sm rfl rfl ?_
 refine as_h rfl (h_invoke (f := 184) (r := .agg #[.pointer q]) (by kernel_rfl) rfl rfl (by kernel_rfl) ?_)
 refine (se_min hs2.sat h ht hz).mono ?_
 rintro _ w3 ⟨rfl, hs3⟩
 have h:=h.mono' EncE.mono hs3.le
 have hor:=hor.then hs3
 have hT:=hT.then hs3
 have hz3 := hs3.size
 refine Se rfl rfl rfl ?_
 refine Se rfl rfl rfl ?_
 refine as_h0 (h_store hs3.sat hor rfl rfl rfl (by kernel_rfl) rfl rfl rfl fun w4 hs4 hn4 => ?_)
 have h:=h.mono' EncE.mono hs4.le
 clear hor; have hor := hn4; clear hn4
 have hT:=hT.own hs4 (by omega)
 have hz4 := hs4.size
 refine Sa rfl rfl ?_
 refine as_nil (κ _ _ ?_)
 refine cw_ret ?_
 exact ⟨_, (res_cell rfl (loadVar_n (n := 2) (by kernel_rfl) (by exact Blk.cells hor.1 rfl)) (res_tmp rfl res_nil)), rfl, hT.forget⟩
theorem we_insert {w : World} {M : Mem} {x : El} {t : Ro} {q : Option Addr} (hs : Sat M w) (h : RoRep 283 197 220 M t q) (hz : t.size < 1000000000) :
  Does Tryz.prog 210 #[.agg #[.pointer q], .pointer none, .agg (elc x).toArray] w (fun v w' => ∃ q M', v = .iface 90 (.agg #[.pointer q]) ∧ Step Nope M w M' w' ∧ RoRep 283 197 220 M' (Ro.insert x t) q) := by
 have hT := Step.refl Nope hs
 refine fn_enter Tryz.func210 rfl (rs := [.tmp 6]) rfl rfl rfl rfl ?_
 refine cw_rs fun _ κ => ?_
 refine as_h rfl (h_boxM hs rfl rfl fun b1 M1 w1 hs1 hb1 e1 => ?_)
 have h:=h.mono hs1.le
 have hT:=hT.then hs1
 refine as_h rfl (h_boxM hs1.sat rfl rfl fun b2 M2 w2 hs2 hb2 e2 => ?_)
 have h:=h.mono hs2.le
 have hb1:=hs2.le _ _ hb1
 have hT:=hT.then hs2
 refine Sa rfl rfl ?_
 refine as_nil (κ _ _ ?_)
 refine cw_rs fun _ κ => ?_
 refine Sf 0 rfl (by kernel_rfl) rfl ?_
 refine Sc 1 rfl (by kernel_rfl) rfl (by exact BlkR.cells (hs2.sat _ _ _ hb1) rfl) ?_
 refine as_q rfl rfl (q_iface (by kernel_rfl) rfl) ?_
 refine Sm rfl rfl ?_
 refine Sc 2 rfl (by kernel_rfl) rfl (by exact BlkR.cells (hs2.sat _ _ _ hb2) rfl) ?_
 refine as_h rfl (h_invoke (f := 203) (r := .agg #[.pointer q]) (by kernel_rfl) rfl rfl (by kernel_rfl) ?_)
 refine (r_insert (x := x) hs2.sat h hz).mono ?_
 rintro _ w3 ⟨qn, Mn, rfl, hs3, hn⟩
 have h:=h.mono hs3.le
 have hT:=hT.then hs3
 refine as_q rfl rfl (q_build (zs := [(.pointer none)]) (places := [(0, 1)]) (cs := [_]) (by kernel_rfl) (by kernel_rfl) rfl rfl) ?_
 refine as_q rfl rfl (q_iface (by kernel_rfl) rfl) ?_
 refine Sa rfl rfl ?_
 refine as_nil (κ _ _ ?_)
 refine cw_ret ?_
 exact ⟨_, (res_tmp rfl res_nil), _, _, rfl, hT, hn⟩
theorem we_size {w : World} {M : Mem} {t : Ro} {q : Option Addr} (hs : Sat M w) (h : RoRep 283 197 220 M t q) (hz : t.size ≤ 1000000000) :
  Does Tryz.prog 215 #[.agg #[.pointer q]] w (fun v w' => v = .int .i64 (t.size : Nat) ∧ Step Nope M w M w') := by
 have hT := Step.refl Nope hs
 refine fn_enter Tryz.func215 rfl (rs := [.tmp 2]) rfl rfl rfl rfl ?_
 refine cw_rs fun _ κ => ?_
 refine as_h rfl (h_boxM hs rfl rfl fun b1 M1 w1 hs1 hb1 e1 => ?_)
 have h:=h.mono hs1.le
 have hT:=hT.then hs1
 refine Sa rfl rfl ?_
 refine as_nil (κ _ _ ?_)
 refine cw_rs fun _ κ => ?_
 refine Sf 0 rfl (by kernel_rfl) rfl ?_
 refine Sc 1 rfl (by kernel_rfl) rfl (by exact BlkR.cells (hs1.sat _ _ _ hb1) rfl) ?_
 refine as_q rfl rfl (q_iface (by kernel_rfl) rfl) ?_
 refine as_h rfl (h_invoke (f := 208) (r := .agg #[.pointer q]) (by kernel_rfl) rfl rfl (by kernel_rfl) ?_)
 refine (r_size hs1.sat h hz).mono ?_
 rintro _ w2 ⟨rfl, hs2⟩
 have h:=h.mono hs2.le
 have hT:=hT.then hs2
 refine Sa rfl rfl ?_
 refine as_nil (κ _ _ ?_)
 refine cw_ret ?_
 exact ⟨_, (res_tmp rfl res_nil), rfl, hT.forget⟩
theorem we_min {w : World} {M : Mem} {x : El} {ts : List (RT El)} {q : Option Addr} (hs : Sat M w) (h : RoRep 283 197 220 M (Ro.node x ts) q) :
  Does Tryz.prog 212 #[.agg #[.pointer q], .pointer none] w (fun v w' => v = .tuple #[.agg (elc x).toArray, .bool true] ∧ Step Nope M w M w') := by
 have hT := Step.refl Nope hs
 refine fn_enter Tryz.func212 rfl (rs := [.cell 4 24, .tmp 5]) rfl rfl rfl rfl ?_
 refine cw_rs fun _ κ => ?_
 refine as_h rfl (h_boxM hs rfl rfl fun b1 M1 w1 hs1 hb1 e1 => ?_)
 have h:=h.mono hs1.le
 have hT:=hT.then hs1
 have hz1 := hs1.size
 have hqar := hT.size
 refine as_h rfl (h_allocO (z := (.agg #[(.int .i64 0), (.int .i64 0)])) hs1.sat (by kernel_rfl) rfl fun br w2 hs2 hor er => ?_)
 have h:=h.mono hs2.le
 have hb1:=hs2.le _ _ hb1
 have hT:=hT.then hs2
 have hz2 := hs2.size
 have hlr := hor.1.lt
 refine Sa rfl rfl ?_
 refine as_nil (κ _ _ ?_)
 refine cw_rs fun _ κ => ?_
 refine Sf 0 rfl (by kernel_rfl) rfl ?_
 refine Sc 1 rfl (by kernel_rfl) rfl (by exact BlkR.cells (hs2.sat _ _ _ hb1) rfl) ?_
 refine as_q rfl rfl (q_iface (by kernel_rfl) rfl) ?_
 refine Sm rfl rfl ?_
 refine as_h rfl (h_invoke (f := 205) (r := .agg #[.pointer q]) (by kernel_rfl) rfl rfl (by kernel_rfl) ?_)
 refine (r_min hs2.sat h).mono ?_
 rintro _ w3 ⟨rfl, hs3⟩
 have h:=h.mono hs3.le
 have hor:=hor.then hs3
 have hT:=hT.then hs3
 have hz3 := hs3.size
 refine Se rfl rfl rfl ?_
 refine Se rfl rfl rfl ?_
 refine as_h0 (h_store hs3.sat hor rfl rfl rfl (by kernel_rfl) rfl rfl rfl fun w4 hs4 hn4 => ?_)
 have h:=h.mono hs4.le
 clear hor; have hor := hn4; clear hn4
 have hT:=hT.own hs4 (by omega)
 have hz4 := hs4.size
 refine Sa rfl rfl ?_
 refine as_nil (κ _ _ ?_)
 refine cw_ret ?_
 exact ⟨_, (res_cell rfl (loadVar_n (n := 2) (by kernel_rfl) (by exact Blk.cells hor.1 rfl)) (res_tmp rfl res_nil)), rfl, hT.forget⟩
theorem wf_insert {w : World} {M : Mem} {x : El} {t : Bt} {q : Option Addr} (hs : Sat M w) (h : BRep 296 330 332 M t q) (hz : RT.sizes t.queue < 1000000000) :
  Does Tryz.prog 261 #[.agg #[.pointer q], .pointer none, .agg (elc x).toArray] w (fun v w' => ∃ q M', v = .iface 95 (.agg #[.pointer q]) ∧ Step Nope M w M' w' ∧ BRep 296 330 332 M' (Bt.insert x t) q) := by
 have hT := Step.refl Nope hs
 refine fn_enter Tryz.func261 rfl (rs := [.tmp 6]) rfl rfl rfl rfl ?_
 refine cw_rs fun _ κ => ?_
 refine as_h rfl (h_boxM hs rfl rfl fun b1 M1 w1 hs1 hb1 e1 => ?_)
 have h:=h.mono hs1.le
 have hT:=hT.then hs1
 refine as_h rfl (h_boxM hs1.sat rfl rfl fun b2 M2 w2 hs2 hb2 e2 => ?_)
 have h:=h.mono hs2.le
 have hb1:=hs2.le _ _ hb1
 have hT:=hT.then hs2
 refine Sa rfl rfl ?_
 refine as_nil (κ _ _ ?_)
 refine cw_rs fun _ κ => ?_
 refine Sf 0 rfl (by kernel_rfl) rfl ?_
 refine Sc 1 rfl (by kernel_rfl) rfl (by exact BlkR.cells (hs2.sat _ _ _ hb1) rfl) ?_
 refine as_q rfl rfl (q_iface (by kernel_rfl) rfl) ?_
 refine Sm rfl rfl ?_
 refine Sc 2 rfl (by kernel_rfl) rfl (by exact BlkR.cells (hs2.sat _ _ _ hb2) rfl) ?_
 refine as_h rfl (h_invoke (f := 216) (r := .agg #[.pointer q]) (by kernel_rfl) rfl rfl (by kernel_rfl) ?_)
 refine (bo_insert (x := x) hs2.sat h hz).mono ?_
 rintro _ w3 ⟨qn, Mn, rfl, hs3, hn⟩
 have h:=h.mono hs3.le
 have hT:=hT.then hs3
 refine as_q rfl rfl (q_build (zs := [(.pointer none)]) (places := [(0, 1)]) (cs := [_]) (by kernel_rfl) (by kernel_rfl) rfl rfl) ?_
 refine as_q rfl rfl (q_iface (by kernel_rfl) rfl) ?_
 refine Sa rfl rfl ?_
 refine as_nil (κ _ _ ?_)
 refine cw_ret ?_
 exact ⟨_, (res_tmp rfl res_nil), _, _, rfl, hT, hn⟩
theorem wf_min {w : World} {M : Mem} {x : El} {ts : List (RT Bt)} {q : Option Addr} (hs : Sat M w) (h : BRep 296 330 332 M (Bt.node x ts) q) :
  Does Tryz.prog 263 #[.agg #[.pointer q], .pointer none] w (fun v w' => v = .tuple #[.agg (elc x).toArray, .bool true] ∧ Step Nope M w M w') := by
 have hT := Step.refl Nope hs
 refine fn_enter Tryz.func263 rfl (rs := [.cell 4 24, .tmp 5]) rfl rfl rfl rfl ?_
 refine cw_rs fun _ κ => ?_
 refine as_h rfl (h_boxM hs rfl rfl fun b1 M1 w1 hs1 hb1 e1 => ?_)
 have h:=h.mono hs1.le
 have hT:=hT.then hs1
 have hz1 := hs1.size
 have hqar := hT.size
 refine as_h rfl (h_allocO (z := (.agg #[(.int .i64 0), (.int .i64 0)])) hs1.sat (by kernel_rfl) rfl fun br w2 hs2 hor er => ?_)
 have h:=h.mono hs2.le
 have hb1:=hs2.le _ _ hb1
 have hT:=hT.then hs2
 have hz2 := hs2.size
 have hlr := hor.1.lt
 refine Sa rfl rfl ?_
 refine as_nil (κ _ _ ?_)
 refine cw_rs fun _ κ => ?_
 refine Sf 0 rfl (by kernel_rfl) rfl ?_
 refine Sc 1 rfl (by kernel_rfl) rfl (by exact BlkR.cells (hs2.sat _ _ _ hb1) rfl) ?_
 refine as_q rfl rfl (q_iface (by kernel_rfl) rfl) ?_
 refine Sm rfl rfl ?_
 refine as_h rfl (h_invoke (f := 219) (r := .agg #[.pointer q]) (by kernel_rfl) rfl rfl (by kernel_rfl) ?_)
 refine (bo_min hs2.sat h).mono ?_
 rintro _ w3 ⟨rfl, hs3⟩
 have h:=h.mono hs3.le
 have hor:=hor.then hs3
 have hT:=hT.then hs3
 have hz3 := hs3.size
 refine Se rfl rfl rfl ?_
 refine Se rfl rfl rfl ?_
 refine as_h0 (h_store hs3.sat hor rfl rfl rfl (by kernel_rfl) rfl rfl rfl fun w4 hs4 hn4 => ?_)
 have h:=h.mono hs4.le
 clear hor; have hor := hn4; clear hn4
 have hT:=hT.own hs4 (by omega)
 have hz4 := hs4.size
 refine Sa rfl rfl ?_
 refine as_nil (κ _ _ ?_)
 refine cw_ret ?_
 exact ⟨_, (res_cell rfl (loadVar_n (n := 2) (by kernel_rfl) (by exact Blk.cells hor.1 rfl)) (res_tmp rfl res_nil)), rfl, hT.forget⟩
end Go.Proofs.YtgcgjpfjjgalmaaGreat
/- Pairing heaps without their least element, part 1. -/
namespace Go.Proofs.YtgcgjpfjjgalmaaGreat
open Go Go.Eng
theorem pr_meld_ne {a b : Pr} (h : a ≠ .nil) : a.meld b ≠ .nil := by
 unfold Pr.meld
 split
 · exact absurd rfl h
 · simp
 · split <;> simp
theorem preps_snoc {M : Mem} {k : Pr} {q : Option Addr} : ∀ {l : List Pr} {al : List (Option Addr)}, PReps 251 260 M l al → k ≠ .nil → PRep 251 260 M k q → PReps 251 260 M (l ++ [k]) (al ++ [q])
 | [], _, h, hk, hq => by rw [preps_nil.1 h]; exact preps_cons.2 ⟨hk, _, _, rfl, hq, preps_nil.2 rfl⟩
 | _ :: _, _, h, hk, hq => by
  obtain ⟨h1, a, s, rfl, h2, h3⟩ := preps_cons.1 h
  exact preps_cons.2 ⟨h1, _, _, rfl, h2, preps_snoc h3 hk hq⟩
theorem preps_get {M : Mem} : ∀ {l : List Pr} {al : List (Option Addr)} {i : Nat} {k : Pr}, PReps 251 260 M l al → l[i]? = some k → ∃ a, al[i]? = some a ∧ PRep 251 260 M k a
 | _ :: _, _, 0, _, h, hi => by cases hi; obtain ⟨_, a, s, rfl, h2, _⟩ := preps_cons.1 h; exact ⟨a, rfl, h2⟩
 | _ :: _, _, i + 1, _, h, hi => by
  obtain ⟨_, a, s, rfl, _, h3⟩ := preps_cons.1 h
  obtain ⟨c, h4, h5⟩ := preps_get (i := i) h3 (by simpa using hi)
  exact ⟨c, by simpa using h4, h5⟩
theorem pr_sizes_append (l r : List Pr) : Pr.sizes (l ++ r) = Pr.sizes l + Pr.sizes r := by
 induction l with
 | nil => simp [Pr.sizes]
 | cons k l ih => simp only [List.cons_append, Pr.sizes, ih]; omega
theorem cells_one {b o : Nat} {v : Value} {w : World} (h : w.cell? ⟨b, o, none⟩ = some v) : cellsAre b o 1 [v] w := ⟨rfl, fun j u hj => by
 cases j with
 | zero => cases hj; exact h
 | succ j => simp at hj⟩
theorem p_pair {w : World} {M : Mem} {ks : List Pr} {l : List (Option Addr)} {q : Option Addr} (hs : Sat M w) (hcl : CRep 260 M l (.pointer q)) (hk : PReps 251 260 M ks l) (hz : Pr.sizes ks ≤ 1000000000) :
  Does Tryz.prog 168 #[.pointer none, .agg #[.pointer q]] w (fun v w' => ∃ q M', v = .agg #[.pointer q] ∧ Step Nope M w M' w' ∧ PRep 251 260 M' (Pr.pair ks) q) := by
 have hT := Step.refl Nope hs
 refine fn_enter Tryz.func168 rfl (rs := [.cell 4 79]) rfl rfl rfl rfl ?_
 refine cw_rs fun _ κ => ?_
 have hqal := hT.size
 refine as_h rfl (h_boxO hs rfl rfl fun bl w1 hs1 hol el => ?_)
 have hcl:=hcl.mono hs1.le
 have hk:=hk.mono hs1.le
 have hT:=hT.then hs1
 have hz1 := hs1.size
 have hll := hol.1.lt
 have hqar := hT.size
 refine as_h rfl (h_allocO (z := (.agg #[(.pointer none)])) hs1.sat (by kernel_rfl) rfl fun br w2 hs2 hor er => ?_)
 have hcl:=hcl.mono hs2.le
 have hk:=hk.mono hs2.le
 have hol:=hol.then hs2
 have hT:=hT.then hs2
 have hz2 := hs2.size
 have hlr := hor.1.lt
 refine as_nil (κ _ _ ?_)
 refine cw_rs fun _ κ => ?_
 refine Sa rfl rfl ?_
 refine as_nil (κ _ _ ?_)
 refine cw_rs fun _ κ => ?_
 refine Sa rfl rfl ?_
 refine as_nil (κ _ _ ?_)
 refine cw_seq fun _ hK4 => ?_
 refine cw_block ?_
 refine cw_loop (fun mm l1 w1 => ∃ (ms rest : List Pr) (al l : List (Option Addr)) (q sa : Option Addr) (sc n : Nat) (M1 : Mem), mm = rest.length ∧ n = ms.length ∧ Pr.pair ks = ms.foldr Pr.meld (Pr.pair rest) ∧ Pr.sizes ms + Pr.sizes rest ≤ 1000000000 ∧ l1 = [(0, .pointer none), (3, .pointer (some ⟨bl, 0, none⟩)), (4, .pointer (some ⟨br, 0, none⟩)), (5, .func (.func 162) #[] #[]), (6, .slice sa n sc)] ∧ Step Nope M w M1 w1 ∧ w2.heap.size ≤ w1.heap.size ∧ Buf w1 M1 79 1 (.slice sa n sc) n (ptrs al) ∧ PReps 251 260 M1 ms al ∧ CRep 260 M1 l (.pointer q) ∧ PReps 251 260 M1 rest l ∧ Own w1 M1 bl [.pointer q] 249 ∧ Own w1 M1 br [.pointer none] 79 ∧ (∀ g, (Value.slice sa n sc).ownBlock = some g → w2.heap.size ≤ g)) (ks.length) [(0, .pointer none), (3, .pointer (some ⟨bl, 0, none⟩)), (4, .pointer (some ⟨br, 0, none⟩)), (5, .func (.func 162) #[] #[]), (6, .slice none (0 : Nat) 0)] (.cons rfl (.cons rfl (.cons rfl (.cons rfl (.cons rfl (.nil _)))))) ?_ ?_
 ·
  exact ⟨[], ks, [], l, q, none, 0, 0, M, rfl, rfl, rfl, by simpa [Pr.sizes] using hz, rfl, hT, Nat.le_refl _, Buf.nil _ _ _ _, preps_nil.2 rfl, hcl, hk, hol, hor, fun g hg => by cases hg⟩
 have hblw : w.heap.size ≤ bl ∧ w.heap.size ≤ br ∧ br ≠ bl := by omega
 clear hT hcl hk hol hor
 rintro mm l1 w1 ⟨ms, rest, al, l, q, sa, sc, n, M1, rfl, rfl, hmod, hzz, rfl, hT, hws, hbu, hmk, hcl, hk, hol, hor, hfr⟩
 have hmz := hmk.small
 have hml := hmk.length
 refine cw_seq fun _ hK5 => ?_
 rcases rest with _ | ⟨a, _ | ⟨b, rest⟩⟩
 ·
  have hl0 := preps_nil.1 hk
  subst hl0
  have hq0 : q = none := by
   have h : Value.pointer q = .pointer none := hcl
   cases h; rfl
  subst hq0
  refine cw_rs fun _ κ => ?_
  refine Sc 1 rfl (by kernel_rfl) rfl (by exact Blk.cells hol.1 rfl) ?_
  refine as_h rfl (h_call (by kernel_rfl) rfl ?_)
  refine (cp_len hT.sat hcl).mono ?_
  rintro _ w3 ⟨rfl, hs3⟩
  have hbu:=hbu.then hs3
  have hmk:=hmk.mono hs3.le
  have hcl:=hcl.mono hs3.le
  have hk:=hk.mono hs3.le
  have hol:=hol.then hs3
  have hor:=hor.then hs3
  have hT:=hT.then hs3
  have hz3 := hs3.size
  refine as_q rfl rfl (q_gt rfl rfl) ?_
  refine as_nil (κ _ _ ?_)
  refine cw_false rfl ?_
  refine cw_exit ?_
  refine hK4 _ _ ?_
  refine cw_rs fun _ κ => ?_
  refine Sc 1 rfl (by kernel_rfl) rfl (by exact Blk.cells hol.1 rfl) ?_
  refine as_h rfl (h_call (by kernel_rfl) rfl ?_)
  refine (cp_first_n hs3.sat).mono ?_
  rintro _ w4 ⟨rfl, hs4⟩
  have hbu:=hbu.then hs4
  have hmk:=hmk.mono hs4.le
  have hcl:=hcl.mono hs4.le
  have hk:=hk.mono hs4.le
  have hol:=hol.then hs4
  have hor:=hor.then hs4
  have hT:=hT.then hs4
  have hz4 := hs4.size
  refine Sm rfl rfl ?_
  refine Se rfl rfl rfl ?_
  refine Se rfl rfl rfl ?_
  have hblt := hbu.lt
  have hqaz := hT.size
  refine as_h rfl (h_allocO (z := (.agg #[(.pointer none)])) hs4.sat (by kernel_rfl) rfl fun bz w5 hs5 hoz ez => ?_)
  have hbu:=hbu.then hs5
  have hmk:=hmk.mono hs5.le
  have hcl:=hcl.mono hs5.le
  have hk:=hk.mono hs5.le
  have hol:=hol.then hs5
  have hor:=hor.then hs5
  have hT:=hT.then hs5
  have hz5 := hs5.size
  have hlz := hoz.1.lt
  refine as_h0 (h_store hs5.sat hoz rfl rfl rfl (by kernel_rfl) rfl rfl rfl fun w6 hs6 hn6 => ?_)
  have hbu:=hbu.step hs6 (fun g hg h => by have h : g = bz := h; have := hblt g hg; omega)
  have hmk:=hmk.mono hs6.le
  have hcl:=hcl.mono hs6.le
  have hk:=hk.mono hs6.le
  have hol:=hol.step hs6 (fun h => by have h : _ = _ := h; omega)
  have hor:=hor.step hs6 (fun h => by have h : _ = _ := h; omega)
  clear hoz; have hoz := hn6; clear hn6
  have hT:=hT.own hs6 (by omega)
  have hz6 := hs6.size
  refine Sa rfl rfl ?_
  refine as_nil (κ _ _ ?_)
  refine cw_seq fun _ hK8 => ?_
  refine cw_rs fun _ κ => ?_
  refine Sm rfl rfl ?_
  refine as_q rfl rfl (q_len (by kernel_rfl) rfl _) ?_
  refine as_q rfl rfl (q_subx rfl rfl (by omega) (by omega)) ?_
  refine Sa rfl rfl ?_
  refine as_nil (κ _ _ ?_)
  refine cw_block ?_
  refine cw_loop (fun mm l1 w1 => ∃ (z : Int) (out : Pr) (oq : Option Addr) (M2 : Mem), mm = (z + 1).toNat ∧ -1 ≤ z ∧ z < ms.length ∧ Pr.pair ks = (ms.take (z + 1).toNat).foldr Pr.meld out ∧ Pr.sizes (ms.take (z + 1).toNat) + out.size ≤ 1000000000 ∧ l1 = [(0, .pointer none), (4, .pointer (some ⟨br, 0, none⟩)), (5, .func (.func 162) #[] #[]), (6, .slice sa ms.length sc), (11, .pointer (some ⟨bz, 0, none⟩)), (13, .int .i64 z)] ∧ Step Nope M w M2 w1 ∧ PRep 251 260 M2 out oq ∧ Own w1 M2 bz [.pointer oq] 79 ∧ Own w1 M2 br [.pointer none] 79 ∧ Buf w1 M2 79 1 (.slice sa ms.length sc) ms.length (ptrs al) ∧ PReps 251 260 M2 ms al) (ms.length) [(0, .pointer none), (4, .pointer (some ⟨br, 0, none⟩)), (5, .func (.func 162) #[] #[]), (6, .slice sa ms.length sc), (11, .pointer (some ⟨bz, 0, none⟩)), (13, .int .i64 ((ms.length : Int) - 1))] (.cons rfl (.cons rfl (.cons rfl (.cons rfl (.cons rfl (.cons rfl (.nil _))))))) ?_ ?_
  ·
   refine ⟨(ms.length : Int) - 1, Pr.nil, none, _, by omega, by omega, by omega, ?_, ?_, rfl, hT, prep_nil.2 rfl, hoz, hor, hbu, hmk⟩
   · rw [List.take_of_length_le (by omega), hmod]; rfl
   · rw [List.take_of_length_le (by omega)]; simp only [Pr.sizes, Pr.size] at hzz ⊢; omega
  have hbzw : w.heap.size ≤ bz ∧ bz ≠ br := by omega
  have hwz : bz < w6.heap.size ∧ br < w6.heap.size := ⟨hoz.1.lt, hor.1.lt⟩
  have hbz2 : ∀ g, (Value.slice sa ms.length sc).ownBlock = some g → g ≠ bz ∧ g ≠ br := fun g hg => ⟨fun h => by have := hbu.lt g hg; have := hblt g hg; omega, fun h => by have := hfr g hg; omega⟩
  clear hT hoz hor hbu hmk
  rintro mm l1 w2 ⟨z, out, oq, M2, rfl, hz1, hz2, hmod2, hzz2, rfl, hT, hou, hoz, hor, hbu, hmk⟩
  refine cw_seq fun _ hK10 => ?_
  refine cw_rs fun _ κ => ?_
  refine Sm rfl rfl ?_
  refine as_q rfl rfl (q_ge rfl rfl) ?_
  refine as_nil (κ _ _ ?_)
  refine cw_cond rfl (fun hc1 => ?_) (fun hc1 => ?_)
  ·
   have hc1:=of_decide_eq_true hc1
   obtain ⟨m, hm⟩ : ∃ m, ms[z.toNat]? = some m := ⟨ms[z.toNat]'(by omega), by simp⟩
   have htk : ms.take (z + 1).toNat = ms.take z.toNat ++ [m] := by rw [show (z + 1).toNat = z.toNat + 1 by omega, List.take_add_one, hm]; rfl
   have hsz := pr_sizes_append (ms.take z.toNat) [m]
   rw [← htk] at hsz
   have hsz1 : Pr.sizes [m] = m.size + 0 := rfl
   obtain ⟨mq, hmq, hmr⟩ := preps_get hmk hm
   obtain ⟨g, o, rfl⟩ := hbu.rd.there (by omega)
   refine cw_skip ?_
   refine hK10 _ _ ?_
   refine cw_seq fun _ hK12 => ?_
   refine cw_block ?_
   refine cw_drawn (by kernel_rfl) (by kernel_rfl) (by kernel_rfl) rfl rfl fun K13 hK13 => ?_
   have hs7 := Step.drew hT.sat
   have hz7 := hs7.size
   have hoz:=hoz.then hs7
   have hor:=hor.then hs7
   have hbu:=hbu.then hs7
   have hmk:=hmk.mono hs7.le
   have hou:=hou.mono hs7.le
   have hT:=hT.then hs7
   refine Dm 0 1 rfl (by kernel_rfl) rfl ?_
   refine Dm 1 3 rfl (by kernel_rfl) rfl ?_
   refine Dm 2 7 rfl (by kernel_rfl) rfl ?_
   refine Dq 3 15 rfl (by kernel_rfl) (fun _ => (q_indexAddr (e := 79) (size := 1) (by kernel_rfl) (by kernel_rfl) rfl rfl (by omega) (by omega))) ?_
   refine Dlc 4 31 1 rfl (by kernel_rfl) (by kernel_rfl) rfl (cells_one (Buf.cell hbu (u := .pointer mq) (j := z.toNat * 1) (by simp [ptrs, hmq]))) ?_
   refine Dm 5 63 rfl (by kernel_rfl) rfl ?_
   refine Dlc 6 127 1 rfl (by kernel_rfl) (by kernel_rfl) rfl (by exact Blk.cells hoz.1 rfl) ?_
   refine Dh 7 255 rfl (by kernel_rfl) (keep_sift (bs := [T,T]) (by kernel_rfl)) (h_callv (f := 162) (first := []) (cap := []) (by kernel_rfl) rfl rfl rfl ?_)
   refine (p_meld (t := m) (o := out) hs7.sat hmr hou (by omega)).mono ?_
   rintro _ w8 ⟨nq, nM, rfl, hs8, hn⟩
   have hoz:=hoz.then hs8
   have hor:=hor.then hs8
   have hbu:=hbu.then hs8
   have hmk:=hmk.mono hs8.le
   have hou:=hou.mono hs8.le
   have hT:=hT.then hs8
   have hz8 := hs8.size
   refine ⟨trivial, ?_⟩
   refine Dh0 8 511 rfl (by kernel_rfl) rfl (h_store hs8.sat hoz rfl rfl rfl (by kernel_rfl) rfl rfl rfl fun w9 hs9 hn9 => ?_)
   have hor:=hor.step hs9 (fun h => by have h : _ = _ := h; omega)
   have hbu:=hbu.step hs9 (fun g hg h => (hbz2 g hg).1 h)
   have hmk:=hmk.mono hs9.le
   have hou:=hou.mono hs9.le
   have hn:=hn.mono hs9.le
   clear hoz; have hoz := hn9; clear hn9
   have hT:=hT.own hs9 (by omega)
   have hz9 := hs9.size
   refine ⟨trivial, ?_⟩
   refine Dd (by kernel_rfl) (hK13 _ _ ?_)
   refine hK12 _ _ ?_
   refine cw_region fun _ κ => ?_
   refine Sm rfl rfl ?_
   refine as_q rfl rfl (q_subx rfl rfl (by omega) (by omega)) ?_
   refine Sa rfl rfl ?_
   refine as_nil (κ _ _ ?_)
   refine ⟨_, _, ?_, (.cons rfl (.cons rfl (.cons rfl (.cons rfl (.cons rfl (.cons rfl (.nil _))))))), _, m.meld out, _, _, rfl, ?_, ?_, ?_, ?_, rfl, hT, hn, hoz, hor, hbu, hmk⟩
   · omega
   · omega
   · omega
   · rw [hmod2, htk, show (z - 1 + 1).toNat = z.toNat by omega, List.foldr_append]; rfl
   · rw [show (z - 1 + 1).toNat = z.toNat by omega, Pr.meld_size]; omega
  ·
   have hc1:=of_decide_eq_false hc1
   refine cw_exit ?_
   refine hK8 _ _ ?_
   refine cw_rs fun _ κ => ?_
   refine Sc 1 rfl (by kernel_rfl) rfl (by exact Blk.cells hoz.1 rfl) ?_
   refine as_h0 (h_store hT.sat hor rfl rfl rfl (by kernel_rfl) rfl rfl rfl fun w10 hs10 hn10 => ?_)
   have hoz:=hoz.step hs10 (fun h => by have h : _ = _ := h; omega)
   have hbu:=hbu.step hs10 (fun g hg h => (hbz2 g hg).2 h)
   have hmk:=hmk.mono hs10.le
   have hou:=hou.mono hs10.le
   clear hor; have hor := hn10; clear hn10
   have hT:=hT.own hs10 (by omega)
   have hz10 := hs10.size
   refine as_nil (κ _ _ ?_)
   refine cw_ret ?_
   rw [hmod2, show (z + 1).toNat = 0 by omega, List.take_zero]
   exact ⟨_, (res_cell rfl (loadVar_n (n := 1) (by kernel_rfl) (by exact Blk.cells hor.1 rfl)) res_nil), _, _, rfl, hT, hou⟩
 ·
  have hsz1 : Pr.sizes [a] = a.size + 0 := rfl
  obtain ⟨hna, qa, l2, rfl, hka, hk2⟩ := preps_cons.1 hk
  have hl0 := preps_nil.1 hk2
  subst hl0
  clear hk2
  refine cw_rs fun _ κ => ?_
  refine Sc 1 rfl (by kernel_rfl) rfl (by exact Blk.cells hol.1 rfl) ?_
  refine as_h rfl (h_call (by kernel_rfl) rfl ?_)
  refine (cp_len hT.sat hcl).mono ?_
  rintro _ w11 ⟨rfl, hs11⟩
  have hbu:=hbu.then hs11
  have hmk:=hmk.mono hs11.le
  have hcl:=hcl.mono hs11.le
  have hk:=hk.mono hs11.le
  have hol:=hol.then hs11
  have hor:=hor.then hs11
  have hka:=hka.mono hs11.le
  have hT:=hT.then hs11
  have hz11 := hs11.size
  refine as_q rfl rfl (q_gt rfl rfl) ?_
  refine as_nil (κ _ _ ?_)
  refine cw_false rfl ?_
  refine cw_exit ?_
  refine hK4 _ _ ?_
  refine cw_rs fun _ κ => ?_
  refine Sc 1 rfl (by kernel_rfl) rfl (by exact Blk.cells hol.1 rfl) ?_
  refine as_h rfl (h_call (by kernel_rfl) rfl ?_)
  refine (cp_first hs11.sat hcl).mono ?_
  rintro _ w12 ⟨rfl, hs12⟩
  have hbu:=hbu.then hs12
  have hmk:=hmk.mono hs12.le
  have hcl:=hcl.mono hs12.le
  have hk:=hk.mono hs12.le
  have hol:=hol.then hs12
  have hor:=hor.then hs12
  have hka:=hka.mono hs12.le
  have hT:=hT.then hs12
  have hz12 := hs12.size
  refine Sm rfl rfl ?_
  refine Se rfl rfl rfl ?_
  refine Se rfl rfl rfl ?_
  have hblt := hbu.lt
  have hqaz := hT.size
  refine as_h rfl (h_allocO (z := (.agg #[(.pointer none)])) hs12.sat (by kernel_rfl) rfl fun bz w13 hs13 hoz ez => ?_)
  have hbu:=hbu.then hs13
  have hmk:=hmk.mono hs13.le
  have hcl:=hcl.mono hs13.le
  have hk:=hk.mono hs13.le
  have hol:=hol.then hs13
  have hor:=hor.then hs13
  have hka:=hka.mono hs13.le
  have hT:=hT.then hs13
  have hz13 := hs13.size
  have hlz := hoz.1.lt
  refine as_h0 (h_store hs13.sat hoz rfl rfl rfl (by kernel_rfl) rfl rfl rfl fun w14 hs14 hn14 => ?_)
  have hbu:=hbu.step hs14 (fun g hg h => by have h : g = bz := h; have := hblt g hg; omega)
  have hmk:=hmk.mono hs14.le
  have hcl:=hcl.mono hs14.le
  have hk:=hk.mono hs14.le
  have hol:=hol.step hs14 (fun h => by have h : _ = _ := h; omega)
  have hor:=hor.step hs14 (fun h => by have h : _ = _ := h; omega)
  have hka:=hka.mono hs14.le
  clear hoz; have hoz := hn14; clear hn14
  have hT:=hT.own hs14 (by omega)
  have hz14 := hs14.size
  refine Sa rfl rfl ?_
  refine as_nil (κ _ _ ?_)
  refine cw_seq fun _ hK18 => ?_
  refine cw_rs fun _ κ => ?_
  refine Sm rfl rfl ?_
  refine as_q rfl rfl (q_len (by kernel_rfl) rfl _) ?_
  refine as_q rfl rfl (q_subx rfl rfl (by omega) (by omega)) ?_
  refine Sa rfl rfl ?_
  refine as_nil (κ _ _ ?_)
  refine cw_block ?_
  refine cw_loop (fun mm l1 w1 => ∃ (z : Int) (out : Pr) (oq : Option Addr) (M2 : Mem), mm = (z + 1).toNat ∧ -1 ≤ z ∧ z < ms.length ∧ Pr.pair ks = (ms.take (z + 1).toNat).foldr Pr.meld out ∧ Pr.sizes (ms.take (z + 1).toNat) + out.size ≤ 1000000000 ∧ l1 = [(0, .pointer none), (4, .pointer (some ⟨br, 0, none⟩)), (5, .func (.func 162) #[] #[]), (6, .slice sa ms.length sc), (11, .pointer (some ⟨bz, 0, none⟩)), (13, .int .i64 z)] ∧ Step Nope M w M2 w1 ∧ PRep 251 260 M2 out oq ∧ Own w1 M2 bz [.pointer oq] 79 ∧ Own w1 M2 br [.pointer none] 79 ∧ Buf w1 M2 79 1 (.slice sa ms.length sc) ms.length (ptrs al) ∧ PReps 251 260 M2 ms al) (ms.length) [(0, .pointer none), (4, .pointer (some ⟨br, 0, none⟩)), (5, .func (.func 162) #[] #[]), (6, .slice sa ms.length sc), (11, .pointer (some ⟨bz, 0, none⟩)), (13, .int .i64 ((ms.length : Int) - 1))] (.cons rfl (.cons rfl (.cons rfl (.cons rfl (.cons rfl (.cons rfl (.nil _))))))) ?_ ?_
  ·
   refine ⟨(ms.length : Int) - 1, a, qa, _, by omega, by omega, by omega, ?_, ?_, rfl, hT, hka, hoz, hor, hbu, hmk⟩
   · rw [List.take_of_length_le (by omega), hmod]; rfl
   · rw [List.take_of_length_le (by omega)]; simp only [Pr.sizes, Pr.size] at hzz ⊢; omega
  have hbzw : w.heap.size ≤ bz ∧ bz ≠ br := by omega
  have hwz : bz < w14.heap.size ∧ br < w14.heap.size := ⟨hoz.1.lt, hor.1.lt⟩
  have hbz2 : ∀ g, (Value.slice sa ms.length sc).ownBlock = some g → g ≠ bz ∧ g ≠ br := fun g hg => ⟨fun h => by have := hbu.lt g hg; have := hblt g hg; omega, fun h => by have := hfr g hg; omega⟩
  clear hT hoz hor hbu hmk
  rintro mm l1 w2 ⟨z, out, oq, M2, rfl, hz1, hz2, hmod2, hzz2, rfl, hT, hou, hoz, hor, hbu, hmk⟩
  refine cw_seq fun _ hK20 => ?_
  refine cw_rs fun _ κ => ?_
  refine Sm rfl rfl ?_
  refine as_q rfl rfl (q_ge rfl rfl) ?_
  refine as_nil (κ _ _ ?_)
  refine cw_cond rfl (fun hc1 => ?_) (fun hc1 => ?_)
  ·
   have hc1:=of_decide_eq_true hc1
   obtain ⟨m, hm⟩ : ∃ m, ms[z.toNat]? = some m := ⟨ms[z.toNat]'(by omega), by simp⟩
   have htk : ms.take (z + 1).toNat = ms.take z.toNat ++ [m] := by rw [show (z + 1).toNat = z.toNat + 1 by omega, List.take_add_one, hm]; rfl
   have hsz := pr_sizes_append (ms.take z.toNat) [m]
   rw [← htk] at hsz
   have hsz1 : Pr.sizes [m] = m.size + 0 := rfl
   obtain ⟨mq, hmq, hmr⟩ := preps_get hmk hm
   obtain ⟨g, o, rfl⟩ := hbu.rd.there (by omega)
   refine cw_skip ?_
   refine hK20 _ _ ?_
   refine cw_seq fun _ hK22 => ?_
   refine cw_block ?_
   refine cw_drawn (by kernel_rfl) (by kernel_rfl) (by kernel_rfl) rfl rfl fun K23 hK23 => ?_
   have hs15 := Step.drew hT.sat
   have hz15 := hs15.size
   have hoz:=hoz.then hs15
   have hor:=hor.then hs15
   have hbu:=hbu.then hs15
   have hmk:=hmk.mono hs15.le
   have hou:=hou.mono hs15.le
   have hT:=hT.then hs15
   refine Dm 0 1 rfl (by kernel_rfl) rfl ?_
   refine Dm 1 3 rfl (by kernel_rfl) rfl ?_
   refine Dm 2 7 rfl (by kernel_rfl) rfl ?_
   refine Dq 3 15 rfl (by kernel_rfl) (fun _ => (q_indexAddr (e := 79) (size := 1) (by kernel_rfl) (by kernel_rfl) rfl rfl (by omega) (by omega))) ?_
   refine Dlc 4 31 1 rfl (by kernel_rfl) (by kernel_rfl) rfl (cells_one (Buf.cell hbu (u := .pointer mq) (j := z.toNat * 1) (by simp [ptrs, hmq]))) ?_
   refine Dm 5 63 rfl (by kernel_rfl) rfl ?_
   refine Dlc 6 127 1 rfl (by kernel_rfl) (by kernel_rfl) rfl (by exact Blk.cells hoz.1 rfl) ?_
   refine Dh 7 255 rfl (by kernel_rfl) (keep_sift (bs := [T,T]) (by kernel_rfl)) (h_callv (f := 162) (first := []) (cap := []) (by kernel_rfl) rfl rfl rfl ?_)
   refine (p_meld (t := m) (o := out) hs15.sat hmr hou (by omega)).mono ?_
   rintro _ w16 ⟨nq, nM, rfl, hs16, hn⟩
   have hoz:=hoz.then hs16
   have hor:=hor.then hs16
   have hbu:=hbu.then hs16
   have hmk:=hmk.mono hs16.le
   have hou:=hou.mono hs16.le
   have hT:=hT.then hs16
   have hz16 := hs16.size
   refine ⟨trivial, ?_⟩
   refine Dh0 8 511 rfl (by kernel_rfl) rfl (h_store hs16.sat hoz rfl rfl rfl (by kernel_rfl) rfl rfl rfl fun w17 hs17 hn17 => ?_)
   have hor:=hor.step hs17 (fun h => by have h : _ = _ := h; omega)
   have hbu:=hbu.step hs17 (fun g hg h => (hbz2 g hg).1 h)
   have hmk:=hmk.mono hs17.le
   have hou:=hou.mono hs17.le
   have hn:=hn.mono hs17.le
   clear hoz; have hoz := hn17; clear hn17
   have hT:=hT.own hs17 (by omega)
   have hz17 := hs17.size
   refine ⟨trivial, ?_⟩
   refine Dd (by kernel_rfl) (hK23 _ _ ?_)
   refine hK22 _ _ ?_
   refine cw_region fun _ κ => ?_
   refine Sm rfl rfl ?_
   refine as_q rfl rfl (q_subx rfl rfl (by omega) (by omega)) ?_
   refine Sa rfl rfl ?_
   refine as_nil (κ _ _ ?_)
   refine ⟨_, _, ?_, (.cons rfl (.cons rfl (.cons rfl (.cons rfl (.cons rfl (.cons rfl (.nil _))))))), _, m.meld out, _, _, rfl, ?_, ?_, ?_, ?_, rfl, hT, hn, hoz, hor, hbu, hmk⟩
   · omega
   · omega
   · omega
   · rw [hmod2, htk, show (z - 1 + 1).toNat = z.toNat by omega, List.foldr_append]; rfl
   · rw [show (z - 1 + 1).toNat = z.toNat by omega, Pr.meld_size]; omega
  ·
   have hc1:=of_decide_eq_false hc1
   refine cw_exit ?_
   refine hK18 _ _ ?_
   refine cw_rs fun _ κ => ?_
   refine Sc 1 rfl (by kernel_rfl) rfl (by exact Blk.cells hoz.1 rfl) ?_
   refine as_h0 (h_store hT.sat hor rfl rfl rfl (by kernel_rfl) rfl rfl rfl fun w18 hs18 hn18 => ?_)
   have hbu:=hbu.step hs18 (fun g hg h => (hbz2 g hg).2 h)
   have hmk:=hmk.mono hs18.le
   have hou:=hou.mono hs18.le
   clear hor; have hor := hn18; clear hn18
   have hT:=hT.own hs18 (by omega)
   have hz18 := hs18.size
   refine as_nil (κ _ _ ?_)
   refine cw_ret ?_
   rw [hmod2, show (z + 1).toNat = 0 by omega, List.take_zero]
   exact ⟨_, (res_cell rfl (loadVar_n (n := 1) (by kernel_rfl) (by exact Blk.cells hor.1 rfl)) res_nil), _, _, rfl, hT, hou⟩
 ·
  have hsz1 : Pr.sizes (a :: b :: rest) = a.size + (b.size + Pr.sizes rest) := rfl
  obtain ⟨hna, qa, l2, rfl, hka, hk1⟩ := preps_cons.1 hk
  obtain ⟨hnb, qb, l3, rfl, hkb, hk2⟩ := preps_cons.1 hk1
  clear hk1
  have hlc : (qa :: qb :: l3).length = l3.length + 2 := rfl
  refine cw_rs fun _ κ => ?_
  refine Sc 1 rfl (by kernel_rfl) rfl (by exact Blk.cells hol.1 rfl) ?_
  refine as_h rfl (h_call (by kernel_rfl) rfl ?_)
  refine (cp_len hT.sat hcl).mono ?_
  rintro _ w19 ⟨rfl, hs19⟩
  have hbu:=hbu.then hs19
  have hmk:=hmk.mono hs19.le
  have hcl:=hcl.mono hs19.le
  have hk:=hk.mono hs19.le
  have hol:=hol.then hs19
  have hor:=hor.then hs19
  have hka:=hka.mono hs19.le
  have hkb:=hkb.mono hs19.le
  have hk2:=hk2.mono hs19.le
  have hT:=hT.then hs19
  have hz19 := hs19.size
  refine as_q rfl rfl (q_gtT rfl rfl (by omega)) ?_
  refine as_nil (κ _ _ ?_)
  refine cw_true rfl ?_
  refine cw_skip ?_
  refine hK5 _ _ ?_
  refine cw_block ?_
  refine cw_rs fun _ κ => ?_
  refine Sc 1 rfl (by kernel_rfl) rfl (by exact Blk.cells hol.1 rfl) ?_
  refine as_h rfl (h_call (by kernel_rfl) rfl ?_)
  refine (cp_first hs19.sat hcl).mono ?_
  rintro _ w20 ⟨rfl, hs20⟩
  have hbu:=hbu.then hs20
  have hmk:=hmk.mono hs20.le
  have hcl:=hcl.mono hs20.le
  have hk:=hk.mono hs20.le
  have hol:=hol.then hs20
  have hor:=hor.then hs20
  have hka:=hka.mono hs20.le
  have hkb:=hkb.mono hs20.le
  have hk2:=hk2.mono hs20.le
  have hT:=hT.then hs20
  have hz20 := hs20.size
  refine Sm rfl rfl ?_
  refine Se rfl rfl rfl ?_
  refine Se rfl rfl rfl ?_
  have hblt := hbu.lt
  have hqax := hT.size
  refine as_h rfl (h_allocO (z := (.agg #[(.pointer none)])) hs20.sat (by kernel_rfl) rfl fun bx w21 hs21 hox ex => ?_)
  have hbu:=hbu.then hs21
  have hmk:=hmk.mono hs21.le
  have hcl:=hcl.mono hs21.le
  have hk:=hk.mono hs21.le
  have hol:=hol.then hs21
  have hor:=hor.then hs21
  have hka:=hka.mono hs21.le
  have hkb:=hkb.mono hs21.le
  have hk2:=hk2.mono hs21.le
  have hT:=hT.then hs21
  have hz21 := hs21.size
  have hlx := hox.1.lt
  refine as_h0 (h_store hs21.sat hox rfl rfl rfl (by kernel_rfl) rfl rfl rfl fun w22 hs22 hn22 => ?_)
  have hbu:=hbu.step hs22 (fun g hg h => by have h : g = bx := h; have := hblt g hg; omega)
  have hmk:=hmk.mono hs22.le
  have hcl:=hcl.mono hs22.le
  have hk:=hk.mono hs22.le
  have hol:=hol.step hs22 (fun h => by have h : _ = _ := h; omega)
  have hor:=hor.step hs22 (fun h => by have h : _ = _ := h; omega)
  have hka:=hka.mono hs22.le
  have hkb:=hkb.mono hs22.le
  have hk2:=hk2.mono hs22.le
  clear hox; have hox := hn22; clear hn22
  have hT:=hT.own hs22 (by omega)
  have hz22 := hs22.size
  refine Sa rfl rfl ?_
  refine as_nil (κ _ _ ?_)
  refine cw_rs fun _ κ => ?_
  refine Sc 1 rfl (by kernel_rfl) rfl (by exact Blk.cells hol.1 rfl) ?_
  refine as_h rfl (h_call (by kernel_rfl) rfl ?_)
  refine (cp_rest hs22.sat hcl).mono ?_
  rintro _ w23 ⟨qr, rfl, hs23, hcr⟩
  have hbu:=hbu.then hs23
  have hmk:=hmk.mono hs23.le
  have hcl:=hcl.mono hs23.le
  have hk:=hk.mono hs23.le
  have hol:=hol.then hs23
  have hor:=hor.then hs23
  have hka:=hka.mono hs23.le
  have hkb:=hkb.mono hs23.le
  have hk2:=hk2.mono hs23.le
  have hox:=hox.then hs23
  have hT:=hT.then hs23
  have hz23 := hs23.size
  refine as_h rfl (h_call (by kernel_rfl) rfl ?_)
  refine (cp_first hs23.sat hcr).mono ?_
  rintro _ w24 ⟨rfl, hs24⟩
  have hbu:=hbu.then hs24
  have hmk:=hmk.mono hs24.le
  have hcl:=hcl.mono hs24.le
  have hk:=hk.mono hs24.le
  have hol:=hol.then hs24
  have hor:=hor.then hs24
  have hka:=hka.mono hs24.le
  have hkb:=hkb.mono hs24.le
  have hk2:=hk2.mono hs24.le
  have hox:=hox.then hs24
  have hT:=hT.then hs24
  have hz24 := hs24.size
  refine Sm rfl rfl ?_
  refine Se rfl rfl rfl ?_
  refine Se rfl rfl rfl ?_
  have hblt := hbu.lt
  have hqav := hT.size
  refine as_h rfl (h_allocO (z := (.agg #[(.pointer none)])) hs24.sat (by kernel_rfl) rfl fun bv w25 hs25 hov ev => ?_)
  have hbu:=hbu.then hs25
  have hmk:=hmk.mono hs25.le
  have hcl:=hcl.mono hs25.le
  have hk:=hk.mono hs25.le
  have hol:=hol.then hs25
  have hor:=hor.then hs25
  have hka:=hka.mono hs25.le
  have hkb:=hkb.mono hs25.le
  have hk2:=hk2.mono hs25.le
  have hox:=hox.then hs25
  have hT:=hT.then hs25
  have hz25 := hs25.size
  have hlv := hov.1.lt
  refine as_h0 (h_store hs25.sat hov rfl rfl rfl (by kernel_rfl) rfl rfl rfl fun w26 hs26 hn26 => ?_)
  have hbu:=hbu.step hs26 (fun g hg h => by have h : g = bv := h; have := hblt g hg; omega)
  have hmk:=hmk.mono hs26.le
  have hcl:=hcl.mono hs26.le
  have hk:=hk.mono hs26.le
  have hol:=hol.step hs26 (fun h => by have h : _ = _ := h; omega)
  have hor:=hor.step hs26 (fun h => by have h : _ = _ := h; omega)
  have hka:=hka.mono hs26.le
  have hkb:=hkb.mono hs26.le
  have hk2:=hk2.mono hs26.le
  have hox:=hox.step hs26 (fun h => by have h : _ = _ := h; omega)
  clear hov; have hov := hn26; clear hn26
  have hT:=hT.own hs26 (by omega)
  have hz26 := hs26.size
  refine Sa rfl rfl ?_
  refine as_nil (κ _ _ ?_)
  refine cw_rs fun _ κ => ?_
  refine Sm rfl rfl ?_
  refine Sm rfl rfl ?_
  refine Sc 1 rfl (by kernel_rfl) rfl (by exact Blk.cells hox.1 rfl) ?_
  refine Sm rfl rfl ?_
  refine Sc 1 rfl (by kernel_rfl) rfl (by exact Blk.cells hov.1 rfl) ?_
  refine as_h rfl (h_callv (f := 162) (first := []) (cap := []) (by kernel_rfl) rfl rfl rfl ?_)
  refine (p_meld (t := a) (o := b) hs26.sat hka hkb (by omega)).mono ?_
  rintro _ w27 ⟨nq, nM, rfl, hs27, hn⟩
  have hbu:=hbu.then hs27
  have hmk:=hmk.mono hs27.le
  have hcl:=hcl.mono hs27.le
  have hk:=hk.mono hs27.le
  have hol:=hol.then hs27
  have hor:=hor.then hs27
  have hk2:=hk2.mono hs27.le
  have hox:=hox.then hs27
  have hov:=hov.then hs27
  have hT:=hT.then hs27
  have hz27 := hs27.size
  refine as_h rfl (h_buildO (e := 79) (size := 1) (zs := [.pointer none]) (cs := [_]) (by kernel_rfl) (by kernel_rfl) (by kernel_rfl) rfl hs27.sat rfl rfl fun bB w28 hs28 hoB eB => ?_)
  have hbu:=hbu.then hs28
  have hmk:=hmk.mono hs28.le
  have hcl:=hcl.mono hs28.le
  have hk:=hk.mono hs28.le
  have hol:=hol.then hs28
  have hor:=hor.then hs28
  have hk2:=hk2.mono hs28.le
  have hox:=hox.then hs28
  have hov:=hov.then hs28
  have hn:=hn.mono hs28.le
  have hT:=hT.then hs28
  have hz28 := hs28.size
  have hrx := Buf.rd (Own.buf hoB (n := 1) (size := 1) rfl (by decide))
  have hTq := hT.size
  refine as_h rfl (h_append (e := 79) (size := 1) (bytes := 8) (by kernel_rfl) hs28.sat hbu hrx rfl rfl (fun y hy => by obtain rfl := List.mem_singleton.1 hy; rfl) (by omega) rfl fun sv w29 hs29 hbu2 hor2 => ?_)
  have hmk:=hmk.mono hs29.le
  have hcl:=hcl.mono hs29.le
  have hk:=hk.mono hs29.le
  have hol:=hol.step hs29 (fun h => by have := hfr _ h; omega)
  have hor:=hor.step hs29 (fun h => by have := hfr _ h; omega)
  have hk2:=hk2.mono hs29.le
  clear hox
  clear hov
  have hn:=hn.mono hs29.le
  have hT:=hT.trans hs29 (fun k hk h => by have := hfr k h; omega)
  have hz_ := hs29.size
  have hfr2 : ∀ g, sv.ownBlock = some g → w2.heap.size ≤ g := fun g hg => by
   rcases hor2 with h | h
   · rw [h] at hg; exact hfr g hg
   · rw [h] at hg; have h2 := Option.some.inj hg; omega
  clear hbu
  have hbu := hbu2
  clear hfr
  have hfr := hfr2
  obtain ⟨sva, svc, rfl, _, _⟩ := hbu.slice
  refine Sa rfl rfl ?_
  refine as_nil (κ _ _ ?_)
  refine cw_region fun _ κ => ?_
  refine Sc 1 rfl (by kernel_rfl) rfl (by exact Blk.cells hol.1 rfl) ?_
  refine as_h rfl (h_call (by kernel_rfl) rfl ?_)
  refine (cp_drop (n := 2) hs29.sat hcl (by decide)).mono ?_
  rintro _ w30 ⟨qd, rfl, hs30, hcd⟩
  replace hcd : CRep 260 _ l3 (.pointer qd) := hcd
  have hmk:=hmk.mono hs30.le
  have hol:=hol.then hs30
  have hor:=hor.then hs30
  have hk2:=hk2.mono hs30.le
  have hn:=hn.mono hs30.le
  have hbu:=hbu.then hs30
  have hT:=hT.then hs30
  have hz30 := hs30.size
  refine as_h0 (h_store hs30.sat hol rfl rfl rfl (by kernel_rfl) rfl rfl rfl fun w31 hs31 hn31 => ?_)
  have hmk:=hmk.mono hs31.le
  have hor:=hor.step hs31 (fun h => by have h : _ = _ := h; omega)
  have hk2:=hk2.mono hs31.le
  have hn:=hn.mono hs31.le
  have hbu:=hbu.step hs31 (fun g hg h => by have h : g = bl := h; have := hfr g hg; omega)
  have hcd:=hcd.mono hs31.le
  clear hol; have hol := hn31; clear hn31
  have hT:=hT.own hs31 (by omega)
  have hz31 := hs31.size
  refine as_nil (κ _ _ ?_)
  refine ⟨_, _, ?_, (.cons rfl (.cons rfl (.cons rfl (.cons rfl (.cons rfl (.nil _)))))), ms ++ [a.meld b], rest, al ++ [nq], l3, _, _, _, _, _, rfl, by simp, ?_, ?_, rfl, hT, by omega, ?_, preps_snoc hmk (pr_meld_ne hna) hn, hcd, hk2, hol, hor, hfr⟩
  · simp only [List.length_cons]; omega
  · rw [hmod, List.foldr_append]; rfl
  · rw [pr_sizes_append]; simp only [Pr.sizes, Pr.meld_size] at hzz ⊢; omega
  · simpa [ptrs] using hbu
theorem p_pop {w : World} {M : Mem} {x : El} {ks : List Pr} {q : Option Addr} (hs : Sat M w) (h : PRep 251 260 M (.node x ks) q) (hz : (Pr.node x ks).size ≤ 1000000000) :
  Does Tryz.prog 164 #[.agg #[.pointer q], .pointer none] w (fun v w' => ∃ q M', v = .tuple #[.agg #[.pointer q], .bool true] ∧ Step Nope M w M' w' ∧ PRep 251 260 M' (Pr.pair ks) q) := by
 have hT := Step.refl Nope hs
 obtain ⟨b, kq, al, rfl, hb, hc, hk⟩ := prep_node.1 h
 refine fn_enter Tryz.func164 rfl (rs := [.cell 4 79, .tmp 5]) rfl rfl rfl rfl ?_
 refine cw_rs fun _ κ => ?_
 refine as_h rfl (h_boxM hs rfl rfl fun b1 M1 w1 hs1 hb1 e1 => ?_)
 have hb:=hs1.le _ _ hb
 have hc:=hc.mono hs1.le
 have hk:=hk.mono hs1.le
 have hT:=hT.then hs1
 have hz1 := hs1.size
 have hqar := hT.size
 refine as_h rfl (h_allocO (z := (.agg #[(.pointer none)])) hs1.sat (by kernel_rfl) rfl fun br w2 hs2 hor er => ?_)
 have hb:=hs2.le _ _ hb
 have hc:=hc.mono hs2.le
 have hk:=hk.mono hs2.le
 have hb1:=hs2.le _ _ hb1
 have hT:=hT.then hs2
 have hz2 := hs2.size
 have hlr := hor.1.lt
 refine Sa rfl rfl ?_
 refine as_nil (κ _ _ ?_)
 refine cw_seq fun _ hK2 => ?_
 refine cw_rs fun _ κ => ?_
 refine Sf 0 rfl (by kernel_rfl) rfl ?_
 refine S1 rfl (by kernel_rfl) rfl (by exact BlkR.cell (hs2.sat _ _ _ hb1) rfl) ?_
 refine as_q rfl rfl (q_eqnil (by kernel_rfl) rfl) ?_
 refine as_nil (κ _ _ ?_)
 refine cw_false rfl ?_
 refine cw_skip ?_
 refine hK2 _ _ ?_
 refine cw_rs fun _ κ => ?_
 refine Sm rfl rfl ?_
 refine Sf 0 rfl (by kernel_rfl) rfl ?_
 refine S1 rfl (by kernel_rfl) rfl (by exact BlkR.cell (hs2.sat _ _ _ hb1) rfl) ?_
 refine as_q rfl rfl (q_nilp rfl) ?_
 refine Sf 2 rfl (by kernel_rfl) rfl ?_
 refine Sc 1 rfl (by kernel_rfl) rfl (by exact BlkR.cells (hs2.sat _ _ _ hb) rfl) ?_
 refine as_h rfl (h_call (by kernel_rfl) rfl ?_)
 refine (p_pair hs2.sat hc hk (by simp only [Pr.size] at hz; omega)).mono ?_
 rintro _ w3 ⟨qm, Mm, rfl, hs3, hm⟩
 have hor:=hor.then hs3
 have hT:=hT.then hs3
 have hz3 := hs3.size
 refine as_h0 (h_store hs3.sat hor rfl rfl rfl (by kernel_rfl) rfl rfl rfl fun w4 hs4 hn4 => ?_)
 have hm:=hm.mono hs4.le
 clear hor; have hor := hn4; clear hn4
 have hT:=hT.own hs4 (by omega)
 have hz4 := hs4.size
 refine Sa rfl rfl ?_
 refine as_nil (κ _ _ ?_)
 refine cw_ret ?_
 exact ⟨_, (res_cell rfl (loadVar_n (n := 1) (by kernel_rfl) (by exact Blk.cells hor.1 rfl)) (res_tmp rfl res_nil)), _, _, rfl, hT, hm⟩
end Go.Proofs.YtgcgjpfjjgalmaaGreat
/- Heaps of the kinds without their least element, as heaps of any kind, part 1. -/
namespace Go.Proofs.YtgcgjpfjjgalmaaGreat
open Go Go.Eng
theorem wa_pop {w : World} {M : Mem} {x : El} {l r : Lft} {q : Option Addr} (hs : Sat M w) (h : LRep 171 M (.node x l r) (.pointer q)) (hz : (Lft.node x l r).size ≤ 1000000000) :
  Does Tryz.prog 93 #[.agg #[.pointer q], .pointer none] w (fun v w' => ∃ q M', v = .iface 69 (.agg #[.pointer q]) ∧ Step Nope M w M' w' ∧ LRep 171 M' (l.meld r) (.pointer q)) := by
 have hT := Step.refl Nope hs
 refine fn_enter Tryz.func93 rfl (rs := [.tmp 4]) rfl rfl rfl rfl ?_
 refine cw_rs fun _ κ => ?_
 refine as_h rfl (h_boxM hs rfl rfl fun b1 M1 w1 hs1 hb1 e1 => ?_)
 have h:=h.mono hs1.le
 have hT:=hT.then hs1
 have hz1 := hs1.size
 refine Sa rfl rfl ?_
 refine as_nil (κ _ _ ?_)
 refine cw_rs fun _ κ => ?_
 refine Sf 0 rfl (by kernel_rfl) rfl ?_
 refine Sc 1 rfl (by kernel_rfl) rfl (by exact BlkR.cells (hs1.sat _ _ _ hb1) rfl) ?_
 refine as_q rfl rfl (q_iface (by kernel_rfl) rfl) ?_
 refine Sm rfl rfl ?_
 refine as_h rfl (h_invoke (f := 281) (r := .agg #[.pointer q]) (by kernel_rfl) rfl rfl (by kernel_rfl) ?_)
 refine (l_pop hs1.sat h hz).mono ?_
 rintro _ w2 ⟨pn, Mn, rfl, hs2, hn⟩
 obtain ⟨qn, rfl⟩ := hn.ptr
 have h:=h.mono hs2.le
 have hT:=hT.then hs2
 have hz2 := hs2.size
 refine Sm rfl rfl ?_
 refine Se rfl rfl rfl ?_
 refine Se rfl rfl rfl ?_
 have hqap := hT.size
 refine as_h rfl (h_allocO (z := (.agg #[(.pointer none)])) hs2.sat (by kernel_rfl) rfl fun bp w3 hs3 hop ep => ?_)
 have h:=h.mono hs3.le
 have hn:=hn.mono hs3.le
 have hT:=hT.then hs3
 have hz3 := hs3.size
 have hlp := hop.1.lt
 refine as_h0 (h_store hs3.sat hop rfl rfl rfl (by kernel_rfl) rfl rfl rfl fun w4 hs4 hn4 => ?_)
 have h:=h.mono hs4.le
 have hn:=hn.mono hs4.le
 clear hop; have hop := hn4; clear hn4
 have hT:=hT.own hs4 (by omega)
 have hz4 := hs4.size
 refine Sa rfl rfl ?_
 refine as_nil (κ _ _ ?_)
 refine cw_rs fun _ κ => ?_
 refine Sc 1 rfl (by kernel_rfl) rfl (by exact Blk.cells hop.1 rfl) ?_
 refine as_q rfl rfl (q_build (zs := [(.pointer none)]) (places := [(0, 1)]) (cs := [_]) (by kernel_rfl) (by kernel_rfl) rfl rfl) ?_
 refine as_q rfl rfl (q_iface (by kernel_rfl) rfl) ?_
 refine Sa rfl rfl ?_
 refine as_nil (κ _ _ ?_)
 refine cw_ret ?_
 exact ⟨_, (res_tmp rfl res_nil), _, _, rfl, hT, hn⟩
theorem wc_pop {w : World} {M : Mem} {x : El} {ks : List Pr} {q : Option Addr} (hs : Sat M w) (h : PRep 251 260 M (.node x ks) q) (hz : (Pr.node x ks).size ≤ 1000000000) :
  Does Tryz.prog 179 #[.agg #[.pointer q], .pointer none] w (fun v w' => ∃ q M', v = .iface 81 (.agg #[.pointer q]) ∧ Step Nope M w M' w' ∧ PRep 251 260 M' (Pr.pair ks) q) := by
 have hT := Step.refl Nope hs
 refine fn_enter Tryz.func179 rfl (rs := [.tmp 4]) rfl rfl rfl rfl ?_
 refine cw_rs fun _ κ => ?_
 refine as_h rfl (h_boxM hs rfl rfl fun b1 M1 w1 hs1 hb1 e1 => ?_)
 have h:=h.mono hs1.le
 have hT:=hT.then hs1
 have hz1 := hs1.size
 refine Sa rfl rfl ?_
 refine as_nil (κ _ _ ?_)
 refine cw_rs fun _ κ => ?_
 refine Sf 0 rfl (by kernel_rfl) rfl ?_
 refine Sc 1 rfl (by kernel_rfl) rfl (by exact BlkR.cells (hs1.sat _ _ _ hb1) rfl) ?_
 refine as_q rfl rfl (q_iface (by kernel_rfl) rfl) ?_
 refine Sm rfl rfl ?_
 refine as_h rfl (h_invoke (f := 164) (r := .agg #[.pointer q]) (by kernel_rfl) rfl rfl (by kernel_rfl) ?_)
 refine (p_pop hs1.sat h hz).mono ?_
 rintro _ w2 ⟨qn, Mn, rfl, hs2, hn⟩
 have h:=h.mono hs2.le
 have hT:=hT.then hs2
 have hz2 := hs2.size
 refine Sm rfl rfl ?_
 refine Se rfl rfl rfl ?_
 refine Se rfl rfl rfl ?_
 have hqap := hT.size
 refine as_h rfl (h_allocO (z := (.agg #[(.pointer none)])) hs2.sat (by kernel_rfl) rfl fun bp w3 hs3 hop ep => ?_)
 have h:=h.mono hs3.le
 have hn:=hn.mono hs3.le
 have hT:=hT.then hs3
 have hz3 := hs3.size
 have hlp := hop.1.lt
 refine as_h0 (h_store hs3.sat hop rfl rfl rfl (by kernel_rfl) rfl rfl rfl fun w4 hs4 hn4 => ?_)
 have h:=h.mono hs4.le
 have hn:=hn.mono hs4.le
 clear hop; have hop := hn4; clear hn4
 have hT:=hT.own hs4 (by omega)
 have hz4 := hs4.size
 refine Sa rfl rfl ?_
 refine as_nil (κ _ _ ?_)
 refine cw_rs fun _ κ => ?_
 refine Sc 1 rfl (by kernel_rfl) rfl (by exact Blk.cells hop.1 rfl) ?_
 refine as_q rfl rfl (q_build (zs := [(.pointer none)]) (places := [(0, 1)]) (cs := [_]) (by kernel_rfl) (by kernel_rfl) rfl rfl) ?_
 refine as_q rfl rfl (q_iface (by kernel_rfl) rfl) ?_
 refine Sa rfl rfl ?_
 refine as_nil (κ _ _ ?_)
 refine cw_ret ?_
 exact ⟨_, (res_tmp rfl res_nil), _, _, rfl, hT, hn⟩
end Go.Proofs.YtgcgjpfjjgalmaaGreat
/- Heaps of the kinds without their least element, as heaps of any kind, part 1. -/
namespace Go.Proofs.YtgcgjpfjjgalmaaGreat
open Go Go.Eng
theorem wb_pop {w : World} {M : Mem} {t : List (RT El)} {y : El} {bs : List El} {ks : List (RT El)} {q : Option Addr} (hs : Sat M w) (h : FRep 197 220 2 EncE M t q) (ht : t[leastN ltE (t.map RT.root) (t.length - 1)]? = some (.node y bs ks)) (hz : RT.sizes t ≤ 1000000000) :
  Does Tryz.prog 158 #[.agg #[.pointer q], .pointer none] w (fun v w' => ∃ q M', v = .iface 76 (.agg #[.pointer q]) ∧ Step Nope M w M' w' ∧ FRep 197 220 2 EncE M' (bpop ltE t (.node y bs ks)) q) := by
 have hT := Step.refl Nope hs
 refine fn_enter Tryz.func158 rfl (rs := [.tmp 4]) rfl rfl rfl rfl ?_
 refine cw_rs fun _ κ => ?_
 refine as_h rfl (h_boxM hs rfl rfl fun b1 M1 w1 hs1 hb1 e1 => ?_)
 have h:=h.mono' EncE.mono hs1.le
 have hT:=hT.then hs1
 have hz1 := hs1.size
 refine Sa rfl rfl ?_
 refine as_nil (κ _ _ ?_)
 refine cw_rs fun _ κ => ?_
 refine Sf 0 rfl (by kernel_rfl) rfl ?_
 refine Sc 1 rfl (by kernel_rfl) rfl (by exact BlkR.cells (hs1.sat _ _ _ hb1) rfl) ?_
 refine as_q rfl rfl (q_iface (by kernel_rfl) rfl) ?_
 refine Sm rfl rfl ?_
 refine as_h rfl (h_invoke (f := 114) (r := .agg #[.pointer q]) (by kernel_rfl) rfl rfl (by kernel_rfl) ?_)
 refine (b_pop hs1.sat h ht hz).mono ?_
 rintro _ w2 ⟨qn, Mn, rfl, hs2, hn⟩
 have h:=h.mono' EncE.mono hs2.le
 have hT:=hT.then hs2
 have hz2 := hs2.size
 refine Sm rfl rfl ?_
 refine Se rfl rfl rfl ?_
 refine Se rfl rfl rfl ?_
 have hqap := hT.size
 refine as_h rfl (h_allocO (z := (.agg #[(.pointer none)])) hs2.sat (by kernel_rfl) rfl fun bp w3 hs3 hop ep => ?_)
 have h:=h.mono' EncE.mono hs3.le
 have hn:=hn.mono' EncE.mono hs3.le
 have hT:=hT.then hs3
 have hz3 := hs3.size
 have hlp := hop.1.lt
 refine as_h0 (h_store hs3.sat hop rfl rfl rfl (by kernel_rfl) rfl rfl rfl fun w4 hs4 hn4 => ?_)
 have h:=h.mono' EncE.mono hs4.le
 have hn:=hn.mono' EncE.mono hs4.le
 clear hop; have hop := hn4; clear hn4
 have hT:=hT.own hs4 (by omega)
 have hz4 := hs4.size
 refine Sa rfl rfl ?_
 refine as_nil (κ _ _ ?_)
 refine cw_rs fun _ κ => ?_
 refine Sc 1 rfl (by kernel_rfl) rfl (by exact Blk.cells hop.1 rfl) ?_
 refine as_q rfl rfl (q_build (zs := [(.pointer none)]) (places := [(0, 1)]) (cs := [_]) (by kernel_rfl) (by kernel_rfl) rfl rfl) ?_
 refine as_q rfl rfl (q_iface (by kernel_rfl) rfl) ?_
 refine Sa rfl rfl ?_
 refine as_nil (κ _ _ ?_)
 refine cw_ret ?_
 exact ⟨_, (res_tmp rfl res_nil), _, _, rfl, hT, hn⟩
theorem wd_pop {w : World} {M : Mem} {t : List (RT El)} {y : El} {bs : List El} {ks : List (RT El)} {q : Option Addr} (hs : Sat M w) (h : FRep 197 220 2 EncE M t q) (ht : t[leastN ltE (t.map RT.root) (t.length - 1)]? = some (.node y bs ks)) (hz : RT.sizes t ≤ 1000000000) :
  Does Tryz.prog 200 #[.agg #[.pointer q], .pointer none] w (fun v w' => ∃ q M', v = .iface 85 (.agg #[.pointer q]) ∧ Step Nope M w M' w' ∧ FRep 197 220 2 EncE M' (spop ltE t (.node y bs ks)) q) := by
 have hT := Step.refl Nope hs
 refine fn_enter Tryz.func200 rfl (rs := [.tmp 4]) rfl rfl rfl rfl ?_
 refine cw_rs fun _ κ => ?_
 refine as_h rfl (h_boxM hs rfl rfl fun b1 M1 w1 hs1 hb1 e1 => ?_)
 have h:=h.mono' EncE.mono hs1.le
 have hT:=hT.then hs1
 have hz1 := hs1.size
 refine Sa rfl rfl ?_
 refine as_nil (κ _ _ ?_)
 refine cw_rs fun _ κ => ?_
 refine Sf 0 rfl (by kernel_rfl) rfl ?_
 refine Sc 1 rfl (by kernel_rfl) rfl (by exact BlkR.cells (hs1.sat _ _ _ hb1) rfl) ?_
 refine as_q rfl rfl (q_iface (by kernel_rfl) rfl) ?_
 refine Sm rfl rfl ?_
 refine as_h rfl (h_invoke (f := 185) (r := .agg #[.pointer q]) (by kernel_rfl) rfl rfl (by kernel_rfl) ?_)
 refine (se_pop hs1.sat h ht hz).mono ?_
 rintro _ w2 ⟨qn, Mn, rfl, hs2, hn⟩
 have h:=h.mono' EncE.mono hs2.le
 have hT:=hT.then hs2
 have hz2 := hs2.size
 refine Sm rfl rfl ?_
 refine Se rfl rfl rfl ?_
 refine Se rfl rfl rfl ?_
 have hqap := hT.size
 refine as_h rfl (h_allocO (z := (.agg #[(.pointer none)])) hs2.sat (by kernel_rfl) rfl fun bp w3 hs3 hop ep => ?_)
 have h:=h.mono' EncE.mono hs3.le
 have hn:=hn.mono' EncE.mono hs3.le
 have hT:=hT.then hs3
 have hz3 := hs3.size
 have hlp := hop.1.lt
 refine as_h0 (h_store hs3.sat hop rfl rfl rfl (by kernel_rfl) rfl rfl rfl fun w4 hs4 hn4 => ?_)
 have h:=h.mono' EncE.mono hs4.le
 have hn:=hn.mono' EncE.mono hs4.le
 clear hop; have hop := hn4; clear hn4
 have hT:=hT.own hs4 (by omega)
 have hz4 := hs4.size
 refine Sa rfl rfl ?_
 refine as_nil (κ _ _ ?_)
 refine cw_rs fun _ κ => ?_
 refine Sc 1 rfl (by kernel_rfl) rfl (by exact Blk.cells hop.1 rfl) ?_
 refine as_q rfl rfl (q_build (zs := [(.pointer none)]) (places := [(0, 1)]) (cs := [_]) (by kernel_rfl) (by kernel_rfl) rfl rfl) ?_
 refine as_q rfl rfl (q_iface (by kernel_rfl) rfl) ?_
 refine Sa rfl rfl ?_
 refine as_nil (κ _ _ ?_)
 refine cw_ret ?_
 exact ⟨_, (res_tmp rfl res_nil), _, _, rfl, hT, hn⟩
theorem we_pop1 {w : World} {M : Mem} {x : El} {q : Option Addr} (hs : Sat M w) (h : RoRep 283 197 220 M (.node x []) q) :
  Does Tryz.prog 213 #[.agg #[.pointer q], .pointer none] w (fun v w' => ∃ q M', v = .iface 90 (.agg #[.pointer q]) ∧ Step Nope M w M' w' ∧ RoRep 283 197 220 M' .nil q) := by
 have hT := Step.refl Nope hs
 refine fn_enter Tryz.func213 rfl (rs := [.tmp 4]) rfl rfl rfl rfl ?_
 refine cw_rs fun _ κ => ?_
 refine as_h rfl (h_boxM hs rfl rfl fun b1 M1 w1 hs1 hb1 e1 => ?_)
 have h:=h.mono hs1.le
 have hT:=hT.then hs1
 have hz1 := hs1.size
 refine Sa rfl rfl ?_
 refine as_nil (κ _ _ ?_)
 refine cw_rs fun _ κ => ?_
 refine Sf 0 rfl (by kernel_rfl) rfl ?_
 refine Sc 1 rfl (by kernel_rfl) rfl (by exact BlkR.cells (hs1.sat _ _ _ hb1) rfl) ?_
 refine as_q rfl rfl (q_iface (by kernel_rfl) rfl) ?_
 refine Sm rfl rfl ?_
 refine as_h rfl (h_invoke (f := 206) (r := .agg #[.pointer q]) (by kernel_rfl) rfl rfl (by kernel_rfl) ?_)
 refine (r_pop_1 hs1.sat h).mono ?_
 rintro _ w2 ⟨qn, Mn, rfl, hs2, hn⟩
 have h:=h.mono hs2.le
 have hT:=hT.then hs2
 have hz2 := hs2.size
 refine Sm rfl rfl ?_
 refine Se rfl rfl rfl ?_
 refine Se rfl rfl rfl ?_
 have hqap := hT.size
 refine as_h rfl (h_allocO (z := (.agg #[(.pointer none)])) hs2.sat (by kernel_rfl) rfl fun bp w3 hs3 hop ep => ?_)
 have h:=h.mono hs3.le
 have hn:=hn.mono hs3.le
 have hT:=hT.then hs3
 have hz3 := hs3.size
 have hlp := hop.1.lt
 refine as_h0 (h_store hs3.sat hop rfl rfl rfl (by kernel_rfl) rfl rfl rfl fun w4 hs4 hn4 => ?_)
 have h:=h.mono hs4.le
 have hn:=hn.mono hs4.le
 clear hop; have hop := hn4; clear hn4
 have hT:=hT.own hs4 (by omega)
 have hz4 := hs4.size
 refine Sa rfl rfl ?_
 refine as_nil (κ _ _ ?_)
 refine cw_rs fun _ κ => ?_
 refine Sc 1 rfl (by kernel_rfl) rfl (by exact Blk.cells hop.1 rfl) ?_
 refine as_q rfl rfl (q_build (zs := [(.pointer none)]) (places := [(0, 1)]) (cs := [_]) (by kernel_rfl) (by kernel_rfl) rfl rfl) ?_
 refine as_q rfl rfl (q_iface (by kernel_rfl) rfl) ?_
 refine Sa rfl rfl ?_
 refine as_nil (κ _ _ ?_)
 refine cw_ret ?_
 exact ⟨_, (res_tmp rfl res_nil), _, _, rfl, hT, hn⟩
theorem we_pop2 {w : World} {M : Mem} {x y : El} {bs : List El} {ks t : List (RT El)} {q : Option Addr} (hs : Sat M w) (h : RoRep 283 197 220 M (.node x t) q) (ht : t[leastN ltE (t.map RT.root) (t.length - 1)]? = some (.node y bs ks)) (hz : RT.sizes t ≤ 1000000000) :
  Does Tryz.prog 213 #[.agg #[.pointer q], .pointer none] w (fun v w' => ∃ q M', v = .iface 90 (.agg #[.pointer q]) ∧ Step Nope M w M' w' ∧ RoRep 283 197 220 M' (.node y (spop ltE t (.node y bs ks))) q) := by
 have hT := Step.refl Nope hs
 refine fn_enter Tryz.func213 rfl (rs := [.tmp 4]) rfl rfl rfl rfl ?_
 refine cw_rs fun _ κ => ?_
 refine as_h rfl (h_boxM hs rfl rfl fun b1 M1 w1 hs1 hb1 e1 => ?_)
 have h:=h.mono hs1.le
 have hT:=hT.then hs1
 have hz1 := hs1.size
 refine Sa rfl rfl ?_
 refine as_nil (κ _ _ ?_)
 refine cw_rs fun _ κ => ?_
 refine Sf 0 rfl (by kernel_rfl) rfl ?_
 refine Sc 1 rfl (by kernel_rfl) rfl (by exact BlkR.cells (hs1.sat _ _ _ hb1) rfl) ?_
 refine as_q rfl rfl (q_iface (by kernel_rfl) rfl) ?_
 refine Sm rfl rfl ?_
 refine as_h rfl (h_invoke (f := 206) (r := .agg #[.pointer q]) (by kernel_rfl) rfl rfl (by kernel_rfl) ?_)
 refine (r_pop_2 hs1.sat h ht hz).mono ?_
 rintro _ w2 ⟨qn, Mn, rfl, hs2, hn⟩
 have h:=h.mono hs2.le
 have hT:=hT.then hs2
 have hz2 := hs2.size
 refine Sm rfl rfl ?_
 refine Se rfl rfl rfl ?_
 refine Se rfl rfl rfl ?_
 have hqap := hT.size
 refine as_h rfl (h_allocO (z := (.agg #[(.pointer none)])) hs2.sat (by kernel_rfl) rfl fun bp w3 hs3 hop ep => ?_)
 have h:=h.mono hs3.le
 have hn:=hn.mono hs3.le
 have hT:=hT.then hs3
 have hz3 := hs3.size
 have hlp := hop.1.lt
 refine as_h0 (h_store hs3.sat hop rfl rfl rfl (by kernel_rfl) rfl rfl rfl fun w4 hs4 hn4 => ?_)
 have h:=h.mono hs4.le
 have hn:=hn.mono hs4.le
 clear hop; have hop := hn4; clear hn4
 have hT:=hT.own hs4 (by omega)
 have hz4 := hs4.size
 refine Sa rfl rfl ?_
 refine as_nil (κ _ _ ?_)
 refine cw_rs fun _ κ => ?_
 refine Sc 1 rfl (by kernel_rfl) rfl (by exact Blk.cells hop.1 rfl) ?_
 refine as_q rfl rfl (q_build (zs := [(.pointer none)]) (places := [(0, 1)]) (cs := [_]) (by kernel_rfl) (by kernel_rfl) rfl rfl) ?_
 refine as_q rfl rfl (q_iface (by kernel_rfl) rfl) ?_
 refine Sa rfl rfl ?_
 refine as_nil (κ _ _ ?_)
 refine cw_ret ?_
 exact ⟨_, (res_tmp rfl res_nil), _, _, rfl, hT, hn⟩
theorem wf_pop1 {w : World} {M : Mem} {x : El} {q : Option Addr} (hs : Sat M w) (h : BRep 296 330 332 M (.node x []) q) :
  Does Tryz.prog 264 #[.agg #[.pointer q], .pointer none] w (fun v w' => ∃ q M', v = .iface 95 (.agg #[.pointer q]) ∧ Step Nope M w M' w' ∧ BRep 296 330 332 M' .nil q) := by
 have hT := Step.refl Nope hs
 refine fn_enter Tryz.func264 rfl (rs := [.tmp 4]) rfl rfl rfl rfl ?_
 refine cw_rs fun _ κ => ?_
 refine as_h rfl (h_boxM hs rfl rfl fun b1 M1 w1 hs1 hb1 e1 => ?_)
 have h:=h.mono hs1.le
 have hT:=hT.then hs1
 have hz1 := hs1.size
 refine Sa rfl rfl ?_
 refine as_nil (κ _ _ ?_)
 refine cw_rs fun _ κ => ?_
 refine Sf 0 rfl (by kernel_rfl) rfl ?_
 refine Sc 1 rfl (by kernel_rfl) rfl (by exact BlkR.cells (hs1.sat _ _ _ hb1) rfl) ?_
 refine as_q rfl rfl (q_iface (by kernel_rfl) rfl) ?_
 refine Sm rfl rfl ?_
 refine as_h rfl (h_invoke (f := 220) (r := .agg #[.pointer q]) (by kernel_rfl) rfl rfl (by kernel_rfl) ?_)
 refine (bo_pop_1 hs1.sat h).mono ?_
 rintro _ w2 ⟨qn, Mn, rfl, hs2, hn⟩
 have h:=h.mono hs2.le
 have hT:=hT.then hs2
 have hz2 := hs2.size
 refine Sm rfl rfl ?_
 refine Se rfl rfl rfl ?_
 refine Se rfl rfl rfl ?_
 have hqap := hT.size
 refine as_h rfl (h_allocO (z := (.agg #[(.pointer none)])) hs2.sat (by kernel_rfl) rfl fun bp w3 hs3 hop ep => ?_)
 have h:=h.mono hs3.le
 have hn:=hn.mono hs3.le
 have hT:=hT.then hs3
 have hz3 := hs3.size
 have hlp := hop.1.lt
 refine as_h0 (h_store hs3.sat hop rfl rfl rfl (by kernel_rfl) rfl rfl rfl fun w4 hs4 hn4 => ?_)
 have h:=h.mono hs4.le
 have hn:=hn.mono hs4.le
 clear hop; have hop := hn4; clear hn4
 have hT:=hT.own hs4 (by omega)
 have hz4 := hs4.size
 refine Sa rfl rfl ?_
 refine as_nil (κ _ _ ?_)
 refine cw_rs fun _ κ => ?_
 refine Sc 1 rfl (by kernel_rfl) rfl (by exact Blk.cells hop.1 rfl) ?_
 refine as_q rfl rfl (q_build (zs := [(.pointer none)]) (places := [(0, 1)]) (cs := [_]) (by kernel_rfl) (by kernel_rfl) rfl rfl) ?_
 refine as_q rfl rfl (q_iface (by kernel_rfl) rfl) ?_
 refine Sa rfl rfl ?_
 refine as_nil (κ _ _ ?_)
 refine cw_ret ?_
 exact ⟨_, (res_tmp rfl res_nil), _, _, rfl, hT, hn⟩
theorem wf_pop2 {w : World} {M : Mem} {x y : El} {bs : List Bt} {ks ts us : List (RT Bt)} {q : Option Addr} (hs : Sat M w) (h : BRep 296 330 332 M (.node x ts) q) (ht : ts[leastN ltB (ts.map RT.root) (ts.length - 1)]? = some (.node (.node y us) bs ks)) (hz : RT.sizes ts ≤ 1000000000) (hzm : RT.sizes us + RT.sizes (spop ltB ts (.node (.node y us) bs ks)) ≤ 1000000000) :
  Does Tryz.prog 264 #[.agg #[.pointer q], .pointer none] w (fun v w' => ∃ q M', v = .iface 95 (.agg #[.pointer q]) ∧ Step Nope M w M' w' ∧ BRep 296 330 332 M' (Bt.popped ts (.node (.node y us) bs ks) y us) q) := by
 have hT := Step.refl Nope hs
 refine fn_enter Tryz.func264 rfl (rs := [.tmp 4]) rfl rfl rfl rfl ?_
 refine cw_rs fun _ κ => ?_
 refine as_h rfl (h_boxM hs rfl rfl fun b1 M1 w1 hs1 hb1 e1 => ?_)
 have h:=h.mono hs1.le
 have hT:=hT.then hs1
 have hz1 := hs1.size
 refine Sa rfl rfl ?_
 refine as_nil (κ _ _ ?_)
 refine cw_rs fun _ κ => ?_
 refine Sf 0 rfl (by kernel_rfl) rfl ?_
 refine Sc 1 rfl (by kernel_rfl) rfl (by exact BlkR.cells (hs1.sat _ _ _ hb1) rfl) ?_
 refine as_q rfl rfl (q_iface (by kernel_rfl) rfl) ?_
 refine Sm rfl rfl ?_
 refine as_h rfl (h_invoke (f := 220) (r := .agg #[.pointer q]) (by kernel_rfl) rfl rfl (by kernel_rfl) ?_)
 refine (bo_pop_2 hs1.sat h ht hz hzm).mono ?_
 rintro _ w2 ⟨qn, Mn, rfl, hs2, hn⟩
 have h:=h.mono hs2.le
 have hT:=hT.then hs2
 have hz2 := hs2.size
 refine Sm rfl rfl ?_
 refine Se rfl rfl rfl ?_
 refine Se rfl rfl rfl ?_
 have hqap := hT.size
 refine as_h rfl (h_allocO (z := (.agg #[(.pointer none)])) hs2.sat (by kernel_rfl) rfl fun bp w3 hs3 hop ep => ?_)
 have h:=h.mono hs3.le
 have hn:=hn.mono hs3.le
 have hT:=hT.then hs3
 have hz3 := hs3.size
 have hlp := hop.1.lt
 refine as_h0 (h_store hs3.sat hop rfl rfl rfl (by kernel_rfl) rfl rfl rfl fun w4 hs4 hn4 => ?_)
 have h:=h.mono hs4.le
 have hn:=hn.mono hs4.le
 clear hop; have hop := hn4; clear hn4
 have hT:=hT.own hs4 (by omega)
 have hz4 := hs4.size
 refine Sa rfl rfl ?_
 refine as_nil (κ _ _ ?_)
 refine cw_rs fun _ κ => ?_
 refine Sc 1 rfl (by kernel_rfl) rfl (by exact Blk.cells hop.1 rfl) ?_
 refine as_q rfl rfl (q_build (zs := [(.pointer none)]) (places := [(0, 1)]) (cs := [_]) (by kernel_rfl) (by kernel_rfl) rfl rfl) ?_
 refine as_q rfl rfl (q_iface (by kernel_rfl) rfl) ?_
 refine Sa rfl rfl ?_
 refine as_nil (κ _ _ ?_)
 refine cw_ret ?_
 exact ⟨_, (res_tmp rfl res_nil), _, _, rfl, hT, hn⟩
theorem wf_size {w : World} {M : Mem} {t : Bt} {q : Option Addr} (hs : Sat M w) (h : BRep 296 330 332 M t q) (hz : Bt.cnt 1 t ≤ 1000000000) :
  Does Tryz.prog 266 #[.agg #[.pointer q]] w (fun v w' => v = .int .i64 (Bt.cnt 0 t : Nat) ∧ Step Nope M w M w') := by
 have hT := Step.refl Nope hs
 refine fn_enter Tryz.func266 rfl (rs := [.tmp 2]) rfl rfl rfl rfl ?_
 refine cw_rs fun _ κ => ?_
 refine as_h rfl (h_boxM hs rfl rfl fun b1 M1 w1 hs1 hb1 e1 => ?_)
 have h:=h.mono hs1.le
 have hT:=hT.then hs1
 refine Sa rfl rfl ?_
 refine as_nil (κ _ _ ?_)
 refine cw_rs fun _ κ => ?_
 refine Sf 0 rfl (by kernel_rfl) rfl ?_
 refine Sc 1 rfl (by kernel_rfl) rfl (by exact BlkR.cells (hs1.sat _ _ _ hb1) rfl) ?_
 refine as_q rfl rfl (q_iface (by kernel_rfl) rfl) ?_
 refine as_h rfl (h_invoke (f := 222) (r := .agg #[.pointer q]) (by kernel_rfl) rfl rfl (by kernel_rfl) ?_)
 refine (bo_size hs1.sat h hz).mono ?_
 rintro _ w2 ⟨rfl, hs2⟩
 have h:=h.mono hs2.le
 have hT:=hT.then hs2
 refine Sa rfl rfl ?_
 refine as_nil (κ _ _ ?_)
 refine cw_ret ?_
 exact ⟨_, (res_tmp rfl res_nil), rfl, hT.forget⟩
end Go.Proofs.YtgcgjpfjjgalmaaGreat
/- Heaps of any kind, by their elements in order, part 1. -/
namespace Go.Proofs.YtgcgjpfjjgalmaaGreat
open Go Go.Eng
inductive HVal (M : Mem) : Nat → List El → Value → Prop where
 | z : HVal M 0 [] .nilIface
 | a {t : Lft} {q : Option Addr} {l : List El} (h : LRep 171 M t (.pointer q)) (hok : t.ok) (hl : l = srtE (t.els)) : HVal M 1 l (.iface 69 (.agg #[.pointer q]))
 | b {t : List (RT El)} {q : Option Addr} {l : List El} (h : FRep 197 220 2 EncE M t q) (hok : RT.oks ltE t ∧ RT.nobs t) (hl : l = srtE (RT.alls t)) : HVal M 2 l (.iface 76 (.agg #[.pointer q]))
 | c {t : Pr} {q : Option Addr} {l : List El} (h : PRep 251 260 M t q) (hok : t.ok) (hl : l = srtE (t.els)) : HVal M 3 l (.iface 81 (.agg #[.pointer q]))
 | d {t : List (RT El)} {q : Option Addr} {l : List El} (h : FRep 197 220 2 EncE M t q) (hok : RT.oks ltE t) (hl : l = srtE (RT.alls t)) : HVal M 4 l (.iface 85 (.agg #[.pointer q]))
 | e {t : Ro} {q : Option Addr} {l : List El} (h : RoRep 283 197 220 M t q) (hok : t.ok) (hl : l = srtE (t.els)) : HVal M 5 l (.iface 90 (.agg #[.pointer q]))
 | f {t : Bt} {q : Option Addr} {l : List El} (h : BRep 296 330 332 M t q) (hok : t.ok) (hl : l = srtE (t.els)) : HVal M 6 l (.iface 95 (.agg #[.pointer q]))
theorem HVal.mono {M M' : Mem} (k : Le M M') {n : Nat} {l : List El} {v : Value} (h : HVal M n l v) : HVal M' n l v := by
 cases h with
 | z => exact .z
 | a h hok hl => exact .a (h.mono k) hok hl
 | b h hok hl => exact .b (h.mono' EncE.mono k) hok hl
 | c h hok hl => exact .c (h.mono k) hok hl
 | d h hok hl => exact .d (h.mono' EncE.mono k) hok hl
 | e h hok hl => exact .e (h.mono k) hok hl
 | f h hok hl => exact .f (h.mono k) hok hl
theorem HVal.kind {M : Mem} {n : Nat} {l : List El} {v : Value} (h : HVal M n l v) : n ≤ 6 := by cases h <;> omega
theorem els_put {x : El} {l r : List El} (h : r.Perm (x :: l)) : putE (srtE l) x = srtE r := by rw [← srtE_put]; exact srtE_congr h.symm
theorem els_pop {x y : El} {l r s : List El} (h : x :: l = srtE r) (hp : r.Perm (y :: s)) (hg : AllGe y s) : x = y ∧ l = srtE s := by
 rw [srtE_congr hp, srtE_cons hg] at h
 exact ⟨(List.cons.inj h).1, (List.cons.inj h).2⟩
theorem els_none {x : El} {l : List El} {p : Prop} (h : x :: l = srtE []) : p := by cases h
theorem hv_insert {w : World} {M : Mem} {k : Nat} {l : List El} {v : Value} {x : El} (hs : Sat M w) (h : HVal M k l v) (hk : k ≠ 0) (hz : l.length < 1000000000) :
  ∃ (tid : TypeId) (u : Value) (f : FuncId) (r : Value), v = .iface tid u ∧ callable Tryz.prog f = true ∧ (∀ w, (method (Tryz.prog.types.size + Made.depth) tid u "slagheap/heap.insert").run Tryz.prog w = .ok (f, r) w) ∧
   Does Tryz.prog f #[r, .pointer none, .agg (elc x).toArray] w (fun v' w' => ∃ M', Step Nope M w M' w' ∧ HVal M' k (putE l x) v') := by
 cases h with
 | z => exact absurd rfl hk
 | @a t q _ h hok hl =>
  subst hl
  rw [srtE_length] at hz
  exact ⟨69, .agg #[.pointer _], 90, .agg #[.pointer _], rfl, by kernel_rfl, fun _ => by kernel_rfl, (wa_insert hs h (by rw [← t.els_size]; exact hz)).mono fun v' w' ⟨q', M', h1, h2, h3⟩ => ⟨M', h2, by subst h1; exact .a h3 (Lft.insert_ok x t hok) (els_put (Lft.insert_els x t))⟩⟩
 | @b t q _ h hok hl =>
  subst hl
  rw [srtE_length] at hz
  exact ⟨76, .agg #[.pointer _], 155, .agg #[.pointer _], rfl, by kernel_rfl, fun _ => by kernel_rfl, (wb_insert hs h (by rw [← RT.alls_length]; exact hz)).mono fun v' w' ⟨q', M', h1, h2, h3⟩ => ⟨M', h2, by subst h1; exact .b h3 (⟨bput_oks swoE (RT.leaf_ok x) hok.1, bput_nobs ⟨rfl, trivial⟩ hok.2⟩) (els_put (bput_alls t (RT.leaf x)))⟩⟩
 | @c t q _ h hok hl =>
  subst hl
  rw [srtE_length] at hz
  exact ⟨81, .agg #[.pointer _], 176, .agg #[.pointer _], rfl, by kernel_rfl, fun _ => by kernel_rfl, (wc_insert hs h (by rw [← t.els_size]; exact hz)).mono fun v' w' ⟨q', M', h1, h2, h3⟩ => ⟨M', h2, by subst h1; exact .c h3 (Pr.insert_ok x t hok) (els_put (Pr.insert_els x t))⟩⟩
 | @d t q _ h hok hl =>
  subst hl
  rw [srtE_length] at hz
  exact ⟨85, .agg #[.pointer _], 197, .agg #[.pointer _], rfl, by kernel_rfl, fun _ => by kernel_rfl, (wd_insert hs h (by rw [← RT.alls_length]; exact hz)).mono fun v' w' ⟨q', M', h1, h2, h3⟩ => ⟨M', h2, by subst h1; exact .d h3 (sinsert_oks swoE hok) (els_put (sinsert_alls x t))⟩⟩
 | @e t q _ h hok hl =>
  subst hl
  rw [srtE_length] at hz
  exact ⟨90, .agg #[.pointer _], 210, .agg #[.pointer _], rfl, by kernel_rfl, fun _ => by kernel_rfl, (we_insert hs h (by rw [← t.els_size]; exact hz)).mono fun v' w' ⟨q', M', h1, h2, h3⟩ => ⟨M', h2, by subst h1; exact .e h3 (Ro.insert_ok x hok) (els_put (Ro.insert_els x t))⟩⟩
 | @f t q _ h hok hl =>
  subst hl
  rw [srtE_length] at hz
  exact ⟨95, .agg #[.pointer _], 261, .agg #[.pointer _], rfl, by kernel_rfl, fun _ => by kernel_rfl, (wf_insert hs h (Nat.lt_of_le_of_lt (Bt.queue_els hok) hz)).mono fun v' w' ⟨q', M', h1, h2, h3⟩ => ⟨M', h2, by subst h1; exact .f h3 (Bt.insert_ok x hok) (els_put (Bt.insert_els x t))⟩⟩
theorem cnt0_els {t : Bt} (h : t.ok) : Bt.cnt 0 t = t.els.length := by
 cases t with
 | nil => rfl
 | node x ts => exact Bt.cnt_els 0 _ (by simp) h
theorem cnt1_le {t : Bt} (h : t.ok) (hz : t.els.length < 1000000000) : Bt.cnt 1 t ≤ 1000000000 := by
 cases t with
 | nil => decide
 | node x ts => rw [Bt.cnt_els 1 _ (by simp) h]; omega
theorem hv_size {w : World} {M : Mem} {k : Nat} {l : List El} {v : Value} (hs : Sat M w) (h : HVal M k l v) (hk : k ≠ 0) (hz : l.length < 1000000000) :
  ∃ (tid : TypeId) (u : Value) (f : FuncId) (r : Value), v = .iface tid u ∧ callable Tryz.prog f = true ∧ (∀ w, (method (Tryz.prog.types.size + Made.depth) tid u "slagheap/heap.size").run Tryz.prog w = .ok (f, r) w) ∧
   Does Tryz.prog f #[r] w (fun v' w' => v' = .int .i64 (l.length : Nat) ∧ Step Nope M w M w') := by
 cases h with
 | z => exact absurd rfl hk
 | @a t q _ h hok hl =>
  subst hl
  rw [srtE_length] at hz ⊢
  exact ⟨69, .agg #[.pointer _], 95, .agg #[.pointer _], rfl, by kernel_rfl, fun _ => by kernel_rfl, (wa_size hs h ).mono fun v' w' ⟨h1, h2⟩ => ⟨by rw [h1, t.els_size], h2⟩⟩
 | @b t q _ h hok hl =>
  subst hl
  rw [srtE_length] at hz ⊢
  exact ⟨76, .agg #[.pointer _], 160, .agg #[.pointer _], rfl, by kernel_rfl, fun _ => by kernel_rfl, (wb_size hs h (by rw [← RT.alls_length]; omega)).mono fun v' w' ⟨h1, h2⟩ => ⟨by rw [h1, RT.alls_length t], h2⟩⟩
 | @c t q _ h hok hl =>
  subst hl
  rw [srtE_length] at hz ⊢
  exact ⟨81, .agg #[.pointer _], 181, .agg #[.pointer _], rfl, by kernel_rfl, fun _ => by kernel_rfl, (wc_size hs h ).mono fun v' w' ⟨h1, h2⟩ => ⟨by rw [h1, t.els_size], h2⟩⟩
 | @d t q _ h hok hl =>
  subst hl
  rw [srtE_length] at hz ⊢
  exact ⟨85, .agg #[.pointer _], 202, .agg #[.pointer _], rfl, by kernel_rfl, fun _ => by kernel_rfl, (wd_size hs h (by rw [← RT.alls_length]; omega)).mono fun v' w' ⟨h1, h2⟩ => ⟨by rw [h1, RT.alls_length t], h2⟩⟩
 | @e t q _ h hok hl =>
  subst hl
  rw [srtE_length] at hz ⊢
  exact ⟨90, .agg #[.pointer _], 215, .agg #[.pointer _], rfl, by kernel_rfl, fun _ => by kernel_rfl, (we_size hs h (by rw [← t.els_size]; omega)).mono fun v' w' ⟨h1, h2⟩ => ⟨by rw [h1, t.els_size], h2⟩⟩
 | @f t q _ h hok hl =>
  subst hl
  rw [srtE_length] at hz ⊢
  exact ⟨95, .agg #[.pointer _], 266, .agg #[.pointer _], rfl, by kernel_rfl, fun _ => by kernel_rfl, (wf_size hs h (cnt1_le hok hz)).mono fun v' w' ⟨h1, h2⟩ => ⟨by rw [h1, (cnt0_els hok).symm], h2⟩⟩
end Go.Proofs.YtgcgjpfjjgalmaaGreat
/- Heaps of any kind, by their elements in order, part 2. -/
namespace Go.Proofs.YtgcgjpfjjgalmaaGreat
open Go Go.Eng
theorem hv_min {w : World} {M : Mem} {k : Nat} {x : El} {l : List El} {v : Value} (hs : Sat M w) (h : HVal M k (x :: l) v) (hz : (x :: l).length < 1000000000) :
  ∃ (tid : TypeId) (u : Value) (f : FuncId) (r : Value), v = .iface tid u ∧ callable Tryz.prog f = true ∧ (∀ w, (method (Tryz.prog.types.size + Made.depth) tid u "slagheap/heap.min").run Tryz.prog w = .ok (f, r) w) ∧
   Does Tryz.prog f #[r, .pointer none] w (fun v' w' => v' = .tuple #[.agg (elc x).toArray, .bool true] ∧ Step Nope M w M w') := by
 generalize hxl : x :: l = xl at h hz
 cases h with
 | z => cases hxl
 | @a t q _ h hok hl =>
  subst hl
  cases t with
  | nil => exact els_none hxl
  | node y tl tr =>
   have he := els_pop hxl (.refl _) hok.1
   exact ⟨69, .agg #[.pointer _], 92, .agg #[.pointer _], rfl, by kernel_rfl, fun _ => by kernel_rfl, (wa_min hs h).mono fun v' w' ⟨h1, h2⟩ => ⟨by rw [h1, he.1], h2⟩⟩
 | @b t q _ h hok hl =>
  subst hl
  rw [srtE_length] at hz
  have hne : t ≠ [] := by rintro rfl; exact els_none hxl
  obtain ⟨k, hk⟩ := least_is (lt := ltE) hne
  have hg := least_tree swoE hok.1 hk
  have hp := alls_out hk
  have he := els_pop hxl hp (fun y hy => hg y (hp.mem_iff.2 (List.mem_cons_of_mem _ hy)))
  exact ⟨76, .agg #[.pointer _], 157, .agg #[.pointer _], rfl, by kernel_rfl, fun _ => by kernel_rfl, (wb_min hs h hk (by rw [← RT.alls_length]; omega)).mono fun v' w' ⟨h1, h2⟩ => ⟨by rw [h1, he.1], h2⟩⟩
 | @c t q _ h hok hl =>
  subst hl
  cases t with
  | nil => exact els_none hxl
  | node y ks =>
   have he := els_pop hxl (by simp only [Pr.els]; exact .refl _) (by simp only [Pr.ok] at hok; exact hok.1)
   exact ⟨81, .agg #[.pointer _], 178, .agg #[.pointer _], rfl, by kernel_rfl, fun _ => by kernel_rfl, (wc_min hs h).mono fun v' w' ⟨h1, h2⟩ => ⟨by rw [h1, he.1], h2⟩⟩
 | @d t q _ h hok hl =>
  subst hl
  rw [srtE_length] at hz
  have hne : t ≠ [] := by rintro rfl; exact els_none hxl
  obtain ⟨k, hk⟩ := least_is (lt := ltE) hne
  have hg := least_tree swoE hok hk
  have hp := alls_out hk
  have he := els_pop hxl hp (fun y hy => hg y (hp.mem_iff.2 (List.mem_cons_of_mem _ hy)))
  exact ⟨85, .agg #[.pointer _], 199, .agg #[.pointer _], rfl, by kernel_rfl, fun _ => by kernel_rfl, (wd_min hs h hk (by rw [← RT.alls_length]; omega)).mono fun v' w' ⟨h1, h2⟩ => ⟨by rw [h1, he.1], h2⟩⟩
 | @e t q _ h hok hl =>
  subst hl
  cases t with
  | nil => exact els_none hxl
  | node y ts =>
   have he := els_pop hxl (.refl _) hok.1
   exact ⟨90, .agg #[.pointer _], 212, .agg #[.pointer _], rfl, by kernel_rfl, fun _ => by kernel_rfl, (we_min hs h).mono fun v' w' ⟨h1, h2⟩ => ⟨by rw [h1, he.1], h2⟩⟩
 | @f t q _ h hok hl =>
  subst hl
  cases t with
  | nil => exact els_none (by simpa only [Bt.els] using hxl)
  | node y ts =>
   have he := els_pop hxl (by simp only [Bt.els]; exact .refl _) (by simp only [Bt.ok] at hok; exact hok.1)
   exact ⟨95, .agg #[.pointer _], 263, .agg #[.pointer _], rfl, by kernel_rfl, fun _ => by kernel_rfl, (wf_min hs h).mono fun v' w' ⟨h1, h2⟩ => ⟨by rw [h1, he.1], h2⟩⟩
theorem hv_pop {w : World} {M : Mem} {k : Nat} {x : El} {l : List El} {v : Value} (hs : Sat M w) (h : HVal M k (x :: l) v) (hz : (x :: l).length < 1000000000) :
  ∃ (tid : TypeId) (u : Value) (f : FuncId) (r : Value), v = .iface tid u ∧ callable Tryz.prog f = true ∧ (∀ w, (method (Tryz.prog.types.size + Made.depth) tid u "slagheap/heap.pop").run Tryz.prog w = .ok (f, r) w) ∧
   Does Tryz.prog f #[r, .pointer none] w (fun v' w' => ∃ M', Step Nope M w M' w' ∧ HVal M' k l v') := by
 generalize hxl : x :: l = xl at h hz
 cases h with
 | z => cases hxl
 | @a t q _ h hok hl =>
  subst hl
  rw [srtE_length] at hz
  cases t with
  | nil => exact els_none hxl
  | node y tl tr =>
   have he := els_pop hxl (.refl _) hok.1
   exact ⟨69, .agg #[.pointer _], 93, .agg #[.pointer _], rfl, by kernel_rfl, fun _ => by kernel_rfl, (wa_pop hs h (by rw [← Lft.els_size]; omega)).mono fun v' w' ⟨q', M', h1, h2, h3⟩ => ⟨M', h2, by subst h1; exact .a h3 (Lft.meld_ok _ _ hok.2.1 hok.2.2) (by rw [he.2]; exact srtE_congr (Lft.meld_els tl tr).symm)⟩⟩
 | @b t q _ h hok hl =>
  subst hl
  rw [srtE_length] at hz
  have hne : t ≠ [] := by rintro rfl; exact els_none hxl
  obtain ⟨k, hk⟩ := least_is (lt := ltE) hne
  have hg := least_tree swoE hok.1 hk
  cases k with
  | node z bs ks =>
    have hnb := nobs_get hok.2 hk
    have hp := bpop_alls (k := .node z bs ks) hnb.1 hk
    have he := els_pop hxl hp (fun y hy => hg y (hp.mem_iff.2 (List.mem_cons_of_mem _ hy)))
    exact ⟨76, .agg #[.pointer _], 158, .agg #[.pointer _], rfl, by kernel_rfl, fun _ => by kernel_rfl, (wb_pop hs h hk (by rw [← RT.alls_length]; omega)).mono fun v' w' ⟨q', M', h1, h2, h3⟩ => ⟨M', h2, by subst h1; exact .b h3 (⟨bpop_oks swoE hok.1 hk, bpop_nobs hok.2 hk⟩) (he.2)⟩⟩
 | @c t q _ h hok hl =>
  subst hl
  rw [srtE_length] at hz
  cases t with
  | nil => exact els_none hxl
  | node y ks =>
   have hok' : AllGe y (Pr.elsL ks) ∧ Pr.okL ks := by simpa only [Pr.ok] using hok
   have he := els_pop hxl (by simp only [Pr.els]; exact .refl _) hok'.1
   exact ⟨81, .agg #[.pointer _], 179, .agg #[.pointer _], rfl, by kernel_rfl, fun _ => by kernel_rfl, (wc_pop hs h (by rw [← Pr.els_size]; omega)).mono fun v' w' ⟨q', M', h1, h2, h3⟩ => ⟨M', h2, by subst h1; exact .c h3 (Pr.pair_ok hok'.2) (by rw [he.2]; exact srtE_congr (Pr.pair_els ks).symm)⟩⟩
 | @d t q _ h hok hl =>
  subst hl
  rw [srtE_length] at hz
  have hne : t ≠ [] := by rintro rfl; exact els_none hxl
  obtain ⟨k, hk⟩ := least_is (lt := ltE) hne
  have hg := least_tree swoE hok hk
  cases k with
  | node z bs ks =>
    have hp := spop_alls hk
    have he := els_pop hxl hp (fun y hy => hg y (hp.mem_iff.2 (List.mem_cons_of_mem _ hy)))
    exact ⟨85, .agg #[.pointer _], 200, .agg #[.pointer _], rfl, by kernel_rfl, fun _ => by kernel_rfl, (wd_pop hs h hk (by rw [← RT.alls_length]; omega)).mono fun v' w' ⟨q', M', h1, h2, h3⟩ => ⟨M', h2, by subst h1; exact .d h3 (spop_oks swoE hok hk) (he.2)⟩⟩
 | @e t q _ h hok hl =>
  subst hl
  rw [srtE_length] at hz
  cases t with
  | nil => exact els_none hxl
  | node y ts =>
   have he := els_pop hxl (.refl _) hok.1
   by_cases hne : ts = []
   ·
    subst hne
    exact ⟨90, .agg #[.pointer _], 213, .agg #[.pointer _], rfl, by kernel_rfl, fun _ => by kernel_rfl, (we_pop1 hs h).mono fun v' w' ⟨q', M', h1, h2, h3⟩ => ⟨M', h2, by subst h1; exact .e h3 (trivial) (he.2)⟩⟩
   ·
    obtain ⟨k, hk⟩ := least_is (lt := ltE) hne
    cases k with
    | node z bs ks =>
     have hg := least_tree swoE hok.2 hk
     have hp := spop_alls hk
     exact ⟨90, .agg #[.pointer _], 213, .agg #[.pointer _], rfl, by kernel_rfl, fun _ => by kernel_rfl, (we_pop2 hs h hk (by simp only [Ro.els, List.length_cons, RT.alls_length] at hz; omega)).mono fun v' w' ⟨q', M', h1, h2, h3⟩ => ⟨M', h2, by subst h1; exact .e h3 (⟨fun w hw => hg w (hp.mem_iff.2 (List.mem_cons_of_mem _ hw)), spop_oks swoE hok.2 hk⟩) (by rw [he.2]; exact srtE_congr hp)⟩⟩
 | @f t q _ h hok hl =>
  subst hl
  rw [srtE_length] at hz
  cases t with
  | nil => exact els_none (by simpa only [Bt.els] using hxl)
  | node y ts =>
   have hok' : AllGe y (Bt.elsQ ts) ∧ RT.oks ltB ts ∧ Bt.okQ ts := by simpa only [Bt.ok] using hok
   have he := els_pop hxl (by simp only [Bt.els]; exact .refl _) hok'.1
   by_cases hne : ts = []
   ·
    subst hne
    exact ⟨95, .agg #[.pointer _], 264, .agg #[.pointer _], rfl, by kernel_rfl, fun _ => by kernel_rfl, (wf_pop1 hs h).mono fun v' w' ⟨q', M', h1, h2, h3⟩ => ⟨M', h2, by subst h1; exact .f h3 (trivial) (by rw [he.2]; simp only [Bt.els, Bt.elsQ])⟩⟩
   ·
    obtain ⟨k, hk⟩ := least_is (lt := ltB) hne
    have hqs := Bt.queue_els hok
    simp only [Bt.queue] at hqs
    cases k with
    | node z bs ks =>
     have hp := spop_alls hk
     have hzok := (Bt.okL_iff _).1 ((Bt.okQ_alls ts).2 hok'.2.2) z (hp.mem_iff.2 (List.mem_cons_self ..))
     cases z with
     | nil => exact absurd rfl hzok.1
     | node z us =>
      have hpo := Bt.popped_ok hok hk rfl
      have hpe := Bt.popped_els (x := y) hk rfl
      have hpz := Bt.queue_els hpo
      have hpl := hpe.length_eq
      simp only [List.length_cons] at hpl
      simp only [Bt.popped, Bt.queue, smeld_size] at hpz
      exact ⟨95, .agg #[.pointer _], 264, .agg #[.pointer _], rfl, by kernel_rfl, fun _ => by kernel_rfl, (wf_pop2 hs h hk (by omega) (by simp only [Bt.popped] at hpl; omega)).mono fun v' w' ⟨q', M', h1, h2, h3⟩ => ⟨M', h2, by subst h1; exact .f h3 (hpo) (by rw [he.2]; exact srtE_congr (List.Perm.cons_inv (by simpa only [Bt.els] using hpe)))⟩⟩
end Go.Proofs.YtgcgjpfjjgalmaaGreat
/- The calls of heap, part 1. -/
namespace Go.Proofs.YtgcgjpfjjgalmaaGreat
open Go Go.Eng
theorem HVal.iface {M : Mem} {k : Nat} {l : List El} {v : Value} (h : HVal M k l v) (hk : k ≠ 0) : ∃ d u, v = .iface d u := by
 cases h with
 | z => exact absurd rfl hk
 | a h hok hl => exact ⟨_, _, rfl⟩
 | b h hok hl => exact ⟨_, _, rfl⟩
 | c h hok hl => exact ⟨_, _, rfl⟩
 | d h hok hl => exact ⟨_, _, rfl⟩
 | e h hok hl => exact ⟨_, _, rfl⟩
 | f h hok hl => exact ⟨_, _, rfl⟩
theorem HVal.zero {M : Mem} {l : List El} {v : Value} (h : HVal M 0 l v) : l = [] ∧ v = .nilIface := by
 cases h; exact ⟨rfl, rfl⟩
def fullE (k : Nat) (l : List El) : Int := if k = 0 then 22 else if l = [] then 23 else 0
def insL (k : Nat) (l : List El) (x : El) : List El := if k = 0 then [] else putE l x
def insE (k : Nat) : Int := if k = 0 then 22 else 0
def popK (k : Nat) (l : List El) : Nat := if l = [] then 0 else k
def emK (z : Int) : Nat := if 1 ≤ z ∧ z ≤ 6 then z.toNat else 0
def emE (z : Int) : Int := if 1 ≤ z ∧ z ≤ 6 then 0 else 22
def ofL (z : Int) (l : List El) : List El := if 1 ≤ z ∧ z ≤ 6 then srtE l else []
theorem hp_kind_z {w : World} {M : Mem} (hs : Sat M w) :
  Does Tryz.prog 30 #[.agg #[.nilIface]] w (fun r w' => r = .int .i64 (0 : Nat) ∧ Step Nope M w M w') := by
 have hT := Step.refl Nope hs
 refine fn_enter Tryz.func30 rfl (rs := [.tmp 2]) rfl rfl rfl rfl ?_
 refine cw_rs fun _ κ => ?_
 refine as_h rfl (h_boxM hs rfl rfl fun b1 M1 w1 hs1 hb1 e1 => ?_)
 have hT:=hT.then hs1
 refine Sa rfl rfl ?_
 refine as_nil (κ _ _ ?_)
 refine cw_seq fun _ hK2 => ?_
 refine cw_rs fun _ κ => ?_
 refine Sf 0 rfl (by kernel_rfl) rfl ?_
 refine S1 rfl (by kernel_rfl) rfl (by exact BlkR.cell (hs1.sat _ _ _ hb1) rfl) ?_
 refine as_nil (κ _ _ ?_)
 refine cw_block ?_
 refine cw_rs fun _ κ => ?_
 refine as_q rfl rfl (q_isNil (r := .agg #[.pointer none]) (by kernel_rfl) (by kernel_rfl) rfl) ?_
 refine Se rfl rfl rfl ?_
 refine Se rfl rfl rfl ?_
 refine as_nil (κ _ _ ?_)
 refine cw_false rfl ?_
 refine cw_rs fun _ κ => ?_
 refine as_q rfl rfl (q_isNil (r := .agg #[.pointer none]) (by kernel_rfl) (by kernel_rfl) rfl) ?_
 refine Se rfl rfl rfl ?_
 refine Se rfl rfl rfl ?_
 refine as_nil (κ _ _ ?_)
 refine cw_false rfl ?_
 refine cw_rs fun _ κ => ?_
 refine as_q rfl rfl (q_isNil (r := .agg #[.pointer none]) (by kernel_rfl) (by kernel_rfl) rfl) ?_
 refine Se rfl rfl rfl ?_
 refine Se rfl rfl rfl ?_
 refine as_nil (κ _ _ ?_)
 refine cw_false rfl ?_
 refine cw_rs fun _ κ => ?_
 refine as_q rfl rfl (q_isNil (r := .agg #[.pointer none]) (by kernel_rfl) (by kernel_rfl) rfl) ?_
 refine Se rfl rfl rfl ?_
 refine Se rfl rfl rfl ?_
 refine as_nil (κ _ _ ?_)
 refine cw_false rfl ?_
 refine cw_rs fun _ κ => ?_
 refine as_q rfl rfl (q_isNil (r := .agg #[.pointer none]) (by kernel_rfl) (by kernel_rfl) rfl) ?_
 refine Se rfl rfl rfl ?_
 refine Se rfl rfl rfl ?_
 refine as_nil (κ _ _ ?_)
 refine cw_false rfl ?_
 refine cw_rs fun _ κ => ?_
 refine as_q rfl rfl (q_isNil (r := .agg #[.pointer none]) (by kernel_rfl) (by kernel_rfl) rfl) ?_
 refine Se rfl rfl rfl ?_
 refine Se rfl rfl rfl ?_
 refine as_nil (κ _ _ ?_)
 refine cw_false rfl ?_
 refine cw_skip ?_
 refine hK2 _ _ ?_
 refine cw_rs fun _ κ => ?_
 refine Sa rfl rfl ?_
 refine as_nil (κ _ _ ?_)
 refine cw_ret ?_
 exact ⟨_, (res_tmp rfl res_nil), rfl, hT.forget⟩
theorem hp_kind_a {w : World} {M : Mem} {q : Option Addr} (hs : Sat M w) :
  Does Tryz.prog 30 #[.agg #[.iface 69 (.agg #[.pointer q])]] w (fun r w' => r = .int .i64 (1 : Nat) ∧ Step Nope M w M w') := by
 have hT := Step.refl Nope hs
 refine fn_enter Tryz.func30 rfl (rs := [.tmp 2]) rfl rfl rfl rfl ?_
 refine cw_rs fun _ κ => ?_
 refine as_h rfl (h_boxM hs rfl rfl fun b1 M1 w1 hs1 hb1 e1 => ?_)
 have hT:=hT.then hs1
 refine Sa rfl rfl ?_
 refine as_nil (κ _ _ ?_)
 refine cw_seq fun _ hK2 => ?_
 refine cw_rs fun _ κ => ?_
 refine Sf 0 rfl (by kernel_rfl) rfl ?_
 refine S1 rfl (by kernel_rfl) rfl (by exact BlkR.cell (hs1.sat _ _ _ hb1) rfl) ?_
 refine as_nil (κ _ _ ?_)
 refine cw_block ?_
 refine cw_rs fun _ κ => ?_
 refine as_q rfl rfl (q_isT (by kernel_rfl) rfl) ?_
 refine Se rfl rfl rfl ?_
 refine Se rfl rfl rfl ?_
 refine as_nil (κ _ _ ?_)
 refine cw_true rfl ?_
 refine cw_rs fun _ κ => ?_
 refine Sa rfl rfl ?_
 refine as_nil (κ _ _ ?_)
 refine cw_ret ?_
 exact ⟨_, (res_tmp rfl res_nil), rfl, hT.forget⟩
theorem hp_kind_b {w : World} {M : Mem} {q : Option Addr} (hs : Sat M w) :
  Does Tryz.prog 30 #[.agg #[.iface 76 (.agg #[.pointer q])]] w (fun r w' => r = .int .i64 (2 : Nat) ∧ Step Nope M w M w') := by
 have hT := Step.refl Nope hs
 refine fn_enter Tryz.func30 rfl (rs := [.tmp 2]) rfl rfl rfl rfl ?_
 refine cw_rs fun _ κ => ?_
 refine as_h rfl (h_boxM hs rfl rfl fun b1 M1 w1 hs1 hb1 e1 => ?_)
 have hT:=hT.then hs1
 refine Sa rfl rfl ?_
 refine as_nil (κ _ _ ?_)
 refine cw_seq fun _ hK2 => ?_
 refine cw_rs fun _ κ => ?_
 refine Sf 0 rfl (by kernel_rfl) rfl ?_
 refine S1 rfl (by kernel_rfl) rfl (by exact BlkR.cell (hs1.sat _ _ _ hb1) rfl) ?_
 refine as_nil (κ _ _ ?_)
 refine cw_block ?_
 refine cw_rs fun _ κ => ?_
 refine as_q rfl rfl (q_isF (r := .agg #[.pointer none]) (by kernel_rfl) (by kernel_rfl) rfl rfl) ?_
 refine Se rfl rfl rfl ?_
 refine Se rfl rfl rfl ?_
 refine as_nil (κ _ _ ?_)
 refine cw_false rfl ?_
 refine cw_rs fun _ κ => ?_
 refine as_q rfl rfl (q_isT (by kernel_rfl) rfl) ?_
 refine Se rfl rfl rfl ?_
 refine Se rfl rfl rfl ?_
 refine as_nil (κ _ _ ?_)
 refine cw_true rfl ?_
 refine cw_rs fun _ κ => ?_
 refine Sa rfl rfl ?_
 refine as_nil (κ _ _ ?_)
 refine cw_ret ?_
 exact ⟨_, (res_tmp rfl res_nil), rfl, hT.forget⟩
theorem hp_kind_c {w : World} {M : Mem} {q : Option Addr} (hs : Sat M w) :
  Does Tryz.prog 30 #[.agg #[.iface 81 (.agg #[.pointer q])]] w (fun r w' => r = .int .i64 (3 : Nat) ∧ Step Nope M w M w') := by
 have hT := Step.refl Nope hs
 refine fn_enter Tryz.func30 rfl (rs := [.tmp 2]) rfl rfl rfl rfl ?_
 refine cw_rs fun _ κ => ?_
 refine as_h rfl (h_boxM hs rfl rfl fun b1 M1 w1 hs1 hb1 e1 => ?_)
 have hT:=hT.then hs1
 refine Sa rfl rfl ?_
 refine as_nil (κ _ _ ?_)
 refine cw_seq fun _ hK2 => ?_
 refine cw_rs fun _ κ => ?_
 refine Sf 0 rfl (by kernel_rfl) rfl ?_
 refine S1 rfl (by kernel_rfl) rfl (by exact BlkR.cell (hs1.sat _ _ _ hb1) rfl) ?_
 refine as_nil (κ _ _ ?_)
 refine cw_block ?_
 refine cw_rs fun _ κ => ?_
 refine as_q rfl rfl (q_isF (r := .agg #[.pointer none]) (by kernel_rfl) (by kernel_rfl) rfl rfl) ?_
 refine Se rfl rfl rfl ?_
 refine Se rfl rfl rfl ?_
 refine as_nil (κ _ _ ?_)
 refine cw_false rfl ?_
 refine cw_rs fun _ κ => ?_
 refine as_q rfl rfl (q_isF (r := .agg #[.pointer none]) (by kernel_rfl) (by kernel_rfl) rfl rfl) ?_
 refine Se rfl rfl rfl ?_
 refine Se rfl rfl rfl ?_
 refine as_nil (κ _ _ ?_)
 refine cw_false rfl ?_
 refine cw_rs fun _ κ => ?_
 refine as_q rfl rfl (q_isT (by kernel_rfl) rfl) ?_
 refine Se rfl rfl rfl ?_
 refine Se rfl rfl rfl ?_
 refine as_nil (κ _ _ ?_)
 refine cw_true rfl ?_
 refine cw_rs fun _ κ => ?_
 refine Sa rfl rfl ?_
 refine as_nil (κ _ _ ?_)
 refine cw_ret ?_
 exact ⟨_, (res_tmp rfl res_nil), rfl, hT.forget⟩
theorem hp_kind_d {w : World} {M : Mem} {q : Option Addr} (hs : Sat M w) :
  Does Tryz.prog 30 #[.agg #[.iface 85 (.agg #[.pointer q])]] w (fun r w' => r = .int .i64 (4 : Nat) ∧ Step Nope M w M w') := by
 have hT := Step.refl Nope hs
 refine fn_enter Tryz.func30 rfl (rs := [.tmp 2]) rfl rfl rfl rfl ?_
 refine cw_rs fun _ κ => ?_
 refine as_h rfl (h_boxM hs rfl rfl fun b1 M1 w1 hs1 hb1 e1 => ?_)
 have hT:=hT.then hs1
 refine Sa rfl rfl ?_
 refine as_nil (κ _ _ ?_)
 refine cw_seq fun _ hK2 => ?_
 refine cw_rs fun _ κ => ?_
 refine Sf 0 rfl (by kernel_rfl) rfl ?_
 refine S1 rfl (by kernel_rfl) rfl (by exact BlkR.cell (hs1.sat _ _ _ hb1) rfl) ?_
 refine as_nil (κ _ _ ?_)
 refine cw_block ?_
 refine cw_rs fun _ κ => ?_
 refine as_q rfl rfl (q_isF (r := .agg #[.pointer none]) (by kernel_rfl) (by kernel_rfl) rfl rfl) ?_
 refine Se rfl rfl rfl ?_
 refine Se rfl rfl rfl ?_
 refine as_nil (κ _ _ ?_)
 refine cw_false rfl ?_
 refine cw_rs fun _ κ => ?_
 refine as_q rfl rfl (q_isF (r := .agg #[.pointer none]) (by kernel_rfl) (by kernel_rfl) rfl rfl) ?_
 refine Se rfl rfl rfl ?_
 refine Se rfl rfl rfl ?_
 refine as_nil (κ _ _ ?_)
 refine cw_false rfl ?_
 refine cw_rs fun _ κ => ?_
 refine as_q rfl rfl (q_isF (r := .agg #[.pointer none]) (by kernel_rfl) (by kernel_rfl) rfl rfl) ?_
 refine Se rfl rfl rfl ?_
 refine Se rfl rfl rfl ?_
 refine as_nil (κ _ _ ?_)
 refine cw_false rfl ?_
 refine cw_rs fun _ κ => ?_
 refine as_q rfl rfl (q_isT (by kernel_rfl) rfl) ?_
 refine Se rfl rfl rfl ?_
 refine Se rfl rfl rfl ?_
 refine as_nil (κ _ _ ?_)
 refine cw_true rfl ?_
 refine cw_rs fun _ κ => ?_
 refine Sa rfl rfl ?_
 refine as_nil (κ _ _ ?_)
 refine cw_ret ?_
 exact ⟨_, (res_tmp rfl res_nil), rfl, hT.forget⟩
theorem hp_kind_e {w : World} {M : Mem} {q : Option Addr} (hs : Sat M w) :
  Does Tryz.prog 30 #[.agg #[.iface 90 (.agg #[.pointer q])]] w (fun r w' => r = .int .i64 (5 : Nat) ∧ Step Nope M w M w') := by
 have hT := Step.refl Nope hs
 refine fn_enter Tryz.func30 rfl (rs := [.tmp 2]) rfl rfl rfl rfl ?_
 refine cw_rs fun _ κ => ?_
 refine as_h rfl (h_boxM hs rfl rfl fun b1 M1 w1 hs1 hb1 e1 => ?_)
 have hT:=hT.then hs1
 refine Sa rfl rfl ?_
 refine as_nil (κ _ _ ?_)
 refine cw_seq fun _ hK2 => ?_
 refine cw_rs fun _ κ => ?_
 refine Sf 0 rfl (by kernel_rfl) rfl ?_
 refine S1 rfl (by kernel_rfl) rfl (by exact BlkR.cell (hs1.sat _ _ _ hb1) rfl) ?_
 refine as_nil (κ _ _ ?_)
 refine cw_block ?_
 refine cw_rs fun _ κ => ?_
 refine as_q rfl rfl (q_isF (r := .agg #[.pointer none]) (by kernel_rfl) (by kernel_rfl) rfl rfl) ?_
 refine Se rfl rfl rfl ?_
 refine Se rfl rfl rfl ?_
 refine as_nil (κ _ _ ?_)
 refine cw_false rfl ?_
 refine cw_rs fun _ κ => ?_
 refine as_q rfl rfl (q_isF (r := .agg #[.pointer none]) (by kernel_rfl) (by kernel_rfl) rfl rfl) ?_
 refine Se rfl rfl rfl ?_
 refine Se rfl rfl rfl ?_
 refine as_nil (κ _ _ ?_)
 refine cw_false rfl ?_
 refine cw_rs fun _ κ => ?_
 refine as_q rfl rfl (q_isF (r := .agg #[.pointer none]) (by kernel_rfl) (by kernel_rfl) rfl rfl) ?_
 refine Se rfl rfl rfl ?_
 refine Se rfl rfl rfl ?_
 refine as_nil (κ _ _ ?_)
 refine cw_false rfl ?_
 refine cw_rs fun _ κ => ?_
 refine as_q rfl rfl (q_isF (r := .agg #[.pointer none]) (by kernel_rfl) (by kernel_rfl) rfl rfl) ?_
 refine Se rfl rfl rfl ?_
 refine Se rfl rfl rfl ?_
 refine as_nil (κ _ _ ?_)
 refine cw_false rfl ?_
 refine cw_rs fun _ κ => ?_
 refine as_q rfl rfl (q_isT (by kernel_rfl) rfl) ?_
 refine Se rfl rfl rfl ?_
 refine Se rfl rfl rfl ?_
 refine as_nil (κ _ _ ?_)
 refine cw_true rfl ?_
 refine cw_rs fun _ κ => ?_
 refine Sa rfl rfl ?_
 refine as_nil (κ _ _ ?_)
 refine cw_ret ?_
 exact ⟨_, (res_tmp rfl res_nil), rfl, hT.forget⟩
theorem hp_kind_f {w : World} {M : Mem} {q : Option Addr} (hs : Sat M w) :
  Does Tryz.prog 30 #[.agg #[.iface 95 (.agg #[.pointer q])]] w (fun r w' => r = .int .i64 (6 : Nat) ∧ Step Nope M w M w') := by
 have hT := Step.refl Nope hs
 refine fn_enter Tryz.func30 rfl (rs := [.tmp 2]) rfl rfl rfl rfl ?_
 refine cw_rs fun _ κ => ?_
 refine as_h rfl (h_boxM hs rfl rfl fun b1 M1 w1 hs1 hb1 e1 => ?_)
 have hT:=hT.then hs1
 refine Sa rfl rfl ?_
 refine as_nil (κ _ _ ?_)
 refine cw_seq fun _ hK2 => ?_
 refine cw_rs fun _ κ => ?_
 refine Sf 0 rfl (by kernel_rfl) rfl ?_
 refine S1 rfl (by kernel_rfl) rfl (by exact BlkR.cell (hs1.sat _ _ _ hb1) rfl) ?_
 refine as_nil (κ _ _ ?_)
 refine cw_block ?_
 refine cw_rs fun _ κ => ?_
 refine as_q rfl rfl (q_isF (r := .agg #[.pointer none]) (by kernel_rfl) (by kernel_rfl) rfl rfl) ?_
 refine Se rfl rfl rfl ?_
 refine Se rfl rfl rfl ?_
 refine as_nil (κ _ _ ?_)
 refine cw_false rfl ?_
 refine cw_rs fun _ κ => ?_
 refine as_q rfl rfl (q_isF (r := .agg #[.pointer none]) (by kernel_rfl) (by kernel_rfl) rfl rfl) ?_
 refine Se rfl rfl rfl ?_
 refine Se rfl rfl rfl ?_
 refine as_nil (κ _ _ ?_)
 refine cw_false rfl ?_
 refine cw_rs fun _ κ => ?_
 refine as_q rfl rfl (q_isF (r := .agg #[.pointer none]) (by kernel_rfl) (by kernel_rfl) rfl rfl) ?_
 refine Se rfl rfl rfl ?_
 refine Se rfl rfl rfl ?_
 refine as_nil (κ _ _ ?_)
 refine cw_false rfl ?_
 refine cw_rs fun _ κ => ?_
 refine as_q rfl rfl (q_isF (r := .agg #[.pointer none]) (by kernel_rfl) (by kernel_rfl) rfl rfl) ?_
 refine Se rfl rfl rfl ?_
 refine Se rfl rfl rfl ?_
 refine as_nil (κ _ _ ?_)
 refine cw_false rfl ?_
 refine cw_rs fun _ κ => ?_
 refine as_q rfl rfl (q_isF (r := .agg #[.pointer none]) (by kernel_rfl) (by kernel_rfl) rfl rfl) ?_
 refine Se rfl rfl rfl ?_
 refine Se rfl rfl rfl ?_
 refine as_nil (κ _ _ ?_)
 refine cw_false rfl ?_
 refine cw_rs fun _ κ => ?_
 refine as_q rfl rfl (q_isT (by kernel_rfl) rfl) ?_
 refine Se rfl rfl rfl ?_
 refine Se rfl rfl rfl ?_
 refine as_nil (κ _ _ ?_)
 refine cw_true rfl ?_
 refine cw_rs fun _ κ => ?_
 refine Sa rfl rfl ?_
 refine as_nil (κ _ _ ?_)
 refine cw_ret ?_
 exact ⟨_, (res_tmp rfl res_nil), rfl, hT.forget⟩
theorem hp_kind {w : World} {M : Mem} {k : Nat} {l : List El} {v : Value} (hs : Sat M w) (h : HVal M k l v) : Does Tryz.prog 30 #[.agg #[v]] w (fun r w' => r = .int .i64 (k : Nat) ∧ Step Nope M w M w') := by
 cases h with
 | z => exact hp_kind_z hs
 | a h hok hl => exact hp_kind_a hs
 | b h hok hl => exact hp_kind_b hs
 | c h hok hl => exact hp_kind_c hs
 | d h hok hl => exact hp_kind_d hs
 | e h hok hl => exact hp_kind_e hs
 | f h hok hl => exact hp_kind_f hs
theorem hp_size_0 {w : World} {M : Mem} (hs : Sat M w) :
  Does Tryz.prog 21 #[.agg #[.nilIface]] w (fun r w' => r = .int .i64 ((0 : Nat) : Int) ∧ Step Nope M w M w') := by
 have hT := Step.refl Nope hs
 refine fn_enter Tryz.func21 rfl (rs := [.tmp 2]) rfl rfl rfl rfl ?_
 refine cw_rs fun _ κ => ?_
 refine as_h rfl (h_boxM hs rfl rfl fun b1 M1 w1 hs1 hb1 e1 => ?_)
 have hT:=hT.then hs1
 refine Sa rfl rfl ?_
 refine as_nil (κ _ _ ?_)
 refine cw_seq fun _ hK2 => ?_
 refine cw_rs fun _ κ => ?_
 refine Sf 0 rfl (by kernel_rfl) rfl ?_
 refine S1 rfl (by kernel_rfl) rfl (by exact BlkR.cell (hs1.sat _ _ _ hb1) rfl) ?_
 refine as_q rfl rfl (q_ifNil (by kernel_rfl) rfl) ?_
 refine as_nil (κ _ _ ?_)
 refine cw_true rfl ?_
 refine cw_rs fun _ κ => ?_
 refine Sa rfl rfl ?_
 refine as_nil (κ _ _ ?_)
 refine cw_ret ?_
 exact ⟨_, (res_tmp rfl res_nil), rfl, hT.forget⟩
theorem hp_size_1 {w : World} {M : Mem} {k : Nat} {l : List El} {v : Value} (hs : Sat M w) (h : HVal M k l v) (hk : k ≠ 0) (hz : l.length < 1000000000) :
  Does Tryz.prog 21 #[.agg #[v]] w (fun r w' => r = .int .i64 (l.length : Nat) ∧ Step Nope M w M w') := by
 have hT := Step.refl Nope hs
 obtain ⟨d, u, rfl⟩ := h.iface hk
 refine fn_enter Tryz.func21 rfl (rs := [.tmp 2]) rfl rfl rfl rfl ?_
 refine cw_rs fun _ κ => ?_
 refine as_h rfl (h_boxM hs rfl rfl fun b1 M1 w1 hs1 hb1 e1 => ?_)
 have h:=h.mono hs1.le
 have hT:=hT.then hs1
 refine Sa rfl rfl ?_
 refine as_nil (κ _ _ ?_)
 refine cw_seq fun _ hK2 => ?_
 refine cw_rs fun _ κ => ?_
 refine Sf 0 rfl (by kernel_rfl) rfl ?_
 refine S1 rfl (by kernel_rfl) rfl (by exact BlkR.cell (hs1.sat _ _ _ hb1) rfl) ?_
 refine as_q rfl rfl (q_ifSome (by kernel_rfl) rfl) ?_
 refine as_nil (κ _ _ ?_)
 refine cw_false rfl ?_
 refine cw_skip ?_
 refine hK2 _ _ ?_
 refine cw_rs fun _ κ => ?_
 refine Sf 0 rfl (by kernel_rfl) rfl ?_
 refine S1 rfl (by kernel_rfl) rfl (by exact BlkR.cell (hs1.sat _ _ _ hb1) rfl) ?_
 obtain ⟨d0, u0, f0, r0, hv0, hc0_, hm0, hd0⟩ := hv_size hs1.sat h hk hz
 cases hv0
 refine as_h rfl (h_invokeP hc0_ rfl rfl (hm0 _) ?_)
 refine hd0.mono ?_
 rintro _ w2 ⟨rfl, hs2⟩
 have h:=h.mono hs2.le
 have hT:=hT.then hs2
 refine Sa rfl rfl ?_
 refine as_nil (κ _ _ ?_)
 refine cw_ret ?_
 exact ⟨_, (res_tmp rfl res_nil), rfl, hT.forget⟩
theorem hp_size {w : World} {M : Mem} {k : Nat} {l : List El} {v : Value} (hs : Sat M w) (h : HVal M k l v) (hz : l.length < 1000000000) : Does Tryz.prog 21 #[.agg #[v]] w (fun r w' => r = .int .i64 (l.length : Nat) ∧ Step Nope M w M w') := by
 by_cases hk : k = 0
 · subst hk; obtain ⟨rfl, rfl⟩ := h.zero; exact hp_size_0 hs
 · exact hp_size_1 hs h hk hz
theorem hp_full_0 {w : World} {M : Mem} (hs : Sat M w) :
  Does Tryz.prog 40 #[.agg #[.nilIface]] w (fun r w' => r = .int .i64 22 ∧ Step Nope M w M w') := by
 have hT := Step.refl Nope hs
 refine fn_enter Tryz.func40 rfl (rs := [.tmp 2]) rfl rfl rfl rfl ?_
 refine cw_rs fun _ κ => ?_
 refine as_h rfl (h_boxM hs rfl rfl fun b1 M1 w1 hs1 hb1 e1 => ?_)
 have hT:=hT.then hs1
 refine Sa rfl rfl ?_
 refine as_nil (κ _ _ ?_)
 refine cw_seq fun _ hK2 => ?_
 refine cw_block ?_
 refine cw_rs fun _ κ => ?_
 refine Sf 0 rfl (by kernel_rfl) rfl ?_
 refine S1 rfl (by kernel_rfl) rfl (by exact BlkR.cell (hs1.sat _ _ _ hb1) rfl) ?_
 refine as_q rfl rfl (q_ifNil (by kernel_rfl) rfl) ?_
 refine Sa rfl rfl ?_
 refine as_nil (κ _ _ ?_)
 refine cw_true rfl ?_
 refine cw_rs fun _ κ => ?_
 refine Sa rfl rfl ?_
 refine as_nil (κ _ _ ?_)
 refine cw_ret ?_
 exact ⟨_, (res_tmp rfl res_nil), rfl, hT.forget⟩
theorem hp_full_1 {w : World} {M : Mem} {k : Nat} {v : Value} (hs : Sat M w) (h : HVal M k [] v) (hk : k ≠ 0) :
  Does Tryz.prog 40 #[.agg #[v]] w (fun r w' => r = .int .i64 23 ∧ Step Nope M w M w') := by
 have hT := Step.refl Nope hs
 obtain ⟨d, u, rfl⟩ := h.iface hk
 refine fn_enter Tryz.func40 rfl (rs := [.tmp 2]) rfl rfl rfl rfl ?_
 refine cw_rs fun _ κ => ?_
 refine as_h rfl (h_boxM hs rfl rfl fun b1 M1 w1 hs1 hb1 e1 => ?_)
 have h:=h.mono hs1.le
 have hT:=hT.then hs1
 refine Sa rfl rfl ?_
 refine as_nil (κ _ _ ?_)
 refine cw_seq fun _ hK2 => ?_
 refine cw_block ?_
 refine cw_rs fun _ κ => ?_
 refine Sf 0 rfl (by kernel_rfl) rfl ?_
 refine S1 rfl (by kernel_rfl) rfl (by exact BlkR.cell (hs1.sat _ _ _ hb1) rfl) ?_
 refine as_q rfl rfl (q_ifSome (by kernel_rfl) rfl) ?_
 refine Sa rfl rfl ?_
 refine as_nil (κ _ _ ?_)
 refine cw_false rfl ?_
 refine cw_rs fun _ κ => ?_
 refine Sc 1 rfl (by kernel_rfl) rfl (by exact BlkR.cells (hs1.sat _ _ _ hb1) rfl) ?_
 refine as_h rfl (h_call (by kernel_rfl) rfl ?_)
 refine (hp_size hs1.sat h (by decide)).mono ?_
 rintro _ w2 ⟨rfl, hs2⟩
 have h:=h.mono hs2.le
 have hT:=hT.then hs2
 refine as_q rfl rfl (q_eqT rfl rfl (by simp)) ?_
 refine Sa rfl rfl ?_
 refine as_nil (κ _ _ ?_)
 refine cw_true rfl ?_
 refine cw_rs fun _ κ => ?_
 refine Sa rfl rfl ?_
 refine as_nil (κ _ _ ?_)
 refine cw_ret ?_
 exact ⟨_, (res_tmp rfl res_nil), rfl, hT.forget⟩
theorem hp_full_2 {w : World} {M : Mem} {k : Nat} {x : El} {l : List El} {v : Value} (hs : Sat M w) (h : HVal M k (x :: l) v) (hk : k ≠ 0) (hz : (x :: l).length < 1000000000) :
  Does Tryz.prog 40 #[.agg #[v]] w (fun r w' => r = .int .i64 0 ∧ Step Nope M w M w') := by
 have hT := Step.refl Nope hs
 obtain ⟨d, u, rfl⟩ := h.iface hk
 refine fn_enter Tryz.func40 rfl (rs := [.tmp 2]) rfl rfl rfl rfl ?_
 refine cw_rs fun _ κ => ?_
 refine as_h rfl (h_boxM hs rfl rfl fun b1 M1 w1 hs1 hb1 e1 => ?_)
 have h:=h.mono hs1.le
 have hT:=hT.then hs1
 refine Sa rfl rfl ?_
 refine as_nil (κ _ _ ?_)
 refine cw_seq fun _ hK2 => ?_
 refine cw_block ?_
 refine cw_rs fun _ κ => ?_
 refine Sf 0 rfl (by kernel_rfl) rfl ?_
 refine S1 rfl (by kernel_rfl) rfl (by exact BlkR.cell (hs1.sat _ _ _ hb1) rfl) ?_
 refine as_q rfl rfl (q_ifSome (by kernel_rfl) rfl) ?_
 refine Sa rfl rfl ?_
 refine as_nil (κ _ _ ?_)
 refine cw_false rfl ?_
 refine cw_rs fun _ κ => ?_
 refine Sc 1 rfl (by kernel_rfl) rfl (by exact BlkR.cells (hs1.sat _ _ _ hb1) rfl) ?_
 refine as_h rfl (h_call (by kernel_rfl) rfl ?_)
 refine (hp_size hs1.sat h (by exact hz)).mono ?_
 rintro _ w2 ⟨rfl, hs2⟩
 have h:=h.mono hs2.le
 have hT:=hT.then hs2
 refine as_q rfl rfl (q_eqF rfl rfl (by simp only [List.length_cons]; omega)) ?_
 refine Sa rfl rfl ?_
 refine as_nil (κ _ _ ?_)
 refine cw_false rfl ?_
 refine cw_skip ?_
 refine hK2 _ _ ?_
 refine cw_rs fun _ κ => ?_
 refine Sa rfl rfl ?_
 refine as_nil (κ _ _ ?_)
 refine cw_ret ?_
 exact ⟨_, (res_tmp rfl res_nil), rfl, hT.forget⟩
theorem hp_full {w : World} {M : Mem} {k : Nat} {l : List El} {v : Value} (hs : Sat M w) (h : HVal M k l v) (hz : l.length < 1000000000) : Does Tryz.prog 40 #[.agg #[v]] w (fun r w' => r = .int .i64 (fullE k l) ∧ Step Nope M w M w') := by
 by_cases hk : k = 0
 · subst hk; obtain ⟨rfl, rfl⟩ := h.zero; exact hp_full_0 hs
 ·
  unfold fullE
  rw [if_neg hk]
  cases l with
  | nil => exact hp_full_1 hs h hk
  | cons x l => exact hp_full_2 hs h hk hz
end Go.Proofs.YtgcgjpfjjgalmaaGreat
/- The calls of heap, part 2. -/
namespace Go.Proofs.YtgcgjpfjjgalmaaGreat
open Go Go.Eng
theorem hp_min_0 {w : World} {M : Mem} {k : Nat} {v : Value} (hs : Sat M w) (h : HVal M k [] v) :
  Does Tryz.prog 28 #[.agg #[v], .pointer none] w (fun r w' => r = .tuple #[.agg (elc (0, 0)).toArray, .int .i64 (fullE k [])] ∧ Step Nope M w M w') := by
 have hT := Step.refl Nope hs
 have hfe : fullE k [] = 22 ∨ fullE k [] = 23 := by unfold fullE; split <;> simp
 refine fn_enter Tryz.func28 rfl (rs := [.cell 4 24, .tmp 5]) rfl rfl rfl rfl ?_
 refine cw_rs fun _ κ => ?_
 refine as_h rfl (h_boxM hs rfl rfl fun b1 M1 w1 hs1 hb1 e1 => ?_)
 have h:=h.mono hs1.le
 have hT:=hT.then hs1
 have hz1 := hs1.size
 have hqar := hT.size
 refine as_h rfl (h_allocO (z := (.agg #[(.int .i64 0), (.int .i64 0)])) hs1.sat (by kernel_rfl) rfl fun br w2 hs2 hor er => ?_)
 have h:=h.mono hs2.le
 have hb1:=hs2.le _ _ hb1
 have hT:=hT.then hs2
 have hz2 := hs2.size
 have hlr := hor.1.lt
 refine Sa rfl rfl ?_
 refine as_nil (κ _ _ ?_)
 refine cw_seq fun _ hK2 => ?_
 refine cw_rs fun _ κ => ?_
 refine Sc 1 rfl (by kernel_rfl) rfl (by exact BlkR.cells (hs2.sat _ _ _ hb1) rfl) ?_
 refine as_h rfl (h_call (by kernel_rfl) rfl ?_)
 refine (hp_full hs2.sat h (by decide)).mono ?_
 rintro _ w3 ⟨rfl, hs3⟩
 have h:=h.mono hs3.le
 have hor:=hor.then hs3
 have hT:=hT.then hs3
 have hz3 := hs3.size
 refine Sa rfl rfl ?_
 refine as_nil (κ _ _ ?_)
 refine cw_rs fun _ κ => ?_
 refine Sm rfl rfl ?_
 refine as_q rfl rfl (q_neT rfl rfl (by omega)) ?_
 refine as_nil (κ _ _ ?_)
 refine cw_true rfl ?_
 refine cw_rs fun _ κ => ?_
 refine as_q rfl rfl (q_build (zs := [(.int .i64 0), (.int .i64 0)]) (places := [(0, 1), (1, 1)]) (cs := [_, _]) (by kernel_rfl) (by kernel_rfl) rfl rfl) ?_
 refine Sm rfl rfl ?_
 refine as_h0 (h_store hs3.sat hor rfl rfl rfl (by kernel_rfl) rfl rfl rfl fun w4 hs4 hn4 => ?_)
 have h:=h.mono hs4.le
 clear hor; have hor := hn4; clear hn4
 have hT:=hT.own hs4 (by omega)
 have hz4 := hs4.size
 refine Sa rfl rfl ?_
 refine as_nil (κ _ _ ?_)
 refine cw_ret ?_
 exact ⟨_, (res_cell rfl (loadVar_n (n := 2) (by kernel_rfl) (by exact Blk.cells hor.1 rfl)) (res_tmp rfl res_nil)), rfl, hT.forget⟩
theorem hp_min_1 {w : World} {M : Mem} {k : Nat} {x : El} {l : List El} {v : Value} (hs : Sat M w) (h : HVal M k (x :: l) v) (hk : k ≠ 0) (hz : (x :: l).length < 1000000000) :
  Does Tryz.prog 28 #[.agg #[v], .pointer none] w (fun r w' => r = .tuple #[.agg (elc x).toArray, .int .i64 (fullE k (x :: l))] ∧ Step Nope M w M w') := by
 have hT := Step.refl Nope hs
 have hfe : fullE k (x :: l) = 0 := by unfold fullE; rw [if_neg hk, if_neg (by simp)]
 obtain ⟨d, u, rfl⟩ := h.iface hk
 refine fn_enter Tryz.func28 rfl (rs := [.cell 4 24, .tmp 5]) rfl rfl rfl rfl ?_
 refine cw_rs fun _ κ => ?_
 refine as_h rfl (h_boxM hs rfl rfl fun b1 M1 w1 hs1 hb1 e1 => ?_)
 have h:=h.mono hs1.le
 have hT:=hT.then hs1
 have hz1 := hs1.size
 have hqar := hT.size
 refine as_h rfl (h_allocO (z := (.agg #[(.int .i64 0), (.int .i64 0)])) hs1.sat (by kernel_rfl) rfl fun br w2 hs2 hor er => ?_)
 have h:=h.mono hs2.le
 have hb1:=hs2.le _ _ hb1
 have hT:=hT.then hs2
 have hz2 := hs2.size
 have hlr := hor.1.lt
 refine Sa rfl rfl ?_
 refine as_nil (κ _ _ ?_)
 refine cw_seq fun _ hK2 => ?_
 refine cw_rs fun _ κ => ?_
 refine Sc 1 rfl (by kernel_rfl) rfl (by exact BlkR.cells (hs2.sat _ _ _ hb1) rfl) ?_
 refine as_h rfl (h_call (by kernel_rfl) rfl ?_)
 refine (hp_full hs2.sat h hz).mono ?_
 rintro _ w3 ⟨rfl, hs3⟩
 have h:=h.mono hs3.le
 have hb1:=hs3.le _ _ hb1
 have hor:=hor.then hs3
 have hT:=hT.then hs3
 have hz3 := hs3.size
 refine Sa rfl rfl ?_
 refine as_nil (κ _ _ ?_)
 refine cw_rs fun _ κ => ?_
 refine Sm rfl rfl ?_
 refine as_q rfl rfl (q_neF rfl rfl (by omega)) ?_
 refine as_nil (κ _ _ ?_)
 refine cw_false rfl ?_
 refine cw_skip ?_
 refine hK2 _ _ ?_
 refine cw_rs fun _ κ => ?_
 refine Sf 0 rfl (by kernel_rfl) rfl ?_
 refine S1 rfl (by kernel_rfl) rfl (by exact BlkR.cell (hs3.sat _ _ _ hb1) rfl) ?_
 refine Sm rfl rfl ?_
 obtain ⟨d0, u0, f0, r0, hv0, hc0_, hm0, hd0⟩ := hv_min hs3.sat h hz
 cases hv0
 refine as_h rfl (h_invokeP hc0_ rfl rfl (hm0 _) ?_)
 refine hd0.mono ?_
 rintro _ w4 ⟨rfl, hs4⟩
 have h:=h.mono hs4.le
 have hor:=hor.then hs4
 have hT:=hT.then hs4
 have hz4 := hs4.size
 refine Sm rfl rfl ?_
 refine Se rfl rfl rfl ?_
 refine Se rfl rfl rfl ?_
 have hqax := hT.size
 refine as_h rfl (h_allocO (z := (.agg #[(.int .i64 0), (.int .i64 0)])) hs4.sat (by kernel_rfl) rfl fun bx w5 hs5 hox ex => ?_)
 have h:=h.mono hs5.le
 have hor:=hor.then hs5
 have hT:=hT.then hs5
 have hz5 := hs5.size
 have hlx := hox.1.lt
 refine as_h0 (h_store hs5.sat hox rfl rfl rfl (by kernel_rfl) rfl rfl rfl fun w6 hs6 hn6 => ?_)
 have h:=h.mono hs6.le
 have hor:=hor.step hs6 (fun h => by have h : _ = _ := h; omega)
 clear hox; have hox := hn6; clear hn6
 have hT:=hT.own hs6 (by omega)
 have hz6 := hs6.size
 refine Sa rfl rfl ?_
 refine as_nil (κ _ _ ?_)
 refine cw_rs fun _ κ => ?_
 refine Sc 2 rfl (by kernel_rfl) rfl (by exact Blk.cells hox.1 rfl) ?_
 refine as_h0 (h_store hs6.sat hor rfl rfl rfl (by kernel_rfl) rfl rfl rfl fun w7 hs7 hn7 => ?_)
 have h:=h.mono hs7.le
 clear hor; have hor := hn7; clear hn7
 have hT:=hT.own hs7 (by omega)
 have hz7 := hs7.size
 refine Sa rfl rfl ?_
 refine as_nil (κ _ _ ?_)
 refine cw_ret ?_
 rw [hfe]
 exact ⟨_, (res_cell rfl (loadVar_n (n := 2) (by kernel_rfl) (by exact Blk.cells hor.1 rfl)) (res_tmp rfl res_nil)), rfl, hT.forget⟩
theorem hp_min {w : World} {M : Mem} {k : Nat} {l : List El} {v : Value} (hs : Sat M w) (h : HVal M k l v) (hz : l.length < 1000000000) : Does Tryz.prog 28 #[.agg #[v], .pointer none] w (fun r w' => r = .tuple #[.agg (elc (l.headD (0, 0))).toArray, .int .i64 (fullE k l)] ∧ Step Nope M w M w') := by
 cases l with
 | nil => exact hp_min_0 hs h
 | cons x l => exact hp_min_1 hs h (by rintro rfl; cases h.zero.1) hz
theorem hp_pop_0 {w : World} {M : Mem} {k : Nat} {v : Value} (hs : Sat M w) (h : HVal M k [] v) :
  Does Tryz.prog 27 #[.agg #[v], .pointer none] w (fun r w' => ∃ v' M', r = .tuple #[.agg #[v'], .int .i64 (fullE k [])] ∧ Step Nope M w M' w' ∧ HVal M' 0 [] v') := by
 have hT := Step.refl Nope hs
 have hfe : fullE k [] = 22 ∨ fullE k [] = 23 := by unfold fullE; split <;> simp
 refine fn_enter Tryz.func27 rfl (rs := [.cell 4 29, .tmp 5]) rfl rfl rfl rfl ?_
 refine cw_rs fun _ κ => ?_
 refine as_h rfl (h_boxM hs rfl rfl fun b1 M1 w1 hs1 hb1 e1 => ?_)
 have h:=h.mono hs1.le
 have hT:=hT.then hs1
 have hz1 := hs1.size
 have hqar := hT.size
 refine as_h rfl (h_allocO (z := (.agg #[.nilIface])) hs1.sat (by kernel_rfl) rfl fun br w2 hs2 hor er => ?_)
 have h:=h.mono hs2.le
 have hb1:=hs2.le _ _ hb1
 have hT:=hT.then hs2
 have hz2 := hs2.size
 have hlr := hor.1.lt
 refine Sa rfl rfl ?_
 refine as_nil (κ _ _ ?_)
 refine cw_seq fun _ hK2 => ?_
 refine cw_rs fun _ κ => ?_
 refine Sc 1 rfl (by kernel_rfl) rfl (by exact BlkR.cells (hs2.sat _ _ _ hb1) rfl) ?_
 refine as_h rfl (h_call (by kernel_rfl) rfl ?_)
 refine (hp_full hs2.sat h (by decide)).mono ?_
 rintro _ w3 ⟨rfl, hs3⟩
 have h:=h.mono hs3.le
 have hor:=hor.then hs3
 have hT:=hT.then hs3
 have hz3 := hs3.size
 refine Sa rfl rfl ?_
 refine as_nil (κ _ _ ?_)
 refine cw_rs fun _ κ => ?_
 refine Sm rfl rfl ?_
 refine as_q rfl rfl (q_neT rfl rfl (by omega)) ?_
 refine as_nil (κ _ _ ?_)
 refine cw_true rfl ?_
 refine cw_rs fun _ κ => ?_
 refine as_q rfl rfl (q_build (zs := [.nilIface]) (places := [(0, 1)]) (cs := [_]) (by kernel_rfl) (by kernel_rfl) rfl rfl) ?_
 refine Sm rfl rfl ?_
 refine as_h0 (h_store hs3.sat hor rfl rfl rfl (by kernel_rfl) rfl rfl rfl fun w4 hs4 hn4 => ?_)
 have h:=h.mono hs4.le
 clear hor; have hor := hn4; clear hn4
 have hT:=hT.own hs4 (by omega)
 have hz4 := hs4.size
 refine Sa rfl rfl ?_
 refine as_nil (κ _ _ ?_)
 refine cw_ret ?_
 exact ⟨_, (res_cell rfl (loadVar_n (n := 1) (by kernel_rfl) (by exact Blk.cells hor.1 rfl)) (res_tmp rfl res_nil)), _, _, rfl, hT, .z⟩
theorem hp_pop_1 {w : World} {M : Mem} {k : Nat} {x : El} {l : List El} {v : Value} (hs : Sat M w) (h : HVal M k (x :: l) v) (hk : k ≠ 0) (hz : (x :: l).length < 1000000000) :
  Does Tryz.prog 27 #[.agg #[v], .pointer none] w (fun r w' => ∃ v' M', r = .tuple #[.agg #[v'], .int .i64 (fullE k (x :: l))] ∧ Step Nope M w M' w' ∧ HVal M' k l v') := by
 have hT := Step.refl Nope hs
 have hfe : fullE k (x :: l) = 0 := by unfold fullE; rw [if_neg hk, if_neg (by simp)]
 obtain ⟨d, u, rfl⟩ := h.iface hk
 refine fn_enter Tryz.func27 rfl (rs := [.cell 4 29, .tmp 5]) rfl rfl rfl rfl ?_
 refine cw_rs fun _ κ => ?_
 refine as_h rfl (h_boxM hs rfl rfl fun b1 M1 w1 hs1 hb1 e1 => ?_)
 have h:=h.mono hs1.le
 have hT:=hT.then hs1
 have hz1 := hs1.size
 have hqar := hT.size
 refine as_h rfl (h_allocO (z := (.agg #[.nilIface])) hs1.sat (by kernel_rfl) rfl fun br w2 hs2 hor er => ?_)
 have h:=h.mono hs2.le
 have hb1:=hs2.le _ _ hb1
 have hT:=hT.then hs2
 have hz2 := hs2.size
 have hlr := hor.1.lt
 refine Sa rfl rfl ?_
 refine as_nil (κ _ _ ?_)
 refine cw_seq fun _ hK2 => ?_
 refine cw_rs fun _ κ => ?_
 refine Sc 1 rfl (by kernel_rfl) rfl (by exact BlkR.cells (hs2.sat _ _ _ hb1) rfl) ?_
 refine as_h rfl (h_call (by kernel_rfl) rfl ?_)
 refine (hp_full hs2.sat h hz).mono ?_
 rintro _ w3 ⟨rfl, hs3⟩
 have h:=h.mono hs3.le
 have hb1:=hs3.le _ _ hb1
 have hor:=hor.then hs3
 have hT:=hT.then hs3
 have hz3 := hs3.size
 refine Sa rfl rfl ?_
 refine as_nil (κ _ _ ?_)
 refine cw_rs fun _ κ => ?_
 refine Sm rfl rfl ?_
 refine as_q rfl rfl (q_neF rfl rfl (by omega)) ?_
 refine as_nil (κ _ _ ?_)
 refine cw_false rfl ?_
 refine cw_skip ?_
 refine hK2 _ _ ?_
 refine cw_rs fun _ κ => ?_
 refine Sf 0 rfl (by kernel_rfl) rfl ?_
 refine S1 rfl (by kernel_rfl) rfl (by exact BlkR.cell (hs3.sat _ _ _ hb1) rfl) ?_
 refine Sm rfl rfl ?_
 obtain ⟨d0, u0, f0, r0, hv0, hc0_, hm0, hd0⟩ := hv_pop hs3.sat h hz
 cases hv0
 refine as_h rfl (h_invokeP hc0_ rfl rfl (hm0 _) ?_)
 refine hd0.mono ?_
 rintro v1 w4 ⟨Mn, hs4, hn⟩
 have h:=h.mono hs4.le
 have hor:=hor.then hs4
 have hT:=hT.then hs4
 have hz4 := hs4.size
 obtain ⟨d9, u9, rfl⟩ := hn.iface hk
 refine as_q rfl rfl (q_build (zs := [.nilIface]) (places := [(0, 1)]) (cs := [_]) (by kernel_rfl) (by kernel_rfl) rfl rfl) ?_
 refine as_h0 (h_store hs4.sat hor rfl rfl rfl (by kernel_rfl) rfl rfl rfl fun w5 hs5 hn5 => ?_)
 have h:=h.mono hs5.le
 have hn:=hn.mono hs5.le
 clear hor; have hor := hn5; clear hn5
 have hT:=hT.own hs5 (by omega)
 have hz5 := hs5.size
 refine Sa rfl rfl ?_
 refine as_nil (κ _ _ ?_)
 refine cw_ret ?_
 rw [hfe]
 exact ⟨_, (res_cell rfl (loadVar_n (n := 1) (by kernel_rfl) (by exact Blk.cells hor.1 rfl)) (res_tmp rfl res_nil)), _, _, rfl, hT, hn⟩
theorem hp_pop {w : World} {M : Mem} {k : Nat} {l : List El} {v : Value} (hs : Sat M w) (h : HVal M k l v) (hz : l.length < 1000000000) : Does Tryz.prog 27 #[.agg #[v], .pointer none] w (fun r w' => ∃ v' M', r = .tuple #[.agg #[v'], .int .i64 (fullE k l)] ∧ Step Nope M w M' w' ∧ HVal M' (popK k l) l.tail v') := by
 cases l with
 | nil => exact hp_pop_0 hs h
 | cons x l => exact hp_pop_1 hs h (by rintro rfl; cases h.zero.1) hz
theorem hp_insert_0 {w : World} {M : Mem} {x : El} (hs : Sat M w) :
  Does Tryz.prog 14 #[.agg #[.nilIface], .pointer none, .agg (elc x).toArray] w (fun r w' => ∃ v' M', r = .tuple #[.agg #[v'], .int .i64 22] ∧ Step Nope M w M' w' ∧ HVal M' 0 [] v') := by
 have hT := Step.refl Nope hs
 refine fn_enter Tryz.func14 rfl (rs := [.cell 6 29, .tmp 7]) rfl rfl rfl rfl ?_
 refine cw_rs fun _ κ => ?_
 refine as_h rfl (h_boxM hs rfl rfl fun b1 M1 w1 hs1 hb1 e1 => ?_)
 have hT:=hT.then hs1
 have hz1 := hs1.size
 refine as_h rfl (h_boxM hs1.sat rfl rfl fun b2 M2 w2 hs2 hb2 e2 => ?_)
 have hb1:=hs2.le _ _ hb1
 have hT:=hT.then hs2
 have hz2 := hs2.size
 have hqar := hT.size
 refine as_h rfl (h_allocO (z := (.agg #[.nilIface])) hs2.sat (by kernel_rfl) rfl fun br w3 hs3 hor er => ?_)
 have hb1:=hs3.le _ _ hb1
 have hT:=hT.then hs3
 have hz3 := hs3.size
 have hlr := hor.1.lt
 refine Sa rfl rfl ?_
 refine as_nil (κ _ _ ?_)
 refine cw_seq fun _ hK2 => ?_
 refine cw_rs fun _ κ => ?_
 refine Sf 0 rfl (by kernel_rfl) rfl ?_
 refine S1 rfl (by kernel_rfl) rfl (by exact BlkR.cell (hs3.sat _ _ _ hb1) rfl) ?_
 refine as_q rfl rfl (q_ifNil (by kernel_rfl) rfl) ?_
 refine as_nil (κ _ _ ?_)
 refine cw_true rfl ?_
 refine cw_rs fun _ κ => ?_
 refine Sc 1 rfl (by kernel_rfl) rfl (by exact BlkR.cells (hs3.sat _ _ _ hb1) rfl) ?_
 refine as_h0 (h_store hs3.sat hor rfl rfl rfl (by kernel_rfl) rfl rfl rfl fun w4 hs4 hn4 => ?_)
 clear hor; have hor := hn4; clear hn4
 have hT:=hT.own hs4 (by omega)
 have hz4 := hs4.size
 refine Sa rfl rfl ?_
 refine as_nil (κ _ _ ?_)
 refine cw_ret ?_
 exact ⟨_, (res_cell rfl (loadVar_n (n := 1) (by kernel_rfl) (by exact Blk.cells hor.1 rfl)) (res_tmp rfl res_nil)), _, _, rfl, hT, .z⟩
theorem hp_insert_1 {w : World} {M : Mem} {k : Nat} {x : El} {l : List El} {v : Value} (hs : Sat M w) (h : HVal M k l v) (hk : k ≠ 0) (hz : l.length < 1000000000) :
  Does Tryz.prog 14 #[.agg #[v], .pointer none, .agg (elc x).toArray] w (fun r w' => ∃ v' M', r = .tuple #[.agg #[v'], .int .i64 0] ∧ Step Nope M w M' w' ∧ HVal M' k (putE l x) v') := by
 have hT := Step.refl Nope hs
 obtain ⟨d, u, rfl⟩ := h.iface hk
 refine fn_enter Tryz.func14 rfl (rs := [.cell 6 29, .tmp 7]) rfl rfl rfl rfl ?_
 refine cw_rs fun _ κ => ?_
 refine as_h rfl (h_boxM hs rfl rfl fun b1 M1 w1 hs1 hb1 e1 => ?_)
 have h:=h.mono hs1.le
 have hT:=hT.then hs1
 have hz1 := hs1.size
 refine as_h rfl (h_boxM hs1.sat rfl rfl fun b2 M2 w2 hs2 hb2 e2 => ?_)
 have h:=h.mono hs2.le
 have hb1:=hs2.le _ _ hb1
 have hT:=hT.then hs2
 have hz2 := hs2.size
 have hqar := hT.size
 refine as_h rfl (h_allocO (z := (.agg #[.nilIface])) hs2.sat (by kernel_rfl) rfl fun br w3 hs3 hor er => ?_)
 have h:=h.mono hs3.le
 have hb1:=hs3.le _ _ hb1
 have hb2:=hs3.le _ _ hb2
 have hT:=hT.then hs3
 have hz3 := hs3.size
 have hlr := hor.1.lt
 refine Sa rfl rfl ?_
 refine as_nil (κ _ _ ?_)
 refine cw_seq fun _ hK2 => ?_
 refine cw_rs fun _ κ => ?_
 refine Sf 0 rfl (by kernel_rfl) rfl ?_
 refine S1 rfl (by kernel_rfl) rfl (by exact BlkR.cell (hs3.sat _ _ _ hb1) rfl) ?_
 refine as_q rfl rfl (q_ifSome (by kernel_rfl) rfl) ?_
 refine as_nil (κ _ _ ?_)
 refine cw_false rfl ?_
 refine cw_skip ?_
 refine hK2 _ _ ?_
 refine cw_rs fun _ κ => ?_
 refine Sf 0 rfl (by kernel_rfl) rfl ?_
 refine S1 rfl (by kernel_rfl) rfl (by exact BlkR.cell (hs3.sat _ _ _ hb1) rfl) ?_
 refine Sm rfl rfl ?_
 refine Sc 2 rfl (by kernel_rfl) rfl (by exact BlkR.cells (hs3.sat _ _ _ hb2) rfl) ?_
 obtain ⟨d0, u0, f0, r0, hv0, hc0_, hm0, hd0⟩ := hv_insert (x := x) hs3.sat h hk hz
 cases hv0
 refine as_h rfl (h_invokeP hc0_ rfl rfl (hm0 _) ?_)
 refine hd0.mono ?_
 rintro v1 w4 ⟨Mn, hs4, hn⟩
 have h:=h.mono hs4.le
 have hor:=hor.then hs4
 have hT:=hT.then hs4
 have hz4 := hs4.size
 obtain ⟨d9, u9, rfl⟩ := hn.iface hk
 refine as_q rfl rfl (q_build (zs := [.nilIface]) (places := [(0, 1)]) (cs := [_]) (by kernel_rfl) (by kernel_rfl) rfl rfl) ?_
 refine as_h0 (h_store hs4.sat hor rfl rfl rfl (by kernel_rfl) rfl rfl rfl fun w5 hs5 hn5 => ?_)
 have h:=h.mono hs5.le
 have hn:=hn.mono hs5.le
 clear hor; have hor := hn5; clear hn5
 have hT:=hT.own hs5 (by omega)
 have hz5 := hs5.size
 refine Sa rfl rfl ?_
 refine as_nil (κ _ _ ?_)
 refine cw_ret ?_
 exact ⟨_, (res_cell rfl (loadVar_n (n := 1) (by kernel_rfl) (by exact Blk.cells hor.1 rfl)) (res_tmp rfl res_nil)), _, _, rfl, hT, hn⟩
theorem hp_insert {w : World} {M : Mem} {k : Nat} {x : El} {l : List El} {v : Value} (hs : Sat M w) (h : HVal M k l v) (hz : l.length < 1000000000) : Does Tryz.prog 14 #[.agg #[v], .pointer none, .agg (elc x).toArray] w (fun r w' => ∃ v' M', r = .tuple #[.agg #[v'], .int .i64 (insE k)] ∧ Step Nope M w M' w' ∧ HVal M' k (insL k l x) v') := by
 by_cases hk : k = 0
 · subst hk; obtain ⟨rfl, rfl⟩ := h.zero; exact hp_insert_0 hs
 ·
  unfold insE insL
  rw [if_neg hk, if_neg hk]
  exact hp_insert_1 hs h hk hz
end Go.Proofs.YtgcgjpfjjgalmaaGreat
/- The calls of heap, part 3. -/
namespace Go.Proofs.YtgcgjpfjjgalmaaGreat
open Go Go.Eng
theorem hp_empty_1 {w : World} {M : Mem} (hs : Sat M w) :
  Does Tryz.prog 13 #[.int .i64 1] w (fun r w' => ∃ v' M', r = .tuple #[.agg #[v'], .int .i64 0] ∧ Step Nope M w M' w' ∧ HVal M' 1 [] v') := by
 have hT := Step.refl Nope hs
 refine fn_enter Tryz.func13 rfl (rs := [.cell 2 29, .tmp 3]) rfl rfl rfl rfl ?_
 refine cw_rs fun _ κ => ?_
 have hqar := hT.size
 refine as_h rfl (h_allocO (z := (.agg #[.nilIface])) hs (by kernel_rfl) rfl fun br w1 hs1 hor er => ?_)
 have hT:=hT.then hs1
 have hz1 := hs1.size
 have hlr := hor.1.lt
 refine Sa rfl rfl ?_
 refine as_nil (κ _ _ ?_)
 refine cw_seq fun _ hK2 => ?_
 refine cw_rs fun _ κ => ?_
 refine Sm rfl rfl ?_
 refine as_nil (κ _ _ ?_)
 refine cw_block ?_
 refine cw_rs fun _ κ => ?_
 refine as_q rfl rfl (q_eqT rfl rfl (by omega)) ?_
 refine Sa rfl rfl ?_
 refine as_nil (κ _ _ ?_)
 refine cw_true rfl ?_
 refine cw_rs fun _ κ => ?_
 refine as_q rfl rfl (q_build (zs := [(.pointer none)]) (places := [(0, 1)]) (cs := [_]) (by kernel_rfl) (by kernel_rfl) rfl rfl) ?_
 refine as_q rfl rfl (q_iface (by kernel_rfl) rfl) ?_
 refine as_q rfl rfl (q_build (zs := [.nilIface]) (places := [(0, 1)]) (cs := [_]) (by kernel_rfl) (by kernel_rfl) rfl rfl) ?_
 refine as_h0 (h_store hs1.sat hor rfl rfl rfl (by kernel_rfl) rfl rfl rfl fun w2 hs2 hn2 => ?_)
 clear hor; have hor := hn2; clear hn2
 have hT:=hT.own hs2 (by omega)
 have hz2 := hs2.size
 refine Sa rfl rfl ?_
 refine as_nil (κ _ _ ?_)
 refine cw_ret ?_
 exact ⟨_, (res_cell rfl (loadVar_n (n := 1) (by kernel_rfl) (by exact Blk.cells hor.1 rfl)) (res_tmp rfl res_nil)), _, _, rfl, hT, .a (t := .nil) rfl (trivial) rfl⟩
theorem hp_empty_2 {w : World} {M : Mem} (hs : Sat M w) :
  Does Tryz.prog 13 #[.int .i64 2] w (fun r w' => ∃ v' M', r = .tuple #[.agg #[v'], .int .i64 0] ∧ Step Nope M w M' w' ∧ HVal M' 2 [] v') := by
 have hT := Step.refl Nope hs
 refine fn_enter Tryz.func13 rfl (rs := [.cell 2 29, .tmp 3]) rfl rfl rfl rfl ?_
 refine cw_rs fun _ κ => ?_
 have hqar := hT.size
 refine as_h rfl (h_allocO (z := (.agg #[.nilIface])) hs (by kernel_rfl) rfl fun br w1 hs1 hor er => ?_)
 have hT:=hT.then hs1
 have hz1 := hs1.size
 have hlr := hor.1.lt
 refine Sa rfl rfl ?_
 refine as_nil (κ _ _ ?_)
 refine cw_seq fun _ hK2 => ?_
 refine cw_rs fun _ κ => ?_
 refine Sm rfl rfl ?_
 refine as_nil (κ _ _ ?_)
 refine cw_block ?_
 refine cw_rs fun _ κ => ?_
 refine as_q rfl rfl (q_eqF rfl rfl (by omega)) ?_
 refine Sa rfl rfl ?_
 refine as_nil (κ _ _ ?_)
 refine cw_false rfl ?_
 refine cw_rs fun _ κ => ?_
 refine as_q rfl rfl (q_eqT rfl rfl (by omega)) ?_
 refine Sa rfl rfl ?_
 refine as_nil (κ _ _ ?_)
 refine cw_true rfl ?_
 refine cw_rs fun _ κ => ?_
 refine as_q rfl rfl (q_build (zs := [(.pointer none)]) (places := [(0, 1)]) (cs := [_]) (by kernel_rfl) (by kernel_rfl) rfl rfl) ?_
 refine as_q rfl rfl (q_iface (by kernel_rfl) rfl) ?_
 refine as_q rfl rfl (q_build (zs := [.nilIface]) (places := [(0, 1)]) (cs := [_]) (by kernel_rfl) (by kernel_rfl) rfl rfl) ?_
 refine as_h0 (h_store hs1.sat hor rfl rfl rfl (by kernel_rfl) rfl rfl rfl fun w2 hs2 hn2 => ?_)
 clear hor; have hor := hn2; clear hn2
 have hT:=hT.own hs2 (by omega)
 have hz2 := hs2.size
 refine Sa rfl rfl ?_
 refine as_nil (κ _ _ ?_)
 refine cw_ret ?_
 exact ⟨_, (res_cell rfl (loadVar_n (n := 1) (by kernel_rfl) (by exact Blk.cells hor.1 rfl)) (res_tmp rfl res_nil)), _, _, rfl, hT, .b (t := []) (frep_nil.2 rfl) (⟨trivial, trivial⟩) rfl⟩
theorem hp_empty_3 {w : World} {M : Mem} (hs : Sat M w) :
  Does Tryz.prog 13 #[.int .i64 3] w (fun r w' => ∃ v' M', r = .tuple #[.agg #[v'], .int .i64 0] ∧ Step Nope M w M' w' ∧ HVal M' 3 [] v') := by
 have hT := Step.refl Nope hs
 refine fn_enter Tryz.func13 rfl (rs := [.cell 2 29, .tmp 3]) rfl rfl rfl rfl ?_
 refine cw_rs fun _ κ => ?_
 have hqar := hT.size
 refine as_h rfl (h_allocO (z := (.agg #[.nilIface])) hs (by kernel_rfl) rfl fun br w1 hs1 hor er => ?_)
 have hT:=hT.then hs1
 have hz1 := hs1.size
 have hlr := hor.1.lt
 refine Sa rfl rfl ?_
 refine as_nil (κ _ _ ?_)
 refine cw_seq fun _ hK2 => ?_
 refine cw_rs fun _ κ => ?_
 refine Sm rfl rfl ?_
 refine as_nil (κ _ _ ?_)
 refine cw_block ?_
 refine cw_rs fun _ κ => ?_
 refine as_q rfl rfl (q_eqF rfl rfl (by omega)) ?_
 refine Sa rfl rfl ?_
 refine as_nil (κ _ _ ?_)
 refine cw_false rfl ?_
 refine cw_rs fun _ κ => ?_
 refine as_q rfl rfl (q_eqF rfl rfl (by omega)) ?_
 refine Sa rfl rfl ?_
 refine as_nil (κ _ _ ?_)
 refine cw_false rfl ?_
 refine cw_rs fun _ κ => ?_
 refine as_q rfl rfl (q_eqT rfl rfl (by omega)) ?_
 refine Sa rfl rfl ?_
 refine as_nil (κ _ _ ?_)
 refine cw_true rfl ?_
 refine cw_rs fun _ κ => ?_
 refine as_q rfl rfl (q_build (zs := [(.pointer none)]) (places := [(0, 1)]) (cs := [_]) (by kernel_rfl) (by kernel_rfl) rfl rfl) ?_
 refine as_q rfl rfl (q_iface (by kernel_rfl) rfl) ?_
 refine as_q rfl rfl (q_build (zs := [.nilIface]) (places := [(0, 1)]) (cs := [_]) (by kernel_rfl) (by kernel_rfl) rfl rfl) ?_
 refine as_h0 (h_store hs1.sat hor rfl rfl rfl (by kernel_rfl) rfl rfl rfl fun w2 hs2 hn2 => ?_)
 clear hor; have hor := hn2; clear hn2
 have hT:=hT.own hs2 (by omega)
 have hz2 := hs2.size
 refine Sa rfl rfl ?_
 refine as_nil (κ _ _ ?_)
 refine cw_ret ?_
 exact ⟨_, (res_cell rfl (loadVar_n (n := 1) (by kernel_rfl) (by exact Blk.cells hor.1 rfl)) (res_tmp rfl res_nil)), _, _, rfl, hT, .c (t := .nil) (prep_nil.2 rfl) (trivial) (by simp only [Pr.els]; rfl)⟩
theorem hp_empty_4 {w : World} {M : Mem} (hs : Sat M w) :
  Does Tryz.prog 13 #[.int .i64 4] w (fun r w' => ∃ v' M', r = .tuple #[.agg #[v'], .int .i64 0] ∧ Step Nope M w M' w' ∧ HVal M' 4 [] v') := by
 have hT := Step.refl Nope hs
 refine fn_enter Tryz.func13 rfl (rs := [.cell 2 29, .tmp 3]) rfl rfl rfl rfl ?_
 refine cw_rs fun _ κ => ?_
 have hqar := hT.size
 refine as_h rfl (h_allocO (z := (.agg #[.nilIface])) hs (by kernel_rfl) rfl fun br w1 hs1 hor er => ?_)
 have hT:=hT.then hs1
 have hz1 := hs1.size
 have hlr := hor.1.lt
 refine Sa rfl rfl ?_
 refine as_nil (κ _ _ ?_)
 refine cw_seq fun _ hK2 => ?_
 refine cw_rs fun _ κ => ?_
 refine Sm rfl rfl ?_
 refine as_nil (κ _ _ ?_)
 refine cw_block ?_
 refine cw_rs fun _ κ => ?_
 refine as_q rfl rfl (q_eqF rfl rfl (by omega)) ?_
 refine Sa rfl rfl ?_
 refine as_nil (κ _ _ ?_)
 refine cw_false rfl ?_
 refine cw_rs fun _ κ => ?_
 refine as_q rfl rfl (q_eqF rfl rfl (by omega)) ?_
 refine Sa rfl rfl ?_
 refine as_nil (κ _ _ ?_)
 refine cw_false rfl ?_
 refine cw_rs fun _ κ => ?_
 refine as_q rfl rfl (q_eqF rfl rfl (by omega)) ?_
 refine Sa rfl rfl ?_
 refine as_nil (κ _ _ ?_)
 refine cw_false rfl ?_
 refine cw_rs fun _ κ => ?_
 refine as_q rfl rfl (q_eqT rfl rfl (by omega)) ?_
 refine Sa rfl rfl ?_
 refine as_nil (κ _ _ ?_)
 refine cw_true rfl ?_
 refine cw_rs fun _ κ => ?_
 refine as_q rfl rfl (q_build (zs := [(.pointer none)]) (places := [(0, 1)]) (cs := [_]) (by kernel_rfl) (by kernel_rfl) rfl rfl) ?_
 refine as_q rfl rfl (q_iface (by kernel_rfl) rfl) ?_
 refine as_q rfl rfl (q_build (zs := [.nilIface]) (places := [(0, 1)]) (cs := [_]) (by kernel_rfl) (by kernel_rfl) rfl rfl) ?_
 refine as_h0 (h_store hs1.sat hor rfl rfl rfl (by kernel_rfl) rfl rfl rfl fun w2 hs2 hn2 => ?_)
 clear hor; have hor := hn2; clear hn2
 have hT:=hT.own hs2 (by omega)
 have hz2 := hs2.size
 refine Sa rfl rfl ?_
 refine as_nil (κ _ _ ?_)
 refine cw_ret ?_
 exact ⟨_, (res_cell rfl (loadVar_n (n := 1) (by kernel_rfl) (by exact Blk.cells hor.1 rfl)) (res_tmp rfl res_nil)), _, _, rfl, hT, .d (t := []) (frep_nil.2 rfl) (trivial) rfl⟩
theorem hp_empty_5 {w : World} {M : Mem} (hs : Sat M w) :
  Does Tryz.prog 13 #[.int .i64 5] w (fun r w' => ∃ v' M', r = .tuple #[.agg #[v'], .int .i64 0] ∧ Step Nope M w M' w' ∧ HVal M' 5 [] v') := by
 have hT := Step.refl Nope hs
 refine fn_enter Tryz.func13 rfl (rs := [.cell 2 29, .tmp 3]) rfl rfl rfl rfl ?_
 refine cw_rs fun _ κ => ?_
 have hqar := hT.size
 refine as_h rfl (h_allocO (z := (.agg #[.nilIface])) hs (by kernel_rfl) rfl fun br w1 hs1 hor er => ?_)
 have hT:=hT.then hs1
 have hz1 := hs1.size
 have hlr := hor.1.lt
 refine Sa rfl rfl ?_
 refine as_nil (κ _ _ ?_)
 refine cw_seq fun _ hK2 => ?_
 refine cw_rs fun _ κ => ?_
 refine Sm rfl rfl ?_
 refine as_nil (κ _ _ ?_)
 refine cw_block ?_
 refine cw_rs fun _ κ => ?_
 refine as_q rfl rfl (q_eqF rfl rfl (by omega)) ?_
 refine Sa rfl rfl ?_
 refine as_nil (κ _ _ ?_)
 refine cw_false rfl ?_
 refine cw_rs fun _ κ => ?_
 refine as_q rfl rfl (q_eqF rfl rfl (by omega)) ?_
 refine Sa rfl rfl ?_
 refine as_nil (κ _ _ ?_)
 refine cw_false rfl ?_
 refine cw_rs fun _ κ => ?_
 refine as_q rfl rfl (q_eqF rfl rfl (by omega)) ?_
 refine Sa rfl rfl ?_
 refine as_nil (κ _ _ ?_)
 refine cw_false rfl ?_
 refine cw_rs fun _ κ => ?_
 refine as_q rfl rfl (q_eqF rfl rfl (by omega)) ?_
 refine Sa rfl rfl ?_
 refine as_nil (κ _ _ ?_)
 refine cw_false rfl ?_
 refine cw_rs fun _ κ => ?_
 refine as_q rfl rfl (q_eqT rfl rfl (by omega)) ?_
 refine Sa rfl rfl ?_
 refine as_nil (κ _ _ ?_)
 refine cw_true rfl ?_
 refine cw_rs fun _ κ => ?_
 refine as_q rfl rfl (q_build (zs := [(.pointer none)]) (places := [(0, 1)]) (cs := [_]) (by kernel_rfl) (by kernel_rfl) rfl rfl) ?_
 refine as_q rfl rfl (q_iface (by kernel_rfl) rfl) ?_
 refine as_q rfl rfl (q_build (zs := [.nilIface]) (places := [(0, 1)]) (cs := [_]) (by kernel_rfl) (by kernel_rfl) rfl rfl) ?_
 refine as_h0 (h_store hs1.sat hor rfl rfl rfl (by kernel_rfl) rfl rfl rfl fun w2 hs2 hn2 => ?_)
 clear hor; have hor := hn2; clear hn2
 have hT:=hT.own hs2 (by omega)
 have hz2 := hs2.size
 refine Sa rfl rfl ?_
 refine as_nil (κ _ _ ?_)
 refine cw_ret ?_
 exact ⟨_, (res_cell rfl (loadVar_n (n := 1) (by kernel_rfl) (by exact Blk.cells hor.1 rfl)) (res_tmp rfl res_nil)), _, _, rfl, hT, .e (t := .nil) rfl (trivial) rfl⟩
theorem hp_empty_6 {w : World} {M : Mem} (hs : Sat M w) :
  Does Tryz.prog 13 #[.int .i64 6] w (fun r w' => ∃ v' M', r = .tuple #[.agg #[v'], .int .i64 0] ∧ Step Nope M w M' w' ∧ HVal M' 6 [] v') := by
 have hT := Step.refl Nope hs
 refine fn_enter Tryz.func13 rfl (rs := [.cell 2 29, .tmp 3]) rfl rfl rfl rfl ?_
 refine cw_rs fun _ κ => ?_
 have hqar := hT.size
 refine as_h rfl (h_allocO (z := (.agg #[.nilIface])) hs (by kernel_rfl) rfl fun br w1 hs1 hor er => ?_)
 have hT:=hT.then hs1
 have hz1 := hs1.size
 have hlr := hor.1.lt
 refine Sa rfl rfl ?_
 refine as_nil (κ _ _ ?_)
 refine cw_seq fun _ hK2 => ?_
 refine cw_rs fun _ κ => ?_
 refine Sm rfl rfl ?_
 refine as_nil (κ _ _ ?_)
 refine cw_block ?_
 refine cw_rs fun _ κ => ?_
 refine as_q rfl rfl (q_eqF rfl rfl (by omega)) ?_
 refine Sa rfl rfl ?_
 refine as_nil (κ _ _ ?_)
 refine cw_false rfl ?_
 refine cw_rs fun _ κ => ?_
 refine as_q rfl rfl (q_eqF rfl rfl (by omega)) ?_
 refine Sa rfl rfl ?_
 refine as_nil (κ _ _ ?_)
 refine cw_false rfl ?_
 refine cw_rs fun _ κ => ?_
 refine as_q rfl rfl (q_eqF rfl rfl (by omega)) ?_
 refine Sa rfl rfl ?_
 refine as_nil (κ _ _ ?_)
 refine cw_false rfl ?_
 refine cw_rs fun _ κ => ?_
 refine as_q rfl rfl (q_eqF rfl rfl (by omega)) ?_
 refine Sa rfl rfl ?_
 refine as_nil (κ _ _ ?_)
 refine cw_false rfl ?_
 refine cw_rs fun _ κ => ?_
 refine as_q rfl rfl (q_eqF rfl rfl (by omega)) ?_
 refine Sa rfl rfl ?_
 refine as_nil (κ _ _ ?_)
 refine cw_false rfl ?_
 refine cw_rs fun _ κ => ?_
 refine as_q rfl rfl (q_eqT rfl rfl (by omega)) ?_
 refine Sa rfl rfl ?_
 refine as_nil (κ _ _ ?_)
 refine cw_true rfl ?_
 refine cw_rs fun _ κ => ?_
 refine as_q rfl rfl (q_build (zs := [(.pointer none)]) (places := [(0, 1)]) (cs := [_]) (by kernel_rfl) (by kernel_rfl) rfl rfl) ?_
 refine as_q rfl rfl (q_iface (by kernel_rfl) rfl) ?_
 refine as_q rfl rfl (q_build (zs := [.nilIface]) (places := [(0, 1)]) (cs := [_]) (by kernel_rfl) (by kernel_rfl) rfl rfl) ?_
 refine as_h0 (h_store hs1.sat hor rfl rfl rfl (by kernel_rfl) rfl rfl rfl fun w2 hs2 hn2 => ?_)
 clear hor; have hor := hn2; clear hn2
 have hT:=hT.own hs2 (by omega)
 have hz2 := hs2.size
 refine Sa rfl rfl ?_
 refine as_nil (κ _ _ ?_)
 refine cw_ret ?_
 exact ⟨_, (res_cell rfl (loadVar_n (n := 1) (by kernel_rfl) (by exact Blk.cells hor.1 rfl)) (res_tmp rfl res_nil)), _, _, rfl, hT, .f (t := .nil) (brep_nil.2 rfl) (trivial) (by simp only [Bt.els]; rfl)⟩
theorem hp_empty_0 {w : World} {M : Mem} {z : Int} (hs : Sat M w) (hz : ¬ (1 ≤ z ∧ z ≤ 6)) :
  Does Tryz.prog 13 #[.int .i64 z] w (fun r w' => ∃ v' M', r = .tuple #[.agg #[v'], .int .i64 22] ∧ Step Nope M w M' w' ∧ HVal M' 0 [] v') := by
 have hT := Step.refl Nope hs
 refine fn_enter Tryz.func13 rfl (rs := [.cell 2 29, .tmp 3]) rfl rfl rfl rfl ?_
 refine cw_rs fun _ κ => ?_
 have hqar := hT.size
 refine as_h rfl (h_allocO (z := (.agg #[.nilIface])) hs (by kernel_rfl) rfl fun br w1 hs1 hor er => ?_)
 have hT:=hT.then hs1
 have hz1 := hs1.size
 have hlr := hor.1.lt
 refine Sa rfl rfl ?_
 refine as_nil (κ _ _ ?_)
 refine cw_seq fun _ hK2 => ?_
 refine cw_rs fun _ κ => ?_
 refine Sm rfl rfl ?_
 refine as_nil (κ _ _ ?_)
 refine cw_block ?_
 refine cw_rs fun _ κ => ?_
 refine as_q rfl rfl (q_eqF rfl rfl (by omega)) ?_
 refine Sa rfl rfl ?_
 refine as_nil (κ _ _ ?_)
 refine cw_false rfl ?_
 refine cw_rs fun _ κ => ?_
 refine as_q rfl rfl (q_eqF rfl rfl (by omega)) ?_
 refine Sa rfl rfl ?_
 refine as_nil (κ _ _ ?_)
 refine cw_false rfl ?_
 refine cw_rs fun _ κ => ?_
 refine as_q rfl rfl (q_eqF rfl rfl (by omega)) ?_
 refine Sa rfl rfl ?_
 refine as_nil (κ _ _ ?_)
 refine cw_false rfl ?_
 refine cw_rs fun _ κ => ?_
 refine as_q rfl rfl (q_eqF rfl rfl (by omega)) ?_
 refine Sa rfl rfl ?_
 refine as_nil (κ _ _ ?_)
 refine cw_false rfl ?_
 refine cw_rs fun _ κ => ?_
 refine as_q rfl rfl (q_eqF rfl rfl (by omega)) ?_
 refine Sa rfl rfl ?_
 refine as_nil (κ _ _ ?_)
 refine cw_false rfl ?_
 refine cw_rs fun _ κ => ?_
 refine as_q rfl rfl (q_eqF rfl rfl (by omega)) ?_
 refine Sa rfl rfl ?_
 refine as_nil (κ _ _ ?_)
 refine cw_false rfl ?_
 refine cw_skip ?_
 refine hK2 _ _ ?_
 refine cw_rs fun _ κ => ?_
 refine as_q rfl rfl (q_build (zs := [.nilIface]) (places := [(0, 1)]) (cs := [_]) (by kernel_rfl) (by kernel_rfl) rfl rfl) ?_
 refine as_h0 (h_store hs1.sat hor rfl rfl rfl (by kernel_rfl) rfl rfl rfl fun w2 hs2 hn2 => ?_)
 clear hor; have hor := hn2; clear hn2
 have hT:=hT.own hs2 (by omega)
 have hz2 := hs2.size
 refine Sa rfl rfl ?_
 refine as_nil (κ _ _ ?_)
 refine cw_ret ?_
 exact ⟨_, (res_cell rfl (loadVar_n (n := 1) (by kernel_rfl) (by exact Blk.cells hor.1 rfl)) (res_tmp rfl res_nil)), _, _, rfl, hT, .z⟩
theorem hp_empty {w : World} {M : Mem} {z : Int} (hs : Sat M w) : Does Tryz.prog 13 #[.int .i64 z] w (fun r w' => ∃ v' M', r = .tuple #[.agg #[v'], .int .i64 (emE z)] ∧ Step Nope M w M' w' ∧ HVal M' (emK z) [] v') := by
 unfold emE emK
 by_cases hz : 1 ≤ z ∧ z ≤ 6
 ·
  rw [if_pos hz, if_pos hz]
  have hc : z = 1 ∨ z = 2 ∨ z = 3 ∨ z = 4 ∨ z = 5 ∨ z = 6 := by omega
  rcases hc with rfl | rfl | rfl | rfl | rfl | rfl
  · exact hp_empty_1 hs
  · exact hp_empty_2 hs
  · exact hp_empty_3 hs
  · exact hp_empty_4 hs
  · exact hp_empty_5 hs
  · exact hp_empty_6 hs
 ·
  rw [if_neg hz, if_neg hz]
  exact hp_empty_0 hs hz
theorem hp_of_1 {w : World} {M : Mem} {z : Int} {u : Value} {n : Nat} {xs : List El} (hs : Sat M w) (hr : Rds M w 2 u n (els xs)) (hn : n ≤ 1000000) (hz : (1 ≤ z ∧ z ≤ 6)) :
  Does Tryz.prog 11 #[.pointer none, .int .i64 z, u] w (fun r w' => ∃ v' M', r = .tuple #[.agg #[v'], .int .i64 (emE z)] ∧ Step Nope M w M' w' ∧ HVal M' (emK z) (ofL z xs) v') := by
 have hT := Step.refl Nope hs
 have hxl := hr.els_len hs
 obtain ⟨sa, sc, rfl, _, _⟩ := hr.slice hs
 have hof0 : ofL z [] = [] := by unfold ofL; split <;> rfl
 have hie : insE (emK z) = emE z := by unfold insE emE emK; rw [if_pos hz, if_pos hz, if_neg (by omega)]
 have hek : emK z ≠ 0 := by unfold emK; rw [if_pos hz]; omega
 have hem : emE z = 0 := by unfold emE; rw [if_pos hz]
 have hlen : ∀ i, (ofL z (xs.take i)).length ≤ n := fun i => by unfold ofL; rw [if_pos hz, srtE_length, List.length_take]; omega
 have hof1 : ∀ l x, insL (emK z) (ofL z l) x = ofL z (l ++ [x]) := fun l x => by unfold insL ofL emK; rw [if_pos hz, if_pos hz, if_pos hz, if_neg (by omega), srtE_snoc]
 refine fn_enter Tryz.func11 rfl (rs := [.cell 6 29, .tmp 7]) rfl rfl rfl rfl ?_
 refine cw_rs fun _ κ => ?_
 have hqar := hT.size
 refine as_h rfl (h_allocO (z := (.agg #[.nilIface])) hs (by kernel_rfl) rfl fun br w1 hs1 hor er => ?_)
 have hT:=hT.then hs1
 have hz1 := hs1.size
 have hlr := hor.1.lt
 refine Sa rfl rfl ?_
 refine as_nil (κ _ _ ?_)
 refine cw_rs fun _ κ => ?_
 refine Sm rfl rfl ?_
 refine as_h rfl (h_call (by kernel_rfl) rfl ?_)
 refine (hp_empty hs1.sat).mono ?_
 rintro _ w2 ⟨v0, M0, rfl, hs2, hv⟩
 have hor:=hor.then hs2
 have hT:=hT.then hs2
 have hz2 := hs2.size
 obtain ⟨d_hv, u_hv, rfl⟩ := hv.iface hek
 refine Sm rfl rfl ?_
 refine Se rfl rfl rfl ?_
 refine Se rfl rfl rfl ?_
 have hqao := hT.size
 refine as_h rfl (h_allocO (z := (.agg #[.nilIface])) hs2.sat (by kernel_rfl) rfl fun bo w3 hs3 hoo eo => ?_)
 have hor:=hor.then hs3
 have hv:=hv.mono hs3.le
 have hT:=hT.then hs3
 have hz3 := hs3.size
 have hlo := hoo.1.lt
 refine as_h0 (h_store hs3.sat hoo rfl rfl rfl (by kernel_rfl) rfl rfl rfl fun w4 hs4 hn4 => ?_)
 have hor:=hor.step hs4 (fun h => by have h : _ = _ := h; omega)
 have hv:=hv.mono hs4.le
 clear hoo; have hoo := hn4; clear hn4
 have hT:=hT.own hs4 (by omega)
 have hz4 := hs4.size
 refine Sa rfl rfl ?_
 refine as_nil (κ _ _ ?_)
 refine cw_seq fun _ hK3 => ?_
 refine cw_rs fun _ κ => ?_
 refine Sm rfl rfl ?_
 refine as_q rfl rfl (q_len (by kernel_rfl) rfl _) ?_
 refine Sm rfl rfl ?_
 refine as_nil (κ _ _ ?_)
 refine cw_block ?_
 refine cw_loop (fun mm l1 w1 => ∃ (i : Nat) (v : Value) (M1 : Mem), mm = n - i ∧ i ≤ n ∧ l1 = [(0, .pointer none), (6, .pointer (some ⟨br, 0, none⟩)), (8, .pointer (some ⟨bo, 0, none⟩)), (9, .int .i64 (emE z)), (17, .slice sa n sc), (18, .int .i64 (n : Nat)), (19, .int .i64 i)] ∧ Step Nope M w M1 w1 ∧ HVal M1 (emK z) (ofL z (xs.take i)) v ∧ Own w1 M1 bo [v] 29 ∧ Own w1 M1 br [.nilIface] 29) (n) [(0, .pointer none), (6, .pointer (some ⟨br, 0, none⟩)), (8, .pointer (some ⟨bo, 0, none⟩)), (9, .int .i64 (emE z)), (17, .slice sa n sc), (18, .int .i64 (n : Nat)), (19, .int .i64 (0 : Nat))] (.cons rfl (.cons rfl (.cons rfl (.cons rfl (.cons rfl (.cons rfl (.cons rfl (.nil _)))))))) ?_ ?_
 ·
  exact ⟨0, _, M0, rfl, Nat.zero_le _, rfl, hT, (by rw [List.take_zero, hof0]; exact hv), hoo, hor⟩
 have hbw : w.heap.size ≤ bo ∧ w.heap.size ≤ br ∧ bo ≠ br := by omega
 clear hT hv hoo hor
 rintro mm l1 w1 ⟨i, v, M1, rfl, hi, rfl, hT, hv, hoo, hor⟩
 obtain ⟨d_hv, u_hv, rfl⟩ := hv.iface hek
 have hlo1 := hoo.1.lt
 have hlr1 := hor.1.lt
 refine cw_rs fun _ κ => ?_
 refine as_q rfl rfl (q_lt rfl rfl) ?_
 refine as_nil (κ _ _ ?_)
 refine cw_seq fun _ hK6 => ?_
 refine cw_cond rfl (fun hc0 => ?_) (fun hc0 => ?_)
 ·
  have hlt : i < n := by have := of_decide_eq_true hc0; omega
  obtain ⟨y, hy⟩ : ∃ y, xs[i]? = some y := ⟨xs[i]'(by omega), by simp⟩
  obtain ⟨g, o, rfl⟩ := (hr _ _ hT).there (by omega)
  refine cw_skip ?_
  refine hK6 _ _ ?_
  refine cw_seq fun _ hK7 => ?_
  refine cw_block ?_
  refine cw_rs fun _ κ => ?_
  refine as_q rfl rfl (q_indexAddr (e := 24) (size := 2) (by kernel_rfl) (by kernel_rfl) rfl rfl (by omega) (by omega)) ?_
  refine Sc 2 rfl (by kernel_rfl) rfl ((hr _ _ hT).el (j := (i : Int).toNat) (by simpa using hy)) ?_
  have hqaxx := hT.size
  refine as_h rfl (h_allocO (z := (.agg #[(.int .i64 0), (.int .i64 0)])) hT.sat (by kernel_rfl) rfl fun bxx w5 hs5 hoxx exx => ?_)
  have hv:=hv.mono hs5.le
  have hoo:=hoo.then hs5
  have hor:=hor.then hs5
  have hT:=hT.then hs5
  have hz5 := hs5.size
  have hlxx := hoxx.1.lt
  refine as_h0 (h_store hs5.sat hoxx rfl rfl rfl (by kernel_rfl) rfl rfl rfl fun w6 hs6 hn6 => ?_)
  have hv:=hv.mono hs6.le
  have hoo:=hoo.step hs6 (fun h => by have h : _ = _ := h; omega)
  have hor:=hor.step hs6 (fun h => by have h : _ = _ := h; omega)
  clear hoxx; have hoxx := hn6; clear hn6
  have hT:=hT.own hs6 (by omega)
  have hz6 := hs6.size
  refine as_nil (κ _ _ ?_)
  refine cw_rs fun _ κ => ?_
  refine Sm rfl rfl ?_
  refine as_q rfl rfl (q_eqT rfl rfl (by omega)) ?_
  refine as_nil (κ _ _ ?_)
  refine cw_true rfl ?_
  refine cw_region fun _ κ => ?_
  refine Sc 1 rfl (by kernel_rfl) rfl (by exact Blk.cells hoo.1 rfl) ?_
  refine Sm rfl rfl ?_
  refine Sc 2 rfl (by kernel_rfl) rfl (by exact Blk.cells hoxx.1 rfl) ?_
  refine as_h rfl (h_call (by kernel_rfl) rfl ?_)
  refine (hp_insert (x := y) hs6.sat hv (by have := hlen i; omega)).mono ?_
  rintro _ w7 ⟨v2, M2, hr2, hs7, hv2⟩
  rw [hie] at hr2
  subst hr2
  have hv:=hv.mono hs7.le
  have hoo:=hoo.then hs7
  have hor:=hor.then hs7
  have hT:=hT.then hs7
  have hz7 := hs7.size
  obtain ⟨d_hv2, u_hv2, rfl⟩ := hv2.iface hek
  refine Sm rfl rfl ?_
  refine Se rfl rfl rfl ?_
  refine Se rfl rfl rfl ?_
  refine as_h0 (h_store hs7.sat hoo rfl rfl rfl (by kernel_rfl) rfl rfl rfl fun w8 hs8 hn8 => ?_)
  have hv:=hv.mono hs8.le
  have hor:=hor.step hs8 (fun h => by have h : br = bo := h; omega)
  have hv2:=hv2.mono hs8.le
  clear hoo; have hoo := hn8; clear hn8
  have hT:=hT.own hs8 (by omega)
  have hz8 := hs8.size
  refine Sa rfl rfl ?_
  refine as_nil (κ _ _ ?_)
  refine hK7 _ _ ?_
  refine cw_region fun _ κ => ?_
  refine as_q rfl rfl (q_addx rfl rfl (by omega) (by omega)) ?_
  refine Sm rfl rfl ?_
  refine as_nil (κ _ _ ?_)
  refine ⟨_, _, ?_, (.cons rfl (.cons rfl (.cons rfl (.cons rfl (.cons rfl (.cons rfl (.cons rfl (.nil _)))))))), i + 1, _, _, rfl, by omega, rfl, hT, ?_, hoo, hor⟩
  · omega
  · rw [List.take_add_one, hy]; exact hof1 _ _ ▸ hv2
 ·
  have hge : i = n := by have := of_decide_eq_false hc0; omega
  refine cw_exit ?_
  refine hK3 _ _ ?_
  refine cw_rs fun _ κ => ?_
  refine Sc 1 rfl (by kernel_rfl) rfl (by exact Blk.cells hoo.1 rfl) ?_
  refine Sm rfl rfl ?_
  refine as_h0 (h_store hT.sat hor rfl rfl rfl (by kernel_rfl) rfl rfl rfl fun w9 hs9 hn9 => ?_)
  have hv:=hv.mono hs9.le
  clear hor; have hor := hn9; clear hn9
  have hT:=hT.own hs9 (by omega)
  have hz9 := hs9.size
  refine Sa rfl rfl ?_
  refine as_nil (κ _ _ ?_)
  refine cw_ret ?_
  subst hge
  rw [List.take_of_length_le (by omega)] at hv
  exact ⟨_, (res_cell rfl (loadVar_n (n := 1) (by kernel_rfl) (by exact Blk.cells hor.1 rfl)) (res_tmp rfl res_nil)), _, _, rfl, hT, hv⟩
theorem hp_of_0 {w : World} {M : Mem} {z : Int} {u : Value} {n : Nat} {xs : List El} (hs : Sat M w) (hr : Rds M w 2 u n (els xs)) (hn : n ≤ 1000000) (hz : ¬ (1 ≤ z ∧ z ≤ 6)) :
  Does Tryz.prog 11 #[.pointer none, .int .i64 z, u] w (fun r w' => ∃ v' M', r = .tuple #[.agg #[v'], .int .i64 (emE z)] ∧ Step Nope M w M' w' ∧ HVal M' (emK z) (ofL z xs) v') := by
 have hT := Step.refl Nope hs
 have hxl := hr.els_len hs
 obtain ⟨sa, sc, rfl, _, _⟩ := hr.slice hs
 have hof0 : ofL z [] = [] := by unfold ofL; split <;> rfl
 have hek : emK z = 0 := by unfold emK; rw [if_neg hz]
 have hem : emE z = 22 := by unfold emE; rw [if_neg hz]
 have hofb : ∀ l, ofL z l = [] := fun l => by unfold ofL; rw [if_neg hz]
 refine fn_enter Tryz.func11 rfl (rs := [.cell 6 29, .tmp 7]) rfl rfl rfl rfl ?_
 refine cw_rs fun _ κ => ?_
 have hqar := hT.size
 refine as_h rfl (h_allocO (z := (.agg #[.nilIface])) hs (by kernel_rfl) rfl fun br w1 hs1 hor er => ?_)
 have hT:=hT.then hs1
 have hz1 := hs1.size
 have hlr := hor.1.lt
 refine Sa rfl rfl ?_
 refine as_nil (κ _ _ ?_)
 refine cw_rs fun _ κ => ?_
 refine Sm rfl rfl ?_
 refine as_h rfl (h_call (by kernel_rfl) rfl ?_)
 refine (hp_empty hs1.sat).mono ?_
 rintro _ w2 ⟨v0, M0, rfl, hs2, hv⟩
 have hor:=hor.then hs2
 have hT:=hT.then hs2
 have hz2 := hs2.size
 obtain ⟨_, rfl⟩ := HVal.zero (hek ▸ hv)
 refine Sm rfl rfl ?_
 refine Se rfl rfl rfl ?_
 refine Se rfl rfl rfl ?_
 have hqao := hT.size
 refine as_h rfl (h_allocO (z := (.agg #[.nilIface])) hs2.sat (by kernel_rfl) rfl fun bo w3 hs3 hoo eo => ?_)
 have hor:=hor.then hs3
 have hv:=hv.mono hs3.le
 have hT:=hT.then hs3
 have hz3 := hs3.size
 have hlo := hoo.1.lt
 refine as_h0 (h_store hs3.sat hoo rfl rfl rfl (by kernel_rfl) rfl rfl rfl fun w4 hs4 hn4 => ?_)
 have hor:=hor.step hs4 (fun h => by have h : _ = _ := h; omega)
 have hv:=hv.mono hs4.le
 clear hoo; have hoo := hn4; clear hn4
 have hT:=hT.own hs4 (by omega)
 have hz4 := hs4.size
 refine Sa rfl rfl ?_
 refine as_nil (κ _ _ ?_)
 refine cw_seq fun _ hK3 => ?_
 refine cw_rs fun _ κ => ?_
 refine Sm rfl rfl ?_
 refine as_q rfl rfl (q_len (by kernel_rfl) rfl _) ?_
 refine Sm rfl rfl ?_
 refine as_nil (κ _ _ ?_)
 refine cw_block ?_
 refine cw_loop (fun mm l1 w1 => ∃ (i : Nat) (v : Value) (M1 : Mem), mm = n - i ∧ i ≤ n ∧ l1 = [(0, .pointer none), (6, .pointer (some ⟨br, 0, none⟩)), (8, .pointer (some ⟨bo, 0, none⟩)), (9, .int .i64 (emE z)), (17, .slice sa n sc), (18, .int .i64 (n : Nat)), (19, .int .i64 i)] ∧ Step Nope M w M1 w1 ∧ HVal M1 (emK z) (ofL z (xs.take i)) v ∧ Own w1 M1 bo [v] 29 ∧ Own w1 M1 br [.nilIface] 29) (n) [(0, .pointer none), (6, .pointer (some ⟨br, 0, none⟩)), (8, .pointer (some ⟨bo, 0, none⟩)), (9, .int .i64 (emE z)), (17, .slice sa n sc), (18, .int .i64 (n : Nat)), (19, .int .i64 (0 : Nat))] (.cons rfl (.cons rfl (.cons rfl (.cons rfl (.cons rfl (.cons rfl (.cons rfl (.nil _)))))))) ?_ ?_
 ·
  exact ⟨0, _, M0, rfl, Nat.zero_le _, rfl, hT, (by rw [List.take_zero, hof0]; exact hv), hoo, hor⟩
 have hbw : w.heap.size ≤ bo ∧ w.heap.size ≤ br ∧ bo ≠ br := by omega
 clear hT hv hoo hor
 rintro mm l1 w1 ⟨i, v, M1, rfl, hi, rfl, hT, hv, hoo, hor⟩
 obtain ⟨_, rfl⟩ := HVal.zero (hek ▸ hv)
 have hlo1 := hoo.1.lt
 have hlr1 := hor.1.lt
 refine cw_rs fun _ κ => ?_
 refine as_q rfl rfl (q_lt rfl rfl) ?_
 refine as_nil (κ _ _ ?_)
 refine cw_seq fun _ hK6 => ?_
 refine cw_cond rfl (fun hc0 => ?_) (fun hc0 => ?_)
 ·
  have hlt : i < n := by have := of_decide_eq_true hc0; omega
  obtain ⟨y, hy⟩ : ∃ y, xs[i]? = some y := ⟨xs[i]'(by omega), by simp⟩
  obtain ⟨g, o, rfl⟩ := (hr _ _ hT).there (by omega)
  refine cw_skip ?_
  refine hK6 _ _ ?_
  refine cw_seq fun _ hK7 => ?_
  refine cw_block ?_
  refine cw_rs fun _ κ => ?_
  refine as_q rfl rfl (q_indexAddr (e := 24) (size := 2) (by kernel_rfl) (by kernel_rfl) rfl rfl (by omega) (by omega)) ?_
  refine Sc 2 rfl (by kernel_rfl) rfl ((hr _ _ hT).el (j := (i : Int).toNat) (by simpa using hy)) ?_
  have hqaxx := hT.size
  refine as_h rfl (h_allocO (z := (.agg #[(.int .i64 0), (.int .i64 0)])) hT.sat (by kernel_rfl) rfl fun bxx w5 hs5 hoxx exx => ?_)
  have hv:=hv.mono hs5.le
  have hoo:=hoo.then hs5
  have hor:=hor.then hs5
  have hT:=hT.then hs5
  have hz5 := hs5.size
  have hlxx := hoxx.1.lt
  refine as_h0 (h_store hs5.sat hoxx rfl rfl rfl (by kernel_rfl) rfl rfl rfl fun w6 hs6 hn6 => ?_)
  have hv:=hv.mono hs6.le
  have hoo:=hoo.step hs6 (fun h => by have h : _ = _ := h; omega)
  have hor:=hor.step hs6 (fun h => by have h : _ = _ := h; omega)
  clear hoxx; have hoxx := hn6; clear hn6
  have hT:=hT.own hs6 (by omega)
  have hz6 := hs6.size
  refine as_nil (κ _ _ ?_)
  refine cw_rs fun _ κ => ?_
  refine Sm rfl rfl ?_
  refine as_q rfl rfl (q_eqF rfl rfl (by omega)) ?_
  refine as_nil (κ _ _ ?_)
  refine cw_false rfl ?_
  refine cw_skip ?_
  refine hK7 _ _ ?_
  refine cw_region fun _ κ => ?_
  refine as_q rfl rfl (q_addx rfl rfl (by omega) (by omega)) ?_
  refine Sm rfl rfl ?_
  refine as_nil (κ _ _ ?_)
  refine ⟨_, _, ?_, (.cons rfl (.cons rfl (.cons rfl (.cons rfl (.cons rfl (.cons rfl (.cons rfl (.nil _)))))))), i + 1, _, _, rfl, by omega, rfl, hT, ?_, hoo, hor⟩
  · omega
  · rw [hofb] at hv ⊢; exact hv
 ·
  have hge : i = n := by have := of_decide_eq_false hc0; omega
  refine cw_exit ?_
  refine hK3 _ _ ?_
  refine cw_rs fun _ κ => ?_
  refine Sc 1 rfl (by kernel_rfl) rfl (by exact Blk.cells hoo.1 rfl) ?_
  refine Sm rfl rfl ?_
  refine as_h0 (h_store hT.sat hor rfl rfl rfl (by kernel_rfl) rfl rfl rfl fun w7 hs7 hn7 => ?_)
  have hv:=hv.mono hs7.le
  clear hor; have hor := hn7; clear hn7
  have hT:=hT.own hs7 (by omega)
  have hz7 := hs7.size
  refine Sa rfl rfl ?_
  refine as_nil (κ _ _ ?_)
  refine cw_ret ?_
  subst hge
  rw [List.take_of_length_le (by omega)] at hv
  exact ⟨_, (res_cell rfl (loadVar_n (n := 1) (by kernel_rfl) (by exact Blk.cells hor.1 rfl)) (res_tmp rfl res_nil)), _, _, rfl, hT, hv⟩
theorem hp_of {w : World} {M : Mem} {z : Int} {u : Value} {n : Nat} {xs : List El} (hs : Sat M w) (hr : Rds M w 2 u n (els xs)) (hn : n ≤ 1000000) : Does Tryz.prog 11 #[.pointer none, .int .i64 z, u] w (fun r w' => ∃ v' M', r = .tuple #[.agg #[v'], .int .i64 (emE z)] ∧ Step Nope M w M' w' ∧ HVal M' (emK z) (ofL z xs) v') := by
 by_cases hz : 1 ≤ z ∧ z ≤ 6
 · exact hp_of_1 hs hr hn hz
 · exact hp_of_0 hs hr hn hz
end Go.Proofs.YtgcgjpfjjgalmaaGreat
/- Leftist heaps as texts, part 1. -/
namespace Go.Proofs.YtgcgjpfjjgalmaaGreat
open Go Go.Eng
def ShL (ns : List Int) (t : Lft) (s : List UInt8) : Prop := ∀ M w p, Sat M w → TabM ns M → LRep 171 M t p → Does Tryz.prog 89 #[.agg #[p]] w (fun v w' => v = .string ⟨s.toArray⟩ ∧ ∃ M', Step Nope M w M' w')
theorem l_show_0 {w : World} {M : Mem} (hs : Sat M w) :
  Does Tryz.prog 89 #[.agg #[.pointer none]] w (fun v w' => v = .string ⟨[46].toArray⟩ ∧ ∃ M', Step Nope M w M' w') := by
 have hT := Step.refl Nope hs
 refine fn_enter Tryz.func89 rfl (rs := [.tmp 2]) rfl rfl rfl rfl ?_
 refine cw_rs fun _ κ => ?_
 refine as_h rfl (h_boxM hs rfl rfl fun b1 M1 w1 hs1 hb1 e1 => ?_)
 have hT:=hT.then hs1
 refine Sa rfl rfl ?_
 refine as_nil (κ _ _ ?_)
 refine cw_seq fun _ hK2 => ?_
 refine cw_rs fun _ κ => ?_
 refine Sf 0 rfl (by kernel_rfl) rfl ?_
 refine S1 rfl (by kernel_rfl) rfl (by exact BlkR.cell (hs1.sat _ _ _ hb1) rfl) ?_
 refine as_q rfl rfl (q_eqnil (by kernel_rfl) rfl) ?_
 refine as_nil (κ _ _ ?_)
 refine cw_true rfl ?_
 refine cw_rs fun _ κ => ?_
 refine Sa rfl rfl ?_
 refine as_nil (κ _ _ ?_)
 refine cw_ret ?_
 exact ⟨_, (res_tmp rfl res_nil), rfl, _, hT⟩
theorem l_show_1 {w : World} {M : Mem} {x : El} {l r : Lft} {p : Value} {ns : List Int} {s0 sl sr : List UInt8} (hs : Sat M w) (ht : TabM ns M) (h : LRep 171 M (.node x l r) p) (hx : TextE ns x s0) (hsl : ShL ns l sl) (hsr : ShL ns r sr) (h0 : s0.length ≤ 60) (h1 : sl.length ≤ 1000000000000) (h2 : sr.length ≤ 1000000000000) :
  Does Tryz.prog 89 #[.agg #[p]] w (fun v w' => v = .string ⟨([40] ++ s0 ++ [32] ++ sl ++ [32] ++ sr ++ [41]).toArray⟩ ∧ ∃ M', Step Nope M w M' w') := by
 have hT := Step.refl Nope hs
 obtain ⟨b, pl, pr, rfl, hb, hl, hr⟩ := h
 obtain ⟨ql, rfl⟩ := hl.ptr
 obtain ⟨qr, rfl⟩ := hr.ptr
 refine fn_enter Tryz.func89 rfl (rs := [.tmp 2]) rfl rfl rfl rfl ?_
 refine cw_rs fun _ κ => ?_
 refine as_h rfl (h_boxM hs rfl rfl fun b1 M1 w1 hs1 hb1 e1 => ?_)
 have ht:=ht.mono hs1.le
 have hb:=hs1.le _ _ hb
 have hl:=hl.mono hs1.le
 have hr:=hr.mono hs1.le
 have hT:=hT.then hs1
 have hz1 := hs1.size
 refine Sa rfl rfl ?_
 refine as_nil (κ _ _ ?_)
 refine cw_seq fun _ hK2 => ?_
 refine cw_rs fun _ κ => ?_
 refine Sf 0 rfl (by kernel_rfl) rfl ?_
 refine S1 rfl (by kernel_rfl) rfl (by exact BlkR.cell (hs1.sat _ _ _ hb1) rfl) ?_
 refine as_q rfl rfl (q_eqnil (by kernel_rfl) rfl) ?_
 refine as_nil (κ _ _ ?_)
 refine cw_false rfl ?_
 refine cw_skip ?_
 refine hK2 _ _ ?_
 refine cw_dr (by kernel_rfl) fun _ κ => ?_
 have hs2 := Step.drew hs1.sat
 have hz2 := hs2.size
 have ht:=ht.mono hs2.le
 have hb:=hs2.le _ _ hb
 have hl:=hl.mono hs2.le
 have hr:=hr.mono hs2.le
 have hb1:=hs2.le _ _ hb1
 have hT:=hT.then hs2
 refine Df 0 1 0 rfl (by kernel_rfl) (by kernel_rfl) rfl ?_
 refine Dl1 1 3 rfl (by kernel_rfl) (by kernel_rfl) rfl (by exact BlkR.cell (hs2.sat _ _ _ hb1) rfl) ?_
 refine Dq 2 7 rfl (by kernel_rfl) (fun _ => (q_nilp rfl)) ?_
 refine Df 3 15 0 rfl (by kernel_rfl) (by kernel_rfl) rfl ?_
 refine Dlc 4 31 2 rfl (by kernel_rfl) (by kernel_rfl) rfl (by exact BlkR.cells (hs2.sat _ _ _ hb) rfl) ?_
 refine Df 8 287 0 rfl (by kernel_rfl) (by kernel_rfl) rfl ?_
 refine Dl1 9 799 rfl (by kernel_rfl) (by kernel_rfl) rfl (by exact BlkR.cell (hs2.sat _ _ _ hb1) rfl) ?_
 refine Dq 10 1823 rfl (by kernel_rfl) (fun _ => (q_nilp rfl)) ?_
 refine Df 11 3871 2 rfl (by kernel_rfl) (by kernel_rfl) rfl ?_
 refine Dlc 12 7967 1 rfl (by kernel_rfl) (by kernel_rfl) rfl (by exact BlkR.cells (hs2.sat _ _ _ hb) rfl) ?_
 refine Df 16 73503 0 rfl (by kernel_rfl) (by kernel_rfl) rfl ?_
 refine Dl1 17 204575 rfl (by kernel_rfl) (by kernel_rfl) rfl (by exact BlkR.cell (hs2.sat _ _ _ hb1) rfl) ?_
 refine Dq 18 466719 rfl (by kernel_rfl) (fun _ => (q_nilp rfl)) ?_
 refine Df 19 991007 3 rfl (by kernel_rfl) (by kernel_rfl) rfl ?_
 refine Dlc 20 2039583 1 rfl (by kernel_rfl) (by kernel_rfl) rfl (by exact BlkR.cells (hs2.sat _ _ _ hb) rfl) ?_
 refine Dh 5 2039615 rfl (by kernel_rfl) (keep_sift (bs := [F,F,F,F,T,F]) (by kernel_rfl)) (h_call (by kernel_rfl) rfl ?_)
 refine (hx _ _ hs2.sat ht).mono ?_
 rintro _ w3 ⟨rfl, Ms3, hs3⟩
 have ht:=ht.mono hs3.le
 have hb:=hs3.le _ _ hb
 have hl:=hl.mono hs3.le
 have hr:=hr.mono hs3.le
 have hb1:=hs3.le _ _ hb1
 have hT:=hT.then hs3
 have hz3 := hs3.size
 refine ⟨(by repeat' first | exact trivial | exact BlkR.cell (hs3.sat _ _ _ hb) rfl | exact BlkR.cells (hs3.sat _ _ _ hb) rfl | exact BlkR.cell (hs3.sat _ _ _ hb1) rfl | exact BlkR.cells (hs3.sat _ _ _ hb1) rfl | assumption | refine all_keep ?_ | refine And.intro ?_ ?_), ?_⟩
 refine Dq 6 2039679 rfl (by kernel_rfl) (fun _ => (q_catL rfl rfl (by simp only [List.length_append, List.length_cons, List.length_nil]; omega))) ?_
 refine Dq 7 2039807 rfl (by kernel_rfl) (fun _ => (q_catL rfl rfl (by simp only [List.length_append, List.length_cons, List.length_nil]; omega))) ?_
 refine Dh 13 2047999 rfl (by kernel_rfl) (keep_sift (bs := [F,F,T,F,F]) (by kernel_rfl)) (h_call (by kernel_rfl) rfl ?_)
 refine (hsl _ _ _ hs3.sat ht hl).mono ?_
 rintro _ w4 ⟨rfl, Ms4, hs4⟩
 have ht:=ht.mono hs4.le
 have hb:=hs4.le _ _ hb
 have hr:=hr.mono hs4.le
 have hb1:=hs4.le _ _ hb1
 have hT:=hT.then hs4
 have hz4 := hs4.size
 refine ⟨(by repeat' first | exact trivial | exact BlkR.cell (hs4.sat _ _ _ hb) rfl | exact BlkR.cells (hs4.sat _ _ _ hb) rfl | exact BlkR.cell (hs4.sat _ _ _ hb1) rfl | exact BlkR.cells (hs4.sat _ _ _ hb1) rfl | assumption | refine all_keep ?_ | refine And.intro ?_ ?_), ?_⟩
 refine Dq 14 2064383 rfl (by kernel_rfl) (fun _ => (q_catL rfl rfl (by simp only [List.length_append, List.length_cons, List.length_nil]; omega))) ?_
 refine Dq 15 2097151 rfl (by kernel_rfl) (fun _ => (q_catL rfl rfl (by simp only [List.length_append, List.length_cons, List.length_nil]; omega))) ?_
 refine Dh 21 4194303 rfl (by kernel_rfl) (keep_sift (bs := [T,F,F,F]) (by kernel_rfl)) (h_call (by kernel_rfl) rfl ?_)
 refine (hsr _ _ _ hs4.sat ht hr).mono ?_
 rintro _ w5 ⟨rfl, Ms5, hs5⟩
 have hb:=hs5.le _ _ hb
 have hb1:=hs5.le _ _ hb1
 have hT:=hT.then hs5
 have hz5 := hs5.size
 refine ⟨(by repeat' first | exact trivial | exact BlkR.cell (hs5.sat _ _ _ hb) rfl | exact BlkR.cells (hs5.sat _ _ _ hb) rfl | exact BlkR.cell (hs5.sat _ _ _ hb1) rfl | exact BlkR.cells (hs5.sat _ _ _ hb1) rfl | assumption | refine all_keep ?_ | refine And.intro ?_ ?_), ?_⟩
 refine Dq 22 8388607 rfl (by kernel_rfl) (fun _ => (q_catL rfl rfl (by simp only [List.length_append, List.length_cons, List.length_nil]; omega))) ?_
 refine Dq 23 16777215 rfl (by kernel_rfl) (fun _ => (q_catL rfl rfl (by simp only [List.length_append, List.length_cons, List.length_nil]; omega))) ?_
 refine Da 24 33554431 rfl (by kernel_rfl) rfl ?_
 refine Dd (by kernel_rfl) (κ _ _ ?_)
 refine cw_ret ?_
 exact ⟨_, (res_tmp rfl res_nil), rfl, _, hT⟩
theorem l_show_ex {ns : List Int} (hn : ns.length = 20) : ∀ (t : Lft) (_ : ∀ x ∈ t.els, ElOk x) (_ : t.size ≤ 1000000000), ∃ s, s.length ≤ 70 * (2 * t.size + 1) ∧ ShL ns t s
 | .nil, _, _ => ⟨[46], by simp only [Lft.size, List.length_cons, List.length_nil]; omega, fun M w p hs ht h => by obtain rfl := h; exact l_show_0 hs⟩
 | .node x l r, hx, hz => by
  have hz' : 1 + l.size + r.size ≤ 1000000000 := hz
  simp only [Lft.els, List.mem_cons, List.mem_append] at hx
  obtain ⟨s0, a0, b0⟩ := textE_ex hn (hx x (.inl rfl))
  obtain ⟨sl, a1, b1⟩ := l_show_ex hn l (fun y hy => hx y (.inr (.inl hy))) (by omega)
  obtain ⟨sr, a2, b2⟩ := l_show_ex hn r (fun y hy => hx y (.inr (.inr hy))) (by omega)
  refine ⟨[40] ++ s0 ++ [32] ++ sl ++ [32] ++ sr ++ [41], ?_, fun M w p hs ht h => l_show_1 hs ht h b0 b1 b2 a0 (by omega) (by omega)⟩
  simp only [List.length_append, List.length_cons, List.length_nil, Lft.size]; omega
end Go.Proofs.YtgcgjpfjjgalmaaGreat
/- A builder of texts: what it holds, and what is written into it. -/
namespace Go.Proofs.YtgcgjpfjjgalmaaGreat
open Go Go.Eng
theorem step_drop {S : Nat → Prop} {M M' : Mem} {w w' : World} (k : Step S M w M' w') : Step S M w M w' where
  le := Le.refl _
  sat := fun b cs e hb => k.sat b cs e (k.le b _ hb)
  fresh := fun b x h0 h1 => by rw [h0] at h1; cases h1
  kept := k.kept
  size := k.size
  os := k.os
  output := k.output
  tape := k.tape
def Bld (B b : Nat) (l : List UInt8) (w : World) : Prop := Lib.IsBuilder 227 5 B b (Lib.byteCells l) w
theorem bat_then {S : Nat → Prop} {M M' : Mem} {w w' : World} {B b : Nat} {p : Value} {bs : List Value} (h : Lib.BuilderAt 227 5 B b p bs w) (k : Step S M w M' w') (hS : ∀ g, S g → g < B) : Lib.BuilderAt 227 5 B b p bs w' := by
  obtain ⟨h1, v, h2, ⟨h3, h4⟩, h5⟩ := h
  refine ⟨h1, v, (k.kept b (Array.getElem?_eq_some_iff.1 h2).1 (fun h => by have := hS _ h; omega)).trans h2, ⟨h3, ?_⟩, h5⟩
  rcases h4 with h4 | ⟨g, cap, cur, rfl, hbg, hh, rest⟩
  · exact .inl h4
  · exact .inr ⟨g, cap, cur, rfl, hbg, (k.kept g (Array.getElem?_eq_some_iff.1 hh).1 (fun h => by have := hS _ h; omega)).trans hh, rest⟩
theorem Bld.then {M M' : Mem} {w w' : World} {B b : Nat} {l : List UInt8} (h : Bld B b l w) (k : Step Nope M w M' w') : Bld B b l w' :=
  h.elim (fun h => .inl (bat_then h k (fun _ h => h.elim))) (fun h => .inr (bat_then h k (fun _ h => h.elim)))
theorem Bld.new {M : Mem} {w : World} {b : Nat} (h : Own w M b [.pointer none, .slice none 0 0] 227) : Bld b b [] w :=
  .inl ⟨Nat.le_refl _, _, h.1, ⟨rfl, .inl ⟨rfl, rfl⟩⟩, by simp [Value.ownBlock]⟩
theorem bld_write {M : Mem} {w : World} {B b : Nat} {l s : List UInt8} (hs : Sat M w) (hM : ∀ k x, M k = some x → k < B) (h : Bld B b l w) (hB : B ≤ w.heap.size) (hl : l.length + s.length ≤ 140737488355328) :
    Does Tryz.prog 139 #[.pointer (some ⟨b, 0, none⟩), .string ⟨s.toArray⟩] w (fun v w' => v = .tuple #[.int .i64 (s.length : Nat), .nilIface] ∧ Step (fun k => B ≤ k) M w M w' ∧ Bld B b (l ++ s) w') :=
  Does.of_calls (Any.Builder_WriteString { Tryz.lays156 with } Tryz.Builder_Extra_156 B b (Lib.byteCells l) ⟨s.toArray⟩ w h (by rw [Lib.byteCells_length]; exact hl) hB) fun e w' ⟨he, hb, hw⟩ => ⟨_, he, rfl,
    { le := Le.refl _
      sat := fun k cs e hk => (hs k cs e hk).same (hw.block k (hM k _ hk))
      fresh := fun b x h0 h1 => by rw [h0] at h1; cases h1
      kept := fun k _ hS => hw.block k (by omega)
      size := hw.size
      os := hw.os
      output := hw.output
      tape := hw.tape }, .inr (by
        have e1 : Lib.byteCells l ++ Lib.strCells ⟨s.toArray⟩ = Lib.byteCells (l ++ s) := by simp [Lib.byteCells, Lib.strCells]
        rw [← e1]
        exact hb)⟩
theorem bld_string {M : Mem} {w : World} {B b : Nat} {l : List UInt8} (hs : Sat M w) (hM : ∀ k x, M k = some x → k < B) (h : Bld B b l w) (hB : B ≤ w.heap.size) :
    Does Tryz.prog 140 #[.pointer (some ⟨b, 0, none⟩)] w (fun v w' => v = .string ⟨l.toArray⟩ ∧ Step (fun k => B ≤ k) M w M w') :=
  Does.of_calls (Any.Builder_String_any { Tryz.lays156 with } Tryz.Builder_Extra_156 B b l w h hB) fun e w' ⟨he, hw⟩ => ⟨_, he, rfl,
    { le := Le.refl _
      sat := fun k cs e hk => (hs k cs e hk).same (hw.block k (hM k _ hk))
      fresh := fun b x h0 h1 => by rw [h0] at h1; cases h1
      kept := fun k _ hS => hw.block k (by omega)
      size := hw.size
      os := hw.os
      output := hw.output
      tape := hw.tape }⟩
end Go.Proofs.YtgcgjpfjjgalmaaGreat
/- Trees as texts, part 1. -/
namespace Go.Proofs.YtgcgjpfjjgalmaaGreat
open Go Go.Eng
theorem Bld.lt {B b : Nat} {l : List UInt8} {w : World} (h : Bld B b l w) : b < w.heap.size := by
 rcases h with ⟨_, v, h, _⟩ | ⟨_, v, h, _⟩ <;> exact (Array.getElem?_eq_some_iff.1 h).1
def ShT (ns : List Int) (t : RT El) (s : List UInt8) : Prop := ∀ M w p, Sat M w → TabM ns M → TRep 220 2 EncE M t p → Does Tryz.prog 127 #[.pointer p] w (fun v w' => v = .string ⟨s.toArray⟩ ∧ ∃ M', Step Nope M w M' w')
theorem te_show_1 {w : World} {M : Mem} {x : El} {bs : List El} {ks : List (RT El)} {q : Option Addr} {ns : List Int} {s0 : List UInt8} {ss sk : List (List UInt8)} (hs : Sat M w) (ht : TabM ns M) (h : TRep 220 2 EncE M (.node x bs ks) q) (hx0 : TextE ns x s0) (hss : ∀ (i : Nat) y, bs[i]? = some y → ∃ s, ss[i]? = some s ∧ s.length ≤ 60 ∧ TextE ns y s) (hsk : ∀ (i : Nat) t, ks[i]? = some t → ∃ s, sk[i]? = some s ∧ s.length ≤ 1000000000 ∧ ShT ns t s) (h0 : s0.length ≤ 60) (hbn : bs.length ≤ 1000000) (hkn : ks.length ≤ 1000) :
  Does Tryz.prog 127 #[.pointer q] w (fun v w' => v = .string ⟨(([40] ++ s0) ++ ((ss.take bs.length).flatMap fun s => [32, 43] ++ s) ++ ((sk.take ks.length).flatMap fun s => [32] ++ s) ++ [41]).toArray⟩ ∧ ∃ M', Step Nope M w M' w') := by
 have hT := Step.refl Nope hs
 obtain ⟨b, xc, bv, bcs, kv, ka, rfl, hb, hx, hxl, hbs, hbl, hks, hkl⟩ := trep_node.1 h
 obtain rfl := (show xc = elc _ from hx)
 obtain rfl := encE_list.1 hbl
 obtain ⟨ba, bk, rfl, _, _⟩ := hbs.slice
 obtain ⟨kp, kk, rfl, _, _⟩ := hks.slice
 refine fn_enter Tryz.func127 rfl (rs := [.tmp 2]) rfl rfl rfl rfl ?_
 refine cw_rs fun _ κ => ?_
 refine Sa rfl rfl ?_
 refine as_nil (κ _ _ ?_)
 refine cw_seq fun _ hK2 => ?_
 refine cw_rs fun _ κ => ?_
 refine Sm rfl rfl ?_
 refine as_q rfl rfl (q_eqnil (by kernel_rfl) rfl) ?_
 refine as_nil (κ _ _ ?_)
 refine cw_false rfl ?_
 refine cw_skip ?_
 refine hK2 _ _ ?_
 refine cw_rs fun _ κ => ?_
 refine as_h rfl (h_allocO (z := (.agg #[(.pointer none), (.slice none 0 0)])) hs (by kernel_rfl) rfl fun bu w1 hs1 hou eu => ?_)
 have hszw := hT.size
 have hT:=hT.then hs1
 have hbd := Bld.new hou
 have hMB : ∀ k x, M k = some x → k < bu := fun k x h => by have := (hs _ _ _ h).lt; omega
 have hz1 := hs1.size
 refine as_nil (κ _ _ ?_)
 refine cw_rs fun _ κ => ?_
 refine Sm rfl rfl ?_
 refine as_q rfl rfl (q_nilp rfl) ?_
 refine Sf 1 rfl (by kernel_rfl) rfl ?_
 refine Sc 2 rfl (by kernel_rfl) rfl (by exact BlkR.cells (hs1.sat _ _ _ hb) rfl) ?_
 refine as_q rfl rfl (q_iface (by kernel_rfl) rfl) ?_
 refine as_h rfl (h_invoke (f := 86) (r := .agg (elc x).toArray) (by kernel_rfl) rfl rfl (by kernel_rfl) ?_)
 refine (el_key (x := x) hs1.sat).mono ?_
 rintro _ w2 ⟨rfl, hs2⟩
 have hbd:=hbd.then hs2
 have hT:=hT.then hs2
 have hz2 := hs2.size
 refine as_h rfl (h_call (by kernel_rfl) rfl ?_)
 refine (hx0 _ _ hs2.sat ht).mono ?_
 rintro _ w3 ⟨rfl, Ms3, hq3⟩
 have hs3 := step_drop hq3
 have hbd:=hbd.then hs3
 have hT:=hT.then hs3
 have hz3 := hs3.size
 refine as_q rfl rfl (q_catL rfl rfl (by simp only [List.length_append, List.length_cons, List.length_nil]; omega)) ?_
 refine as_h rfl (h_call (by kernel_rfl) rfl ?_)
 refine (bld_write hs3.sat hMB hbd (by have := hbd.lt; omega) (by simp only [List.length_append, List.length_cons, List.length_nil]; omega)).mono ?_
 rintro _ w4 ⟨rfl, hs4, hbd2⟩
 clear hbd; have hbd := hbd2; clear hbd2
 have hT:=hT.trans hs4 (fun k hk h => by have h : bu ≤ k := h; omega)
 have hz4 := hs4.size
 refine as_nil (κ _ _ ?_)
 refine cw_seq fun _ hK6 => ?_
 refine cw_rs fun _ κ => ?_
 refine Sm rfl rfl ?_
 refine as_q rfl rfl (q_nilp rfl) ?_
 refine Sf 3 rfl (by kernel_rfl) rfl ?_
 refine S1 rfl (by kernel_rfl) rfl (by exact BlkR.cell (hs4.sat _ _ _ hb) rfl) ?_
 refine as_q rfl rfl (q_len (by kernel_rfl) rfl _) ?_
 refine Sm rfl rfl ?_
 refine as_nil (κ _ _ ?_)
 refine cw_block ?_
 refine cw_loop (fun mm l1 wL => ∃ (i : Nat) (l : List UInt8), mm = bs.length - i ∧ i ≤ bs.length ∧ l = ([40] ++ s0) ++ ((ss.take i).flatMap fun s => [32, 43] ++ s) ∧ l.length ≤ 61 + 62 * i ∧ l1 = [(0, .pointer (some ⟨b, 0, none⟩)), (3, .pointer (some ⟨bu, 0, none⟩)), (22, .slice ba bs.length bk), (23, .int .i64 (bs.length : Nat)), (24, .int .i64 i)] ∧ Step Nope M w M wL ∧ Bld bu bu l wL) (bs.length) [(0, .pointer (some ⟨b, 0, none⟩)), (3, .pointer (some ⟨bu, 0, none⟩)), (22, .slice ba bs.length bk), (23, .int .i64 (bs.length : Nat)), (24, .int .i64 (0 : Nat))] (.cons rfl (.cons rfl (.cons rfl (.cons rfl (.cons rfl (.nil _)))))) ?_ ?_
 ·
  exact ⟨0, _, rfl, Nat.zero_le _, by simp, (by simp only [List.length_append, List.length_cons, List.length_nil]; omega), rfl, hT, hbd⟩
 have hbuw : w.heap.size ≤ bu := by omega
 clear hT hbd
 rintro mm l1 wL ⟨i, l, rfl, hi, hl, hll, rfl, hT, hbd⟩
 refine cw_rs fun _ κ => ?_
 refine as_q rfl rfl (q_lt rfl rfl) ?_
 refine as_nil (κ _ _ ?_)
 refine cw_seq fun _ hK9 => ?_
 refine cw_cond rfl (fun hc1 => ?_) (fun hc1 => ?_)
 ·
  have hlt : i < bs.length := by have := of_decide_eq_true hc1; omega
  obtain ⟨y, hy⟩ : ∃ y, bs[i]? = some y := ⟨bs[i], by simp⟩
  obtain ⟨sy, hsy, hsl, hty⟩ := hss i y hy
  obtain ⟨g, o, rfl⟩ := (hbs.rd hT.sat).there (by omega)
  refine cw_skip ?_
  refine hK9 _ _ ?_
  refine cw_seq fun _ hK10 => ?_
  refine cw_block ?_
  refine cw_rs fun _ κ => ?_
  refine as_q rfl rfl (q_indexAddr (e := 24) (size := 2) (by kernel_rfl) (by kernel_rfl) rfl rfl (by omega) (by omega)) ?_
  refine Sc 2 rfl (by kernel_rfl) rfl ((hbs.rd hT.sat).el (j := (i : Int).toNat) (by simpa using hy)) ?_
  refine as_h rfl (h_allocO (z := (.agg #[(.int .i64 0), (.int .i64 0)])) hT.sat (by kernel_rfl) rfl fun bz w5 hs5 hoz ez => ?_)
  refine as_h0 (h_store hs5.sat hoz rfl rfl rfl (by kernel_rfl) rfl rfl rfl fun w6 hs6 hoz2 => ?_)
  clear hoz; have hoz := hoz2; clear hoz2
  have hst : Step Nope M wL M w6 := hs5.trans hs6 (fun b hb h => by have h : b = bz := h; omega)
  have hbd:=hbd.then hst
  have hT:=hT.then hst
  have hz6 := hst.size
  refine as_nil (κ _ _ ?_)
  refine cw_region fun _ κ => ?_
  refine Sc 2 rfl (by kernel_rfl) rfl (Blk.cells hoz.1 rfl) ?_
  refine as_q rfl rfl (q_iface (by kernel_rfl) rfl) ?_
  refine as_h rfl (h_invoke (f := 86) (r := .agg (elc y).toArray) (by kernel_rfl) rfl rfl (by kernel_rfl) ?_)
  refine (el_key (x := y) hs6.sat).mono ?_
  rintro _ w7 ⟨rfl, hs7⟩
  have hbd:=hbd.then hs7
  have hT:=hT.then hs7
  have hz7 := hs7.size
  refine as_h rfl (h_call (by kernel_rfl) rfl ?_)
  refine (hty _ _ hs7.sat ht).mono ?_
  rintro _ w8 ⟨rfl, Ms8, hq8⟩
  have hs8 := step_drop hq8
  have hbd:=hbd.then hs8
  have hT:=hT.then hs8
  have hz8 := hs8.size
  refine as_q rfl rfl (q_catL rfl rfl (by simp only [List.length_append, List.length_cons, List.length_nil]; omega)) ?_
  refine as_h rfl (h_call (by kernel_rfl) rfl ?_)
  refine (bld_write hs8.sat hMB hbd (by have := hbd.lt; omega) (by simp only [List.length_append, List.length_cons, List.length_nil]; omega)).mono ?_
  rintro _ w9 ⟨rfl, hs9, hbd2⟩
  clear hbd; have hbd := hbd2; clear hbd2
  have hT:=hT.trans hs9 (fun k hk h => by have h : bu ≤ k := h; omega)
  have hz9 := hs9.size
  refine as_nil (κ _ _ ?_)
  refine hK10 _ _ ?_
  refine cw_region fun _ κ => ?_
  refine as_q rfl rfl (q_addx rfl rfl (by omega) (by omega)) ?_
  refine Sm rfl rfl ?_
  refine as_nil (κ _ _ ?_)
  refine ⟨_, _, ?_, (.cons rfl (.cons rfl (.cons rfl (.cons rfl (.cons rfl (.nil _)))))), i + 1, _, rfl, by omega, ?_, ?_, rfl, hT, hbd⟩
  · omega
  · rw [hl, List.take_add_one, hsy]; simp
  · simp only [List.length_append, List.length_cons, List.length_nil]; omega
 ·
  have hge : i = bs.length := by have := of_decide_eq_false hc1; omega
  subst hge
  refine cw_exit ?_
  refine hK6 _ _ ?_
  refine cw_seq fun _ hK14 => ?_
  refine cw_rs fun _ κ => ?_
  refine Sm rfl rfl ?_
  refine as_q rfl rfl (q_nilp rfl) ?_
  refine Sf 4 rfl (by kernel_rfl) rfl ?_
  refine S1 rfl (by kernel_rfl) rfl (by exact BlkR.cell (hT.sat _ _ _ hb) rfl) ?_
  refine as_q rfl rfl (q_len (by kernel_rfl) rfl _) ?_
  refine Sm rfl rfl ?_
  refine as_nil (κ _ _ ?_)
  refine cw_block ?_
  refine cw_loop (fun mm l1 wN => ∃ (j : Nat) (l : List UInt8), mm = ks.length - j ∧ j ≤ ks.length ∧ l = ([40] ++ s0) ++ ((ss.take bs.length).flatMap fun s => [32, 43] ++ s) ++ ((sk.take j).flatMap fun s => [32] ++ s) ∧ l.length ≤ 61 + 62 * bs.length + 1000000001 * j ∧ l1 = [(3, .pointer (some ⟨bu, 0, none⟩)), (38, .slice kp ks.length kk), (39, .int .i64 (ks.length : Nat)), (40, .int .i64 j)] ∧ Step Nope M w M wN ∧ Bld bu bu l wN) (ks.length) [(3, .pointer (some ⟨bu, 0, none⟩)), (38, .slice kp ks.length kk), (39, .int .i64 (ks.length : Nat)), (40, .int .i64 (0 : Nat))] (.cons rfl (.cons rfl (.cons rfl (.cons rfl (.nil _))))) ?_ ?_
  ·
   exact ⟨0, _, rfl, Nat.zero_le _, by rw [hl]; simp, by omega, rfl, hT, hbd⟩
  clear hT hbd
  rintro mm l1 wN ⟨j, l2, rfl, hj, hl2, hll2, rfl, hT, hbd⟩
  refine cw_rs fun _ κ => ?_
  refine as_q rfl rfl (q_lt rfl rfl) ?_
  refine as_nil (κ _ _ ?_)
  refine cw_seq fun _ hK17 => ?_
  refine cw_cond rfl (fun hc2 => ?_) (fun hc2 => ?_)
  ·
   have hlt : j < ks.length := by have := of_decide_eq_true hc2; omega
   obtain ⟨k1, hk1⟩ : ∃ y, ks[j]? = some y := ⟨ks[j], by simp⟩
   obtain ⟨sy, hsy, hsl, hsk1⟩ := hsk j k1 hk1
   obtain ⟨ka1, hka1, hkr⟩ := hkl.get hk1
   obtain ⟨g, o, rfl⟩ := (hks.rd hT.sat).there (by omega)
   refine cw_skip ?_
   refine hK17 _ _ ?_
   refine cw_seq fun _ hK18 => ?_
   refine cw_block ?_
   refine cw_rs fun _ κ => ?_
   refine as_q rfl rfl (q_indexAddr (e := 195) (size := 1) (by kernel_rfl) (by kernel_rfl) rfl rfl (by omega) (by omega)) ?_
   refine S1 rfl (by kernel_rfl) rfl (RdM.cell hks hT.sat (u := .pointer ka1) (j := ((j : Nat) : Int).toNat * 1) (by rw [show ((j : Nat) : Int).toNat * 1 = j by omega]; simp [ptrs, hka1])) ?_
   refine Sa rfl rfl ?_
   refine as_nil (κ _ _ ?_)
   refine cw_region fun _ κ => ?_
   refine Sm rfl rfl ?_
   refine as_h rfl (h_call (by kernel_rfl) rfl ?_)
   refine (hsk1 _ _ _ hT.sat ht hkr).mono ?_
   rintro _ w10 ⟨rfl, Ms10, hq10⟩
   have hs10 := step_drop hq10
   have hbd:=hbd.then hs10
   have hT:=hT.then hs10
   have hz10 := hs10.size
   refine as_q rfl rfl (q_catL rfl rfl (by simp only [List.length_append, List.length_cons, List.length_nil]; omega)) ?_
   refine as_h rfl (h_call (by kernel_rfl) rfl ?_)
   refine (bld_write hs10.sat hMB hbd (by have := hbd.lt; omega) (by simp only [List.length_append, List.length_cons, List.length_nil]; omega)).mono ?_
   rintro _ w11 ⟨rfl, hs11, hbd2⟩
   clear hbd; have hbd := hbd2; clear hbd2
   have hT:=hT.trans hs11 (fun k hk h => by have h : bu ≤ k := h; omega)
   have hz11 := hs11.size
   refine as_nil (κ _ _ ?_)
   refine hK18 _ _ ?_
   refine cw_region fun _ κ => ?_
   refine as_q rfl rfl (q_addx rfl rfl (by omega) (by omega)) ?_
   refine Sm rfl rfl ?_
   refine as_nil (κ _ _ ?_)
   refine ⟨_, _, ?_, (.cons rfl (.cons rfl (.cons rfl (.cons rfl (.nil _))))), j + 1, _, rfl, by omega, ?_, ?_, rfl, hT, hbd⟩
   · omega
   · rw [hl2, List.take_add_one, hsy]; simp
   · simp only [List.length_append, List.length_cons, List.length_nil]; omega
  ·
   have hge : j = ks.length := by have := of_decide_eq_false hc2; omega
   subst hge
   refine cw_exit ?_
   refine hK14 _ _ ?_
   refine cw_rs fun _ κ => ?_
   refine as_h rfl (h_call (by kernel_rfl) rfl ?_)
   refine (bld_write hT.sat hMB hbd (by have := hbd.lt; omega) (by simp only [List.length_append, List.length_cons, List.length_nil]; omega)).mono ?_
   rintro _ w12 ⟨rfl, hs12, hbd2⟩
   clear hbd; have hbd := hbd2; clear hbd2
   have hT:=hT.trans hs12 (fun k hk h => by have h : bu ≤ k := h; omega)
   have hz12 := hs12.size
   refine as_nil (κ _ _ ?_)
   refine cw_rs fun _ κ => ?_
   refine as_h rfl (h_call (by kernel_rfl) rfl ?_)
   refine (bld_string hs12.sat hMB hbd (by have := hbd.lt; omega)).mono ?_
   rintro _ w13 ⟨rfl, hs13⟩
   have hT:=hT.trans hs13 (fun k hk h => by have h : bu ≤ k := h; omega)
   refine Sa rfl rfl ?_
   refine as_nil (κ _ _ ?_)
   refine cw_ret ?_
   exact ⟨_, (res_tmp rfl res_nil), by rw [hl2]; rfl, _, hT⟩
theorem texts_ex {ns : List Int} (hn : ns.length = 20) : ∀ bs : List El, (∀ x ∈ bs, ElOk x) → ∃ ss : List (List UInt8), (∀ (i : Nat) y, bs[i]? = some y → ∃ s, ss[i]? = some s ∧ s.length ≤ 60 ∧ TextE ns y s) ∧ ((ss.take bs.length).flatMap fun s => [32, 43] ++ s).length ≤ 62 * bs.length
 | [], _ => ⟨[], fun i y h => by simp at h, by simp⟩
 | x :: r, hx => by
  obtain ⟨s, h1, h2⟩ := textE_ex hn (hx x (by simp))
  obtain ⟨ss, h3, h4⟩ := texts_ex hn r fun y hy => hx y (by simp [hy])
  refine ⟨s :: ss, fun i y h => ?_, ?_⟩
  ·
   cases i with
   | zero => cases h; exact ⟨s, rfl, h1, h2⟩
   | succ i => exact h3 i y (by simpa using h)
  · simp only [List.length_cons, List.take_succ_cons, List.flatMap_cons, List.length_append, List.length_nil]; omega
theorem sizes_ge (ks : List (RT El)) : ks.length ≤ RT.sizes ks := by
 induction ks with
 | nil => exact Nat.le_refl _
 | cons k r ih => have := RT.size_pos k; simp only [RT.sizes, List.length_cons]; omega
mutual
theorem te_show_ex {ns : List Int} (hn : ns.length = 20) : ∀ t : RT El, (∀ x ∈ RT.all t, ElOk x) → t.size ≤ 1000 → ∃ s, s.length + 1 ≤ 101 * t.size ∧ ShT ns t s
 | .node x bs ks, hx, hz => by
  simp only [RT.all, List.mem_cons, List.mem_append] at hx
  simp only [RT.size] at hz ⊢
  obtain ⟨s0, a0, b0⟩ := textE_ex hn (hx x (.inl rfl))
  obtain ⟨ss, a1, b1⟩ := texts_ex hn bs fun y hy => hx y (.inr (.inl hy))
  obtain ⟨sk, a2, b2⟩ := te_shows_ex hn ks (fun y hy => hx y (.inr (.inr hy))) (by omega)
  have hk := sizes_ge ks
  refine ⟨([40] ++ s0) ++ ((ss.take bs.length).flatMap fun s => [32, 43] ++ s) ++ ((sk.take ks.length).flatMap fun s => [32] ++ s) ++ [41], ?_, fun M w p hs ht h => te_show_1 hs ht h b0 a1 a2 a0 (by omega) (by omega)⟩
  simp only [List.length_append, List.length_cons, List.length_nil] at b1 b2 ⊢
  omega
theorem te_shows_ex {ns : List Int} (hn : ns.length = 20) : ∀ ks : List (RT El), (∀ x ∈ RT.alls ks, ElOk x) → RT.sizes ks ≤ 1000 → ∃ sk : List (List UInt8), (∀ (i : Nat) t, ks[i]? = some t → ∃ s, sk[i]? = some s ∧ s.length ≤ 1000000000 ∧ ShT ns t s) ∧ ((sk.take ks.length).flatMap fun s => [32] ++ s).length ≤ 101 * RT.sizes ks
 | [], _, _ => ⟨[], fun i y h => by simp at h, by simp⟩
 | k :: r, hx, hz => by
  simp only [RT.alls, List.mem_append] at hx
  simp only [RT.sizes] at hz ⊢
  obtain ⟨s, h1, h2⟩ := te_show_ex hn k (fun y hy => hx y (.inl hy)) (by omega)
  obtain ⟨ss, h3, h4⟩ := te_shows_ex hn r (fun y hy => hx y (.inr hy)) (by omega)
  refine ⟨s :: ss, fun i y h => ?_, ?_⟩
  ·
   cases i with
   | zero => cases h; exact ⟨s, rfl, by omega, h2⟩
   | succ i => exact h3 i y (by simpa using h)
  · simp only [List.length_cons, List.take_succ_cons, List.flatMap_cons, List.length_append, List.length_nil] at h4 ⊢; omega
end
end Go.Proofs.YtgcgjpfjjgalmaaGreat
/- Forests as texts, part 1. -/
namespace Go.Proofs.YtgcgjpfjjgalmaaGreat
open Go Go.Eng
def strs (ss : List (List UInt8)) : List Value := ss.map fun s => Value.string ⟨s.toArray⟩
def tot : List (List UInt8) → Nat
 | [] => 0
 | s :: r => s.length + 1 + tot r
theorem map_data : ∀ ss : List (List UInt8), (ss.map fun s => (⟨s.toArray⟩ : ByteArray)).map (·.data.toList) = ss
 | [] => rfl
 | s :: r => by simp only [List.map_cons]; rw [map_data r]
theorem join_le : ∀ ss : List (List UInt8), (Lib.join ss [32]).length ≤ tot ss
 | [] => by simp [Lib.join, List.intercalate]
 | [s] => by simp [Lib.join, List.intercalate, tot]
 | s :: t :: r => by
  have := join_le (t :: r)
  simp only [Lib.join, List.intercalate, List.intersperse, List.flatten_cons, List.length_append, tot, List.length_cons, List.length_nil] at this ⊢
  omega
theorem join_n {w : World} {M : Mem} {g n c : Nat} {ss : List (List UInt8)} (hs : Sat M w) (hb : Buf w M 9 1 (.slice (some ⟨g, 0, none⟩) n c) n (strs ss)) (hl : tot ss ≤ 100000000000000) (hn : n ≤ 1000000) :
  Does Tryz.prog 128 #[.slice (some ⟨g, 0, none⟩) n c, .string ⟨[32].toArray⟩] w (fun v w' => v = .string ⟨(Lib.join ss [32]).toArray⟩ ∧ Step Nope M w M w') := by
 have hln : ss.length = n := by have := hb.1.1; simpa [strs] using this
 subst hln
 have e1 : (ss.map fun s => (⟨s.toArray⟩ : ByteArray)).map (·.data.toList) = ss := map_data ss
 have e2 : (⟨[32].toArray⟩ : ByteArray).data.toList = [32] := rfl
 have hc : ss.length ≤ c := by
  obtain ⟨_, _, h, h2, _⟩ := hb.slice
  cases h; exact h2
 have hj := join_le ss
 have key := Tryz.strings_Join g 0 c (ss.map fun s => (⟨s.toArray⟩ : ByteArray)) ⟨[32].toArray⟩ w (fun j x hj => ?_) (hb.lt g rfl) (by rw [List.length_map]; omega) (by rw [List.length_map]; exact hc) (by rw [e1, e2]; omega)
 ·
  rw [List.length_map, e1, e2] at key
  exact Does.of_calls key fun e w' ⟨he, hw⟩ => ⟨_, he, rfl, Step.of_below hs hw⟩
 ·
  rw [List.getElem?_map] at hj
  obtain ⟨s, h1, rfl⟩ := Option.map_eq_some_iff.1 hj
  exact Buf.cell hb (by simp [strs, h1])
theorem fb_show_1 {w : World} {M : Mem} {ts : List (RT El)} {q : Option Addr} {ns : List Int} {sk : List (List UInt8)} (hs : Sat M w) (htM : TabM ns M) (h : FRep 197 220 2 EncE M ts q) (hsk : ∀ (i : Nat) t, ts[i]? = some t → ∃ s, sk[i]? = some s ∧ s.length ≤ 1000000000 ∧ ShT ns t s) (htot : tot (sk.take ts.length) ≤ 100000000000000) (hn : ts.length ≤ 1000) :
  Does Tryz.prog 115 #[.agg #[.pointer q]] w (fun v w' => v = .string ⟨(if ts = [] then [46] else Lib.join (sk.take ts.length) [32]).toArray⟩ ∧ ∃ M', Step Nope M w M' w') := by
 have hT := Step.refl Nope hs
 obtain ⟨qs, hc, hk⟩ := h
 have hll : ts.length = qs.length := hk.length.symm
 rw [hll] at htot hn ⊢
 refine fn_enter Tryz.func115 rfl (rs := [.tmp 2]) rfl rfl rfl rfl ?_
 refine cw_rs fun _ κ => ?_
 refine as_h rfl (h_boxM hs rfl rfl fun b1 M1 w1 hs1 hb1 e1 => ?_)
 have hc:=hc.mono hs1.le
 have hT:=hT.then hs1
 have hz1 := hs1.size
 refine Sa rfl rfl ?_
 refine as_nil (κ _ _ ?_)
 refine cw_rs fun _ κ => ?_
 refine Sa rfl rfl ?_
 refine as_nil (κ _ _ ?_)
 refine cw_seq fun _ hK3 => ?_
 refine cw_rs fun _ κ => ?_
 refine Sf 0 rfl (by kernel_rfl) rfl ?_
 refine Sc 1 rfl (by kernel_rfl) rfl (by exact BlkR.cells (hs1.sat _ _ _ hb1) rfl) ?_
 refine as_h rfl (h_call (by kernel_rfl) rfl ?_)
 refine (ce_all hs1.sat hc (by omega)).mono ?_
 rintro av w2 ⟨Ma, hs2, hba, hfa⟩
 have hT:=hT.then hs2
 have hz2 := hs2.size
 obtain ⟨aa, ac, rfl, _, _⟩ := hba.slice
 have hlba := hba.lt
 have htM:=htM.mono hT.le
 have hk:=hk.mono' EncE.mono hT.le
 have hwA := hT.size
 refine as_q rfl rfl (q_len (by kernel_rfl) rfl _) ?_
 refine Sm rfl rfl ?_
 refine as_nil (κ _ _ ?_)
 refine cw_block ?_
 refine cw_loop (fun mm l1 wL => ∃ (i : Nat) (tv : Value), mm = qs.length - i ∧ i ≤ qs.length ∧ l1 = [(3, tv), (8, .slice aa qs.length ac), (9, .int .i64 (qs.length : Nat)), (10, .int .i64 i)] ∧ Step Nope M w Ma wL ∧ w2.heap.size ≤ wL.heap.size ∧ Buf wL Ma 195 1 (.slice aa qs.length ac) qs.length (ptrs qs) ∧ Buf wL Ma 9 1 tv i (strs (sk.take i)) ∧ ∀ g, tv.ownBlock = some g → w2.heap.size ≤ g) (qs.length) [(3, .slice none 0 0), (8, .slice aa qs.length ac), (9, .int .i64 (qs.length : Nat)), (10, .int .i64 (0 : Nat))] (.cons rfl (.cons rfl (.cons rfl (.cons rfl (.nil _))))) ?_ ?_
 ·
  exact ⟨0, _, rfl, Nat.zero_le _, rfl, hT, Nat.le_refl _, hba, Buf.nil _ _ _ _, fun g hg => by cases hg⟩
 clear hT hba
 rintro mm l1 wL ⟨i, tv, rfl, hi, rfl, hT, hwL, hba, hbs, hf⟩
 refine cw_rs fun _ κ => ?_
 refine as_q rfl rfl (q_lt rfl rfl) ?_
 refine as_nil (κ _ _ ?_)
 refine cw_seq fun _ hK6 => ?_
 refine cw_cond rfl (fun hc0 => ?_) (fun hc0 => ?_)
 ·
  have hlt : i < qs.length := by have := of_decide_eq_true hc0; omega
  obtain ⟨k1, hk1⟩ : ∃ y, ts[i]? = some y := ⟨ts[i]'(by omega), by simp⟩
  obtain ⟨sy, hsy, hsl, hsk1⟩ := hsk i k1 hk1
  obtain ⟨a1, ha1, hkr⟩ := hk.get hk1
  obtain ⟨ga, ca, hqa⟩ := hba.head0 (by omega)
  cases hqa
  refine cw_skip ?_
  refine hK6 _ _ ?_
  refine cw_seq fun _ hK7 => ?_
  refine cw_block ?_
  refine cw_rs fun _ κ => ?_
  refine as_q rfl rfl (q_indexAddr (e := 195) (size := 1) (by kernel_rfl) (by kernel_rfl) rfl rfl (by omega) (by omega)) ?_
  refine S1 rfl (by kernel_rfl) rfl (Buf.cell hba (u := .pointer a1) (j := ((i : Nat) : Int).toNat * 1) (by rw [show ((i : Nat) : Int).toNat * 1 = i by omega]; simp [ptrs, ha1])) ?_
  refine Sa rfl rfl ?_
  refine as_nil (κ _ _ ?_)
  refine cw_region fun _ κ => ?_
  refine Sm rfl rfl ?_
  refine Sm rfl rfl ?_
  refine as_h rfl (h_call (by kernel_rfl) rfl ?_)
  refine (hsk1 _ _ _ hT.sat htM hkr).mono ?_
  rintro _ w3 ⟨rfl, Ms3, hq3⟩
  have hs3 := step_drop hq3
  have hba:=hba.then hs3
  have hbs:=hbs.then hs3
  have hT:=hT.then hs3
  have hz3 := hs3.size
  refine as_h rfl (h_buildO (e := 9) (size := 1) (zs := [.string ⟨#[]⟩]) (cs := [_]) (by kernel_rfl) (by kernel_rfl) (by kernel_rfl) rfl hs3.sat rfl rfl fun bp w4 hs4 hop ep => ?_)
  have hba:=hba.then hs4
  have hbs:=hbs.then hs4
  have hT:=hT.then hs4
  have hz4 := hs4.size
  have hlp := hop.1.lt
  refine as_h rfl (h_append (e := 9) (size := 1) (bytes := 16) (by kernel_rfl) hs4.sat hbs (Own.buf hop (n := 1) (size := 1) rfl (by decide)).rd rfl rfl (fun y hy => by obtain rfl := List.mem_singleton.1 hy; rfl) (by omega) rfl fun tv2 w5 hs5 hbs2 hor => ?_)
  have hba:=hba.step hs5 (fun g2 hg h => by have h1 := hf g2 h; have h2 := hlba g2 hg; omega)
  have hf2 : ∀ g, tv2.ownBlock = some g → w2.heap.size ≤ g := fun g hg => by
   rcases hor with h | h
   · exact hf g (h ▸ hg)
   · rw [h] at hg; have hg := Option.some.inj hg; omega
  have hT:=hT.trans hs5 (fun k hk h => by have := hf k h; omega)
  have hz5 := hs5.size
  refine Sa rfl rfl ?_
  refine as_nil (κ _ _ ?_)
  refine hK7 _ _ ?_
  refine cw_region fun _ κ => ?_
  refine as_q rfl rfl (q_addx rfl rfl (by omega) (by omega)) ?_
  refine Sm rfl rfl ?_
  refine as_nil (κ _ _ ?_)
  refine ⟨_, _, ?_, (.cons rfl (.cons rfl (.cons rfl (.cons rfl (.nil _))))), i + 1, _, rfl, by omega, rfl, hT, by omega, hba, ?_, hf2⟩
  · omega
  · rw [List.take_add_one, hsy]; simpa [strs] using hbs2
 ·
  have hge : i = qs.length := by have := of_decide_eq_false hc0; omega
  subst hge
  obtain ⟨ta, tc, rfl, _, _⟩ := hbs.slice
  refine cw_exit ?_
  refine hK3 _ _ ?_
  refine cw_seq fun _ hK11 => ?_
  refine cw_rs fun _ κ => ?_
  refine Sm rfl rfl ?_
  refine as_q rfl rfl (q_len (by kernel_rfl) rfl _) ?_
  refine as_q rfl rfl (q_eq rfl rfl) ?_
  refine as_nil (κ _ _ ?_)
  refine cw_cond rfl (fun hc1 => ?_) (fun hc1 => ?_)
  ·
   have hz0 : qs.length = 0 := by simpa using hc1
   refine cw_rs fun _ κ => ?_
   refine Sa rfl rfl ?_
   refine as_nil (κ _ _ ?_)
   refine cw_ret ?_
   exact ⟨_, (res_tmp rfl res_nil), by rw [if_pos (by rw [← hll] at hz0; exact List.eq_nil_of_length_eq_zero hz0)]; rfl, _, hT⟩
  ·
   have hz0 : qs.length ≠ 0 := by simpa using hc1
   obtain ⟨gt, ct, hqt⟩ := hbs.head0 (by omega)
   cases hqt
   refine cw_skip ?_
   refine hK11 _ _ ?_
   refine cw_rs fun _ κ => ?_
   refine Sm rfl rfl ?_
   refine as_h rfl (h_call (by kernel_rfl) rfl ?_)
   refine (join_n hT.sat hbs htot (by omega)).mono ?_
   rintro _ w6 ⟨rfl, hs6⟩
   have hT:=hT.then hs6
   have hz6 := hs6.size
   refine Sa rfl rfl ?_
   refine as_nil (κ _ _ ?_)
   refine cw_ret ?_
   exact ⟨_, (res_tmp rfl res_nil), by rw [if_neg (by rintro rfl; exact hz0 (by simpa using hll.symm))]; rfl, _, hT⟩
theorem fs_show_1 {w : World} {M : Mem} {ts : List (RT El)} {q : Option Addr} {ns : List Int} {sk : List (List UInt8)} (hs : Sat M w) (htM : TabM ns M) (h : FRep 197 220 2 EncE M ts q) (hsk : ∀ (i : Nat) t, ts[i]? = some t → ∃ s, sk[i]? = some s ∧ s.length ≤ 1000000000 ∧ ShT ns t s) (htot : tot (sk.take ts.length) ≤ 100000000000000) (hn : ts.length ≤ 1000) :
  Does Tryz.prog 186 #[.agg #[.pointer q]] w (fun v w' => v = .string ⟨(if ts = [] then [46] else Lib.join (sk.take ts.length) [32]).toArray⟩ ∧ ∃ M', Step Nope M w M' w') := by
 have hT := Step.refl Nope hs
 obtain ⟨qs, hc, hk⟩ := h
 have hll : ts.length = qs.length := hk.length.symm
 rw [hll] at htot hn ⊢
 refine fn_enter Tryz.func186 rfl (rs := [.tmp 2]) rfl rfl rfl rfl ?_
 refine cw_rs fun _ κ => ?_
 refine as_h rfl (h_boxM hs rfl rfl fun b1 M1 w1 hs1 hb1 e1 => ?_)
 have hc:=hc.mono hs1.le
 have hT:=hT.then hs1
 have hz1 := hs1.size
 refine Sa rfl rfl ?_
 refine as_nil (κ _ _ ?_)
 refine cw_rs fun _ κ => ?_
 refine Sa rfl rfl ?_
 refine as_nil (κ _ _ ?_)
 refine cw_seq fun _ hK3 => ?_
 refine cw_rs fun _ κ => ?_
 refine Sf 0 rfl (by kernel_rfl) rfl ?_
 refine Sc 1 rfl (by kernel_rfl) rfl (by exact BlkR.cells (hs1.sat _ _ _ hb1) rfl) ?_
 refine as_h rfl (h_call (by kernel_rfl) rfl ?_)
 refine (ce_all hs1.sat hc (by omega)).mono ?_
 rintro av w2 ⟨Ma, hs2, hba, hfa⟩
 have hT:=hT.then hs2
 have hz2 := hs2.size
 obtain ⟨aa, ac, rfl, _, _⟩ := hba.slice
 have hlba := hba.lt
 have htM:=htM.mono hT.le
 have hk:=hk.mono' EncE.mono hT.le
 have hwA := hT.size
 refine as_q rfl rfl (q_len (by kernel_rfl) rfl _) ?_
 refine Sm rfl rfl ?_
 refine as_nil (κ _ _ ?_)
 refine cw_block ?_
 refine cw_loop (fun mm l1 wL => ∃ (i : Nat) (tv : Value), mm = qs.length - i ∧ i ≤ qs.length ∧ l1 = [(3, tv), (8, .slice aa qs.length ac), (9, .int .i64 (qs.length : Nat)), (10, .int .i64 i)] ∧ Step Nope M w Ma wL ∧ w2.heap.size ≤ wL.heap.size ∧ Buf wL Ma 195 1 (.slice aa qs.length ac) qs.length (ptrs qs) ∧ Buf wL Ma 9 1 tv i (strs (sk.take i)) ∧ ∀ g, tv.ownBlock = some g → w2.heap.size ≤ g) (qs.length) [(3, .slice none 0 0), (8, .slice aa qs.length ac), (9, .int .i64 (qs.length : Nat)), (10, .int .i64 (0 : Nat))] (.cons rfl (.cons rfl (.cons rfl (.cons rfl (.nil _))))) ?_ ?_
 ·
  exact ⟨0, _, rfl, Nat.zero_le _, rfl, hT, Nat.le_refl _, hba, Buf.nil _ _ _ _, fun g hg => by cases hg⟩
 clear hT hba
 rintro mm l1 wL ⟨i, tv, rfl, hi, rfl, hT, hwL, hba, hbs, hf⟩
 refine cw_rs fun _ κ => ?_
 refine as_q rfl rfl (q_lt rfl rfl) ?_
 refine as_nil (κ _ _ ?_)
 refine cw_seq fun _ hK6 => ?_
 refine cw_cond rfl (fun hc0 => ?_) (fun hc0 => ?_)
 ·
  have hlt : i < qs.length := by have := of_decide_eq_true hc0; omega
  obtain ⟨k1, hk1⟩ : ∃ y, ts[i]? = some y := ⟨ts[i]'(by omega), by simp⟩
  obtain ⟨sy, hsy, hsl, hsk1⟩ := hsk i k1 hk1
  obtain ⟨a1, ha1, hkr⟩ := hk.get hk1
  obtain ⟨ga, ca, hqa⟩ := hba.head0 (by omega)
  cases hqa
  refine cw_skip ?_
  refine hK6 _ _ ?_
  refine cw_seq fun _ hK7 => ?_
  refine cw_block ?_
  refine cw_rs fun _ κ => ?_
  refine as_q rfl rfl (q_indexAddr (e := 195) (size := 1) (by kernel_rfl) (by kernel_rfl) rfl rfl (by omega) (by omega)) ?_
  refine S1 rfl (by kernel_rfl) rfl (Buf.cell hba (u := .pointer a1) (j := ((i : Nat) : Int).toNat * 1) (by rw [show ((i : Nat) : Int).toNat * 1 = i by omega]; simp [ptrs, ha1])) ?_
  refine Sa rfl rfl ?_
  refine as_nil (κ _ _ ?_)
  refine cw_region fun _ κ => ?_
  refine Sm rfl rfl ?_
  refine Sm rfl rfl ?_
  refine as_h rfl (h_call (by kernel_rfl) rfl ?_)
  refine (hsk1 _ _ _ hT.sat htM hkr).mono ?_
  rintro _ w3 ⟨rfl, Ms3, hq3⟩
  have hs3 := step_drop hq3
  have hba:=hba.then hs3
  have hbs:=hbs.then hs3
  have hT:=hT.then hs3
  have hz3 := hs3.size
  refine as_h rfl (h_buildO (e := 9) (size := 1) (zs := [.string ⟨#[]⟩]) (cs := [_]) (by kernel_rfl) (by kernel_rfl) (by kernel_rfl) rfl hs3.sat rfl rfl fun bp w4 hs4 hop ep => ?_)
  have hba:=hba.then hs4
  have hbs:=hbs.then hs4
  have hT:=hT.then hs4
  have hz4 := hs4.size
  have hlp := hop.1.lt
  refine as_h rfl (h_append (e := 9) (size := 1) (bytes := 16) (by kernel_rfl) hs4.sat hbs (Own.buf hop (n := 1) (size := 1) rfl (by decide)).rd rfl rfl (fun y hy => by obtain rfl := List.mem_singleton.1 hy; rfl) (by omega) rfl fun tv2 w5 hs5 hbs2 hor => ?_)
  have hba:=hba.step hs5 (fun g2 hg h => by have h1 := hf g2 h; have h2 := hlba g2 hg; omega)
  have hf2 : ∀ g, tv2.ownBlock = some g → w2.heap.size ≤ g := fun g hg => by
   rcases hor with h | h
   · exact hf g (h ▸ hg)
   · rw [h] at hg; have hg := Option.some.inj hg; omega
  have hT:=hT.trans hs5 (fun k hk h => by have := hf k h; omega)
  have hz5 := hs5.size
  refine Sa rfl rfl ?_
  refine as_nil (κ _ _ ?_)
  refine hK7 _ _ ?_
  refine cw_region fun _ κ => ?_
  refine as_q rfl rfl (q_addx rfl rfl (by omega) (by omega)) ?_
  refine Sm rfl rfl ?_
  refine as_nil (κ _ _ ?_)
  refine ⟨_, _, ?_, (.cons rfl (.cons rfl (.cons rfl (.cons rfl (.nil _))))), i + 1, _, rfl, by omega, rfl, hT, by omega, hba, ?_, hf2⟩
  · omega
  · rw [List.take_add_one, hsy]; simpa [strs] using hbs2
 ·
  have hge : i = qs.length := by have := of_decide_eq_false hc0; omega
  subst hge
  obtain ⟨ta, tc, rfl, _, _⟩ := hbs.slice
  refine cw_exit ?_
  refine hK3 _ _ ?_
  refine cw_seq fun _ hK11 => ?_
  refine cw_rs fun _ κ => ?_
  refine Sm rfl rfl ?_
  refine as_q rfl rfl (q_len (by kernel_rfl) rfl _) ?_
  refine as_q rfl rfl (q_eq rfl rfl) ?_
  refine as_nil (κ _ _ ?_)
  refine cw_cond rfl (fun hc1 => ?_) (fun hc1 => ?_)
  ·
   have hz0 : qs.length = 0 := by simpa using hc1
   refine cw_rs fun _ κ => ?_
   refine Sa rfl rfl ?_
   refine as_nil (κ _ _ ?_)
   refine cw_ret ?_
   exact ⟨_, (res_tmp rfl res_nil), by rw [if_pos (by rw [← hll] at hz0; exact List.eq_nil_of_length_eq_zero hz0)]; rfl, _, hT⟩
  ·
   have hz0 : qs.length ≠ 0 := by simpa using hc1
   obtain ⟨gt, ct, hqt⟩ := hbs.head0 (by omega)
   cases hqt
   refine cw_skip ?_
   refine hK11 _ _ ?_
   refine cw_rs fun _ κ => ?_
   refine Sm rfl rfl ?_
   refine as_h rfl (h_call (by kernel_rfl) rfl ?_)
   refine (join_n hT.sat hbs htot (by omega)).mono ?_
   rintro _ w6 ⟨rfl, hs6⟩
   have hT:=hT.then hs6
   have hz6 := hs6.size
   refine Sa rfl rfl ?_
   refine as_nil (κ _ _ ?_)
   refine cw_ret ?_
   exact ⟨_, (res_tmp rfl res_nil), by rw [if_neg (by rintro rfl; exact hz0 (by simpa using hll.symm))]; rfl, _, hT⟩
end Go.Proofs.YtgcgjpfjjgalmaaGreat
/- Rooted heaps as texts, part 1. -/
namespace Go.Proofs.YtgcgjpfjjgalmaaGreat
open Go Go.Eng
def ShFb (ns : List Int) (t : List (RT El)) (s : List UInt8) : Prop := ∀ M w p, Sat M w → TabM ns M → FRep 197 220 2 EncE M t p → Does Tryz.prog 115 #[.agg #[.pointer p]] w (fun v w' => v = .string ⟨s.toArray⟩ ∧ ∃ M', Step Nope M w M' w')
def ShFs (ns : List Int) (t : List (RT El)) (s : List UInt8) : Prop := ∀ M w p, Sat M w → TabM ns M → FRep 197 220 2 EncE M t p → Does Tryz.prog 186 #[.agg #[.pointer p]] w (fun v w' => v = .string ⟨s.toArray⟩ ∧ ∃ M', Step Nope M w M' w')
theorem tot_flat (ss : List (List UInt8)) : (ss.flatMap fun s => [32] ++ s).length = tot ss := by
 induction ss with
 | nil => rfl
 | cons s r ih => simp only [List.flatMap_cons, List.length_append, List.length_cons, List.length_nil, tot] at ih ⊢; omega
theorem f_show_ex {ns : List Int} (hn : ns.length = 20) (ts : List (RT El)) (hx : ∀ x ∈ RT.alls ts, ElOk x) (hz : RT.sizes ts ≤ 1000) : ∃ s, s.length ≤ 101 * RT.sizes ts + 1 ∧ ShFb ns ts s ∧ ShFs ns ts s := by
 obtain ⟨sk, a1, b1⟩ := te_shows_ex hn ts hx hz
 rw [tot_flat] at b1
 have hk := sizes_ge ts
 refine ⟨if ts = [] then [46] else Lib.join (sk.take ts.length) [32], ?_, fun M w p hs ht h => fb_show_1 hs ht h a1 (by omega) (by omega), fun M w p hs ht h => fs_show_1 hs ht h a1 (by omega) (by omega)⟩
 have := join_le (sk.take ts.length)
 split
 · simp
 · omega
def ShR (ns : List Int) (t : Ro) (s : List UInt8) : Prop := ∀ M w p, Sat M w → TabM ns M → RoRep 283 197 220 M t p → Does Tryz.prog 207 #[.agg #[.pointer p]] w (fun v w' => v = .string ⟨s.toArray⟩ ∧ ∃ M', Step Nope M w M' w')
theorem r_show_0 {w : World} {M : Mem} (hs : Sat M w) :
  Does Tryz.prog 207 #[.agg #[.pointer none]] w (fun v w' => v = .string ⟨[46].toArray⟩ ∧ ∃ M', Step Nope M w M' w') := by
 have hT := Step.refl Nope hs
 refine fn_enter Tryz.func207 rfl (rs := [.tmp 2]) rfl rfl rfl rfl ?_
 refine cw_rs fun _ κ => ?_
 refine as_h rfl (h_boxM hs rfl rfl fun b1 M1 w1 hs1 hb1 e1 => ?_)
 have hT:=hT.then hs1
 refine Sa rfl rfl ?_
 refine as_nil (κ _ _ ?_)
 refine cw_seq fun _ hK2 => ?_
 refine cw_rs fun _ κ => ?_
 refine Sf 0 rfl (by kernel_rfl) rfl ?_
 refine S1 rfl (by kernel_rfl) rfl (by exact BlkR.cell (hs1.sat _ _ _ hb1) rfl) ?_
 refine as_q rfl rfl (q_eqnil (by kernel_rfl) rfl) ?_
 refine as_nil (κ _ _ ?_)
 refine cw_true rfl ?_
 refine cw_rs fun _ κ => ?_
 refine Sa rfl rfl ?_
 refine as_nil (κ _ _ ?_)
 refine cw_ret ?_
 exact ⟨_, (res_tmp rfl res_nil), rfl, _, hT⟩
theorem r_show_1 {w : World} {M : Mem} {x : El} {ts : List (RT El)} {q : Option Addr} {ns : List Int} {s0 sf : List UInt8} (hs : Sat M w) (ht : TabM ns M) (h : RoRep 283 197 220 M (.node x ts) q) (hx : TextE ns x s0) (hsf : ShFs ns ts sf) (h0 : s0.length ≤ 60) (h1 : sf.length ≤ 1000000000000) :
  Does Tryz.prog 207 #[.agg #[.pointer q]] w (fun v w' => v = .string ⟨(s0 ++ [32] ++ sf).toArray⟩ ∧ ∃ M', Step Nope M w M' w') := by
 have hT := Step.refl Nope hs
 obtain ⟨b, qs, rfl, hb, hf⟩ := h
 refine fn_enter Tryz.func207 rfl (rs := [.tmp 2]) rfl rfl rfl rfl ?_
 refine cw_rs fun _ κ => ?_
 refine as_h rfl (h_boxM hs rfl rfl fun b1 M1 w1 hs1 hb1 e1 => ?_)
 have ht:=ht.mono hs1.le
 have hb:=hs1.le _ _ hb
 have hf:=hf.mono' EncE.mono hs1.le
 have hT:=hT.then hs1
 have hz1 := hs1.size
 refine Sa rfl rfl ?_
 refine as_nil (κ _ _ ?_)
 refine cw_seq fun _ hK2 => ?_
 refine cw_rs fun _ κ => ?_
 refine Sf 0 rfl (by kernel_rfl) rfl ?_
 refine S1 rfl (by kernel_rfl) rfl (by exact BlkR.cell (hs1.sat _ _ _ hb1) rfl) ?_
 refine as_q rfl rfl (q_eqnil (by kernel_rfl) rfl) ?_
 refine as_nil (κ _ _ ?_)
 refine cw_false rfl ?_
 refine cw_skip ?_
 refine hK2 _ _ ?_
 refine cw_dr (by kernel_rfl) fun _ κ => ?_
 have hs2 := Step.drew hs1.sat
 have hz2 := hs2.size
 have ht:=ht.mono hs2.le
 have hb:=hs2.le _ _ hb
 have hf:=hf.mono' EncE.mono hs2.le
 have hb1:=hs2.le _ _ hb1
 have hT:=hT.then hs2
 refine Df 0 1 0 rfl (by kernel_rfl) (by kernel_rfl) rfl ?_
 refine Dl1 1 3 rfl (by kernel_rfl) (by kernel_rfl) rfl (by exact BlkR.cell (hs2.sat _ _ _ hb1) rfl) ?_
 refine Dq 2 7 rfl (by kernel_rfl) (fun _ => (q_nilp rfl)) ?_
 refine Df 3 15 1 rfl (by kernel_rfl) (by kernel_rfl) rfl ?_
 refine Dlc 4 31 2 rfl (by kernel_rfl) (by kernel_rfl) rfl (by exact BlkR.cells (hs2.sat _ _ _ hb) rfl) ?_
 refine Df 7 159 0 rfl (by kernel_rfl) (by kernel_rfl) rfl ?_
 refine Dl1 8 415 rfl (by kernel_rfl) (by kernel_rfl) rfl (by exact BlkR.cell (hs2.sat _ _ _ hb1) rfl) ?_
 refine Dq 9 927 rfl (by kernel_rfl) (fun _ => (q_nilp rfl)) ?_
 refine Df 10 1951 0 rfl (by kernel_rfl) (by kernel_rfl) rfl ?_
 refine Dlc 11 3999 1 rfl (by kernel_rfl) (by kernel_rfl) rfl (by exact BlkR.cells (hs2.sat _ _ _ hb) rfl) ?_
 refine Dh 5 4031 rfl (by kernel_rfl) (keep_sift (bs := [F,F,T,F]) (by kernel_rfl)) (h_call (by kernel_rfl) rfl ?_)
 refine (hx _ _ hs2.sat ht).mono ?_
 rintro _ w3 ⟨rfl, Ms3, hs3⟩
 have ht:=ht.mono hs3.le
 have hb:=hs3.le _ _ hb
 have hf:=hf.mono' EncE.mono hs3.le
 have hb1:=hs3.le _ _ hb1
 have hT:=hT.then hs3
 have hz3 := hs3.size
 refine ⟨(by repeat' first | exact trivial | exact BlkR.cell (hs3.sat _ _ _ hb) rfl | exact BlkR.cells (hs3.sat _ _ _ hb) rfl | exact BlkR.cell (hs3.sat _ _ _ hb1) rfl | exact BlkR.cells (hs3.sat _ _ _ hb1) rfl | assumption | refine all_keep ?_ | refine And.intro ?_ ?_), ?_⟩
 refine Dq 6 4095 rfl (by kernel_rfl) (fun _ => (q_catL rfl rfl (by simp only [List.length_append, List.length_cons, List.length_nil]; omega))) ?_
 refine Dh 12 8191 rfl (by kernel_rfl) (keep_sift (bs := [T,F,F]) (by kernel_rfl)) (h_call (by kernel_rfl) rfl ?_)
 refine (hsf _ _ _ hs3.sat ht hf).mono ?_
 rintro _ w4 ⟨rfl, Ms4, hs4⟩
 have hb:=hs4.le _ _ hb
 have hb1:=hs4.le _ _ hb1
 have hT:=hT.then hs4
 have hz4 := hs4.size
 refine ⟨(by repeat' first | exact trivial | exact BlkR.cell (hs4.sat _ _ _ hb) rfl | exact BlkR.cells (hs4.sat _ _ _ hb) rfl | exact BlkR.cell (hs4.sat _ _ _ hb1) rfl | exact BlkR.cells (hs4.sat _ _ _ hb1) rfl | assumption | refine all_keep ?_ | refine And.intro ?_ ?_), ?_⟩
 refine Dq 13 16383 rfl (by kernel_rfl) (fun _ => (q_catL rfl rfl (by simp only [List.length_append, List.length_cons, List.length_nil]; omega))) ?_
 refine Da 14 32767 rfl (by kernel_rfl) rfl ?_
 refine Dd (by kernel_rfl) (κ _ _ ?_)
 refine cw_ret ?_
 exact ⟨_, (res_tmp rfl res_nil), rfl, _, hT⟩
theorem r_show_ex {ns : List Int} (hn : ns.length = 20) : ∀ (t : Ro) (_ : ∀ x ∈ t.els, ElOk x) (_ : t.size ≤ 1000), ∃ s, ShR ns t s
 | .nil, _, _ => ⟨[46], fun M w p hs ht h => by obtain rfl := h; exact r_show_0 hs⟩
 | .node x ts, hx, hz => by
  have hz' : 1 + RT.sizes ts ≤ 1000 := hz
  simp only [Ro.els, List.mem_cons] at hx
  obtain ⟨s0, a0, b0⟩ := textE_ex hn (hx x (.inl rfl))
  obtain ⟨sf, a1, _, b1⟩ := f_show_ex hn ts (fun y hy => hx y (.inr hy)) (by omega)
  exact ⟨s0 ++ [32] ++ sf, fun M w p hs ht h => r_show_1 hs ht h b0 b1 a0 (by omega)⟩
end Go.Proofs.YtgcgjpfjjgalmaaGreat
/- Pairing heaps as texts, part 1. -/
namespace Go.Proofs.YtgcgjpfjjgalmaaGreat
open Go Go.Eng
def ShP (ns : List Int) (t : Pr) (s : List UInt8) : Prop := ∀ M w p, Sat M w → TabM ns M → PRep 251 260 M t p → Does Tryz.prog 165 #[.agg #[.pointer p]] w (fun v w' => v = .string ⟨s.toArray⟩ ∧ ∃ M', Step Nope M w M' w')
theorem p_show_0 {w : World} {M : Mem} (hs : Sat M w) :
  Does Tryz.prog 165 #[.agg #[.pointer none]] w (fun v w' => v = .string ⟨[46].toArray⟩ ∧ ∃ M', Step Nope M w M' w') := by
 have hT := Step.refl Nope hs
 refine fn_enter Tryz.func165 rfl (rs := [.tmp 2]) rfl rfl rfl rfl ?_
 refine cw_rs fun _ κ => ?_
 refine as_h rfl (h_boxM hs rfl rfl fun b1 M1 w1 hs1 hb1 e1 => ?_)
 have hT:=hT.then hs1
 refine Sa rfl rfl ?_
 refine as_nil (κ _ _ ?_)
 refine cw_seq fun _ hK2 => ?_
 refine cw_rs fun _ κ => ?_
 refine Sf 0 rfl (by kernel_rfl) rfl ?_
 refine S1 rfl (by kernel_rfl) rfl (by exact BlkR.cell (hs1.sat _ _ _ hb1) rfl) ?_
 refine as_q rfl rfl (q_eqnil (by kernel_rfl) rfl) ?_
 refine as_nil (κ _ _ ?_)
 refine cw_true rfl ?_
 refine cw_rs fun _ κ => ?_
 refine Sa rfl rfl ?_
 refine as_nil (κ _ _ ?_)
 refine cw_ret ?_
 exact ⟨_, (res_tmp rfl res_nil), rfl, _, hT⟩
theorem p_show_1 {w : World} {M : Mem} {x : El} {ts : List Pr} {q : Option Addr} {ns : List Int} {s0 : List UInt8} {sk : List (List UInt8)} (hs : Sat M w) (ht : TabM ns M) (h : PRep 251 260 M (.node x ts) q) (hx : TextE ns x s0) (hsk : ∀ (i : Nat) t, ts[i]? = some t → ∃ s, sk[i]? = some s ∧ s.length ≤ 1000000000 ∧ ShP ns t s) (h0 : s0.length ≤ 60) (htot : tot (s0 :: sk.take ts.length) ≤ 100000000000000) (hn : ts.length ≤ 1000) :
  Does Tryz.prog 165 #[.agg #[.pointer q]] w (fun v w' => v = .string ⟨([40] ++ Lib.join (s0 :: sk.take ts.length) [32] ++ [41]).toArray⟩ ∧ ∃ M', Step Nope M w M' w') := by
 have hT := Step.refl Nope hs
 obtain ⟨b, kq, qs, rfl, hb, hc, hk⟩ := prep_node.1 h
 have hll : ts.length = qs.length := hk.length.symm
 rw [hll] at htot hn ⊢
 refine fn_enter Tryz.func165 rfl (rs := [.tmp 2]) rfl rfl rfl rfl ?_
 refine cw_rs fun _ κ => ?_
 refine as_h rfl (h_boxM hs rfl rfl fun b1 M1 w1 hs1 hb1 e1 => ?_)
 have ht:=ht.mono hs1.le
 have hb:=hs1.le _ _ hb
 have hc:=hc.mono hs1.le
 have hk:=hk.mono hs1.le
 have hT:=hT.then hs1
 have hz1 := hs1.size
 refine Sa rfl rfl ?_
 refine as_nil (κ _ _ ?_)
 refine cw_seq fun _ hK2 => ?_
 refine cw_rs fun _ κ => ?_
 refine Sf 0 rfl (by kernel_rfl) rfl ?_
 refine S1 rfl (by kernel_rfl) rfl (by exact BlkR.cell (hs1.sat _ _ _ hb1) rfl) ?_
 refine as_q rfl rfl (q_eqnil (by kernel_rfl) rfl) ?_
 refine as_nil (κ _ _ ?_)
 refine cw_false rfl ?_
 refine cw_skip ?_
 refine hK2 _ _ ?_
 refine cw_rs fun _ κ => ?_
 refine Sf 0 rfl (by kernel_rfl) rfl ?_
 refine S1 rfl (by kernel_rfl) rfl (by exact BlkR.cell (hs1.sat _ _ _ hb1) rfl) ?_
 refine as_q rfl rfl (q_nilp rfl) ?_
 refine Sf 0 rfl (by kernel_rfl) rfl ?_
 refine Sc 2 rfl (by kernel_rfl) rfl (by exact BlkR.cells (hs1.sat _ _ _ hb) rfl) ?_
 refine as_h rfl (h_call (by kernel_rfl) rfl ?_)
 refine (hx _ _ hs1.sat ht).mono ?_
 rintro _ w2 ⟨rfl, Ms2, hs2⟩
 have ht:=ht.mono hs2.le
 have hb:=hs2.le _ _ hb
 have hc:=hc.mono hs2.le
 have hk:=hk.mono hs2.le
 have hb1:=hs2.le _ _ hb1
 have hT:=hT.then hs2
 have hz2 := hs2.size
 refine as_h rfl (h_buildO (e := 9) (size := 1) (zs := [.string ⟨#[]⟩]) (cs := [_]) (by kernel_rfl) (by kernel_rfl) (by kernel_rfl) rfl hs2.sat rfl rfl fun bo w3 hs3 hoo eo => ?_)
 have ht:=ht.mono hs3.le
 have hb:=hs3.le _ _ hb
 have hc:=hc.mono hs3.le
 have hk:=hk.mono hs3.le
 have hb1:=hs3.le _ _ hb1
 have hT:=hT.then hs3
 have hz3 := hs3.size
 have hlo := hoo.1.lt
 refine Sa rfl rfl ?_
 refine as_nil (κ _ _ ?_)
 refine cw_seq fun _ hK5 => ?_
 refine cw_rs fun _ κ => ?_
 refine Sf 0 rfl (by kernel_rfl) rfl ?_
 refine S1 rfl (by kernel_rfl) rfl (by exact BlkR.cell (hs3.sat _ _ _ hb1) rfl) ?_
 refine as_q rfl rfl (q_nilp rfl) ?_
 refine Sf 2 rfl (by kernel_rfl) rfl ?_
 refine Sc 1 rfl (by kernel_rfl) rfl (by exact BlkR.cells (hs3.sat _ _ _ hb) rfl) ?_
 refine as_h rfl (h_call (by kernel_rfl) rfl ?_)
 have hlo9 := hoo.1.lt
 refine (cp_all hs3.sat hc (by omega)).mono ?_
 rintro av w4 ⟨Ma, hs4, hba, hfa⟩
 have ht:=ht.mono hs4.le
 have hb:=hs4.le _ _ hb
 have hk:=hk.mono hs4.le
 have hoo:=hoo.then hs4
 have hT:=hT.then hs4
 have hz4 := hs4.size
 obtain ⟨aa, ac, rfl, _, _⟩ := hba.slice
 have hlba := hba.lt
 have hwA := hT.size
 have hbs0 := Own.buf hoo (n := 1) (size := 1) rfl (by decide)
 obtain ⟨av9, hav9⟩ : ∃ o, o = (Value.slice aa qs.length ac).ownBlock := ⟨_, rfl⟩
 refine as_q rfl rfl (q_len (by kernel_rfl) rfl _) ?_
 refine Sm rfl rfl ?_
 refine as_nil (κ _ _ ?_)
 refine cw_block ?_
 refine cw_loop (fun mm l1 wL => ∃ (i : Nat) (tv : Value), mm = qs.length - i ∧ i ≤ qs.length ∧ l1 = [(3, tv), (21, .slice aa qs.length ac), (22, .int .i64 (qs.length : Nat)), (23, .int .i64 i)] ∧ Step Nope M w Ma wL ∧ w4.heap.size ≤ wL.heap.size ∧ Buf wL Ma 79 1 (.slice aa qs.length ac) qs.length (ptrs qs) ∧ Buf wL Ma 9 1 tv (1 + i) (strs (s0 :: sk.take i)) ∧ ∀ g, tv.ownBlock = some g → w.heap.size ≤ g ∧ av9 ≠ some g) (qs.length) [(3, .slice (some ⟨bo, 0, none⟩) 1 1), (21, .slice aa qs.length ac), (22, .int .i64 (qs.length : Nat)), (23, .int .i64 (0 : Nat))] (.cons rfl (.cons rfl (.cons rfl (.cons rfl (.nil _))))) ?_ ?_
 ·
  exact ⟨0, _, rfl, Nat.zero_le _, rfl, hT, Nat.le_refl _, hba, hbs0, fun g hg => by have hg : bo = g := Option.some.inj hg; exact ⟨by omega, fun h2 => by have := hfa g (hav9.symm.trans h2); omega⟩⟩
 clear hT hba hoo hbs0
 rintro mm l1 wL ⟨i, tv, rfl, hi, rfl, hT, hwL, hba, hbs, hf⟩
 refine cw_rs fun _ κ => ?_
 refine as_q rfl rfl (q_lt rfl rfl) ?_
 refine as_nil (κ _ _ ?_)
 refine cw_seq fun _ hK8 => ?_
 refine cw_cond rfl (fun hc1 => ?_) (fun hc1 => ?_)
 ·
  have hlt : i < qs.length := by have := of_decide_eq_true hc1; omega
  obtain ⟨k1, hk1⟩ : ∃ y, ts[i]? = some y := ⟨ts[i]'(by omega), by simp⟩
  obtain ⟨sy, hsy, hsl, hsk1⟩ := hsk i k1 hk1
  obtain ⟨a1, ha1, hkr⟩ := preps_get hk hk1
  obtain ⟨ga, ca, hqa⟩ := hba.head0 (by omega)
  cases hqa
  refine cw_skip ?_
  refine hK8 _ _ ?_
  refine cw_seq fun _ hK9 => ?_
  refine cw_block ?_
  refine cw_rs fun _ κ => ?_
  refine as_q rfl rfl (q_indexAddr (e := 79) (size := 1) (by kernel_rfl) (by kernel_rfl) rfl rfl (by omega) (by omega)) ?_
  refine Sc 1 rfl (by kernel_rfl) rfl (cells_one (Buf.cell hba (u := .pointer a1) (j := ((i : Nat) : Int).toNat * 1) (by rw [show ((i : Nat) : Int).toNat * 1 = i by omega]; simp [ptrs, ha1]))) ?_
  refine as_h rfl (h_allocO (z := (.agg #[(.pointer none)])) hT.sat (by kernel_rfl) rfl fun bz w5 hs5 hoz ez => ?_)
  refine as_h0 (h_store hs5.sat hoz rfl rfl rfl (by kernel_rfl) rfl rfl rfl fun w6 hs6 hoz2 => ?_)
  clear hoz; have hoz := hoz2; clear hoz2
  have hst : Step Nope Ma wL Ma w6 := hs5.trans hs6 (fun b hb h => by have h : b = bz := h; omega)
  have hba:=hba.then hst
  have hbs:=hbs.then hst
  have hT:=hT.then hst
  have hz6 := hst.size
  refine as_nil (κ _ _ ?_)
  refine cw_region fun _ κ => ?_
  refine Sm rfl rfl ?_
  refine Sc 1 rfl (by kernel_rfl) rfl (Blk.cells hoz.1 rfl) ?_
  refine as_h rfl (h_call (by kernel_rfl) rfl ?_)
  refine (hsk1 _ _ _ hs6.sat ht hkr).mono ?_
  rintro _ w7 ⟨rfl, Ms7, hq7⟩
  have hs7 := step_drop hq7
  have hba:=hba.then hs7
  have hbs:=hbs.then hs7
  have hT:=hT.then hs7
  have hz7 := hs7.size
  refine as_h rfl (h_buildO (e := 9) (size := 1) (zs := [.string ⟨#[]⟩]) (cs := [_]) (by kernel_rfl) (by kernel_rfl) (by kernel_rfl) rfl hs7.sat rfl rfl fun bp w8 hs8 hop ep => ?_)
  have hba:=hba.then hs8
  have hbs:=hbs.then hs8
  have hT:=hT.then hs8
  have hz8 := hs8.size
  have hlp := hop.1.lt
  refine as_h rfl (h_append (e := 9) (size := 1) (bytes := 16) (by kernel_rfl) hs8.sat hbs (Own.buf hop (n := 1) (size := 1) rfl (by decide)).rd rfl rfl (fun y hy => by obtain rfl := List.mem_singleton.1 hy; rfl) (by omega) rfl fun tv2 w9 hs9 hbs2 hor => ?_)
  have hba:=hba.step hs9 (fun g2 hg h => (hf g2 h).2 (hav9.trans hg))
  have hf2 : ∀ g, tv2.ownBlock = some g → w.heap.size ≤ g ∧ av9 ≠ some g := fun g hg => by
   rcases hor with h | h
   · exact hf g (h ▸ hg)
   · rw [h] at hg; have hg := Option.some.inj hg; exact ⟨by omega, fun h2 => by have := hlba g (hav9.symm.trans h2); omega⟩
  have hT:=hT.trans hs9 (fun k hk h => by have := (hf k h).1; omega)
  have hz9 := hs9.size
  refine Sa rfl rfl ?_
  refine as_nil (κ _ _ ?_)
  refine hK9 _ _ ?_
  refine cw_region fun _ κ => ?_
  refine as_q rfl rfl (q_addx rfl rfl (by omega) (by omega)) ?_
  refine Sm rfl rfl ?_
  refine as_nil (κ _ _ ?_)
  refine ⟨_, _, ?_, (.cons rfl (.cons rfl (.cons rfl (.cons rfl (.nil _))))), i + 1, _, rfl, by omega, rfl, hT, by omega, hba, ?_, hf2⟩
  · omega
  · rw [List.take_add_one, hsy]; simpa [strs, Nat.add_assoc] using hbs2
 ·
  have hge : i = qs.length := by have := of_decide_eq_false hc1; omega
  subst hge
  obtain ⟨gt, ct, hqt⟩ := hbs.head0 (by omega)
  cases hqt
  refine cw_exit ?_
  refine hK5 _ _ ?_
  refine cw_rs fun _ κ => ?_
  refine Sm rfl rfl ?_
  refine as_h rfl (h_call (by kernel_rfl) rfl ?_)
  refine (join_n hT.sat hbs htot (by omega)).mono ?_
  rintro _ w10 ⟨rfl, hs10⟩
  have hjl := join_le (s0 :: sk.take qs.length)
  have hT:=hT.then hs10
  have hz10 := hs10.size
  refine as_q rfl rfl (q_catL rfl rfl (by simp only [List.length_append, List.length_cons, List.length_nil]; omega)) ?_
  refine as_q rfl rfl (q_catL rfl rfl (by simp only [List.length_append, List.length_cons, List.length_nil]; omega)) ?_
  refine Sa rfl rfl ?_
  refine as_nil (κ _ _ ?_)
  refine cw_ret ?_
  exact ⟨_, (res_tmp rfl res_nil), rfl, _, hT⟩
theorem preps_all {M : Mem} : ∀ {ts : List Pr} {aw : List (Option Addr)}, PReps 251 260 M ts aw → ∀ k ∈ ts, k ≠ .nil
 | [], _, _ => fun k hk => by simp at hk
 | t :: r, aw, h => fun k hk => by
  obtain ⟨h0, a, s, rfl, _, h2⟩ := preps_cons.1 h
  rcases List.mem_cons.1 hk with rfl | hk
  · exact h0
  · exact preps_all h2 k hk
mutual
theorem p_show_ex {ns : List Int} (hn : ns.length = 20) : ∀ t : Pr, t ≠ .nil → (∀ x ∈ t.els, ElOk x) → t.size ≤ 1000 → ∃ s, s.length + 100 ≤ 200 * t.size ∧ ShP ns t s
 | .nil, h, _, _ => absurd rfl h
 | .node x ts, _, hx, hz => by
  simp only [Pr.els, List.mem_cons] at hx
  simp only [Pr.size] at hz ⊢
  by_cases hall : ∀ k ∈ ts, k ≠ .nil
  ·
   obtain ⟨s0, a0, b0⟩ := textE_ex hn (hx x (.inl rfl))
   obtain ⟨sk, a2, b2, c2⟩ := p_shows_ex hn ts hall (fun y hy => hx y (.inr hy)) (by omega)
   have hj := join_le (s0 :: sk.take ts.length)
   have ht2 : tot (s0 :: sk.take ts.length) = s0.length + 1 + tot (sk.take ts.length) := rfl
   refine ⟨[40] ++ Lib.join (s0 :: sk.take ts.length) [32] ++ [41], ?_, fun M w p hs ht h => p_show_1 hs ht h b0 a2 a0 (by omega) (by omega)⟩
   simp only [List.length_append, List.length_cons, List.length_nil]
   omega
  ·
   exact ⟨[], by simp only [List.length_nil]; omega, fun M w p hs ht h => by
    obtain ⟨b, kq, qs, rfl, hb, hc, hk⟩ := prep_node.1 h
    exact absurd (preps_all hk) hall⟩
theorem p_shows_ex {ns : List Int} (hn : ns.length = 20) : ∀ ts : List Pr, (∀ k ∈ ts, k ≠ .nil) → (∀ x ∈ Pr.elsL ts, ElOk x) → Pr.sizes ts ≤ 1000 → ∃ sk : List (List UInt8), (∀ (i : Nat) t, ts[i]? = some t → ∃ s, sk[i]? = some s ∧ s.length ≤ 1000000000 ∧ ShP ns t s) ∧ tot (sk.take ts.length) ≤ 200 * Pr.sizes ts ∧ ts.length ≤ Pr.sizes ts
 | [], _, _, _ => ⟨[], fun i y h => by simp at h, by simp [tot], by simp⟩
 | k :: r, hall, hx, hz => by
  simp only [Pr.elsL, List.mem_append] at hx
  simp only [Pr.sizes] at hz ⊢
  obtain ⟨s, h1, h2⟩ := p_show_ex hn k (hall k (by simp)) (fun y hy => hx y (.inl hy)) (by omega)
  obtain ⟨ss, h3, h4, h5⟩ := p_shows_ex hn r (fun k hk => hall k (by simp [hk])) (fun y hy => hx y (.inr hy)) (by omega)
  refine ⟨s :: ss, fun i y h => ?_, ?_, ?_⟩
  ·
   cases i with
   | zero => cases h; exact ⟨s, rfl, by omega, h2⟩
   | succ i => exact h3 i y (by simpa using h)
  · simp only [List.length_cons, List.take_succ_cons, tot]; omega
  · simp only [List.length_cons]; omega
end
end Go.Proofs.YtgcgjpfjjgalmaaGreat
/- Boot heaps as texts, part 1. -/
namespace Go.Proofs.YtgcgjpfjjgalmaaGreat
open Go Go.Eng
def ShB (ns : List Int) (t : Bt) (s : List UInt8) : Prop := ∀ M w p, Sat M w → TabM ns M → BRep 296 330 332 M t p → Does Tryz.prog 221 #[.agg #[.pointer p]] w (fun v w' => v = .string ⟨s.toArray⟩ ∧ ∃ M', Step Nope M w M' w')
theorem bo_show_0 {w : World} {M : Mem} (hs : Sat M w) :
  Does Tryz.prog 221 #[.agg #[.pointer none]] w (fun v w' => v = .string ⟨[46].toArray⟩ ∧ ∃ M', Step Nope M w M' w') := by
 have hT := Step.refl Nope hs
 refine fn_enter Tryz.func221 rfl (rs := [.tmp 2]) rfl rfl rfl rfl ?_
 refine cw_rs fun K1 hK1 => ?_
 -- region 0
 refine as_h rfl (h_boxM hs rfl rfl fun b1 M1 w1 hs1 hb1 e1 => ?_)
 have hT:=hT.then hs1
 refine as_q rfl rfl (q_assign rfl) ?_
 refine as_nil (hK1 _ _ ?_)
 clear hK1 K1
 refine cw_seq fun K2 hK2 => ?_
 refine cw_rs fun K3 hK3 => ?_
 -- region 1
 refine as_q rfl rfl (q_fieldAddr (off := 0) (by kernel_rfl) rfl) ?_
 refine as_q rfl rfl (q_load1 (by kernel_rfl) rfl (by first | exact BlkR.cell (hs1.sat _ _ _ hb1) rfl | assumption)) ?_
 refine as_q rfl rfl (q_eqnil (by kernel_rfl) rfl) ?_
 refine as_nil (hK3 _ _ ?_)
 clear hK3 K3
 refine cw_true rfl ?_
 refine cw_rs fun K4 hK4 => ?_
 -- region 2
 refine as_q rfl rfl (q_assign rfl) ?_
 refine as_nil (hK4 _ _ ?_)
 clear hK4 K4
 refine cw_ret ?_
 exact ⟨_, (res_tmp rfl res_nil), rfl, _, hT⟩
theorem bo_show_1 {w : World} {M : Mem} {x : El} {ts : List (RT Bt)} {q : Option Addr} {ns : List Int} {s0 : List UInt8} {sk : List (List UInt8)} (hs : Sat M w) (ht : TabM ns M) (h : BRep 296 330 332 M (.node x ts) q) (hx : TextE ns x s0) (hsk : ∀ (i : Nat) t, (RT.alls ts)[i]? = some t → ∃ s, sk[i]? = some s ∧ s.length ≤ 1000000000 ∧ ShB ns t s) (h0 : s0.length ≤ 60) (htot : tot (s0 :: sk.take (RT.sizes ts)) ≤ 100000000000000) (hn : (RT.sizes ts) ≤ 1000) :
  Does Tryz.prog 221 #[.agg #[.pointer q]] w (fun v w' => v = .string ⟨([91] ++ Lib.join (s0 :: sk.take (RT.sizes ts)) [32] ++ [93]).toArray⟩ ∧ ∃ M', Step Nope M w M' w') := by
 have hT := Step.refl Nope hs
 obtain ⟨b, qs, rfl, hb, hf0⟩ := brep_node.1 h
 have hall := RT.alls_length ts
 refine fn_enter Tryz.func221 rfl (rs := [.tmp 2]) rfl rfl rfl rfl ?_
 refine cw_rs fun K1 hK1 => ?_
 -- region 0
 refine as_h rfl (h_boxM hs rfl rfl fun b1 M1 w1 hs1 hb1 e1 => ?_)
 have ht:=ht.mono hs1.le
 have hb:=hs1.le _ _ hb
 have hf0:=hf0.mono' EncB.mono hs1.le
 have hT:=hT.then hs1
 have hz1 := hs1.size
 refine as_q rfl rfl (q_assign rfl) ?_
 refine as_nil (hK1 _ _ ?_)
 clear hK1 K1
 refine cw_seq fun K2 hK2 => ?_
 refine cw_rs fun K3 hK3 => ?_
 -- region 1
 refine as_q rfl rfl (q_fieldAddr (off := 0) (by kernel_rfl) rfl) ?_
 refine as_q rfl rfl (q_load1 (by kernel_rfl) rfl (by first | exact BlkR.cell (hs1.sat _ _ _ hb) rfl | exact BlkR.cell (hs1.sat _ _ _ hb1) rfl | assumption)) ?_
 refine as_q rfl rfl (q_eqnil (by kernel_rfl) rfl) ?_
 refine as_nil (hK3 _ _ ?_)
 clear hK3 K3
 refine cw_false rfl ?_
 refine cw_skip ?_
 refine hK2 _ _ ?_
 clear hK2 K2
 refine cw_rs fun K4 hK4 => ?_
 -- region 3
 refine as_q rfl rfl (q_fieldAddr (off := 0) (by kernel_rfl) rfl) ?_
 refine as_q rfl rfl (q_load1 (by kernel_rfl) rfl (by first | exact BlkR.cell (hs1.sat _ _ _ hb) rfl | exact BlkR.cell (hs1.sat _ _ _ hb1) rfl | assumption)) ?_
 first | refine as_q rfl rfl (q_nilp rfl) ?_ | refine as_q rfl rfl (q_nili rfl) ?_ | refine as_q rfl rfl (q_nilf rfl) ?_ | refine as_q rfl rfl (q_nily rfl) ?_
 refine as_q rfl rfl (q_fieldAddr (off := 0) (by kernel_rfl) rfl) ?_
 refine as_q rfl rfl (q_loadc (n := 2) (by kernel_rfl) rfl (by first | exact BlkR.cells (hs1.sat _ _ _ hb) rfl | exact BlkR.cells (hs1.sat _ _ _ hb1) rfl | assumption)) ?_
 refine as_h rfl (h_call (by kernel_rfl) rfl ?_)
 refine (hx _ _ hs1.sat ht).mono ?_
 rintro _ w2 ⟨rfl, Ms2, hs2⟩
 have ht:=ht.mono hs2.le
 have hb:=hs2.le _ _ hb
 have hf0:=hf0.mono' EncB.mono hs2.le
 have hb1:=hs2.le _ _ hb1
 have hT:=hT.then hs2
 have hz2 := hs2.size
 refine as_h rfl (h_buildO (e := 9) (size := 1) (zs := [.string ⟨#[]⟩]) (cs := [_]) (by kernel_rfl) (by kernel_rfl) (by kernel_rfl) rfl hs2.sat rfl rfl fun bo w3 hs3 hoo eo => ?_)
 have ht:=ht.mono hs3.le
 have hb:=hs3.le _ _ hb
 have hf0:=hf0.mono' EncB.mono hs3.le
 have hb1:=hs3.le _ _ hb1
 have hT:=hT.then hs3
 have hz3 := hs3.size
 have hlo := hoo.1.lt
 refine as_q rfl rfl (q_assign rfl) ?_
 refine as_nil (hK4 _ _ ?_)
 clear hK4 K4
 refine cw_seq fun K5 hK5 => ?_
 refine cw_rs fun K6 hK6 => ?_
 -- region 4
 refine as_q rfl rfl (q_fieldAddr (off := 0) (by kernel_rfl) rfl) ?_
 refine as_q rfl rfl (q_load1 (by kernel_rfl) rfl (by first | exact BlkR.cell (hs3.sat _ _ _ hb) rfl | exact BlkR.cell (hs3.sat _ _ _ hb1) rfl | exact Blk.cell hoo.1 rfl | assumption)) ?_
 first | refine as_q rfl rfl (q_nilp rfl) ?_ | refine as_q rfl rfl (q_nili rfl) ?_ | refine as_q rfl rfl (q_nilf rfl) ?_ | refine as_q rfl rfl (q_nily rfl) ?_
 refine as_q rfl rfl (q_fieldAddr (off := 2) (by kernel_rfl) rfl) ?_
 refine as_q rfl rfl (q_loadc (n := 1) (by kernel_rfl) rfl (by first | exact BlkR.cells (hs3.sat _ _ _ hb) rfl | exact BlkR.cells (hs3.sat _ _ _ hb1) rfl | exact Blk.cells hoo.1 rfl | assumption)) ?_
 refine as_h rfl (h_call (by kernel_rfl) rfl ?_)
 have hlo9 := hoo.1.lt
 refine (sh_all hs3.sat hf0 (by omega)).mono ?_
 rintro av w4 ⟨aa, ac, Ma, cs9, rfl, hs4, hba, hel, hfa⟩
 have ht:=ht.mono hs4.le
 have hoo:=hoo.then hs4
 have hT:=hT.then hs4
 have hz4 := hs4.size
 have hlba := hba.lt
 have hwA := hT.size
 have hbs0 := Own.buf hoo (n := 1) (size := 1) rfl (by decide)
 obtain ⟨av9, hav9⟩ : ∃ o, o = (Value.slice aa (RT.sizes ts) ac).ownBlock := ⟨_, rfl⟩
 refine as_q rfl rfl (q_len (by kernel_rfl) rfl _) ?_
 refine as_q rfl rfl (q_move rfl) ?_
 refine as_nil (hK6 _ _ ?_)
 clear hK6 K6
 refine cw_block ?_
 refine cw_loop (fun mm l1 wL => ∃ (i : Nat) (tv : Value), mm = (RT.sizes ts) - i ∧ i ≤ (RT.sizes ts) ∧ l1 = [(3, tv), (21, .slice aa (RT.sizes ts) ac), (22, .int .i64 ((RT.sizes ts) : Nat)), (23, .int .i64 i)] ∧ Step Nope M w Ma wL ∧ w4.heap.size ≤ wL.heap.size ∧ Buf wL Ma 93 1 (.slice aa (RT.sizes ts) ac) (RT.sizes ts) cs9 ∧ Buf wL Ma 9 1 tv (1 + i) (strs (s0 :: sk.take i)) ∧ ∀ g, tv.ownBlock = some g → w.heap.size ≤ g ∧ av9 ≠ some g) ((RT.sizes ts)) [(3, .slice (some ⟨bo, 0, none⟩) 1 1), (21, .slice aa (RT.sizes ts) ac), (22, .int .i64 ((RT.sizes ts) : Nat)), (23, .int .i64 (0 : Nat))] (.cons rfl (.cons rfl (.cons rfl (.cons rfl (.nil _))))) ?_ ?_
 ·
  exact ⟨0, _, rfl, Nat.zero_le _, rfl, hT, Nat.le_refl _, hba, hbs0, fun g hg => by have hg : bo = g := Option.some.inj hg; exact ⟨by omega, fun h2 => by have := hfa g (hav9.symm.trans h2); omega⟩⟩
 clear hT hba hoo hbs0
 rintro mm l1 wL ⟨i, tv, rfl, hi, rfl, hT, hwL, hba, hbs, hf⟩
 refine cw_rs fun K7 hK7 => ?_
 -- region 5
 first | refine as_q rfl rfl (q_ltT rfl rfl (by omega)) ?_ | refine as_q rfl rfl (q_ltF rfl rfl (by omega)) ?_ | refine as_q rfl rfl (q_lt rfl rfl) ?_
 refine as_nil (hK7 _ _ ?_)
 clear hK7 K7
 refine cw_seq fun K8 hK8 => ?_
 refine cw_cond rfl (fun hc1 => ?_) (fun hc1 => ?_)
 ·
  have hlt : i < (RT.sizes ts) := by have := of_decide_eq_true hc1; omega
  obtain ⟨k1, hk1⟩ : ∃ y, (RT.alls ts)[i]? = some y := ⟨(RT.alls ts)[i]'(by omega), by simp⟩
  obtain ⟨sy, hsy, hsl, hsk1⟩ := hsk i k1 hk1
  obtain ⟨c9, hc9, he9, hg1⟩ := hel.get hk1
  obtain ⟨a1, rfl, hkr⟩ := encB_iff.1 he9
  obtain ⟨ga, ca, hqa⟩ := hba.head0 (by omega)
  cases hqa
  refine cw_skip ?_
  refine hK8 _ _ ?_
  clear hK8 K8
  refine cw_seq fun K9 hK9 => ?_
  refine cw_block ?_
  refine cw_rs fun K10 hK10 => ?_
  -- region 6
  refine as_q rfl rfl (q_indexAddr (e := 93) (size := 1) (by kernel_rfl) (by kernel_rfl) rfl rfl (by omega) (by omega)) ?_
  refine as_q rfl rfl (q_loadc (n := 1) (by kernel_rfl) rfl (cells_one (Buf.cell hba (u := .pointer a1) (j := ((i : Nat) : Int).toNat * 1) (by rw [show ((i : Nat) : Int).toNat * 1 = i * 1 + 0 by omega]; exact hg1 0 _ rfl)))) ?_
  refine as_h rfl (h_allocO (z := (.agg #[(.pointer none)])) hT.sat (by kernel_rfl) rfl fun bz w5 hs5 hoz ez => ?_)
  refine as_h0 (h_store hs5.sat hoz rfl rfl rfl (by kernel_rfl) rfl rfl rfl fun w6 hs6 hoz2 => ?_)
  clear hoz; have hoz := hoz2; clear hoz2
  have hst : Step Nope Ma wL Ma w6 := hs5.trans hs6 (fun b hb h => by have h : b = bz := h; omega)
  have hba:=hba.then hst
  have hbs:=hbs.then hst
  have hT:=hT.then hst
  have hz6 := hst.size
  refine as_nil (hK10 _ _ ?_)
  clear hK10 K10
  refine cw_region fun K11 hK11 => ?_
  -- region 7
  refine as_q rfl rfl (q_move rfl) ?_
  refine as_q rfl rfl (q_loadc (n := 1) (by kernel_rfl) rfl (Blk.cells hoz.1 rfl)) ?_
  refine as_h rfl (h_call (by kernel_rfl) rfl ?_)
  refine (hsk1 _ _ _ hs6.sat ht hkr).mono ?_
  rintro _ w7 ⟨rfl, Ms7, hq7⟩
  have hs7 := step_drop hq7
  have hba:=hba.then hs7
  have hbs:=hbs.then hs7
  have hT:=hT.then hs7
  have hz7 := hs7.size
  refine as_h rfl (h_buildO (e := 9) (size := 1) (zs := [.string ⟨#[]⟩]) (cs := [_]) (by kernel_rfl) (by kernel_rfl) (by kernel_rfl) rfl hs7.sat rfl rfl fun bp w8 hs8 hop ep => ?_)
  have hba:=hba.then hs8
  have hbs:=hbs.then hs8
  have hT:=hT.then hs8
  have hz8 := hs8.size
  have hlp := hop.1.lt
  refine as_h rfl (h_append (e := 9) (size := 1) (bytes := 16) (by kernel_rfl) hs8.sat hbs (Own.buf hop (n := 1) (size := 1) rfl (by decide)).rd rfl rfl (fun y hy => by obtain rfl := List.mem_singleton.1 hy; rfl) (by omega) rfl fun tv2 w9 hs9 hbs2 hor => ?_)
  have hba:=hba.step hs9 (fun g2 hg h => (hf g2 h).2 (hav9.trans hg))
  have hf2 : ∀ g, tv2.ownBlock = some g → w.heap.size ≤ g ∧ av9 ≠ some g := fun g hg => by
   rcases hor with h | h
   · exact hf g (h ▸ hg)
   · rw [h] at hg; have hg := Option.some.inj hg; exact ⟨by omega, fun h2 => by have := hlba g (hav9.symm.trans h2); omega⟩
  have hT:=hT.trans hs9 (fun k hk h => by have := (hf k h).1; omega)
  have hz9 := hs9.size
  refine as_q rfl rfl (q_assign rfl) ?_
  refine as_nil (hK11 _ _ ?_)
  clear hK11 K11
  refine hK9 _ _ ?_
  clear hK9 K9
  refine cw_region fun K12 hK12 => ?_
  -- region 8
  refine as_q rfl rfl (q_addx rfl rfl (by omega) (by omega)) ?_
  refine as_q rfl rfl (q_move rfl) ?_
  refine as_nil (hK12 _ _ ?_)
  clear hK12 K12
  refine ⟨_, _, ?_, (.cons rfl (.cons rfl (.cons rfl (.cons rfl (.nil _))))), i + 1, _, rfl, by omega, rfl, hT, by omega, hba, ?_, hf2⟩
  · omega
  · rw [List.take_add_one, hsy]; simpa [strs, Nat.add_assoc] using hbs2
 ·
  have hge : i = (RT.sizes ts) := by have := of_decide_eq_false hc1; omega
  obtain ⟨gt, ct, hqt⟩ := hbs.head0 (by omega)
  cases hqt
  refine cw_exit ?_
  refine hK5 _ _ ?_
  clear hK8 K8
  clear hK5 K5
  refine cw_rs fun K13 hK13 => ?_
  -- region 9
  refine as_q rfl rfl (q_move rfl) ?_
  refine as_h rfl (h_call (by kernel_rfl) rfl ?_)
  subst hge
  refine (join_n hT.sat hbs htot (by omega)).mono ?_
  rintro _ w10 ⟨rfl, hs10⟩
  have hjl := join_le (s0 :: sk.take (RT.sizes ts))
  have hT:=hT.then hs10
  have hz10 := hs10.size
  refine as_q rfl rfl (q_catL rfl rfl (by simp only [List.length_append, List.length_cons, List.length_nil]; omega)) ?_
  refine as_q rfl rfl (q_catL rfl rfl (by simp only [List.length_append, List.length_cons, List.length_nil]; omega)) ?_
  refine as_q rfl rfl (q_assign rfl) ?_
  refine as_nil (hK13 _ _ ?_)
  clear hK13 K13
  refine cw_ret ?_
  exact ⟨_, (res_tmp rfl res_nil), rfl, _, hT⟩
theorem els_pos {t : Bt} (h : t ≠ .nil) : 1 ≤ t.els.length := by
 cases t with
 | nil => exact absurd rfl h
 | node x ts => simp only [Bt.els, List.length_cons]; omega
theorem bo_show_ex {ns : List Int} (hn : ns.length = 20) : ∀ (m : Nat) (t : Bt), t ≠ .nil → t.ok → t.els.length ≤ m → m ≤ 1000 → (∀ x ∈ t.els, ElOk x) → ∃ s, s.length + 100 ≤ 200 * t.els.length ∧ ShB ns t s
 | 0, t, h0, _, hm, _, _ => by have := els_pos h0; omega
 | m + 1, .nil, h0, _, _, _, _ => absurd rfl h0
 | m + 1, .node x ts, _, hok, hm, hm1, hx => by
  have hok' : AllGe x (Bt.elsQ ts) ∧ RT.oks ltB ts ∧ Bt.okQ ts := by simpa only [Bt.ok] using hok
  have hk := (Bt.okQ_alls ts).2 hok'.2.2
  have he := Bt.elsQ_alls ts
  simp only [Bt.els, List.mem_cons, List.length_cons] at hx hm ⊢
  obtain ⟨s0, a0, b0⟩ := textE_ex hn (hx x (.inl rfl))
  have kids : ∀ K : List Bt, Bt.okL K → (Bt.elsL K).length ≤ m → (∀ y ∈ Bt.elsL K, ElOk y) → ∃ sk : List (List UInt8), (∀ (i : Nat) t, K[i]? = some t → ∃ s, sk[i]? = some s ∧ s.length ≤ 1000000000 ∧ ShB ns t s) ∧ tot (sk.take K.length) ≤ 200 * (Bt.elsL K).length ∧ K.length ≤ (Bt.elsL K).length := by
   intro K
   induction K with
   | nil => exact fun _ _ _ => ⟨[], fun i y h => by simp at h, by simp [tot], by simp⟩
   | cons k r ih =>
    intro h1 h2 h3
    simp only [Bt.okL] at h1
    simp only [Bt.elsL, List.length_append, List.mem_append] at h2 h3 ⊢
    have hp := els_pos h1.1.1
    obtain ⟨s, c1, c2⟩ := bo_show_ex hn m k h1.1.1 h1.1.2 (by omega) (by omega) (fun y hy => h3 y (.inl hy))
    obtain ⟨ss, d1, d2, d3⟩ := ih h1.2 (by omega) (fun y hy => h3 y (.inr hy))
    refine ⟨s :: ss, fun i y h => ?_, ?_, ?_⟩
    ·
     cases i with
     | zero => cases h; exact ⟨s, rfl, by omega, c2⟩
     | succ i => exact d1 i y (by simpa using h)
    · simp only [List.length_cons, List.take_succ_cons, tot]; omega
    · simp only [List.length_cons]; omega
  obtain ⟨sk, a2, b2, c2⟩ := kids (RT.alls ts) hk (by rw [he]; omega) (fun y hy => hx y (.inr (by rw [he] at hy; exact hy)))
  rw [RT.alls_length, he] at b2 c2
  have hj := join_le (s0 :: sk.take (RT.sizes ts))
  have ht2 : tot (s0 :: sk.take (RT.sizes ts)) = s0.length + 1 + tot (sk.take (RT.sizes ts)) := rfl
  refine ⟨[91] ++ Lib.join (s0 :: sk.take (RT.sizes ts)) [32] ++ [93], ?_, fun M w p hs ht h => bo_show_1 hs ht h b0 a2 a0 (by omega) (by omega)⟩
  simp only [List.length_append, List.length_cons, List.length_nil]
  omega
end Go.Proofs.YtgcgjpfjjgalmaaGreat
