/- Steps of the proof that the law of this claim answers true, part 7. No conditions. -/
import Derived.Test.YtgcgjpfjjgalmaaGreatRows
import Derived.KernelRfl
import Derived.Test.YtgcgjpfjjgalmaaGreatCDrainOnceF
/- Whether two heaps have the same, part 1. -/
namespace Go.Proofs.YtgcgjpfjjgalmaaGreat
open Go Go.Eng
theorem dr_same_1 {w : World} {M : Mem} {k k2 : Nat} {l l2 : List El} {v0 v2 : Value} (hs : Sat M w) (h : HVal M k l v0) (h2 : HVal M k2 l2 v2) (hz : l.length < 100000000) (hz2 : l2.length < 100000000) (hne : l.length = l2.length) :
    Does Tryz.prog 17 #[.agg #[v0], .agg #[v2]] w (fun v w' => v = .bool (decide (l = l2)) ∧ Step Nope M w M w') := by
  have hT := Step.refl Nope hs
  have hs1 := h.shape
  have hs2 := h2.shape
  refine fn_enter Tryz.func17 rfl (rs := [.tmp 4]) rfl rfl rfl rfl ?_
  refine cw_rs fun _ κ => ?_
  refine as_h rfl (h_boxM hs rfl rfl fun b1 M1 w1 hs1 hb1 e1 => ?_)
  replace h := h.mono hs1.le
  replace h2 := h2.mono hs1.le
  replace hT := hT.then hs1
  have hz1 := hs1.size
  refine as_h rfl (h_boxM hs1.sat rfl rfl fun b2 M2 w2 hs2 hb2 e2 => ?_)
  replace h := h.mono hs2.le
  replace h2 := h2.mono hs2.le
  replace hb1 := hs2.le _ _ hb1
  replace hT := hT.then hs2
  have hz2 := hs2.size
  refine Sa rfl rfl ?_
  refine as_nil (κ _ _ ?_)
  refine cw_dr (by kernel_rfl) fun _ κ => ?_
  have hs3 := Step.drew hs2.sat
  have hz3 := hs3.size
  replace h := h.mono hs3.le
  replace h2 := h2.mono hs3.le
  replace hb1 := hs3.le _ _ hb1
  replace hb2 := hs3.le _ _ hb2
  replace hT := hT.then hs3
  refine Dlc 0 1 1 rfl (by kernel_rfl) (by kernel_rfl) rfl (by exact BlkR.cells (hs3.sat _ _ _ hb1) rfl) ?_
  refine Dlc 2 5 1 rfl (by kernel_rfl) (by kernel_rfl) rfl (by exact BlkR.cells (hs3.sat _ _ _ hb2) rfl) ?_
  refine Dh 1 7 rfl (by kernel_rfl) (keep_sift (bs := [F,T]) (by kernel_rfl)) (h_call (by kernel_rfl) rfl ?_)
  refine (hp_size hs3.sat h (by omega)).mono ?_
  rintro _ w4 ⟨rfl, hs4⟩
  replace h := h.mono hs4.le
  replace h2 := h2.mono hs4.le
  replace hb1 := hs4.le _ _ hb1
  replace hb2 := hs4.le _ _ hb2
  replace hT := hT.then hs4
  have hz4 := hs4.size
  refine ⟨(by repeat' first | exact trivial | exact BlkR.cell (hs4.sat _ _ _ hb1) rfl | exact BlkR.cells (hs4.sat _ _ _ hb1) rfl | exact BlkR.cell (hs4.sat _ _ _ hb2) rfl | exact BlkR.cells (hs4.sat _ _ _ hb2) rfl | assumption | refine all_keep ?_ | refine And.intro ?_ ?_), ?_⟩
  refine Dh 3 15 rfl (by kernel_rfl) (keep_sift (bs := [T]) (by kernel_rfl)) (h_call (by kernel_rfl) rfl ?_)
  refine (hp_size hs4.sat h2 (by omega)).mono ?_
  rintro _ w5 ⟨rfl, hs5⟩
  replace h := h.mono hs5.le
  replace h2 := h2.mono hs5.le
  replace hb1 := hs5.le _ _ hb1
  replace hb2 := hs5.le _ _ hb2
  replace hT := hT.then hs5
  have hz5 := hs5.size
  refine ⟨trivial, ?_⟩
  refine Dq 4 31 rfl (by kernel_rfl) (fun _ => (q_eqT rfl rfl (by omega))) ?_
  refine Dm 5 63 rfl (by kernel_rfl) rfl ?_
  refine at_gq (i := 6) (li := lb 13 127) (cellsAre _ _ 1 _) rfl (by kernel_rfl) rfl rfl rfl rfl (fun _ h => q_loadc (n := 1) (by kernel_rfl) rfl h) (by exact BlkR.cells (hs5.sat _ _ _ hb1) rfl) (by kernel_rfl) ?_
  refine at_gq (i := 8) (li := lb 13 383) (cellsAre _ _ 1 _) rfl (by kernel_rfl) rfl rfl rfl rfl (fun _ h => q_loadc (n := 1) (by kernel_rfl) rfl h) (by exact BlkR.cells (hs5.sat _ _ _ hb2) rfl) (by kernel_rfl) ?_
  refine Dgh 7 511 rfl (by kernel_rfl) rfl rfl rfl (h_call (by kernel_rfl) rfl ?_)
  refine (dr_sorted hs5.sat h (by omega)).mono ?_
  rintro sp w6 ⟨Mp, hs6, hbp, hfp⟩
  replace h := h.mono hs6.le
  replace h2 := h2.mono hs6.le
  replace hb1 := hs6.le _ _ hb1
  replace hb2 := hs6.le _ _ hb2
  replace hT := hT.then hs6
  have hz6 := hs6.size
  obtain ⟨ap, cp, rfl, _, _⟩ := hbp.slice
  refine ⟨(by repeat' first | exact trivial | exact BlkR.cell (hs6.sat _ _ _ hb1) rfl | exact BlkR.cells (hs6.sat _ _ _ hb1) rfl | exact BlkR.cell (hs6.sat _ _ _ hb2) rfl | exact BlkR.cells (hs6.sat _ _ _ hb2) rfl | assumption | refine all_keep ?_ | refine And.intro ?_ ?_), ?_⟩
  refine Dgh 9 1023 rfl (by kernel_rfl) rfl rfl rfl (h_call (by kernel_rfl) rfl ?_)
  refine (dr_sorted hs6.sat h2 (by omega)).mono ?_
  rintro sq w7 ⟨Mq, hs7, hbq, hfq⟩
  replace h := h.mono hs7.le
  replace hb1 := hs7.le _ _ hb1
  replace hb2 := hs7.le _ _ hb2
  replace hbp := hbp.then hs7
  replace hT := hT.then hs7
  have hz7 := hs7.size
  obtain ⟨aq, cq, rfl, _, _⟩ := hbq.slice
  refine ⟨(by repeat' first | exact trivial | exact BlkR.cell (hs7.sat _ _ _ hb1) rfl | exact BlkR.cells (hs7.sat _ _ _ hb1) rfl | exact BlkR.cell (hs7.sat _ _ _ hb2) rfl | exact BlkR.cells (hs7.sat _ _ _ hb2) rfl | assumption | refine all_keep ?_ | refine And.intro ?_ ?_), ?_⟩
  refine Dgh 10 2047 rfl (by kernel_rfl) rfl rfl rfl (h_call (by kernel_rfl) rfl ?_)
  refine (sl_equal hs7.sat (by omega) hbp.rds hbq.rds).mono ?_
  rintro _ w8 ⟨rfl, hs8⟩
  replace h := h.mono hs8.le
  replace hb1 := hs8.le _ _ hb1
  replace hb2 := hs8.le _ _ hb2
  replace hT := hT.then hs8
  have hz8 := hs8.size
  refine ⟨(by repeat' first | exact trivial | exact BlkR.cell (hs8.sat _ _ _ hb1) rfl | exact BlkR.cells (hs8.sat _ _ _ hb1) rfl | exact BlkR.cell (hs8.sat _ _ _ hb2) rfl | exact BlkR.cells (hs8.sat _ _ _ hb2) rfl | assumption | refine all_keep ?_ | refine And.intro ?_ ?_), ?_⟩
  refine Dq 11 4095 rfl (by kernel_rfl) (fun _ => (q_pick_t rfl rfl)) ?_
  refine Da 12 8191 rfl (by kernel_rfl) rfl ?_
  refine Dd (by kernel_rfl) (κ _ _ ?_)
  refine cw_ret ?_
  exact ⟨_, (res_tmp rfl res_nil), rfl, hT.forget⟩
theorem dr_same_0 {w : World} {M : Mem} {k k2 : Nat} {l l2 : List El} {v0 v2 : Value} (hs : Sat M w) (h : HVal M k l v0) (h2 : HVal M k2 l2 v2) (hz : l.length < 100000000) (hz2 : l2.length < 100000000) (hne : l.length ≠ l2.length) :
    Does Tryz.prog 17 #[.agg #[v0], .agg #[v2]] w (fun v w' => v = .bool (decide (l = l2)) ∧ Step Nope M w M w') := by
  have hT := Step.refl Nope hs
  have hs1 := h.shape
  have hs2 := h2.shape
  refine fn_enter Tryz.func17 rfl (rs := [.tmp 4]) rfl rfl rfl rfl ?_
  refine cw_rs fun _ κ => ?_
  refine as_h rfl (h_boxM hs rfl rfl fun b1 M1 w1 hs1 hb1 e1 => ?_)
  replace h := h.mono hs1.le
  replace h2 := h2.mono hs1.le
  replace hT := hT.then hs1
  have hz1 := hs1.size
  refine as_h rfl (h_boxM hs1.sat rfl rfl fun b2 M2 w2 hs2 hb2 e2 => ?_)
  replace h := h.mono hs2.le
  replace h2 := h2.mono hs2.le
  replace hb1 := hs2.le _ _ hb1
  replace hT := hT.then hs2
  have hz2 := hs2.size
  refine Sa rfl rfl ?_
  refine as_nil (κ _ _ ?_)
  refine cw_dr (by kernel_rfl) fun _ κ => ?_
  have hs3 := Step.drew hs2.sat
  have hz3 := hs3.size
  replace h := h.mono hs3.le
  replace h2 := h2.mono hs3.le
  replace hb1 := hs3.le _ _ hb1
  replace hb2 := hs3.le _ _ hb2
  replace hT := hT.then hs3
  refine Dlc 0 1 1 rfl (by kernel_rfl) (by kernel_rfl) rfl (by exact BlkR.cells (hs3.sat _ _ _ hb1) rfl) ?_
  refine Dlc 2 5 1 rfl (by kernel_rfl) (by kernel_rfl) rfl (by exact BlkR.cells (hs3.sat _ _ _ hb2) rfl) ?_
  refine Dh 1 7 rfl (by kernel_rfl) (keep_sift (bs := [F,T]) (by kernel_rfl)) (h_call (by kernel_rfl) rfl ?_)
  refine (hp_size hs3.sat h (by omega)).mono ?_
  rintro _ w4 ⟨rfl, hs4⟩
  replace h := h.mono hs4.le
  replace h2 := h2.mono hs4.le
  replace hb1 := hs4.le _ _ hb1
  replace hb2 := hs4.le _ _ hb2
  replace hT := hT.then hs4
  have hz4 := hs4.size
  refine ⟨(by repeat' first | exact trivial | exact BlkR.cell (hs4.sat _ _ _ hb1) rfl | exact BlkR.cells (hs4.sat _ _ _ hb1) rfl | exact BlkR.cell (hs4.sat _ _ _ hb2) rfl | exact BlkR.cells (hs4.sat _ _ _ hb2) rfl | assumption | refine all_keep ?_ | refine And.intro ?_ ?_), ?_⟩
  refine Dh 3 15 rfl (by kernel_rfl) (keep_sift (bs := [T]) (by kernel_rfl)) (h_call (by kernel_rfl) rfl ?_)
  refine (hp_size hs4.sat h2 (by omega)).mono ?_
  rintro _ w5 ⟨rfl, hs5⟩
  replace h := h.mono hs5.le
  replace hT := hT.then hs5
  have hz5 := hs5.size
  refine ⟨trivial, ?_⟩
  refine Dq 4 31 rfl (by kernel_rfl) (fun _ => (q_eqF rfl rfl (by omega))) ?_
  refine Dm 5 63 rfl (by kernel_rfl) rfl ?_
  refine Dgs 6 127 rfl (by kernel_rfl) rfl rfl ?_
  refine Dgs 7 255 rfl (by kernel_rfl) rfl rfl ?_
  refine Dgs 8 511 rfl (by kernel_rfl) rfl rfl ?_
  refine Dgs 9 1023 rfl (by kernel_rfl) rfl rfl ?_
  refine Dgs 10 2047 rfl (by kernel_rfl) rfl rfl ?_
  refine Dq 11 4095 rfl (by kernel_rfl) (fun _ => (q_pick_f rfl rfl)) ?_
  refine Da 12 8191 rfl (by kernel_rfl) rfl ?_
  refine Dd (by kernel_rfl) (κ _ _ ?_)
  refine cw_ret ?_
  exact ⟨_, (res_tmp rfl res_nil), by rw [decide_eq_false (fun h => hne (congrArg List.length h))]; rfl, hT.forget⟩
theorem dr_same {w : World} {M : Mem} {k k2 : Nat} {l l2 : List El} {v0 v2 : Value} (hs : Sat M w) (h : HVal M k l v0) (h2 : HVal M k2 l2 v2) (hz : l.length < 100000000) (hz2 : l2.length < 100000000) :
    Does Tryz.prog 17 #[.agg #[v0], .agg #[v2]] w (fun v w' => v = .bool (decide (l = l2)) ∧ Step Nope M w M w') := by
  by_cases hne : l.length = l2.length
  · exact dr_same_1 hs h h2 hz hz2 hne
  · exact dr_same_0 hs h h2 hz hz2 hne
theorem dr_count_n {w : World} {M : Mem} {k : Nat} {l : List El} {x : El} (hs : Sat M w) (h : HVal M k l .nilIface) (hz : l.length < 100000000) :
    Does Tryz.prog 16 #[.agg #[.nilIface], .agg (elc x).toArray] w (fun v w' => v = .int .i64 ((l.countP fun y => decide (y = x) : Nat) : Int) ∧ Step Nope M w M w') := by
  have hT := Step.refl Nope hs
  have hte : l.take ((l.length : Nat) : Int).toNat = l := List.take_of_length_le (by omega)
  refine fn_enterM (K' := fun v w' => v = .int .i64 ((l.countP fun y => decide (y = x) : Nat) : Int) ∧ ∃ M', Step Nope M w M' w') Tryz.func16 rfl (rs := [.tmp 4]) rfl rfl rfl rfl ?_ (fun _ _ _ _ _ _ h => resT rfl h) ?_
  · skip
    refine cm_seq fun K0a hK0a => cw_region fun K0b hK0b => ?_
    refine as_h rfl (h_boxM hs rfl rfl fun b1 M1 w1 hs1 hb1 e1 => ?_)
    replace h := h.mono hs1.le
    replace hT := hT.then hs1
    have hz1 := hs1.size
    refine as_h rfl (h_boxM hs1.sat rfl rfl fun b2 M2 w2 hs2 hb2 e2 => ?_)
    replace h := h.mono hs2.le
    replace hb1 := hs2.le _ _ hb1
    replace hT := hT.then hs2
    have hz2 := hs2.size
    refine Sa rfl rfl ?_
    refine as_nil (hK0b _ _ (hK0a _ _ ?_))
    clear hK0b hK0a K0b K0a
    refine cm_seq fun K1a hK1a => cw_region fun K1b hK1b => ?_
    have hqan := hT.size
    refine as_h rfl (h_allocO (z := (.int .i64 0)) hs2.sat (by kernel_rfl) rfl fun bn w3 hs3 hon en => ?_)
    replace h := h.mono hs3.le
    replace hb1 := hs3.le _ _ hb1
    replace hb2 := hs3.le _ _ hb2
    replace hT := hT.then hs3
    have hz3 := hs3.size
    have hln := hon.1.lt
    refine as_h0 (h_store hs3.sat hon rfl rfl rfl (by kernel_rfl) rfl rfl rfl fun w4 hs4 hn4 => ?_)
    replace h := h.mono hs4.le
    replace hb1 := hs4.le _ _ hb1
    replace hb2 := hs4.le _ _ hb2
    clear hon; have hon := hn4; clear hn4
    replace hT := hT.own hs4 (by omega)
    have hz4 := hs4.size
    refine as_nil (hK1b _ _ (hK1a _ _ ?_))
    clear hK1b hK1a K1b K1a
    refine cm_seqM ?_
    refine cm_seq fun K2a hK2a => cw_drawn (by kernel_rfl) (by kernel_rfl) (by kernel_rfl) rfl rfl fun K2b hK2b => ?_
    have hs5 := Step.drew hs4.sat
    have hz5 := hs5.size
    replace h := h.mono hs5.le
    replace hb1 := hs5.le _ _ hb1
    replace hb2 := hs5.le _ _ hb2
    replace hon := hon.then hs5
    replace hT := hT.then hs5
    refine Dlc 0 1 1 rfl (by kernel_rfl) (by kernel_rfl) rfl (by exact BlkR.cells (hs5.sat _ _ _ hb1) rfl) ?_
    refine Dlc 1 3 1 rfl (by kernel_rfl) (by kernel_rfl) rfl (by exact BlkR.cells (hs5.sat _ _ _ hb1) rfl) ?_
    refine Dh 2 7 rfl (by kernel_rfl) (keep_sift (bs := [T,F]) (by kernel_rfl)) (h_call (by kernel_rfl) rfl ?_)
    refine (hp_size hs5.sat h (by omega)).mono ?_
    rintro _ w6 ⟨rfl, hs6⟩
    replace h := h.mono hs6.le
    replace hb1 := hs6.le _ _ hb1
    replace hb2 := hs6.le _ _ hb2
    replace hon := hon.then hs6
    replace hT := hT.then hs6
    have hz6 := hs6.size
    refine ⟨(by repeat' first | exact trivial | exact BlkR.cell (hs6.sat _ _ _ hb1) rfl | exact BlkR.cells (hs6.sat _ _ _ hb1) rfl | exact BlkR.cell (hs6.sat _ _ _ hb2) rfl | exact BlkR.cells (hs6.sat _ _ _ hb2) rfl | exact Blk.cell hon.1 rfl | exact Blk.cells hon.1 rfl | assumption | refine all_keep ?_ | refine And.intro ?_ ?_), ?_⟩
    refine Dh 3 15 rfl (by kernel_rfl) (keep_sift (bs := [T]) (by kernel_rfl)) (h_call (by kernel_rfl) rfl ?_)
    refine (dr_each (z := ((l.length : Nat) : Int)) hs6.sat h).mono ?_
    rintro _ w7 ⟨c1, c2, c3, Mx, rfl, hs7, hc1, hc2, hc3, hcw⟩
    replace h := h.mono hs7.le
    replace hb2 := hs7.le _ _ hb2
    replace hon := hon.then hs7
    replace hT := hT.then hs7
    have hz7 := hs7.size
    refine ⟨trivial, ?_⟩
    refine Dd (by kernel_rfl) (hK2b _ _ (hK2a _ _ ?_))
    clear hK2b hK2a K2b K2a
    have hTs := hT.size
    have hln := hon.1.lt
    have hlc := hc2.1.lt
    have hbw : w.heap.size ≤ bn ∧ bn ≠ c2 ∧ w.heap.size ≤ c2 := by omega
    have hxb := hb2
    refine cm_block ?_
    refine cm_rangeC (M := Mx) (S := Just c2) (vs := (l.take ((l.length : Nat) : Int).toNat).map elV) (lb := [.pointer (some ⟨c1, 0, none⟩), .pointer (some ⟨c2, 0, none⟩), .pointer (some ⟨c3, 0, none⟩)]) (gf := 42) rfl rfl rfl (by kernel_rfl) rfl hs7.sat hTs (dr_each1 hc1 hc2 hc3 h (by omega) (by omega) (by omega)) (fun k hk => by have hk : k = c2 := hk; constructor <;> omega) (fun i M' W' => (Own W' M' bn [.int .i64 (((l.take i).countP fun y => decide (y = x) : Nat) : Int)] 3 ∧ Step Nope M w M' W')) (fun i v la M' W' => ∃ bz e, v = elV e ∧ la = [(3, .pointer (some ⟨b2, 0, none⟩)), (5, .pointer (some ⟨bn, 0, none⟩)), (6, .pointer (some ⟨bz, 0, none⟩))] ∧ Own W' M' bz (elc e) 24 ∧ bz ≠ w7.heap.size ∧ bz ≠ w7.heap.size + 1 ∧ bz ≠ c2 ∧ bz ≠ bn ∧ (Own W' M' bn [.int .i64 (((l.take i).countP fun y => decide (y = x) : Nat) : Int)] 3 ∧ Step Nope M w M' W')) ?_ ?_ ?_ ?_ ?_ ?_
    · rintro i M' W' M'' W'' ⟨h1, h3⟩ k
      exact ⟨h1.step k (by rintro (h | h | h) <;> first | (have h : _ = c2 := h; omega) | omega), h3.trans k (fun b hb h => by rcases h with h | h | h <;> first | (have h : b = c2 := h; omega) | omega)⟩
    · exact ⟨hon, hT⟩
    · rintro i v la M' W' M'' W'' ⟨bz, e, rfl, rfl, h0, hz1, hz2, hz3, hz4, h1, h3⟩ k
      exact ⟨bz, e, rfl, rfl, h0.step k (by rintro (h | h | h) <;> first | (have h : _ = c2 := h; omega) | omega), hz1, hz2, hz3, hz4, h1.step k (by rintro (h | h | h) <;> first | (have h : _ = c2 := h; omega) | omega), h3.trans k (fun b hb h => by rcases h with h | h | h <;> first | (have h : b = c2 := h; omega) | omega)⟩
    · rintro i v r M' W' hv ⟨h1, h3⟩ hs' hle hlt
      rw [hte] at hv
      obtain ⟨e, _, rfl⟩ : ∃ e, _ ∧ v = elV e := by
        rw [List.getElem?_map] at hv
        obtain ⟨q, h5, h6⟩ := Option.map_eq_some_iff.1 hv
        exact ⟨q, h5, h6.symm⟩
      have hbl := h1.1.lt
      refine cw_region fun _ κ => ?_
      refine as_h rfl (h_allocO (z := (.agg #[(.int .i64 0), (.int .i64 0)])) hs' (by kernel_rfl) rfl fun bz w8 hs8 hz ez => ?_)
      have hz8 := hs8.size
      refine as_h0 (h_store hs8.sat hz rfl rfl rfl (by kernel_rfl) rfl rfl rfl fun w9 hs9 hz9 => ?_)
      have hst : Step Nope M' W' M' w9 := hs8.trans hs9 (fun b hb h => by have h : b = bz := h; omega)
      have hz0 := hs8.size
      refine as_nil (κ _ _ ⟨_, M', .cons rfl (.cons rfl (.cons rfl (.nil _))), hst, bz, e, rfl, rfl, hz9, by omega, by omega, by omega, by omega, h1.then hst, h3.also hst⟩)
    · rintro i v la r M' W' hv ⟨bz, e, rfl, rfl, hz, hz1, hz2, hz3, hz4, h1, h3⟩ hs' hle hlt
      have hxb := hle _ _ hxb
      have hxs : (l.take (i + 1)).countP (fun y => decide (y = x)) = (l.take i).countP (fun y => decide (y = x)) + if e = x then 1 else 0 := by
        rw [hte, List.getElem?_map] at hv
        obtain ⟨y, hy, hye⟩ := Option.map_eq_some_iff.1 hv
        obtain rfl : y = e := by
          obtain ⟨a, b⟩ := y
          obtain ⟨c, d⟩ := e
          simpa [elV, elc] using hye
        rw [List.take_add_one, hy, List.countP_append]
        simp [List.countP_cons]
      have hcl : (l.take i).countP (fun y => decide (y = x)) ≤ l.length := Nat.le_trans List.countP_le_length (by rw [List.length_take]; omega)
      have hbl := h1.1.lt
      refine cw_block ?_
      refine cw_rs fun _ κ => ?_
      refine Sc 2 rfl (by kernel_rfl) rfl (by exact Blk.cells hz.1 rfl) ?_
      refine Sc 2 rfl (by kernel_rfl) rfl (by exact BlkR.cells (hs' _ _ _ hxb) rfl) ?_
      refine as_q rfl rfl (q_eqE (a := e) (b := x) (e := 2) (by kernel_rfl) (by kernel_rfl) (by kernel_rfl) (by kernel_rfl) (by kernel_rfl) (by kernel_rfl) rfl rfl) ?_
      refine as_nil (κ _ _ ?_)
      refine cw_cond rfl (fun hc => ?_) (fun hc => ?_)
      · skip
        replace hc := of_decide_eq_true hc
        rw [if_pos hc] at hxs
        refine cw_region fun _ κ => ?_
        refine S1 rfl (by kernel_rfl) rfl (by exact Blk.cell h1.1 rfl) ?_
        refine as_q rfl rfl (q_addx rfl rfl (by omega) (by omega)) ?_
        refine as_h0 (h_store hs' h1 rfl rfl rfl (by kernel_rfl) rfl rfl rfl fun w10 hs10 h1n => ?_)
        refine as_nil (κ _ _ ⟨M', hs10.wide fun k _ h => (by have h : k = bn := h; exact ⟨fun h2 => by have h2 : k = c2 := h2; omega, by omega, by omega⟩), by rw [hxs, Int.natCast_add]; exact h1n, h3.trans hs10 (fun k hk h => by have h : k = bn := h; omega)⟩)
      · skip
        replace hc := of_decide_eq_false hc
        rw [if_neg hc, Nat.add_zero] at hxs
        exact cw_skip ⟨M', Step.refl _ hs', by rw [hxs]; exact h1, h3⟩
    · rintro M' W' hs' hle ⟨h1, h3⟩ D hD hDd
      rw [List.length_map, hte, List.take_length] at h1
      refine cw_rs fun _ κ => ?_
      refine S1 rfl (by kernel_rfl) rfl (by exact Blk.cell h1.1 rfl) ?_
      refine Sa rfl rfl ?_
      exact as_nil (κ _ _ (cw_ret ⟨hDd, _, res_tmp rfl res_nil, rfl, M', h3⟩))
  · rintro v w' D hB hD ⟨h0, M', h1⟩
    have k := Step.putObj h1.sat hD (by simp) (.deferred none)
    exact ⟨h0, (h1.trans k (fun b hb h => by have h : b = D := h; omega)).forget⟩
theorem dr_count_s {w : World} {M : Mem} {d : TypeId} {u : Value} {k : Nat} {l : List El} {x : El} (hs : Sat M w) (h : HVal M k l (.iface d u)) (hz : l.length < 100000000) :
    Does Tryz.prog 16 #[.agg #[(.iface d u)], .agg (elc x).toArray] w (fun v w' => v = .int .i64 ((l.countP fun y => decide (y = x) : Nat) : Int) ∧ Step Nope M w M w') := by
  have hT := Step.refl Nope hs
  have hte : l.take ((l.length : Nat) : Int).toNat = l := List.take_of_length_le (by omega)
  refine fn_enterM (K' := fun v w' => v = .int .i64 ((l.countP fun y => decide (y = x) : Nat) : Int) ∧ ∃ M', Step Nope M w M' w') Tryz.func16 rfl (rs := [.tmp 4]) rfl rfl rfl rfl ?_ (fun _ _ _ _ _ _ h => resT rfl h) ?_
  · skip
    refine cm_seq fun K0a hK0a => cw_region fun K0b hK0b => ?_
    refine as_h rfl (h_boxM hs rfl rfl fun b1 M1 w1 hs1 hb1 e1 => ?_)
    replace h := h.mono hs1.le
    replace hT := hT.then hs1
    have hz1 := hs1.size
    refine as_h rfl (h_boxM hs1.sat rfl rfl fun b2 M2 w2 hs2 hb2 e2 => ?_)
    replace h := h.mono hs2.le
    replace hb1 := hs2.le _ _ hb1
    replace hT := hT.then hs2
    have hz2 := hs2.size
    refine Sa rfl rfl ?_
    refine as_nil (hK0b _ _ (hK0a _ _ ?_))
    clear hK0b hK0a K0b K0a
    refine cm_seq fun K1a hK1a => cw_region fun K1b hK1b => ?_
    have hqan := hT.size
    refine as_h rfl (h_allocO (z := (.int .i64 0)) hs2.sat (by kernel_rfl) rfl fun bn w3 hs3 hon en => ?_)
    replace h := h.mono hs3.le
    replace hb1 := hs3.le _ _ hb1
    replace hb2 := hs3.le _ _ hb2
    replace hT := hT.then hs3
    have hz3 := hs3.size
    have hln := hon.1.lt
    refine as_h0 (h_store hs3.sat hon rfl rfl rfl (by kernel_rfl) rfl rfl rfl fun w4 hs4 hn4 => ?_)
    replace h := h.mono hs4.le
    replace hb1 := hs4.le _ _ hb1
    replace hb2 := hs4.le _ _ hb2
    clear hon; have hon := hn4; clear hn4
    replace hT := hT.own hs4 (by omega)
    have hz4 := hs4.size
    refine as_nil (hK1b _ _ (hK1a _ _ ?_))
    clear hK1b hK1a K1b K1a
    refine cm_seqM ?_
    refine cm_seq fun K2a hK2a => cw_drawn (by kernel_rfl) (by kernel_rfl) (by kernel_rfl) rfl rfl fun K2b hK2b => ?_
    have hs5 := Step.drew hs4.sat
    have hz5 := hs5.size
    replace h := h.mono hs5.le
    replace hb1 := hs5.le _ _ hb1
    replace hb2 := hs5.le _ _ hb2
    replace hon := hon.then hs5
    replace hT := hT.then hs5
    refine Dlc 0 1 1 rfl (by kernel_rfl) (by kernel_rfl) rfl (by exact BlkR.cells (hs5.sat _ _ _ hb1) rfl) ?_
    refine Dlc 1 3 1 rfl (by kernel_rfl) (by kernel_rfl) rfl (by exact BlkR.cells (hs5.sat _ _ _ hb1) rfl) ?_
    refine Dh 2 7 rfl (by kernel_rfl) (keep_sift (bs := [T,F]) (by kernel_rfl)) (h_call (by kernel_rfl) rfl ?_)
    refine (hp_size hs5.sat h (by omega)).mono ?_
    rintro _ w6 ⟨rfl, hs6⟩
    replace h := h.mono hs6.le
    replace hb1 := hs6.le _ _ hb1
    replace hb2 := hs6.le _ _ hb2
    replace hon := hon.then hs6
    replace hT := hT.then hs6
    have hz6 := hs6.size
    refine ⟨(by repeat' first | exact trivial | exact BlkR.cell (hs6.sat _ _ _ hb1) rfl | exact BlkR.cells (hs6.sat _ _ _ hb1) rfl | exact BlkR.cell (hs6.sat _ _ _ hb2) rfl | exact BlkR.cells (hs6.sat _ _ _ hb2) rfl | exact Blk.cell hon.1 rfl | exact Blk.cells hon.1 rfl | assumption | refine all_keep ?_ | refine And.intro ?_ ?_), ?_⟩
    refine Dh 3 15 rfl (by kernel_rfl) (keep_sift (bs := [T]) (by kernel_rfl)) (h_call (by kernel_rfl) rfl ?_)
    refine (dr_each (z := ((l.length : Nat) : Int)) hs6.sat h).mono ?_
    rintro _ w7 ⟨c1, c2, c3, Mx, rfl, hs7, hc1, hc2, hc3, hcw⟩
    replace h := h.mono hs7.le
    replace hb2 := hs7.le _ _ hb2
    replace hon := hon.then hs7
    replace hT := hT.then hs7
    have hz7 := hs7.size
    refine ⟨trivial, ?_⟩
    refine Dd (by kernel_rfl) (hK2b _ _ (hK2a _ _ ?_))
    clear hK2b hK2a K2b K2a
    have hTs := hT.size
    have hln := hon.1.lt
    have hlc := hc2.1.lt
    have hbw : w.heap.size ≤ bn ∧ bn ≠ c2 ∧ w.heap.size ≤ c2 := by omega
    have hxb := hb2
    refine cm_block ?_
    refine cm_rangeC (M := Mx) (S := Just c2) (vs := (l.take ((l.length : Nat) : Int).toNat).map elV) (lb := [.pointer (some ⟨c1, 0, none⟩), .pointer (some ⟨c2, 0, none⟩), .pointer (some ⟨c3, 0, none⟩)]) (gf := 42) rfl rfl rfl (by kernel_rfl) rfl hs7.sat hTs (dr_each1 hc1 hc2 hc3 h (by omega) (by omega) (by omega)) (fun k hk => by have hk : k = c2 := hk; constructor <;> omega) (fun i M' W' => (Own W' M' bn [.int .i64 (((l.take i).countP fun y => decide (y = x) : Nat) : Int)] 3 ∧ Step Nope M w M' W')) (fun i v la M' W' => ∃ bz e, v = elV e ∧ la = [(3, .pointer (some ⟨b2, 0, none⟩)), (5, .pointer (some ⟨bn, 0, none⟩)), (6, .pointer (some ⟨bz, 0, none⟩))] ∧ Own W' M' bz (elc e) 24 ∧ bz ≠ w7.heap.size ∧ bz ≠ w7.heap.size + 1 ∧ bz ≠ c2 ∧ bz ≠ bn ∧ (Own W' M' bn [.int .i64 (((l.take i).countP fun y => decide (y = x) : Nat) : Int)] 3 ∧ Step Nope M w M' W')) ?_ ?_ ?_ ?_ ?_ ?_
    · rintro i M' W' M'' W'' ⟨h1, h3⟩ k
      exact ⟨h1.step k (by rintro (h | h | h) <;> first | (have h : _ = c2 := h; omega) | omega), h3.trans k (fun b hb h => by rcases h with h | h | h <;> first | (have h : b = c2 := h; omega) | omega)⟩
    · exact ⟨hon, hT⟩
    · rintro i v la M' W' M'' W'' ⟨bz, e, rfl, rfl, h0, hz1, hz2, hz3, hz4, h1, h3⟩ k
      exact ⟨bz, e, rfl, rfl, h0.step k (by rintro (h | h | h) <;> first | (have h : _ = c2 := h; omega) | omega), hz1, hz2, hz3, hz4, h1.step k (by rintro (h | h | h) <;> first | (have h : _ = c2 := h; omega) | omega), h3.trans k (fun b hb h => by rcases h with h | h | h <;> first | (have h : b = c2 := h; omega) | omega)⟩
    · rintro i v r M' W' hv ⟨h1, h3⟩ hs' hle hlt
      rw [hte] at hv
      obtain ⟨e, _, rfl⟩ : ∃ e, _ ∧ v = elV e := by
        rw [List.getElem?_map] at hv
        obtain ⟨q, h5, h6⟩ := Option.map_eq_some_iff.1 hv
        exact ⟨q, h5, h6.symm⟩
      have hbl := h1.1.lt
      refine cw_region fun _ κ => ?_
      refine as_h rfl (h_allocO (z := (.agg #[(.int .i64 0), (.int .i64 0)])) hs' (by kernel_rfl) rfl fun bz w8 hs8 hz ez => ?_)
      have hz8 := hs8.size
      refine as_h0 (h_store hs8.sat hz rfl rfl rfl (by kernel_rfl) rfl rfl rfl fun w9 hs9 hz9 => ?_)
      have hst : Step Nope M' W' M' w9 := hs8.trans hs9 (fun b hb h => by have h : b = bz := h; omega)
      have hz0 := hs8.size
      refine as_nil (κ _ _ ⟨_, M', .cons rfl (.cons rfl (.cons rfl (.nil _))), hst, bz, e, rfl, rfl, hz9, by omega, by omega, by omega, by omega, h1.then hst, h3.also hst⟩)
    · rintro i v la r M' W' hv ⟨bz, e, rfl, rfl, hz, hz1, hz2, hz3, hz4, h1, h3⟩ hs' hle hlt
      have hxb := hle _ _ hxb
      have hxs : (l.take (i + 1)).countP (fun y => decide (y = x)) = (l.take i).countP (fun y => decide (y = x)) + if e = x then 1 else 0 := by
        rw [hte, List.getElem?_map] at hv
        obtain ⟨y, hy, hye⟩ := Option.map_eq_some_iff.1 hv
        obtain rfl : y = e := by
          obtain ⟨a, b⟩ := y
          obtain ⟨c, d⟩ := e
          simpa [elV, elc] using hye
        rw [List.take_add_one, hy, List.countP_append]
        simp [List.countP_cons]
      have hcl : (l.take i).countP (fun y => decide (y = x)) ≤ l.length := Nat.le_trans List.countP_le_length (by rw [List.length_take]; omega)
      have hbl := h1.1.lt
      refine cw_block ?_
      refine cw_rs fun _ κ => ?_
      refine Sc 2 rfl (by kernel_rfl) rfl (by exact Blk.cells hz.1 rfl) ?_
      refine Sc 2 rfl (by kernel_rfl) rfl (by exact BlkR.cells (hs' _ _ _ hxb) rfl) ?_
      refine as_q rfl rfl (q_eqE (a := e) (b := x) (e := 2) (by kernel_rfl) (by kernel_rfl) (by kernel_rfl) (by kernel_rfl) (by kernel_rfl) (by kernel_rfl) rfl rfl) ?_
      refine as_nil (κ _ _ ?_)
      refine cw_cond rfl (fun hc => ?_) (fun hc => ?_)
      · skip
        replace hc := of_decide_eq_true hc
        rw [if_pos hc] at hxs
        refine cw_region fun _ κ => ?_
        refine S1 rfl (by kernel_rfl) rfl (by exact Blk.cell h1.1 rfl) ?_
        refine as_q rfl rfl (q_addx rfl rfl (by omega) (by omega)) ?_
        refine as_h0 (h_store hs' h1 rfl rfl rfl (by kernel_rfl) rfl rfl rfl fun w10 hs10 h1n => ?_)
        refine as_nil (κ _ _ ⟨M', hs10.wide fun k _ h => (by have h : k = bn := h; exact ⟨fun h2 => by have h2 : k = c2 := h2; omega, by omega, by omega⟩), by rw [hxs, Int.natCast_add]; exact h1n, h3.trans hs10 (fun k hk h => by have h : k = bn := h; omega)⟩)
      · skip
        replace hc := of_decide_eq_false hc
        rw [if_neg hc, Nat.add_zero] at hxs
        exact cw_skip ⟨M', Step.refl _ hs', by rw [hxs]; exact h1, h3⟩
    · rintro M' W' hs' hle ⟨h1, h3⟩ D hD hDd
      rw [List.length_map, hte, List.take_length] at h1
      refine cw_rs fun _ κ => ?_
      refine S1 rfl (by kernel_rfl) rfl (by exact Blk.cell h1.1 rfl) ?_
      refine Sa rfl rfl ?_
      exact as_nil (κ _ _ (cw_ret ⟨hDd, _, res_tmp rfl res_nil, rfl, M', h3⟩))
  · rintro v w' D hB hD ⟨h0, M', h1⟩
    have k := Step.putObj h1.sat hD (by simp) (.deferred none)
    exact ⟨h0, (h1.trans k (fun b hb h => by have h : b = D := h; omega)).forget⟩
theorem dr_count {w : World} {M : Mem} {k : Nat} {l : List El} {v0 : Value} {x : El} (hs : Sat M w) (h : HVal M k l v0) (hz : l.length < 100000000) :
    Does Tryz.prog 16 #[.agg #[v0], .agg (elc x).toArray] w (fun v w' => v = .int .i64 ((l.countP fun y => decide (y = x) : Nat) : Int) ∧ Step Nope M w M w') := by
  rcases h.shape with rfl | ⟨d, u, rfl⟩
  · exact dr_count_n hs h hz
  · exact dr_count_s hs h hz
end Go.Proofs.YtgcgjpfjjgalmaaGreat
/- The document s example of layer 16, part 1. -/
namespace Go.Proofs.YtgcgjpfjjgalmaaGreat
open Go Go.Eng
theorem of_three {w : World} {M : Mem} {b : Nat} (hs : Sat M w) (ho : Own w M b [.int .i64 2, .int .i64 0, .int .i64 1, .int .i64 0, .int .i64 2, .int .i64 0] 24) :
    Does Tryz.prog 11 #[.pointer none, .int .i64 4, .slice (some ⟨b, 0, none⟩) 3 3] w (fun r w' => ∃ v' M', r = .tuple #[.agg #[v'], .int .i64 0] ∧ Step Nope M w M' w' ∧ HVal M' 4 [((1, 0) : El), (2, 0), (2, 0)] v') := by
  have hb : Buf w M 24 2 (.slice (some ⟨b, 0, none⟩) 3 3) 3 (els [((2, 0) : El), (1, 0), (2, 0)]) := Own.buf ho (n := 3) rfl (by decide)
  refine (hp_of (z := 4) hs hb.rds (by decide)).mono ?_
  rintro r w' ⟨v, M', h1, h2, h3⟩
  refine ⟨v, M', by rw [h1, emE, if_pos (by decide)], h2, ?_⟩
  rw [emK, if_pos (by decide), ofL, if_pos (by decide), show srtE [((2, 0) : El), (1, 0), (2, 0)] = [((1, 0) : El), (2, 0), (2, 0)] by decide] at h3
  exact h3
set_option maxRecDepth 4000 in
theorem awake16 {w : World} {M : Mem} (hs : Sat M w) :
    Does Tryz.prog 10 #[] w (fun v w' => v = .bool true ∧ Step Nope M w M w') := by
  have hT := Step.refl Nope hs
  refine fn_enter Tryz.func10 rfl (rs := [.tmp 0]) rfl rfl rfl rfl ?_
  refine cw_rs fun _ κ => ?_
  refine Sa rfl rfl ?_
  refine as_nil (κ _ _ ?_)
  refine cw_rs fun _ κ => ?_
  refine as_q rfl rfl (q_build (zs := [(.int .i64 0), (.int .i64 0)]) (places := [(0, 1), (1, 1)]) (cs := [_, _]) (by kernel_rfl) (by kernel_rfl) rfl rfl) ?_
  refine as_q rfl rfl (q_build (zs := [(.int .i64 0), (.int .i64 0)]) (places := [(0, 1), (1, 1)]) (cs := [_, _]) (by kernel_rfl) (by kernel_rfl) rfl rfl) ?_
  refine as_q rfl rfl (q_build (zs := [(.int .i64 0), (.int .i64 0)]) (places := [(0, 1), (1, 1)]) (cs := [_, _]) (by kernel_rfl) (by kernel_rfl) rfl rfl) ?_
  refine as_h rfl (h_buildO (e := 24) (size := 2) (zs := [.int .i64 0, .int .i64 0, .int .i64 0, .int .i64 0, .int .i64 0, .int .i64 0]) (cs := [_, _, _, _, _, _]) (by kernel_rfl) (by kernel_rfl) (by kernel_rfl) rfl hs rfl rfl fun bp w1 hs1 hop ep => ?_)
  replace hT := hT.then hs1
  have hz1 := hs1.size
  refine as_h rfl (h_call (by kernel_rfl) rfl ?_)
  refine (of_three hs1.sat hop).mono ?_
  rintro _ w2 ⟨vx, Mx, rfl, hs2, hx⟩
  replace hT := hT.then hs2
  have hz2 := hs2.size
  obtain ⟨dx, ux, rfl⟩ := hx.iface (by decide)
  refine Sm rfl rfl ?_
  refine Se rfl rfl rfl ?_
  refine Se rfl rfl rfl ?_
  have hqax := hT.size
  refine as_h rfl (h_allocO (z := (.agg #[.nilIface])) hs2.sat (by kernel_rfl) rfl fun bx w3 hs3 hox ex => ?_)
  replace hx := hx.mono hs3.le
  replace hT := hT.then hs3
  have hz3 := hs3.size
  have hlx := hox.1.lt
  refine as_h0 (h_store hs3.sat hox rfl rfl rfl (by kernel_rfl) rfl rfl rfl fun w4 hs4 hn4 => ?_)
  replace hx := hx.mono hs4.le
  clear hox; have hox := hn4; clear hn4
  replace hT := hT.own hs4 (by omega)
  have hz4 := hs4.size
  refine Sa rfl rfl ?_
  refine as_nil (κ _ _ ?_)
  refine cw_rs fun _ κ => ?_
  refine Sc 1 rfl (by kernel_rfl) rfl (by exact Blk.cells hox.1 rfl) ?_
  refine as_h rfl (h_call (by kernel_rfl) rfl ?_)
  refine (dr_sorted hs4.sat hx (by decide)).mono ?_
  rintro vS w5 ⟨MS, hs5, hbS, hfS⟩
  replace hx := hx.mono hs5.le
  replace hox := hox.then hs5
  replace hT := hT.then hs5
  have hz5 := hs5.size
  replace hbS : Buf w5 MS 24 2 vS 3 (els [((1, 0) : El), (2, 0), (2, 0)]) := hbS
  obtain ⟨raS, rcS, rfl, _, _⟩ := hbS.slice
  have hlhbS := hbS.lt
  refine Sa rfl rfl ?_
  refine as_nil (κ _ _ ?_)
  refine cw_rs fun _ κ => ?_
  refine Sc 1 rfl (by kernel_rfl) rfl (by exact Blk.cells hox.1 rfl) ?_
  refine as_h rfl (h_call (by kernel_rfl) rfl ?_)
  refine (dr_top_2 hs5.sat hx (z := 2) (by decide) (by decide) (by decide) (by decide)).mono ?_
  rintro _ w6 ⟨vt, Mt, rfl, hs6, hbt, hft⟩
  replace hx := hx.mono hs6.le
  replace hox := hox.then hs6
  replace hbS := hbS.then hs6
  replace hT := hT.then hs6
  have hz6 := hs6.size
  replace hbt : Buf w6 Mt 24 2 vt 2 (els [((1, 0) : El), (2, 0)]) := hbt
  obtain ⟨rat, rct, rfl, _, _⟩ := hbt.slice
  have hlhbt := hbt.lt
  refine Sm rfl rfl ?_
  refine Se rfl rfl rfl ?_
  refine Se rfl rfl rfl ?_
  refine Sa rfl rfl ?_
  refine Sa rfl rfl ?_
  refine as_nil (κ _ _ ?_)
  refine cw_rs fun _ κ => ?_
  refine Sc 1 rfl (by kernel_rfl) rfl (by exact Blk.cells hox.1 rfl) ?_
  refine as_h rfl (h_call (by kernel_rfl) rfl ?_)
  refine (dr_top_1 hs6.sat hx (z := -1) (by decide) (by decide)).mono ?_
  rintro _ w7 ⟨vu, Mu, rfl, hs7, hbu, hfu⟩
  replace hx := hx.mono hs7.le
  replace hox := hox.then hs7
  replace hbS := hbS.then hs7
  replace hT := hT.then hs7
  have hz7 := hs7.size
  obtain ⟨rau, rcu, rfl, _, _⟩ := hbu.slice
  have hlhbu := hbu.lt
  refine Sm rfl rfl ?_
  refine Se rfl rfl rfl ?_
  refine Se rfl rfl rfl ?_
  refine Sa rfl rfl ?_
  refine Sa rfl rfl ?_
  refine as_nil (κ _ _ ?_)
  refine cw_rs fun _ κ => ?_
  refine as_q rfl rfl (q_build (zs := [.nilIface]) (places := [(0, 1)]) (cs := [_]) (by kernel_rfl) (by kernel_rfl) rfl rfl) ?_
  refine as_h rfl (h_call (by kernel_rfl) rfl ?_)
  refine (dr_top_0 hs7.sat HVal.z (z := 1)).mono ?_
  rintro _ w8 ⟨vn, Mn, rfl, hs8, hbn, hfn⟩
  replace hx := hx.mono hs8.le
  replace hox := hox.then hs8
  replace hbS := hbS.then hs8
  replace hT := hT.then hs8
  have hz8 := hs8.size
  obtain ⟨ran, rcn, rfl, _, _⟩ := hbn.slice
  have hlhbn := hbn.lt
  refine Sm rfl rfl ?_
  refine Se rfl rfl rfl ?_
  refine Se rfl rfl rfl ?_
  refine Sa rfl rfl ?_
  refine Sa rfl rfl ?_
  refine as_nil (κ _ _ ?_)
  refine cw_rs fun _ κ => ?_
  refine Sc 1 rfl (by kernel_rfl) rfl (by exact Blk.cells hox.1 rfl) ?_
  refine as_h rfl (h_call (by kernel_rfl) rfl ?_)
  have hqp := hT.size
  refine (dr_of hs8.sat hx).mono ?_
  rintro _ w9 ⟨q, M, rfl, hs9, hoq, hqw⟩
  replace hx := hx.mono hs9.le
  replace hox := hox.then hs9
  replace hbS := hbS.then hs9
  replace hT := hT.then hs9
  have hz9 := hs9.size
  have hql := hoq.1.lt
  refine Sa rfl rfl ?_
  refine as_nil (κ _ _ ?_)
  refine cw_rs fun _ κ => ?_
  refine Sm rfl rfl ?_
  refine as_h rfl (h_call (by kernel_rfl) rfl ?_)
  refine (dr_done_0 hs9.sat hoq).mono ?_
  rintro _ w10 ⟨rfl, hs10⟩
  replace hx := hx.mono hs10.le
  replace hox := hox.then hs10
  replace hbS := hbS.then hs10
  replace hoq := hoq.then hs10
  replace hT := hT.then hs10
  have hz10 := hs10.size
  refine Sa rfl rfl ?_
  refine as_nil (κ _ _ ?_)
  refine cw_rs fun _ κ => ?_
  refine Sm rfl rfl ?_
  refine as_h rfl (h_call (by kernel_rfl) rfl ?_)
  have hzbf := hT.size
  refine (dr_all_first hs10.sat (by decide) hoq hx).mono ?_
  rintro vf w11 ⟨svf, Mf, hs11, hqf, hb2f, _, hbf, hff, hdf, hfrf⟩
  replace hx := hx.mono hs11.le
  replace hox := hox.step hs11 (fun h => by have h : _ = q := h; omega)
  replace hbS := hbS.step hs11 (fun g hg h => by have h : g = q := h; first | (have := hlhbS g hg; omega) | (have := hfS g hg; omega))
  replace hT := hT.trans hs11 (fun b hb h => by have h : b = q := h; omega)
  have hz11 := hs11.size
  clear hoq; have hoq := hqf; clear hqf
  have hbs := hb2f; clear hb2f
  replace hbf : Buf w11 Mf 24 2 vf 3 (els [((1, 0) : El), (2, 0), (2, 0)]) := hbf
  obtain ⟨raf, rcf, rfl, _, _⟩ := hbf.slice
  have hlhbf := hbf.lt
  have hlhbs := hbs.lt
  refine Sa rfl rfl ?_
  refine as_nil (κ _ _ ?_)
  refine cw_rs fun _ κ => ?_
  refine Sm rfl rfl ?_
  refine as_h rfl (h_call (by kernel_rfl) rfl ?_)
  have hzbg := hT.size
  refine (dr_all_again hs11.sat (by decide) hoq hx hbs).mono ?_
  rintro vg w12 ⟨svg, Mg, hs12, hqg, hb2g, _, hbg, hfg, hdg, hfrg⟩
  replace hx := hx.mono hs12.le
  replace hox := hox.step hs12 (fun h => by have h : _ = q := h; omega)
  replace hbS := hbS.step hs12 (fun g hg h => by have h : g = q := h; first | (have := hlhbS g hg; omega) | (have := hfS g hg; omega))
  replace hT := hT.trans hs12 (fun b hb h => by have h : b = q := h; omega)
  have hz12 := hs12.size
  clear hoq; have hoq := hqg; clear hqg
  clear hbs hlhbs
  have hbs := hb2g; clear hb2g
  replace hbg : Buf w12 Mg 24 2 vg 3 (els [((1, 0) : El), (2, 0), (2, 0)]) := hbg
  obtain ⟨rag, rcg, rfl, _, _⟩ := hbg.slice
  have hlhbg := hbg.lt
  have hlhbs := hbs.lt
  refine Sa rfl rfl ?_
  refine as_nil (κ _ _ ?_)
  refine cw_rs fun _ κ => ?_
  obtain ⟨gs, rfl, hbs⟩ : ∃ g, raS = some ⟨g, 0, none⟩ ∧ ElRow 24 w12 Mg g 3 rcS #[(1, 0), (2, 0), (2, 0)] := by
    rcases hbS.cases with ⟨h, _⟩ | ⟨g, c, h, h2⟩
    · cases h
    · cases h
      exact ⟨_, rfl, h2⟩
  refine Sm rfl rfl ?_
  refine as_q rfl rfl (q_eqT rfl rfl (by omega)) ?_
  refine Sm rfl rfl ?_
  refine as_gh rfl rfl rfl rfl (h_q rfl (q_move rfl) ?_)
  refine as_gh rfl rfl rfl rfl (h_q rfl (q_len (by kernel_rfl) rfl _) ?_)
  refine as_gh rfl rfl rfl rfl (h_q rfl (q_eqT rfl rfl (by omega)) ?_)
  refine as_q rfl rfl (q_pick_t rfl rfl) ?_
  refine Sm rfl rfl ?_
  refine as_gh rfl rfl rfl rfl (h_q rfl (q_move rfl) ?_)
  refine as_gh rfl rfl rfl rfl (h_q rfl (q_indexAddr (e := 24) (size := 2) (by kernel_rfl) (by kernel_rfl) rfl rfl (by omega) (by omega)) ?_)
  refine as_gh rfl rfl rfl rfl (h_q rfl (q_fieldAddr (off := 0) (by kernel_rfl) rfl) ?_)
  refine as_gh rfl rfl rfl rfl (h_q rfl (q_load1 (by kernel_rfl) rfl (show _ = some (Value.int .i64 1) from ElRow.fst (d := #[(1, 0), (2, 0), (2, 0)]) hbs (i := 0) (by decide))) ?_)
  refine as_gh rfl rfl rfl rfl (h_q rfl (q_eqT rfl rfl (by omega)) ?_)
  refine as_q rfl rfl (q_pick_t rfl rfl) ?_
  refine Sm rfl rfl ?_
  refine as_gh rfl rfl rfl rfl (h_q rfl (q_move rfl) ?_)
  refine as_gh rfl rfl rfl rfl (h_q rfl (q_indexAddr (e := 24) (size := 2) (by kernel_rfl) (by kernel_rfl) rfl rfl (by omega) (by omega)) ?_)
  refine as_gh rfl rfl rfl rfl (h_q rfl (q_fieldAddr (off := 0) (by kernel_rfl) rfl) ?_)
  refine as_gh rfl rfl rfl rfl (h_q rfl (q_load1 (by kernel_rfl) rfl (show _ = some (Value.int .i64 2) from ElRow.fst (d := #[(1, 0), (2, 0), (2, 0)]) hbs (i := 2) (by decide))) ?_)
  refine as_gh rfl rfl rfl rfl (h_q rfl (q_eqT rfl rfl (by omega)) ?_)
  refine as_q rfl rfl (q_pick_t rfl rfl) ?_
  refine Sm rfl rfl ?_
  refine as_gh rfl rfl rfl rfl (h_q rfl (q_move rfl) ?_)
  refine as_gh rfl rfl rfl rfl (h_q rfl (q_eqT rfl rfl (by omega)) ?_)
  refine as_q rfl rfl (q_pick_t rfl rfl) ?_
  refine Sm rfl rfl ?_
  refine as_gh rfl rfl rfl rfl (h_q rfl (q_move rfl) ?_)
  refine as_gh rfl rfl rfl rfl (h_q rfl (q_len (by kernel_rfl) rfl _) ?_)
  refine as_gh rfl rfl rfl rfl (h_q rfl (q_eqT rfl rfl (by omega)) ?_)
  refine as_q rfl rfl (q_pick_t rfl rfl) ?_
  refine Sm rfl rfl ?_
  refine as_gh rfl rfl rfl rfl (h_q rfl (q_move rfl) ?_)
  refine as_gh rfl rfl rfl rfl (h_q rfl (q_eqT rfl rfl (by omega)) ?_)
  refine as_q rfl rfl (q_pick_t rfl rfl) ?_
  refine Sm rfl rfl ?_
  refine as_gh rfl rfl rfl rfl (h_q rfl (q_move rfl) ?_)
  refine as_gh rfl rfl rfl rfl (h_q rfl (q_eqT rfl rfl (by omega)) ?_)
  refine as_q rfl rfl (q_pick_t rfl rfl) ?_
  refine Sm rfl rfl ?_
  refine as_gh rfl rfl rfl rfl (h_q rfl (q_loadc (n := 1) (by kernel_rfl) rfl (by exact Blk.cells hox.1 rfl)) ?_)
  refine as_gh rfl rfl rfl rfl (h_q rfl (q_build (zs := [(.int .i64 0), (.int .i64 0)]) (places := [(0, 1), (1, 1)]) (cs := [_, _]) (by kernel_rfl) (by kernel_rfl) rfl rfl) ?_)
  refine as_gh rfl rfl rfl rfl (h_call (by kernel_rfl) rfl ?_)
  refine (dr_count (x := (2, 0)) hs12.sat hx (by decide)).mono ?_
  rintro _ w13 ⟨hv13, hs13⟩
  rw [show (([((1, 0) : El), (2, 0), (2, 0)].countP fun y => decide (y = (2, 0)) : Nat) : Int) = 2 by decide] at hv13
  subst hv13
  replace hx := hx.mono hs13.le
  replace hox := hox.then hs13
  replace hoq := hoq.then hs13
  replace hT := hT.then hs13
  have hz13 := hs13.size
  refine as_gh rfl rfl rfl rfl (h_q rfl (q_eqT rfl rfl (by omega)) ?_)
  refine as_q rfl rfl (q_pick_t rfl rfl) ?_
  refine Sm rfl rfl ?_
  refine as_gh rfl rfl rfl rfl (h_q rfl (q_loadc (n := 1) (by kernel_rfl) rfl (by exact Blk.cells hox.1 rfl)) ?_)
  refine as_gh rfl rfl rfl rfl (h_q rfl (q_loadc (n := 1) (by kernel_rfl) rfl (by exact Blk.cells hox.1 rfl)) ?_)
  refine as_gh rfl rfl rfl rfl (h_call (by kernel_rfl) rfl ?_)
  refine (dr_same hs13.sat hx hx (by decide) (by decide)).mono ?_
  rintro _ w14 ⟨hv14, hs14⟩
  rw [decide_eq_true rfl] at hv14
  subst hv14
  replace hoq := hoq.then hs14
  replace hT := hT.then hs14
  have hz14 := hs14.size
  refine as_q rfl rfl (q_pick_t rfl rfl) ?_
  refine Sm rfl rfl ?_
  refine as_gh rfl rfl rfl rfl (h_q rfl (q_move rfl) ?_)
  refine as_gh rfl rfl rfl rfl (h_q rfl (q_eqT rfl rfl (by omega)) ?_)
  refine as_q rfl rfl (q_pick_t rfl rfl) ?_
  refine Sm rfl rfl ?_
  refine as_gh rfl rfl rfl rfl (h_q rfl (q_move rfl) ?_)
  refine as_gh rfl rfl rfl rfl (h_call (by kernel_rfl) rfl ?_)
  refine (dr_done_1 hs14.sat hoq).mono ?_
  rintro _ w15 ⟨rfl, hs15⟩
  replace hT := hT.then hs15
  have hz15 := hs15.size
  refine as_gh rfl rfl rfl rfl (h_q rfl (q_eqT rfl rfl (by omega)) ?_)
  refine as_q rfl rfl (q_pick_t rfl rfl) ?_
  refine Sm rfl rfl ?_
  refine as_gh rfl rfl rfl rfl (h_q rfl (q_move rfl) ?_)
  refine as_gh rfl rfl rfl rfl (h_q rfl (q_len (by kernel_rfl) rfl _) ?_)
  refine as_gh rfl rfl rfl rfl (h_q rfl (q_eqT rfl rfl (by omega)) ?_)
  refine as_q rfl rfl (q_pick_t rfl rfl) ?_
  refine Sm rfl rfl ?_
  refine as_gh rfl rfl rfl rfl (h_q rfl (q_move rfl) ?_)
  refine as_gh rfl rfl rfl rfl (h_q rfl (q_len (by kernel_rfl) rfl _) ?_)
  refine as_gh rfl rfl rfl rfl (h_q rfl (q_eqT rfl rfl (by omega)) ?_)
  refine as_q rfl rfl (q_pick_t rfl rfl) ?_
  refine Sa rfl rfl ?_
  refine as_nil (κ _ _ ?_)
  refine cw_ret ?_
  exact ⟨_, (res_tmp rfl res_nil), rfl, hT.forget⟩
end Go.Proofs.YtgcgjpfjjgalmaaGreat
/- A drain is made once, and what it answers is the asker s own, part 1. -/
namespace Go.Proofs.YtgcgjpfjjgalmaaGreat
open Go Go.Eng
theorem dr_all_any {w : World} {M : Mem} {q k m : Nat} {d : Int} {l lm : List El} {hv sv : Value} (hs : Sat M w) (hz : l.length < 100000000) (ho : Own w M q [hv, sv, .int .u32 d, .int .i32 0, .int .u32 0, .int .i32 d] 115) (h : HVal M k l hv) (hb : Buf w M 24 2 sv m (els lm)) (hc : (d = 0 ∨ (d = 1 ∧ m = l.length ∧ lm = l))) :
    Does Tryz.prog 20 #[.pointer (some ⟨q, 0, none⟩)] w (fun v w' => ∃ sv2 M', Step (Just q) M w M' w' ∧ Own w' M' q [hv, sv2, .int .u32 1, .int .i32 0, .int .u32 0, .int .i32 1] 115 ∧ Buf w' M' 24 2 sv2 l.length (els l) ∧ HVal M' k l hv ∧ Buf w' M' 24 2 v l.length (els l) ∧ (∀ g, v.ownBlock = some g → w.heap.size ≤ g) ∧ (∀ g, v.ownBlock = some g → sv2.ownBlock ≠ some g) ∧ (sv2 = sv ∨ ∀ g, sv2.ownBlock = some g → w.heap.size ≤ g)) := by
  rcases hc with rfl | ⟨rfl, rfl, rfl⟩
  · exact dr_all_first hs hz ho h
  · exact dr_all_again hs hz ho h hb
set_option maxRecDepth 4000 in
theorem drainOnce_b {w : World} {M : Mem} {z u : Int} {sa : Option Addr} {n ca : Nat} (hs : Sat M w) (hz : 40 < n ∨ z < 1 ∨ 6 < z) :
    Does Tryz.prog 4 #[.int .i64 z, .slice sa n ca, .int .u8 u] w (fun v w' => v = .bool true ∧ Step Nope M w M w') := by
  have hT := Step.refl Nope hs
  refine fn_enter Tryz.func4 rfl (rs := [.tmp 6]) rfl rfl rfl rfl ?_
  refine cw_rs fun _ κ => ?_
  refine Sa rfl rfl ?_
  refine as_nil (κ _ _ ?_)
  refine cw_rs fun _ κ => ?_
  refine as_h rfl (h_call (by kernel_rfl) rfl ?_)
  refine (awake16 hs).mono ?_
  rintro _ w1 ⟨rfl, hs1⟩
  replace hT := hT.then hs1
  refine Sa rfl rfl ?_
  refine as_nil (κ _ _ ?_)
  refine cw_seq fun _ hK3 => ?_
  refine cw_rs fun _ κ => ?_
  refine Sm rfl rfl ?_
  refine as_q rfl rfl (q_not rfl) ?_
  refine as_nil (κ _ _ ?_)
  refine cw_false rfl ?_
  refine cw_skip ?_
  refine hK3 _ _ ?_
  refine cw_seq fun _ hK5 => ?_
  rcases (show (40 < n) ∨ (¬ (40 < n) ∧ z < 1) ∨ (¬ (40 < n) ∧ ¬ (z < 1) ∧ 6 < z) by omega) with h0 | ⟨h0, h1⟩ | ⟨h0, h1, h2⟩
  · skip
    refine cw_rs fun _ κ => ?_
    refine Sm rfl rfl ?_
    refine as_q rfl rfl (q_len (by kernel_rfl) rfl _) ?_
    refine as_q rfl rfl (q_gtT rfl rfl (by omega)) ?_
    refine Sm rfl rfl ?_
    refine as_gskip rfl rfl rfl rfl rfl ?_
    refine as_gskip rfl rfl rfl rfl rfl ?_
    refine as_q rfl rfl (q_pick_t rfl rfl) ?_
    refine Sm rfl rfl ?_
    refine as_gskip rfl rfl rfl rfl rfl ?_
    refine as_gskip rfl rfl rfl rfl rfl ?_
    refine as_q rfl rfl (q_pick_t rfl rfl) ?_
    refine as_nil (κ _ _ ?_)
    refine cw_true rfl ?_
    refine cw_rs fun _ κ => ?_
    refine Sa rfl rfl ?_
    refine as_nil (κ _ _ ?_)
    refine cw_ret ?_
    exact ⟨_, (res_tmp rfl res_nil), rfl, hT.forget⟩
  · skip
    refine cw_rs fun _ κ => ?_
    refine Sm rfl rfl ?_
    refine as_q rfl rfl (q_len (by kernel_rfl) rfl _) ?_
    refine as_q rfl rfl (q_gtF rfl rfl (by omega)) ?_
    refine Sm rfl rfl ?_
    refine as_gh rfl rfl rfl rfl (h_q rfl (q_move rfl) ?_)
    refine as_gh rfl rfl rfl rfl (h_q rfl (q_ltT rfl rfl (by omega)) ?_)
    refine as_q rfl rfl (q_pick_f rfl rfl) ?_
    refine Sm rfl rfl ?_
    refine as_gskip rfl rfl rfl rfl rfl ?_
    refine as_gskip rfl rfl rfl rfl rfl ?_
    refine as_q rfl rfl (q_pick_t rfl rfl) ?_
    refine as_nil (κ _ _ ?_)
    refine cw_true rfl ?_
    refine cw_rs fun _ κ => ?_
    refine Sa rfl rfl ?_
    refine as_nil (κ _ _ ?_)
    refine cw_ret ?_
    exact ⟨_, (res_tmp rfl res_nil), rfl, hT.forget⟩
  · skip
    refine cw_rs fun _ κ => ?_
    refine Sm rfl rfl ?_
    refine as_q rfl rfl (q_len (by kernel_rfl) rfl _) ?_
    refine as_q rfl rfl (q_gtF rfl rfl (by omega)) ?_
    refine Sm rfl rfl ?_
    refine as_gh rfl rfl rfl rfl (h_q rfl (q_move rfl) ?_)
    refine as_gh rfl rfl rfl rfl (h_q rfl (q_ltF rfl rfl (by omega)) ?_)
    refine as_q rfl rfl (q_pick_f rfl rfl) ?_
    refine Sm rfl rfl ?_
    refine as_gh rfl rfl rfl rfl (h_q rfl (q_move rfl) ?_)
    refine as_gh rfl rfl rfl rfl (h_q rfl (q_gtT rfl rfl (by omega)) ?_)
    refine as_q rfl rfl (q_pick_f rfl rfl) ?_
    refine as_nil (κ _ _ ?_)
    refine cw_true rfl ?_
    refine cw_rs fun _ κ => ?_
    refine Sa rfl rfl ?_
    refine as_nil (κ _ _ ?_)
    refine cw_ret ?_
    exact ⟨_, (res_tmp rfl res_nil), rfl, hT.forget⟩
set_option maxRecDepth 8000 in
theorem drainOnce_g {w : World} {M : Mem} {z u : Int} {sa : Option Addr} {n ca : Nat} {xs : List El} (hs : Sat M w) (hr : RdM M 2 (.slice sa n ca) n (els xs)) (hz : 1 ≤ z ∧ z ≤ 6) (hn : n ≤ 40) (hu0 : 0 ≤ u) (hu : u ≤ 255) :
    Does Tryz.prog 4 #[.int .i64 z, .slice sa n ca, .int .u8 u] w (fun v w' => v = .bool true ∧ Step Nope M w M w') := by
  have hT := Step.refl Nope hs
  obtain ⟨k, hkz⟩ : ∃ k : Nat, (k : Int) = z := ⟨z.toNat, by omega⟩
  have hem : emE z = 0 := by unfold emE; rw [if_pos hz]
  have hekz : emK z = k := by unfold emK; rw [if_pos hz]; omega
  have hk0 : k ≠ 0 := by omega
  have hofl : ∀ l, ofL z l = srtE l := fun l => by unfold ofL; rw [if_pos hz]
  have hxl := (hr.rds w).els_len hs
  obtain ⟨L, hL⟩ : ∃ L, L = srtE xs := ⟨_, rfl⟩
  have hLl : L.length = n := by rw [hL, srtE_length, hxl]
  obtain ⟨r5, h5⟩ : ∃ r5 : Nat, u.tmod 5 = (r5 : Int) := ⟨(u.tmod 5).toNat, by have := Int.tmod_nonneg 5 hu0; omega⟩
  have hr59 : r5 ≤ 255 := by rw [Int.tmod_eq_emod_of_nonneg hu0] at h5; omega
  refine fn_enter Tryz.func4 rfl (rs := [.tmp 6]) rfl rfl rfl rfl ?_
  refine cw_rs fun _ κ => ?_
  refine Sa rfl rfl ?_
  refine as_nil (κ _ _ ?_)
  refine cw_rs fun _ κ => ?_
  refine as_h rfl (h_call (by kernel_rfl) rfl ?_)
  refine (awake16 hs).mono ?_
  rintro _ w1 ⟨rfl, hs1⟩
  replace hr := hr.mono hs1.le
  replace hT := hT.then hs1
  have hz1 := hs1.size
  refine Sa rfl rfl ?_
  refine as_nil (κ _ _ ?_)
  refine cw_seq fun _ hK3 => ?_
  refine cw_rs fun _ κ => ?_
  refine Sm rfl rfl ?_
  refine as_q rfl rfl (q_not rfl) ?_
  refine as_nil (κ _ _ ?_)
  refine cw_false rfl ?_
  refine cw_skip ?_
  refine hK3 _ _ ?_
  refine cw_seq fun _ hK5 => ?_
  refine cw_rs fun _ κ => ?_
  refine Sm rfl rfl ?_
  refine as_q rfl rfl (q_len (by kernel_rfl) rfl _) ?_
  refine as_q rfl rfl (q_gtF rfl rfl (by omega)) ?_
  refine Sm rfl rfl ?_
  refine as_gh rfl rfl rfl rfl (h_q rfl (q_move rfl) ?_)
  refine as_gh rfl rfl rfl rfl (h_q rfl (q_ltF rfl rfl (by omega)) ?_)
  refine as_q rfl rfl (q_pick_f rfl rfl) ?_
  refine Sm rfl rfl ?_
  refine as_gh rfl rfl rfl rfl (h_q rfl (q_move rfl) ?_)
  refine as_gh rfl rfl rfl rfl (h_q rfl (q_gtF rfl rfl (by omega)) ?_)
  refine as_q rfl rfl (q_pick_f rfl rfl) ?_
  refine as_nil (κ _ _ ?_)
  refine cw_false rfl ?_
  refine cw_skip ?_
  refine hK5 _ _ ?_
  refine cw_rs fun _ κ => ?_
  refine Sm rfl rfl ?_
  refine Sm rfl rfl ?_
  refine as_h rfl (h_call (by kernel_rfl) rfl ?_)
  refine (hp_of (z := z) hs1.sat (hr.rds _) (by omega)).mono ?_
  rintro _ w2 ⟨vx, Mx, hrx, hs2, hvx⟩
  rw [hem] at hrx
  subst hrx
  rw [hekz, hofl, ← hL] at hvx
  replace hr := hr.mono hs2.le
  replace hT := hT.then hs2
  have hz2 := hs2.size
  obtain ⟨dx, ux, rfl⟩ := hvx.iface hk0
  refine Sm rfl rfl ?_
  refine Se rfl rfl rfl ?_
  refine Se rfl rfl rfl ?_
  have hqax := hT.size
  refine as_h rfl (h_allocO (z := (.agg #[.nilIface])) hs2.sat (by kernel_rfl) rfl fun bx w3 hs3 hox ex => ?_)
  replace hr := hr.mono hs3.le
  replace hvx := hvx.mono hs3.le
  replace hT := hT.then hs3
  have hz3 := hs3.size
  have hlx := hox.1.lt
  refine as_h0 (h_store hs3.sat hox rfl rfl rfl (by kernel_rfl) rfl rfl rfl fun w4 hs4 hn4 => ?_)
  replace hr := hr.mono hs4.le
  replace hvx := hvx.mono hs4.le
  clear hox; have hox := hn4; clear hn4
  replace hT := hT.own hs4 (by omega)
  have hz4 := hs4.size
  refine Sa rfl rfl ?_
  refine as_nil (κ _ _ ?_)
  refine cw_rs fun _ κ => ?_
  refine Sc 1 rfl (by kernel_rfl) rfl (by exact Blk.cells hox.1 rfl) ?_
  refine as_h rfl (h_call (by kernel_rfl) rfl ?_)
  have hqpA := hT.size
  refine (dr_of hs4.sat hvx).mono ?_
  rintro _ w5 ⟨qA, MA, rfl, hs5, hoqA, hqwA⟩
  replace hr := hr.mono hs5.le
  replace hvx := hvx.mono hs5.le
  replace hox := hox.then hs5
  replace hT := hT.then hs5
  have hz5 := hs5.size
  have hqlA := hoqA.1.lt
  refine Sa rfl rfl ?_
  refine as_nil (κ _ _ ?_)
  refine cw_seq fun _ hK9 => ?_
  refine cw_rs fun _ κ => ?_
  refine Sm rfl rfl ?_
  refine as_q rfl rfl (q_neF rfl rfl (by omega)) ?_
  refine Sm rfl rfl ?_
  refine as_gh rfl rfl rfl rfl (h_q rfl (q_move rfl) ?_)
  refine as_gh rfl rfl rfl rfl (h_call (by kernel_rfl) rfl ?_)
  refine (dr_done_0 hs5.sat hoqA).mono ?_
  rintro _ w6 ⟨rfl, hs6⟩
  replace hr := hr.mono hs6.le
  replace hvx := hvx.mono hs6.le
  replace hox := hox.then hs6
  replace hoqA := hoqA.then hs6
  replace hT := hT.then hs6
  have hz6 := hs6.size
  refine as_gh rfl rfl rfl rfl (h_q rfl (q_neF rfl rfl (by omega)) ?_)
  refine as_q rfl rfl (q_pick_f rfl rfl) ?_
  refine as_nil (κ _ _ ?_)
  refine cw_false rfl ?_
  refine cw_skip ?_
  refine hK9 _ _ ?_
  refine cw_rs fun _ κ => ?_
  refine Sm rfl rfl ?_
  refine as_h rfl (h_call (by kernel_rfl) rfl ?_)
  refine (ref_sort hs6.sat hr (by omega)).mono ?_
  rintro vs w7 ⟨Ms, hs7, hsr⟩
  rw [← hL] at hsr
  replace hvx := hvx.mono hs7.le
  replace hox := hox.then hs7
  replace hoqA := hoqA.then hs7
  replace hT := hT.then hs7
  have hz7 := hs7.size
  refine Sa rfl rfl ?_
  refine as_nil (κ _ _ ?_)
  refine cw_seq fun _ hK12 => ?_
  refine cw_rs fun _ κ => ?_
  refine Sa rfl rfl ?_
  refine as_nil (κ _ _ ?_)
  refine cw_block ?_
  refine cw_loop (fun mm l1 wL => ∃ (i m : Nat) (d : Int) (sv : Value) (lm : List El) (M1 : Mem), mm = r5 - i ∧ i ≤ r5 ∧ l1 = [(0, .int .i64 z), (1, .slice sa n ca), (2, .int .u8 u), (8, .pointer (some ⟨bx, 0, none⟩)), (10, .pointer (some ⟨qA, 0, none⟩)), (11, vs), (12, .int .i64 i)] ∧ Step Nope M w M1 wL ∧ (d = 0 ∨ (d = 1 ∧ m = L.length ∧ lm = L)) ∧ HVal M1 k L (.iface dx ux) ∧ RdM M1 2 vs n (els L) ∧ Own wL M1 bx [.iface dx ux] 29 ∧ Own wL M1 qA [.iface dx ux, sv, .int .u32 d, .int .i32 0, .int .u32 0, .int .i32 d] 115 ∧ Buf wL M1 24 2 sv m (els lm)) (r5) [(0, .int .i64 z), (1, .slice sa n ca), (2, .int .u8 u), (8, .pointer (some ⟨bx, 0, none⟩)), (10, .pointer (some ⟨qA, 0, none⟩)), (11, vs), (12, .int .i64 (0 : Nat))] (.cons rfl (.cons rfl (.cons rfl (.cons rfl (.cons rfl (.cons rfl (.cons rfl (.nil _)))))))) ?_ ?_
  · skip
    exact ⟨0, 0, 0, _, [], _, rfl, Nat.zero_le _, rfl, hT, .inl rfl, hvx, hsr, hox, hoqA, Buf.nil _ _ _ _⟩
  have hbx9 : w.heap.size ≤ bx ∧ w.heap.size ≤ qA := by have := hT.size; omega
  clear hT hvx hsr hox hoqA
  rintro mm l1 wL ⟨i, m, d, sv, lm, M1, rfl, hi, rfl, hT, hcase, hvx, hsr, hox, hoqA, hbsA⟩
  have hlo9 := hox.1.lt
  have hlq9 := hoqA.1.lt
  have hlhbsA := hbsA.lt
  have hsw9 := hT.size
  refine cw_seq fun _ hK14 => ?_
  refine cw_rs fun _ κ => ?_
  refine Sm rfl rfl ?_
  refine Sm rfl rfl ?_
  refine as_q rfl rfl (q_convx (by kernel_rfl) (by kernel_rfl) rfl (wrap64_of (by omega) (by omega))) ?_
  refine as_q rfl rfl (q_congr (q_rem rfl rfl (by omega)) (v' := .int .i64 (r5 : Int)) (by rw [h5])) ?_
  refine as_q rfl rfl (q_lt rfl rfl) ?_
  refine as_nil (κ _ _ ?_)
  refine cw_cond rfl (fun hc3 => ?_) (fun hc3 => ?_)
  · skip
    have hlt : i < r5 := by have := of_decide_eq_true hc3; omega
    refine cw_skip ?_
    refine hK14 _ _ ?_
    refine cw_seq fun _ hK16 => ?_
    refine cw_block ?_
    refine cw_rs fun _ κ => ?_
    refine Sm rfl rfl ?_
    refine as_h rfl (h_call (by kernel_rfl) rfl ?_)
    have hzbF := hT.size
    refine (dr_all_any hT.sat (by omega) hoqA hvx hbsA hcase).mono ?_
    rintro vF w8 ⟨svF, MF, hs8, hqF, hb2F, _, hbF, hfF, hdF, hfrF⟩
    replace hvx := hvx.mono hs8.le
    replace hsr := hsr.mono hs8.le
    replace hox := hox.step hs8 (fun h => by have h : _ = qA := h; omega)
    replace hT := hT.trans hs8 (fun b hb h => by have h : b = qA := h; omega)
    have hz8 := hs8.size
    clear hoqA; have hoqA := hqF; clear hqF
    clear hbsA hlhbsA
    have hbsA := hb2F; clear hb2F
    obtain ⟨raF, rcF, rfl, _, _⟩ := hbF.slice
    have hlhbF := hbF.lt
    have hlhbsA := hbsA.lt
    refine Sa rfl rfl ?_
    refine as_nil (κ _ _ ?_)
    refine cw_seq fun _ hK18 => ?_
    refine cw_rs fun _ κ => ?_
    refine Sm rfl rfl ?_
    refine Sm rfl rfl ?_
    refine as_h rfl (h_call (by kernel_rfl) rfl ?_)
    refine (ref_same hs8.sat (by omega) hbF.rds (hsr.rds _)).mono ?_
    rintro _ w9 ⟨hv9, hs9⟩
    rw [decide_eq_true rfl] at hv9
    subst hv9
    replace hvx := hvx.mono hs9.le
    replace hsr := hsr.mono hs9.le
    replace hox := hox.then hs9
    replace hoqA := hoqA.then hs9
    replace hbF := hbF.then hs9
    replace hbsA := hbsA.then hs9
    replace hT := hT.then hs9
    have hz9 := hs9.size
    refine as_q rfl rfl (q_not rfl) ?_
    refine Sm rfl rfl ?_
    refine as_gh rfl rfl rfl rfl (h_q rfl (q_move rfl) ?_)
    refine as_gh rfl rfl rfl rfl (h_call (by kernel_rfl) rfl ?_)
    refine (dr_done_1 hs9.sat hoqA).mono ?_
    rintro _ w10 ⟨rfl, hs10⟩
    replace hvx := hvx.mono hs10.le
    replace hsr := hsr.mono hs10.le
    replace hox := hox.then hs10
    replace hoqA := hoqA.then hs10
    replace hbF := hbF.then hs10
    replace hbsA := hbsA.then hs10
    replace hT := hT.then hs10
    have hz10 := hs10.size
    refine as_gh rfl rfl rfl rfl (h_q rfl (q_neF rfl rfl (by omega)) ?_)
    refine as_q rfl rfl (q_pick_f rfl rfl) ?_
    refine as_nil (κ _ _ ?_)
    refine cw_false rfl ?_
    refine cw_skip ?_
    refine hK18 _ _ ?_
    refine cw_rs fun _ κ => ?_
    refine Sa rfl rfl ?_
    refine as_nil (κ _ _ ?_)
    refine cw_block ?_
    refine cw_loop (fun mm l1 wN => ∃ (j : Nat) (ys : List El) (M2 : Mem), mm = L.length - j ∧ j ≤ L.length ∧ l1 = [(0, .int .i64 z), (1, .slice sa n ca), (2, .int .u8 u), (8, .pointer (some ⟨bx, 0, none⟩)), (10, .pointer (some ⟨qA, 0, none⟩)), (11, vs), (12, .int .i64 i), (13, .slice raF L.length rcF), (14, .int .i64 j)] ∧ Step Nope M w M2 wN ∧ HVal M2 k L (.iface dx ux) ∧ RdM M2 2 vs n (els L) ∧ Own wN M2 bx [.iface dx ux] 29 ∧ Own wN M2 qA [.iface dx ux, svF, .int .u32 1, .int .i32 0, .int .u32 0, .int .i32 1] 115 ∧ Buf wN M2 24 2 svF L.length (els L) ∧ Buf wN M2 24 2 (.slice raF L.length rcF) L.length (els ys)) (L.length) [(0, .int .i64 z), (1, .slice sa n ca), (2, .int .u8 u), (8, .pointer (some ⟨bx, 0, none⟩)), (10, .pointer (some ⟨qA, 0, none⟩)), (11, vs), (12, .int .i64 i), (13, .slice raF L.length rcF), (14, .int .i64 (0 : Nat))] (.cons rfl (.cons rfl (.cons rfl (.cons rfl (.cons rfl (.cons rfl (.cons rfl (.cons rfl (.cons rfl (.nil _)))))))))) ?_ ?_
    · skip
      exact ⟨0, _, _, rfl, Nat.zero_le _, rfl, hT, hvx, hsr, hox, hoqA, hbsA, hbF⟩
    have hgF : ∀ g, (Value.slice raF L.length rcF).ownBlock = some g → w.heap.size ≤ g ∧ bx < g ∧ qA < g := fun g hg => by have := hfF g hg; omega
    clear hT hvx hsr hox hoqA hbsA hbF
    rintro mm l1 wN ⟨j, ys, M2, rfl, hj, rfl, hT, hvx, hsr, hox, hoqA, hbsA, hbF⟩
    refine cw_seq fun _ hK21 => ?_
    refine cw_rs fun _ κ => ?_
    refine Sm rfl rfl ?_
    refine Sm rfl rfl ?_
    refine as_q rfl rfl (q_len (by kernel_rfl) rfl _) ?_
    refine as_q rfl rfl (q_lt rfl rfl) ?_
    refine as_nil (κ _ _ ?_)
    refine cw_cond rfl (fun hc5 => ?_) (fun hc5 => ?_)
    · skip
      have hlj : j < L.length := by have := of_decide_eq_true hc5; omega
      obtain ⟨g, rfl, hE⟩ : ∃ g, raF = some ⟨g, 0, none⟩ ∧ ElRow 24 wN M2 g L.length rcF ys.toArray := by
        rcases hbF.cases with ⟨_, h, _⟩ | ⟨g, c, h, h2⟩
        · omega
        · cases h
          exact ⟨_, rfl, h2⟩
      have hg3 := hgF g rfl
      refine cw_skip ?_
      refine hK21 _ _ ?_
      refine cw_seq fun _ hK23 => ?_
      refine cw_block ?_
      refine cw_region fun _ κ => ?_
      refine Sm rfl rfl ?_
      refine Sm rfl rfl ?_
      refine as_q rfl rfl (q_indexAddr (e := 24) (size := 2) (by kernel_rfl) (by kernel_rfl) rfl rfl (by omega) (by omega)) ?_
      refine Sf 0 rfl (by kernel_rfl) rfl ?_
      refine S1 rfl (by kernel_rfl) rfl (ElRow.fst hE (i := (j : Int).toNat) (by omega)) ?_
      refine as_q rfl rfl (q_add rfl rfl) ?_
      refine as_q rfl rfl (q_indexAddr (e := 24) (size := 2) (by kernel_rfl) (by kernel_rfl) rfl rfl (by omega) (by omega)) ?_
      refine Sf 0 rfl (by kernel_rfl) rfl ?_
      refine as_h0 (h_storeFst (i := (j : Int).toNat) hT.sat hE rfl rfl (by kernel_rfl) (by omega) fun w11 hs11 hE11 => ?_)
      replace hox := hox.step hs11 (fun h => by have h : _ = g := h; omega)
      replace hoqA := hoqA.step hs11 (fun h => by have h : _ = g := h; omega)
      replace hvx := hvx.mono hs11.le
      replace hsr := hsr.mono hs11.le
      replace hbsA := hbsA.step hs11 (fun g2 hg2 h => by have h : g2 = g := h; subst h; exact hdF _ rfl hg2)
      clear hE; have hE := hE11; clear hE11
      replace hT := hT.trans hs11 (fun b hb h => by have h : b = g := h; omega)
      refine as_nil (κ _ _ ?_)
      refine hK23 _ _ ?_
      refine cw_region fun _ κ => ?_
      refine Sm rfl rfl ?_
      refine as_q rfl rfl (q_addx rfl rfl (by omega) (by omega)) ?_
      refine Sa rfl rfl ?_
      refine as_nil (κ _ _ ?_)
      refine ⟨_, _, ?_, (.cons rfl (.cons rfl (.cons rfl (.cons rfl (.cons rfl (.cons rfl (.cons rfl (.cons rfl (.cons rfl (.nil _)))))))))), j + 1, _, _, rfl, by omega, rfl, hT, hvx, hsr, hox, hoqA, hbsA, hE⟩
      omega
    · skip
      have hgj : j = L.length := by have := of_decide_eq_false hc5; omega
      refine cw_exit ?_
      refine hK16 _ _ ?_
      refine cw_region fun _ κ => ?_
      refine Sm rfl rfl ?_
      refine as_q rfl rfl (q_addx rfl rfl (by omega) (by omega)) ?_
      refine Sa rfl rfl ?_
      refine as_nil (κ _ _ ?_)
      refine ⟨_, _, ?_, (.cons rfl (.cons rfl (.cons rfl (.cons rfl (.cons rfl (.cons rfl (.cons rfl (.nil _)))))))), i + 1, _, 1, _, _, _, rfl, by omega, rfl, hT, .inr ⟨rfl, rfl, rfl⟩, hvx, hsr, hox, hoqA, hbsA⟩
      omega
  · skip
    have hge : i = r5 := by have := of_decide_eq_false hc3; omega
    refine cw_exit ?_
    refine hK12 _ _ ?_
    refine cw_rs fun _ κ => ?_
    refine Sa rfl rfl ?_
    refine as_nil (κ _ _ ?_)
    refine cw_rs fun _ κ => ?_
    refine Sm rfl rfl ?_
    refine as_h rfl (h_call (by kernel_rfl) rfl ?_)
    refine (dr_all_nil hT.sat).mono ?_
    rintro _ w12 ⟨rfl, hs12⟩
    replace hvx := hvx.mono hs12.le
    replace hox := hox.then hs12
    replace hT := hT.then hs12
    have hz12 := hs12.size
    refine as_q rfl rfl (q_len (by kernel_rfl) rfl _) ?_
    refine Sm rfl rfl ?_
    refine as_h rfl (h_call (by kernel_rfl) rfl ?_)
    refine (dr_done_nil hs12.sat).mono ?_
    rintro _ w13 ⟨rfl, hs13⟩
    replace hvx := hvx.mono hs13.le
    replace hox := hox.then hs13
    replace hT := hT.then hs13
    have hz13 := hs13.size
    refine as_q rfl rfl (q_addx rfl rfl (by omega) (by omega)) ?_
    refine as_q rfl rfl (q_eqT rfl rfl (by omega)) ?_
    refine Sm rfl rfl ?_
    refine as_gh rfl rfl rfl rfl (h_q rfl (q_loadc (n := 1) (by kernel_rfl) rfl (by exact Blk.cells hox.1 rfl)) ?_)
    refine as_gh rfl rfl rfl rfl (h_call (by kernel_rfl) rfl ?_)
    refine (hp_size hs13.sat hvx (by omega)).mono ?_
    rintro _ w14 ⟨rfl, hs14⟩
    replace hT := hT.then hs14
    have hz14 := hs14.size
    refine as_gh rfl rfl rfl rfl (h_q rfl (q_move rfl) ?_)
    refine as_gh rfl rfl rfl rfl (h_q rfl (q_len (by kernel_rfl) rfl _) ?_)
    refine as_gh rfl rfl rfl rfl (h_q rfl (q_eqT rfl rfl (by omega)) ?_)
    refine as_q rfl rfl (q_pick_t rfl rfl) ?_
    refine Sa rfl rfl ?_
    refine as_nil (κ _ _ ?_)
    refine cw_ret ?_
    exact ⟨_, (res_tmp rfl res_nil), rfl, hT.forget⟩
theorem drainOnce_walk {w : World} {M : Mem} {z u : Int} {va : Value} {n : Nat} {xs : List El} (hs : Sat M w) (hr : RdM M 2 va n (els xs)) (hu0 : 0 ≤ u) (hu : u ≤ 255) : Does Tryz.prog 4 #[.int .i64 z, va, .int .u8 u] w (fun v w' => v = .bool true ∧ Step Nope M w M w') := by
  obtain ⟨sa, ca, rfl, _, _⟩ := hr.slice
  by_cases hz : 40 < n ∨ z < 1 ∨ 6 < z
  · exact drainOnce_b hs hz
  · exact drainOnce_g hs hr (by omega) (by omega) hu0 hu
end Go.Proofs.YtgcgjpfjjgalmaaGreat
/- Elements, and rows of them, among a law s arguments. -/
namespace Go.Proofs.YtgcgjpfjjgalmaaGreat
open Go Go.Eng Go.ChangeShapes Go.WideShapes Go.RowKit
theorem two_cells {α : Type} : ∀ {cs : List α}, cs.length = 2 → ∃ a b, cs = [a, b]
  | [a, b], _ => ⟨a, b, rfl⟩
/-- Numbers of the kind. -/
def ElOk (e : El) : Prop := (-9223372036854775808 ≤ e.1 ∧ e.1 ≤ 9223372036854775807) ∧ (-9223372036854775808 ≤ e.2 ∧ e.2 ≤ 9223372036854775807)
section
variable {H : Type} {enc : TypeId × Value → H} {W : World} {spare : Nat → Bool} {held : Bool} {v : Value} {x : DataW H × List MemPlace} {fuel : Nat} {d : DataW H} {p : List MemPlace}
theorem read_el {cs : List Value} (h : DataW.trod enc Tryz.prog W 0 spare held fuel 24 cs = some x) : ∃ e : El, cs = elc e ∧ ElOk e := by
  obtain ⟨xs, n, _, _, hl, hx, hf⟩ := DataW.trod_struct Tryz.underlying24 h
  rw [show Tryz.prog.cellsOf 24 = 2 by kernel_rfl] at hl
  obtain ⟨a, b, rfl⟩ := two_cells hl
  have h0 := hf 0 _ rfl
  have h1 := hf 1 _ rfl
  rw [show Tryz.prog.cellsOf _ = 1 by kernel_rfl] at h0 h1
  rw [List.getElem?_eq_getElem (by rw [hx]; decide)] at h0 h1
  obtain ⟨m, hm, wm⟩ := DataW.trod_int Tryz.underlying2 h0
  obtain ⟨k, hk, wk⟩ := DataW.trod_int Tryz.underlying2 h1
  cases hm
  cases hk
  exact ⟨(m, k), rfl, by simpa [Lit.wf, IntKind.min, IntKind.max, IntKind.signed, IntKind.bits] using wm.2, by simpa [Lit.wf, IntKind.min, IntKind.max, IntKind.signed, IntKind.bits] using wk.2⟩
theorem read_els (hv : ∃ a n c, v = .slice a n c) (h : DataW.Trod enc Tryz.prog W 0 spare held 22 v d p) : ∃ (n : Nat) (xs : List El), RdM (memOf W) 2 v n (els xs) ∧ ∀ e ∈ xs, ElOk e := by
  obtain ⟨fuel, h⟩ := h
  obtain ⟨a, k, c, rfl⟩ := hv
  obtain ⟨n, ys, _, h1, h2⟩ := read_rows elc ElOk elc_length Tryz.underlying22 (show Tryz.prog.cellsOf 24 = 2 by kernel_rfl) (by decide) (fun _ cs x hx => read_el hx) (v := .slice a k c) h
  exact ⟨n, ys, h1, h2⟩
end
end Go.Proofs.YtgcgjpfjjgalmaaGreat
