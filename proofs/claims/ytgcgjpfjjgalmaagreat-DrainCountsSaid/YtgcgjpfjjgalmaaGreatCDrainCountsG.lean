/- Steps of the proof that the law of this claim answers true, part 7. No conditions. -/
import Derived.Test.YtgcgjpfjjgalmaaGreatRows
import Derived.KernelRfl
import Derived.Test.YtgcgjpfjjgalmaaGreatCDrainCountsF
/- Whether two heaps have the same, part 1. -/
namespace Go.Proofs.YtgcgjpfjjgalmaaGreat
open Go Go.Eng
theorem dr_same_1 {w : World} {M : Mem} {k k2 : Nat} {l l2 : List El} {v0 v2 : Value} (hs : Sat M w) (h : HVal M k l v0) (h2 : HVal M k2 l2 v2) (hz : l.length < 100000000) (hz2 : l2.length < 100000000) (hne : l.length = l2.length) :
    Does Tryz.prog 17 #[.agg #[v0], .agg #[v2]] w (fun v w' => v = .bool (decide (l = l2)) ∧ Step Nope M w M w') := by
  have hT := Step.refl Nope hs
  have hs1 := h.shape
  have hs2 := h2.shape
  refine fn_enter Tryz.func17 rfl (rs := [.tmp 4]) rfl rfl rfl rfl ?_
  refine cw_rs fun _ κ => ?_
  refine as_h rfl (h_boxM hs rfl rfl fun b1 M1 w1 hs1 hb1 e1 => ?_)
  replace h := h.mono hs1.le
  replace h2 := h2.mono hs1.le
  replace hT := hT.then hs1
  have hz1 := hs1.size
  refine as_h rfl (h_boxM hs1.sat rfl rfl fun b2 M2 w2 hs2 hb2 e2 => ?_)
  replace h := h.mono hs2.le
  replace h2 := h2.mono hs2.le
  replace hb1 := hs2.le _ _ hb1
  replace hT := hT.then hs2
  have hz2 := hs2.size
  refine Sa rfl rfl ?_
  refine as_nil (κ _ _ ?_)
  refine cw_dr (by kernel_rfl) fun _ κ => ?_
  have hs3 := Step.drew hs2.sat
  have hz3 := hs3.size
  replace h := h.mono hs3.le
  replace h2 := h2.mono hs3.le
  replace hb1 := hs3.le _ _ hb1
  replace hb2 := hs3.le _ _ hb2
  replace hT := hT.then hs3
  refine Dlc 0 1 1 rfl (by kernel_rfl) (by kernel_rfl) rfl (by exact BlkR.cells (hs3.sat _ _ _ hb1) rfl) ?_
  refine Dlc 2 5 1 rfl (by kernel_rfl) (by kernel_rfl) rfl (by exact BlkR.cells (hs3.sat _ _ _ hb2) rfl) ?_
  refine Dh 1 7 rfl (by kernel_rfl) (keep_sift (bs := [F,T]) (by kernel_rfl)) (h_call (by kernel_rfl) rfl ?_)
  refine (hp_size hs3.sat h (by omega)).mono ?_
  rintro _ w4 ⟨rfl, hs4⟩
  replace h := h.mono hs4.le
  replace h2 := h2.mono hs4.le
  replace hb1 := hs4.le _ _ hb1
  replace hb2 := hs4.le _ _ hb2
  replace hT := hT.then hs4
  have hz4 := hs4.size
  refine ⟨(by repeat' first | exact trivial | exact BlkR.cell (hs4.sat _ _ _ hb1) rfl | exact BlkR.cells (hs4.sat _ _ _ hb1) rfl | exact BlkR.cell (hs4.sat _ _ _ hb2) rfl | exact BlkR.cells (hs4.sat _ _ _ hb2) rfl | assumption | refine all_keep ?_ | refine And.intro ?_ ?_), ?_⟩
  refine Dh 3 15 rfl (by kernel_rfl) (keep_sift (bs := [T]) (by kernel_rfl)) (h_call (by kernel_rfl) rfl ?_)
  refine (hp_size hs4.sat h2 (by omega)).mono ?_
  rintro _ w5 ⟨rfl, hs5⟩
  replace h := h.mono hs5.le
  replace h2 := h2.mono hs5.le
  replace hb1 := hs5.le _ _ hb1
  replace hb2 := hs5.le _ _ hb2
  replace hT := hT.then hs5
  have hz5 := hs5.size
  refine ⟨trivial, ?_⟩
  refine Dq 4 31 rfl (by kernel_rfl) (fun _ => (q_eqT rfl rfl (by omega))) ?_
  refine Dm 5 63 rfl (by kernel_rfl) rfl ?_
  refine at_gq (i := 6) (li := lb 13 127) (cellsAre _ _ 1 _) rfl (by kernel_rfl) rfl rfl rfl rfl (fun _ h => q_loadc (n := 1) (by kernel_rfl) rfl h) (by exact BlkR.cells (hs5.sat _ _ _ hb1) rfl) (by kernel_rfl) ?_
  refine at_gq (i := 8) (li := lb 13 383) (cellsAre _ _ 1 _) rfl (by kernel_rfl) rfl rfl rfl rfl (fun _ h => q_loadc (n := 1) (by kernel_rfl) rfl h) (by exact BlkR.cells (hs5.sat _ _ _ hb2) rfl) (by kernel_rfl) ?_
  refine Dgh 7 511 rfl (by kernel_rfl) rfl rfl rfl (h_call (by kernel_rfl) rfl ?_)
  refine (dr_sorted hs5.sat h (by omega)).mono ?_
  rintro sp w6 ⟨Mp, hs6, hbp, hfp⟩
  replace h := h.mono hs6.le
  replace h2 := h2.mono hs6.le
  replace hb1 := hs6.le _ _ hb1
  replace hb2 := hs6.le _ _ hb2
  replace hT := hT.then hs6
  have hz6 := hs6.size
  obtain ⟨ap, cp, rfl, _, _⟩ := hbp.slice
  refine ⟨(by repeat' first | exact trivial | exact BlkR.cell (hs6.sat _ _ _ hb1) rfl | exact BlkR.cells (hs6.sat _ _ _ hb1) rfl | exact BlkR.cell (hs6.sat _ _ _ hb2) rfl | exact BlkR.cells (hs6.sat _ _ _ hb2) rfl | assumption | refine all_keep ?_ | refine And.intro ?_ ?_), ?_⟩
  refine Dgh 9 1023 rfl (by kernel_rfl) rfl rfl rfl (h_call (by kernel_rfl) rfl ?_)
  refine (dr_sorted hs6.sat h2 (by omega)).mono ?_
  rintro sq w7 ⟨Mq, hs7, hbq, hfq⟩
  replace h := h.mono hs7.le
  replace hb1 := hs7.le _ _ hb1
  replace hb2 := hs7.le _ _ hb2
  replace hbp := hbp.then hs7
  replace hT := hT.then hs7
  have hz7 := hs7.size
  obtain ⟨aq, cq, rfl, _, _⟩ := hbq.slice
  refine ⟨(by repeat' first | exact trivial | exact BlkR.cell (hs7.sat _ _ _ hb1) rfl | exact BlkR.cells (hs7.sat _ _ _ hb1) rfl | exact BlkR.cell (hs7.sat _ _ _ hb2) rfl | exact BlkR.cells (hs7.sat _ _ _ hb2) rfl | assumption | refine all_keep ?_ | refine And.intro ?_ ?_), ?_⟩
  refine Dgh 10 2047 rfl (by kernel_rfl) rfl rfl rfl (h_call (by kernel_rfl) rfl ?_)
  refine (sl_equal hs7.sat (by omega) hbp.rds hbq.rds).mono ?_
  rintro _ w8 ⟨rfl, hs8⟩
  replace h := h.mono hs8.le
  replace hb1 := hs8.le _ _ hb1
  replace hb2 := hs8.le _ _ hb2
  replace hT := hT.then hs8
  have hz8 := hs8.size
  refine ⟨(by repeat' first | exact trivial | exact BlkR.cell (hs8.sat _ _ _ hb1) rfl | exact BlkR.cells (hs8.sat _ _ _ hb1) rfl | exact BlkR.cell (hs8.sat _ _ _ hb2) rfl | exact BlkR.cells (hs8.sat _ _ _ hb2) rfl | assumption | refine all_keep ?_ | refine And.intro ?_ ?_), ?_⟩
  refine Dq 11 4095 rfl (by kernel_rfl) (fun _ => (q_pick_t rfl rfl)) ?_
  refine Da 12 8191 rfl (by kernel_rfl) rfl ?_
  refine Dd (by kernel_rfl) (κ _ _ ?_)
  refine cw_ret ?_
  exact ⟨_, (res_tmp rfl res_nil), rfl, hT.forget⟩
theorem dr_same_0 {w : World} {M : Mem} {k k2 : Nat} {l l2 : List El} {v0 v2 : Value} (hs : Sat M w) (h : HVal M k l v0) (h2 : HVal M k2 l2 v2) (hz : l.length < 100000000) (hz2 : l2.length < 100000000) (hne : l.length ≠ l2.length) :
    Does Tryz.prog 17 #[.agg #[v0], .agg #[v2]] w (fun v w' => v = .bool (decide (l = l2)) ∧ Step Nope M w M w') := by
  have hT := Step.refl Nope hs
  have hs1 := h.shape
  have hs2 := h2.shape
  refine fn_enter Tryz.func17 rfl (rs := [.tmp 4]) rfl rfl rfl rfl ?_
  refine cw_rs fun _ κ => ?_
  refine as_h rfl (h_boxM hs rfl rfl fun b1 M1 w1 hs1 hb1 e1 => ?_)
  replace h := h.mono hs1.le
  replace h2 := h2.mono hs1.le
  replace hT := hT.then hs1
  have hz1 := hs1.size
  refine as_h rfl (h_boxM hs1.sat rfl rfl fun b2 M2 w2 hs2 hb2 e2 => ?_)
  replace h := h.mono hs2.le
  replace h2 := h2.mono hs2.le
  replace hb1 := hs2.le _ _ hb1
  replace hT := hT.then hs2
  have hz2 := hs2.size
  refine Sa rfl rfl ?_
  refine as_nil (κ _ _ ?_)
  refine cw_dr (by kernel_rfl) fun _ κ => ?_
  have hs3 := Step.drew hs2.sat
  have hz3 := hs3.size
  replace h := h.mono hs3.le
  replace h2 := h2.mono hs3.le
  replace hb1 := hs3.le _ _ hb1
  replace hb2 := hs3.le _ _ hb2
  replace hT := hT.then hs3
  refine Dlc 0 1 1 rfl (by kernel_rfl) (by kernel_rfl) rfl (by exact BlkR.cells (hs3.sat _ _ _ hb1) rfl) ?_
  refine Dlc 2 5 1 rfl (by kernel_rfl) (by kernel_rfl) rfl (by exact BlkR.cells (hs3.sat _ _ _ hb2) rfl) ?_
  refine Dh 1 7 rfl (by kernel_rfl) (keep_sift (bs := [F,T]) (by kernel_rfl)) (h_call (by kernel_rfl) rfl ?_)
  refine (hp_size hs3.sat h (by omega)).mono ?_
  rintro _ w4 ⟨rfl, hs4⟩
  replace h := h.mono hs4.le
  replace h2 := h2.mono hs4.le
  replace hb1 := hs4.le _ _ hb1
  replace hb2 := hs4.le _ _ hb2
  replace hT := hT.then hs4
  have hz4 := hs4.size
  refine ⟨(by repeat' first | exact trivial | exact BlkR.cell (hs4.sat _ _ _ hb1) rfl | exact BlkR.cells (hs4.sat _ _ _ hb1) rfl | exact BlkR.cell (hs4.sat _ _ _ hb2) rfl | exact BlkR.cells (hs4.sat _ _ _ hb2) rfl | assumption | refine all_keep ?_ | refine And.intro ?_ ?_), ?_⟩
  refine Dh 3 15 rfl (by kernel_rfl) (keep_sift (bs := [T]) (by kernel_rfl)) (h_call (by kernel_rfl) rfl ?_)
  refine (hp_size hs4.sat h2 (by omega)).mono ?_
  rintro _ w5 ⟨rfl, hs5⟩
  replace h := h.mono hs5.le
  replace hT := hT.then hs5
  have hz5 := hs5.size
  refine ⟨trivial, ?_⟩
  refine Dq 4 31 rfl (by kernel_rfl) (fun _ => (q_eqF rfl rfl (by omega))) ?_
  refine Dm 5 63 rfl (by kernel_rfl) rfl ?_
  refine Dgs 6 127 rfl (by kernel_rfl) rfl rfl ?_
  refine Dgs 7 255 rfl (by kernel_rfl) rfl rfl ?_
  refine Dgs 8 511 rfl (by kernel_rfl) rfl rfl ?_
  refine Dgs 9 1023 rfl (by kernel_rfl) rfl rfl ?_
  refine Dgs 10 2047 rfl (by kernel_rfl) rfl rfl ?_
  refine Dq 11 4095 rfl (by kernel_rfl) (fun _ => (q_pick_f rfl rfl)) ?_
  refine Da 12 8191 rfl (by kernel_rfl) rfl ?_
  refine Dd (by kernel_rfl) (κ _ _ ?_)
  refine cw_ret ?_
  exact ⟨_, (res_tmp rfl res_nil), by rw [decide_eq_false (fun h => hne (congrArg List.length h))]; rfl, hT.forget⟩
theorem dr_same {w : World} {M : Mem} {k k2 : Nat} {l l2 : List El} {v0 v2 : Value} (hs : Sat M w) (h : HVal M k l v0) (h2 : HVal M k2 l2 v2) (hz : l.length < 100000000) (hz2 : l2.length < 100000000) :
    Does Tryz.prog 17 #[.agg #[v0], .agg #[v2]] w (fun v w' => v = .bool (decide (l = l2)) ∧ Step Nope M w M w') := by
  by_cases hne : l.length = l2.length
  · exact dr_same_1 hs h h2 hz hz2 hne
  · exact dr_same_0 hs h h2 hz hz2 hne
theorem dr_count_n {w : World} {M : Mem} {k : Nat} {l : List El} {x : El} (hs : Sat M w) (h : HVal M k l .nilIface) (hz : l.length < 100000000) :
    Does Tryz.prog 16 #[.agg #[.nilIface], .agg (elc x).toArray] w (fun v w' => v = .int .i64 ((l.countP fun y => decide (y = x) : Nat) : Int) ∧ Step Nope M w M w') := by
  have hT := Step.refl Nope hs
  have hte : l.take ((l.length : Nat) : Int).toNat = l := List.take_of_length_le (by omega)
  refine fn_enterM (K' := fun v w' => v = .int .i64 ((l.countP fun y => decide (y = x) : Nat) : Int) ∧ ∃ M', Step Nope M w M' w') Tryz.func16 rfl (rs := [.tmp 4]) rfl rfl rfl rfl ?_ (fun _ _ _ _ _ _ h => resT rfl h) ?_
  · skip
    refine cm_seq fun K0a hK0a => cw_region fun K0b hK0b => ?_
    refine as_h rfl (h_boxM hs rfl rfl fun b1 M1 w1 hs1 hb1 e1 => ?_)
    replace h := h.mono hs1.le
    replace hT := hT.then hs1
    have hz1 := hs1.size
    refine as_h rfl (h_boxM hs1.sat rfl rfl fun b2 M2 w2 hs2 hb2 e2 => ?_)
    replace h := h.mono hs2.le
    replace hb1 := hs2.le _ _ hb1
    replace hT := hT.then hs2
    have hz2 := hs2.size
    refine Sa rfl rfl ?_
    refine as_nil (hK0b _ _ (hK0a _ _ ?_))
    clear hK0b hK0a K0b K0a
    refine cm_seq fun K1a hK1a => cw_region fun K1b hK1b => ?_
    have hqan := hT.size
    refine as_h rfl (h_allocO (z := (.int .i64 0)) hs2.sat (by kernel_rfl) rfl fun bn w3 hs3 hon en => ?_)
    replace h := h.mono hs3.le
    replace hb1 := hs3.le _ _ hb1
    replace hb2 := hs3.le _ _ hb2
    replace hT := hT.then hs3
    have hz3 := hs3.size
    have hln := hon.1.lt
    refine as_h0 (h_store hs3.sat hon rfl rfl rfl (by kernel_rfl) rfl rfl rfl fun w4 hs4 hn4 => ?_)
    replace h := h.mono hs4.le
    replace hb1 := hs4.le _ _ hb1
    replace hb2 := hs4.le _ _ hb2
    clear hon; have hon := hn4; clear hn4
    replace hT := hT.own hs4 (by omega)
    have hz4 := hs4.size
    refine as_nil (hK1b _ _ (hK1a _ _ ?_))
    clear hK1b hK1a K1b K1a
    refine cm_seqM ?_
    refine cm_seq fun K2a hK2a => cw_drawn (by kernel_rfl) (by kernel_rfl) (by kernel_rfl) rfl rfl fun K2b hK2b => ?_
    have hs5 := Step.drew hs4.sat
    have hz5 := hs5.size
    replace h := h.mono hs5.le
    replace hb1 := hs5.le _ _ hb1
    replace hb2 := hs5.le _ _ hb2
    replace hon := hon.then hs5
    replace hT := hT.then hs5
    refine Dlc 0 1 1 rfl (by kernel_rfl) (by kernel_rfl) rfl (by exact BlkR.cells (hs5.sat _ _ _ hb1) rfl) ?_
    refine Dlc 1 3 1 rfl (by kernel_rfl) (by kernel_rfl) rfl (by exact BlkR.cells (hs5.sat _ _ _ hb1) rfl) ?_
    refine Dh 2 7 rfl (by kernel_rfl) (keep_sift (bs := [T,F]) (by kernel_rfl)) (h_call (by kernel_rfl) rfl ?_)
    refine (hp_size hs5.sat h (by omega)).mono ?_
    rintro _ w6 ⟨rfl, hs6⟩
    replace h := h.mono hs6.le
    replace hb1 := hs6.le _ _ hb1
    replace hb2 := hs6.le _ _ hb2
    replace hon := hon.then hs6
    replace hT := hT.then hs6
    have hz6 := hs6.size
    refine ⟨(by repeat' first | exact trivial | exact BlkR.cell (hs6.sat _ _ _ hb1) rfl | exact BlkR.cells (hs6.sat _ _ _ hb1) rfl | exact BlkR.cell (hs6.sat _ _ _ hb2) rfl | exact BlkR.cells (hs6.sat _ _ _ hb2) rfl | exact Blk.cell hon.1 rfl | exact Blk.cells hon.1 rfl | assumption | refine all_keep ?_ | refine And.intro ?_ ?_), ?_⟩
    refine Dh 3 15 rfl (by kernel_rfl) (keep_sift (bs := [T]) (by kernel_rfl)) (h_call (by kernel_rfl) rfl ?_)
    refine (dr_each (z := ((l.length : Nat) : Int)) hs6.sat h).mono ?_
    rintro _ w7 ⟨c1, c2, c3, Mx, rfl, hs7, hc1, hc2, hc3, hcw⟩
    replace h := h.mono hs7.le
    replace hb2 := hs7.le _ _ hb2
    replace hon := hon.then hs7
    replace hT := hT.then hs7
    have hz7 := hs7.size
    refine ⟨trivial, ?_⟩
    refine Dd (by kernel_rfl) (hK2b _ _ (hK2a _ _ ?_))
    clear hK2b hK2a K2b K2a
    have hTs := hT.size
    have hln := hon.1.lt
    have hlc := hc2.1.lt
    have hbw : w.heap.size ≤ bn ∧ bn ≠ c2 ∧ w.heap.size ≤ c2 := by omega
    have hxb := hb2
    refine cm_block ?_
    refine cm_rangeC (M := Mx) (S := Just c2) (vs := (l.take ((l.length : Nat) : Int).toNat).map elV) (lb := [.pointer (some ⟨c1, 0, none⟩), .pointer (some ⟨c2, 0, none⟩), .pointer (some ⟨c3, 0, none⟩)]) (gf := 42) rfl rfl rfl (by kernel_rfl) rfl hs7.sat hTs (dr_each1 hc1 hc2 hc3 h (by omega) (by omega) (by omega)) (fun k hk => by have hk : k = c2 := hk; constructor <;> omega) (fun i M' W' => (Own W' M' bn [.int .i64 (((l.take i).countP fun y => decide (y = x) : Nat) : Int)] 3 ∧ Step Nope M w M' W')) (fun i v la M' W' => ∃ bz e, v = elV e ∧ la = [(3, .pointer (some ⟨b2, 0, none⟩)), (5, .pointer (some ⟨bn, 0, none⟩)), (6, .pointer (some ⟨bz, 0, none⟩))] ∧ Own W' M' bz (elc e) 24 ∧ bz ≠ w7.heap.size ∧ bz ≠ w7.heap.size + 1 ∧ bz ≠ c2 ∧ bz ≠ bn ∧ (Own W' M' bn [.int .i64 (((l.take i).countP fun y => decide (y = x) : Nat) : Int)] 3 ∧ Step Nope M w M' W')) ?_ ?_ ?_ ?_ ?_ ?_
    · rintro i M' W' M'' W'' ⟨h1, h3⟩ k
      exact ⟨h1.step k (by rintro (h | h | h) <;> first | (have h : _ = c2 := h; omega) | omega), h3.trans k (fun b hb h => by rcases h with h | h | h <;> first | (have h : b = c2 := h; omega) | omega)⟩
    · exact ⟨hon, hT⟩
    · rintro i v la M' W' M'' W'' ⟨bz, e, rfl, rfl, h0, hz1, hz2, hz3, hz4, h1, h3⟩ k
      exact ⟨bz, e, rfl, rfl, h0.step k (by rintro (h | h | h) <;> first | (have h : _ = c2 := h; omega) | omega), hz1, hz2, hz3, hz4, h1.step k (by rintro (h | h | h) <;> first | (have h : _ = c2 := h; omega) | omega), h3.trans k (fun b hb h => by rcases h with h | h | h <;> first | (have h : b = c2 := h; omega) | omega)⟩
    · rintro i v r M' W' hv ⟨h1, h3⟩ hs' hle hlt
      rw [hte] at hv
      obtain ⟨e, _, rfl⟩ : ∃ e, _ ∧ v = elV e := by
        rw [List.getElem?_map] at hv
        obtain ⟨q, h5, h6⟩ := Option.map_eq_some_iff.1 hv
        exact ⟨q, h5, h6.symm⟩
      have hbl := h1.1.lt
      refine cw_region fun _ κ => ?_
      refine as_h rfl (h_allocO (z := (.agg #[(.int .i64 0), (.int .i64 0)])) hs' (by kernel_rfl) rfl fun bz w8 hs8 hz ez => ?_)
      have hz8 := hs8.size
      refine as_h0 (h_store hs8.sat hz rfl rfl rfl (by kernel_rfl) rfl rfl rfl fun w9 hs9 hz9 => ?_)
      have hst : Step Nope M' W' M' w9 := hs8.trans hs9 (fun b hb h => by have h : b = bz := h; omega)
      have hz0 := hs8.size
      refine as_nil (κ _ _ ⟨_, M', .cons rfl (.cons rfl (.cons rfl (.nil _))), hst, bz, e, rfl, rfl, hz9, by omega, by omega, by omega, by omega, h1.then hst, h3.also hst⟩)
    · rintro i v la r M' W' hv ⟨bz, e, rfl, rfl, hz, hz1, hz2, hz3, hz4, h1, h3⟩ hs' hle hlt
      have hxb := hle _ _ hxb
      have hxs : (l.take (i + 1)).countP (fun y => decide (y = x)) = (l.take i).countP (fun y => decide (y = x)) + if e = x then 1 else 0 := by
        rw [hte, List.getElem?_map] at hv
        obtain ⟨y, hy, hye⟩ := Option.map_eq_some_iff.1 hv
        obtain rfl : y = e := by
          obtain ⟨a, b⟩ := y
          obtain ⟨c, d⟩ := e
          simpa [elV, elc] using hye
        rw [List.take_add_one, hy, List.countP_append]
        simp [List.countP_cons]
      have hcl : (l.take i).countP (fun y => decide (y = x)) ≤ l.length := Nat.le_trans List.countP_le_length (by rw [List.length_take]; omega)
      have hbl := h1.1.lt
      refine cw_block ?_
      refine cw_rs fun _ κ => ?_
      refine Sc 2 rfl (by kernel_rfl) rfl (by exact Blk.cells hz.1 rfl) ?_
      refine Sc 2 rfl (by kernel_rfl) rfl (by exact BlkR.cells (hs' _ _ _ hxb) rfl) ?_
      refine as_q rfl rfl (q_eqE (a := e) (b := x) (e := 2) (by kernel_rfl) (by kernel_rfl) (by kernel_rfl) (by kernel_rfl) (by kernel_rfl) (by kernel_rfl) rfl rfl) ?_
      refine as_nil (κ _ _ ?_)
      refine cw_cond rfl (fun hc => ?_) (fun hc => ?_)
      · skip
        replace hc := of_decide_eq_true hc
        rw [if_pos hc] at hxs
        refine cw_region fun _ κ => ?_
        refine S1 rfl (by kernel_rfl) rfl (by exact Blk.cell h1.1 rfl) ?_
        refine as_q rfl rfl (q_addx rfl rfl (by omega) (by omega)) ?_
        refine as_h0 (h_store hs' h1 rfl rfl rfl (by kernel_rfl) rfl rfl rfl fun w10 hs10 h1n => ?_)
        refine as_nil (κ _ _ ⟨M', hs10.wide fun k _ h => (by have h : k = bn := h; exact ⟨fun h2 => by have h2 : k = c2 := h2; omega, by omega, by omega⟩), by rw [hxs, Int.natCast_add]; exact h1n, h3.trans hs10 (fun k hk h => by have h : k = bn := h; omega)⟩)
      · skip
        replace hc := of_decide_eq_false hc
        rw [if_neg hc, Nat.add_zero] at hxs
        exact cw_skip ⟨M', Step.refl _ hs', by rw [hxs]; exact h1, h3⟩
    · rintro M' W' hs' hle ⟨h1, h3⟩ D hD hDd
      rw [List.length_map, hte, List.take_length] at h1
      refine cw_rs fun _ κ => ?_
      refine S1 rfl (by kernel_rfl) rfl (by exact Blk.cell h1.1 rfl) ?_
      refine Sa rfl rfl ?_
      exact as_nil (κ _ _ (cw_ret ⟨hDd, _, res_tmp rfl res_nil, rfl, M', h3⟩))
  · rintro v w' D hB hD ⟨h0, M', h1⟩
    have k := Step.putObj h1.sat hD (by simp) (.deferred none)
    exact ⟨h0, (h1.trans k (fun b hb h => by have h : b = D := h; omega)).forget⟩
theorem dr_count_s {w : World} {M : Mem} {d : TypeId} {u : Value} {k : Nat} {l : List El} {x : El} (hs : Sat M w) (h : HVal M k l (.iface d u)) (hz : l.length < 100000000) :
    Does Tryz.prog 16 #[.agg #[(.iface d u)], .agg (elc x).toArray] w (fun v w' => v = .int .i64 ((l.countP fun y => decide (y = x) : Nat) : Int) ∧ Step Nope M w M w') := by
  have hT := Step.refl Nope hs
  have hte : l.take ((l.length : Nat) : Int).toNat = l := List.take_of_length_le (by omega)
  refine fn_enterM (K' := fun v w' => v = .int .i64 ((l.countP fun y => decide (y = x) : Nat) : Int) ∧ ∃ M', Step Nope M w M' w') Tryz.func16 rfl (rs := [.tmp 4]) rfl rfl rfl rfl ?_ (fun _ _ _ _ _ _ h => resT rfl h) ?_
  · skip
    refine cm_seq fun K0a hK0a => cw_region fun K0b hK0b => ?_
    refine as_h rfl (h_boxM hs rfl rfl fun b1 M1 w1 hs1 hb1 e1 => ?_)
    replace h := h.mono hs1.le
    replace hT := hT.then hs1
    have hz1 := hs1.size
    refine as_h rfl (h_boxM hs1.sat rfl rfl fun b2 M2 w2 hs2 hb2 e2 => ?_)
    replace h := h.mono hs2.le
    replace hb1 := hs2.le _ _ hb1
    replace hT := hT.then hs2
    have hz2 := hs2.size
    refine Sa rfl rfl ?_
    refine as_nil (hK0b _ _ (hK0a _ _ ?_))
    clear hK0b hK0a K0b K0a
    refine cm_seq fun K1a hK1a => cw_region fun K1b hK1b => ?_
    have hqan := hT.size
    refine as_h rfl (h_allocO (z := (.int .i64 0)) hs2.sat (by kernel_rfl) rfl fun bn w3 hs3 hon en => ?_)
    replace h := h.mono hs3.le
    replace hb1 := hs3.le _ _ hb1
    replace hb2 := hs3.le _ _ hb2
    replace hT := hT.then hs3
    have hz3 := hs3.size
    have hln := hon.1.lt
    refine as_h0 (h_store hs3.sat hon rfl rfl rfl (by kernel_rfl) rfl rfl rfl fun w4 hs4 hn4 => ?_)
    replace h := h.mono hs4.le
    replace hb1 := hs4.le _ _ hb1
    replace hb2 := hs4.le _ _ hb2
    clear hon; have hon := hn4; clear hn4
    replace hT := hT.own hs4 (by omega)
    have hz4 := hs4.size
    refine as_nil (hK1b _ _ (hK1a _ _ ?_))
    clear hK1b hK1a K1b K1a
    refine cm_seqM ?_
    refine cm_seq fun K2a hK2a => cw_drawn (by kernel_rfl) (by kernel_rfl) (by kernel_rfl) rfl rfl fun K2b hK2b => ?_
    have hs5 := Step.drew hs4.sat
    have hz5 := hs5.size
    replace h := h.mono hs5.le
    replace hb1 := hs5.le _ _ hb1
    replace hb2 := hs5.le _ _ hb2
    replace hon := hon.then hs5
    replace hT := hT.then hs5
    refine Dlc 0 1 1 rfl (by kernel_rfl) (by kernel_rfl) rfl (by exact BlkR.cells (hs5.sat _ _ _ hb1) rfl) ?_
    refine Dlc 1 3 1 rfl (by kernel_rfl) (by kernel_rfl) rfl (by exact BlkR.cells (hs5.sat _ _ _ hb1) rfl) ?_
    refine Dh 2 7 rfl (by kernel_rfl) (keep_sift (bs := [T,F]) (by kernel_rfl)) (h_call (by kernel_rfl) rfl ?_)
    refine (hp_size hs5.sat h (by omega)).mono ?_
    rintro _ w6 ⟨rfl, hs6⟩
    replace h := h.mono hs6.le
    replace hb1 := hs6.le _ _ hb1
    replace hb2 := hs6.le _ _ hb2
    replace hon := hon.then hs6
    replace hT := hT.then hs6
    have hz6 := hs6.size
    refine ⟨(by repeat' first | exact trivial | exact BlkR.cell (hs6.sat _ _ _ hb1) rfl | exact BlkR.cells (hs6.sat _ _ _ hb1) rfl | exact BlkR.cell (hs6.sat _ _ _ hb2) rfl | exact BlkR.cells (hs6.sat _ _ _ hb2) rfl | exact Blk.cell hon.1 rfl | exact Blk.cells hon.1 rfl | assumption | refine all_keep ?_ | refine And.intro ?_ ?_), ?_⟩
    refine Dh 3 15 rfl (by kernel_rfl) (keep_sift (bs := [T]) (by kernel_rfl)) (h_call (by kernel_rfl) rfl ?_)
    refine (dr_each (z := ((l.length : Nat) : Int)) hs6.sat h).mono ?_
    rintro _ w7 ⟨c1, c2, c3, Mx, rfl, hs7, hc1, hc2, hc3, hcw⟩
    replace h := h.mono hs7.le
    replace hb2 := hs7.le _ _ hb2
    replace hon := hon.then hs7
    replace hT := hT.then hs7
    have hz7 := hs7.size
    refine ⟨trivial, ?_⟩
    refine Dd (by kernel_rfl) (hK2b _ _ (hK2a _ _ ?_))
    clear hK2b hK2a K2b K2a
    have hTs := hT.size
    have hln := hon.1.lt
    have hlc := hc2.1.lt
    have hbw : w.heap.size ≤ bn ∧ bn ≠ c2 ∧ w.heap.size ≤ c2 := by omega
    have hxb := hb2
    refine cm_block ?_
    refine cm_rangeC (M := Mx) (S := Just c2) (vs := (l.take ((l.length : Nat) : Int).toNat).map elV) (lb := [.pointer (some ⟨c1, 0, none⟩), .pointer (some ⟨c2, 0, none⟩), .pointer (some ⟨c3, 0, none⟩)]) (gf := 42) rfl rfl rfl (by kernel_rfl) rfl hs7.sat hTs (dr_each1 hc1 hc2 hc3 h (by omega) (by omega) (by omega)) (fun k hk => by have hk : k = c2 := hk; constructor <;> omega) (fun i M' W' => (Own W' M' bn [.int .i64 (((l.take i).countP fun y => decide (y = x) : Nat) : Int)] 3 ∧ Step Nope M w M' W')) (fun i v la M' W' => ∃ bz e, v = elV e ∧ la = [(3, .pointer (some ⟨b2, 0, none⟩)), (5, .pointer (some ⟨bn, 0, none⟩)), (6, .pointer (some ⟨bz, 0, none⟩))] ∧ Own W' M' bz (elc e) 24 ∧ bz ≠ w7.heap.size ∧ bz ≠ w7.heap.size + 1 ∧ bz ≠ c2 ∧ bz ≠ bn ∧ (Own W' M' bn [.int .i64 (((l.take i).countP fun y => decide (y = x) : Nat) : Int)] 3 ∧ Step Nope M w M' W')) ?_ ?_ ?_ ?_ ?_ ?_
    · rintro i M' W' M'' W'' ⟨h1, h3⟩ k
      exact ⟨h1.step k (by rintro (h | h | h) <;> first | (have h : _ = c2 := h; omega) | omega), h3.trans k (fun b hb h => by rcases h with h | h | h <;> first | (have h : b = c2 := h; omega) | omega)⟩
    · exact ⟨hon, hT⟩
    · rintro i v la M' W' M'' W'' ⟨bz, e, rfl, rfl, h0, hz1, hz2, hz3, hz4, h1, h3⟩ k
      exact ⟨bz, e, rfl, rfl, h0.step k (by rintro (h | h | h) <;> first | (have h : _ = c2 := h; omega) | omega), hz1, hz2, hz3, hz4, h1.step k (by rintro (h | h | h) <;> first | (have h : _ = c2 := h; omega) | omega), h3.trans k (fun b hb h => by rcases h with h | h | h <;> first | (have h : b = c2 := h; omega) | omega)⟩
    · rintro i v r M' W' hv ⟨h1, h3⟩ hs' hle hlt
      rw [hte] at hv
      obtain ⟨e, _, rfl⟩ : ∃ e, _ ∧ v = elV e := by
        rw [List.getElem?_map] at hv
        obtain ⟨q, h5, h6⟩ := Option.map_eq_some_iff.1 hv
        exact ⟨q, h5, h6.symm⟩
      have hbl := h1.1.lt
      refine cw_region fun _ κ => ?_
      refine as_h rfl (h_allocO (z := (.agg #[(.int .i64 0), (.int .i64 0)])) hs' (by kernel_rfl) rfl fun bz w8 hs8 hz ez => ?_)
      have hz8 := hs8.size
      refine as_h0 (h_store hs8.sat hz rfl rfl rfl (by kernel_rfl) rfl rfl rfl fun w9 hs9 hz9 => ?_)
      have hst : Step Nope M' W' M' w9 := hs8.trans hs9 (fun b hb h => by have h : b = bz := h; omega)
      have hz0 := hs8.size
      refine as_nil (κ _ _ ⟨_, M', .cons rfl (.cons rfl (.cons rfl (.nil _))), hst, bz, e, rfl, rfl, hz9, by omega, by omega, by omega, by omega, h1.then hst, h3.also hst⟩)
    · rintro i v la r M' W' hv ⟨bz, e, rfl, rfl, hz, hz1, hz2, hz3, hz4, h1, h3⟩ hs' hle hlt
      have hxb := hle _ _ hxb
      have hxs : (l.take (i + 1)).countP (fun y => decide (y = x)) = (l.take i).countP (fun y => decide (y = x)) + if e = x then 1 else 0 := by
        rw [hte, List.getElem?_map] at hv
        obtain ⟨y, hy, hye⟩ := Option.map_eq_some_iff.1 hv
        obtain rfl : y = e := by
          obtain ⟨a, b⟩ := y
          obtain ⟨c, d⟩ := e
          simpa [elV, elc] using hye
        rw [List.take_add_one, hy, List.countP_append]
        simp [List.countP_cons]
      have hcl : (l.take i).countP (fun y => decide (y = x)) ≤ l.length := Nat.le_trans List.countP_le_length (by rw [List.length_take]; omega)
      have hbl := h1.1.lt
      refine cw_block ?_
      refine cw_rs fun _ κ => ?_
      refine Sc 2 rfl (by kernel_rfl) rfl (by exact Blk.cells hz.1 rfl) ?_
      refine Sc 2 rfl (by kernel_rfl) rfl (by exact BlkR.cells (hs' _ _ _ hxb) rfl) ?_
      refine as_q rfl rfl (q_eqE (a := e) (b := x) (e := 2) (by kernel_rfl) (by kernel_rfl) (by kernel_rfl) (by kernel_rfl) (by kernel_rfl) (by kernel_rfl) rfl rfl) ?_
      refine as_nil (κ _ _ ?_)
      refine cw_cond rfl (fun hc => ?_) (fun hc => ?_)
      · skip
        replace hc := of_decide_eq_true hc
        rw [if_pos hc] at hxs
        refine cw_region fun _ κ => ?_
        refine S1 rfl (by kernel_rfl) rfl (by exact Blk.cell h1.1 rfl) ?_
        refine as_q rfl rfl (q_addx rfl rfl (by omega) (by omega)) ?_
        refine as_h0 (h_store hs' h1 rfl rfl rfl (by kernel_rfl) rfl rfl rfl fun w10 hs10 h1n => ?_)
        refine as_nil (κ _ _ ⟨M', hs10.wide fun k _ h => (by have h : k = bn := h; exact ⟨fun h2 => by have h2 : k = c2 := h2; omega, by omega, by omega⟩), by rw [hxs, Int.natCast_add]; exact h1n, h3.trans hs10 (fun k hk h => by have h : k = bn := h; omega)⟩)
      · skip
        replace hc := of_decide_eq_false hc
        rw [if_neg hc, Nat.add_zero] at hxs
        exact cw_skip ⟨M', Step.refl _ hs', by rw [hxs]; exact h1, h3⟩
    · rintro M' W' hs' hle ⟨h1, h3⟩ D hD hDd
      rw [List.length_map, hte, List.take_length] at h1
      refine cw_rs fun _ κ => ?_
      refine S1 rfl (by kernel_rfl) rfl (by exact Blk.cell h1.1 rfl) ?_
      refine Sa rfl rfl ?_
      exact as_nil (κ _ _ (cw_ret ⟨hDd, _, res_tmp rfl res_nil, rfl, M', h3⟩))
  · rintro v w' D hB hD ⟨h0, M', h1⟩
    have k := Step.putObj h1.sat hD (by simp) (.deferred none)
    exact ⟨h0, (h1.trans k (fun b hb h => by have h : b = D := h; omega)).forget⟩
theorem dr_count {w : World} {M : Mem} {k : Nat} {l : List El} {v0 : Value} {x : El} (hs : Sat M w) (h : HVal M k l v0) (hz : l.length < 100000000) :
    Does Tryz.prog 16 #[.agg #[v0], .agg (elc x).toArray] w (fun v w' => v = .int .i64 ((l.countP fun y => decide (y = x) : Nat) : Int) ∧ Step Nope M w M w') := by
  rcases h.shape with rfl | ⟨d, u, rfl⟩
  · exact dr_count_n hs h hz
  · exact dr_count_s hs h hz
end Go.Proofs.YtgcgjpfjjgalmaaGreat
/- The document s example of layer 16, part 1. -/
namespace Go.Proofs.YtgcgjpfjjgalmaaGreat
open Go Go.Eng
theorem of_three {w : World} {M : Mem} {b : Nat} (hs : Sat M w) (ho : Own w M b [.int .i64 2, .int .i64 0, .int .i64 1, .int .i64 0, .int .i64 2, .int .i64 0] 24) :
    Does Tryz.prog 11 #[.pointer none, .int .i64 4, .slice (some ⟨b, 0, none⟩) 3 3] w (fun r w' => ∃ v' M', r = .tuple #[.agg #[v'], .int .i64 0] ∧ Step Nope M w M' w' ∧ HVal M' 4 [((1, 0) : El), (2, 0), (2, 0)] v') := by
  have hb : Buf w M 24 2 (.slice (some ⟨b, 0, none⟩) 3 3) 3 (els [((2, 0) : El), (1, 0), (2, 0)]) := Own.buf ho (n := 3) rfl (by decide)
  refine (hp_of (z := 4) hs hb.rds (by decide)).mono ?_
  rintro r w' ⟨v, M', h1, h2, h3⟩
  refine ⟨v, M', by rw [h1, emE, if_pos (by decide)], h2, ?_⟩
  rw [emK, if_pos (by decide), ofL, if_pos (by decide), show srtE [((2, 0) : El), (1, 0), (2, 0)] = [((1, 0) : El), (2, 0), (2, 0)] by decide] at h3
  exact h3
set_option maxRecDepth 4000 in
theorem awake16 {w : World} {M : Mem} (hs : Sat M w) :
    Does Tryz.prog 10 #[] w (fun v w' => v = .bool true ∧ Step Nope M w M w') := by
  have hT := Step.refl Nope hs
  refine fn_enter Tryz.func10 rfl (rs := [.tmp 0]) rfl rfl rfl rfl ?_
  refine cw_rs fun _ κ => ?_
  refine Sa rfl rfl ?_
  refine as_nil (κ _ _ ?_)
  refine cw_rs fun _ κ => ?_
  refine as_q rfl rfl (q_build (zs := [(.int .i64 0), (.int .i64 0)]) (places := [(0, 1), (1, 1)]) (cs := [_, _]) (by kernel_rfl) (by kernel_rfl) rfl rfl) ?_
  refine as_q rfl rfl (q_build (zs := [(.int .i64 0), (.int .i64 0)]) (places := [(0, 1), (1, 1)]) (cs := [_, _]) (by kernel_rfl) (by kernel_rfl) rfl rfl) ?_
  refine as_q rfl rfl (q_build (zs := [(.int .i64 0), (.int .i64 0)]) (places := [(0, 1), (1, 1)]) (cs := [_, _]) (by kernel_rfl) (by kernel_rfl) rfl rfl) ?_
  refine as_h rfl (h_buildO (e := 24) (size := 2) (zs := [.int .i64 0, .int .i64 0, .int .i64 0, .int .i64 0, .int .i64 0, .int .i64 0]) (cs := [_, _, _, _, _, _]) (by kernel_rfl) (by kernel_rfl) (by kernel_rfl) rfl hs rfl rfl fun bp w1 hs1 hop ep => ?_)
  replace hT := hT.then hs1
  have hz1 := hs1.size
  refine as_h rfl (h_call (by kernel_rfl) rfl ?_)
  refine (of_three hs1.sat hop).mono ?_
  rintro _ w2 ⟨vx, Mx, rfl, hs2, hx⟩
  replace hT := hT.then hs2
  have hz2 := hs2.size
  obtain ⟨dx, ux, rfl⟩ := hx.iface (by decide)
  refine Sm rfl rfl ?_
  refine Se rfl rfl rfl ?_
  refine Se rfl rfl rfl ?_
  have hqax := hT.size
  refine as_h rfl (h_allocO (z := (.agg #[.nilIface])) hs2.sat (by kernel_rfl) rfl fun bx w3 hs3 hox ex => ?_)
  replace hx := hx.mono hs3.le
  replace hT := hT.then hs3
  have hz3 := hs3.size
  have hlx := hox.1.lt
  refine as_h0 (h_store hs3.sat hox rfl rfl rfl (by kernel_rfl) rfl rfl rfl fun w4 hs4 hn4 => ?_)
  replace hx := hx.mono hs4.le
  clear hox; have hox := hn4; clear hn4
  replace hT := hT.own hs4 (by omega)
  have hz4 := hs4.size
  refine Sa rfl rfl ?_
  refine as_nil (κ _ _ ?_)
  refine cw_rs fun _ κ => ?_
  refine Sc 1 rfl (by kernel_rfl) rfl (by exact Blk.cells hox.1 rfl) ?_
  refine as_h rfl (h_call (by kernel_rfl) rfl ?_)
  refine (dr_sorted hs4.sat hx (by decide)).mono ?_
  rintro vS w5 ⟨MS, hs5, hbS, hfS⟩
  replace hx := hx.mono hs5.le
  replace hox := hox.then hs5
  replace hT := hT.then hs5
  have hz5 := hs5.size
  replace hbS : Buf w5 MS 24 2 vS 3 (els [((1, 0) : El), (2, 0), (2, 0)]) := hbS
  obtain ⟨raS, rcS, rfl, _, _⟩ := hbS.slice
  have hlhbS := hbS.lt
  refine Sa rfl rfl ?_
  refine as_nil (κ _ _ ?_)
  refine cw_rs fun _ κ => ?_
  refine Sc 1 rfl (by kernel_rfl) rfl (by exact Blk.cells hox.1 rfl) ?_
  refine as_h rfl (h_call (by kernel_rfl) rfl ?_)
  refine (dr_top_2 hs5.sat hx (z := 2) (by decide) (by decide) (by decide) (by decide)).mono ?_
  rintro _ w6 ⟨vt, Mt, rfl, hs6, hbt, hft⟩
  replace hx := hx.mono hs6.le
  replace hox := hox.then hs6
  replace hbS := hbS.then hs6
  replace hT := hT.then hs6
  have hz6 := hs6.size
  replace hbt : Buf w6 Mt 24 2 vt 2 (els [((1, 0) : El), (2, 0)]) := hbt
  obtain ⟨rat, rct, rfl, _, _⟩ := hbt.slice
  have hlhbt := hbt.lt
  refine Sm rfl rfl ?_
  refine Se rfl rfl rfl ?_
  refine Se rfl rfl rfl ?_
  refine Sa rfl rfl ?_
  refine Sa rfl rfl ?_
  refine as_nil (κ _ _ ?_)
  refine cw_rs fun _ κ => ?_
  refine Sc 1 rfl (by kernel_rfl) rfl (by exact Blk.cells hox.1 rfl) ?_
  refine as_h rfl (h_call (by kernel_rfl) rfl ?_)
  refine (dr_top_1 hs6.sat hx (z := -1) (by decide) (by decide)).mono ?_
  rintro _ w7 ⟨vu, Mu, rfl, hs7, hbu, hfu⟩
  replace hx := hx.mono hs7.le
  replace hox := hox.then hs7
  replace hbS := hbS.then hs7
  replace hT := hT.then hs7
  have hz7 := hs7.size
  obtain ⟨rau, rcu, rfl, _, _⟩ := hbu.slice
  have hlhbu := hbu.lt
  refine Sm rfl rfl ?_
  refine Se rfl rfl rfl ?_
  refine Se rfl rfl rfl ?_
  refine Sa rfl rfl ?_
  refine Sa rfl rfl ?_
  refine as_nil (κ _ _ ?_)
  refine cw_rs fun _ κ => ?_
  refine as_q rfl rfl (q_build (zs := [.nilIface]) (places := [(0, 1)]) (cs := [_]) (by kernel_rfl) (by kernel_rfl) rfl rfl) ?_
  refine as_h rfl (h_call (by kernel_rfl) rfl ?_)
  refine (dr_top_0 hs7.sat HVal.z (z := 1)).mono ?_
  rintro _ w8 ⟨vn, Mn, rfl, hs8, hbn, hfn⟩
  replace hx := hx.mono hs8.le
  replace hox := hox.then hs8
  replace hbS := hbS.then hs8
  replace hT := hT.then hs8
  have hz8 := hs8.size
  obtain ⟨ran, rcn, rfl, _, _⟩ := hbn.slice
  have hlhbn := hbn.lt
  refine Sm rfl rfl ?_
  refine Se rfl rfl rfl ?_
  refine Se rfl rfl rfl ?_
  refine Sa rfl rfl ?_
  refine Sa rfl rfl ?_
  refine as_nil (κ _ _ ?_)
  refine cw_rs fun _ κ => ?_
  refine Sc 1 rfl (by kernel_rfl) rfl (by exact Blk.cells hox.1 rfl) ?_
  refine as_h rfl (h_call (by kernel_rfl) rfl ?_)
  have hqp := hT.size
  refine (dr_of hs8.sat hx).mono ?_
  rintro _ w9 ⟨q, M, rfl, hs9, hoq, hqw⟩
  replace hx := hx.mono hs9.le
  replace hox := hox.then hs9
  replace hbS := hbS.then hs9
  replace hT := hT.then hs9
  have hz9 := hs9.size
  have hql := hoq.1.lt
  refine Sa rfl rfl ?_
  refine as_nil (κ _ _ ?_)
  refine cw_rs fun _ κ => ?_
  refine Sm rfl rfl ?_
  refine as_h rfl (h_call (by kernel_rfl) rfl ?_)
  refine (dr_done_0 hs9.sat hoq).mono ?_
  rintro _ w10 ⟨rfl, hs10⟩
  replace hx := hx.mono hs10.le
  replace hox := hox.then hs10
  replace hbS := hbS.then hs10
  replace hoq := hoq.then hs10
  replace hT := hT.then hs10
  have hz10 := hs10.size
  refine Sa rfl rfl ?_
  refine as_nil (κ _ _ ?_)
  refine cw_rs fun _ κ => ?_
  refine Sm rfl rfl ?_
  refine as_h rfl (h_call (by kernel_rfl) rfl ?_)
  have hzbf := hT.size
  refine (dr_all_first hs10.sat (by decide) hoq hx).mono ?_
  rintro vf w11 ⟨svf, Mf, hs11, hqf, hb2f, _, hbf, hff, hdf, hfrf⟩
  replace hx := hx.mono hs11.le
  replace hox := hox.step hs11 (fun h => by have h : _ = q := h; omega)
  replace hbS := hbS.step hs11 (fun g hg h => by have h : g = q := h; first | (have := hlhbS g hg; omega) | (have := hfS g hg; omega))
  replace hT := hT.trans hs11 (fun b hb h => by have h : b = q := h; omega)
  have hz11 := hs11.size
  clear hoq; have hoq := hqf; clear hqf
  have hbs := hb2f; clear hb2f
  replace hbf : Buf w11 Mf 24 2 vf 3 (els [((1, 0) : El), (2, 0), (2, 0)]) := hbf
  obtain ⟨raf, rcf, rfl, _, _⟩ := hbf.slice
  have hlhbf := hbf.lt
  have hlhbs := hbs.lt
  refine Sa rfl rfl ?_
  refine as_nil (κ _ _ ?_)
  refine cw_rs fun _ κ => ?_
  refine Sm rfl rfl ?_
  refine as_h rfl (h_call (by kernel_rfl) rfl ?_)
  have hzbg := hT.size
  refine (dr_all_again hs11.sat (by decide) hoq hx hbs).mono ?_
  rintro vg w12 ⟨svg, Mg, hs12, hqg, hb2g, _, hbg, hfg, hdg, hfrg⟩
  replace hx := hx.mono hs12.le
  replace hox := hox.step hs12 (fun h => by have h : _ = q := h; omega)
  replace hbS := hbS.step hs12 (fun g hg h => by have h : g = q := h; first | (have := hlhbS g hg; omega) | (have := hfS g hg; omega))
  replace hT := hT.trans hs12 (fun b hb h => by have h : b = q := h; omega)
  have hz12 := hs12.size
  clear hoq; have hoq := hqg; clear hqg
  clear hbs hlhbs
  have hbs := hb2g; clear hb2g
  replace hbg : Buf w12 Mg 24 2 vg 3 (els [((1, 0) : El), (2, 0), (2, 0)]) := hbg
  obtain ⟨rag, rcg, rfl, _, _⟩ := hbg.slice
  have hlhbg := hbg.lt
  have hlhbs := hbs.lt
  refine Sa rfl rfl ?_
  refine as_nil (κ _ _ ?_)
  refine cw_rs fun _ κ => ?_
  obtain ⟨gs, rfl, hbs⟩ : ∃ g, raS = some ⟨g, 0, none⟩ ∧ ElRow 24 w12 Mg g 3 rcS #[(1, 0), (2, 0), (2, 0)] := by
    rcases hbS.cases with ⟨h, _⟩ | ⟨g, c, h, h2⟩
    · cases h
    · cases h
      exact ⟨_, rfl, h2⟩
  refine Sm rfl rfl ?_
  refine as_q rfl rfl (q_eqT rfl rfl (by omega)) ?_
  refine Sm rfl rfl ?_
  refine as_gh rfl rfl rfl rfl (h_q rfl (q_move rfl) ?_)
  refine as_gh rfl rfl rfl rfl (h_q rfl (q_len (by kernel_rfl) rfl _) ?_)
  refine as_gh rfl rfl rfl rfl (h_q rfl (q_eqT rfl rfl (by omega)) ?_)
  refine as_q rfl rfl (q_pick_t rfl rfl) ?_
  refine Sm rfl rfl ?_
  refine as_gh rfl rfl rfl rfl (h_q rfl (q_move rfl) ?_)
  refine as_gh rfl rfl rfl rfl (h_q rfl (q_indexAddr (e := 24) (size := 2) (by kernel_rfl) (by kernel_rfl) rfl rfl (by omega) (by omega)) ?_)
  refine as_gh rfl rfl rfl rfl (h_q rfl (q_fieldAddr (off := 0) (by kernel_rfl) rfl) ?_)
  refine as_gh rfl rfl rfl rfl (h_q rfl (q_load1 (by kernel_rfl) rfl (show _ = some (Value.int .i64 1) from ElRow.fst (d := #[(1, 0), (2, 0), (2, 0)]) hbs (i := 0) (by decide))) ?_)
  refine as_gh rfl rfl rfl rfl (h_q rfl (q_eqT rfl rfl (by omega)) ?_)
  refine as_q rfl rfl (q_pick_t rfl rfl) ?_
  refine Sm rfl rfl ?_
  refine as_gh rfl rfl rfl rfl (h_q rfl (q_move rfl) ?_)
  refine as_gh rfl rfl rfl rfl (h_q rfl (q_indexAddr (e := 24) (size := 2) (by kernel_rfl) (by kernel_rfl) rfl rfl (by omega) (by omega)) ?_)
  refine as_gh rfl rfl rfl rfl (h_q rfl (q_fieldAddr (off := 0) (by kernel_rfl) rfl) ?_)
  refine as_gh rfl rfl rfl rfl (h_q rfl (q_load1 (by kernel_rfl) rfl (show _ = some (Value.int .i64 2) from ElRow.fst (d := #[(1, 0), (2, 0), (2, 0)]) hbs (i := 2) (by decide))) ?_)
  refine as_gh rfl rfl rfl rfl (h_q rfl (q_eqT rfl rfl (by omega)) ?_)
  refine as_q rfl rfl (q_pick_t rfl rfl) ?_
  refine Sm rfl rfl ?_
  refine as_gh rfl rfl rfl rfl (h_q rfl (q_move rfl) ?_)
  refine as_gh rfl rfl rfl rfl (h_q rfl (q_eqT rfl rfl (by omega)) ?_)
  refine as_q rfl rfl (q_pick_t rfl rfl) ?_
  refine Sm rfl rfl ?_
  refine as_gh rfl rfl rfl rfl (h_q rfl (q_move rfl) ?_)
  refine as_gh rfl rfl rfl rfl (h_q rfl (q_len (by kernel_rfl) rfl _) ?_)
  refine as_gh rfl rfl rfl rfl (h_q rfl (q_eqT rfl rfl (by omega)) ?_)
  refine as_q rfl rfl (q_pick_t rfl rfl) ?_
  refine Sm rfl rfl ?_
  refine as_gh rfl rfl rfl rfl (h_q rfl (q_move rfl) ?_)
  refine as_gh rfl rfl rfl rfl (h_q rfl (q_eqT rfl rfl (by omega)) ?_)
  refine as_q rfl rfl (q_pick_t rfl rfl) ?_
  refine Sm rfl rfl ?_
  refine as_gh rfl rfl rfl rfl (h_q rfl (q_move rfl) ?_)
  refine as_gh rfl rfl rfl rfl (h_q rfl (q_eqT rfl rfl (by omega)) ?_)
  refine as_q rfl rfl (q_pick_t rfl rfl) ?_
  refine Sm rfl rfl ?_
  refine as_gh rfl rfl rfl rfl (h_q rfl (q_loadc (n := 1) (by kernel_rfl) rfl (by exact Blk.cells hox.1 rfl)) ?_)
  refine as_gh rfl rfl rfl rfl (h_q rfl (q_build (zs := [(.int .i64 0), (.int .i64 0)]) (places := [(0, 1), (1, 1)]) (cs := [_, _]) (by kernel_rfl) (by kernel_rfl) rfl rfl) ?_)
  refine as_gh rfl rfl rfl rfl (h_call (by kernel_rfl) rfl ?_)
  refine (dr_count (x := (2, 0)) hs12.sat hx (by decide)).mono ?_
  rintro _ w13 ⟨hv13, hs13⟩
  rw [show (([((1, 0) : El), (2, 0), (2, 0)].countP fun y => decide (y = (2, 0)) : Nat) : Int) = 2 by decide] at hv13
  subst hv13
  replace hx := hx.mono hs13.le
  replace hox := hox.then hs13
  replace hoq := hoq.then hs13
  replace hT := hT.then hs13
  have hz13 := hs13.size
  refine as_gh rfl rfl rfl rfl (h_q rfl (q_eqT rfl rfl (by omega)) ?_)
  refine as_q rfl rfl (q_pick_t rfl rfl) ?_
  refine Sm rfl rfl ?_
  refine as_gh rfl rfl rfl rfl (h_q rfl (q_loadc (n := 1) (by kernel_rfl) rfl (by exact Blk.cells hox.1 rfl)) ?_)
  refine as_gh rfl rfl rfl rfl (h_q rfl (q_loadc (n := 1) (by kernel_rfl) rfl (by exact Blk.cells hox.1 rfl)) ?_)
  refine as_gh rfl rfl rfl rfl (h_call (by kernel_rfl) rfl ?_)
  refine (dr_same hs13.sat hx hx (by decide) (by decide)).mono ?_
  rintro _ w14 ⟨hv14, hs14⟩
  rw [decide_eq_true rfl] at hv14
  subst hv14
  replace hoq := hoq.then hs14
  replace hT := hT.then hs14
  have hz14 := hs14.size
  refine as_q rfl rfl (q_pick_t rfl rfl) ?_
  refine Sm rfl rfl ?_
  refine as_gh rfl rfl rfl rfl (h_q rfl (q_move rfl) ?_)
  refine as_gh rfl rfl rfl rfl (h_q rfl (q_eqT rfl rfl (by omega)) ?_)
  refine as_q rfl rfl (q_pick_t rfl rfl) ?_
  refine Sm rfl rfl ?_
  refine as_gh rfl rfl rfl rfl (h_q rfl (q_move rfl) ?_)
  refine as_gh rfl rfl rfl rfl (h_call (by kernel_rfl) rfl ?_)
  refine (dr_done_1 hs14.sat hoq).mono ?_
  rintro _ w15 ⟨rfl, hs15⟩
  replace hT := hT.then hs15
  have hz15 := hs15.size
  refine as_gh rfl rfl rfl rfl (h_q rfl (q_eqT rfl rfl (by omega)) ?_)
  refine as_q rfl rfl (q_pick_t rfl rfl) ?_
  refine Sm rfl rfl ?_
  refine as_gh rfl rfl rfl rfl (h_q rfl (q_move rfl) ?_)
  refine as_gh rfl rfl rfl rfl (h_q rfl (q_len (by kernel_rfl) rfl _) ?_)
  refine as_gh rfl rfl rfl rfl (h_q rfl (q_eqT rfl rfl (by omega)) ?_)
  refine as_q rfl rfl (q_pick_t rfl rfl) ?_
  refine Sm rfl rfl ?_
  refine as_gh rfl rfl rfl rfl (h_q rfl (q_move rfl) ?_)
  refine as_gh rfl rfl rfl rfl (h_q rfl (q_len (by kernel_rfl) rfl _) ?_)
  refine as_gh rfl rfl rfl rfl (h_q rfl (q_eqT rfl rfl (by omega)) ?_)
  refine as_q rfl rfl (q_pick_t rfl rfl) ?_
  refine Sa rfl rfl ?_
  refine as_nil (κ _ _ ?_)
  refine cw_ret ?_
  exact ⟨_, (res_tmp rfl res_nil), rfl, hT.forget⟩
end Go.Proofs.YtgcgjpfjjgalmaaGreat
/- Heaps are counted and compared by what they hold, part 1. -/
namespace Go.Proofs.YtgcgjpfjjgalmaaGreat
open Go Go.Eng
theorem putE_head {a : El} {r : List El} (h : OrdE (a :: r)) : putE r a = a :: r := by
  cases r with
  | nil => rfl
  | cons b r =>
    have h1 := (List.pairwise_cons.1 h).1 b (by simp)
    simp [putE, h1]
theorem nil_short : ([] : List El).length < 100000000 := by decide
theorem putE_drop {L : List El} (h : OrdE L) {c : Nat} {y : El} (hy : L[c]? = some y) : putE (L.drop (c + 1)) y = L.drop c := by
  have hd : L.drop c = y :: L.drop (c + 1) := by
    obtain ⟨h1, h2⟩ := List.getElem?_eq_some_iff.1 hy
    rw [List.drop_eq_getElem_cons h1, h2]
  rw [hd]
  exact putE_head (hd ▸ h.sublist (List.drop_sublist c L))
set_option maxRecDepth 4000 in
theorem drainCounts_b {w : World} {M : Mem} {z y : Int} {sa sb : Option Addr} {n m ca cb : Nat} {x : El} (hs : Sat M w) (hz : 40 < n ∨ 40 < m ∨ z < 1 ∨ 6 < z ∨ y < 1 ∨ 6 < y) :
    Does Tryz.prog 3 #[.int .i64 z, .int .i64 y, .slice sa n ca, .slice sb m cb, .agg (elc x).toArray] w (fun v w' => v = .bool true ∧ Step Nope M w M w') := by
  have hT := Step.refl Nope hs
  refine fn_enter Tryz.func3 rfl (rs := [.tmp 10]) rfl rfl rfl rfl ?_
  refine cw_rs fun _ κ => ?_
  have hqae := hT.size
  refine as_h rfl (h_boxO hs rfl rfl fun be w1 hs1 hoe ee => ?_)
  replace hT := hT.then hs1
  have hz1 := hs1.size
  have hle := hoe.1.lt
  refine Sa rfl rfl ?_
  refine as_nil (κ _ _ ?_)
  refine cw_rs fun _ κ => ?_
  refine as_h rfl (h_call (by kernel_rfl) rfl ?_)
  refine (awake16 hs1.sat).mono ?_
  rintro _ w2 ⟨rfl, hs2⟩
  replace hT := hT.then hs2
  have hz2 := hs2.size
  refine Sa rfl rfl ?_
  refine as_nil (κ _ _ ?_)
  refine cw_seq fun _ hK3 => ?_
  refine cw_rs fun _ κ => ?_
  refine Sm rfl rfl ?_
  refine as_q rfl rfl (q_not rfl) ?_
  refine as_nil (κ _ _ ?_)
  refine cw_false rfl ?_
  refine cw_skip ?_
  refine hK3 _ _ ?_
  refine cw_seq fun _ hK5 => ?_
  rcases (show (40 < n) ∨ (¬ (40 < n) ∧ 40 < m) ∨ (¬ (40 < n) ∧ ¬ (40 < m) ∧ z < 1) ∨ (¬ (40 < n) ∧ ¬ (40 < m) ∧ ¬ (z < 1) ∧ 6 < z) ∨ (¬ (40 < n) ∧ ¬ (40 < m) ∧ ¬ (z < 1) ∧ ¬ (6 < z) ∧ y < 1) ∨ (¬ (40 < n) ∧ ¬ (40 < m) ∧ ¬ (z < 1) ∧ ¬ (6 < z) ∧ ¬ (y < 1) ∧ 6 < y) by omega) with h0 | ⟨h0, h1⟩ | ⟨h0, h1, h2⟩ | ⟨h0, h1, h2, h3⟩ | ⟨h0, h1, h2, h3, h4⟩ | ⟨h0, h1, h2, h3, h4, h5⟩
  · skip
    refine cw_rs fun _ κ => ?_
    refine Sm rfl rfl ?_
    refine as_q rfl rfl (q_len (by kernel_rfl) rfl _) ?_
    refine as_q rfl rfl (q_gtT rfl rfl (by omega)) ?_
    refine Sm rfl rfl ?_
    refine as_gskip rfl rfl rfl rfl rfl ?_
    refine as_gskip rfl rfl rfl rfl rfl ?_
    refine as_gskip rfl rfl rfl rfl rfl ?_
    refine as_q rfl rfl (q_pick_t rfl rfl) ?_
    refine Sm rfl rfl ?_
    refine as_gskip rfl rfl rfl rfl rfl ?_
    refine as_gskip rfl rfl rfl rfl rfl ?_
    refine as_q rfl rfl (q_pick_t rfl rfl) ?_
    refine Sm rfl rfl ?_
    refine as_gskip rfl rfl rfl rfl rfl ?_
    refine as_gskip rfl rfl rfl rfl rfl ?_
    refine as_q rfl rfl (q_pick_t rfl rfl) ?_
    refine Sm rfl rfl ?_
    refine as_gskip rfl rfl rfl rfl rfl ?_
    refine as_gskip rfl rfl rfl rfl rfl ?_
    refine as_q rfl rfl (q_pick_t rfl rfl) ?_
    refine Sm rfl rfl ?_
    refine as_gskip rfl rfl rfl rfl rfl ?_
    refine as_gskip rfl rfl rfl rfl rfl ?_
    refine as_q rfl rfl (q_pick_t rfl rfl) ?_
    refine as_nil (κ _ _ ?_)
    refine cw_true rfl ?_
    refine cw_rs fun _ κ => ?_
    refine Sa rfl rfl ?_
    refine as_nil (κ _ _ ?_)
    refine cw_ret ?_
    exact ⟨_, (res_tmp rfl res_nil), rfl, hT.forget⟩
  · skip
    refine cw_rs fun _ κ => ?_
    refine Sm rfl rfl ?_
    refine as_q rfl rfl (q_len (by kernel_rfl) rfl _) ?_
    refine as_q rfl rfl (q_gtF rfl rfl (by omega)) ?_
    refine Sm rfl rfl ?_
    refine as_gh rfl rfl rfl rfl (h_q rfl (q_move rfl) ?_)
    refine as_gh rfl rfl rfl rfl (h_q rfl (q_len (by kernel_rfl) rfl _) ?_)
    refine as_gh rfl rfl rfl rfl (h_q rfl (q_gtT rfl rfl (by omega)) ?_)
    refine as_q rfl rfl (q_pick_f rfl rfl) ?_
    refine Sm rfl rfl ?_
    refine as_gskip rfl rfl rfl rfl rfl ?_
    refine as_gskip rfl rfl rfl rfl rfl ?_
    refine as_q rfl rfl (q_pick_t rfl rfl) ?_
    refine Sm rfl rfl ?_
    refine as_gskip rfl rfl rfl rfl rfl ?_
    refine as_gskip rfl rfl rfl rfl rfl ?_
    refine as_q rfl rfl (q_pick_t rfl rfl) ?_
    refine Sm rfl rfl ?_
    refine as_gskip rfl rfl rfl rfl rfl ?_
    refine as_gskip rfl rfl rfl rfl rfl ?_
    refine as_q rfl rfl (q_pick_t rfl rfl) ?_
    refine Sm rfl rfl ?_
    refine as_gskip rfl rfl rfl rfl rfl ?_
    refine as_gskip rfl rfl rfl rfl rfl ?_
    refine as_q rfl rfl (q_pick_t rfl rfl) ?_
    refine as_nil (κ _ _ ?_)
    refine cw_true rfl ?_
    refine cw_rs fun _ κ => ?_
    refine Sa rfl rfl ?_
    refine as_nil (κ _ _ ?_)
    refine cw_ret ?_
    exact ⟨_, (res_tmp rfl res_nil), rfl, hT.forget⟩
  · skip
    refine cw_rs fun _ κ => ?_
    refine Sm rfl rfl ?_
    refine as_q rfl rfl (q_len (by kernel_rfl) rfl _) ?_
    refine as_q rfl rfl (q_gtF rfl rfl (by omega)) ?_
    refine Sm rfl rfl ?_
    refine as_gh rfl rfl rfl rfl (h_q rfl (q_move rfl) ?_)
    refine as_gh rfl rfl rfl rfl (h_q rfl (q_len (by kernel_rfl) rfl _) ?_)
    refine as_gh rfl rfl rfl rfl (h_q rfl (q_gtF rfl rfl (by omega)) ?_)
    refine as_q rfl rfl (q_pick_f rfl rfl) ?_
    refine Sm rfl rfl ?_
    refine as_gh rfl rfl rfl rfl (h_q rfl (q_move rfl) ?_)
    refine as_gh rfl rfl rfl rfl (h_q rfl (q_ltT rfl rfl (by omega)) ?_)
    refine as_q rfl rfl (q_pick_f rfl rfl) ?_
    refine Sm rfl rfl ?_
    refine as_gskip rfl rfl rfl rfl rfl ?_
    refine as_gskip rfl rfl rfl rfl rfl ?_
    refine as_q rfl rfl (q_pick_t rfl rfl) ?_
    refine Sm rfl rfl ?_
    refine as_gskip rfl rfl rfl rfl rfl ?_
    refine as_gskip rfl rfl rfl rfl rfl ?_
    refine as_q rfl rfl (q_pick_t rfl rfl) ?_
    refine Sm rfl rfl ?_
    refine as_gskip rfl rfl rfl rfl rfl ?_
    refine as_gskip rfl rfl rfl rfl rfl ?_
    refine as_q rfl rfl (q_pick_t rfl rfl) ?_
    refine as_nil (κ _ _ ?_)
    refine cw_true rfl ?_
    refine cw_rs fun _ κ => ?_
    refine Sa rfl rfl ?_
    refine as_nil (κ _ _ ?_)
    refine cw_ret ?_
    exact ⟨_, (res_tmp rfl res_nil), rfl, hT.forget⟩
  · skip
    refine cw_rs fun _ κ => ?_
    refine Sm rfl rfl ?_
    refine as_q rfl rfl (q_len (by kernel_rfl) rfl _) ?_
    refine as_q rfl rfl (q_gtF rfl rfl (by omega)) ?_
    refine Sm rfl rfl ?_
    refine as_gh rfl rfl rfl rfl (h_q rfl (q_move rfl) ?_)
    refine as_gh rfl rfl rfl rfl (h_q rfl (q_len (by kernel_rfl) rfl _) ?_)
    refine as_gh rfl rfl rfl rfl (h_q rfl (q_gtF rfl rfl (by omega)) ?_)
    refine as_q rfl rfl (q_pick_f rfl rfl) ?_
    refine Sm rfl rfl ?_
    refine as_gh rfl rfl rfl rfl (h_q rfl (q_move rfl) ?_)
    refine as_gh rfl rfl rfl rfl (h_q rfl (q_ltF rfl rfl (by omega)) ?_)
    refine as_q rfl rfl (q_pick_f rfl rfl) ?_
    refine Sm rfl rfl ?_
    refine as_gh rfl rfl rfl rfl (h_q rfl (q_move rfl) ?_)
    refine as_gh rfl rfl rfl rfl (h_q rfl (q_gtT rfl rfl (by omega)) ?_)
    refine as_q rfl rfl (q_pick_f rfl rfl) ?_
    refine Sm rfl rfl ?_
    refine as_gskip rfl rfl rfl rfl rfl ?_
    refine as_gskip rfl rfl rfl rfl rfl ?_
    refine as_q rfl rfl (q_pick_t rfl rfl) ?_
    refine Sm rfl rfl ?_
    refine as_gskip rfl rfl rfl rfl rfl ?_
    refine as_gskip rfl rfl rfl rfl rfl ?_
    refine as_q rfl rfl (q_pick_t rfl rfl) ?_
    refine as_nil (κ _ _ ?_)
    refine cw_true rfl ?_
    refine cw_rs fun _ κ => ?_
    refine Sa rfl rfl ?_
    refine as_nil (κ _ _ ?_)
    refine cw_ret ?_
    exact ⟨_, (res_tmp rfl res_nil), rfl, hT.forget⟩
  · skip
    refine cw_rs fun _ κ => ?_
    refine Sm rfl rfl ?_
    refine as_q rfl rfl (q_len (by kernel_rfl) rfl _) ?_
    refine as_q rfl rfl (q_gtF rfl rfl (by omega)) ?_
    refine Sm rfl rfl ?_
    refine as_gh rfl rfl rfl rfl (h_q rfl (q_move rfl) ?_)
    refine as_gh rfl rfl rfl rfl (h_q rfl (q_len (by kernel_rfl) rfl _) ?_)
    refine as_gh rfl rfl rfl rfl (h_q rfl (q_gtF rfl rfl (by omega)) ?_)
    refine as_q rfl rfl (q_pick_f rfl rfl) ?_
    refine Sm rfl rfl ?_
    refine as_gh rfl rfl rfl rfl (h_q rfl (q_move rfl) ?_)
    refine as_gh rfl rfl rfl rfl (h_q rfl (q_ltF rfl rfl (by omega)) ?_)
    refine as_q rfl rfl (q_pick_f rfl rfl) ?_
    refine Sm rfl rfl ?_
    refine as_gh rfl rfl rfl rfl (h_q rfl (q_move rfl) ?_)
    refine as_gh rfl rfl rfl rfl (h_q rfl (q_gtF rfl rfl (by omega)) ?_)
    refine as_q rfl rfl (q_pick_f rfl rfl) ?_
    refine Sm rfl rfl ?_
    refine as_gh rfl rfl rfl rfl (h_q rfl (q_move rfl) ?_)
    refine as_gh rfl rfl rfl rfl (h_q rfl (q_ltT rfl rfl (by omega)) ?_)
    refine as_q rfl rfl (q_pick_f rfl rfl) ?_
    refine Sm rfl rfl ?_
    refine as_gskip rfl rfl rfl rfl rfl ?_
    refine as_gskip rfl rfl rfl rfl rfl ?_
    refine as_q rfl rfl (q_pick_t rfl rfl) ?_
    refine as_nil (κ _ _ ?_)
    refine cw_true rfl ?_
    refine cw_rs fun _ κ => ?_
    refine Sa rfl rfl ?_
    refine as_nil (κ _ _ ?_)
    refine cw_ret ?_
    exact ⟨_, (res_tmp rfl res_nil), rfl, hT.forget⟩
  · skip
    refine cw_rs fun _ κ => ?_
    refine Sm rfl rfl ?_
    refine as_q rfl rfl (q_len (by kernel_rfl) rfl _) ?_
    refine as_q rfl rfl (q_gtF rfl rfl (by omega)) ?_
    refine Sm rfl rfl ?_
    refine as_gh rfl rfl rfl rfl (h_q rfl (q_move rfl) ?_)
    refine as_gh rfl rfl rfl rfl (h_q rfl (q_len (by kernel_rfl) rfl _) ?_)
    refine as_gh rfl rfl rfl rfl (h_q rfl (q_gtF rfl rfl (by omega)) ?_)
    refine as_q rfl rfl (q_pick_f rfl rfl) ?_
    refine Sm rfl rfl ?_
    refine as_gh rfl rfl rfl rfl (h_q rfl (q_move rfl) ?_)
    refine as_gh rfl rfl rfl rfl (h_q rfl (q_ltF rfl rfl (by omega)) ?_)
    refine as_q rfl rfl (q_pick_f rfl rfl) ?_
    refine Sm rfl rfl ?_
    refine as_gh rfl rfl rfl rfl (h_q rfl (q_move rfl) ?_)
    refine as_gh rfl rfl rfl rfl (h_q rfl (q_gtF rfl rfl (by omega)) ?_)
    refine as_q rfl rfl (q_pick_f rfl rfl) ?_
    refine Sm rfl rfl ?_
    refine as_gh rfl rfl rfl rfl (h_q rfl (q_move rfl) ?_)
    refine as_gh rfl rfl rfl rfl (h_q rfl (q_ltF rfl rfl (by omega)) ?_)
    refine as_q rfl rfl (q_pick_f rfl rfl) ?_
    refine Sm rfl rfl ?_
    refine as_gh rfl rfl rfl rfl (h_q rfl (q_move rfl) ?_)
    refine as_gh rfl rfl rfl rfl (h_q rfl (q_gtT rfl rfl (by omega)) ?_)
    refine as_q rfl rfl (q_pick_f rfl rfl) ?_
    refine as_nil (κ _ _ ?_)
    refine cw_true rfl ?_
    refine cw_rs fun _ κ => ?_
    refine Sa rfl rfl ?_
    refine as_nil (κ _ _ ?_)
    refine cw_ret ?_
    exact ⟨_, (res_tmp rfl res_nil), rfl, hT.forget⟩
set_option maxRecDepth 8000 in
theorem drainCounts_g {w : World} {M : Mem} {z y : Int} {sa sb : Option Addr} {n m ca cb : Nat} {x : El} {xs ys : List El} (hs : Sat M w) (hr : RdM M 2 (.slice sa n ca) n (els xs)) (hr2 : RdM M 2 (.slice sb m cb) m (els ys)) (hz : 1 ≤ z ∧ z ≤ 6) (hz2 : 1 ≤ y ∧ y ≤ 6) (hn : n ≤ 40) (hm : m ≤ 40) :
    Does Tryz.prog 3 #[.int .i64 z, .int .i64 y, .slice sa n ca, .slice sb m cb, .agg (elc x).toArray] w (fun v w' => v = .bool true ∧ Step Nope M w M w') := by
  have hT := Step.refl Nope hs
  obtain ⟨k, hkz⟩ : ∃ k : Nat, (k : Int) = z := ⟨z.toNat, by omega⟩
  have hem : emE z = 0 := by unfold emE; rw [if_pos hz]
  have hekz : emK z = k := by unfold emK; rw [if_pos hz]; omega
  have hk0 : k ≠ 0 := by omega
  have hofl : ∀ l, ofL z l = srtE l := fun l => by unfold ofL; rw [if_pos hz]
  obtain ⟨k2, hkz2⟩ : ∃ k2 : Nat, (k2 : Int) = y := ⟨y.toNat, by omega⟩
  have hem2 : emE y = 0 := by unfold emE; rw [if_pos hz2]
  have hekz2 : emK y = k2 := by unfold emK; rw [if_pos hz2]; omega
  have hk02 : k2 ≠ 0 := by omega
  have hofl2 : ∀ l, ofL y l = srtE l := fun l => by unfold ofL; rw [if_pos hz2]
  have hxl := (hr.rds w).els_len hs
  have hyl := (hr2.rds w).els_len hs
  have hr0 := hr
  have hr20 := hr2
  obtain ⟨L, hL⟩ : ∃ L, L = srtE xs := ⟨_, rfl⟩
  obtain ⟨L2, hL2⟩ : ∃ L, L = srtE ys := ⟨_, rfl⟩
  have hLl : L.length = n := by rw [hL, srtE_length, hxl]
  have hL2l : L2.length = m := by rw [hL2, srtE_length, hyl]
  have hcp : L.countP (fun y => decide (y = x)) = xs.countP (fun y => decide (y = x)) := by rw [hL]; exact (srtE_perm xs).countP_eq _
  have hd21 : decide (L2 = L) = decide (L = L2) := by simp only [eq_comm]
  have hdn : decide ([] = L) = ((n : Int) == 0) := by
    rw [Bool.eq_iff_iff, decide_eq_true_iff, beq_iff_eq, ← hLl]
    constructor
    · rintro rfl; rfl
    · intro h; exact (List.eq_nil_of_length_eq_zero (by omega)).symm
  refine fn_enter Tryz.func3 rfl (rs := [.tmp 10]) rfl rfl rfl rfl ?_
  refine cw_rs fun _ κ => ?_
  have hqae := hT.size
  refine as_h rfl (h_boxO hs rfl rfl fun be w1 hs1 hoe ee => ?_)
  replace hr := hr.mono hs1.le
  replace hr2 := hr2.mono hs1.le
  replace hT := hT.then hs1
  have hz1 := hs1.size
  have hle := hoe.1.lt
  refine Sa rfl rfl ?_
  refine as_nil (κ _ _ ?_)
  refine cw_rs fun _ κ => ?_
  refine as_h rfl (h_call (by kernel_rfl) rfl ?_)
  refine (awake16 hs1.sat).mono ?_
  rintro _ w2 ⟨rfl, hs2⟩
  replace hr := hr.mono hs2.le
  replace hr2 := hr2.mono hs2.le
  replace hoe := hoe.then hs2
  replace hT := hT.then hs2
  have hz2 := hs2.size
  refine Sa rfl rfl ?_
  refine as_nil (κ _ _ ?_)
  refine cw_seq fun _ hK3 => ?_
  refine cw_rs fun _ κ => ?_
  refine Sm rfl rfl ?_
  refine as_q rfl rfl (q_not rfl) ?_
  refine as_nil (κ _ _ ?_)
  refine cw_false rfl ?_
  refine cw_skip ?_
  refine hK3 _ _ ?_
  refine cw_seq fun _ hK5 => ?_
  refine cw_rs fun _ κ => ?_
  refine Sm rfl rfl ?_
  refine as_q rfl rfl (q_len (by kernel_rfl) rfl _) ?_
  refine as_q rfl rfl (q_gtF rfl rfl (by omega)) ?_
  refine Sm rfl rfl ?_
  refine as_gh rfl rfl rfl rfl (h_q rfl (q_move rfl) ?_)
  refine as_gh rfl rfl rfl rfl (h_q rfl (q_len (by kernel_rfl) rfl _) ?_)
  refine as_gh rfl rfl rfl rfl (h_q rfl (q_gtF rfl rfl (by omega)) ?_)
  refine as_q rfl rfl (q_pick_f rfl rfl) ?_
  refine Sm rfl rfl ?_
  refine as_gh rfl rfl rfl rfl (h_q rfl (q_move rfl) ?_)
  refine as_gh rfl rfl rfl rfl (h_q rfl (q_ltF rfl rfl (by omega)) ?_)
  refine as_q rfl rfl (q_pick_f rfl rfl) ?_
  refine Sm rfl rfl ?_
  refine as_gh rfl rfl rfl rfl (h_q rfl (q_move rfl) ?_)
  refine as_gh rfl rfl rfl rfl (h_q rfl (q_gtF rfl rfl (by omega)) ?_)
  refine as_q rfl rfl (q_pick_f rfl rfl) ?_
  refine Sm rfl rfl ?_
  refine as_gh rfl rfl rfl rfl (h_q rfl (q_move rfl) ?_)
  refine as_gh rfl rfl rfl rfl (h_q rfl (q_ltF rfl rfl (by omega)) ?_)
  refine as_q rfl rfl (q_pick_f rfl rfl) ?_
  refine Sm rfl rfl ?_
  refine as_gh rfl rfl rfl rfl (h_q rfl (q_move rfl) ?_)
  refine as_gh rfl rfl rfl rfl (h_q rfl (q_gtF rfl rfl (by omega)) ?_)
  refine as_q rfl rfl (q_pick_f rfl rfl) ?_
  refine as_nil (κ _ _ ?_)
  refine cw_false rfl ?_
  refine cw_skip ?_
  refine hK5 _ _ ?_
  refine cw_rs fun _ κ => ?_
  refine Sm rfl rfl ?_
  refine Sm rfl rfl ?_
  refine as_h rfl (h_call (by kernel_rfl) rfl ?_)
  refine (hp_of (z := z) hs2.sat (hr.rds _) (by omega)).mono ?_
  rintro _ w3 ⟨vx, Mx, hrx, hs3, hvx⟩
  rw [hem] at hrx
  subst hrx
  rw [hekz, hofl, ← hL] at hvx
  replace hr := hr.mono hs3.le
  replace hr2 := hr2.mono hs3.le
  replace hoe := hoe.then hs3
  replace hT := hT.then hs3
  have hz3 := hs3.size
  obtain ⟨dx, ux, rfl⟩ := hvx.iface hk0
  refine Sm rfl rfl ?_
  refine Se rfl rfl rfl ?_
  refine Se rfl rfl rfl ?_
  have hqax := hT.size
  refine as_h rfl (h_allocO (z := (.agg #[.nilIface])) hs3.sat (by kernel_rfl) rfl fun bx w4 hs4 hox ex => ?_)
  replace hr := hr.mono hs4.le
  replace hr2 := hr2.mono hs4.le
  replace hoe := hoe.then hs4
  replace hvx := hvx.mono hs4.le
  replace hT := hT.then hs4
  have hz4 := hs4.size
  have hlx := hox.1.lt
  refine as_h0 (h_store hs4.sat hox rfl rfl rfl (by kernel_rfl) rfl rfl rfl fun w5 hs5 hn5 => ?_)
  replace hr := hr.mono hs5.le
  replace hr2 := hr2.mono hs5.le
  replace hoe := hoe.step hs5 (fun h => by have h : _ = _ := h; omega)
  replace hvx := hvx.mono hs5.le
  clear hox; have hox := hn5; clear hn5
  replace hT := hT.own hs5 (by omega)
  have hz5 := hs5.size
  refine Sa rfl rfl ?_
  refine as_nil (κ _ _ ?_)
  refine cw_rs fun _ κ => ?_
  refine Sm rfl rfl ?_
  refine Sm rfl rfl ?_
  refine as_h rfl (h_call (by kernel_rfl) rfl ?_)
  refine (hp_of (z := y) hs5.sat (hr2.rds _) (by omega)).mono ?_
  rintro _ w6 ⟨vq, Mq, hrq, hs6, hvq⟩
  rw [hem2] at hrq
  subst hrq
  rw [hekz2, hofl2, ← hL2] at hvq
  replace hr := hr.mono hs6.le
  replace hr2 := hr2.mono hs6.le
  replace hoe := hoe.then hs6
  replace hvx := hvx.mono hs6.le
  replace hox := hox.then hs6
  replace hT := hT.then hs6
  have hz6 := hs6.size
  obtain ⟨dq, uq, rfl⟩ := hvq.iface hk02
  refine Sm rfl rfl ?_
  refine Se rfl rfl rfl ?_
  refine Se rfl rfl rfl ?_
  have hqaq := hT.size
  refine as_h rfl (h_allocO (z := (.agg #[.nilIface])) hs6.sat (by kernel_rfl) rfl fun bq w7 hs7 hoq eq => ?_)
  replace hr := hr.mono hs7.le
  replace hr2 := hr2.mono hs7.le
  replace hoe := hoe.then hs7
  replace hvx := hvx.mono hs7.le
  replace hox := hox.then hs7
  replace hvq := hvq.mono hs7.le
  replace hT := hT.then hs7
  have hz7 := hs7.size
  have hlq := hoq.1.lt
  refine as_h0 (h_store hs7.sat hoq rfl rfl rfl (by kernel_rfl) rfl rfl rfl fun w8 hs8 hn8 => ?_)
  replace hr := hr.mono hs8.le
  replace hr2 := hr2.mono hs8.le
  replace hoe := hoe.step hs8 (fun h => by have h : _ = _ := h; omega)
  replace hvx := hvx.mono hs8.le
  replace hox := hox.step hs8 (fun h => by have h : _ = _ := h; omega)
  replace hvq := hvq.mono hs8.le
  clear hoq; have hoq := hn8; clear hn8
  replace hT := hT.own hs8 (by omega)
  have hz8 := hs8.size
  refine Sa rfl rfl ?_
  refine as_nil (κ _ _ ?_)
  refine cw_rs fun _ κ => ?_
  refine Sa rfl rfl ?_
  refine as_nil (κ _ _ ?_)
  refine cw_seq fun _ hK10 => ?_
  refine cw_rs fun _ κ => ?_
  refine Sa rfl rfl ?_
  refine as_nil (κ _ _ ?_)
  refine cw_block ?_
  refine cw_loop (fun mm l1 wL => ∃ (i cn : Nat) (M1 : Mem), mm = n - i ∧ i ≤ n ∧ cn = (xs.take i).countP (fun y => decide (y = x)) ∧ l1 = [(0, .int .i64 z), (1, .int .i64 y), (2, .slice sa n ca), (3, .slice sb m cb), (9, .pointer (some ⟨be, 0, none⟩)), (12, .pointer (some ⟨bx, 0, none⟩)), (13, .int .i64 0), (14, .pointer (some ⟨bq, 0, none⟩)), (15, .int .i64 0), (16, .int .i64 cn), (17, .int .i64 i)] ∧ Step Nope M w M1 wL ∧ HVal M1 k L (.iface dx ux) ∧ HVal M1 k2 L2 (.iface dq uq) ∧ Own wL M1 bx [.iface dx ux] 29 ∧ Own wL M1 bq [.iface dq uq] 29 ∧ Own wL M1 be (elc x) 24) (n) [(0, .int .i64 z), (1, .int .i64 y), (2, .slice sa n ca), (3, .slice sb m cb), (9, .pointer (some ⟨be, 0, none⟩)), (12, .pointer (some ⟨bx, 0, none⟩)), (13, .int .i64 0), (14, .pointer (some ⟨bq, 0, none⟩)), (15, .int .i64 0), (16, .int .i64 (0 : Nat)), (17, .int .i64 (0 : Nat))] (.cons rfl (.cons rfl (.cons rfl (.cons rfl (.cons rfl (.cons rfl (.cons rfl (.cons rfl (.cons rfl (.cons rfl (.cons rfl (.nil _)))))))))))) ?_ ?_
  · skip
    exact ⟨0, 0, _, rfl, Nat.zero_le _, rfl, rfl, hT, hvx, hvq, hox, hoq, hoe⟩
  have hbw9 : w.heap.size ≤ bx ∧ w.heap.size ≤ bq ∧ w.heap.size ≤ be ∧ bx ≠ bq ∧ bx ≠ be ∧ bq ≠ be := by omega
  clear hT hvx hvq hox hoq hoe
  rintro mm l1 wL ⟨i, cn, M1, rfl, hi, hcn, rfl, hT, hvx, hvq, hox, hoq, hoe⟩
  have hcl : cn ≤ i := by rw [hcn]; exact Nat.le_trans List.countP_le_length (by rw [List.length_take]; omega)
  replace hr := hr0.mono hT.le
  replace hr2 := hr20.mono hT.le
  have hlo9 := hox.1.lt
  have hlq9 := hoq.1.lt
  have hle9 := hoe.1.lt
  have hsw9 := hT.size
  refine cw_seq fun _ hK12 => ?_
  refine cw_rs fun _ κ => ?_
  refine Sm rfl rfl ?_
  refine Sm rfl rfl ?_
  refine as_q rfl rfl (q_len (by kernel_rfl) rfl _) ?_
  refine as_q rfl rfl (q_lt rfl rfl) ?_
  refine as_nil (κ _ _ ?_)
  refine cw_cond rfl (fun hc2 => ?_) (fun hc2 => ?_)
  · skip
    have hlt : i < n := by have := of_decide_eq_true hc2; omega
    obtain ⟨e, he⟩ : ∃ y, xs[i]? = some y := ⟨xs[i]'(by omega), by simp⟩
    have hxs : (xs.take (i + 1)).countP (fun y => decide (y = x)) = (xs.take i).countP (fun y => decide (y = x)) + if e = x then 1 else 0 := by
      rw [List.take_add_one, he, List.countP_append]
      simp [List.countP_cons]
    obtain ⟨g, o, rfl⟩ := hr.there (by omega)
    refine cw_skip ?_
    refine hK12 _ _ ?_
    refine cw_seq fun _ hK14 => ?_
    refine cw_block ?_
    refine cw_dr (by kernel_rfl) fun _ κ => ?_
    have hs9 := Step.drew hT.sat
    have hz9 := hs9.size
    replace hr := hr.mono hs9.le
    replace hr2 := hr2.mono hs9.le
    replace hvx := hvx.mono hs9.le
    replace hvq := hvq.mono hs9.le
    replace hox := hox.then hs9
    replace hoq := hoq.then hs9
    replace hoe := hoe.then hs9
    replace hT := hT.then hs9
    refine Dm 0 1 rfl (by kernel_rfl) rfl ?_
    refine Dm 1 3 rfl (by kernel_rfl) rfl ?_
    refine Dq 2 7 rfl (by kernel_rfl) (fun _ => (q_indexAddr (e := 24) (size := 2) (by kernel_rfl) (by kernel_rfl) rfl rfl (by omega) (by omega))) ?_
    refine Dlc 3 15 2 rfl (by kernel_rfl) (by kernel_rfl) rfl ((hr.rd hT.sat).el (j := (i : Int).toNat) (by simpa using he)) ?_
    refine Dlc 4 31 2 rfl (by kernel_rfl) (by kernel_rfl) rfl (by exact Blk.cells hoe.1 rfl) ?_
    refine Dq 5 63 rfl (by kernel_rfl) (fun _ => (q_eqE (a := e) (b := x) (e := 2) (by kernel_rfl) (by kernel_rfl) (by kernel_rfl) (by kernel_rfl) (by kernel_rfl) (by kernel_rfl) rfl rfl)) ?_
    refine Dd (by kernel_rfl) (κ _ _ ?_)
    refine cw_cond rfl (fun hc3 => ?_) (fun hc3 => ?_)
    · skip
      replace hc3 := of_decide_eq_true hc3
      rw [if_pos hc3] at hxs
      refine cw_region fun _ κ => ?_
      refine Sm rfl rfl ?_
      refine as_q rfl rfl (q_addx rfl rfl (by omega) (by omega)) ?_
      refine Sa rfl rfl ?_
      refine as_nil (κ _ _ ?_)
      refine hK14 _ _ ?_
      refine cw_region fun _ κ => ?_
      refine Sm rfl rfl ?_
      refine as_q rfl rfl (q_addx rfl rfl (by omega) (by omega)) ?_
      refine Sa rfl rfl ?_
      refine as_nil (κ _ _ ?_)
      (refine ⟨_, _, ?_, (.cons rfl (.cons rfl (.cons rfl (.cons rfl (.cons rfl (.cons rfl (.cons rfl (.cons rfl (.cons rfl (.cons rfl (.cons rfl (.nil _)))))))))))), i + 1, (cn + 1), _, rfl, by omega, by omega, rfl, hT, hvx, hvq, hox, hoq, hoe⟩; omega)
    · skip
      replace hc3 := of_decide_eq_false hc3
      rw [if_neg hc3] at hxs
      refine cw_skip ?_
      refine hK14 _ _ ?_
      refine cw_region fun _ κ => ?_
      refine Sm rfl rfl ?_
      refine as_q rfl rfl (q_addx rfl rfl (by omega) (by omega)) ?_
      refine Sa rfl rfl ?_
      refine as_nil (κ _ _ ?_)
      (refine ⟨_, _, ?_, (.cons rfl (.cons rfl (.cons rfl (.cons rfl (.cons rfl (.cons rfl (.cons rfl (.cons rfl (.cons rfl (.cons rfl (.cons rfl (.nil _)))))))))))), i + 1, cn, _, rfl, by omega, by omega, rfl, hT, hvx, hvq, hox, hoq, hoe⟩; omega)
  · skip
    have hge : i = n := by have := of_decide_eq_false hc2; omega
    rw [List.take_of_length_le (by omega)] at hcn
    obtain ⟨cx, hcx⟩ : ∃ c, c = xs.countP (fun y => decide (y = x)) := ⟨_, rfl⟩
    rw [← hcx] at hcn
    have hcn2 := hcn.symm
    subst hcn2
    refine cw_exit ?_
    refine hK10 _ _ ?_
    refine cw_rs fun _ κ => ?_
    refine Sm rfl rfl ?_
    refine as_h rfl (h_call (by kernel_rfl) rfl ?_)
    refine (ref_sort hT.sat hr (by omega)).mono ?_
    rintro vs w10 ⟨Ms, hs10, hsr⟩
    rw [← hL] at hsr
    obtain ⟨ra, rc, rfl, _, _⟩ := hsr.slice
    replace hr := hr.mono hs10.le
    replace hr2 := hr2.mono hs10.le
    replace hvx := hvx.mono hs10.le
    replace hvq := hvq.mono hs10.le
    replace hox := hox.then hs10
    replace hoq := hoq.then hs10
    replace hoe := hoe.then hs10
    replace hT := hT.then hs10
    have hz10 := hs10.size
    refine Sa rfl rfl ?_
    refine as_nil (κ _ _ ?_)
    refine cw_rs fun _ κ => ?_
    refine Sm rfl rfl ?_
    refine as_h rfl (h_call (by kernel_rfl) rfl ?_)
    refine (hp_empty (z := y) hs10.sat).mono ?_
    rintro _ w11 ⟨vh, Mh, hrh, hs11, hvh⟩
    rw [hem2] at hrh
    subst hrh
    rw [hekz2] at hvh
    replace hr := hr.mono hs11.le
    replace hr2 := hr2.mono hs11.le
    replace hvx := hvx.mono hs11.le
    replace hvq := hvq.mono hs11.le
    replace hox := hox.then hs11
    replace hoq := hoq.then hs11
    replace hoe := hoe.then hs11
    replace hsr := hsr.mono hs11.le
    replace hT := hT.then hs11
    have hz11 := hs11.size
    obtain ⟨dh, uh, rfl⟩ := hvh.iface hk02
    refine Sm rfl rfl ?_
    refine Se rfl rfl rfl ?_
    refine Se rfl rfl rfl ?_
    have hqah := hT.size
    refine as_h rfl (h_allocO (z := (.agg #[.nilIface])) hs11.sat (by kernel_rfl) rfl fun bh w12 hs12 hoh eh => ?_)
    replace hr := hr.mono hs12.le
    replace hr2 := hr2.mono hs12.le
    replace hvx := hvx.mono hs12.le
    replace hvq := hvq.mono hs12.le
    replace hox := hox.then hs12
    replace hoq := hoq.then hs12
    replace hoe := hoe.then hs12
    replace hsr := hsr.mono hs12.le
    replace hvh := hvh.mono hs12.le
    replace hT := hT.then hs12
    have hz12 := hs12.size
    have hlh := hoh.1.lt
    refine as_h0 (h_store hs12.sat hoh rfl rfl rfl (by kernel_rfl) rfl rfl rfl fun w13 hs13 hn13 => ?_)
    replace hr := hr.mono hs13.le
    replace hr2 := hr2.mono hs13.le
    replace hvx := hvx.mono hs13.le
    replace hvq := hvq.mono hs13.le
    replace hox := hox.step hs13 (fun h => by have h : _ = _ := h; omega)
    replace hoq := hoq.step hs13 (fun h => by have h : _ = _ := h; omega)
    replace hoe := hoe.step hs13 (fun h => by have h : _ = _ := h; omega)
    replace hsr := hsr.mono hs13.le
    replace hvh := hvh.mono hs13.le
    clear hoh; have hoh := hn13; clear hn13
    replace hT := hT.own hs13 (by omega)
    have hz13 := hs13.size
    refine Sa rfl rfl ?_
    refine as_nil (κ _ _ ?_)
    refine cw_seq fun _ hK21 => ?_
    refine cw_rs fun _ κ => ?_
    refine Sm rfl rfl ?_
    refine as_q rfl rfl (q_len (by kernel_rfl) rfl _) ?_
    refine as_q rfl rfl (q_subx rfl rfl (by omega) (by omega)) ?_
    refine Sa rfl rfl ?_
    refine as_nil (κ _ _ ?_)
    refine cw_block ?_
    refine cw_loop (fun mm l1 wL => ∃ (c : Nat) (iz : Int) (dh : TypeId) (uh : Value) (M1 : Mem), c = mm ∧ c ≤ n ∧ iz = (c : Int) - 1 ∧ l1 = [(0, .int .i64 z), (1, .int .i64 y), (2, .slice sa n ca), (3, .slice sb m cb), (9, .pointer (some ⟨be, 0, none⟩)), (12, .pointer (some ⟨bx, 0, none⟩)), (13, .int .i64 0), (14, .pointer (some ⟨bq, 0, none⟩)), (15, .int .i64 0), (16, .int .i64 (cx : Nat)), (18, .slice ra n rc), (19, .pointer (some ⟨bh, 0, none⟩)), (21, .int .i64 iz)] ∧ Step Nope M w M1 wL ∧ HVal M1 k2 (L.drop c) (.iface dh uh) ∧ Own wL M1 bh [.iface dh uh] 29 ∧ RdM M1 2 (.slice ra n rc) n (els L) ∧ HVal M1 k L (.iface dx ux) ∧ HVal M1 k2 L2 (.iface dq uq) ∧ Own wL M1 bx [.iface dx ux] 29 ∧ Own wL M1 bq [.iface dq uq] 29 ∧ Own wL M1 be (elc x) 24) (n) [(0, .int .i64 z), (1, .int .i64 y), (2, .slice sa n ca), (3, .slice sb m cb), (9, .pointer (some ⟨be, 0, none⟩)), (12, .pointer (some ⟨bx, 0, none⟩)), (13, .int .i64 0), (14, .pointer (some ⟨bq, 0, none⟩)), (15, .int .i64 0), (16, .int .i64 (cx : Nat)), (18, .slice ra n rc), (19, .pointer (some ⟨bh, 0, none⟩)), (21, .int .i64 ((n : Int) - 1))] (.cons rfl (.cons rfl (.cons rfl (.cons rfl (.cons rfl (.cons rfl (.cons rfl (.cons rfl (.cons rfl (.cons rfl (.cons rfl (.cons rfl (.cons rfl (.nil _)))))))))))))) ?_ ?_
    · skip
      exact ⟨n, _, dh, uh, _, rfl, Nat.le_refl _, rfl, rfl, hT, by rw [List.drop_eq_nil_of_le (by omega)]; exact hvh, hoh, hsr, hvx, hvq, hox, hoq, hoe⟩
    have hbh9 : w.heap.size ≤ bh ∧ bx ≠ bh ∧ bq ≠ bh ∧ be ≠ bh := by omega
    clear hT hvx hvq hox hoq hoe hvh hoh hsr hr hr2
    rintro mm l1 wL ⟨c, iz, dh, uh, M1, rfl, hcn, hiz, rfl, hT, hvh, hoh, hsr, hvx, hvq, hox, hoq, hoe⟩
    have hr := hr0.mono hT.le
    have hr2 := hr20.mono hT.le
    have hlh9 := hoh.1.lt
    have hlo9 := hox.1.lt
    have hlq9 := hoq.1.lt
    have hle9 := hoe.1.lt
    have hsw9 := hT.size
    refine cw_seq fun _ hK23 => ?_
    refine cw_rs fun _ κ => ?_
    refine Sm rfl rfl ?_
    refine as_q rfl rfl (q_ge rfl rfl) ?_
    refine as_nil (κ _ _ ?_)
    refine cw_cond rfl (fun hc4 => ?_) (fun hc4 => ?_)
    · skip
      have hlt : 0 < c := by have := of_decide_eq_true hc4; omega
      obtain ⟨c, rfl⟩ : ∃ d, c = d + 1 := ⟨c - 1, by omega⟩
      obtain ⟨y2, hy2⟩ : ∃ y, L[c]? = some y := ⟨L[c]'(by omega), by simp⟩
      have hy : L[iz.toNat]? = some y2 := by rw [show iz.toNat = c by omega]; exact hy2
      obtain ⟨g, o, rfl⟩ := hsr.there (by omega)
      refine cw_skip ?_
      refine hK23 _ _ ?_
      refine cw_seq fun _ hK25 => ?_
      refine cw_block ?_
      refine cw_rdS (fun l1 w2 => ∃ (bg : Nat) (dg : TypeId) (ug : Value) (M2 : Mem), l1 = [(0, .int .i64 z), (1, .int .i64 y), (2, .slice sa n ca), (3, .slice sb m cb), (9, .pointer (some ⟨be, 0, none⟩)), (12, .pointer (some ⟨bx, 0, none⟩)), (13, .int .i64 0), (14, .pointer (some ⟨bq, 0, none⟩)), (15, .int .i64 0), (16, .int .i64 (cx : Nat)), (18, .slice (some ⟨g, o, none⟩) n rc), (19, .pointer (some ⟨bh, 0, none⟩)), (21, .int .i64 iz), (22, .pointer (some ⟨bg, 0, none⟩))] ∧ Step Nope M w M2 w2 ∧ wL.heap.size ≤ bg ∧ HVal M2 k2 (L.drop c) (.iface dg ug) ∧ Own w2 M2 bg [.iface dg ug] 29 ∧ Own w2 M2 bh [.iface dh uh] 29 ∧ RdM M2 2 (.slice (some ⟨g, o, none⟩) n rc) n (els L) ∧ HVal M2 k L (.iface dx ux) ∧ HVal M2 k2 L2 (.iface dq uq) ∧ Own w2 M2 bx [.iface dx ux] 29 ∧ Own w2 M2 bq [.iface dq uq] 29 ∧ Own w2 M2 be (elc x) 24) (by kernel_rfl) (by kernel_rfl) (by kernel_rfl) rfl rfl ?_ ?_
      · skip
        have hs14 := Step.drew hT.sat
        have hz14 := hs14.size
        replace hr2 := hr2.mono hs14.le
        replace hvh := hvh.mono hs14.le
        replace hoh := hoh.then hs14
        replace hsr := hsr.mono hs14.le
        replace hvx := hvx.mono hs14.le
        replace hvq := hvq.mono hs14.le
        replace hox := hox.then hs14
        replace hoq := hoq.then hs14
        replace hoe := hoe.then hs14
        replace hT := hT.then hs14
        refine Dlc 0 1 1 rfl (by kernel_rfl) (by kernel_rfl) rfl (by exact Blk.cells hoh.1 rfl) ?_
        refine Dm 1 3 rfl (by kernel_rfl) rfl ?_
        refine Dm 2 7 rfl (by kernel_rfl) rfl ?_
        refine Dq 3 15 rfl (by kernel_rfl) (fun _ => (q_indexAddr (e := 24) (size := 2) (by kernel_rfl) (by kernel_rfl) rfl rfl (by omega) (by omega))) ?_
        refine Dlc 4 31 2 rfl (by kernel_rfl) (by kernel_rfl) rfl ((hsr.rd hT.sat).el (j := iz.toNat) hy) ?_
        refine at_two (i := 5) (j := 9) (by kernel_rfl) ?_ ?_
        · skip
          refine Dah 5 63 rfl (by kernel_rfl) (keep_sift (bs := [T,T]) (by kernel_rfl)) (h_call (by kernel_rfl) rfl ?_)
          refine (hp_insert (x := y2) hs14.sat hvh (by rw [List.length_drop]; omega)).mono ?_
          rintro _ w15 ⟨vg, Mg, hrg, hs15, hvg⟩
          rw [insE, if_neg hk02] at hrg
          subst hrg
          rw [insL, if_neg hk02, putE_drop (hL ▸ srtE_ord xs) hy2] at hvg
          replace hr2 := hr2.mono hs15.le
          replace hvh := hvh.mono hs15.le
          replace hoh := hoh.then hs15
          replace hsr := hsr.mono hs15.le
          replace hvx := hvx.mono hs15.le
          replace hvq := hvq.mono hs15.le
          replace hox := hox.then hs15
          replace hoq := hoq.then hs15
          replace hoe := hoe.then hs15
          replace hT := hT.then hs15
          have hz15 := hs15.size
          obtain ⟨dg, ug, rfl⟩ := hvg.iface hk02
          refine ⟨trivial, ?_⟩
          refine Dm 6 127 rfl (by kernel_rfl) rfl ?_
          refine Dq 7 255 rfl (by kernel_rfl) (fun _ => (q_extract rfl rfl)) ?_
          refine Dq 8 511 rfl (by kernel_rfl) (fun _ => (q_extract rfl rfl)) ?_
          have hqag := hT.size
          refine Dh 9 1023 rfl (by kernel_rfl) rfl (h_allocO (z := (.agg #[.nilIface])) hs15.sat (by kernel_rfl) rfl fun bg w16 hs16 hog eg => ?_)
          replace hr2 := hr2.mono hs16.le
          replace hvh := hvh.mono hs16.le
          replace hoh := hoh.then hs16
          replace hsr := hsr.mono hs16.le
          replace hvx := hvx.mono hs16.le
          replace hvq := hvq.mono hs16.le
          replace hox := hox.then hs16
          replace hoq := hoq.then hs16
          replace hoe := hoe.then hs16
          replace hvg := hvg.mono hs16.le
          replace hT := hT.then hs16
          have hz16 := hs16.size
          have hlg := hog.1.lt
          refine ⟨trivial, ?_⟩
          refine Dh0 10 2047 rfl (by kernel_rfl) rfl (h_store hs16.sat hog rfl rfl rfl (by kernel_rfl) rfl rfl rfl fun w17 hs17 hn17 => ?_)
          replace hr2 := hr2.mono hs17.le
          replace hvh := hvh.mono hs17.le
          replace hoh := hoh.step hs17 (fun h => by have h : _ = _ := h; omega)
          replace hsr := hsr.mono hs17.le
          replace hvx := hvx.mono hs17.le
          replace hvq := hvq.mono hs17.le
          replace hox := hox.step hs17 (fun h => by have h : _ = _ := h; omega)
          replace hoq := hoq.step hs17 (fun h => by have h : _ = _ := h; omega)
          replace hoe := hoe.step hs17 (fun h => by have h : _ = _ := h; omega)
          replace hvg := hvg.mono hs17.le
          clear hog; have hog := hn17; clear hn17
          replace hT := hT.own hs17 (by omega)
          have hz17 := hs17.size
          refine ⟨trivial, ?_⟩
          refine Da 11 4095 rfl (by kernel_rfl) rfl ?_
          refine Dd (by kernel_rfl) ?_
          exact ⟨_, (.cons rfl (.cons rfl (.cons rfl (.cons rfl (.cons rfl (.cons rfl (.cons rfl (.cons rfl (.cons rfl (.cons rfl (.cons rfl (.cons rfl (.cons rfl (.cons rfl (.nil _))))))))))))))), bg, dg, ug, Mg, rfl, hT, by omega, hvg, hog, hoh, hsr, hvx, hvq, hox, hoq, hoe⟩
        · skip
          have hqag := hT.size
          refine Dah 9 543 rfl (by kernel_rfl) (keep_sift (bs := [F,F]) (by kernel_rfl)) (h_allocO (z := (.agg #[.nilIface])) hs14.sat (by kernel_rfl) rfl fun bg w18 hs18 hog eg => ?_)
          replace hr2 := hr2.mono hs18.le
          replace hvh := hvh.mono hs18.le
          replace hoh := hoh.then hs18
          replace hsr := hsr.mono hs18.le
          replace hvx := hvx.mono hs18.le
          replace hvq := hvq.mono hs18.le
          replace hox := hox.then hs18
          replace hoq := hoq.then hs18
          replace hoe := hoe.then hs18
          replace hT := hT.then hs18
          have hz18 := hs18.size
          have hlg := hog.1.lt
          refine ⟨(by repeat' first | exact trivial | exact Blk.cell hoh.1 rfl | exact Blk.cells hoh.1 rfl | exact Blk.cell hox.1 rfl | exact Blk.cells hox.1 rfl | exact Blk.cell hoq.1 rfl | exact Blk.cells hoq.1 rfl | exact Blk.cell hoe.1 rfl | exact Blk.cells hoe.1 rfl | exact Blk.cell hog.1 rfl | exact Blk.cells hog.1 rfl | exact ((hsr.rd hT.sat).el (j := iz.toNat) hy) | assumption | refine all_keep ?_ | refine And.intro ?_ ?_), ?_⟩
          refine Dh 5 575 rfl (by kernel_rfl) (keep_sift (bs := [T,T]) (by kernel_rfl)) (h_call (by kernel_rfl) rfl ?_)
          refine (hp_insert (x := y2) hs18.sat hvh (by rw [List.length_drop]; omega)).mono ?_
          rintro _ w19 ⟨vg, Mg, hrg, hs19, hvg⟩
          rw [insE, if_neg hk02] at hrg
          subst hrg
          rw [insL, if_neg hk02, putE_drop (hL ▸ srtE_ord xs) hy2] at hvg
          replace hr2 := hr2.mono hs19.le
          replace hvh := hvh.mono hs19.le
          replace hoh := hoh.then hs19
          replace hsr := hsr.mono hs19.le
          replace hvx := hvx.mono hs19.le
          replace hvq := hvq.mono hs19.le
          replace hox := hox.then hs19
          replace hoq := hoq.then hs19
          replace hoe := hoe.then hs19
          replace hog := hog.then hs19
          replace hT := hT.then hs19
          have hz19 := hs19.size
          obtain ⟨dg, ug, rfl⟩ := hvg.iface hk02
          refine ⟨trivial, ?_⟩
          refine Dm 6 639 rfl (by kernel_rfl) rfl ?_
          refine Dq 7 767 rfl (by kernel_rfl) (fun _ => (q_extract rfl rfl)) ?_
          refine Dq 8 1023 rfl (by kernel_rfl) (fun _ => (q_extract rfl rfl)) ?_
          refine Dh0 10 2047 rfl (by kernel_rfl) rfl (h_store hs19.sat hog rfl rfl rfl (by kernel_rfl) rfl rfl rfl fun w20 hs20 hn20 => ?_)
          replace hr2 := hr2.mono hs20.le
          replace hvh := hvh.mono hs20.le
          replace hoh := hoh.step hs20 (fun h => by have h : _ = _ := h; omega)
          replace hsr := hsr.mono hs20.le
          replace hvx := hvx.mono hs20.le
          replace hvq := hvq.mono hs20.le
          replace hox := hox.step hs20 (fun h => by have h : _ = _ := h; omega)
          replace hoq := hoq.step hs20 (fun h => by have h : _ = _ := h; omega)
          replace hoe := hoe.step hs20 (fun h => by have h : _ = _ := h; omega)
          replace hvg := hvg.mono hs20.le
          clear hog; have hog := hn20; clear hn20
          replace hT := hT.own hs20 (by omega)
          have hz20 := hs20.size
          refine ⟨trivial, ?_⟩
          refine Da 11 4095 rfl (by kernel_rfl) rfl ?_
          refine Dd (by kernel_rfl) ?_
          exact ⟨_, (.cons rfl (.cons rfl (.cons rfl (.cons rfl (.cons rfl (.cons rfl (.cons rfl (.cons rfl (.cons rfl (.cons rfl (.cons rfl (.cons rfl (.cons rfl (.cons rfl (.nil _))))))))))))))), bg, dg, ug, Mg, rfl, hT, by omega, hvg, hog, hoh, hsr, hvx, hvq, hox, hoq, hoe⟩
      clear hT hvh hoh hsr hvx hvq hox hoq hoe
      rintro l1 w2 ⟨bg, dg, ug, M2, rfl, hT, hbg9, hvg, hog, hoh, hsr, hvx, hvq, hox, hoq, hoe⟩
      have hlg9 := hog.1.lt
      have hsw2 := hT.size
      refine cw_region fun _ κ => ?_
      refine Sc 1 rfl (by kernel_rfl) rfl (by exact Blk.cells hog.1 rfl) ?_
      refine as_h0 (h_store hT.sat hoh rfl rfl rfl (by kernel_rfl) rfl rfl rfl fun w21 hs21 hn21 => ?_)
      replace hvg := hvg.mono hs21.le
      replace hsr := hsr.mono hs21.le
      replace hvx := hvx.mono hs21.le
      replace hvq := hvq.mono hs21.le
      replace hox := hox.step hs21 (fun h => by have h : _ = bh := h; omega)
      replace hoq := hoq.step hs21 (fun h => by have h : _ = bh := h; omega)
      replace hoe := hoe.step hs21 (fun h => by have h : _ = bh := h; omega)
      clear hoh; have hoh := hn21; clear hn21
      replace hT := hT.own hs21 (by omega)
      have hz21 := hs21.size
      refine as_nil (κ _ _ ?_)
      refine hK25 _ _ ?_
      refine cw_region fun _ κ => ?_
      refine Sm rfl rfl ?_
      refine as_q rfl rfl (q_subx rfl rfl (by omega) (by omega)) ?_
      refine Sa rfl rfl ?_
      refine as_nil (κ _ _ ?_)
      refine ⟨_, _, ?_, (.cons rfl (.cons rfl (.cons rfl (.cons rfl (.cons rfl (.cons rfl (.cons rfl (.cons rfl (.cons rfl (.cons rfl (.cons rfl (.cons rfl (.cons rfl (.nil _)))))))))))))), c, _, dg, ug, _, rfl, by omega, by omega, rfl, hT, hvg, hoh, hsr, hvx, hvq, hox, hoq, hoe⟩
      omega
    · skip
      have hge : c = 0 := by have := of_decide_eq_false hc4; omega
      subst hge
      rw [List.drop_zero] at hvh
      refine cw_exit ?_
      refine hK21 _ _ ?_
      refine cw_rs fun _ κ => ?_
      refine Sm rfl rfl ?_
      refine Sm rfl rfl ?_
      refine as_h rfl (h_call (by kernel_rfl) rfl ?_)
      refine (ref_sort hT.sat hr2 (by omega)).mono ?_
      rintro vt w22 ⟨Mt, hs22, hst⟩
      rw [← hL2] at hst
      replace hvh := hvh.mono hs22.le
      replace hoh := hoh.then hs22
      replace hsr := hsr.mono hs22.le
      replace hvx := hvx.mono hs22.le
      replace hvq := hvq.mono hs22.le
      replace hox := hox.then hs22
      replace hoq := hoq.then hs22
      replace hoe := hoe.then hs22
      replace hT := hT.then hs22
      have hz22 := hs22.size
      refine as_h rfl (h_call (by kernel_rfl) rfl ?_)
      refine (ref_same hs22.sat (by omega) (hsr.rds _) (hst.rds _)).mono ?_
      rintro _ w23 ⟨rfl, hs23⟩
      replace hvh := hvh.mono hs23.le
      replace hoh := hoh.then hs23
      replace hvx := hvx.mono hs23.le
      replace hvq := hvq.mono hs23.le
      replace hox := hox.then hs23
      replace hoq := hoq.then hs23
      replace hoe := hoe.then hs23
      replace hT := hT.then hs23
      have hz23 := hs23.size
      refine Sa rfl rfl ?_
      refine as_nil (κ _ _ ?_)
      refine cw_rs fun _ κ => ?_
      rw [← hcx] at hcp
      refine Sm rfl rfl ?_
      refine as_q rfl rfl (q_eqT rfl rfl (by omega)) ?_
      refine Sm rfl rfl ?_
      refine as_gh rfl rfl rfl rfl (h_q rfl (q_move rfl) ?_)
      refine as_gh rfl rfl rfl rfl (h_q rfl (q_eqT rfl rfl (by omega)) ?_)
      refine as_q rfl rfl (q_pick_t rfl rfl) ?_
      refine Sm rfl rfl ?_
      refine as_gh rfl rfl rfl rfl (h_q rfl (q_loadc (n := 1) (by kernel_rfl) rfl (by exact Blk.cells hox.1 rfl)) ?_)
      refine as_gh rfl rfl rfl rfl (h_q rfl (q_loadc (n := 2) (by kernel_rfl) rfl (by exact Blk.cells hoe.1 rfl)) ?_)
      refine as_gh rfl rfl rfl rfl (h_call (by kernel_rfl) rfl ?_)
      refine (dr_count (x := x) hs23.sat hvx (by omega)).mono ?_
      rintro _ w24 ⟨hv24, hs24⟩
      rw [hcp] at hv24
      subst hv24
      replace hvh := hvh.mono hs24.le
      replace hoh := hoh.then hs24
      replace hvx := hvx.mono hs24.le
      replace hvq := hvq.mono hs24.le
      replace hox := hox.then hs24
      replace hoq := hoq.then hs24
      replace hoe := hoe.then hs24
      replace hT := hT.then hs24
      have hz24 := hs24.size
      refine as_gh rfl rfl rfl rfl (h_q rfl (q_move rfl) ?_)
      refine as_gh rfl rfl rfl rfl (h_q rfl (q_eqT rfl rfl (by omega)) ?_)
      refine as_q rfl rfl (q_pick_t rfl rfl) ?_
      refine Sm rfl rfl ?_
      refine as_gh rfl rfl rfl rfl (h_q rfl (q_loadc (n := 1) (by kernel_rfl) rfl (by exact Blk.cells hox.1 rfl)) ?_)
      refine as_gh rfl rfl rfl rfl (h_q rfl (q_loadc (n := 1) (by kernel_rfl) rfl (by exact Blk.cells hoq.1 rfl)) ?_)
      refine as_gh rfl rfl rfl rfl (h_call (by kernel_rfl) rfl ?_)
      refine (dr_same hs24.sat hvx hvq (by omega) (by omega)).mono ?_
      rintro _ w25 ⟨rfl, hs25⟩
      replace hvh := hvh.mono hs25.le
      replace hoh := hoh.then hs25
      replace hvx := hvx.mono hs25.le
      replace hvq := hvq.mono hs25.le
      replace hox := hox.then hs25
      replace hoq := hoq.then hs25
      replace hoe := hoe.then hs25
      replace hT := hT.then hs25
      have hz25 := hs25.size
      refine as_gh rfl rfl rfl rfl (h_q rfl (q_move rfl) ?_)
      refine as_gh rfl rfl rfl rfl (h_q rfl (q_congr (q_eqb (by kernel_rfl) rfl rfl) (v' := .bool true) (by rw [beq_self_eq_true])) ?_)
      refine as_q rfl rfl (q_pick_t rfl rfl) ?_
      refine Sm rfl rfl ?_
      refine as_gh rfl rfl rfl rfl (h_q rfl (q_loadc (n := 1) (by kernel_rfl) rfl (by exact Blk.cells hoq.1 rfl)) ?_)
      refine as_gh rfl rfl rfl rfl (h_q rfl (q_loadc (n := 1) (by kernel_rfl) rfl (by exact Blk.cells hox.1 rfl)) ?_)
      refine as_gh rfl rfl rfl rfl (h_call (by kernel_rfl) rfl ?_)
      refine (dr_same hs25.sat hvq hvx (by omega) (by omega)).mono ?_
      rintro _ w26 ⟨hv26, hs26⟩
      rw [hd21] at hv26
      subst hv26
      replace hvh := hvh.mono hs26.le
      replace hoh := hoh.then hs26
      replace hvx := hvx.mono hs26.le
      replace hox := hox.then hs26
      replace hoe := hoe.then hs26
      replace hT := hT.then hs26
      have hz26 := hs26.size
      refine as_gh rfl rfl rfl rfl (h_q rfl (q_move rfl) ?_)
      refine as_gh rfl rfl rfl rfl (h_q rfl (q_congr (q_eqb (by kernel_rfl) rfl rfl) (v' := .bool true) (by rw [beq_self_eq_true])) ?_)
      refine as_q rfl rfl (q_pick_t rfl rfl) ?_
      refine Sm rfl rfl ?_
      refine as_gh rfl rfl rfl rfl (h_q rfl (q_loadc (n := 1) (by kernel_rfl) rfl (by exact Blk.cells hox.1 rfl)) ?_)
      refine as_gh rfl rfl rfl rfl (h_q rfl (q_loadc (n := 1) (by kernel_rfl) rfl (by exact Blk.cells hoh.1 rfl)) ?_)
      refine as_gh rfl rfl rfl rfl (h_call (by kernel_rfl) rfl ?_)
      refine (dr_same hs26.sat hvx hvh (by omega) (by omega)).mono ?_
      rintro _ w27 ⟨hv27, hs27⟩
      rw [decide_eq_true rfl] at hv27
      subst hv27
      replace hvx := hvx.mono hs27.le
      replace hox := hox.then hs27
      replace hoe := hoe.then hs27
      replace hT := hT.then hs27
      have hz27 := hs27.size
      refine as_q rfl rfl (q_pick_t rfl rfl) ?_
      refine Sm rfl rfl ?_
      refine as_gh rfl rfl rfl rfl (h_q rfl (q_build (zs := [.nilIface]) (places := [(0, 1)]) (cs := [.nilIface]) (by kernel_rfl) (by kernel_rfl) rfl rfl) ?_)
      refine as_gh rfl rfl rfl rfl (h_q rfl (q_loadc (n := 1) (by kernel_rfl) rfl (by exact Blk.cells hox.1 rfl)) ?_)
      refine as_gh rfl rfl rfl rfl (h_call (by kernel_rfl) rfl ?_)
      refine (dr_same (k := 0) (l := []) (v0 := .nilIface) hs27.sat HVal.z hvx nil_short (by omega)).mono ?_
      rintro _ w28 ⟨hv28, hs28⟩
      rw [hdn] at hv28
      subst hv28
      replace hoe := hoe.then hs28
      replace hT := hT.then hs28
      have hz28 := hs28.size
      refine as_gh rfl rfl rfl rfl (h_q rfl (q_move rfl) ?_)
      refine as_gh rfl rfl rfl rfl (h_q rfl (q_len (by kernel_rfl) rfl _) ?_)
      refine as_gh rfl rfl rfl rfl (h_q rfl (q_eq rfl rfl) ?_)
      refine as_gh rfl rfl rfl rfl (h_q rfl (q_congr (q_eqb (by kernel_rfl) rfl rfl) (v' := .bool true) (by rw [beq_self_eq_true])) ?_)
      refine as_q rfl rfl (q_pick_t rfl rfl) ?_
      refine Sm rfl rfl ?_
      refine as_gh rfl rfl rfl rfl (h_q rfl (q_build (zs := [.nilIface]) (places := [(0, 1)]) (cs := [.nilIface]) (by kernel_rfl) (by kernel_rfl) rfl rfl) ?_)
      refine as_gh rfl rfl rfl rfl (h_q rfl (q_loadc (n := 2) (by kernel_rfl) rfl (by exact Blk.cells hoe.1 rfl)) ?_)
      refine as_gh rfl rfl rfl rfl (h_call (by kernel_rfl) rfl ?_)
      refine (dr_count (x := x) (k := 0) (l := []) (v0 := .nilIface) hs28.sat HVal.z nil_short).mono ?_
      rintro _ w29 ⟨hv29, hs29⟩
      rw [show ((([] : List El).countP (fun y => decide (y = x)) : Nat) : Int) = 0 by rfl] at hv29
      subst hv29
      replace hT := hT.then hs29
      have hz29 := hs29.size
      refine as_gh rfl rfl rfl rfl (h_q rfl (q_eqT rfl rfl (by omega)) ?_)
      refine as_q rfl rfl (q_pick_t rfl rfl) ?_
      refine Sa rfl rfl ?_
      refine as_nil (κ _ _ ?_)
      refine cw_ret ?_
      exact ⟨_, (res_tmp rfl res_nil), rfl, hT.forget⟩
theorem drainCounts_walk {w : World} {M : Mem} {z y : Int} {va vb : Value} {n m : Nat} {xs ys : List El} {x : El} (hs : Sat M w) (hr : RdM M 2 va n (els xs)) (hr2 : RdM M 2 vb m (els ys)) : Does Tryz.prog 3 #[.int .i64 z, .int .i64 y, va, vb, .agg (elc x).toArray] w (fun v w' => v = .bool true ∧ Step Nope M w M w') := by
  obtain ⟨sa, ca, rfl, _, _⟩ := hr.slice
  obtain ⟨sb, cb, rfl, _, _⟩ := hr2.slice
  by_cases hz : 40 < n ∨ 40 < m ∨ z < 1 ∨ 6 < z ∨ y < 1 ∨ 6 < y
  · exact drainCounts_b hs hz
  · exact drainCounts_g hs hr hr2 (by omega) (by omega) (by omega) (by omega)
end Go.Proofs.YtgcgjpfjjgalmaaGreat
/- Elements, and rows of them, among a law s arguments. -/
namespace Go.Proofs.YtgcgjpfjjgalmaaGreat
open Go Go.Eng Go.ChangeShapes Go.WideShapes Go.RowKit
theorem two_cells {α : Type} : ∀ {cs : List α}, cs.length = 2 → ∃ a b, cs = [a, b]
  | [a, b], _ => ⟨a, b, rfl⟩
/-- Numbers of the kind. -/
def ElOk (e : El) : Prop := (-9223372036854775808 ≤ e.1 ∧ e.1 ≤ 9223372036854775807) ∧ (-9223372036854775808 ≤ e.2 ∧ e.2 ≤ 9223372036854775807)
section
variable {H : Type} {enc : TypeId × Value → H} {W : World} {spare : Nat → Bool} {held : Bool} {v : Value} {x : DataW H × List MemPlace} {fuel : Nat} {d : DataW H} {p : List MemPlace}
theorem read_el {cs : List Value} (h : DataW.trod enc Tryz.prog W 0 spare held fuel 24 cs = some x) : ∃ e : El, cs = elc e ∧ ElOk e := by
  obtain ⟨xs, n, _, _, hl, hx, hf⟩ := DataW.trod_struct Tryz.underlying24 h
  rw [show Tryz.prog.cellsOf 24 = 2 by kernel_rfl] at hl
  obtain ⟨a, b, rfl⟩ := two_cells hl
  have h0 := hf 0 _ rfl
  have h1 := hf 1 _ rfl
  rw [show Tryz.prog.cellsOf _ = 1 by kernel_rfl] at h0 h1
  rw [List.getElem?_eq_getElem (by rw [hx]; decide)] at h0 h1
  obtain ⟨m, hm, wm⟩ := DataW.trod_int Tryz.underlying2 h0
  obtain ⟨k, hk, wk⟩ := DataW.trod_int Tryz.underlying2 h1
  cases hm
  cases hk
  exact ⟨(m, k), rfl, by simpa [Lit.wf, IntKind.min, IntKind.max, IntKind.signed, IntKind.bits] using wm.2, by simpa [Lit.wf, IntKind.min, IntKind.max, IntKind.signed, IntKind.bits] using wk.2⟩
theorem read_els (hv : ∃ a n c, v = .slice a n c) (h : DataW.Trod enc Tryz.prog W 0 spare held 22 v d p) : ∃ (n : Nat) (xs : List El), RdM (memOf W) 2 v n (els xs) ∧ ∀ e ∈ xs, ElOk e := by
  obtain ⟨fuel, h⟩ := h
  obtain ⟨a, k, c, rfl⟩ := hv
  obtain ⟨n, ys, _, h1, h2⟩ := read_rows elc ElOk elc_length Tryz.underlying22 (show Tryz.prog.cellsOf 24 = 2 by kernel_rfl) (by decide) (fun _ cs x hx => read_el hx) (v := .slice a k c) h
  exact ⟨n, ys, h1, h2⟩
theorem read_el1 (hv : ∃ cs, v = .agg cs ∧ cs.size = Tryz.prog.cellsOf 24) (h : DataW.Trod enc Tryz.prog W 0 spare held 24 v d p) : ∃ e : El, v = .agg (elc e).toArray ∧ ElOk e := by
  obtain ⟨cs, rfl, _⟩ := hv
  obtain ⟨fuel, h⟩ := h
  obtain ⟨e, h1, h2⟩ := read_el h
  have : cs.toList = elc e := h1
  exact ⟨e, by rw [← Array.toArray_toList (xs := cs), this], h2⟩
end
end Go.Proofs.YtgcgjpfjjgalmaaGreat
