/- Elements: which is the least, part 1. -/
import Derived.Test.YtbfjkclijjhlhaaDoorEaA
namespace Go.Proofs.YtbfjkclijjhlhaaDoor
open Go Go.Eng
theorem z_less {w : World} {M : Mem} {a b : El} (hs : Sat M w) :
    Does Tryd.prog 14 #[.agg (elc a).toArray, .agg (elc b).toArray] w (fun v w' => v = .bool (ltE a b) ∧ Step Nope M w M w') := by
  have hT := Step.refl Nope hs
  refine fn_enter Tryd.func14 rfl (rs := [.tmp 4]) rfl rfl rfl rfl ?_
  refine cw_rs fun K1 hK1 => ?_
  -- region 0
  have hqa1 := hT.size
  refine as_h rfl (h_boxO hs rfl rfl fun b1 w1 hs1 ho1 e1 => ?_)
  replace hT := hT.then hs1
  have hl1 := ho1.1.lt
  have hqa2 := hT.size
  refine as_h rfl (h_boxO hs1.sat rfl rfl fun b2 w2 hs2 ho2 e2 => ?_)
  replace ho1 := ho1.then hs2
  replace hT := hT.then hs2
  have hl2 := ho2.1.lt
  refine as_q rfl rfl (q_assign rfl) ?_
  refine as_nil (hK1 _ _ ?_)
  clear hK1 K1
  refine cw_rs fun K2 hK2 => ?_
  -- region 1
  refine as_q rfl rfl (q_loadc (n := 2) (by kernel_rfl) rfl (by first | exact Blk.cells ho1.1 rfl | exact Blk.cells ho2.1 rfl | assumption)) ?_
  refine as_q rfl rfl (q_loadc (n := 2) (by kernel_rfl) rfl (by first | exact Blk.cells ho1.1 rfl | exact Blk.cells ho2.1 rfl | assumption)) ?_
  refine as_h rfl (h_call (by kernel_rfl) rfl ?_)
  refine (srt_compare (a := a) (b := b) hs2.sat).mono ?_
  rintro _ w3 ⟨rfl, hs3⟩
  replace ho1 := ho1.then hs3
  replace ho2 := ho2.then hs3
  replace hT := hT.then hs3
  refine as_q rfl rfl (q_lt rfl rfl) ?_
  refine as_q rfl rfl (q_assign rfl) ?_
  refine as_nil (hK2 _ _ ?_)
  clear hK2 K2
  refine cw_ret ?_
  exact ⟨_, (res_tmp rfl res_nil), rfl, hT⟩

theorem refcmp (a b : El) : cmpE a b = if ltE a b = true then -1 else if ltE b a = true then 1 else 0 := by
  simp only [ltE_iff]
  unfold cmpE cmp1
  split <;> (repeat' split) <;> omega

theorem ref_compare {w : World} {M : Mem} {a b : El} (hs : Sat M w) :
    Does Tryd.prog 17 #[.agg (elc a).toArray, .agg (elc b).toArray] w (fun v w' => v = .int .i64 (cmpE a b) ∧ Step Nope M w M w') := by
  have hT := Step.refl Nope hs
  refine fn_enter Tryd.func17 rfl (rs := [.tmp 4]) rfl rfl rfl rfl ?_
  refine cw_rs fun K1 hK1 => ?_
  -- region 0
  have hqa1 := hT.size
  refine as_h rfl (h_boxO hs rfl rfl fun b1 w1 hs1 ho1 e1 => ?_)
  replace hT := hT.then hs1
  have hl1 := ho1.1.lt
  have hqa2 := hT.size
  refine as_h rfl (h_boxO hs1.sat rfl rfl fun b2 w2 hs2 ho2 e2 => ?_)
  replace ho1 := ho1.then hs2
  replace hT := hT.then hs2
  have hl2 := ho2.1.lt
  refine as_q rfl rfl (q_assign rfl) ?_
  refine as_nil (hK1 _ _ ?_)
  clear hK1 K1
  refine cw_rs fun K2 hK2 => ?_
  -- region 1
  refine as_q rfl rfl (q_loadc (n := 2) (by kernel_rfl) rfl (by first | exact Blk.cells ho1.1 rfl | exact Blk.cells ho2.1 rfl | assumption)) ?_
  refine as_q rfl rfl (q_loadc (n := 2) (by kernel_rfl) rfl (by first | exact Blk.cells ho1.1 rfl | exact Blk.cells ho2.1 rfl | assumption)) ?_
  refine as_h rfl (h_call (by kernel_rfl) rfl ?_)
  refine (ref_less (a := a) (b := b) hs2.sat).mono ?_
  rintro _ w3 ⟨rfl, hs3⟩
  replace ho1 := ho1.then hs3
  replace ho2 := ho2.then hs3
  replace hT := hT.then hs3
  refine as_q rfl rfl (q_assign rfl) ?_
  refine as_nil (hK2 _ _ ?_)
  clear hK2 K2
  refine cw_rs fun K3 hK3 => ?_
  -- region 2
  refine as_q rfl rfl (q_loadc (n := 2) (by kernel_rfl) rfl (by first | exact Blk.cells ho1.1 rfl | exact Blk.cells ho2.1 rfl | assumption)) ?_
  refine as_q rfl rfl (q_loadc (n := 2) (by kernel_rfl) rfl (by first | exact Blk.cells ho1.1 rfl | exact Blk.cells ho2.1 rfl | assumption)) ?_
  refine as_h rfl (h_call (by kernel_rfl) rfl ?_)
  refine (ref_less (a := b) (b := a) hs3.sat).mono ?_
  rintro _ w4 ⟨rfl, hs4⟩
  replace ho1 := ho1.then hs4
  replace ho2 := ho2.then hs4
  replace hT := hT.then hs4
  refine as_q rfl rfl (q_assign rfl) ?_
  refine as_nil (hK3 _ _ ?_)
  clear hK3 K3
  refine cw_seq fun K4 hK4 => ?_
  refine cw_rs fun K5 hK5 => ?_
  -- region 3
  refine as_q rfl rfl (q_move rfl) ?_
  refine as_nil (hK5 _ _ ?_)
  clear hK5 K5
  refine cw_cond rfl (fun hc0 => ?_) (fun hc0 => ?_)
  · skip
    refine cw_rs fun K6 hK6 => ?_
    -- region 4
    refine as_q rfl rfl (q_assign rfl) ?_
    refine as_nil (hK6 _ _ ?_)
    clear hK6 K6
    refine cw_ret ?_
    exact ⟨_, (res_tmp rfl res_nil), by rw [refcmp, if_pos hc0]; rfl, hT⟩
  · skip
    refine cw_skip ?_
    refine hK4 _ _ ?_
    clear hK4 K4
    refine cw_seq fun K7 hK7 => ?_
    refine cw_rs fun K8 hK8 => ?_
    -- region 5
    refine as_q rfl rfl (q_move rfl) ?_
    refine as_nil (hK8 _ _ ?_)
    clear hK8 K8
    refine cw_cond rfl (fun hc1 => ?_) (fun hc1 => ?_)
    · skip
      refine cw_rs fun K9 hK9 => ?_
      -- region 6
      refine as_q rfl rfl (q_assign rfl) ?_
      refine as_nil (hK9 _ _ ?_)
      clear hK9 K9
      refine cw_ret ?_
      exact ⟨_, (res_tmp rfl res_nil), by rw [refcmp, if_neg (by rw [hc0]; simp), if_pos hc1]; rfl, hT⟩
    · skip
      refine cw_skip ?_
      refine hK7 _ _ ?_
      clear hK7 K7
      refine cw_rs fun K10 hK10 => ?_
      -- region 7
      refine as_q rfl rfl (q_assign rfl) ?_
      refine as_nil (hK10 _ _ ?_)
      clear hK10 K10
      refine cw_ret ?_
      exact ⟨_, (res_tmp rfl res_nil), by rw [refcmp, if_neg (by rw [hc0]; simp), if_neg (by rw [hc1]; simp)]; rfl, hT⟩

theorem z_minf {w : World} {M : Mem} {g o n sc : Nat} {xs : List El} (hs : Sat M w) (hr : Rds M w 2 (.slice (some ⟨g, o, none⟩) n sc) n (els xs)) (h1 : 1 ≤ n) (hn : n ≤ 1000000) :
    Does Tryd.prog 26 #[.slice (some ⟨g, o, none⟩) n sc, (.func (.func 16) #[] #[])] w (fun v w' => ∃ m, v = .agg (elc m).toArray ∧ m ∈ xs ∧ (∀ z ∈ xs, ltE z m = false) ∧ Step Nope M w M w') := by
  have hT := Step.refl Nope hs
  have hxl := hr.els_len hs
  obtain ⟨x0, hx0⟩ : ∃ y, xs[0]? = some y := ⟨xs[0], by simp⟩
  refine fn_enter Tryd.func26 rfl (rs := [.cell 4 23]) rfl rfl rfl rfl ?_
  refine cw_rs fun K1 hK1 => ?_
  -- region 0
  have hqaR := hT.size
  refine as_h rfl (h_allocO (z := (.agg #[(.int .i64 0), (.int .i64 0)])) hs (by kernel_rfl) rfl fun bR w1 hs1 hoR eR => ?_)
  replace hT := hT.then hs1
  have hz1 := hs1.size
  have hlR := hoR.1.lt
  refine as_nil (hK1 _ _ ?_)
  clear hK1 K1
  refine cw_seq fun K2 hK2 => ?_
  refine cw_rs fun K3 hK3 => ?_
  -- region 1
  refine as_q rfl rfl (q_move rfl) ?_
  refine as_q rfl rfl (q_len (by kernel_rfl) rfl _) ?_
  refine as_q rfl rfl (q_ltF rfl rfl (by omega)) ?_
  refine as_nil (hK3 _ _ ?_)
  clear hK3 K3
  refine cw_false rfl ?_
  refine cw_skip ?_
  refine hK2 _ _ ?_
  clear hK2 K2
  refine cw_rs fun K4 hK4 => ?_
  -- region 3
  refine as_q rfl rfl (q_move rfl) ?_
  refine as_q rfl rfl (q_indexAddr (e := 23) (size := 2) (by kernel_rfl) (by kernel_rfl) rfl rfl (by omega) (by omega)) ?_
  refine as_q rfl rfl (q_loadc (n := 2) (by kernel_rfl) rfl ((hr _ _ hT).el (j := 0) hx0)) ?_
  have hqaM := hT.size
  refine as_h rfl (h_allocO (z := (.agg #[(.int .i64 0), (.int .i64 0)])) hs1.sat (by kernel_rfl) rfl fun bM w2 hs2 hoM eM => ?_)
  replace hoR := hoR.then hs2
  replace hT := hT.then hs2
  have hz2 := hs2.size
  have hlM := hoM.1.lt
  refine as_h0 (h_store hs2.sat hoM rfl rfl rfl (by kernel_rfl) rfl rfl rfl fun w3 hs3 hn3 => ?_)
  replace hoR := hoR.step hs3 (by intro h; cases h; omega)
  clear hoM; have hoM := hn3; clear hn3
  replace hT := hT.own hs3 (by omega)
  have hz3 := hs3.size
  refine as_nil (hK4 _ _ ?_)
  clear hK4 K4
  refine cw_seq fun K5 hK5 => ?_
  refine cw_rs fun K6 hK6 => ?_
  -- region 4
  refine as_q rfl rfl (q_assign rfl) ?_
  refine as_nil (hK6 _ _ ?_)
  clear hK6 K6
  refine cw_block ?_
  refine cw_loop (fun mm l w1 => ∃ (i : Nat) (m : El), mm = n - i ∧ i ≤ n ∧ m ∈ xs ∧ (∀ j z, j < i → xs[j]? = some z → ltE z m = false) ∧ l = [(0, .slice (some ⟨g, o, none⟩) n sc), (1, (.func (.func 16) #[] #[])), (4, .pointer (some ⟨bR, 0, none⟩)), (5, .pointer (some ⟨bM, 0, none⟩)), (6, .int .i64 i)] ∧ Step Nope M w M w1 ∧ Own w1 M bR [.int .i64 0, .int .i64 0] 23 ∧ Own w1 M bM (elc m) 23) (n - 1) [(0, .slice (some ⟨g, o, none⟩) n sc), (1, (.func (.func 16) #[] #[])), (4, .pointer (some ⟨bR, 0, none⟩)), (5, .pointer (some ⟨bM, 0, none⟩)), (6, .int .i64 (1 : Nat))] (.cons rfl (.cons rfl (.cons rfl (.cons rfl (.cons rfl (.nil _)))))) ?_ ?_
  · skip
    exact ⟨1, x0, rfl, by omega, List.mem_of_getElem? hx0, fun j z hj hz => by
      obtain rfl : j = 0 := by omega
      rw [hx0] at hz
      cases hz
      exact swoE.irrefl _, rfl, hT, hoR, hoM⟩
  have hRw : w.heap.size ≤ bR := by omega
  have hMw : w.heap.size ≤ bM := by omega
  have hRM : bR ≠ bM := by omega
  clear hT hoR hoM
  rintro mm l w1 ⟨i, m, rfl, hi, hmem, hmin, rfl, hT, hoR, hoM⟩
  refine cw_seq fun K7 hK7 => ?_
  refine cw_rs fun K8 hK8 => ?_
  -- region 5
  refine as_q rfl rfl (q_move rfl) ?_
  refine as_q rfl rfl (q_move rfl) ?_
  refine as_q rfl rfl (q_len (by kernel_rfl) rfl _) ?_
  refine as_q rfl rfl (q_lt rfl rfl) ?_
  refine as_nil (hK8 _ _ ?_)
  clear hK8 K8
  refine cw_cond rfl (fun hc1 => ?_) (fun hc1 => ?_)
  · skip
    have hlt : i < n := by have := of_decide_eq_true hc1; omega
    obtain ⟨y, hy⟩ : ∃ y, xs[i]? = some y := ⟨xs[i], by simp⟩
    refine cw_skip ?_
    refine hK7 _ _ ?_
    clear hK7 K7
    refine cw_seq fun K9 hK9 => ?_
    refine cw_block ?_
    refine cw_rd (by kernel_rfl) (by kernel_rfl) (by kernel_rfl) rfl rfl fun K10 hK10 => ?_
    -- region 7
    have hs4 := Step.drew hT.sat
    have hz4 := hs4.size
    replace hoR := hoR.then hs4
    replace hoM := hoM.then hs4
    replace hT := hT.then hs4
    refine at_q (i := 0) (li := #[true, false, false, false, false, false, false, false]) rfl (by kernel_rfl) rfl (fun _ => (q_move rfl)) (by kernel_rfl) ?_
    refine at_q (i := 1) (li := #[true, true, false, false, false, false, false, false]) rfl (by kernel_rfl) rfl (fun _ => (q_move rfl)) (by kernel_rfl) ?_
    refine at_q (i := 2) (li := #[true, true, true, false, false, false, false, false]) rfl (by kernel_rfl) rfl (fun _ => (q_move rfl)) (by kernel_rfl) ?_
    refine at_q (i := 3) (li := #[true, true, true, true, false, false, false, false]) rfl (by kernel_rfl) rfl (fun _ => (q_indexAddr (e := 23) (size := 2) (by kernel_rfl) (by kernel_rfl) rfl rfl (by omega) (by omega))) (by kernel_rfl) ?_
    refine at_l (i := 4) (li := #[true, true, true, true, true, false, false, false]) (cellsAre _ _ 2 _) rfl (by kernel_rfl) rfl (fun _ h => q_loadc (n := 2) (by kernel_rfl) rfl h) ((hr _ _ hT).el (j := (i : Int).toNat) (by simpa using hy)) (by kernel_rfl) ?_
    refine at_l (i := 5) (li := #[true, true, true, true, true, true, false, false]) (cellsAre _ _ 2 _) rfl (by kernel_rfl) rfl (fun _ h => q_loadc (n := 2) (by kernel_rfl) rfl h) (by first | exact Blk.cells hoR.1 rfl | exact Blk.cells hoM.1 rfl | assumption) (by kernel_rfl) ?_
    refine at_h (i := 6) (li := #[true, true, true, true, true, true, true, false]) rfl (by kernel_rfl) rfl (keep_sift (bs := [true, true]) (by kernel_rfl)) (by kernel_rfl) (h_callv (f := 16) (first := []) (cap := []) (by kernel_rfl) rfl rfl rfl ?_)
    refine (srt_compare (a := y) (b := m) hs4.sat).mono ?_
    rintro _ w5 ⟨rfl, hs5⟩
    replace hoR := hoR.then hs5
    replace hoM := hoM.then hs5
    replace hT := hT.then hs5
    have hz5 := hs5.size
    refine ⟨(by repeat' first | exact trivial | exact Blk.cell hoR.1 rfl | exact Blk.cells hoR.1 rfl | exact Blk.cell hoM.1 rfl | exact Blk.cells hoM.1 rfl | exact ((hr _ _ hT).el (j := (i : Int).toNat) (by simpa using hy)) | assumption | refine all_keep ?_ | refine And.intro ?_ ?_), ?_⟩
    refine at_q (i := 7) (li := #[true, true, true, true, true, true, true, true]) rfl (by kernel_rfl) rfl (fun _ => (q_lt rfl rfl)) (by kernel_rfl) ?_
    refine at_done (by kernel_rfl) (hK10 _ _ ?_)
    clear hK10 K10
    refine cw_cond rfl (fun hc2 => ?_) (fun hc2 => ?_)
    · skip
      have hl : ltE y m = true := hc2
      skip
      · skip
        refine cw_region fun K11 hK11 => ?_
        -- region 8
        refine as_q rfl rfl (q_move rfl) ?_
        refine as_q rfl rfl (q_move rfl) ?_
        refine as_q rfl rfl (q_indexAddr (e := 23) (size := 2) (by kernel_rfl) (by kernel_rfl) rfl rfl (by omega) (by omega)) ?_
        refine as_q rfl rfl (q_loadc (n := 2) (by kernel_rfl) rfl ((hr _ _ hT).el (j := (i : Int).toNat) (by simpa using hy))) ?_
        refine as_h0 (h_store hs5.sat hoM rfl rfl rfl (by kernel_rfl) rfl rfl rfl fun w6 hs6 hn6 => ?_)
        replace hoR := hoR.step hs6 (fun h => hRM h)
        clear hoM; have hoM := hn6; clear hn6
        replace hT := hT.own hs6 hMw
        have hz6 := hs6.size
        refine as_nil (hK11 _ _ ?_)
        clear hK11 K11
        refine hK9 _ _ ?_
        clear hK9 K9
        refine cw_region fun K12 hK12 => ?_
        -- region 6
        refine as_q rfl rfl (q_move rfl) ?_
        refine as_q rfl rfl (q_addx rfl rfl (by omega) (by omega)) ?_
        refine as_q rfl rfl (q_assign rfl) ?_
        refine as_nil (hK12 _ _ ?_)
        clear hK12 K12
        refine ⟨_, _, ?_, (.cons rfl (.cons rfl (.cons rfl (.cons rfl (.cons rfl (.nil _)))))), i + 1, y, rfl, by omega, ?_, fun j z hj hz => ?_, rfl, hT, hoR, hoM⟩
        · omega
        · exact List.mem_of_getElem? hy
        · rcases Nat.lt_or_ge j i with h | h
          · have h1 := hmin j z h hz
            rw [ltE_iff] at hl
            rw [ltE_not] at h1 ⊢
            omega
          · obtain rfl : j = i := by omega
            rw [hy] at hz
            cases hz
            exact swoE.irrefl _
    · skip
      have hl : ltE y m = false := hc2
      skip
      · skip
        refine cw_skip ?_
        refine hK9 _ _ ?_
        clear hK9 K9
        refine cw_region fun K13 hK13 => ?_
        -- region 6
        refine as_q rfl rfl (q_move rfl) ?_
        refine as_q rfl rfl (q_addx rfl rfl (by omega) (by omega)) ?_
        refine as_q rfl rfl (q_assign rfl) ?_
        refine as_nil (hK13 _ _ ?_)
        clear hK13 K13
        refine ⟨_, _, ?_, (.cons rfl (.cons rfl (.cons rfl (.cons rfl (.cons rfl (.nil _)))))), i + 1, m, rfl, by omega, ?_, fun j z hj hz => ?_, rfl, hT, hoR, hoM⟩
        · omega
        · exact hmem
        · rcases Nat.lt_or_ge j i with h | h
          · exact hmin j z h hz
          · obtain rfl : j = i := by omega
            rw [hy] at hz
            cases hz
            exact hl
  · skip
    have hge : n ≤ i := by have := of_decide_eq_false hc1; omega
    refine cw_exit ?_
    refine hK5 _ _ ?_
    clear hK7 K7
    clear hK5 K5
    refine cw_rs fun K14 hK14 => ?_
    -- region 9
    refine as_q rfl rfl (q_loadc (n := 2) (by kernel_rfl) rfl (by first | exact Blk.cells hoR.1 rfl | exact Blk.cells hoM.1 rfl | assumption)) ?_
    refine as_h0 (h_store hT.sat hoR rfl rfl rfl (by kernel_rfl) rfl rfl rfl fun w7 hs7 hn7 => ?_)
    replace hoM := hoM.step hs7 (by intro h; cases h; omega)
    clear hoR; have hoR := hn7; clear hn7
    replace hT := hT.own hs7 hRw
    have hz7 := hs7.size
    refine as_nil (hK14 _ _ ?_)
    clear hK14 K14
    refine cw_ret ?_
    exact ⟨_, (res_cell rfl (loadVar_n (n := 2) (by kernel_rfl) (by first | exact Blk.cells hoR.1 rfl | exact Blk.cells hoM.1 rfl | assumption)) res_nil), m, rfl, hmem, fun z hz => by
      obtain ⟨j, hj⟩ := List.getElem?_of_mem hz
      exact hmin j z (by have := (List.getElem?_eq_some_iff.1 hj).1; omega) hj, hT⟩

theorem z_least0 {w : World} {M : Mem} {a : Option Addr} {sc : Nat} (hs : Sat M w) :
    Does Tryd.prog 12 #[.slice a 0 sc] w (fun v w' => v = .tuple #[.agg (elc (0, 0)).toArray, .bool false] ∧ Step Nope M w M w') := by
  have hT := Step.refl Nope hs
  refine fn_enter Tryd.func12 rfl (rs := [.cell 2 23, .tmp 3]) rfl rfl rfl rfl ?_
  refine cw_rs fun K1 hK1 => ?_
  -- region 0
  have hqaR := hT.size
  refine as_h rfl (h_allocO (z := (.agg #[(.int .i64 0), (.int .i64 0)])) hs (by kernel_rfl) rfl fun bR w1 hs1 hoR eR => ?_)
  replace hT := hT.then hs1
  have hz1 := hs1.size
  have hlR := hoR.1.lt
  refine as_q rfl rfl (q_assign rfl) ?_
  refine as_nil (hK1 _ _ ?_)
  clear hK1 K1
  refine cw_seq fun K2 hK2 => ?_
  refine cw_rs fun K3 hK3 => ?_
  -- region 1
  refine as_q rfl rfl (q_move rfl) ?_
  refine as_q rfl rfl (q_len (by kernel_rfl) rfl _) ?_
  refine as_q rfl rfl (q_eqT rfl rfl (by omega)) ?_
  refine as_nil (hK3 _ _ ?_)
  clear hK3 K3
  refine cw_true rfl ?_
  refine cw_rs fun K4 hK4 => ?_
  -- region 2
  refine as_q rfl rfl (q_build (zs := [(.int .i64 0), (.int .i64 0)]) (places := [(0, 1), (1, 1)]) (cs := [_, _]) (by kernel_rfl) (by kernel_rfl) rfl rfl) ?_
  refine as_h0 (h_store hs1.sat hoR rfl rfl rfl (by kernel_rfl) rfl rfl rfl fun w2 hs2 hn2 => ?_)
  clear hoR; have hoR := hn2; clear hn2
  replace hT := hT.own hs2 (by omega)
  have hz2 := hs2.size
  refine as_q rfl rfl (q_assign rfl) ?_
  refine as_nil (hK4 _ _ ?_)
  clear hK4 K4
  refine cw_ret ?_
  exact ⟨_, (res_cell rfl (loadVar_n (n := 2) (by kernel_rfl) (by first | exact Blk.cells hoR.1 rfl | assumption)) (res_tmp rfl res_nil)), rfl, hT⟩

theorem z_least1 {w : World} {M : Mem} {g o n sc : Nat} {xs : List El} (hs : Sat M w) (hr : Rds M w 2 (.slice (some ⟨g, o, none⟩) n sc) n (els xs)) (h1 : 1 ≤ n) (hn : n ≤ 1000000) :
    Does Tryd.prog 12 #[.slice (some ⟨g, o, none⟩) n sc] w (fun v w' => ∃ m, v = .tuple #[.agg (elc m).toArray, .bool true] ∧ m ∈ xs ∧ (∀ z ∈ xs, ltE z m = false) ∧ Step Nope M w M w') := by
  have hT := Step.refl Nope hs
  refine fn_enter Tryd.func12 rfl (rs := [.cell 2 23, .tmp 3]) rfl rfl rfl rfl ?_
  refine cw_rs fun K1 hK1 => ?_
  -- region 0
  have hqaR := hT.size
  refine as_h rfl (h_allocO (z := (.agg #[(.int .i64 0), (.int .i64 0)])) hs (by kernel_rfl) rfl fun bR w1 hs1 hoR eR => ?_)
  replace hT := hT.then hs1
  have hz1 := hs1.size
  have hlR := hoR.1.lt
  refine as_q rfl rfl (q_assign rfl) ?_
  refine as_nil (hK1 _ _ ?_)
  clear hK1 K1
  refine cw_seq fun K2 hK2 => ?_
  refine cw_rs fun K3 hK3 => ?_
  -- region 1
  refine as_q rfl rfl (q_move rfl) ?_
  refine as_q rfl rfl (q_len (by kernel_rfl) rfl _) ?_
  refine as_q rfl rfl (q_eqF rfl rfl (by omega)) ?_
  refine as_nil (hK3 _ _ ?_)
  clear hK3 K3
  refine cw_false rfl ?_
  refine cw_skip ?_
  refine hK2 _ _ ?_
  clear hK2 K2
  refine cw_rs fun K4 hK4 => ?_
  -- region 3
  refine as_q rfl rfl (q_move rfl) ?_
  refine as_h rfl (h_call (by kernel_rfl) rfl ?_)
  refine (z_minf hs1.sat (fun _ _ k => hr _ _ (hT.then k)) h1 hn).mono ?_
  rintro _ w2 ⟨m, rfl, hmem, hmin, hs2⟩
  replace hoR := hoR.then hs2
  replace hT := hT.then hs2
  have hz2 := hs2.size
  refine as_h0 (h_store hs2.sat hoR rfl rfl rfl (by kernel_rfl) rfl rfl rfl fun w3 hs3 hn3 => ?_)
  clear hoR; have hoR := hn3; clear hn3
  replace hT := hT.own hs3 (by omega)
  have hz3 := hs3.size
  refine as_q rfl rfl (q_assign rfl) ?_
  refine as_nil (hK4 _ _ ?_)
  clear hK4 K4
  refine cw_ret ?_
  exact ⟨_, (res_cell rfl (loadVar_n (n := 2) (by kernel_rfl) (by first | exact Blk.cells hoR.1 rfl | assumption)) (res_tmp rfl res_nil)), m, rfl, hmem, hmin, hT⟩

theorem z_least {w : World} {M : Mem} {u : Value} {n : Nat} {xs : List El} (hs : Sat M w) (hr : Rds M w 2 u n (els xs)) (hn : n ≤ 1000000) :
    Does Tryd.prog 12 #[u] w (fun v w' => ∃ m b, v = .tuple #[.agg (elc m).toArray, .bool b] ∧ ((xs = [] ∧ m = (0, 0) ∧ b = false) ∨ (m ∈ xs ∧ (∀ z ∈ xs, ltE z m = false) ∧ b = true)) ∧ Step Nope M w M w') := by
  obtain ⟨a, c, rfl, hc, _⟩ := hr.slice hs
  rcases Nat.eq_zero_or_pos n with h0 | h0
  · subst h0
    obtain rfl : xs = [] := List.eq_nil_of_length_eq_zero (hr.els_len hs)
    exact (z_least0 hs).mono fun v w' ⟨h1, h2⟩ => ⟨_, _, h1, .inl ⟨rfl, rfl, rfl⟩, h2⟩
  · obtain ⟨g, o, rfl⟩ := (hr.now hs).there h0
    exact (z_least1 hs hr h0 hn).mono fun v w' ⟨m, h1, h2, h3, h4⟩ => ⟨m, true, h1, .inr ⟨h2, h3, rfl⟩, h4⟩

end Go.Proofs.YtbfjkclijjhlhaaDoor
