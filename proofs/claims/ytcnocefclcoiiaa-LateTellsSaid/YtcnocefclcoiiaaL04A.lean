/- The laws of a row that is put in order when it is asked for, part 1. -/
import Derived.Test.YtcnocefclcoiiaaLateB
namespace Go.Proofs.Ytcnocefclcoiiaa
open Go Go.Eng
theorem late_done0 {w : World} {M : Mem} {q n : Nat} {sv : Value} {xs : List El} (hs : Sat M w) (hl : LateOf w M q sv n xs false) : Does Try.prog 40 #[.pointer (some ⟨q, 0, none⟩)] w (fun v w' => v = .int .i64 0 ∧ Step Nope M w M w') := late_done hs hl

theorem late_done1 {w : World} {M : Mem} {q n : Nat} {sv : Value} {xs : List El} (hs : Sat M w) (hl : LateOf w M q sv n xs true) : Does Try.prog 40 #[.pointer (some ⟨q, 0, none⟩)] w (fun v w' => v = .int .i64 1 ∧ Step Nope M w M w') := late_done hs hl

theorem same_yes {w : World} {M : Mem} {va vb : Value} {n m : Nat} {xs ys : List El} (hs : Sat M w) (hn : n ≤ 1000000) (hr : Rds M w 2 va n (els xs)) (hr2 : Rds M w 2 vb m (els ys)) (he : xs = ys) :
    Does Try.prog 45 #[va, vb] w (fun v w' => v = .bool true ∧ Step Nope M w M w') :=
  (ref_same hs hn hr hr2).mono fun _ _ h => ⟨by rw [h.1, decide_eq_true he], h.2⟩

theorem _root_.Go.Eng.RdM.front {M : Mem} {n c : Nat} {a : Option Addr} {xs : List El} (h : RdM M 2 (.slice a n c) n (els xs)) {j : Int} (h0 : 0 ≤ j) (hj : j ≤ n) :
    RdM M 2 (.slice (if c = (0 : Int).toNat then a else a.map (·.add ((0 : Int).toNat * 2))) (j.toNat - (0 : Int).toNat) (c - (0 : Int).toNat)) j.toNat (els (xs.take j.toNat)) :=
  (h.sub 0 j (by omega) h0 hj).cast rfl (by simp) (by simp [els_take])

theorem ref_front {w : World} {M : Mem} {u : Value} {n : Nat} {xs : List El} {k : Int} (hs : Sat M w) (hr : RdM M 2 u n (els xs)) (hn : n ≤ 1000000) :
    Does Try.prog 44 #[u, .int .i64 k] w (fun v w' => ∃ M', Step Nope M w M' w' ∧ RdM M' 2 v (min (max k 0) (n : Int)).toNat (els ((srtE xs).take (min (max k 0) (n : Int)).toNat))) := by
  have hT := Step.refl Nope hs
  refine fn_enter Try.func44 rfl (rs := [.tmp 4]) rfl rfl rfl rfl ?_
  refine cw_rs fun K1 hK1 => ?_
  -- region 0
  refine as_q rfl rfl (q_assign rfl) ?_
  refine as_nil (hK1 _ _ ?_)
  clear hK1 K1
  refine cw_rs fun K2 hK2 => ?_
  -- region 1
  refine as_q rfl rfl (q_move rfl) ?_
  refine as_h rfl (h_call (by kernel_rfl) rfl ?_)
  refine (ref_sort hs hr hn).mono ?_
  rintro rv w1 ⟨M2, hs1, hrv⟩
  replace hT := hT.then hs1
  obtain ⟨ra, rc, rfl, hrc, _⟩ := hrv.slice
  refine as_q rfl rfl (q_assign rfl) ?_
  refine as_nil (hK2 _ _ ?_)
  clear hK2 K2
  refine cw_seq fun K3 hK3 => ?_
  refine cw_rs fun K4 hK4 => ?_
  -- region 2
  refine as_q rfl rfl (q_move rfl) ?_
  refine as_q rfl rfl (q_lt rfl rfl) ?_
  refine as_nil (hK4 _ _ ?_)
  clear hK4 K4
  refine cw_cond rfl (fun hc0 => ?_) (fun hc0 => ?_)
  · skip
    have hk0 : k < 0 := of_decide_eq_true hc0
    refine cw_region fun K5 hK5 => ?_
    -- region 3
    refine as_q rfl rfl (q_assign rfl) ?_
    refine as_nil (hK5 _ _ ?_)
    clear hK5 K5
    refine hK3 _ _ ?_
    clear hK3 K3
    refine cw_rs fun K6 hK6 => ?_
    -- region 4
    refine as_q rfl rfl (q_move rfl) ?_
    refine as_q rfl rfl (q_move rfl) ?_
    refine as_q rfl rfl (q_move rfl) ?_
    refine as_q rfl rfl (q_len (by kernel_rfl) rfl _) ?_
    refine as_q rfl rfl (q_congr (q_min2 rfl rfl) (v' := .int .i64 (min (max k 0) (n : Int))) (congrArg (Value.int .i64) (by repeat' split <;> omega))) ?_
    refine as_q rfl rfl (q_slice (e := 76) (size := 2) (k := .i64) (by kernel_rfl) (by kernel_rfl) rfl rfl rfl (by omega) (by omega) (by omega)) ?_
    refine as_q rfl rfl (q_assign rfl) ?_
    refine as_nil (hK6 _ _ ?_)
    clear hK6 K6
    refine cw_ret ?_
    have hfr := hrv.front (j := (min (max k 0) (n : Int))) (by omega) (by omega)
    exact ⟨_, (res_tmp rfl res_nil), _, hT, hfr⟩
  · skip
    have hk0 : ¬ k < 0 := of_decide_eq_false hc0
    refine cw_skip ?_
    refine hK3 _ _ ?_
    clear hK3 K3
    refine cw_rs fun K7 hK7 => ?_
    -- region 4
    refine as_q rfl rfl (q_move rfl) ?_
    refine as_q rfl rfl (q_move rfl) ?_
    refine as_q rfl rfl (q_move rfl) ?_
    refine as_q rfl rfl (q_len (by kernel_rfl) rfl _) ?_
    refine as_q rfl rfl (q_congr (q_min2 rfl rfl) (v' := .int .i64 (min (max k 0) (n : Int))) (congrArg (Value.int .i64) (by repeat' split <;> omega))) ?_
    refine as_q rfl rfl (q_slice (e := 76) (size := 2) (k := .i64) (by kernel_rfl) (by kernel_rfl) rfl rfl rfl (by omega) (by omega) (by omega)) ?_
    refine as_q rfl rfl (q_assign rfl) ?_
    refine as_nil (hK7 _ _ ?_)
    clear hK7 K7
    refine cw_ret ?_
    have hfr := hrv.front (j := (min (max k 0) (n : Int))) (by omega) (by omega)
    exact ⟨_, (res_tmp rfl res_nil), _, hT, hfr⟩

theorem awake04 {w : World} {M : Mem} (hs : Sat M w) :
    Does Try.prog 38 #[] w (fun v w' => v = .bool true ∧ Step Nope M w M w') := by
  have hT := Step.refl Nope hs
  have hsrt : srtE [((2 : Int), (0 : Int)), (1, 0)] = [((1 : Int), (0 : Int)), (2, 0)] := by decide
  refine fn_enter Try.func38 rfl (rs := [.tmp 0]) rfl rfl rfl rfl ?_
  refine cw_rs fun K1 hK1 => ?_
  -- region 0
  refine as_q rfl rfl (q_assign rfl) ?_
  refine as_nil (hK1 _ _ ?_)
  clear hK1 K1
  refine cw_rs fun K2 hK2 => ?_
  -- region 1
  refine as_q rfl rfl (q_build (zs := [(.int .i64 0), (.int .i64 0)]) (places := [(0, 1), (1, 1)]) (cs := [_, _]) (by kernel_rfl) (by kernel_rfl) rfl rfl) ?_
  refine as_q rfl rfl (q_build (zs := [(.int .i64 0), (.int .i64 0)]) (places := [(0, 1), (1, 1)]) (cs := [_, _]) (by kernel_rfl) (by kernel_rfl) rfl rfl) ?_
  refine as_h rfl (h_buildM (e := 76) (size := 2) (zs := [(.int .i64 0), (.int .i64 0), (.int .i64 0), (.int .i64 0)]) (cs := [_, _, _, _]) (by kernel_rfl) (by kernel_rfl) (by kernel_rfl) rfl hs rfl rfl rfl fun bl Ml w1 hs1 hrl el => ?_)
  replace hT := hT.then hs1
  have hz1 := hs1.size
  refine as_h rfl (h_call (by kernel_rfl) rfl ?_)
  refine (late_of (xs := [((2 : Int), (0 : Int)), (1, 0)]) hs1.sat (hrl.rds _) (by omega)).mono ?_
  rintro _ w2 ⟨q, sv, rfl, hs2, hl, hq, hf⟩
  replace hrl := hrl.mono hs2.le
  replace hT := hT.then hs2
  have hz2 := hs2.size
  have hql := hl.1.1.lt
  have hqw : w.heap.size ≤ q := Nat.le_trans (by omega) hq
  refine as_q rfl rfl (q_assign rfl) ?_
  refine as_nil (hK2 _ _ ?_)
  clear hK2 K2
  refine cw_rs fun K3 hK3 => ?_
  -- region 2
  refine as_q rfl rfl (q_move rfl) ?_
  refine as_h rfl (h_call (by kernel_rfl) rfl ?_)
  refine (late_done0 hs2.sat hl).mono ?_
  rintro _ w3 ⟨rfl, hs3⟩
  replace hrl := hrl.mono hs3.le
  replace hl := hl.then hs3
  replace hT := hT.then hs3
  have hz3 := hs3.size
  refine as_q rfl rfl (q_assign rfl) ?_
  refine as_nil (hK3 _ _ ?_)
  clear hK3 K3
  refine cw_rs fun K4 hK4 => ?_
  -- region 3
  refine as_q rfl rfl (q_move rfl) ?_
  refine as_h rfl (h_call (by kernel_rfl) rfl ?_)
  refine (late_all hs3.sat (by omega) hl).mono ?_
  rintro av1 w4 ⟨sv4, hs4, hl4, hav1, haf1, _, _⟩
  replace hT := hT.own hs4 hqw
  clear hl; have hl := hl4; clear hl4
  rw [hsrt] at hav1
  obtain ⟨g1, c1, rfl⟩ : ∃ g c, av1 = .slice (some ⟨g, 0, none⟩) 2 c := by
    rcases hav1.cases with ⟨_, h, _⟩ | ⟨g, c, h, _⟩
    · cases h
    · exact ⟨g, c, h⟩
  have hz4 := hs4.size
  refine as_q rfl rfl (q_assign rfl) ?_
  refine as_nil (hK4 _ _ ?_)
  clear hK4 K4
  refine cw_rs fun K5 hK5 => ?_
  -- region 4
  refine as_q rfl rfl (q_move rfl) ?_
  refine as_h rfl (h_call (by kernel_rfl) rfl ?_)
  refine (late_all hs4.sat (by omega) hl).mono ?_
  rintro av2 w5 ⟨sv5, hs5, hl5, hav2, haf2, _, _⟩
  replace hT := hT.own hs5 hqw
  clear hl; have hl := hl5; clear hl5
  rw [hsrt] at hav2
  obtain ⟨g2, c2, rfl⟩ : ∃ g c, av2 = .slice (some ⟨g, 0, none⟩) 2 c := by
    rcases hav2.cases with ⟨_, h, _⟩ | ⟨g, c, h, _⟩
    · cases h
    · exact ⟨g, c, h⟩
  replace hav1 := hav1.step hs5 (fun g hg h => by have h : g = q := h; have := haf1 g hg; omega)
  have hz5 := hs5.size
  refine as_q rfl rfl (q_assign rfl) ?_
  refine as_nil (hK5 _ _ ?_)
  clear hK5 K5
  refine cw_rs fun K6 hK6 => ?_
  -- region 5
  refine as_q rfl rfl (q_move rfl) ?_
  first | refine as_q rfl rfl (q_eqT rfl rfl (by omega)) ?_ | refine as_q rfl rfl (q_eqF rfl rfl (by omega)) ?_ | refine as_q rfl rfl (q_eq rfl rfl) ?_
  refine as_q rfl rfl (q_move rfl) ?_
  first | refine as_gskip rfl rfl rfl rfl rfl ?_ | refine as_gskipU rfl rfl rfl rfl ?_ | refine as_gh rfl rfl rfl rfl (h_q rfl (q_move rfl) ?_)
  refine as_gh rfl rfl rfl rfl (h_call (by kernel_rfl) rfl ?_)
  refine (late_done1 hs5.sat hl).mono ?_
  rintro _ w6 ⟨rfl, hs6⟩
  replace hl := hl.then hs6
  replace hav1 := hav1.then hs6
  replace hav2 := hav2.then hs6
  replace hT := hT.then hs6
  have hz6 := hs6.size
  first | refine as_gskip rfl rfl rfl rfl rfl ?_ | refine as_gskipU rfl rfl rfl rfl ?_ | refine as_gh rfl rfl rfl rfl (h_q rfl (q_eqT rfl rfl (by omega)) ?_) | refine as_gh rfl rfl rfl rfl (h_q rfl (q_eqF rfl rfl (by omega)) ?_) | refine as_gh rfl rfl rfl rfl (h_q rfl (q_eq rfl rfl) ?_)
  first | refine as_q rfl rfl (q_pick_t rfl rfl) ?_ | refine as_q rfl rfl (q_pick_f rfl rfl) ?_ | refine as_q rfl rfl (q_pick rfl rfl rfl) ?_
  refine as_q rfl rfl (q_move rfl) ?_
  first | refine as_gskip rfl rfl rfl rfl rfl ?_ | refine as_gskipU rfl rfl rfl rfl ?_ | refine as_gh rfl rfl rfl rfl (h_q rfl (q_move rfl) ?_)
  first | refine as_gskip rfl rfl rfl rfl rfl ?_ | refine as_gskipU rfl rfl rfl rfl ?_ | refine as_gh rfl rfl rfl rfl (h_q rfl (q_len (by kernel_rfl) rfl _) ?_)
  first | refine as_gskip rfl rfl rfl rfl rfl ?_ | refine as_gskipU rfl rfl rfl rfl ?_ | refine as_gh rfl rfl rfl rfl (h_q rfl (q_eqT rfl rfl (by omega)) ?_) | refine as_gh rfl rfl rfl rfl (h_q rfl (q_eqF rfl rfl (by omega)) ?_) | refine as_gh rfl rfl rfl rfl (h_q rfl (q_eq rfl rfl) ?_)
  first | refine as_q rfl rfl (q_pick_t rfl rfl) ?_ | refine as_q rfl rfl (q_pick_f rfl rfl) ?_ | refine as_q rfl rfl (q_pick rfl rfl rfl) ?_
  refine as_q rfl rfl (q_move rfl) ?_
  first | refine as_gskip rfl rfl rfl rfl rfl ?_ | refine as_gskipU rfl rfl rfl rfl ?_ | refine as_gh rfl rfl rfl rfl (h_q rfl (q_move rfl) ?_)
  first | refine as_gskip rfl rfl rfl rfl rfl ?_ | refine as_gskipU rfl rfl rfl rfl ?_ | refine as_gh rfl rfl rfl rfl (h_q rfl (q_indexAddr (e := 76) (size := 2) (by kernel_rfl) (by kernel_rfl) rfl rfl (by omega) (by omega)) ?_)
  first | refine as_gskip rfl rfl rfl rfl rfl ?_ | refine as_gskipU rfl rfl rfl rfl ?_ | refine as_gh rfl rfl rfl rfl (h_q rfl (q_fieldAddr (off := 0) (by kernel_rfl) rfl) ?_)
  first | refine as_gskip rfl rfl rfl rfl rfl ?_ | refine as_gskipU rfl rfl rfl rfl ?_ | refine as_gh rfl rfl rfl rfl (h_q rfl (q_load1 (by kernel_rfl) rfl (hav1.cell (j := 0) rfl)) ?_)
  first | refine as_gskip rfl rfl rfl rfl rfl ?_ | refine as_gskipU rfl rfl rfl rfl ?_ | refine as_gh rfl rfl rfl rfl (h_q rfl (q_eqT rfl rfl (by omega)) ?_) | refine as_gh rfl rfl rfl rfl (h_q rfl (q_eqF rfl rfl (by omega)) ?_) | refine as_gh rfl rfl rfl rfl (h_q rfl (q_eq rfl rfl) ?_)
  first | refine as_q rfl rfl (q_pick_t rfl rfl) ?_ | refine as_q rfl rfl (q_pick_f rfl rfl) ?_ | refine as_q rfl rfl (q_pick rfl rfl rfl) ?_
  refine as_q rfl rfl (q_move rfl) ?_
  first | refine as_gskip rfl rfl rfl rfl rfl ?_ | refine as_gskipU rfl rfl rfl rfl ?_ | refine as_gh rfl rfl rfl rfl (h_q rfl (q_move rfl) ?_)
  first | refine as_gskip rfl rfl rfl rfl rfl ?_ | refine as_gskipU rfl rfl rfl rfl ?_ | refine as_gh rfl rfl rfl rfl (h_q rfl (q_len (by kernel_rfl) rfl _) ?_)
  first | refine as_gskip rfl rfl rfl rfl rfl ?_ | refine as_gskipU rfl rfl rfl rfl ?_ | refine as_gh rfl rfl rfl rfl (h_q rfl (q_eqT rfl rfl (by omega)) ?_) | refine as_gh rfl rfl rfl rfl (h_q rfl (q_eqF rfl rfl (by omega)) ?_) | refine as_gh rfl rfl rfl rfl (h_q rfl (q_eq rfl rfl) ?_)
  first | refine as_q rfl rfl (q_pick_t rfl rfl) ?_ | refine as_q rfl rfl (q_pick_f rfl rfl) ?_ | refine as_q rfl rfl (q_pick rfl rfl rfl) ?_
  refine as_q rfl rfl (q_move rfl) ?_
  first | refine as_gskip rfl rfl rfl rfl rfl ?_ | refine as_gskipU rfl rfl rfl rfl ?_ | refine as_gh rfl rfl rfl rfl (h_q rfl (q_move rfl) ?_)
  refine as_gh rfl rfl rfl rfl (h_call (by kernel_rfl) rfl ?_)
  refine (late_front (k := 1) hs6.sat (by omega) hl).mono ?_
  rintro fv w7 ⟨sv7, hs7, hl7, hfv, _, _, _⟩
  replace hT := hT.own hs7 hqw
  obtain ⟨fa, fc, rfl, _⟩ := hfv.slice
  first | refine as_gskip rfl rfl rfl rfl rfl ?_ | refine as_gskipU rfl rfl rfl rfl ?_ | refine as_gh rfl rfl rfl rfl (h_q rfl (q_len (by kernel_rfl) rfl _) ?_)
  first | refine as_gskip rfl rfl rfl rfl rfl ?_ | refine as_gskipU rfl rfl rfl rfl ?_ | refine as_gh rfl rfl rfl rfl (h_q rfl (q_congr (q_eq rfl rfl) (v' := .bool true) rfl) ?_)
  first | refine as_q rfl rfl (q_pick_t rfl rfl) ?_ | refine as_q rfl rfl (q_pick_f rfl rfl) ?_ | refine as_q rfl rfl (q_pick rfl rfl rfl) ?_
  refine as_q rfl rfl (q_assign rfl) ?_
  refine as_nil (hK6 _ _ ?_)
  clear hK6 K6
  refine cw_ret ?_
  exact ⟨_, (res_tmp rfl res_nil), rfl, hT.forget⟩

end Go.Proofs.Ytcnocefclcoiiaa
