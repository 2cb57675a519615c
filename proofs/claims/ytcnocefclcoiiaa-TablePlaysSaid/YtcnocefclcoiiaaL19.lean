/- The laws of tables. -/
import Derived.Test.YtcnocefclcoiiaaTab
namespace Go.Proofs.Ytcnocefclcoiiaa
open Go Go.Eng

theorem get_take_map {α : Type} (f : α → Value) (ss : List α) {j k : Nat} (h1 : j < k) (h2 : j < ss.length) : (List.map f (ss.take k))[(j : Int).toNat]? = some (f ss[j]) := by
  rw [Int.toNat_natCast, List.getElem?_map, List.getElem?_take, if_pos h1, List.getElem?_eq_getElem h2]
  rfl

theorem awake19 {w0 : World} {M0 : Mem} (hs : Sat M0 w0) :
    Does Try.prog 12 #[] w0 (fun v w' => v = .bool true ∧ Step Nope M0 w0 M0 w') := by
  have hT := Step.refl Nope hs
  refine fn_enter Try.func12 rfl (rs := [.tmp 0]) rfl rfl rfl rfl ?_
  refine cw_rs fun K1 hK1 => ?_
  -- region 0
  refine as_q rfl rfl (q_assign rfl) ?_
  refine as_nil (hK1 _ _ ?_)
  clear hK1 K1
  refine cw_rs fun K2 hK2 => ?_
  -- region 1
  refine as_h rfl (h_call (by kernel_rfl) rfl ?_)
  refine (new_int (B := w0.heap.size) hs hT.size (by decide)).mono ?_
  rintro _ w1 ⟨b, rfl, hs1, ht⟩
  replace hT := hT.then hs1
  refine as_q rfl rfl (q_assign rfl) ?_
  refine as_nil (hK2 _ _ ?_)
  clear hK2 K2
  refine cw_rs fun K3 hK3 => ?_
  -- region 2
  refine as_q rfl rfl (q_move rfl) ?_
  refine as_h rfl (h_call (by kernel_rfl) rfl ?_)
  refine (add_int hs1.sat ht (by decide) (by decide) (by decide) (by decide) hT.size).mono ?_
  rintro _ w2 ⟨sv2, rfl, hs2, ht2, hfr2⟩
  replace hT := step_add hT hs2 ht.hb ht.hsv
  refine as_q rfl rfl (q_move rfl) ?_
  refine as_q rfl rfl (q_extract rfl rfl) ?_
  refine as_q rfl rfl (q_extract rfl rfl) ?_
  refine as_q rfl rfl (q_assign rfl) ?_
  refine as_q rfl rfl (q_assign rfl) ?_
  refine as_nil (hK3 _ _ ?_)
  clear hK3 K3
  refine cw_rs fun K4 hK4 => ?_
  -- region 3
  refine as_q rfl rfl (q_move rfl) ?_
  refine as_h rfl (h_call (by kernel_rfl) rfl ?_)
  refine (add_int_full hs2.sat ht2 (by decide) (by decide) (by decide) (by decide)).mono ?_
  rintro _ w3 ⟨rfl, hs3⟩
  replace ht2 := ht2.then hs3
  replace hT := hT.then hs3
  refine as_q rfl rfl (q_move rfl) ?_
  refine as_q rfl rfl (q_extract rfl rfl) ?_
  refine as_q rfl rfl (q_extract rfl rfl) ?_
  refine as_q rfl rfl (q_assign rfl) ?_
  refine as_q rfl rfl (q_assign rfl) ?_
  refine as_nil (hK4 _ _ ?_)
  clear hK4 K4
  refine cw_rs fun K5 hK5 => ?_
  -- region 4
  refine as_q rfl rfl (q_move rfl) ?_
  refine as_h rfl (h_call (by kernel_rfl) rfl ?_)
  refine (at_int (u := .int .i64 7) hs3.sat ht2 (by decide) (by decide) rfl).mono ?_
  rintro _ w4 ⟨rfl, hs4⟩
  replace ht2 := ht2.then hs4
  replace hT := hT.then hs4
  refine as_q rfl rfl (q_move rfl) ?_
  refine as_q rfl rfl (q_extract rfl rfl) ?_
  refine as_q rfl rfl (q_extract rfl rfl) ?_
  refine as_q rfl rfl (q_assign rfl) ?_
  refine as_q rfl rfl (q_assign rfl) ?_
  refine as_nil (hK5 _ _ ?_)
  clear hK5 K5
  refine cw_rs fun K6 hK6 => ?_
  -- region 5
  refine as_q rfl rfl (q_move rfl) ?_
  refine as_h rfl (h_call (by kernel_rfl) rfl ?_)
  refine (at_int_ge hs4.sat ht2 (by decide) (by decide)).mono ?_
  rintro _ w5 ⟨rfl, hs5⟩
  replace ht2 := ht2.then hs5
  replace hT := hT.then hs5
  refine as_q rfl rfl (q_move rfl) ?_
  refine as_q rfl rfl (q_extract rfl rfl) ?_
  refine as_q rfl rfl (q_extract rfl rfl) ?_
  refine as_q rfl rfl (q_assign rfl) ?_
  refine as_q rfl rfl (q_assign rfl) ?_
  refine as_nil (hK6 _ _ ?_)
  clear hK6 K6
  refine cw_rs fun K7 hK7 => ?_
  -- region 6
  refine as_q rfl rfl (q_move rfl) ?_
  first | refine as_q rfl rfl (q_eqT rfl rfl (by omega)) ?_ | refine as_q rfl rfl (q_eqF rfl rfl (by omega)) ?_ | refine as_q rfl rfl (q_eq rfl rfl) ?_
  refine as_q rfl rfl (q_move rfl) ?_
  refine as_gh rfl rfl rfl rfl (h_q rfl (q_move rfl) ?_)
  first | refine as_gh rfl rfl rfl rfl (h_q rfl (q_eqT rfl rfl (by omega)) ?_) | refine as_gh rfl rfl rfl rfl (h_q rfl (q_eqF rfl rfl (by omega)) ?_) | refine as_gh rfl rfl rfl rfl (h_q rfl (q_eq rfl rfl) ?_)
  first | refine as_q rfl rfl (q_pick_t rfl rfl) ?_ | refine as_q rfl rfl (q_pick_f rfl rfl) ?_ | refine as_q rfl rfl (q_pick rfl rfl rfl) ?_
  refine as_q rfl rfl (q_move rfl) ?_
  refine as_gh rfl rfl rfl rfl (h_q rfl (q_move rfl) ?_)
  first | refine as_gh rfl rfl rfl rfl (h_q rfl (q_eqT rfl rfl (by omega)) ?_) | refine as_gh rfl rfl rfl rfl (h_q rfl (q_eqF rfl rfl (by omega)) ?_) | refine as_gh rfl rfl rfl rfl (h_q rfl (q_eq rfl rfl) ?_)
  first | refine as_q rfl rfl (q_pick_t rfl rfl) ?_ | refine as_q rfl rfl (q_pick_f rfl rfl) ?_ | refine as_q rfl rfl (q_pick rfl rfl rfl) ?_
  refine as_q rfl rfl (q_move rfl) ?_
  refine as_gh rfl rfl rfl rfl (h_q rfl (q_move rfl) ?_)
  first | refine as_gh rfl rfl rfl rfl (h_q rfl (q_eqT rfl rfl (by omega)) ?_) | refine as_gh rfl rfl rfl rfl (h_q rfl (q_eqF rfl rfl (by omega)) ?_) | refine as_gh rfl rfl rfl rfl (h_q rfl (q_eq rfl rfl) ?_)
  first | refine as_q rfl rfl (q_pick_t rfl rfl) ?_ | refine as_q rfl rfl (q_pick_f rfl rfl) ?_ | refine as_q rfl rfl (q_pick rfl rfl rfl) ?_
  refine as_q rfl rfl (q_move rfl) ?_
  refine as_gh rfl rfl rfl rfl (h_q rfl (q_move rfl) ?_)
  first | refine as_gh rfl rfl rfl rfl (h_q rfl (q_eqT rfl rfl (by omega)) ?_) | refine as_gh rfl rfl rfl rfl (h_q rfl (q_eqF rfl rfl (by omega)) ?_) | refine as_gh rfl rfl rfl rfl (h_q rfl (q_eq rfl rfl) ?_)
  first | refine as_q rfl rfl (q_pick_t rfl rfl) ?_ | refine as_q rfl rfl (q_pick_f rfl rfl) ?_ | refine as_q rfl rfl (q_pick rfl rfl rfl) ?_
  refine as_q rfl rfl (q_move rfl) ?_
  refine as_gh rfl rfl rfl rfl (h_q rfl (q_move rfl) ?_)
  first | refine as_gh rfl rfl rfl rfl (h_q rfl (q_eqT rfl rfl (by omega)) ?_) | refine as_gh rfl rfl rfl rfl (h_q rfl (q_eqF rfl rfl (by omega)) ?_) | refine as_gh rfl rfl rfl rfl (h_q rfl (q_eq rfl rfl) ?_)
  first | refine as_q rfl rfl (q_pick_t rfl rfl) ?_ | refine as_q rfl rfl (q_pick_f rfl rfl) ?_ | refine as_q rfl rfl (q_pick rfl rfl rfl) ?_
  refine as_q rfl rfl (q_move rfl) ?_
  refine as_gh rfl rfl rfl rfl (h_q rfl (q_move rfl) ?_)
  refine as_gh rfl rfl rfl rfl (h_call (by kernel_rfl) rfl ?_)
  refine (len_int hs5.sat ht2).mono ?_
  rintro _ w6 ⟨rfl, hs6⟩
  replace ht2 := ht2.then hs6
  replace hT := hT.then hs6
  first | refine as_gh rfl rfl rfl rfl (h_q rfl (q_eqT rfl rfl (by omega)) ?_) | refine as_gh rfl rfl rfl rfl (h_q rfl (q_eqF rfl rfl (by omega)) ?_) | refine as_gh rfl rfl rfl rfl (h_q rfl (q_eq rfl rfl) ?_)
  first | refine as_q rfl rfl (q_pick_t rfl rfl) ?_ | refine as_q rfl rfl (q_pick_f rfl rfl) ?_ | refine as_q rfl rfl (q_pick rfl rfl rfl) ?_
  refine as_q rfl rfl (q_move rfl) ?_
  refine as_gh rfl rfl rfl rfl (h_q rfl (q_move rfl) ?_)
  refine as_gh rfl rfl rfl rfl (h_call (by kernel_rfl) rfl ?_)
  refine (room_int hs6.sat ht2 (by decide) (by decide) (by decide)).mono ?_
  rintro _ w7 ⟨rfl, hs7⟩
  replace ht2 := ht2.then hs7
  replace hT := hT.then hs7
  first | refine as_gh rfl rfl rfl rfl (h_q rfl (q_eqT rfl rfl (by omega)) ?_) | refine as_gh rfl rfl rfl rfl (h_q rfl (q_eqF rfl rfl (by omega)) ?_) | refine as_gh rfl rfl rfl rfl (h_q rfl (q_eq rfl rfl) ?_)
  first | refine as_q rfl rfl (q_pick_t rfl rfl) ?_ | refine as_q rfl rfl (q_pick_f rfl rfl) ?_ | refine as_q rfl rfl (q_pick rfl rfl rfl) ?_
  refine as_q rfl rfl (q_assign rfl) ?_
  refine as_nil (hK7 _ _ ?_)
  clear hK7 K7
  refine cw_ret ?_
  exact ⟨_, (res_tmp rfl res_nil), rfl, hT⟩

theorem tableStays_walk {w0 : World} {M0 : Mem} {room : Int} {sv : Value} {n : Nat} {ss : List ByteArray} (hs : Sat M0 w0) (h0 : 0 ≤ room) (h1 : room ≤ 255) (hr : RdM M0 1 sv n (ss.map .string)) :
    Does Try.prog 3 #[.int .u8 room, sv] w0 (fun v w' => v = .bool true ∧ Step Nope M0 w0 M0 w') := by
  have hT := Step.refl Nope hs
  have hlen : ss.length = n := by have := hr.1; simpa using this
  obtain ⟨a, c, rfl, hnc, _⟩ := hr.slice
  have hsome : 0 < n → ∃ g o, a = some ⟨g, o, none⟩ := hr.there
  refine fn_enter Try.func3 rfl (rs := [.tmp 4]) rfl rfl rfl rfl ?_
  refine cw_rs fun K1 hK1 => ?_
  -- region 0
  refine as_q rfl rfl (q_assign rfl) ?_
  refine as_nil (hK1 _ _ ?_)
  clear hK1 K1
  refine cw_rs fun K2 hK2 => ?_
  -- region 1
  refine as_h rfl (h_call (by kernel_rfl) rfl ?_)
  refine (awake19 hs).mono ?_
  rintro _ w1 ⟨rfl, hs1⟩
  replace hT := hT.then hs1
  refine as_q rfl rfl (q_assign rfl) ?_
  refine as_nil (hK2 _ _ ?_)
  clear hK2 K2
  refine cw_seq fun K3 hK3 => ?_
  refine cw_rs fun K4 hK4 => ?_
  -- region 2
  refine as_q rfl rfl (q_move rfl) ?_
  refine as_q rfl rfl (q_not rfl) ?_
  refine as_nil (hK4 _ _ ?_)
  clear hK4 K4
  refine cw_false rfl ?_
  refine cw_skip ?_
  refine hK3 _ _ ?_
  clear hK3 K3
  refine cw_seq fun K5 hK5 => ?_
  refine cw_rs fun K6 hK6 => ?_
  -- region 4
  refine as_q rfl rfl (q_move rfl) ?_
  refine as_q rfl rfl (q_len (by kernel_rfl) rfl _) ?_
  first | refine as_q rfl rfl (q_gtT rfl rfl (by omega)) ?_ | refine as_q rfl rfl (q_gtF rfl rfl (by omega)) ?_ | refine as_q rfl rfl (q_gt rfl rfl) ?_
  refine as_nil (hK6 _ _ ?_)
  clear hK6 K6
  refine cw_cond rfl (fun hc1 => ?_) (fun hc1 => ?_)
  · skip
    refine cw_rs fun K7 hK7 => ?_
    -- region 5
    refine as_q rfl rfl (q_assign rfl) ?_
    refine as_nil (hK7 _ _ ?_)
    clear hK7 K7
    refine cw_ret ?_
    exact ⟨_, (res_tmp rfl res_nil), rfl, hT⟩
  · skip
    have hn : n ≤ 60 := by have := of_decide_eq_false hc1; omega
    refine cw_skip ?_
    refine hK5 _ _ ?_
    clear hK5 K5
    refine cw_rs fun K8 hK8 => ?_
    -- region 6
    refine as_q rfl rfl (q_move rfl) ?_
    refine as_q rfl rfl (q_convx (by kernel_rfl) (by kernel_rfl) rfl (by first | exact wrap64_of (by omega) (by omega) | omega | (simp; omega))) ?_
    refine as_h rfl (h_call (by kernel_rfl) rfl ?_)
    refine (new_string (B := w0.heap.size) hs1.sat hT.size (by omega)).mono ?_
    rintro _ w2 ⟨b, rfl, hs2, ht⟩
    replace hT := hT.then hs2
    refine as_q rfl rfl (q_assign rfl) ?_
    refine as_nil (hK8 _ _ ?_)
    clear hK8 K8
    refine cw_rs fun K9 hK9 => ?_
    -- region 7
    refine as_q rfl rfl (q_assign rfl) ?_
    refine as_nil (hK9 _ _ ?_)
    clear hK9 K9
    refine cw_seq fun K10 hK10 => ?_
    refine cw_rs fun K11 hK11 => ?_
    -- region 8
    refine as_q rfl rfl (q_assign rfl) ?_
    refine as_nil (hK11 _ _ ?_)
    clear hK11 K11
    refine cw_block ?_
    refine cw_loop (fun m l w => ∃ (i k : Nat) (tv : Value), m = n - i ∧ i ≤ n ∧ ((i : Int) ≤ room ∧ k = i ∨ room < i ∧ (k : Int) = room) ∧ l = [(0, .int .u8 room), (1, .slice a n c), (6, .pointer (some ⟨b, 0, none⟩)), (7, .int .i64 k), (8, .int .i64 i)] ∧ Step Nope M0 w0 M0 w ∧ Tbl 86 9 1 w0.heap.size w M0 b tv k ((ss.take k).map .string) room) (n) [(0, .int .u8 room), (1, .slice a n c), (6, .pointer (some ⟨b, 0, none⟩)), (7, .int .i64 (0 : Nat)), (8, .int .i64 (0 : Nat))] (.cons rfl (.cons rfl (.cons rfl (.cons rfl (.cons rfl (.nil _)))))) ?_ ?_
    · skip
      exact ⟨0, 0, _, rfl, Nat.zero_le _, .inl ⟨by omega, rfl⟩, rfl, hT, ht⟩
    clear ht hT
    rintro m l w ⟨i, k, tv, rfl, hi, hk, rfl, hT, ht⟩
    refine cw_seq fun K12 hK12 => ?_
    refine cw_rs fun K13 hK13 => ?_
    -- region 9
    refine as_q rfl rfl (q_move rfl) ?_
    refine as_q rfl rfl (q_move rfl) ?_
    refine as_q rfl rfl (q_len (by kernel_rfl) rfl _) ?_
    first | refine as_q rfl rfl (q_ltT rfl rfl (by omega)) ?_ | refine as_q rfl rfl (q_ltF rfl rfl (by omega)) ?_ | refine as_q rfl rfl (q_lt rfl rfl) ?_
    refine as_nil (hK13 _ _ ?_)
    clear hK13 K13
    refine cw_cond rfl (fun hc2 => ?_) (fun hc2 => ?_)
    · skip
      have hlt : i < n := by have := of_decide_eq_true hc2; omega
      obtain ⟨g, o, rfl⟩ := hsome (by omega)
      have hsl : i < ss.length := by omega
      obtain ⟨s, hsi⟩ : ∃ s, ss[i]? = some s := ⟨ss[i], by simp⟩
      rcases Int.lt_or_le i room with hroom | hroom
      · skip
        obtain rfl : k = i := by omega
        have htk : ss.take (k + 1) = ss.take k ++ [s] := by
          rw [List.take_succ_eq_append_getElem hsl]
          congr 2
          simpa [hsl] using hsi
        refine cw_skip ?_
        refine hK12 _ _ ?_
        clear hK12 K12
        refine cw_seq fun K14 hK14 => ?_
        refine cw_block ?_
        refine cw_rs fun K15 hK15 => ?_
        -- region 11
        refine as_q rfl rfl (q_move rfl) ?_
        refine as_q rfl rfl (q_move rfl) ?_
        refine as_q rfl rfl (q_move rfl) ?_
        refine as_q rfl rfl (q_indexAddr (e := 9) (size := 1) (by kernel_rfl) (by kernel_rfl) rfl rfl (by omega) (by omega)) ?_
        refine as_q rfl rfl (q_load1 (by kernel_rfl) rfl (hr.cell hT.sat (u := .string s) (by simp [hsi]))) ?_
        refine as_h rfl (h_call (by kernel_rfl) rfl ?_)
        refine (add_string hT.sat ht (by omega) (by omega) (by omega) (by omega) hT.size).mono ?_
        rintro _ w3 ⟨sv3, rfl, hs3, ht3, hfr3⟩
        replace hT := step_add hT hs3 ht.hb ht.hsv
        clear ht; have ht := ht3; clear ht3
        rw [show List.map Value.string (ss.take k) ++ [Value.string s] = List.map Value.string (ss.take (k + 1)) from by rw [htk]; simp] at ht
        refine as_q rfl rfl (q_move rfl) ?_
        refine as_q rfl rfl (q_extract rfl rfl) ?_
        refine as_q rfl rfl (q_extract rfl rfl) ?_
        refine as_q rfl rfl (q_assign rfl) ?_
        refine as_q rfl rfl (q_assign rfl) ?_
        refine as_nil (hK15 _ _ ?_)
        clear hK15 K15
        refine cw_seq fun K16 hK16 => ?_
        refine cw_rs fun K17 hK17 => ?_
        -- region 12
        refine as_q rfl rfl (q_move rfl) ?_
        first | refine as_q rfl rfl (q_eqT rfl rfl (by omega)) ?_ | refine as_q rfl rfl (q_eqF rfl rfl (by omega)) ?_ | refine as_q rfl rfl (q_eq rfl rfl) ?_
        refine as_q rfl rfl (q_move rfl) ?_
        refine as_q rfl rfl (q_move rfl) ?_
        refine as_q rfl rfl (q_convx (by kernel_rfl) (by kernel_rfl) rfl (by first | exact wrap64_of (by omega) (by omega) | omega | (simp; omega))) ?_
        first | refine as_q rfl rfl (q_ltT rfl rfl (by omega)) ?_ | refine as_q rfl rfl (q_ltF rfl rfl (by omega)) ?_ | refine as_q rfl rfl (q_lt rfl rfl) ?_
        refine as_q rfl rfl (q_neb (by kernel_rfl) rfl rfl) ?_
        refine as_nil (hK17 _ _ ?_)
        clear hK17 K17
        refine cw_false rfl ?_
        refine cw_skip ?_
        refine hK16 _ _ ?_
        clear hK16 K16
        refine cw_seq fun K18 hK18 => ?_
        refine cw_rs fun K19 hK19 => ?_
        -- region 14
        refine as_q rfl rfl (q_move rfl) ?_
        first | refine as_q rfl rfl (q_eqT rfl rfl (by omega)) ?_ | refine as_q rfl rfl (q_eqF rfl rfl (by omega)) ?_ | refine as_q rfl rfl (q_eq rfl rfl) ?_
        refine as_nil (hK19 _ _ ?_)
        clear hK19 K19
        refine cw_true rfl ?_
        refine cw_seq fun K20 hK20 => ?_
        refine cw_rs fun K21 hK21 => ?_
        -- region 15
        refine as_q rfl rfl (q_move rfl) ?_
        refine as_q rfl rfl (q_move rfl) ?_
        first | refine as_q rfl rfl (q_neT rfl rfl (by omega)) ?_ | refine as_q rfl rfl (q_neF rfl rfl (by omega)) ?_ | refine as_q rfl rfl (q_ne rfl rfl) ?_
        refine as_nil (hK21 _ _ ?_)
        clear hK21 K21
        refine cw_false rfl ?_
        refine cw_skip ?_
        refine hK20 _ _ ?_
        clear hK20 K20
        refine cw_region fun K22 hK22 => ?_
        -- region 17
        refine as_q rfl rfl (q_move rfl) ?_
        refine as_q rfl rfl (q_addx rfl rfl (by omega) (by omega)) ?_
        refine as_q rfl rfl (q_assign rfl) ?_
        refine as_nil (hK22 _ _ ?_)
        clear hK22 K22
        refine hK18 _ _ ?_
        clear hK18 K18
        refine cw_rs fun K23 hK23 => ?_
        -- region 18
        refine as_q rfl rfl (q_assign rfl) ?_
        refine as_nil (hK23 _ _ ?_)
        clear hK23 K23
        refine cw_block ?_
        refine cw_loop (fun m l w => ∃ (j : Nat), m = (k + 1 : Nat) - j ∧ j ≤ (k + 1 : Nat) ∧ l = [(0, .int .u8 room), (1, .slice (some ⟨g, o, none⟩) n c), (6, .pointer (some ⟨b, 0, none⟩)), (7, .int .i64 (k + 1 : Nat)), (8, .int .i64 k), (11, .int .i64 j)] ∧ Step Nope M0 w0 M0 w ∧ Tbl 86 9 1 w0.heap.size w M0 b sv3 (k + 1 : Nat) ((ss.take (k + 1 : Nat)).map .string) room) (k + 1) [(0, .int .u8 room), (1, .slice (some ⟨g, o, none⟩) n c), (6, .pointer (some ⟨b, 0, none⟩)), (7, .int .i64 (k + 1 : Nat)), (8, .int .i64 k), (11, .int .i64 (0 : Nat))] (.cons rfl (.cons rfl (.cons rfl (.cons rfl (.cons rfl (.cons rfl (.nil _))))))) ?_ ?_
        · skip
          exact ⟨0, rfl, Nat.zero_le _, rfl, hT, ht⟩
        clear ht hT
        rintro m l w ⟨j, rfl, hj, rfl, hT, ht⟩
        refine cw_seq fun K24 hK24 => ?_
        refine cw_rs fun K25 hK25 => ?_
        -- region 19
        refine as_q rfl rfl (q_move rfl) ?_
        refine as_q rfl rfl (q_move rfl) ?_
        first | refine as_q rfl rfl (q_ltT rfl rfl (by omega)) ?_ | refine as_q rfl rfl (q_ltF rfl rfl (by omega)) ?_ | refine as_q rfl rfl (q_lt rfl rfl) ?_
        refine as_nil (hK25 _ _ ?_)
        clear hK25 K25
        refine cw_cond rfl (fun hc6 => ?_) (fun hc6 => ?_)
        · skip
          have hjk : j < k + 1 := by have := of_decide_eq_true hc6; omega
          refine cw_skip ?_
          refine hK24 _ _ ?_
          clear hK24 K24
          refine cw_seq fun K26 hK26 => ?_
          refine cw_block ?_
          refine cw_rs fun K27 hK27 => ?_
          -- region 21
          refine as_q rfl rfl (q_move rfl) ?_
          refine as_q rfl rfl (q_move rfl) ?_
          refine as_h rfl (h_call (by kernel_rfl) rfl ?_)
          refine (at_string (u := .string (ss[j]'(by omega))) hT.sat ht (by omega) (by omega) (get_take_map _ _ (by omega) (by omega))).mono ?_
          rintro _ w4 ⟨rfl, hs4⟩
          replace ht := ht.then hs4
          replace hT := hT.then hs4
          refine as_q rfl rfl (q_move rfl) ?_
          refine as_q rfl rfl (q_extract rfl rfl) ?_
          refine as_q rfl rfl (q_extract rfl rfl) ?_
          refine as_q rfl rfl (q_assign rfl) ?_
          refine as_q rfl rfl (q_assign rfl) ?_
          refine as_nil (hK27 _ _ ?_)
          clear hK27 K27
          refine cw_rs fun K28 hK28 => ?_
          -- region 22
          refine as_q rfl rfl (q_move rfl) ?_
          first | refine as_q rfl rfl (q_neT rfl rfl (by omega)) ?_ | refine as_q rfl rfl (q_neF rfl rfl (by omega)) ?_ | refine as_q rfl rfl (q_ne rfl rfl) ?_
          refine as_q rfl rfl (q_move rfl) ?_
          refine as_gh rfl rfl rfl rfl (h_q rfl (q_move rfl) ?_)
          refine as_gh rfl rfl rfl rfl (h_q rfl (q_move rfl) ?_)
          refine as_gh rfl rfl rfl rfl (h_q rfl (q_move rfl) ?_)
          refine as_gh rfl rfl rfl rfl (h_q rfl (q_indexAddr (e := 9) (size := 1) (by kernel_rfl) (by kernel_rfl) rfl rfl (by omega) (by omega)) ?_)
          refine as_gh rfl rfl rfl rfl (h_q rfl (q_load1 (by kernel_rfl) rfl (hr.cell hT.sat (u := .string (ss[j]'(by omega))) (by simp))) ?_)
          refine as_gh rfl rfl rfl rfl (h_q rfl (q_nesF rfl rfl rfl) ?_)
          first | refine as_q rfl rfl (q_pick_t rfl rfl) ?_ | refine as_q rfl rfl (q_pick_f rfl rfl) ?_ | refine as_q rfl rfl (q_pick rfl rfl rfl) ?_
          refine as_nil (hK28 _ _ ?_)
          clear hK28 K28
          refine cw_false rfl ?_
          refine cw_skip ?_
          refine hK26 _ _ ?_
          clear hK26 K26
          refine cw_region fun K29 hK29 => ?_
          -- region 20
          refine as_q rfl rfl (q_move rfl) ?_
          refine as_q rfl rfl (q_addx rfl rfl (by omega) (by omega)) ?_
          refine as_q rfl rfl (q_assign rfl) ?_
          refine as_nil (hK29 _ _ ?_)
          clear hK29 K29
          exact ⟨_, _, by omega, (.cons rfl (.cons rfl (.cons rfl (.cons rfl (.cons rfl (.cons rfl (.nil _))))))), j + 1, rfl, by omega, rfl, hT, ht⟩
        · skip
          have hjk : j = k + 1 := by have := of_decide_eq_false hc6; omega
          refine cw_exit ?_
          refine hK14 _ _ ?_
          clear hK24 K24
          clear hK14 K14
          refine cw_region fun K30 hK30 => ?_
          -- region 10
          refine as_q rfl rfl (q_move rfl) ?_
          refine as_q rfl rfl (q_addx rfl rfl (by omega) (by omega)) ?_
          refine as_q rfl rfl (q_assign rfl) ?_
          refine as_nil (hK30 _ _ ?_)
          clear hK30 K30
          exact ⟨_, _, by omega, (.cons rfl (.cons rfl (.cons rfl (.cons rfl (.cons rfl (.nil _)))))), k + 1, k + 1, _, rfl, by omega, .inl ⟨by omega, rfl⟩, rfl, hT, ht⟩
      · skip
        refine cw_skip ?_
        refine hK12 _ _ ?_
        clear hK12 K12
        refine cw_seq fun K31 hK31 => ?_
        refine cw_block ?_
        refine cw_rs fun K32 hK32 => ?_
        -- region 11
        refine as_q rfl rfl (q_move rfl) ?_
        refine as_q rfl rfl (q_move rfl) ?_
        refine as_q rfl rfl (q_move rfl) ?_
        refine as_q rfl rfl (q_indexAddr (e := 9) (size := 1) (by kernel_rfl) (by kernel_rfl) rfl rfl (by omega) (by omega)) ?_
        refine as_q rfl rfl (q_load1 (by kernel_rfl) rfl (hr.cell hT.sat (u := .string s) (by simp [hsi]))) ?_
        refine as_h rfl (h_call (by kernel_rfl) rfl ?_)
        refine (add_string_full hT.sat ht (by omega) (by omega) (by omega) (by omega)).mono ?_
        rintro _ w5 ⟨rfl, hs5⟩
        replace ht := ht.then hs5
        replace hT := hT.then hs5
        refine as_q rfl rfl (q_move rfl) ?_
        refine as_q rfl rfl (q_extract rfl rfl) ?_
        refine as_q rfl rfl (q_extract rfl rfl) ?_
        refine as_q rfl rfl (q_assign rfl) ?_
        refine as_q rfl rfl (q_assign rfl) ?_
        refine as_nil (hK32 _ _ ?_)
        clear hK32 K32
        refine cw_seq fun K33 hK33 => ?_
        refine cw_rs fun K34 hK34 => ?_
        -- region 12
        refine as_q rfl rfl (q_move rfl) ?_
        first | refine as_q rfl rfl (q_eqT rfl rfl (by omega)) ?_ | refine as_q rfl rfl (q_eqF rfl rfl (by omega)) ?_ | refine as_q rfl rfl (q_eq rfl rfl) ?_
        refine as_q rfl rfl (q_move rfl) ?_
        refine as_q rfl rfl (q_move rfl) ?_
        refine as_q rfl rfl (q_convx (by kernel_rfl) (by kernel_rfl) rfl (by first | exact wrap64_of (by omega) (by omega) | omega | (simp; omega))) ?_
        first | refine as_q rfl rfl (q_ltT rfl rfl (by omega)) ?_ | refine as_q rfl rfl (q_ltF rfl rfl (by omega)) ?_ | refine as_q rfl rfl (q_lt rfl rfl) ?_
        refine as_q rfl rfl (q_neb (by kernel_rfl) rfl rfl) ?_
        refine as_nil (hK34 _ _ ?_)
        clear hK34 K34
        refine cw_false rfl ?_
        refine cw_skip ?_
        refine hK33 _ _ ?_
        clear hK33 K33
        refine cw_seq fun K35 hK35 => ?_
        refine cw_rs fun K36 hK36 => ?_
        -- region 14
        refine as_q rfl rfl (q_move rfl) ?_
        first | refine as_q rfl rfl (q_eqT rfl rfl (by omega)) ?_ | refine as_q rfl rfl (q_eqF rfl rfl (by omega)) ?_ | refine as_q rfl rfl (q_eq rfl rfl) ?_
        refine as_nil (hK36 _ _ ?_)
        clear hK36 K36
        refine cw_false rfl ?_
        refine cw_skip ?_
        refine hK35 _ _ ?_
        clear hK35 K35
        refine cw_rs fun K37 hK37 => ?_
        -- region 18
        refine as_q rfl rfl (q_assign rfl) ?_
        refine as_nil (hK37 _ _ ?_)
        clear hK37 K37
        refine cw_block ?_
        refine cw_loop (fun m l w => ∃ (j : Nat), m = k - j ∧ j ≤ k ∧ l = [(0, .int .u8 room), (1, .slice (some ⟨g, o, none⟩) n c), (6, .pointer (some ⟨b, 0, none⟩)), (7, .int .i64 k), (8, .int .i64 i), (11, .int .i64 j)] ∧ Step Nope M0 w0 M0 w ∧ Tbl 86 9 1 w0.heap.size w M0 b tv k ((ss.take k).map .string) room) (k) [(0, .int .u8 room), (1, .slice (some ⟨g, o, none⟩) n c), (6, .pointer (some ⟨b, 0, none⟩)), (7, .int .i64 k), (8, .int .i64 i), (11, .int .i64 (0 : Nat))] (.cons rfl (.cons rfl (.cons rfl (.cons rfl (.cons rfl (.cons rfl (.nil _))))))) ?_ ?_
        · skip
          exact ⟨0, rfl, Nat.zero_le _, rfl, hT, ht⟩
        clear ht hT
        rintro m l w ⟨j, rfl, hj, rfl, hT, ht⟩
        refine cw_seq fun K38 hK38 => ?_
        refine cw_rs fun K39 hK39 => ?_
        -- region 19
        refine as_q rfl rfl (q_move rfl) ?_
        refine as_q rfl rfl (q_move rfl) ?_
        first | refine as_q rfl rfl (q_ltT rfl rfl (by omega)) ?_ | refine as_q rfl rfl (q_ltF rfl rfl (by omega)) ?_ | refine as_q rfl rfl (q_lt rfl rfl) ?_
        refine as_nil (hK39 _ _ ?_)
        clear hK39 K39
        refine cw_cond rfl (fun hc6 => ?_) (fun hc6 => ?_)
        · skip
          have hjk : j < k := by have := of_decide_eq_true hc6; omega
          refine cw_skip ?_
          refine hK38 _ _ ?_
          clear hK38 K38
          refine cw_seq fun K40 hK40 => ?_
          refine cw_block ?_
          refine cw_rs fun K41 hK41 => ?_
          -- region 21
          refine as_q rfl rfl (q_move rfl) ?_
          refine as_q rfl rfl (q_move rfl) ?_
          refine as_h rfl (h_call (by kernel_rfl) rfl ?_)
          refine (at_string (u := .string (ss[j]'(by omega))) hT.sat ht (by omega) (by omega) (get_take_map _ _ (by omega) (by omega))).mono ?_
          rintro _ w6 ⟨rfl, hs6⟩
          replace ht := ht.then hs6
          replace hT := hT.then hs6
          refine as_q rfl rfl (q_move rfl) ?_
          refine as_q rfl rfl (q_extract rfl rfl) ?_
          refine as_q rfl rfl (q_extract rfl rfl) ?_
          refine as_q rfl rfl (q_assign rfl) ?_
          refine as_q rfl rfl (q_assign rfl) ?_
          refine as_nil (hK41 _ _ ?_)
          clear hK41 K41
          refine cw_rs fun K42 hK42 => ?_
          -- region 22
          refine as_q rfl rfl (q_move rfl) ?_
          first | refine as_q rfl rfl (q_neT rfl rfl (by omega)) ?_ | refine as_q rfl rfl (q_neF rfl rfl (by omega)) ?_ | refine as_q rfl rfl (q_ne rfl rfl) ?_
          refine as_q rfl rfl (q_move rfl) ?_
          refine as_gh rfl rfl rfl rfl (h_q rfl (q_move rfl) ?_)
          refine as_gh rfl rfl rfl rfl (h_q rfl (q_move rfl) ?_)
          refine as_gh rfl rfl rfl rfl (h_q rfl (q_move rfl) ?_)
          refine as_gh rfl rfl rfl rfl (h_q rfl (q_indexAddr (e := 9) (size := 1) (by kernel_rfl) (by kernel_rfl) rfl rfl (by omega) (by omega)) ?_)
          refine as_gh rfl rfl rfl rfl (h_q rfl (q_load1 (by kernel_rfl) rfl (hr.cell hT.sat (u := .string (ss[j]'(by omega))) (by simp))) ?_)
          refine as_gh rfl rfl rfl rfl (h_q rfl (q_nesF rfl rfl rfl) ?_)
          first | refine as_q rfl rfl (q_pick_t rfl rfl) ?_ | refine as_q rfl rfl (q_pick_f rfl rfl) ?_ | refine as_q rfl rfl (q_pick rfl rfl rfl) ?_
          refine as_nil (hK42 _ _ ?_)
          clear hK42 K42
          refine cw_false rfl ?_
          refine cw_skip ?_
          refine hK40 _ _ ?_
          clear hK40 K40
          refine cw_region fun K43 hK43 => ?_
          -- region 20
          refine as_q rfl rfl (q_move rfl) ?_
          refine as_q rfl rfl (q_addx rfl rfl (by omega) (by omega)) ?_
          refine as_q rfl rfl (q_assign rfl) ?_
          refine as_nil (hK43 _ _ ?_)
          clear hK43 K43
          exact ⟨_, _, by omega, (.cons rfl (.cons rfl (.cons rfl (.cons rfl (.cons rfl (.cons rfl (.nil _))))))), j + 1, rfl, by omega, rfl, hT, ht⟩
        · skip
          have hjk : j = k := by have := of_decide_eq_false hc6; omega
          refine cw_exit ?_
          refine hK31 _ _ ?_
          clear hK38 K38
          clear hK31 K31
          refine cw_region fun K44 hK44 => ?_
          -- region 10
          refine as_q rfl rfl (q_move rfl) ?_
          refine as_q rfl rfl (q_addx rfl rfl (by omega) (by omega)) ?_
          refine as_q rfl rfl (q_assign rfl) ?_
          refine as_nil (hK44 _ _ ?_)
          clear hK44 K44
          exact ⟨_, _, by omega, (.cons rfl (.cons rfl (.cons rfl (.cons rfl (.cons rfl (.nil _)))))), i + 1, k, _, rfl, by omega, .inr ⟨by omega, by omega⟩, rfl, hT, ht⟩
    · skip
      have hge : i = n := by have := of_decide_eq_false hc2; omega
      refine cw_exit ?_
      refine hK10 _ _ ?_
      clear hK12 K12
      clear hK10 K10
      refine cw_rs fun K45 hK45 => ?_
      -- region 24
      refine as_q rfl rfl (q_move rfl) ?_
      refine as_h rfl (h_call (by kernel_rfl) rfl ?_)
      refine (len_string hT.sat ht).mono ?_
      rintro _ w7 ⟨rfl, hs7⟩
      replace ht := ht.then hs7
      replace hT := hT.then hs7
      refine as_q rfl rfl (q_move rfl) ?_
      first | refine as_q rfl rfl (q_eqT rfl rfl (by omega)) ?_ | refine as_q rfl rfl (q_eqF rfl rfl (by omega)) ?_ | refine as_q rfl rfl (q_eq rfl rfl) ?_
      refine as_q rfl rfl (q_move rfl) ?_
      refine as_gh rfl rfl rfl rfl (h_q rfl (q_move rfl) ?_)
      refine as_gh rfl rfl rfl rfl (h_call (by kernel_rfl) rfl ?_)
      refine (len_string hs7.sat ht).mono ?_
      rintro _ w8 ⟨rfl, hs8⟩
      replace ht := ht.then hs8
      replace hT := hT.then hs8
      refine as_gh rfl rfl rfl rfl (h_q rfl (q_move rfl) ?_)
      refine as_gh rfl rfl rfl rfl (h_call (by kernel_rfl) rfl ?_)
      refine (room_string hs8.sat ht (by omega) (by omega) (by omega)).mono ?_
      rintro _ w9 ⟨rfl, hs9⟩
      replace ht := ht.then hs9
      replace hT := hT.then hs9
      refine as_gh rfl rfl rfl rfl (h_q rfl (q_addx rfl rfl (by omega) (by omega)) ?_)
      refine as_gh rfl rfl rfl rfl (h_q rfl (q_move rfl) ?_)
      refine as_gh rfl rfl rfl rfl (h_q rfl (q_convx (by kernel_rfl) (by kernel_rfl) rfl (by first | exact wrap64_of (by omega) (by omega) | omega | (simp; omega))) ?_)
      first | refine as_gh rfl rfl rfl rfl (h_q rfl (q_eqT rfl rfl (by omega)) ?_) | refine as_gh rfl rfl rfl rfl (h_q rfl (q_eqF rfl rfl (by omega)) ?_) | refine as_gh rfl rfl rfl rfl (h_q rfl (q_eq rfl rfl) ?_)
      first | refine as_q rfl rfl (q_pick_t rfl rfl) ?_ | refine as_q rfl rfl (q_pick_f rfl rfl) ?_ | refine as_q rfl rfl (q_pick rfl rfl rfl) ?_
      refine as_q rfl rfl (q_assign rfl) ?_
      refine as_nil (hK45 _ _ ?_)
      clear hK45 K45
      refine cw_ret ?_
      exact ⟨_, (res_tmp rfl res_nil), rfl, hT⟩

theorem tableTwo_walk {w0 : World} {M0 : Mem} {room : Int} {sv : Value} {n : Nat} {ss : List ByteArray} (hs : Sat M0 w0) (h0 : 0 ≤ room) (h1 : room ≤ 255) (hr : RdM M0 1 sv n (ss.map .string)) (hz : ∀ s ∈ ss, s.size ≤ 140737488351232) :
    Does Try.prog 5 #[.int .u8 room, sv] w0 (fun v w' => v = .bool true ∧ Step Nope M0 w0 M0 w') := by
  have hT := Step.refl Nope hs
  have hlen : ss.length = n := by have := hr.1; simpa using this
  obtain ⟨a, c, rfl, hnc, _⟩ := hr.slice
  have hsome : 0 < n → ∃ g o, a = some ⟨g, o, none⟩ := hr.there
  refine fn_enter Try.func5 rfl (rs := [.tmp 4]) rfl rfl rfl rfl ?_
  refine cw_rs fun K1 hK1 => ?_
  -- region 0
  refine as_q rfl rfl (q_assign rfl) ?_
  refine as_nil (hK1 _ _ ?_)
  clear hK1 K1
  refine cw_rs fun K2 hK2 => ?_
  -- region 1
  refine as_h rfl (h_call (by kernel_rfl) rfl ?_)
  refine (awake19 hs).mono ?_
  rintro _ w1 ⟨rfl, hs1⟩
  replace hT := hT.then hs1
  refine as_q rfl rfl (q_assign rfl) ?_
  refine as_nil (hK2 _ _ ?_)
  clear hK2 K2
  refine cw_seq fun K3 hK3 => ?_
  refine cw_rs fun K4 hK4 => ?_
  -- region 2
  refine as_q rfl rfl (q_move rfl) ?_
  refine as_q rfl rfl (q_not rfl) ?_
  refine as_nil (hK4 _ _ ?_)
  clear hK4 K4
  refine cw_false rfl ?_
  refine cw_skip ?_
  refine hK3 _ _ ?_
  clear hK3 K3
  refine cw_seq fun K5 hK5 => ?_
  refine cw_rs fun K6 hK6 => ?_
  -- region 4
  refine as_q rfl rfl (q_move rfl) ?_
  refine as_q rfl rfl (q_len (by kernel_rfl) rfl _) ?_
  first | refine as_q rfl rfl (q_gtT rfl rfl (by omega)) ?_ | refine as_q rfl rfl (q_gtF rfl rfl (by omega)) ?_ | refine as_q rfl rfl (q_gt rfl rfl) ?_
  refine as_nil (hK6 _ _ ?_)
  clear hK6 K6
  refine cw_cond rfl (fun hc1 => ?_) (fun hc1 => ?_)
  · skip
    refine cw_rs fun K7 hK7 => ?_
    -- region 5
    refine as_q rfl rfl (q_assign rfl) ?_
    refine as_nil (hK7 _ _ ?_)
    clear hK7 K7
    refine cw_ret ?_
    exact ⟨_, (res_tmp rfl res_nil), rfl, hT⟩
  · skip
    have hn : n ≤ 60 := by have := of_decide_eq_false hc1; omega
    refine cw_skip ?_
    refine hK5 _ _ ?_
    clear hK5 K5
    refine cw_rs fun K8 hK8 => ?_
    -- region 6
    refine as_q rfl rfl (q_move rfl) ?_
    refine as_q rfl rfl (q_convx (by kernel_rfl) (by kernel_rfl) rfl (by first | exact wrap64_of (by omega) (by omega) | omega | (simp; omega))) ?_
    refine as_h rfl (h_call (by kernel_rfl) rfl ?_)
    refine (new_string (B := w0.heap.size) hs1.sat hT.size (by omega)).mono ?_
    rintro _ w2 ⟨b, rfl, hs2, ht⟩
    replace hT := hT.then hs2
    refine as_q rfl rfl (q_assign rfl) ?_
    refine as_nil (hK8 _ _ ?_)
    clear hK8 K8
    refine cw_rs fun K9 hK9 => ?_
    -- region 7
    refine as_q rfl rfl (q_move rfl) ?_
    refine as_q rfl rfl (q_convx (by kernel_rfl) (by kernel_rfl) rfl (by first | exact wrap64_of (by omega) (by omega) | omega | (simp; omega))) ?_
    refine as_h rfl (h_call (by kernel_rfl) rfl ?_)
    have hbw := ht.own.1.lt
    refine (new_string (B := w2.heap.size) hs2.sat (Nat.le_refl _) (by omega)).mono ?_
    rintro _ w3 ⟨d, rfl, hs3, hu⟩
    have hbd : b ≠ d := by have := hu.hb; omega
    replace ht := ht.then hs3
    replace hT := hT.then hs3
    refine as_q rfl rfl (q_assign rfl) ?_
    refine as_nil (hK9 _ _ ?_)
    clear hK9 K9
    refine cw_seq fun K10 hK10 => ?_
    refine cw_rs fun K11 hK11 => ?_
    -- region 8
    refine as_q rfl rfl (q_assign rfl) ?_
    refine as_nil (hK11 _ _ ?_)
    clear hK11 K11
    refine cw_block ?_
    refine cw_loop (fun m l w => ∃ (i k : Nat) (tv : Value), m = n - i ∧ i ≤ n ∧ ((i : Int) ≤ room ∧ k = i ∨ room < i ∧ (k : Int) = room) ∧ l = [(0, .int .u8 room), (1, .slice a n c), (6, .pointer (some ⟨b, 0, none⟩)), (7, .pointer (some ⟨d, 0, none⟩)), (8, .int .i64 i)] ∧ Step Nope M0 w0 M0 w ∧ Tbl 86 9 1 w0.heap.size w M0 b tv k ((ss.take k).map .string) room ∧ Tbl 86 9 1 w2.heap.size w M0 d (.slice none 0 0) 0 [] room ∧ tv.ownBlock ≠ some d) (n) [(0, .int .u8 room), (1, .slice a n c), (6, .pointer (some ⟨b, 0, none⟩)), (7, .pointer (some ⟨d, 0, none⟩)), (8, .int .i64 (0 : Nat))] (.cons rfl (.cons rfl (.cons rfl (.cons rfl (.cons rfl (.nil _)))))) ?_ ?_
    · skip
      exact ⟨0, 0, _, rfl, Nat.zero_le _, .inl ⟨by omega, rfl⟩, rfl, hT, ht, hu, by simp [Value.ownBlock]⟩
    clear ht hT hu
    rintro m l w ⟨i, k, tv, rfl, hi, hk, rfl, hT, ht, hu, hne⟩
    refine cw_seq fun K12 hK12 => ?_
    refine cw_rs fun K13 hK13 => ?_
    -- region 9
    refine as_q rfl rfl (q_move rfl) ?_
    refine as_q rfl rfl (q_move rfl) ?_
    refine as_q rfl rfl (q_len (by kernel_rfl) rfl _) ?_
    first | refine as_q rfl rfl (q_ltT rfl rfl (by omega)) ?_ | refine as_q rfl rfl (q_ltF rfl rfl (by omega)) ?_ | refine as_q rfl rfl (q_lt rfl rfl) ?_
    refine as_nil (hK13 _ _ ?_)
    clear hK13 K13
    refine cw_cond rfl (fun hc2 => ?_) (fun hc2 => ?_)
    · skip
      have hlt : i < n := by have := of_decide_eq_true hc2; omega
      obtain ⟨g, o, rfl⟩ := hsome (by omega)
      have hsl : i < ss.length := by omega
      obtain ⟨s, hsi⟩ : ∃ s, ss[i]? = some s := ⟨ss[i], by simp⟩
      rcases Int.lt_or_le i room with hroom | hroom
      · skip
        obtain rfl : k = i := by omega
        have htk : ss.take (k + 1) = ss.take k ++ [s] := by
          rw [List.take_succ_eq_append_getElem hsl]
          congr 2
          simpa [hsl] using hsi
        refine cw_skip ?_
        refine hK12 _ _ ?_
        clear hK12 K12
        refine cw_seq fun K14 hK14 => ?_
        refine cw_block ?_
        refine cw_region fun K15 hK15 => ?_
        -- region 11
        refine as_q rfl rfl (q_move rfl) ?_
        refine as_q rfl rfl (q_move rfl) ?_
        refine as_q rfl rfl (q_move rfl) ?_
        refine as_q rfl rfl (q_indexAddr (e := 9) (size := 1) (by kernel_rfl) (by kernel_rfl) rfl rfl (by omega) (by omega)) ?_
        refine as_q rfl rfl (q_load1 (by kernel_rfl) rfl (hr.cell hT.sat (u := .string s) (by simp [hsi]))) ?_
        refine as_h rfl (h_call (by kernel_rfl) rfl ?_)
        have hdw := hu.own.1.lt
        refine (add_string hT.sat ht (by omega) (by omega) (by omega) (by omega) hT.size).mono ?_
        rintro _ w4 ⟨sv4, rfl, hs4, ht4, hfr4⟩
        replace hT := step_add hT hs4 ht.hb ht.hsv
        replace hu := hu.other hs4 hbd.symm hne (by simp [Value.ownBlock]) (fun g hg => by cases hg)
        replace hne : sv4.ownBlock ≠ some d := by
          rcases hfr4 with h | h
          · rw [h]; exact hne
          · intro h2; have := h d h2; omega
        clear ht; have ht := ht4; clear ht4
        rw [show List.map Value.string (ss.take k) ++ [Value.string s] = List.map Value.string (ss.take (k + 1)) from by rw [htk]; simp] at ht
        refine as_nil (hK15 _ _ ?_)
        clear hK15 K15
        refine hK14 _ _ ?_
        clear hK14 K14
        refine cw_region fun K16 hK16 => ?_
        -- region 10
        refine as_q rfl rfl (q_move rfl) ?_
        refine as_q rfl rfl (q_addx rfl rfl (by omega) (by omega)) ?_
        refine as_q rfl rfl (q_assign rfl) ?_
        refine as_nil (hK16 _ _ ?_)
        clear hK16 K16
        exact ⟨_, _, by omega, (.cons rfl (.cons rfl (.cons rfl (.cons rfl (.cons rfl (.nil _)))))), k + 1, k + 1, _, rfl, by omega, .inl ⟨by omega, rfl⟩, rfl, hT, ht, hu, hne⟩
      · skip
        refine cw_skip ?_
        refine hK12 _ _ ?_
        clear hK12 K12
        refine cw_seq fun K17 hK17 => ?_
        refine cw_block ?_
        refine cw_region fun K18 hK18 => ?_
        -- region 11
        refine as_q rfl rfl (q_move rfl) ?_
        refine as_q rfl rfl (q_move rfl) ?_
        refine as_q rfl rfl (q_move rfl) ?_
        refine as_q rfl rfl (q_indexAddr (e := 9) (size := 1) (by kernel_rfl) (by kernel_rfl) rfl rfl (by omega) (by omega)) ?_
        refine as_q rfl rfl (q_load1 (by kernel_rfl) rfl (hr.cell hT.sat (u := .string s) (by simp [hsi]))) ?_
        refine as_h rfl (h_call (by kernel_rfl) rfl ?_)
        refine (add_string_full hT.sat ht (by omega) (by omega) (by omega) (by omega)).mono ?_
        rintro _ w5 ⟨rfl, hs5⟩
        replace ht := ht.then hs5
        replace hu := hu.then hs5
        replace hT := hT.then hs5
        refine as_nil (hK18 _ _ ?_)
        clear hK18 K18
        refine hK17 _ _ ?_
        clear hK17 K17
        refine cw_region fun K19 hK19 => ?_
        -- region 10
        refine as_q rfl rfl (q_move rfl) ?_
        refine as_q rfl rfl (q_addx rfl rfl (by omega) (by omega)) ?_
        refine as_q rfl rfl (q_assign rfl) ?_
        refine as_nil (hK19 _ _ ?_)
        clear hK19 K19
        exact ⟨_, _, by omega, (.cons rfl (.cons rfl (.cons rfl (.cons rfl (.cons rfl (.nil _)))))), i + 1, k, _, rfl, by omega, .inr ⟨by omega, by omega⟩, rfl, hT, ht, hu, hne⟩
    · skip
      have hge : i = n := by have := of_decide_eq_false hc2; omega
      refine cw_exit ?_
      refine hK10 _ _ ?_
      clear hK12 K12
      clear hK10 K10
      refine cw_rs fun K20 hK20 => ?_
      -- region 12
      refine as_q rfl rfl (q_move rfl) ?_
      refine as_q rfl rfl (q_convx (by kernel_rfl) (by kernel_rfl) rfl (by first | exact wrap64_of (by omega) (by omega) | omega | (simp; omega))) ?_
      refine as_q rfl rfl (q_move rfl) ?_
      refine as_q rfl rfl (q_len (by kernel_rfl) rfl _) ?_
      refine as_q rfl rfl (q_congr (q_min2 rfl rfl) (v' := .int .i64 (k : Nat)) (by rw [show (if (n : Int) < room then (n : Int) else room) = (k : Nat) from by split <;> omega])) ?_
      refine as_q rfl rfl (q_assign rfl) ?_
      refine as_nil (hK20 _ _ ?_)
      clear hK20 K20
      refine cw_rs fun K21 hK21 => ?_
      -- region 13
      refine as_q rfl rfl (q_move rfl) ?_
      refine as_h rfl (h_call (by kernel_rfl) rfl ?_)
      have hbw := ht.own.1.lt
      have hdw := hu.own.1.lt
      have htv := ht.buf.lt
      refine (all_string hT.sat ht (fun x hx => by obtain ⟨s, _, rfl⟩ := List.mem_map.1 hx; rfl) (by omega)).mono ?_
      rintro xv w6 ⟨hs6, hx, hxf⟩
      have hxb : ∀ g, xv.ownBlock = some g → b ≠ g := fun g hg => by have := hxf g hg; omega
      have hxd : ∀ g, xv.ownBlock = some g → d ≠ g := fun g hg => by have := hxf g hg; omega
      have hxt : ∀ g, xv.ownBlock = some g → tv.ownBlock ≠ some g := fun g hg h => by have := hxf g hg; have := htv g h; omega
      have hxw : ∀ g, xv.ownBlock = some g → w0.heap.size ≤ g := fun g hg => by have := hxf g hg; have := hT.size; omega
      replace ht := ht.then hs6
      replace hu := hu.then hs6
      replace hT := hT.then hs6
      obtain ⟨xa, xc, rfl, hxc, _⟩ := hx.slice
      refine as_q rfl rfl (q_assign rfl) ?_
      refine as_nil (hK21 _ _ ?_)
      clear hK21 K21
      refine cw_seq fun K22 hK22 => ?_
      refine cw_rs fun K23 hK23 => ?_
      -- region 14
      refine as_q rfl rfl (q_assign rfl) ?_
      refine as_nil (hK23 _ _ ?_)
      clear hK23 K23
      refine cw_block ?_
      refine cw_loop (fun m l w => ∃ (i : Nat) (us : List ByteArray), m = k - i ∧ i ≤ k ∧ us.length = k ∧ (∀ j s, i ≤ j → us[j]? = some s → s.size ≤ 140737488351232) ∧ l = [(0, .int .u8 room), (1, .slice a n c), (6, .pointer (some ⟨b, 0, none⟩)), (7, .pointer (some ⟨d, 0, none⟩)), (9, .int .i64 k), (10, .slice xa k xc), (11, .int .i64 i)] ∧ Step Nope M0 w0 M0 w ∧ Tbl 86 9 1 w0.heap.size w M0 b tv k ((ss.take k).map .string) room ∧ Tbl 86 9 1 w2.heap.size w M0 d (.slice none 0 0) 0 [] room ∧ Buf w M0 9 1 (.slice xa k xc) k (us.map .string)) (k) [(0, .int .u8 room), (1, .slice a n c), (6, .pointer (some ⟨b, 0, none⟩)), (7, .pointer (some ⟨d, 0, none⟩)), (9, .int .i64 k), (10, .slice xa k xc), (11, .int .i64 (0 : Nat))] (.cons rfl (.cons rfl (.cons rfl (.cons rfl (.cons rfl (.cons rfl (.cons rfl (.nil _)))))))) ?_ ?_
      · skip
        exact ⟨0, ss.take k, rfl, Nat.zero_le _, by simp; omega, fun j s _ hj => hz s (List.mem_of_mem_take (List.mem_of_getElem? hj)), rfl, hT, ht, hu, hx⟩
      clear ht hT hu hx
      rintro m l w ⟨i, us, rfl, hi, hul, husz, rfl, hT, ht, hu, hx⟩
      refine cw_seq fun K24 hK24 => ?_
      refine cw_rs fun K25 hK25 => ?_
      -- region 15
      refine as_q rfl rfl (q_move rfl) ?_
      refine as_q rfl rfl (q_move rfl) ?_
      refine as_q rfl rfl (q_len (by kernel_rfl) rfl _) ?_
      first | refine as_q rfl rfl (q_ltT rfl rfl (by omega)) ?_ | refine as_q rfl rfl (q_ltF rfl rfl (by omega)) ?_ | refine as_q rfl rfl (q_lt rfl rfl) ?_
      refine as_nil (hK25 _ _ ?_)
      clear hK25 K25
      refine cw_cond rfl (fun hc3 => ?_) (fun hc3 => ?_)
      · skip
        have hlt : i < k := by have := of_decide_eq_true hc3; omega
        obtain ⟨g, xc2, hxe, _⟩ := hx.head (by omega)
        cases hxe
        obtain ⟨s, hsi⟩ : ∃ s, us[i]? = some s := ⟨us[i], by simp⟩
        have hssz := husz i s (Nat.le_refl _) hsi
        refine cw_skip ?_
        refine hK24 _ _ ?_
        clear hK24 K24
        refine cw_seq fun K26 hK26 => ?_
        refine cw_block ?_
        refine cw_region fun K27 hK27 => ?_
        -- region 17
        refine as_q rfl rfl (q_move rfl) ?_
        refine as_q rfl rfl (q_move rfl) ?_
        refine as_q rfl rfl (q_indexAddr (e := 9) (size := 1) (by kernel_rfl) (by kernel_rfl) rfl rfl (by omega) (by omega)) ?_
        refine as_q rfl rfl (q_load1 (by kernel_rfl) rfl (hx.cell (u := .string s) (by simp [hsi]))) ?_
        refine as_q rfl rfl (q_concat rfl rfl (by rw [show (ByteArray.size ⟨#[120]⟩) = 1 from rfl]; omega)) ?_
        refine as_q rfl rfl (q_indexAddr (e := 9) (size := 1) (by kernel_rfl) (by kernel_rfl) rfl rfl (by omega) (by omega)) ?_
        refine as_h0 (h_storeB hT.sat hx rfl rfl rfl (by kernel_rfl) (by simp [vcells]; omega) rfl rfl fun w7 hs7 hx7 => ?_)
        replace ht := ht.just hs7 (hxb _ rfl) (hxt _ rfl)
        replace hu := hu.just hs7 (hxd _ rfl) (by simp [Value.ownBlock])
        replace hT := hT.own hs7 (hxw _ rfl)
        refine as_nil (hK27 _ _ ?_)
        clear hK27 K27
        refine hK26 _ _ ?_
        clear hK26 K26
        refine cw_region fun K28 hK28 => ?_
        -- region 16
        refine as_q rfl rfl (q_move rfl) ?_
        refine as_q rfl rfl (q_addx rfl rfl (by omega) (by omega)) ?_
        refine as_q rfl rfl (q_assign rfl) ?_
        refine as_nil (hK28 _ _ ?_)
        clear hK28 K28
        exact ⟨_, _, by omega, (.cons rfl (.cons rfl (.cons rfl (.cons rfl (.cons rfl (.cons rfl (.cons rfl (.nil _)))))))), i + 1, us.set i (s ++ ⟨#[120]⟩), rfl, by omega, by simpa using hul, fun j s' hj hs' => husz j s' (by omega) (by rw [List.getElem?_set_ne (by omega)] at hs'; exact hs'), rfl, hT, ht, hu, by have h := hx7; simpa [puts, vcells, List.map_set] using h⟩
      · skip
        have hge : i = k := by have := of_decide_eq_false hc3; omega
        refine cw_exit ?_
        refine hK22 _ _ ?_
        clear hK24 K24
        clear hK22 K22
        refine cw_rs fun K29 hK29 => ?_
        -- region 18
        refine as_q rfl rfl (q_move rfl) ?_
        refine as_h rfl (h_call (by kernel_rfl) rfl ?_)
        refine (all_string hT.sat ht (fun x hx => by obtain ⟨s, _, rfl⟩ := List.mem_map.1 hx; rfl) (by omega)).mono ?_
        rintro yv w8 ⟨hs8, hy, _⟩
        replace ht := ht.then hs8
        replace hu := hu.then hs8
        replace hT := hT.then hs8
        obtain ⟨ya, yc, rfl, hyc, _⟩ := hy.slice
        refine as_q rfl rfl (q_assign rfl) ?_
        refine as_nil (hK29 _ _ ?_)
        clear hK29 K29
        refine cw_seq fun K30 hK30 => ?_
        refine cw_rs fun K31 hK31 => ?_
        -- region 19
        refine as_q rfl rfl (q_assign rfl) ?_
        refine as_nil (hK31 _ _ ?_)
        clear hK31 K31
        refine cw_block ?_
        refine cw_loop (fun m l w => ∃ (i : Nat), m = k - i ∧ i ≤ k ∧ l = [(0, .int .u8 room), (1, .slice a n c), (6, .pointer (some ⟨b, 0, none⟩)), (7, .pointer (some ⟨d, 0, none⟩)), (9, .int .i64 k), (12, .slice ya k yc), (13, .int .i64 i)] ∧ Step Nope M0 w0 M0 w ∧ Tbl 86 9 1 w0.heap.size w M0 b tv k ((ss.take k).map .string) room ∧ Tbl 86 9 1 w2.heap.size w M0 d (.slice none 0 0) 0 [] room ∧ Buf w M0 9 1 (.slice ya k yc) k ((ss.take k).map .string)) (k) [(0, .int .u8 room), (1, .slice a n c), (6, .pointer (some ⟨b, 0, none⟩)), (7, .pointer (some ⟨d, 0, none⟩)), (9, .int .i64 k), (12, .slice ya k yc), (13, .int .i64 (0 : Nat))] (.cons rfl (.cons rfl (.cons rfl (.cons rfl (.cons rfl (.cons rfl (.cons rfl (.nil _)))))))) ?_ ?_
        · skip
          exact ⟨0, rfl, Nat.zero_le _, rfl, hT, ht, hu, hy⟩
        clear ht hT hu hy
        rintro m l w ⟨i, rfl, hi, rfl, hT, ht, hu, hy⟩
        refine cw_seq fun K32 hK32 => ?_
        refine cw_rs fun K33 hK33 => ?_
        -- region 20
        refine as_q rfl rfl (q_move rfl) ?_
        refine as_q rfl rfl (q_move rfl) ?_
        refine as_q rfl rfl (q_len (by kernel_rfl) rfl _) ?_
        first | refine as_q rfl rfl (q_ltT rfl rfl (by omega)) ?_ | refine as_q rfl rfl (q_ltF rfl rfl (by omega)) ?_ | refine as_q rfl rfl (q_lt rfl rfl) ?_
        refine as_nil (hK33 _ _ ?_)
        clear hK33 K33
        refine cw_cond rfl (fun hc4 => ?_) (fun hc4 => ?_)
        · skip
          have hlt : i < k := by have := of_decide_eq_true hc4; omega
          obtain ⟨g, yc2, hye, _⟩ := hy.head (by omega)
          cases hye
          obtain ⟨p, o, rfl⟩ := hsome (by omega)
          refine cw_skip ?_
          refine hK32 _ _ ?_
          clear hK32 K32
          refine cw_seq fun K34 hK34 => ?_
          refine cw_block ?_
          refine cw_rd (by kernel_rfl) (by kernel_rfl) (by kernel_rfl) rfl rfl fun K35 hK35 => ?_
          -- region 22
          have hs9 := Step.drew hT.sat
          replace ht := ht.then hs9
          replace hu := hu.then hs9
          replace hy := hy.then hs9
          replace hT := hT.then hs9
          refine at_q (i := 0) (li := #[true, false, false, false, false, false, false, false, false]) rfl (by kernel_rfl) rfl (fun _ => (q_move rfl)) (by kernel_rfl) ?_
          refine at_q (i := 1) (li := #[true, true, false, false, false, false, false, false, false]) rfl (by kernel_rfl) rfl (fun _ => (q_move rfl)) (by kernel_rfl) ?_
          refine at_q (i := 2) (li := #[true, true, true, false, false, false, false, false, false]) rfl (by kernel_rfl) rfl (fun _ => (q_indexAddr (e := 9) (size := 1) (by kernel_rfl) (by kernel_rfl) rfl rfl (by omega) (by omega))) (by kernel_rfl) ?_
          refine at_l (i := 3) (li := #[true, true, true, true, false, false, false, false, false]) (cellIs _ _ _) rfl (by kernel_rfl) rfl (fun _ h => q_load1 (by kernel_rfl) rfl h) (hy.cell (u := .string (ss[i]'(by omega))) (by simpa using get_take_map Value.string ss (j := i) (k := k) (by omega) (by omega))) (by kernel_rfl) ?_
          refine at_q (i := 4) (li := #[true, true, true, true, true, false, false, false, false]) rfl (by kernel_rfl) rfl (fun _ => (q_move rfl)) (by kernel_rfl) ?_
          refine at_q (i := 5) (li := #[true, true, true, true, true, true, false, false, false]) rfl (by kernel_rfl) rfl (fun _ => (q_move rfl)) (by kernel_rfl) ?_
          refine at_q (i := 6) (li := #[true, true, true, true, true, true, true, false, false]) rfl (by kernel_rfl) rfl (fun _ => (q_indexAddr (e := 9) (size := 1) (by kernel_rfl) (by kernel_rfl) rfl rfl (by omega) (by omega))) (by kernel_rfl) ?_
          refine at_l (i := 7) (li := #[true, true, true, true, true, true, true, true, false]) (cellIs _ _ _) rfl (by kernel_rfl) rfl (fun _ h => q_load1 (by kernel_rfl) rfl h) (hr.cell hT.sat (u := .string (ss[i]'(by omega))) (by simp)) (by kernel_rfl) ?_
          refine at_q (i := 8) (li := #[true, true, true, true, true, true, true, true, true]) rfl (by kernel_rfl) rfl (fun _ => (q_nesF rfl rfl rfl)) (by kernel_rfl) ?_
          refine at_done (by kernel_rfl) (hK35 _ _ ?_)
          clear hK35 K35
          refine cw_false rfl ?_
          refine cw_skip ?_
          refine hK34 _ _ ?_
          clear hK34 K34
          refine cw_region fun K36 hK36 => ?_
          -- region 21
          refine as_q rfl rfl (q_move rfl) ?_
          refine as_q rfl rfl (q_addx rfl rfl (by omega) (by omega)) ?_
          refine as_q rfl rfl (q_assign rfl) ?_
          refine as_nil (hK36 _ _ ?_)
          clear hK36 K36
          exact ⟨_, _, by omega, (.cons rfl (.cons rfl (.cons rfl (.cons rfl (.cons rfl (.cons rfl (.cons rfl (.nil _)))))))), i + 1, rfl, by omega, rfl, hT, ht, hu, hy⟩
        · skip
          have hge : i = k := by have := of_decide_eq_false hc4; omega
          refine cw_exit ?_
          refine hK30 _ _ ?_
          clear hK32 K32
          clear hK30 K30
          refine cw_rs fun K37 hK37 => ?_
          -- region 24
          refine as_q rfl rfl (q_move rfl) ?_
          refine as_q rfl rfl (q_len (by kernel_rfl) rfl _) ?_
          refine as_q rfl rfl (q_move rfl) ?_
          first | refine as_q rfl rfl (q_eqT rfl rfl (by omega)) ?_ | refine as_q rfl rfl (q_eqF rfl rfl (by omega)) ?_ | refine as_q rfl rfl (q_eq rfl rfl) ?_
          refine as_q rfl rfl (q_move rfl) ?_
          refine as_gh rfl rfl rfl rfl (h_q rfl (q_move rfl) ?_)
          refine as_gh rfl rfl rfl rfl (h_call (by kernel_rfl) rfl ?_)
          refine (len_string hT.sat hu).mono ?_
          rintro _ w10 ⟨rfl, hs10⟩
          replace ht := ht.then hs10
          replace hu := hu.then hs10
          replace hy := hy.then hs10
          replace hT := hT.then hs10
          first | refine as_gh rfl rfl rfl rfl (h_q rfl (q_eqT rfl rfl (by omega)) ?_) | refine as_gh rfl rfl rfl rfl (h_q rfl (q_eqF rfl rfl (by omega)) ?_) | refine as_gh rfl rfl rfl rfl (h_q rfl (q_eq rfl rfl) ?_)
          first | refine as_q rfl rfl (q_pick_t rfl rfl) ?_ | refine as_q rfl rfl (q_pick_f rfl rfl) ?_ | refine as_q rfl rfl (q_pick rfl rfl rfl) ?_
          refine as_q rfl rfl (q_move rfl) ?_
          refine as_gh rfl rfl rfl rfl (h_q rfl (q_move rfl) ?_)
          refine as_gh rfl rfl rfl rfl (h_call (by kernel_rfl) rfl ?_)
          refine (room_string hs10.sat hu (by omega) (by omega) (by omega)).mono ?_
          rintro _ w11 ⟨rfl, hs11⟩
          replace ht := ht.then hs11
          replace hu := hu.then hs11
          replace hy := hy.then hs11
          replace hT := hT.then hs11
          refine as_gh rfl rfl rfl rfl (h_q rfl (q_move rfl) ?_)
          refine as_gh rfl rfl rfl rfl (h_q rfl (q_convx (by kernel_rfl) (by kernel_rfl) rfl (by first | exact wrap64_of (by omega) (by omega) | omega | (simp; omega))) ?_)
          first | refine as_gh rfl rfl rfl rfl (h_q rfl (q_eqT rfl rfl (by omega)) ?_) | refine as_gh rfl rfl rfl rfl (h_q rfl (q_eqF rfl rfl (by omega)) ?_) | refine as_gh rfl rfl rfl rfl (h_q rfl (q_eq rfl rfl) ?_)
          first | refine as_q rfl rfl (q_pick_t rfl rfl) ?_ | refine as_q rfl rfl (q_pick_f rfl rfl) ?_ | refine as_q rfl rfl (q_pick rfl rfl rfl) ?_
          refine as_q rfl rfl (q_move rfl) ?_
          refine as_gh rfl rfl rfl rfl (h_q rfl (q_move rfl) ?_)
          refine as_gh rfl rfl rfl rfl (h_call (by kernel_rfl) rfl ?_)
          refine (room_string hs11.sat ht (by omega) (by omega) (by omega)).mono ?_
          rintro _ w12 ⟨rfl, hs12⟩
          replace ht := ht.then hs12
          replace hu := hu.then hs12
          replace hy := hy.then hs12
          replace hT := hT.then hs12
          refine as_gh rfl rfl rfl rfl (h_q rfl (q_move rfl) ?_)
          refine as_gh rfl rfl rfl rfl (h_q rfl (q_convx (by kernel_rfl) (by kernel_rfl) rfl (by first | exact wrap64_of (by omega) (by omega) | omega | (simp; omega))) ?_)
          refine as_gh rfl rfl rfl rfl (h_q rfl (q_move rfl) ?_)
          refine as_gh rfl rfl rfl rfl (h_q rfl (q_subx rfl rfl (by omega) (by omega)) ?_)
          first | refine as_gh rfl rfl rfl rfl (h_q rfl (q_eqT rfl rfl (by omega)) ?_) | refine as_gh rfl rfl rfl rfl (h_q rfl (q_eqF rfl rfl (by omega)) ?_) | refine as_gh rfl rfl rfl rfl (h_q rfl (q_eq rfl rfl) ?_)
          first | refine as_q rfl rfl (q_pick_t rfl rfl) ?_ | refine as_q rfl rfl (q_pick_f rfl rfl) ?_ | refine as_q rfl rfl (q_pick rfl rfl rfl) ?_
          refine as_q rfl rfl (q_assign rfl) ?_
          refine as_nil (hK37 _ _ ?_)
          clear hK37 K37
          refine cw_ret ?_
          exact ⟨_, (res_tmp rfl res_nil), rfl, hT⟩

end Go.Proofs.Ytcnocefclcoiiaa
