/- The law that holds the table against the document's: its walk. -/
import Derived.Test.YtcnocefclcoiiaaL19b
namespace Go.Proofs.Ytcnocefclcoiiaa
open Go Go.Eng

theorem playsA {w0 : World} {M0 : Mem} {room : Int} {sv av : Value} {n m : Nat} {xs ys : List Int} (hs : Sat M0 w0) (hr : RdM M0 1 sv n (xs.map (.int .i64))) (ha : RdM M0 1 av m (ys.map (.int .i64))) (h1 : 60 < n) :
    Does Try.prog 4 #[.int .i64 room, sv, av] w0 (fun v w' => v = .bool true ∧ Step Nope M0 w0 M0 w') := by
  have hT := Step.refl Nope hs
  obtain ⟨a, c, rfl, hnc, _⟩ := hr.slice
  obtain ⟨a2, c2, rfl, hnc2, _⟩ := ha.slice
  refine fn_enter Try.func4 rfl (rs := [.tmp 6]) rfl rfl rfl rfl ?_
  refine cw_rs fun K1 hK1 => ?_
  -- region 0
  refine as_q rfl rfl (q_assign rfl) ?_
  refine as_nil (hK1 _ _ ?_)
  clear hK1 K1
  refine cw_rs fun K2 hK2 => ?_
  -- region 1
  refine as_h rfl (h_call (by kernel_rfl) rfl ?_)
  refine (awake19 hs).mono ?_
  rintro _ w1 ⟨rfl, hs1⟩
  replace hT := hT.then hs1
  refine as_q rfl rfl (q_assign rfl) ?_
  refine as_nil (hK2 _ _ ?_)
  clear hK2 K2
  refine cw_seq fun K3 hK3 => ?_
  refine cw_rs fun K4 hK4 => ?_
  -- region 2
  refine as_q rfl rfl (q_move rfl) ?_
  refine as_q rfl rfl (q_not rfl) ?_
  refine as_nil (hK4 _ _ ?_)
  clear hK4 K4
  refine cw_false rfl ?_
  refine cw_skip ?_
  refine hK3 _ _ ?_
  clear hK3 K3
  refine cw_seq fun K5 hK5 => ?_
  refine cw_rs fun K6 hK6 => ?_
  -- region 4
  refine as_q rfl rfl (q_move rfl) ?_
  refine as_q rfl rfl (q_len (by kernel_rfl) rfl _) ?_
  first | refine as_q rfl rfl (q_gtT rfl rfl (by omega)) ?_ | refine as_q rfl rfl (q_gtF rfl rfl (by omega)) ?_ | refine as_q rfl rfl (q_gt rfl rfl) ?_
  refine as_q rfl rfl (q_move rfl) ?_
  first | refine as_gskip rfl rfl rfl rfl rfl ?_ | refine as_gskipU rfl rfl rfl rfl ?_
  first | refine as_gskip rfl rfl rfl rfl rfl ?_ | refine as_gskipU rfl rfl rfl rfl ?_
  first | refine as_gskip rfl rfl rfl rfl rfl ?_ | refine as_gskipU rfl rfl rfl rfl ?_
  first | refine as_q rfl rfl (q_pick_t rfl rfl) ?_ | refine as_q rfl rfl (q_pick_f rfl rfl) ?_ | refine as_q rfl rfl (q_pick rfl rfl rfl) ?_
  refine as_q rfl rfl (q_move rfl) ?_
  first | refine as_gskip rfl rfl rfl rfl rfl ?_ | refine as_gskipU rfl rfl rfl rfl ?_
  first | refine as_gskip rfl rfl rfl rfl rfl ?_ | refine as_gskipU rfl rfl rfl rfl ?_
  first | refine as_q rfl rfl (q_pick_t rfl rfl) ?_ | refine as_q rfl rfl (q_pick_f rfl rfl) ?_ | refine as_q rfl rfl (q_pick rfl rfl rfl) ?_
  refine as_q rfl rfl (q_move rfl) ?_
  first | refine as_gskip rfl rfl rfl rfl rfl ?_ | refine as_gskipU rfl rfl rfl rfl ?_
  first | refine as_gskip rfl rfl rfl rfl rfl ?_ | refine as_gskipU rfl rfl rfl rfl ?_
  first | refine as_q rfl rfl (q_pick_t rfl rfl) ?_ | refine as_q rfl rfl (q_pick_f rfl rfl) ?_ | refine as_q rfl rfl (q_pick rfl rfl rfl) ?_
  refine as_nil (hK6 _ _ ?_)
  clear hK6 K6
  refine cw_true rfl ?_
  refine cw_rs fun K7 hK7 => ?_
  -- region 5
  refine as_q rfl rfl (q_assign rfl) ?_
  refine as_nil (hK7 _ _ ?_)
  clear hK7 K7
  refine cw_ret ?_
  exact ⟨_, (res_tmp rfl res_nil), rfl, hT⟩

theorem playsB {w0 : World} {M0 : Mem} {room : Int} {sv av : Value} {n m : Nat} {xs ys : List Int} (hs : Sat M0 w0) (hr : RdM M0 1 sv n (xs.map (.int .i64))) (ha : RdM M0 1 av m (ys.map (.int .i64))) (h1 : n ≤ 60) (h2 : 20 < m) :
    Does Try.prog 4 #[.int .i64 room, sv, av] w0 (fun v w' => v = .bool true ∧ Step Nope M0 w0 M0 w') := by
  have hT := Step.refl Nope hs
  obtain ⟨a, c, rfl, hnc, _⟩ := hr.slice
  obtain ⟨a2, c2, rfl, hnc2, _⟩ := ha.slice
  refine fn_enter Try.func4 rfl (rs := [.tmp 6]) rfl rfl rfl rfl ?_
  refine cw_rs fun K1 hK1 => ?_
  -- region 0
  refine as_q rfl rfl (q_assign rfl) ?_
  refine as_nil (hK1 _ _ ?_)
  clear hK1 K1
  refine cw_rs fun K2 hK2 => ?_
  -- region 1
  refine as_h rfl (h_call (by kernel_rfl) rfl ?_)
  refine (awake19 hs).mono ?_
  rintro _ w1 ⟨rfl, hs1⟩
  replace hT := hT.then hs1
  refine as_q rfl rfl (q_assign rfl) ?_
  refine as_nil (hK2 _ _ ?_)
  clear hK2 K2
  refine cw_seq fun K3 hK3 => ?_
  refine cw_rs fun K4 hK4 => ?_
  -- region 2
  refine as_q rfl rfl (q_move rfl) ?_
  refine as_q rfl rfl (q_not rfl) ?_
  refine as_nil (hK4 _ _ ?_)
  clear hK4 K4
  refine cw_false rfl ?_
  refine cw_skip ?_
  refine hK3 _ _ ?_
  clear hK3 K3
  refine cw_seq fun K5 hK5 => ?_
  refine cw_rs fun K6 hK6 => ?_
  -- region 4
  refine as_q rfl rfl (q_move rfl) ?_
  refine as_q rfl rfl (q_len (by kernel_rfl) rfl _) ?_
  first | refine as_q rfl rfl (q_gtT rfl rfl (by omega)) ?_ | refine as_q rfl rfl (q_gtF rfl rfl (by omega)) ?_ | refine as_q rfl rfl (q_gt rfl rfl) ?_
  refine as_q rfl rfl (q_move rfl) ?_
  first | refine as_gskip rfl rfl rfl rfl rfl ?_ | refine as_gskipU rfl rfl rfl rfl ?_ | refine as_gh rfl rfl rfl rfl (h_q rfl (q_move rfl) ?_)
  first | refine as_gskip rfl rfl rfl rfl rfl ?_ | refine as_gskipU rfl rfl rfl rfl ?_ | refine as_gh rfl rfl rfl rfl (h_q rfl (q_len (by kernel_rfl) rfl _) ?_)
  first | refine as_gskip rfl rfl rfl rfl rfl ?_ | refine as_gskipU rfl rfl rfl rfl ?_ | refine as_gh rfl rfl rfl rfl (h_q rfl (q_gtT rfl rfl (by omega)) ?_) | refine as_gh rfl rfl rfl rfl (h_q rfl (q_gtF rfl rfl (by omega)) ?_) | refine as_gh rfl rfl rfl rfl (h_q rfl (q_gt rfl rfl) ?_)
  first | refine as_q rfl rfl (q_pick_t rfl rfl) ?_ | refine as_q rfl rfl (q_pick_f rfl rfl) ?_ | refine as_q rfl rfl (q_pick rfl rfl rfl) ?_
  refine as_q rfl rfl (q_move rfl) ?_
  first | refine as_gskip rfl rfl rfl rfl rfl ?_ | refine as_gskipU rfl rfl rfl rfl ?_
  first | refine as_gskip rfl rfl rfl rfl rfl ?_ | refine as_gskipU rfl rfl rfl rfl ?_
  first | refine as_q rfl rfl (q_pick_t rfl rfl) ?_ | refine as_q rfl rfl (q_pick_f rfl rfl) ?_ | refine as_q rfl rfl (q_pick rfl rfl rfl) ?_
  refine as_q rfl rfl (q_move rfl) ?_
  first | refine as_gskip rfl rfl rfl rfl rfl ?_ | refine as_gskipU rfl rfl rfl rfl ?_
  first | refine as_gskip rfl rfl rfl rfl rfl ?_ | refine as_gskipU rfl rfl rfl rfl ?_
  first | refine as_q rfl rfl (q_pick_t rfl rfl) ?_ | refine as_q rfl rfl (q_pick_f rfl rfl) ?_ | refine as_q rfl rfl (q_pick rfl rfl rfl) ?_
  refine as_nil (hK6 _ _ ?_)
  clear hK6 K6
  refine cw_true rfl ?_
  refine cw_rs fun K7 hK7 => ?_
  -- region 5
  refine as_q rfl rfl (q_assign rfl) ?_
  refine as_nil (hK7 _ _ ?_)
  clear hK7 K7
  refine cw_ret ?_
  exact ⟨_, (res_tmp rfl res_nil), rfl, hT⟩

theorem playsC {w0 : World} {M0 : Mem} {room : Int} {sv av : Value} {n m : Nat} {xs ys : List Int} (hs : Sat M0 w0) (hr : RdM M0 1 sv n (xs.map (.int .i64))) (ha : RdM M0 1 av m (ys.map (.int .i64))) (h1 : n ≤ 60) (h2 : m ≤ 20) (h3 : 1000 < room) :
    Does Try.prog 4 #[.int .i64 room, sv, av] w0 (fun v w' => v = .bool true ∧ Step Nope M0 w0 M0 w') := by
  have hT := Step.refl Nope hs
  obtain ⟨a, c, rfl, hnc, _⟩ := hr.slice
  obtain ⟨a2, c2, rfl, hnc2, _⟩ := ha.slice
  refine fn_enter Try.func4 rfl (rs := [.tmp 6]) rfl rfl rfl rfl ?_
  refine cw_rs fun K1 hK1 => ?_
  -- region 0
  refine as_q rfl rfl (q_assign rfl) ?_
  refine as_nil (hK1 _ _ ?_)
  clear hK1 K1
  refine cw_rs fun K2 hK2 => ?_
  -- region 1
  refine as_h rfl (h_call (by kernel_rfl) rfl ?_)
  refine (awake19 hs).mono ?_
  rintro _ w1 ⟨rfl, hs1⟩
  replace hT := hT.then hs1
  refine as_q rfl rfl (q_assign rfl) ?_
  refine as_nil (hK2 _ _ ?_)
  clear hK2 K2
  refine cw_seq fun K3 hK3 => ?_
  refine cw_rs fun K4 hK4 => ?_
  -- region 2
  refine as_q rfl rfl (q_move rfl) ?_
  refine as_q rfl rfl (q_not rfl) ?_
  refine as_nil (hK4 _ _ ?_)
  clear hK4 K4
  refine cw_false rfl ?_
  refine cw_skip ?_
  refine hK3 _ _ ?_
  clear hK3 K3
  refine cw_seq fun K5 hK5 => ?_
  refine cw_rs fun K6 hK6 => ?_
  -- region 4
  refine as_q rfl rfl (q_move rfl) ?_
  refine as_q rfl rfl (q_len (by kernel_rfl) rfl _) ?_
  first | refine as_q rfl rfl (q_gtT rfl rfl (by omega)) ?_ | refine as_q rfl rfl (q_gtF rfl rfl (by omega)) ?_ | refine as_q rfl rfl (q_gt rfl rfl) ?_
  refine as_q rfl rfl (q_move rfl) ?_
  first | refine as_gskip rfl rfl rfl rfl rfl ?_ | refine as_gskipU rfl rfl rfl rfl ?_ | refine as_gh rfl rfl rfl rfl (h_q rfl (q_move rfl) ?_)
  first | refine as_gskip rfl rfl rfl rfl rfl ?_ | refine as_gskipU rfl rfl rfl rfl ?_ | refine as_gh rfl rfl rfl rfl (h_q rfl (q_len (by kernel_rfl) rfl _) ?_)
  first | refine as_gskip rfl rfl rfl rfl rfl ?_ | refine as_gskipU rfl rfl rfl rfl ?_ | refine as_gh rfl rfl rfl rfl (h_q rfl (q_gtT rfl rfl (by omega)) ?_) | refine as_gh rfl rfl rfl rfl (h_q rfl (q_gtF rfl rfl (by omega)) ?_) | refine as_gh rfl rfl rfl rfl (h_q rfl (q_gt rfl rfl) ?_)
  first | refine as_q rfl rfl (q_pick_t rfl rfl) ?_ | refine as_q rfl rfl (q_pick_f rfl rfl) ?_ | refine as_q rfl rfl (q_pick rfl rfl rfl) ?_
  refine as_q rfl rfl (q_move rfl) ?_
  first | refine as_gskip rfl rfl rfl rfl rfl ?_ | refine as_gskipU rfl rfl rfl rfl ?_ | refine as_gh rfl rfl rfl rfl (h_q rfl (q_move rfl) ?_)
  first | refine as_gskip rfl rfl rfl rfl rfl ?_ | refine as_gskipU rfl rfl rfl rfl ?_ | refine as_gh rfl rfl rfl rfl (h_q rfl (q_gtT rfl rfl (by omega)) ?_) | refine as_gh rfl rfl rfl rfl (h_q rfl (q_gtF rfl rfl (by omega)) ?_) | refine as_gh rfl rfl rfl rfl (h_q rfl (q_gt rfl rfl) ?_)
  first | refine as_q rfl rfl (q_pick_t rfl rfl) ?_ | refine as_q rfl rfl (q_pick_f rfl rfl) ?_ | refine as_q rfl rfl (q_pick rfl rfl rfl) ?_
  refine as_q rfl rfl (q_move rfl) ?_
  first | refine as_gskip rfl rfl rfl rfl rfl ?_ | refine as_gskipU rfl rfl rfl rfl ?_
  first | refine as_gskip rfl rfl rfl rfl rfl ?_ | refine as_gskipU rfl rfl rfl rfl ?_
  first | refine as_q rfl rfl (q_pick_t rfl rfl) ?_ | refine as_q rfl rfl (q_pick_f rfl rfl) ?_ | refine as_q rfl rfl (q_pick rfl rfl rfl) ?_
  refine as_nil (hK6 _ _ ?_)
  clear hK6 K6
  refine cw_true rfl ?_
  refine cw_rs fun K7 hK7 => ?_
  -- region 5
  refine as_q rfl rfl (q_assign rfl) ?_
  refine as_nil (hK7 _ _ ?_)
  clear hK7 K7
  refine cw_ret ?_
  exact ⟨_, (res_tmp rfl res_nil), rfl, hT⟩

theorem playsD {w0 : World} {M0 : Mem} {room : Int} {sv av : Value} {n m : Nat} {xs ys : List Int} (hs : Sat M0 w0) (hr : RdM M0 1 sv n (xs.map (.int .i64))) (ha : RdM M0 1 av m (ys.map (.int .i64))) (h1 : n ≤ 60) (h2 : m ≤ 20) (h3 : room < -1000) :
    Does Try.prog 4 #[.int .i64 room, sv, av] w0 (fun v w' => v = .bool true ∧ Step Nope M0 w0 M0 w') := by
  have hT := Step.refl Nope hs
  obtain ⟨a, c, rfl, hnc, _⟩ := hr.slice
  obtain ⟨a2, c2, rfl, hnc2, _⟩ := ha.slice
  refine fn_enter Try.func4 rfl (rs := [.tmp 6]) rfl rfl rfl rfl ?_
  refine cw_rs fun K1 hK1 => ?_
  -- region 0
  refine as_q rfl rfl (q_assign rfl) ?_
  refine as_nil (hK1 _ _ ?_)
  clear hK1 K1
  refine cw_rs fun K2 hK2 => ?_
  -- region 1
  refine as_h rfl (h_call (by kernel_rfl) rfl ?_)
  refine (awake19 hs).mono ?_
  rintro _ w1 ⟨rfl, hs1⟩
  replace hT := hT.then hs1
  refine as_q rfl rfl (q_assign rfl) ?_
  refine as_nil (hK2 _ _ ?_)
  clear hK2 K2
  refine cw_seq fun K3 hK3 => ?_
  refine cw_rs fun K4 hK4 => ?_
  -- region 2
  refine as_q rfl rfl (q_move rfl) ?_
  refine as_q rfl rfl (q_not rfl) ?_
  refine as_nil (hK4 _ _ ?_)
  clear hK4 K4
  refine cw_false rfl ?_
  refine cw_skip ?_
  refine hK3 _ _ ?_
  clear hK3 K3
  refine cw_seq fun K5 hK5 => ?_
  refine cw_rs fun K6 hK6 => ?_
  -- region 4
  refine as_q rfl rfl (q_move rfl) ?_
  refine as_q rfl rfl (q_len (by kernel_rfl) rfl _) ?_
  first | refine as_q rfl rfl (q_gtT rfl rfl (by omega)) ?_ | refine as_q rfl rfl (q_gtF rfl rfl (by omega)) ?_ | refine as_q rfl rfl (q_gt rfl rfl) ?_
  refine as_q rfl rfl (q_move rfl) ?_
  first | refine as_gskip rfl rfl rfl rfl rfl ?_ | refine as_gskipU rfl rfl rfl rfl ?_ | refine as_gh rfl rfl rfl rfl (h_q rfl (q_move rfl) ?_)
  first | refine as_gskip rfl rfl rfl rfl rfl ?_ | refine as_gskipU rfl rfl rfl rfl ?_ | refine as_gh rfl rfl rfl rfl (h_q rfl (q_len (by kernel_rfl) rfl _) ?_)
  first | refine as_gskip rfl rfl rfl rfl rfl ?_ | refine as_gskipU rfl rfl rfl rfl ?_ | refine as_gh rfl rfl rfl rfl (h_q rfl (q_gtT rfl rfl (by omega)) ?_) | refine as_gh rfl rfl rfl rfl (h_q rfl (q_gtF rfl rfl (by omega)) ?_) | refine as_gh rfl rfl rfl rfl (h_q rfl (q_gt rfl rfl) ?_)
  first | refine as_q rfl rfl (q_pick_t rfl rfl) ?_ | refine as_q rfl rfl (q_pick_f rfl rfl) ?_ | refine as_q rfl rfl (q_pick rfl rfl rfl) ?_
  refine as_q rfl rfl (q_move rfl) ?_
  first | refine as_gskip rfl rfl rfl rfl rfl ?_ | refine as_gskipU rfl rfl rfl rfl ?_ | refine as_gh rfl rfl rfl rfl (h_q rfl (q_move rfl) ?_)
  first | refine as_gskip rfl rfl rfl rfl rfl ?_ | refine as_gskipU rfl rfl rfl rfl ?_ | refine as_gh rfl rfl rfl rfl (h_q rfl (q_gtT rfl rfl (by omega)) ?_) | refine as_gh rfl rfl rfl rfl (h_q rfl (q_gtF rfl rfl (by omega)) ?_) | refine as_gh rfl rfl rfl rfl (h_q rfl (q_gt rfl rfl) ?_)
  first | refine as_q rfl rfl (q_pick_t rfl rfl) ?_ | refine as_q rfl rfl (q_pick_f rfl rfl) ?_ | refine as_q rfl rfl (q_pick rfl rfl rfl) ?_
  refine as_q rfl rfl (q_move rfl) ?_
  first | refine as_gskip rfl rfl rfl rfl rfl ?_ | refine as_gskipU rfl rfl rfl rfl ?_ | refine as_gh rfl rfl rfl rfl (h_q rfl (q_move rfl) ?_)
  first | refine as_gskip rfl rfl rfl rfl rfl ?_ | refine as_gskipU rfl rfl rfl rfl ?_ | refine as_gh rfl rfl rfl rfl (h_q rfl (q_ltT rfl rfl (by omega)) ?_) | refine as_gh rfl rfl rfl rfl (h_q rfl (q_ltF rfl rfl (by omega)) ?_) | refine as_gh rfl rfl rfl rfl (h_q rfl (q_lt rfl rfl) ?_)
  first | refine as_q rfl rfl (q_pick_t rfl rfl) ?_ | refine as_q rfl rfl (q_pick_f rfl rfl) ?_ | refine as_q rfl rfl (q_pick rfl rfl rfl) ?_
  refine as_nil (hK6 _ _ ?_)
  clear hK6 K6
  refine cw_true rfl ?_
  refine cw_rs fun K7 hK7 => ?_
  -- region 5
  refine as_q rfl rfl (q_assign rfl) ?_
  refine as_nil (hK7 _ _ ?_)
  clear hK7 K7
  refine cw_ret ?_
  exact ⟨_, (res_tmp rfl res_nil), rfl, hT⟩

theorem get_take_map' {xs : List Int} {p : Int} {k : Nat} (h0 : 0 ≤ p) (h1 : p < k) (h2 : p < xs.length) : ((xs.take k).map (Value.int .i64))[p.toNat]? = some (.int .i64 (xs[p.toNat]'(by omega))) := by
  have h := get_take_map (Value.int .i64) xs (j := p.toNat) (k := k) (by omega) (by omega)
  rw [Int.toNat_natCast] at h
  exact h

set_option maxHeartbeats 4000000 in
theorem plays_main {w0 : World} {M0 : Mem} {room : Int} {sv av : Value} {n m : Nat} {xs ys : List Int} (hs : Sat M0 w0) (hr : RdM M0 1 sv n (xs.map (.int .i64))) (ha : RdM M0 1 av m (ys.map (.int .i64))) {rm : Int} (h1 : n ≤ 60) (h2 : m ≤ 20) (h3 : room ≤ 1000) (h4 : -1000 ≤ room) (hroom : (if 0 > room then 0 else room) = rm) (hrm0 : 0 ≤ rm) (hrm1 : rm ≤ 1000) :
    Does Try.prog 4 #[.int .i64 room, sv, av] w0 (fun v w' => v = .bool true ∧ Step Nope M0 w0 M0 w') := by
  have hT := Step.refl Nope hs
  obtain ⟨a, c, rfl, hnc, _⟩ := hr.slice
  obtain ⟨a2, c2, rfl, hnc2, _⟩ := ha.slice
  have hlen : xs.length = n := by have := hr.1; simpa using this
  have hlen2 : ys.length = m := by have := ha.1; simpa using this
  have hsome : 0 < n → ∃ g o, a = some ⟨g, o, none⟩ := hr.there
  have hsome2 : 0 < m → ∃ g o, a2 = some ⟨g, o, none⟩ := ha.there
  refine fn_enter Try.func4 rfl (rs := [.tmp 6]) rfl rfl rfl rfl ?_
  refine cw_rs fun K1 hK1 => ?_
  -- region 0
  refine as_q rfl rfl (q_assign rfl) ?_
  refine as_nil (hK1 _ _ ?_)
  clear hK1 K1
  refine cw_rs fun K2 hK2 => ?_
  -- region 1
  refine as_h rfl (h_call (by kernel_rfl) rfl ?_)
  refine (awake19 hs).mono ?_
  rintro _ w1 ⟨rfl, hs1⟩
  replace hT := hT.then hs1
  have hz1 := hs1.size
  refine as_q rfl rfl (q_assign rfl) ?_
  refine as_nil (hK2 _ _ ?_)
  clear hK2 K2
  refine cw_seq fun K3 hK3 => ?_
  refine cw_rs fun K4 hK4 => ?_
  -- region 2
  refine as_q rfl rfl (q_move rfl) ?_
  refine as_q rfl rfl (q_not rfl) ?_
  refine as_nil (hK4 _ _ ?_)
  clear hK4 K4
  refine cw_false rfl ?_
  refine cw_skip ?_
  refine hK3 _ _ ?_
  clear hK3 K3
  refine cw_seq fun K5 hK5 => ?_
  refine cw_rs fun K6 hK6 => ?_
  -- region 4
  refine as_q rfl rfl (q_move rfl) ?_
  refine as_q rfl rfl (q_len (by kernel_rfl) rfl _) ?_
  first | refine as_q rfl rfl (q_gtT rfl rfl (by omega)) ?_ | refine as_q rfl rfl (q_gtF rfl rfl (by omega)) ?_ | refine as_q rfl rfl (q_gt rfl rfl) ?_
  refine as_q rfl rfl (q_move rfl) ?_
  first | refine as_gskip rfl rfl rfl rfl rfl ?_ | refine as_gskipU rfl rfl rfl rfl ?_ | refine as_gh rfl rfl rfl rfl (h_q rfl (q_move rfl) ?_)
  first | refine as_gskip rfl rfl rfl rfl rfl ?_ | refine as_gskipU rfl rfl rfl rfl ?_ | refine as_gh rfl rfl rfl rfl (h_q rfl (q_len (by kernel_rfl) rfl _) ?_)
  first | refine as_gskip rfl rfl rfl rfl rfl ?_ | refine as_gskipU rfl rfl rfl rfl ?_ | refine as_gh rfl rfl rfl rfl (h_q rfl (q_gtT rfl rfl (by omega)) ?_) | refine as_gh rfl rfl rfl rfl (h_q rfl (q_gtF rfl rfl (by omega)) ?_) | refine as_gh rfl rfl rfl rfl (h_q rfl (q_gt rfl rfl) ?_)
  first | refine as_q rfl rfl (q_pick_t rfl rfl) ?_ | refine as_q rfl rfl (q_pick_f rfl rfl) ?_ | refine as_q rfl rfl (q_pick rfl rfl rfl) ?_
  refine as_q rfl rfl (q_move rfl) ?_
  first | refine as_gskip rfl rfl rfl rfl rfl ?_ | refine as_gskipU rfl rfl rfl rfl ?_ | refine as_gh rfl rfl rfl rfl (h_q rfl (q_move rfl) ?_)
  first | refine as_gskip rfl rfl rfl rfl rfl ?_ | refine as_gskipU rfl rfl rfl rfl ?_ | refine as_gh rfl rfl rfl rfl (h_q rfl (q_gtT rfl rfl (by omega)) ?_) | refine as_gh rfl rfl rfl rfl (h_q rfl (q_gtF rfl rfl (by omega)) ?_) | refine as_gh rfl rfl rfl rfl (h_q rfl (q_gt rfl rfl) ?_)
  first | refine as_q rfl rfl (q_pick_t rfl rfl) ?_ | refine as_q rfl rfl (q_pick_f rfl rfl) ?_ | refine as_q rfl rfl (q_pick rfl rfl rfl) ?_
  refine as_q rfl rfl (q_move rfl) ?_
  first | refine as_gskip rfl rfl rfl rfl rfl ?_ | refine as_gskipU rfl rfl rfl rfl ?_ | refine as_gh rfl rfl rfl rfl (h_q rfl (q_move rfl) ?_)
  first | refine as_gskip rfl rfl rfl rfl rfl ?_ | refine as_gskipU rfl rfl rfl rfl ?_ | refine as_gh rfl rfl rfl rfl (h_q rfl (q_ltT rfl rfl (by omega)) ?_) | refine as_gh rfl rfl rfl rfl (h_q rfl (q_ltF rfl rfl (by omega)) ?_) | refine as_gh rfl rfl rfl rfl (h_q rfl (q_lt rfl rfl) ?_)
  first | refine as_q rfl rfl (q_pick_t rfl rfl) ?_ | refine as_q rfl rfl (q_pick_f rfl rfl) ?_ | refine as_q rfl rfl (q_pick rfl rfl rfl) ?_
  refine as_nil (hK6 _ _ ?_)
  clear hK6 K6
  refine cw_false rfl ?_
  refine cw_skip ?_
  refine hK5 _ _ ?_
  clear hK5 K5
  refine cw_rs fun K7 hK7 => ?_
  -- region 6
  refine as_q rfl rfl (q_move rfl) ?_
  refine as_h rfl (h_call (by kernel_rfl) rfl ?_)
  refine (new_int2 (B := w0.heap.size) hs1.sat hT.size hroom).mono ?_
  rintro _ w2 ⟨b, rfl, hs2, ht⟩
  replace hT := hT.then hs2
  have hz2 := hs2.size
  refine as_q rfl rfl (q_assign rfl) ?_
  refine as_nil (hK7 _ _ ?_)
  clear hK7 K7
  refine cw_rs fun K8 hK8 => ?_
  -- region 7
  refine as_q rfl rfl (q_move rfl) ?_
  refine as_h rfl (h_call (by kernel_rfl) rfl ?_)
  have hbw := ht.own.1.lt
  refine (refNew hs2.sat hroom).mono ?_
  rintro _ w3 ⟨rfl, hs3⟩
  replace ht := ht.then hs3
  replace hT := hT.then hs3
  have hz3 := hs3.size
  refine as_h rfl (h_allocO (z := (.agg #[(.slice none 0 0), (.int .i64 0)])) hs3.sat (by kernel_rfl) rfl fun b4 w4 hs4 ho4 e4 => ?_)
  replace ht := ht.then hs4
  replace hT := hT.then hs4
  have hz4 := hs4.size
  have hl4 := ho4.1.lt
  refine as_h0 (h_store hs4.sat ho4 rfl rfl rfl (by kernel_rfl) rfl rfl rfl fun w5 hs5 hn5 => ?_)
  replace ht := ht.just hs5 (by omega) (by simp [Value.ownBlock])
  clear ho4; have ho4 := hn5; clear hn5
  replace hT := hT.own hs5 (by omega)
  have hz5 := hs5.size
  refine as_nil (hK8 _ _ ?_)
  clear hK8 K8
  refine cw_seq fun K9 hK9 => ?_
  refine cw_rs fun K10 hK10 => ?_
  have hbr : b ≠ b4 := by omega
  have hrB : w0.heap.size ≤ b4 := by have := hT.size; omega
  obtain ⟨r, rfl⟩ : ∃ r, r = b4 := ⟨_, rfl⟩
  have ho := ho4
  clear ho4
  -- region 8
  refine as_q rfl rfl (q_assign rfl) ?_
  refine as_nil (hK10 _ _ ?_)
  clear hK10 K10
  refine cw_block ?_
  refine cw_loop (fun mm l w => ∃ (i k : Nat) (tv : Value) (la : Option Addr) (lc : Nat), mm = n - i ∧ i ≤ n ∧ ((i : Int) ≤ rm ∧ k = i ∨ rm < i ∧ (k : Int) = rm) ∧ l = [(0, .int .i64 room), (1, .slice a n c), (2, .slice a2 m c2), (8, .pointer (some ⟨b, 0, none⟩)), (9, .pointer (some ⟨r, 0, none⟩)), (10, .int .i64 i)] ∧ Step Nope M0 w0 M0 w ∧ Tbl 88 3 1 w0.heap.size w M0 b tv k ((xs.take (k)).map (.int .i64)) rm ∧ Own w M0 r [.slice la k lc, .int .i64 rm] 38 ∧ Buf w M0 3 1 (.slice la k lc) k ((xs.take (k)).map (.int .i64)) ∧ tv.ownBlock ≠ some r ∧ (∀ g, (.slice la k lc : Value).ownBlock = some g → g ≠ b ∧ g ≠ r ∧ tv.ownBlock ≠ some g ∧ w0.heap.size ≤ g)) (n) [(0, .int .i64 room), (1, .slice a n c), (2, .slice a2 m c2), (8, .pointer (some ⟨b, 0, none⟩)), (9, .pointer (some ⟨r, 0, none⟩)), (10, .int .i64 (0 : Nat))] (.cons rfl (.cons rfl (.cons rfl (.cons rfl (.cons rfl (.cons rfl (.nil _))))))) ?_ ?_
  · skip
    exact ⟨0, 0, _, _, _, rfl, Nat.zero_le _, .inl ⟨by omega, rfl⟩, rfl, hT, ht, ho, Buf.nil _ _ _ _, by simp [Value.ownBlock], fun g hg => by cases hg⟩
  clear ht hT ho
  rintro mm l w ⟨i, k, tv, la, lc, rfl, hi, hk, rfl, hT, ht, ho, hb, htr, hlb⟩
  refine cw_seq fun K11 hK11 => ?_
  refine cw_rs fun K12 hK12 => ?_
  -- region 9
  refine as_q rfl rfl (q_move rfl) ?_
  refine as_q rfl rfl (q_move rfl) ?_
  refine as_q rfl rfl (q_len (by kernel_rfl) rfl _) ?_
  first | refine as_q rfl rfl (q_ltT rfl rfl (by omega)) ?_ | refine as_q rfl rfl (q_ltF rfl rfl (by omega)) ?_ | refine as_q rfl rfl (q_lt rfl rfl) ?_
  refine as_nil (hK12 _ _ ?_)
  clear hK12 K12
  refine cw_cond rfl (fun hc2 => ?_) (fun hc2 => ?_)
  · skip
    have hlt : i < n := by have := of_decide_eq_true hc2; omega
    obtain ⟨g, o, rfl⟩ := hsome (by omega)
    have hxl : i < xs.length := by omega
    obtain ⟨q, hqi⟩ : ∃ q, xs[i]? = some q := ⟨xs[i], by simp⟩
    rcases Int.lt_or_le i rm with hroom1 | hroom1
    · skip
      obtain rfl : k = i := by omega
      have htk : xs.take (k + 1) = xs.take k ++ [q] := by
        rw [List.take_succ_eq_append_getElem hxl]
        congr 2
        simpa [hxl] using hqi
      refine cw_skip ?_
      refine hK11 _ _ ?_
      clear hK11 K11
      refine cw_seq fun K13 hK13 => ?_
      refine cw_block ?_
      refine cw_rs fun K14 hK14 => ?_
      -- region 11
      refine as_q rfl rfl (q_move rfl) ?_
      refine as_q rfl rfl (q_move rfl) ?_
      refine as_q rfl rfl (q_move rfl) ?_
      refine as_q rfl rfl (q_indexAddr (e := 3) (size := 1) (by kernel_rfl) (by kernel_rfl) rfl rfl (by omega) (by omega)) ?_
      refine as_q rfl rfl (q_load1 (by kernel_rfl) rfl (hr.cell hT.sat (u := .int .i64 q) (by simp [hqi]))) ?_
      refine as_h rfl (h_call (by kernel_rfl) rfl ?_)
      have hrw := ho.1.lt
      have hlw := hb.lt
      refine (add_int hT.sat ht (by omega) (by omega) (by omega) (by omega) hT.size).mono ?_
      rintro _ w6 ⟨sv6, rfl, hs6, ht6, hfr6⟩
      replace hT := step_add hT hs6 ht.hb ht.hsv
      replace ho := ho.step hs6 (fun h => h.elim (fun h => hbr h.symm) htr)
      replace hb := hb.step hs6 (fun g hg h => h.elim (hlb g hg).1 (hlb g hg).2.2.1)
      replace hlb : ∀ g, (.slice la k lc : Value).ownBlock = some g → g ≠ b ∧ g ≠ r ∧ sv6.ownBlock ≠ some g ∧ w0.heap.size ≤ g := fun g hg => by
        obtain ⟨h1, h2, h3, h4⟩ := hlb g hg
        refine ⟨h1, h2, ?_, h4⟩
        rcases hfr6 with h | h
        · rw [h]; exact h3
        · intro h5; have := h g h5; have := hlw g hg; omega
      replace htr : sv6.ownBlock ≠ some r := by
        rcases hfr6 with h | h
        · rw [h]; exact htr
        · intro h2; have := h r h2; omega
      clear ht; have ht := ht6; clear ht6
      rw [show List.map (Value.int .i64) (xs.take k) ++ [Value.int .i64 q] = List.map (Value.int .i64) (xs.take (k + 1)) from by rw [htk]; simp] at ht
      refine as_q rfl rfl (q_move rfl) ?_
      refine as_q rfl rfl (q_extract rfl rfl) ?_
      refine as_q rfl rfl (q_extract rfl rfl) ?_
      refine as_q rfl rfl (q_assign rfl) ?_
      refine as_q rfl rfl (q_assign rfl) ?_
      refine as_nil (hK14 _ _ ?_)
      clear hK14 K14
      refine cw_rdS (fun l w => ∃ (d : Nat) (ma : Option Addr) (mc : Nat), l = [(0, .int .i64 room), (1, .slice (some ⟨g, o, none⟩) n c), (2, .slice a2 m c2), (8, .pointer (some ⟨b, 0, none⟩)), (9, .pointer (some ⟨r, 0, none⟩)), (10, .int .i64 k), (11, .int .i64 k), (12, .int .i64 0), (13, .pointer (some ⟨d, 0, none⟩)), (14, .bool true)] ∧ Step Nope M0 w0 M0 w ∧ Tbl 88 3 1 w0.heap.size w M0 b sv6 (k + 1) ((xs.take (k + 1)).map (.int .i64)) rm ∧ Own w M0 r [.slice la k lc, .int .i64 rm] 38 ∧ Buf w M0 3 1 (.slice la k lc) k ((xs.take (k)).map (.int .i64)) ∧ Own w M0 d [.slice ma (k + 1) mc, .int .i64 rm] 38 ∧ Buf w M0 3 1 (.slice ma (k + 1) mc) (k + 1) ((xs.take (k + 1)).map (.int .i64)) ∧ r ≠ d ∧ b ≠ d ∧ sv6.ownBlock ≠ some d ∧ (∀ g, (.slice ma (k + 1) mc : Value).ownBlock = some g → g ≠ b ∧ g ≠ r ∧ g ≠ d ∧ sv6.ownBlock ≠ some g ∧ w0.heap.size ≤ g)) (by kernel_rfl) (by kernel_rfl) (by kernel_rfl) rfl rfl ?_ ?_
      · skip
        have qb := ht.own.1.lt
        have qr := ho.1.lt
        have qt := ht.buf.lt
        have ql := hb.lt
        have qz := hT.size
        -- region 12
        have hs7 := Step.drew hs6.sat
        have hz7 := hs7.size
        replace ht := ht.then hs7
        replace ho := ho.then hs7
        replace hb := hb.then hs7
        replace hT := hT.then hs7
        refine at_l (i := 0) (li := #[true, false, false, false, false, false, false, false, false, false, false, false]) (cellsAre _ _ 2 _) rfl (by kernel_rfl) rfl (fun _ h => q_loadc (n := 2) (by kernel_rfl) rfl h) (by first | exact Blk.cells ht.own.1 rfl | exact Blk.cells ho.1 rfl | assumption) (by kernel_rfl) ?_
        refine at_q (i := 1) (li := #[true, true, false, false, false, false, false, false, false, false, false, false]) rfl (by kernel_rfl) rfl (fun _ => (q_move rfl)) (by kernel_rfl) ?_
        refine at_q (i := 2) (li := #[true, true, true, false, false, false, false, false, false, false, false, false]) rfl (by kernel_rfl) rfl (fun _ => (q_move rfl)) (by kernel_rfl) ?_
        refine at_q (i := 3) (li := #[true, true, true, true, false, false, false, false, false, false, false, false]) rfl (by kernel_rfl) rfl (fun _ => (q_indexAddr (e := 3) (size := 1) (by kernel_rfl) (by kernel_rfl) rfl rfl (by omega) (by omega))) (by kernel_rfl) ?_
        refine at_l (i := 4) (li := #[true, true, true, true, true, false, false, false, false, false, false, false]) (cellIs _ _ _) rfl (by kernel_rfl) rfl (fun _ h => q_load1 (by kernel_rfl) rfl h) (hr.cell hT.sat (u := .int .i64 q) (by simp [hqi])) (by kernel_rfl) ?_
        refine at_two (i := 5) (j := 9) (by kernel_rfl) ?_ ?_
        · skip
          refine ah_h (i := 5) (li := #[true, true, true, true, true, true, false, false, false, false, false, false]) rfl rfl (keep_sift (bs := [true, true]) (by kernel_rfl)) (by kernel_rfl) (h_call (by kernel_rfl) rfl ?_)
          refine (refAdd_room hs7.sat (fun w' h => (hb.then h).rd) (fun x hx => by obtain ⟨s, _, rfl⟩ := List.mem_map.1 hx; rfl) (by omega) (by omega)).mono ?_
          rintro _ w8 ⟨l2, rfl, hs8, hb2, hf2⟩
          replace ht := ht.then hs8
          replace ho := ho.then hs8
          replace hb := hb.then hs8
          replace hT := hT.then hs8
          have hz8 := hs8.size
          have hlc := hb2.lt
          obtain ⟨ma, mc, rfl, _⟩ := hb2.slice
          rw [show List.map (Value.int .i64) (xs.take k) ++ [Value.int .i64 q] = List.map (Value.int .i64) (xs.take (k + 1)) from by rw [htk]; simp] at hb2
          refine ⟨(by repeat' first | exact trivial | exact Blk.cell ht.own.1 rfl | exact Blk.cells ht.own.1 rfl | exact Blk.cell ho.1 rfl | exact Blk.cells ho.1 rfl | exact (hr.cell hT.sat (u := .int .i64 q) (by simp [hqi])) | assumption | refine all_keep ?_ | refine And.intro ?_ ?_), ?_⟩
          refine at_q (i := 6) (li := #[true, true, true, true, true, true, true, false, false, false, false, false]) rfl (by kernel_rfl) rfl (fun _ => (q_move rfl)) (by kernel_rfl) ?_
          refine at_q (i := 7) (li := #[true, true, true, true, true, true, true, true, false, false, false, false]) rfl (by kernel_rfl) rfl (fun _ => (q_extract rfl rfl)) (by kernel_rfl) ?_
          refine at_q (i := 8) (li := #[true, true, true, true, true, true, true, true, true, false, false, false]) rfl (by kernel_rfl) rfl (fun _ => (q_extract rfl rfl)) (by kernel_rfl) ?_
          refine at_h (i := 9) (li := #[true, true, true, true, true, true, true, true, true, true, false, false]) rfl (by kernel_rfl) rfl rfl (by kernel_rfl) (h_allocO (z := (.agg #[(.slice none 0 0), (.int .i64 0)])) hs8.sat (by kernel_rfl) rfl fun b9 w9 hs9 ho9 e9 => ?_)
          replace ht := ht.then hs9
          replace ho := ho.then hs9
          replace hb := hb.then hs9
          replace hb2 := hb2.then hs9
          replace hT := hT.then hs9
          have hz9 := hs9.size
          have hl9 := ho9.1.lt
          refine ⟨(by repeat' first | exact trivial | exact Blk.cell ht.own.1 rfl | exact Blk.cells ht.own.1 rfl | exact Blk.cell ho.1 rfl | exact Blk.cells ho.1 rfl | exact Blk.cell ho9.1 rfl | exact Blk.cells ho9.1 rfl | exact (hr.cell hT.sat (u := .int .i64 q) (by simp [hqi])) | assumption | refine all_keep ?_ | refine And.intro ?_ ?_), ?_⟩
          refine at_h0 (i := 10) (li := #[true, true, true, true, true, true, true, true, true, true, true, false]) rfl (by kernel_rfl) rfl (by kernel_rfl) (h_store hs9.sat ho9 rfl rfl rfl (by kernel_rfl) rfl rfl rfl fun w10 hs10 hn10 => ?_)
          replace ht := ht.just hs10 (by omega) (fun h => by have := qt _ h; omega)
          replace ho := ho.step hs10 (fun h => by have h : _ = _ := h; omega)
          replace hb := hb.step hs10 (fun g hg h => by have h : g = b9 := h; have := ql g hg; omega)
          replace hb2 := hb2.step hs10 (fun g hg h => by have h : g = b9 := h; have h1 := hf2 g hg; have h2 := hlc g hg; omega)
          clear ho9; have ho9 := hn10; clear hn10
          replace hT := hT.own hs10 (by omega)
          have hz10 := hs10.size
          refine ⟨(by repeat' first | exact trivial | exact Blk.cell ht.own.1 rfl | exact Blk.cells ht.own.1 rfl | exact Blk.cell ho.1 rfl | exact Blk.cells ho.1 rfl | exact Blk.cell ho9.1 rfl | exact Blk.cells ho9.1 rfl | exact (hr.cell hT.sat (u := .int .i64 q) (by simp [hqi])) | assumption | refine all_keep ?_ | refine And.intro ?_ ?_), ?_⟩
          refine at_q (i := 11) (li := #[true, true, true, true, true, true, true, true, true, true, true, true]) rfl (by kernel_rfl) rfl (fun _ => (q_assign rfl)) (by kernel_rfl) ?_
          refine at_done (by kernel_rfl) ?_
          exact ⟨_, (.cons rfl (.cons rfl (.cons rfl (.cons rfl (.cons rfl (.cons rfl (.cons rfl (.cons rfl (.cons rfl (.cons rfl (.nil _))))))))))), b9, ma, mc, rfl, hT, ht, ho, hb, ho9, hb2, by omega, by omega, fun h => by have := qt _ h; omega, fun g hg => by
            have h1 := hf2 g hg
            have h2 := hlc g hg
            have h3 := hT.size
            refine ⟨by omega, by omega, by omega, fun h => ?_, by omega⟩
            have := qt g h
            omega⟩
        · skip
          refine ah_h (i := 9) (li := #[true, true, true, true, true, false, false, false, false, true, false, false]) rfl rfl (keep_sift (bs := [false, false]) (by kernel_rfl)) (by kernel_rfl) (h_allocO (z := (.agg #[(.slice none 0 0), (.int .i64 0)])) hs7.sat (by kernel_rfl) rfl fun b11 w11 hs11 ho11 e11 => ?_)
          replace ht := ht.then hs11
          replace ho := ho.then hs11
          replace hb := hb.then hs11
          replace hT := hT.then hs11
          have hz11 := hs11.size
          have hl11 := ho11.1.lt
          refine ⟨(by repeat' first | exact trivial | exact Blk.cell ht.own.1 rfl | exact Blk.cells ht.own.1 rfl | exact Blk.cell ho.1 rfl | exact Blk.cells ho.1 rfl | exact Blk.cell ho11.1 rfl | exact Blk.cells ho11.1 rfl | exact (hr.cell hT.sat (u := .int .i64 q) (by simp [hqi])) | assumption | refine all_keep ?_ | refine And.intro ?_ ?_), ?_⟩
          refine at_h (i := 5) (li := #[true, true, true, true, true, true, false, false, false, true, false, false]) rfl (by kernel_rfl) rfl (keep_sift (bs := [true, true]) (by kernel_rfl)) (by kernel_rfl) (h_call (by kernel_rfl) rfl ?_)
          refine (refAdd_room hs11.sat (fun w' h => (hb.then h).rd) (fun x hx => by obtain ⟨s, _, rfl⟩ := List.mem_map.1 hx; rfl) (by omega) (by omega)).mono ?_
          rintro _ w12 ⟨l2, rfl, hs12, hb2, hf2⟩
          replace ht := ht.then hs12
          replace ho := ho.then hs12
          replace hb := hb.then hs12
          replace ho11 := ho11.then hs12
          replace hT := hT.then hs12
          have hz12 := hs12.size
          have hlc := hb2.lt
          obtain ⟨ma, mc, rfl, _⟩ := hb2.slice
          rw [show List.map (Value.int .i64) (xs.take k) ++ [Value.int .i64 q] = List.map (Value.int .i64) (xs.take (k + 1)) from by rw [htk]; simp] at hb2
          refine ⟨(by repeat' first | exact trivial | exact Blk.cell ht.own.1 rfl | exact Blk.cells ht.own.1 rfl | exact Blk.cell ho.1 rfl | exact Blk.cells ho.1 rfl | exact Blk.cell ho11.1 rfl | exact Blk.cells ho11.1 rfl | exact (hr.cell hT.sat (u := .int .i64 q) (by simp [hqi])) | assumption | refine all_keep ?_ | refine And.intro ?_ ?_), ?_⟩
          refine at_q (i := 6) (li := #[true, true, true, true, true, true, true, false, false, true, false, false]) rfl (by kernel_rfl) rfl (fun _ => (q_move rfl)) (by kernel_rfl) ?_
          refine at_q (i := 7) (li := #[true, true, true, true, true, true, true, true, false, true, false, false]) rfl (by kernel_rfl) rfl (fun _ => (q_extract rfl rfl)) (by kernel_rfl) ?_
          refine at_q (i := 8) (li := #[true, true, true, true, true, true, true, true, true, true, false, false]) rfl (by kernel_rfl) rfl (fun _ => (q_extract rfl rfl)) (by kernel_rfl) ?_
          refine at_h0 (i := 10) (li := #[true, true, true, true, true, true, true, true, true, true, true, false]) rfl (by kernel_rfl) rfl (by kernel_rfl) (h_store hs12.sat ho11 rfl rfl rfl (by kernel_rfl) rfl rfl rfl fun w13 hs13 hn13 => ?_)
          replace ht := ht.just hs13 (by omega) (fun h => by have := qt _ h; omega)
          replace ho := ho.step hs13 (fun h => by have h : _ = _ := h; omega)
          replace hb := hb.step hs13 (fun g hg h => by have h : g = b11 := h; have := ql g hg; omega)
          replace hb2 := hb2.step hs13 (fun g hg h => by have h : g = b11 := h; have h1 := hf2 g hg; have h2 := hlc g hg; omega)
          clear ho11; have ho11 := hn13; clear hn13
          replace hT := hT.own hs13 (by omega)
          have hz13 := hs13.size
          refine ⟨(by repeat' first | exact trivial | exact Blk.cell ht.own.1 rfl | exact Blk.cells ht.own.1 rfl | exact Blk.cell ho.1 rfl | exact Blk.cells ho.1 rfl | exact Blk.cell ho11.1 rfl | exact Blk.cells ho11.1 rfl | exact (hr.cell hT.sat (u := .int .i64 q) (by simp [hqi])) | assumption | refine all_keep ?_ | refine And.intro ?_ ?_), ?_⟩
          refine at_q (i := 11) (li := #[true, true, true, true, true, true, true, true, true, true, true, true]) rfl (by kernel_rfl) rfl (fun _ => (q_assign rfl)) (by kernel_rfl) ?_
          refine at_done (by kernel_rfl) ?_
          exact ⟨_, (.cons rfl (.cons rfl (.cons rfl (.cons rfl (.cons rfl (.cons rfl (.cons rfl (.cons rfl (.cons rfl (.cons rfl (.nil _))))))))))), b11, ma, mc, rfl, hT, ht, ho, hb, ho11, hb2, by omega, by omega, fun h => by have := qt _ h; omega, fun g hg => by
            have h1 := hf2 g hg
            have h2 := hlc g hg
            have h3 := hT.size
            refine ⟨by omega, by omega, by omega, fun h => ?_, by omega⟩
            have := qt g h
            omega⟩
      clear hT ht ho hb
      rintro l w ⟨d, ma, mc, rfl, hT, ht, ho, hb0, hod, hb, hrd, hbd, htd, hlb2⟩
      refine cw_rs fun K16 hK16 => ?_
      -- region 13
      refine as_q rfl rfl (q_loadc (n := 2) (by kernel_rfl) rfl (by first | exact Blk.cells ht.own.1 rfl | exact Blk.cells ho.1 rfl | exact Blk.cells hod.1 rfl | assumption)) ?_
      refine as_h0 (h_store hT.sat ho rfl rfl rfl (by kernel_rfl) rfl rfl rfl fun w14 hs14 hn14 => ?_)
      replace ht := ht.just hs14 (fun h => hbr h) htr
      replace hod := hod.step hs14 (fun h => hrd (Eq.symm h))
      replace hb := hb.step hs14 (fun g hg h => (hlb2 g hg).2.1 h)
      clear ho; have ho := hn14; clear hn14
      replace hT := hT.own hs14 (by omega)
      have hz14 := hs14.size
      refine as_nil (hK16 _ _ ?_)
      clear hK16 K16
      refine cw_rd (by kernel_rfl) (by kernel_rfl) (by kernel_rfl) rfl rfl fun K17 hK17 => ?_
      clear hb0 hlb
      have hlb := fun g hg => (⟨(hlb2 g hg).1, (hlb2 g hg).2.1, (hlb2 g hg).2.2.2.1, (hlb2 g hg).2.2.2.2⟩ : g ≠ b ∧ g ≠ r ∧ sv6.ownBlock ≠ some g ∧ w0.heap.size ≤ g)
      -- region 14
      have hs15 := Step.drew hs14.sat
      have hz15 := hs15.size
      replace ht := ht.then hs15
      replace ho := ho.then hs15
      replace hb := hb.then hs15
      replace hT := hT.then hs15
      refine at_q (i := 0) (li := #[true, false, false, false, false, false, false, false, false, false, false, false, false, false, false, false, false, false, false, false, false, false, false, false, false, false, false, false, false, false, false, false, false, false, false, false, false, false, false, false, false, false, false, false]) rfl (by kernel_rfl) rfl (fun _ => (q_move rfl)) (by kernel_rfl) ?_
      refine at_q (i := 1) (li := #[true, true, false, false, false, false, false, false, false, false, false, false, false, false, false, false, false, false, false, false, false, false, false, false, false, false, false, false, false, false, false, false, false, false, false, false, false, false, false, false, false, false, false, false]) rfl (by kernel_rfl) rfl (fun _ => (q_move rfl)) (by kernel_rfl) ?_
      first | refine at_gskip (i := 2) (li := #[true, true, true, false, false, false, false, false, false, false, false, false, false, false, false, false, false, false, false, false, false, false, false, false, false, false, false, false, false, false, false, false, false, false, false, false, false, false, false, false, false, false, false, false]) rfl (by kernel_rfl) rfl rfl rfl rfl rfl (by kernel_rfl) ?_ | refine at_gskipU (i := 2) (li := #[true, true, true, false, false, false, false, false, false, false, false, false, false, false, false, false, false, false, false, false, false, false, false, false, false, false, false, false, false, false, false, false, false, false, false, false, false, false, false, false, false, false, false, false]) rfl (by kernel_rfl) rfl rfl rfl rfl (by kernel_rfl) ?_ | refine at_gp (i := 2) (li := #[true, true, true, false, false, false, false, false, false, false, false, false, false, false, false, false, false, false, false, false, false, false, false, false, false, false, false, false, false, false, false, false, false, false, false, false, false, false, false, false, false, false, false, false]) rfl (by kernel_rfl) rfl rfl rfl rfl (fun _ => (q_move rfl)) (by kernel_rfl) ?_
      first | refine at_gskip (i := 3) (li := #[true, true, true, true, false, false, false, false, false, false, false, false, false, false, false, false, false, false, false, false, false, false, false, false, false, false, false, false, false, false, false, false, false, false, false, false, false, false, false, false, false, false, false, false]) rfl (by kernel_rfl) rfl rfl rfl rfl rfl (by kernel_rfl) ?_ | refine at_gskipU (i := 3) (li := #[true, true, true, true, false, false, false, false, false, false, false, false, false, false, false, false, false, false, false, false, false, false, false, false, false, false, false, false, false, false, false, false, false, false, false, false, false, false, false, false, false, false, false, false]) rfl (by kernel_rfl) rfl rfl rfl rfl (by kernel_rfl) ?_ | refine at_gp (i := 3) (li := #[true, true, true, true, false, false, false, false, false, false, false, false, false, false, false, false, false, false, false, false, false, false, false, false, false, false, false, false, false, false, false, false, false, false, false, false, false, false, false, false, false, false, false, false]) rfl (by kernel_rfl) rfl rfl rfl rfl (fun _ => (q_neT rfl rfl (by omega))) (by kernel_rfl) ?_ | refine at_gp (i := 3) (li := #[true, true, true, true, false, false, false, false, false, false, false, false, false, false, false, false, false, false, false, false, false, false, false, false, false, false, false, false, false, false, false, false, false, false, false, false, false, false, false, false, false, false, false, false]) rfl (by kernel_rfl) rfl rfl rfl rfl (fun _ => (q_neF rfl rfl (by omega))) (by kernel_rfl) ?_ | refine at_gp (i := 3) (li := #[true, true, true, true, false, false, false, false, false, false, false, false, false, false, false, false, false, false, false, false, false, false, false, false, false, false, false, false, false, false, false, false, false, false, false, false, false, false, false, false, false, false, false, false]) rfl (by kernel_rfl) rfl rfl rfl rfl (fun _ => (q_ne rfl rfl)) (by kernel_rfl) ?_
      first | refine at_gskip (i := 4) (li := #[true, true, true, true, true, false, false, false, false, false, false, false, false, false, false, false, false, false, false, false, false, false, false, false, false, false, false, false, false, false, false, false, false, false, false, false, false, false, false, false, false, false, false, false]) rfl (by kernel_rfl) rfl rfl rfl rfl rfl (by kernel_rfl) ?_ | refine at_gskipU (i := 4) (li := #[true, true, true, true, true, false, false, false, false, false, false, false, false, false, false, false, false, false, false, false, false, false, false, false, false, false, false, false, false, false, false, false, false, false, false, false, false, false, false, false, false, false, false, false]) rfl (by kernel_rfl) rfl rfl rfl rfl (by kernel_rfl) ?_ | refine at_gp (i := 4) (li := #[true, true, true, true, true, false, false, false, false, false, false, false, false, false, false, false, false, false, false, false, false, false, false, false, false, false, false, false, false, false, false, false, false, false, false, false, false, false, false, false, false, false, false, false]) rfl (by kernel_rfl) rfl rfl rfl rfl (fun _ => (q_move rfl)) (by kernel_rfl) ?_
      first | refine at_gskip (i := 5) (li := #[true, true, true, true, true, true, false, false, false, false, false, false, false, false, false, false, false, false, false, false, false, false, false, false, false, false, false, false, false, false, false, false, false, false, false, false, false, false, false, false, false, false, false, false]) rfl (by kernel_rfl) rfl rfl rfl rfl rfl (by kernel_rfl) ?_ | refine at_gskipU (i := 5) (li := #[true, true, true, true, true, true, false, false, false, false, false, false, false, false, false, false, false, false, false, false, false, false, false, false, false, false, false, false, false, false, false, false, false, false, false, false, false, false, false, false, false, false, false, false]) rfl (by kernel_rfl) rfl rfl rfl rfl (by kernel_rfl) ?_ | refine at_gp (i := 5) (li := #[true, true, true, true, true, true, false, false, false, false, false, false, false, false, false, false, false, false, false, false, false, false, false, false, false, false, false, false, false, false, false, false, false, false, false, false, false, false, false, false, false, false, false, false]) rfl (by kernel_rfl) rfl rfl rfl rfl (fun _ => (q_move rfl)) (by kernel_rfl) ?_
      first | refine at_gskip (i := 6) (li := #[true, true, true, true, true, true, true, false, false, false, false, false, false, false, false, false, false, false, false, false, false, false, false, false, false, false, false, false, false, false, false, false, false, false, false, false, false, false, false, false, false, false, false, false]) rfl (by kernel_rfl) rfl rfl rfl rfl rfl (by kernel_rfl) ?_ | refine at_gskipU (i := 6) (li := #[true, true, true, true, true, true, true, false, false, false, false, false, false, false, false, false, false, false, false, false, false, false, false, false, false, false, false, false, false, false, false, false, false, false, false, false, false, false, false, false, false, false, false, false]) rfl (by kernel_rfl) rfl rfl rfl rfl (by kernel_rfl) ?_ | refine at_gp (i := 6) (li := #[true, true, true, true, true, true, true, false, false, false, false, false, false, false, false, false, false, false, false, false, false, false, false, false, false, false, false, false, false, false, false, false, false, false, false, false, false, false, false, false, false, false, false, false]) rfl (by kernel_rfl) rfl rfl rfl rfl (fun _ => (q_fieldAddr (off := 0) (by kernel_rfl) rfl)) (by kernel_rfl) ?_
      first | refine at_gskip (i := 7) (li := #[true, true, true, true, true, true, true, true, false, false, false, false, false, false, false, false, false, false, false, false, false, false, false, false, false, false, false, false, false, false, false, false, false, false, false, false, false, false, false, false, false, false, false, false]) rfl (by kernel_rfl) rfl rfl rfl rfl rfl (by kernel_rfl) ?_ | refine at_gskipU (i := 7) (li := #[true, true, true, true, true, true, true, true, false, false, false, false, false, false, false, false, false, false, false, false, false, false, false, false, false, false, false, false, false, false, false, false, false, false, false, false, false, false, false, false, false, false, false, false]) rfl (by kernel_rfl) rfl rfl rfl rfl (by kernel_rfl) ?_ | refine at_gq (i := 7) (li := #[true, true, true, true, true, true, true, true, false, false, false, false, false, false, false, false, false, false, false, false, false, false, false, false, false, false, false, false, false, false, false, false, false, false, false, false, false, false, false, false, false, false, false, false]) (cellIs _ _ _) rfl (by kernel_rfl) rfl rfl rfl rfl (fun _ h => q_load1 (by kernel_rfl) rfl h) (by first | exact Blk.cell ht.own.1 rfl | exact Blk.cell ho.1 rfl | assumption) (by kernel_rfl) ?_
      first | refine at_gskip (i := 8) (li := #[true, true, true, true, true, true, true, true, true, false, false, false, false, false, false, false, false, false, false, false, false, false, false, false, false, false, false, false, false, false, false, false, false, false, false, false, false, false, false, false, false, false, false, false]) rfl (by kernel_rfl) rfl rfl rfl rfl rfl (by kernel_rfl) ?_ | refine at_gskipU (i := 8) (li := #[true, true, true, true, true, true, true, true, true, false, false, false, false, false, false, false, false, false, false, false, false, false, false, false, false, false, false, false, false, false, false, false, false, false, false, false, false, false, false, false, false, false, false, false]) rfl (by kernel_rfl) rfl rfl rfl rfl (by kernel_rfl) ?_ | refine at_gp (i := 8) (li := #[true, true, true, true, true, true, true, true, true, false, false, false, false, false, false, false, false, false, false, false, false, false, false, false, false, false, false, false, false, false, false, false, false, false, false, false, false, false, false, false, false, false, false, false]) rfl (by kernel_rfl) rfl rfl rfl rfl (fun _ => (q_len (by kernel_rfl) rfl _)) (by kernel_rfl) ?_
      first | refine at_gskip (i := 9) (li := #[true, true, true, true, true, true, true, true, true, true, false, false, false, false, false, false, false, false, false, false, false, false, false, false, false, false, false, false, false, false, false, false, false, false, false, false, false, false, false, false, false, false, false, false]) rfl (by kernel_rfl) rfl rfl rfl rfl rfl (by kernel_rfl) ?_ | refine at_gskipU (i := 9) (li := #[true, true, true, true, true, true, true, true, true, true, false, false, false, false, false, false, false, false, false, false, false, false, false, false, false, false, false, false, false, false, false, false, false, false, false, false, false, false, false, false, false, false, false, false]) rfl (by kernel_rfl) rfl rfl rfl rfl (by kernel_rfl) ?_ | refine at_gp (i := 9) (li := #[true, true, true, true, true, true, true, true, true, true, false, false, false, false, false, false, false, false, false, false, false, false, false, false, false, false, false, false, false, false, false, false, false, false, false, false, false, false, false, false, false, false, false, false]) rfl (by kernel_rfl) rfl rfl rfl rfl (fun _ => (q_subx rfl rfl (by omega) (by omega))) (by kernel_rfl) ?_
      first | refine at_gskip (i := 10) (li := #[true, true, true, true, true, true, true, true, true, true, true, false, false, false, false, false, false, false, false, false, false, false, false, false, false, false, false, false, false, false, false, false, false, false, false, false, false, false, false, false, false, false, false, false]) rfl (by kernel_rfl) rfl rfl rfl rfl rfl (by kernel_rfl) ?_ | refine at_gskipU (i := 10) (li := #[true, true, true, true, true, true, true, true, true, true, true, false, false, false, false, false, false, false, false, false, false, false, false, false, false, false, false, false, false, false, false, false, false, false, false, false, false, false, false, false, false, false, false, false]) rfl (by kernel_rfl) rfl rfl rfl rfl (by kernel_rfl) ?_ | refine at_gp (i := 10) (li := #[true, true, true, true, true, true, true, true, true, true, true, false, false, false, false, false, false, false, false, false, false, false, false, false, false, false, false, false, false, false, false, false, false, false, false, false, false, false, false, false, false, false, false, false]) rfl (by kernel_rfl) rfl rfl rfl rfl (fun _ => (q_neT rfl rfl (by omega))) (by kernel_rfl) ?_ | refine at_gp (i := 10) (li := #[true, true, true, true, true, true, true, true, true, true, true, false, false, false, false, false, false, false, false, false, false, false, false, false, false, false, false, false, false, false, false, false, false, false, false, false, false, false, false, false, false, false, false, false]) rfl (by kernel_rfl) rfl rfl rfl rfl (fun _ => (q_neF rfl rfl (by omega))) (by kernel_rfl) ?_ | refine at_gp (i := 10) (li := #[true, true, true, true, true, true, true, true, true, true, true, false, false, false, false, false, false, false, false, false, false, false, false, false, false, false, false, false, false, false, false, false, false, false, false, false, false, false, false, false, false, false, false, false]) rfl (by kernel_rfl) rfl rfl rfl rfl (fun _ => (q_ne rfl rfl)) (by kernel_rfl) ?_
      first | refine at_gskip (i := 11) (li := #[true, true, true, true, true, true, true, true, true, true, true, true, false, false, false, false, false, false, false, false, false, false, false, false, false, false, false, false, false, false, false, false, false, false, false, false, false, false, false, false, false, false, false, false]) rfl (by kernel_rfl) rfl rfl rfl rfl rfl (by kernel_rfl) ?_ | refine at_gskipU (i := 11) (li := #[true, true, true, true, true, true, true, true, true, true, true, true, false, false, false, false, false, false, false, false, false, false, false, false, false, false, false, false, false, false, false, false, false, false, false, false, false, false, false, false, false, false, false, false]) rfl (by kernel_rfl) rfl rfl rfl rfl (by kernel_rfl) ?_ | refine at_gp (i := 11) (li := #[true, true, true, true, true, true, true, true, true, true, true, true, false, false, false, false, false, false, false, false, false, false, false, false, false, false, false, false, false, false, false, false, false, false, false, false, false, false, false, false, false, false, false, false]) rfl (by kernel_rfl) rfl rfl rfl rfl (fun _ => (q_pick_t rfl rfl)) (by kernel_rfl) ?_ | refine at_gp (i := 11) (li := #[true, true, true, true, true, true, true, true, true, true, true, true, false, false, false, false, false, false, false, false, false, false, false, false, false, false, false, false, false, false, false, false, false, false, false, false, false, false, false, false, false, false, false, false]) rfl (by kernel_rfl) rfl rfl rfl rfl (fun _ => (q_pick_f rfl rfl)) (by kernel_rfl) ?_ | refine at_gp (i := 11) (li := #[true, true, true, true, true, true, true, true, true, true, true, true, false, false, false, false, false, false, false, false, false, false, false, false, false, false, false, false, false, false, false, false, false, false, false, false, false, false, false, false, false, false, false, false]) rfl (by kernel_rfl) rfl rfl rfl rfl (fun _ => (q_pick rfl rfl rfl)) (by kernel_rfl) ?_
      first | refine at_q (i := 12) (li := #[true, true, true, true, true, true, true, true, true, true, true, true, true, false, false, false, false, false, false, false, false, false, false, false, false, false, false, false, false, false, false, false, false, false, false, false, false, false, false, false, false, false, false, false]) rfl (by kernel_rfl) rfl (fun _ => (q_pick_t rfl rfl)) (by kernel_rfl) ?_ | refine at_q (i := 12) (li := #[true, true, true, true, true, true, true, true, true, true, true, true, true, false, false, false, false, false, false, false, false, false, false, false, false, false, false, false, false, false, false, false, false, false, false, false, false, false, false, false, false, false, false, false]) rfl (by kernel_rfl) rfl (fun _ => (q_pick_f rfl rfl)) (by kernel_rfl) ?_ | refine at_q (i := 12) (li := #[true, true, true, true, true, true, true, true, true, true, true, true, true, false, false, false, false, false, false, false, false, false, false, false, false, false, false, false, false, false, false, false, false, false, false, false, false, false, false, false, false, false, false, false]) rfl (by kernel_rfl) rfl (fun _ => (q_pick rfl rfl rfl)) (by kernel_rfl) ?_
      refine at_q (i := 13) (li := #[true, true, true, true, true, true, true, true, true, true, true, true, true, true, false, false, false, false, false, false, false, false, false, false, false, false, false, false, false, false, false, false, false, false, false, false, false, false, false, false, false, false, false, false]) rfl (by kernel_rfl) rfl (fun _ => (q_move rfl)) (by kernel_rfl) ?_
      first | refine at_gskip (i := 14) (li := #[true, true, true, true, true, true, true, true, true, true, true, true, true, true, true, false, false, false, false, false, false, false, false, false, false, false, false, false, false, false, false, false, false, false, false, false, false, false, false, false, false, false, false, false]) rfl (by kernel_rfl) rfl rfl rfl rfl rfl (by kernel_rfl) ?_ | refine at_gskipU (i := 14) (li := #[true, true, true, true, true, true, true, true, true, true, true, true, true, true, true, false, false, false, false, false, false, false, false, false, false, false, false, false, false, false, false, false, false, false, false, false, false, false, false, false, false, false, false, false]) rfl (by kernel_rfl) rfl rfl rfl rfl (by kernel_rfl) ?_ | refine at_gp (i := 14) (li := #[true, true, true, true, true, true, true, true, true, true, true, true, true, true, true, false, false, false, false, false, false, false, false, false, false, false, false, false, false, false, false, false, false, false, false, false, false, false, false, false, false, false, false, false]) rfl (by kernel_rfl) rfl rfl rfl rfl (fun _ => (q_move rfl)) (by kernel_rfl) ?_
      first | refine at_gskip (i := 15) (li := #[true, true, true, true, true, true, true, true, true, true, true, true, true, true, true, true, false, false, false, false, false, false, false, false, false, false, false, false, false, false, false, false, false, false, false, false, false, false, false, false, false, false, false, false]) rfl (by kernel_rfl) rfl rfl rfl rfl rfl (by kernel_rfl) ?_ | refine at_gskipU (i := 15) (li := #[true, true, true, true, true, true, true, true, true, true, true, true, true, true, true, true, false, false, false, false, false, false, false, false, false, false, false, false, false, false, false, false, false, false, false, false, false, false, false, false, false, false, false, false]) rfl (by kernel_rfl) rfl rfl rfl rfl (by kernel_rfl) ?_ | refine at_gp (i := 15) (li := #[true, true, true, true, true, true, true, true, true, true, true, true, true, true, true, true, false, false, false, false, false, false, false, false, false, false, false, false, false, false, false, false, false, false, false, false, false, false, false, false, false, false, false, false]) rfl (by kernel_rfl) rfl rfl rfl rfl (fun _ => (q_not rfl)) (by kernel_rfl) ?_
      first | refine at_gskip (i := 16) (li := #[true, true, true, true, true, true, true, true, true, true, true, true, true, true, true, true, true, false, false, false, false, false, false, false, false, false, false, false, false, false, false, false, false, false, false, false, false, false, false, false, false, false, false, false]) rfl (by kernel_rfl) rfl rfl rfl rfl rfl (by kernel_rfl) ?_ | refine at_gskipU (i := 16) (li := #[true, true, true, true, true, true, true, true, true, true, true, true, true, true, true, true, true, false, false, false, false, false, false, false, false, false, false, false, false, false, false, false, false, false, false, false, false, false, false, false, false, false, false, false]) rfl (by kernel_rfl) rfl rfl rfl rfl (by kernel_rfl) ?_ | refine at_gp (i := 16) (li := #[true, true, true, true, true, true, true, true, true, true, true, true, true, true, true, true, true, false, false, false, false, false, false, false, false, false, false, false, false, false, false, false, false, false, false, false, false, false, false, false, false, false, false, false]) rfl (by kernel_rfl) rfl rfl rfl rfl (fun _ => (q_move rfl)) (by kernel_rfl) ?_
      first | refine at_gskip (i := 17) (li := #[true, true, true, true, true, true, true, true, true, true, true, true, true, true, true, true, true, true, false, false, false, false, false, false, false, false, false, false, false, false, false, false, false, false, false, false, false, false, false, false, false, false, false, false]) rfl (by kernel_rfl) rfl rfl rfl rfl rfl (by kernel_rfl) ?_ | refine at_gskipU (i := 17) (li := #[true, true, true, true, true, true, true, true, true, true, true, true, true, true, true, true, true, true, false, false, false, false, false, false, false, false, false, false, false, false, false, false, false, false, false, false, false, false, false, false, false, false, false, false]) rfl (by kernel_rfl) rfl rfl rfl rfl (by kernel_rfl) ?_ | refine at_gp (i := 17) (li := #[true, true, true, true, true, true, true, true, true, true, true, true, true, true, true, true, true, true, false, false, false, false, false, false, false, false, false, false, false, false, false, false, false, false, false, false, false, false, false, false, false, false, false, false]) rfl (by kernel_rfl) rfl rfl rfl rfl (fun _ => (q_move rfl)) (by kernel_rfl) ?_
      first | refine at_gskip (i := 18) (li := #[true, true, true, true, true, true, true, true, true, true, true, true, true, true, true, true, true, true, true, false, false, false, false, false, false, false, false, false, false, false, false, false, false, false, false, false, false, false, false, false, false, false, false, false]) rfl (by kernel_rfl) rfl rfl rfl rfl rfl (by kernel_rfl) ?_ | refine at_gskipU (i := 18) (li := #[true, true, true, true, true, true, true, true, true, true, true, true, true, true, true, true, true, true, true, false, false, false, false, false, false, false, false, false, false, false, false, false, false, false, false, false, false, false, false, false, false, false, false, false]) rfl (by kernel_rfl) rfl rfl rfl rfl (by kernel_rfl) ?_ | refine at_gp (i := 18) (li := #[true, true, true, true, true, true, true, true, true, true, true, true, true, true, true, true, true, true, true, false, false, false, false, false, false, false, false, false, false, false, false, false, false, false, false, false, false, false, false, false, false, false, false, false]) rfl (by kernel_rfl) rfl rfl rfl rfl (fun _ => (q_neT rfl rfl (by omega))) (by kernel_rfl) ?_ | refine at_gp (i := 18) (li := #[true, true, true, true, true, true, true, true, true, true, true, true, true, true, true, true, true, true, true, false, false, false, false, false, false, false, false, false, false, false, false, false, false, false, false, false, false, false, false, false, false, false, false, false]) rfl (by kernel_rfl) rfl rfl rfl rfl (fun _ => (q_neF rfl rfl (by omega))) (by kernel_rfl) ?_ | refine at_gp (i := 18) (li := #[true, true, true, true, true, true, true, true, true, true, true, true, true, true, true, true, true, true, true, false, false, false, false, false, false, false, false, false, false, false, false, false, false, false, false, false, false, false, false, false, false, false, false, false]) rfl (by kernel_rfl) rfl rfl rfl rfl (fun _ => (q_ne rfl rfl)) (by kernel_rfl) ?_
      first | refine at_gskip (i := 19) (li := #[true, true, true, true, true, true, true, true, true, true, true, true, true, true, true, true, true, true, true, true, false, false, false, false, false, false, false, false, false, false, false, false, false, false, false, false, false, false, false, false, false, false, false, false]) rfl (by kernel_rfl) rfl rfl rfl rfl rfl (by kernel_rfl) ?_ | refine at_gskipU (i := 19) (li := #[true, true, true, true, true, true, true, true, true, true, true, true, true, true, true, true, true, true, true, true, false, false, false, false, false, false, false, false, false, false, false, false, false, false, false, false, false, false, false, false, false, false, false, false]) rfl (by kernel_rfl) rfl rfl rfl rfl (by kernel_rfl) ?_ | refine at_gp (i := 19) (li := #[true, true, true, true, true, true, true, true, true, true, true, true, true, true, true, true, true, true, true, true, false, false, false, false, false, false, false, false, false, false, false, false, false, false, false, false, false, false, false, false, false, false, false, false]) rfl (by kernel_rfl) rfl rfl rfl rfl (fun _ => (q_move rfl)) (by kernel_rfl) ?_
      first | refine at_gskip (i := 20) (li := #[true, true, true, true, true, true, true, true, true, true, true, true, true, true, true, true, true, true, true, true, true, false, false, false, false, false, false, false, false, false, false, false, false, false, false, false, false, false, false, false, false, false, false, false]) rfl (by kernel_rfl) rfl rfl rfl rfl rfl (by kernel_rfl) ?_ | refine at_gskipU (i := 20) (li := #[true, true, true, true, true, true, true, true, true, true, true, true, true, true, true, true, true, true, true, true, true, false, false, false, false, false, false, false, false, false, false, false, false, false, false, false, false, false, false, false, false, false, false, false]) rfl (by kernel_rfl) rfl rfl rfl rfl (by kernel_rfl) ?_ | refine at_gp (i := 20) (li := #[true, true, true, true, true, true, true, true, true, true, true, true, true, true, true, true, true, true, true, true, true, false, false, false, false, false, false, false, false, false, false, false, false, false, false, false, false, false, false, false, false, false, false, false]) rfl (by kernel_rfl) rfl rfl rfl rfl (fun _ => (q_move rfl)) (by kernel_rfl) ?_
      first | refine at_gskip (i := 21) (li := #[true, true, true, true, true, true, true, true, true, true, true, true, true, true, true, true, true, true, true, true, true, true, false, false, false, false, false, false, false, false, false, false, false, false, false, false, false, false, false, false, false, false, false, false]) rfl (by kernel_rfl) rfl rfl rfl rfl rfl (by kernel_rfl) ?_ | refine at_gskipU (i := 21) (li := #[true, true, true, true, true, true, true, true, true, true, true, true, true, true, true, true, true, true, true, true, true, true, false, false, false, false, false, false, false, false, false, false, false, false, false, false, false, false, false, false, false, false, false, false]) rfl (by kernel_rfl) rfl rfl rfl rfl (by kernel_rfl) ?_ | refine at_gp (i := 21) (li := #[true, true, true, true, true, true, true, true, true, true, true, true, true, true, true, true, true, true, true, true, true, true, false, false, false, false, false, false, false, false, false, false, false, false, false, false, false, false, false, false, false, false, false, false]) rfl (by kernel_rfl) rfl rfl rfl rfl (fun _ => (q_neT rfl rfl (by omega))) (by kernel_rfl) ?_ | refine at_gp (i := 21) (li := #[true, true, true, true, true, true, true, true, true, true, true, true, true, true, true, true, true, true, true, true, true, true, false, false, false, false, false, false, false, false, false, false, false, false, false, false, false, false, false, false, false, false, false, false]) rfl (by kernel_rfl) rfl rfl rfl rfl (fun _ => (q_neF rfl rfl (by omega))) (by kernel_rfl) ?_ | refine at_gp (i := 21) (li := #[true, true, true, true, true, true, true, true, true, true, true, true, true, true, true, true, true, true, true, true, true, true, false, false, false, false, false, false, false, false, false, false, false, false, false, false, false, false, false, false, false, false, false, false]) rfl (by kernel_rfl) rfl rfl rfl rfl (fun _ => (q_ne rfl rfl)) (by kernel_rfl) ?_
      first | refine at_gskip (i := 22) (li := #[true, true, true, true, true, true, true, true, true, true, true, true, true, true, true, true, true, true, true, true, true, true, true, false, false, false, false, false, false, false, false, false, false, false, false, false, false, false, false, false, false, false, false, false]) rfl (by kernel_rfl) rfl rfl rfl rfl rfl (by kernel_rfl) ?_ | refine at_gskipU (i := 22) (li := #[true, true, true, true, true, true, true, true, true, true, true, true, true, true, true, true, true, true, true, true, true, true, true, false, false, false, false, false, false, false, false, false, false, false, false, false, false, false, false, false, false, false, false, false]) rfl (by kernel_rfl) rfl rfl rfl rfl (by kernel_rfl) ?_ | refine at_gp (i := 22) (li := #[true, true, true, true, true, true, true, true, true, true, true, true, true, true, true, true, true, true, true, true, true, true, true, false, false, false, false, false, false, false, false, false, false, false, false, false, false, false, false, false, false, false, false, false]) rfl (by kernel_rfl) rfl rfl rfl rfl (fun _ => (q_pick_t rfl rfl)) (by kernel_rfl) ?_ | refine at_gp (i := 22) (li := #[true, true, true, true, true, true, true, true, true, true, true, true, true, true, true, true, true, true, true, true, true, true, true, false, false, false, false, false, false, false, false, false, false, false, false, false, false, false, false, false, false, false, false, false]) rfl (by kernel_rfl) rfl rfl rfl rfl (fun _ => (q_pick_f rfl rfl)) (by kernel_rfl) ?_ | refine at_gp (i := 22) (li := #[true, true, true, true, true, true, true, true, true, true, true, true, true, true, true, true, true, true, true, true, true, true, true, false, false, false, false, false, false, false, false, false, false, false, false, false, false, false, false, false, false, false, false, false]) rfl (by kernel_rfl) rfl rfl rfl rfl (fun _ => (q_pick rfl rfl rfl)) (by kernel_rfl) ?_
      first | refine at_gskip (i := 23) (li := #[true, true, true, true, true, true, true, true, true, true, true, true, true, true, true, true, true, true, true, true, true, true, true, true, false, false, false, false, false, false, false, false, false, false, false, false, false, false, false, false, false, false, false, false]) rfl (by kernel_rfl) rfl rfl rfl rfl rfl (by kernel_rfl) ?_ | refine at_gskipU (i := 23) (li := #[true, true, true, true, true, true, true, true, true, true, true, true, true, true, true, true, true, true, true, true, true, true, true, true, false, false, false, false, false, false, false, false, false, false, false, false, false, false, false, false, false, false, false, false]) rfl (by kernel_rfl) rfl rfl rfl rfl (by kernel_rfl) ?_ | refine at_gp (i := 23) (li := #[true, true, true, true, true, true, true, true, true, true, true, true, true, true, true, true, true, true, true, true, true, true, true, true, false, false, false, false, false, false, false, false, false, false, false, false, false, false, false, false, false, false, false, false]) rfl (by kernel_rfl) rfl rfl rfl rfl (fun _ => (q_pick_t rfl rfl)) (by kernel_rfl) ?_ | refine at_gp (i := 23) (li := #[true, true, true, true, true, true, true, true, true, true, true, true, true, true, true, true, true, true, true, true, true, true, true, true, false, false, false, false, false, false, false, false, false, false, false, false, false, false, false, false, false, false, false, false]) rfl (by kernel_rfl) rfl rfl rfl rfl (fun _ => (q_pick_f rfl rfl)) (by kernel_rfl) ?_ | refine at_gp (i := 23) (li := #[true, true, true, true, true, true, true, true, true, true, true, true, true, true, true, true, true, true, true, true, true, true, true, true, false, false, false, false, false, false, false, false, false, false, false, false, false, false, false, false, false, false, false, false]) rfl (by kernel_rfl) rfl rfl rfl rfl (fun _ => (q_pick rfl rfl rfl)) (by kernel_rfl) ?_
      first | refine at_q (i := 24) (li := #[true, true, true, true, true, true, true, true, true, true, true, true, true, true, true, true, true, true, true, true, true, true, true, true, true, false, false, false, false, false, false, false, false, false, false, false, false, false, false, false, false, false, false, false]) rfl (by kernel_rfl) rfl (fun _ => (q_pick_t rfl rfl)) (by kernel_rfl) ?_ | refine at_q (i := 24) (li := #[true, true, true, true, true, true, true, true, true, true, true, true, true, true, true, true, true, true, true, true, true, true, true, true, true, false, false, false, false, false, false, false, false, false, false, false, false, false, false, false, false, false, false, false]) rfl (by kernel_rfl) rfl (fun _ => (q_pick_f rfl rfl)) (by kernel_rfl) ?_ | refine at_q (i := 24) (li := #[true, true, true, true, true, true, true, true, true, true, true, true, true, true, true, true, true, true, true, true, true, true, true, true, true, false, false, false, false, false, false, false, false, false, false, false, false, false, false, false, false, false, false, false]) rfl (by kernel_rfl) rfl (fun _ => (q_pick rfl rfl rfl)) (by kernel_rfl) ?_
      refine at_q (i := 25) (li := #[true, true, true, true, true, true, true, true, true, true, true, true, true, true, true, true, true, true, true, true, true, true, true, true, true, true, false, false, false, false, false, false, false, false, false, false, false, false, false, false, false, false, false, false]) rfl (by kernel_rfl) rfl (fun _ => (q_move rfl)) (by kernel_rfl) ?_
      first | refine at_gskip (i := 26) (li := #[true, true, true, true, true, true, true, true, true, true, true, true, true, true, true, true, true, true, true, true, true, true, true, true, true, true, true, false, false, false, false, false, false, false, false, false, false, false, false, false, false, false, false, false]) rfl (by kernel_rfl) rfl rfl rfl rfl rfl (by kernel_rfl) ?_ | refine at_gskipU (i := 26) (li := #[true, true, true, true, true, true, true, true, true, true, true, true, true, true, true, true, true, true, true, true, true, true, true, true, true, true, true, false, false, false, false, false, false, false, false, false, false, false, false, false, false, false, false, false]) rfl (by kernel_rfl) rfl rfl rfl rfl (by kernel_rfl) ?_ | refine at_gp (i := 26) (li := #[true, true, true, true, true, true, true, true, true, true, true, true, true, true, true, true, true, true, true, true, true, true, true, true, true, true, true, false, false, false, false, false, false, false, false, false, false, false, false, false, false, false, false, false]) rfl (by kernel_rfl) rfl rfl rfl rfl (fun _ => (q_move rfl)) (by kernel_rfl) ?_
      first | refine at_gskip (i := 28) (li := #[true, true, true, true, true, true, true, true, true, true, true, true, true, true, true, true, true, true, true, true, true, true, true, true, true, true, true, false, true, false, false, false, false, false, false, false, false, false, false, false, false, false, false, false]) rfl (by kernel_rfl) rfl rfl rfl rfl rfl (by kernel_rfl) ?_ | refine at_gskipU (i := 28) (li := #[true, true, true, true, true, true, true, true, true, true, true, true, true, true, true, true, true, true, true, true, true, true, true, true, true, true, true, false, true, false, false, false, false, false, false, false, false, false, false, false, false, false, false, false]) rfl (by kernel_rfl) rfl rfl rfl rfl (by kernel_rfl) ?_ | refine at_gp (i := 28) (li := #[true, true, true, true, true, true, true, true, true, true, true, true, true, true, true, true, true, true, true, true, true, true, true, true, true, true, true, false, true, false, false, false, false, false, false, false, false, false, false, false, false, false, false, false]) rfl (by kernel_rfl) rfl rfl rfl rfl (fun _ => (q_fieldAddr (off := 0) (by kernel_rfl) rfl)) (by kernel_rfl) ?_
      first | refine at_gskip (i := 29) (li := #[true, true, true, true, true, true, true, true, true, true, true, true, true, true, true, true, true, true, true, true, true, true, true, true, true, true, true, false, true, true, false, false, false, false, false, false, false, false, false, false, false, false, false, false]) rfl (by kernel_rfl) rfl rfl rfl rfl rfl (by kernel_rfl) ?_ | refine at_gskipU (i := 29) (li := #[true, true, true, true, true, true, true, true, true, true, true, true, true, true, true, true, true, true, true, true, true, true, true, true, true, true, true, false, true, true, false, false, false, false, false, false, false, false, false, false, false, false, false, false]) rfl (by kernel_rfl) rfl rfl rfl rfl (by kernel_rfl) ?_ | refine at_gq (i := 29) (li := #[true, true, true, true, true, true, true, true, true, true, true, true, true, true, true, true, true, true, true, true, true, true, true, true, true, true, true, false, true, true, false, false, false, false, false, false, false, false, false, false, false, false, false, false]) (cellIs _ _ _) rfl (by kernel_rfl) rfl rfl rfl rfl (fun _ h => q_load1 (by kernel_rfl) rfl h) (by first | exact Blk.cell ht.own.1 rfl | exact Blk.cell ho.1 rfl | assumption) (by kernel_rfl) ?_
      first | refine at_gskip (i := 30) (li := #[true, true, true, true, true, true, true, true, true, true, true, true, true, true, true, true, true, true, true, true, true, true, true, true, true, true, true, false, true, true, true, false, false, false, false, false, false, false, false, false, false, false, false, false]) rfl (by kernel_rfl) rfl rfl rfl rfl rfl (by kernel_rfl) ?_ | refine at_gskipU (i := 30) (li := #[true, true, true, true, true, true, true, true, true, true, true, true, true, true, true, true, true, true, true, true, true, true, true, true, true, true, true, false, true, true, true, false, false, false, false, false, false, false, false, false, false, false, false, false]) rfl (by kernel_rfl) rfl rfl rfl rfl (by kernel_rfl) ?_ | refine at_gp (i := 30) (li := #[true, true, true, true, true, true, true, true, true, true, true, true, true, true, true, true, true, true, true, true, true, true, true, true, true, true, true, false, true, true, true, false, false, false, false, false, false, false, false, false, false, false, false, false]) rfl (by kernel_rfl) rfl rfl rfl rfl (fun _ => (q_len (by kernel_rfl) rfl _)) (by kernel_rfl) ?_
      refine at_gh (i := 27) (li := #[true, true, true, true, true, true, true, true, true, true, true, true, true, true, true, true, true, true, true, true, true, true, true, true, true, true, true, true, true, true, true, false, false, false, false, false, false, false, false, false, false, false, false, false]) rfl (by kernel_rfl) rfl rfl rfl rfl rfl (by kernel_rfl) (h_call (by kernel_rfl) rfl ?_)
      refine (len_int hs15.sat ht).mono ?_
      rintro _ w16 ⟨rfl, hs16⟩
      replace ht := ht.then hs16
      replace ho := ho.then hs16
      replace hb := hb.then hs16
      replace hT := hT.then hs16
      have hz16 := hs16.size
      refine ⟨(by repeat' first | exact trivial | exact Blk.cell ht.own.1 rfl | exact Blk.cells ht.own.1 rfl | exact Blk.cell ho.1 rfl | exact Blk.cells ho.1 rfl | assumption | refine all_keep ?_ | refine And.intro ?_ ?_), ?_⟩
      first | refine at_gskip (i := 31) (li := #[true, true, true, true, true, true, true, true, true, true, true, true, true, true, true, true, true, true, true, true, true, true, true, true, true, true, true, true, true, true, true, true, false, false, false, false, false, false, false, false, false, false, false, false]) rfl (by kernel_rfl) rfl rfl rfl rfl rfl (by kernel_rfl) ?_ | refine at_gskipU (i := 31) (li := #[true, true, true, true, true, true, true, true, true, true, true, true, true, true, true, true, true, true, true, true, true, true, true, true, true, true, true, true, true, true, true, true, false, false, false, false, false, false, false, false, false, false, false, false]) rfl (by kernel_rfl) rfl rfl rfl rfl (by kernel_rfl) ?_ | refine at_gp (i := 31) (li := #[true, true, true, true, true, true, true, true, true, true, true, true, true, true, true, true, true, true, true, true, true, true, true, true, true, true, true, true, true, true, true, true, false, false, false, false, false, false, false, false, false, false, false, false]) rfl (by kernel_rfl) rfl rfl rfl rfl (fun _ => (q_neT rfl rfl (by omega))) (by kernel_rfl) ?_ | refine at_gp (i := 31) (li := #[true, true, true, true, true, true, true, true, true, true, true, true, true, true, true, true, true, true, true, true, true, true, true, true, true, true, true, true, true, true, true, true, false, false, false, false, false, false, false, false, false, false, false, false]) rfl (by kernel_rfl) rfl rfl rfl rfl (fun _ => (q_neF rfl rfl (by omega))) (by kernel_rfl) ?_ | refine at_gp (i := 31) (li := #[true, true, true, true, true, true, true, true, true, true, true, true, true, true, true, true, true, true, true, true, true, true, true, true, true, true, true, true, true, true, true, true, false, false, false, false, false, false, false, false, false, false, false, false]) rfl (by kernel_rfl) rfl rfl rfl rfl (fun _ => (q_ne rfl rfl)) (by kernel_rfl) ?_
      first | refine at_q (i := 32) (li := #[true, true, true, true, true, true, true, true, true, true, true, true, true, true, true, true, true, true, true, true, true, true, true, true, true, true, true, true, true, true, true, true, true, false, false, false, false, false, false, false, false, false, false, false]) rfl (by kernel_rfl) rfl (fun _ => (q_pick_t rfl rfl)) (by kernel_rfl) ?_ | refine at_q (i := 32) (li := #[true, true, true, true, true, true, true, true, true, true, true, true, true, true, true, true, true, true, true, true, true, true, true, true, true, true, true, true, true, true, true, true, true, false, false, false, false, false, false, false, false, false, false, false]) rfl (by kernel_rfl) rfl (fun _ => (q_pick_f rfl rfl)) (by kernel_rfl) ?_ | refine at_q (i := 32) (li := #[true, true, true, true, true, true, true, true, true, true, true, true, true, true, true, true, true, true, true, true, true, true, true, true, true, true, true, true, true, true, true, true, true, false, false, false, false, false, false, false, false, false, false, false]) rfl (by kernel_rfl) rfl (fun _ => (q_pick rfl rfl rfl)) (by kernel_rfl) ?_
      refine at_q (i := 33) (li := #[true, true, true, true, true, true, true, true, true, true, true, true, true, true, true, true, true, true, true, true, true, true, true, true, true, true, true, true, true, true, true, true, true, true, false, false, false, false, false, false, false, false, false, false]) rfl (by kernel_rfl) rfl (fun _ => (q_move rfl)) (by kernel_rfl) ?_
      first | refine at_gskip (i := 34) (li := #[true, true, true, true, true, true, true, true, true, true, true, true, true, true, true, true, true, true, true, true, true, true, true, true, true, true, true, true, true, true, true, true, true, true, true, false, false, false, false, false, false, false, false, false]) rfl (by kernel_rfl) rfl rfl rfl rfl rfl (by kernel_rfl) ?_ | refine at_gskipU (i := 34) (li := #[true, true, true, true, true, true, true, true, true, true, true, true, true, true, true, true, true, true, true, true, true, true, true, true, true, true, true, true, true, true, true, true, true, true, true, false, false, false, false, false, false, false, false, false]) rfl (by kernel_rfl) rfl rfl rfl rfl (by kernel_rfl) ?_ | refine at_gp (i := 34) (li := #[true, true, true, true, true, true, true, true, true, true, true, true, true, true, true, true, true, true, true, true, true, true, true, true, true, true, true, true, true, true, true, true, true, true, true, false, false, false, false, false, false, false, false, false]) rfl (by kernel_rfl) rfl rfl rfl rfl (fun _ => (q_move rfl)) (by kernel_rfl) ?_
      first | refine at_gskip (i := 36) (li := #[true, true, true, true, true, true, true, true, true, true, true, true, true, true, true, true, true, true, true, true, true, true, true, true, true, true, true, true, true, true, true, true, true, true, true, false, true, false, false, false, false, false, false, false]) rfl (by kernel_rfl) rfl rfl rfl rfl rfl (by kernel_rfl) ?_ | refine at_gskipU (i := 36) (li := #[true, true, true, true, true, true, true, true, true, true, true, true, true, true, true, true, true, true, true, true, true, true, true, true, true, true, true, true, true, true, true, true, true, true, true, false, true, false, false, false, false, false, false, false]) rfl (by kernel_rfl) rfl rfl rfl rfl (by kernel_rfl) ?_ | refine at_gp (i := 36) (li := #[true, true, true, true, true, true, true, true, true, true, true, true, true, true, true, true, true, true, true, true, true, true, true, true, true, true, true, true, true, true, true, true, true, true, true, false, true, false, false, false, false, false, false, false]) rfl (by kernel_rfl) rfl rfl rfl rfl (fun _ => (q_fieldAddr (off := 1) (by kernel_rfl) rfl)) (by kernel_rfl) ?_
      first | refine at_gskip (i := 37) (li := #[true, true, true, true, true, true, true, true, true, true, true, true, true, true, true, true, true, true, true, true, true, true, true, true, true, true, true, true, true, true, true, true, true, true, true, false, true, true, false, false, false, false, false, false]) rfl (by kernel_rfl) rfl rfl rfl rfl rfl (by kernel_rfl) ?_ | refine at_gskipU (i := 37) (li := #[true, true, true, true, true, true, true, true, true, true, true, true, true, true, true, true, true, true, true, true, true, true, true, true, true, true, true, true, true, true, true, true, true, true, true, false, true, true, false, false, false, false, false, false]) rfl (by kernel_rfl) rfl rfl rfl rfl (by kernel_rfl) ?_ | refine at_gq (i := 37) (li := #[true, true, true, true, true, true, true, true, true, true, true, true, true, true, true, true, true, true, true, true, true, true, true, true, true, true, true, true, true, true, true, true, true, true, true, false, true, true, false, false, false, false, false, false]) (cellIs _ _ _) rfl (by kernel_rfl) rfl rfl rfl rfl (fun _ h => q_load1 (by kernel_rfl) rfl h) (by first | exact Blk.cell ht.own.1 rfl | exact Blk.cell ho.1 rfl | assumption) (by kernel_rfl) ?_
      first | refine at_gskip (i := 38) (li := #[true, true, true, true, true, true, true, true, true, true, true, true, true, true, true, true, true, true, true, true, true, true, true, true, true, true, true, true, true, true, true, true, true, true, true, false, true, true, true, false, false, false, false, false]) rfl (by kernel_rfl) rfl rfl rfl rfl rfl (by kernel_rfl) ?_ | refine at_gskipU (i := 38) (li := #[true, true, true, true, true, true, true, true, true, true, true, true, true, true, true, true, true, true, true, true, true, true, true, true, true, true, true, true, true, true, true, true, true, true, true, false, true, true, true, false, false, false, false, false]) rfl (by kernel_rfl) rfl rfl rfl rfl (by kernel_rfl) ?_ | refine at_gp (i := 38) (li := #[true, true, true, true, true, true, true, true, true, true, true, true, true, true, true, true, true, true, true, true, true, true, true, true, true, true, true, true, true, true, true, true, true, true, true, false, true, true, true, false, false, false, false, false]) rfl (by kernel_rfl) rfl rfl rfl rfl (fun _ => (q_fieldAddr (off := 0) (by kernel_rfl) rfl)) (by kernel_rfl) ?_
      first | refine at_gskip (i := 39) (li := #[true, true, true, true, true, true, true, true, true, true, true, true, true, true, true, true, true, true, true, true, true, true, true, true, true, true, true, true, true, true, true, true, true, true, true, false, true, true, true, true, false, false, false, false]) rfl (by kernel_rfl) rfl rfl rfl rfl rfl (by kernel_rfl) ?_ | refine at_gskipU (i := 39) (li := #[true, true, true, true, true, true, true, true, true, true, true, true, true, true, true, true, true, true, true, true, true, true, true, true, true, true, true, true, true, true, true, true, true, true, true, false, true, true, true, true, false, false, false, false]) rfl (by kernel_rfl) rfl rfl rfl rfl (by kernel_rfl) ?_ | refine at_gq (i := 39) (li := #[true, true, true, true, true, true, true, true, true, true, true, true, true, true, true, true, true, true, true, true, true, true, true, true, true, true, true, true, true, true, true, true, true, true, true, false, true, true, true, true, false, false, false, false]) (cellIs _ _ _) rfl (by kernel_rfl) rfl rfl rfl rfl (fun _ h => q_load1 (by kernel_rfl) rfl h) (by first | exact Blk.cell ht.own.1 rfl | exact Blk.cell ho.1 rfl | assumption) (by kernel_rfl) ?_
      first | refine at_gskip (i := 40) (li := #[true, true, true, true, true, true, true, true, true, true, true, true, true, true, true, true, true, true, true, true, true, true, true, true, true, true, true, true, true, true, true, true, true, true, true, false, true, true, true, true, true, false, false, false]) rfl (by kernel_rfl) rfl rfl rfl rfl rfl (by kernel_rfl) ?_ | refine at_gskipU (i := 40) (li := #[true, true, true, true, true, true, true, true, true, true, true, true, true, true, true, true, true, true, true, true, true, true, true, true, true, true, true, true, true, true, true, true, true, true, true, false, true, true, true, true, true, false, false, false]) rfl (by kernel_rfl) rfl rfl rfl rfl (by kernel_rfl) ?_ | refine at_gp (i := 40) (li := #[true, true, true, true, true, true, true, true, true, true, true, true, true, true, true, true, true, true, true, true, true, true, true, true, true, true, true, true, true, true, true, true, true, true, true, false, true, true, true, true, true, false, false, false]) rfl (by kernel_rfl) rfl rfl rfl rfl (fun _ => (q_len (by kernel_rfl) rfl _)) (by kernel_rfl) ?_
      first | refine at_gskip (i := 41) (li := #[true, true, true, true, true, true, true, true, true, true, true, true, true, true, true, true, true, true, true, true, true, true, true, true, true, true, true, true, true, true, true, true, true, true, true, false, true, true, true, true, true, true, false, false]) rfl (by kernel_rfl) rfl rfl rfl rfl rfl (by kernel_rfl) ?_ | refine at_gskipU (i := 41) (li := #[true, true, true, true, true, true, true, true, true, true, true, true, true, true, true, true, true, true, true, true, true, true, true, true, true, true, true, true, true, true, true, true, true, true, true, false, true, true, true, true, true, true, false, false]) rfl (by kernel_rfl) rfl rfl rfl rfl (by kernel_rfl) ?_ | refine at_gp (i := 41) (li := #[true, true, true, true, true, true, true, true, true, true, true, true, true, true, true, true, true, true, true, true, true, true, true, true, true, true, true, true, true, true, true, true, true, true, true, false, true, true, true, true, true, true, false, false]) rfl (by kernel_rfl) rfl rfl rfl rfl (fun _ => (q_subx rfl rfl (by omega) (by omega))) (by kernel_rfl) ?_
      refine at_gh (i := 35) (li := #[true, true, true, true, true, true, true, true, true, true, true, true, true, true, true, true, true, true, true, true, true, true, true, true, true, true, true, true, true, true, true, true, true, true, true, true, true, true, true, true, true, true, false, false]) rfl (by kernel_rfl) rfl rfl rfl rfl rfl (by kernel_rfl) (h_call (by kernel_rfl) rfl ?_)
      refine (room_int hs16.sat ht (by omega) (by omega) (by omega)).mono ?_
      rintro _ w17 ⟨rfl, hs17⟩
      replace ht := ht.then hs17
      replace ho := ho.then hs17
      replace hb := hb.then hs17
      replace hT := hT.then hs17
      have hz17 := hs17.size
      refine ⟨(by repeat' first | exact trivial | exact Blk.cell ht.own.1 rfl | exact Blk.cells ht.own.1 rfl | exact Blk.cell ho.1 rfl | exact Blk.cells ho.1 rfl | assumption | refine all_keep ?_ | refine And.intro ?_ ?_), ?_⟩
      first | refine at_gskip (i := 42) (li := #[true, true, true, true, true, true, true, true, true, true, true, true, true, true, true, true, true, true, true, true, true, true, true, true, true, true, true, true, true, true, true, true, true, true, true, true, true, true, true, true, true, true, true, false]) rfl (by kernel_rfl) rfl rfl rfl rfl rfl (by kernel_rfl) ?_ | refine at_gskipU (i := 42) (li := #[true, true, true, true, true, true, true, true, true, true, true, true, true, true, true, true, true, true, true, true, true, true, true, true, true, true, true, true, true, true, true, true, true, true, true, true, true, true, true, true, true, true, true, false]) rfl (by kernel_rfl) rfl rfl rfl rfl (by kernel_rfl) ?_ | refine at_gp (i := 42) (li := #[true, true, true, true, true, true, true, true, true, true, true, true, true, true, true, true, true, true, true, true, true, true, true, true, true, true, true, true, true, true, true, true, true, true, true, true, true, true, true, true, true, true, true, false]) rfl (by kernel_rfl) rfl rfl rfl rfl (fun _ => (q_neT rfl rfl (by omega))) (by kernel_rfl) ?_ | refine at_gp (i := 42) (li := #[true, true, true, true, true, true, true, true, true, true, true, true, true, true, true, true, true, true, true, true, true, true, true, true, true, true, true, true, true, true, true, true, true, true, true, true, true, true, true, true, true, true, true, false]) rfl (by kernel_rfl) rfl rfl rfl rfl (fun _ => (q_neF rfl rfl (by omega))) (by kernel_rfl) ?_ | refine at_gp (i := 42) (li := #[true, true, true, true, true, true, true, true, true, true, true, true, true, true, true, true, true, true, true, true, true, true, true, true, true, true, true, true, true, true, true, true, true, true, true, true, true, true, true, true, true, true, true, false]) rfl (by kernel_rfl) rfl rfl rfl rfl (fun _ => (q_ne rfl rfl)) (by kernel_rfl) ?_
      first | refine at_q (i := 43) (li := #[true, true, true, true, true, true, true, true, true, true, true, true, true, true, true, true, true, true, true, true, true, true, true, true, true, true, true, true, true, true, true, true, true, true, true, true, true, true, true, true, true, true, true, true]) rfl (by kernel_rfl) rfl (fun _ => (q_pick_t rfl rfl)) (by kernel_rfl) ?_ | refine at_q (i := 43) (li := #[true, true, true, true, true, true, true, true, true, true, true, true, true, true, true, true, true, true, true, true, true, true, true, true, true, true, true, true, true, true, true, true, true, true, true, true, true, true, true, true, true, true, true, true]) rfl (by kernel_rfl) rfl (fun _ => (q_pick_f rfl rfl)) (by kernel_rfl) ?_ | refine at_q (i := 43) (li := #[true, true, true, true, true, true, true, true, true, true, true, true, true, true, true, true, true, true, true, true, true, true, true, true, true, true, true, true, true, true, true, true, true, true, true, true, true, true, true, true, true, true, true, true]) rfl (by kernel_rfl) rfl (fun _ => (q_pick rfl rfl rfl)) (by kernel_rfl) ?_
      refine at_done (by kernel_rfl) (hK17 _ _ ?_)
      clear hK17 K17
      refine cw_false rfl ?_
      refine cw_skip ?_
      refine hK13 _ _ ?_
      clear hK13 K13
      refine cw_region fun K18 hK18 => ?_
      -- region 10
      refine as_q rfl rfl (q_move rfl) ?_
      refine as_q rfl rfl (q_addx rfl rfl (by omega) (by omega)) ?_
      refine as_q rfl rfl (q_assign rfl) ?_
      refine as_nil (hK18 _ _ ?_)
      clear hK18 K18
      exact ⟨_, _, by omega, (.cons rfl (.cons rfl (.cons rfl (.cons rfl (.cons rfl (.cons rfl (.nil _))))))), k + 1, k + 1, _, _, _, rfl, by omega, .inl ⟨by omega, rfl⟩, rfl, hT, ht, ho, hb, htr, hlb⟩
    · skip
      refine cw_skip ?_
      refine hK11 _ _ ?_
      clear hK11 K11
      refine cw_seq fun K19 hK19 => ?_
      refine cw_block ?_
      refine cw_rs fun K20 hK20 => ?_
      -- region 11
      refine as_q rfl rfl (q_move rfl) ?_
      refine as_q rfl rfl (q_move rfl) ?_
      refine as_q rfl rfl (q_move rfl) ?_
      refine as_q rfl rfl (q_indexAddr (e := 3) (size := 1) (by kernel_rfl) (by kernel_rfl) rfl rfl (by omega) (by omega)) ?_
      refine as_q rfl rfl (q_load1 (by kernel_rfl) rfl (hr.cell hT.sat (u := .int .i64 q) (by simp [hqi]))) ?_
      refine as_h rfl (h_call (by kernel_rfl) rfl ?_)
      refine (add_int_full hT.sat ht (by omega) (by omega) (by omega) (by omega)).mono ?_
      rintro _ w18 ⟨rfl, hs18⟩
      replace ht := ht.then hs18
      replace ho := ho.then hs18
      replace hb := hb.then hs18
      replace hT := hT.then hs18
      have hz18 := hs18.size
      refine as_q rfl rfl (q_move rfl) ?_
      refine as_q rfl rfl (q_extract rfl rfl) ?_
      refine as_q rfl rfl (q_extract rfl rfl) ?_
      refine as_q rfl rfl (q_assign rfl) ?_
      refine as_q rfl rfl (q_assign rfl) ?_
      refine as_nil (hK20 _ _ ?_)
      clear hK20 K20
      refine cw_rdS (fun l w => ∃ (d : Nat) (ma : Option Addr) (mc : Nat), l = [(0, .int .i64 room), (1, .slice (some ⟨g, o, none⟩) n c), (2, .slice a2 m c2), (8, .pointer (some ⟨b, 0, none⟩)), (9, .pointer (some ⟨r, 0, none⟩)), (10, .int .i64 i), (11, .int .i64 0), (12, .int .i64 25), (13, .pointer (some ⟨d, 0, none⟩)), (14, .bool false)] ∧ Step Nope M0 w0 M0 w ∧ Tbl 88 3 1 w0.heap.size w M0 b tv k ((xs.take k).map (.int .i64)) rm ∧ Own w M0 r [.slice la k lc, .int .i64 rm] 38 ∧ Buf w M0 3 1 (.slice la k lc) k ((xs.take (k)).map (.int .i64)) ∧ Own w M0 d [.slice ma k mc, .int .i64 rm] 38 ∧ Buf w M0 3 1 (.slice ma k mc) k ((xs.take k).map (.int .i64)) ∧ r ≠ d ∧ b ≠ d ∧ tv.ownBlock ≠ some d ∧ (∀ g, (.slice ma k mc : Value).ownBlock = some g → g ≠ b ∧ g ≠ r ∧ g ≠ d ∧ tv.ownBlock ≠ some g ∧ w0.heap.size ≤ g)) (by kernel_rfl) (by kernel_rfl) (by kernel_rfl) rfl rfl ?_ ?_
      · skip
        have qb := ht.own.1.lt
        have qr := ho.1.lt
        have qt := ht.buf.lt
        have ql := hb.lt
        have qz := hT.size
        -- region 12
        have hs19 := Step.drew hs18.sat
        have hz19 := hs19.size
        replace ht := ht.then hs19
        replace ho := ho.then hs19
        replace hb := hb.then hs19
        replace hT := hT.then hs19
        refine at_l (i := 0) (li := #[true, false, false, false, false, false, false, false, false, false, false, false]) (cellsAre _ _ 2 _) rfl (by kernel_rfl) rfl (fun _ h => q_loadc (n := 2) (by kernel_rfl) rfl h) (by first | exact Blk.cells ht.own.1 rfl | exact Blk.cells ho.1 rfl | assumption) (by kernel_rfl) ?_
        refine at_q (i := 1) (li := #[true, true, false, false, false, false, false, false, false, false, false, false]) rfl (by kernel_rfl) rfl (fun _ => (q_move rfl)) (by kernel_rfl) ?_
        refine at_q (i := 2) (li := #[true, true, true, false, false, false, false, false, false, false, false, false]) rfl (by kernel_rfl) rfl (fun _ => (q_move rfl)) (by kernel_rfl) ?_
        refine at_q (i := 3) (li := #[true, true, true, true, false, false, false, false, false, false, false, false]) rfl (by kernel_rfl) rfl (fun _ => (q_indexAddr (e := 3) (size := 1) (by kernel_rfl) (by kernel_rfl) rfl rfl (by omega) (by omega))) (by kernel_rfl) ?_
        refine at_l (i := 4) (li := #[true, true, true, true, true, false, false, false, false, false, false, false]) (cellIs _ _ _) rfl (by kernel_rfl) rfl (fun _ h => q_load1 (by kernel_rfl) rfl h) (hr.cell hT.sat (u := .int .i64 q) (by simp [hqi])) (by kernel_rfl) ?_
        refine at_two (i := 5) (j := 9) (by kernel_rfl) ?_ ?_
        · skip
          refine ah_h (i := 5) (li := #[true, true, true, true, true, true, false, false, false, false, false, false]) rfl rfl (keep_sift (bs := [true, true]) (by kernel_rfl)) (by kernel_rfl) (h_call (by kernel_rfl) rfl ?_)
          refine (refAdd_full hs19.sat (by omega)).mono ?_
          rintro _ w20 ⟨rfl, hs20⟩
          replace ht := ht.then hs20
          replace ho := ho.then hs20
          replace hb := hb.then hs20
          replace hT := hT.then hs20
          have hz20 := hs20.size
          refine ⟨(by repeat' first | exact trivial | exact Blk.cell ht.own.1 rfl | exact Blk.cells ht.own.1 rfl | exact Blk.cell ho.1 rfl | exact Blk.cells ho.1 rfl | exact (hr.cell hT.sat (u := .int .i64 q) (by simp [hqi])) | assumption | refine all_keep ?_ | refine And.intro ?_ ?_), ?_⟩
          refine at_q (i := 6) (li := #[true, true, true, true, true, true, true, false, false, false, false, false]) rfl (by kernel_rfl) rfl (fun _ => (q_move rfl)) (by kernel_rfl) ?_
          refine at_q (i := 7) (li := #[true, true, true, true, true, true, true, true, false, false, false, false]) rfl (by kernel_rfl) rfl (fun _ => (q_extract rfl rfl)) (by kernel_rfl) ?_
          refine at_q (i := 8) (li := #[true, true, true, true, true, true, true, true, true, false, false, false]) rfl (by kernel_rfl) rfl (fun _ => (q_extract rfl rfl)) (by kernel_rfl) ?_
          refine at_h (i := 9) (li := #[true, true, true, true, true, true, true, true, true, true, false, false]) rfl (by kernel_rfl) rfl rfl (by kernel_rfl) (h_allocO (z := (.agg #[(.slice none 0 0), (.int .i64 0)])) hs20.sat (by kernel_rfl) rfl fun b21 w21 hs21 ho21 e21 => ?_)
          replace ht := ht.then hs21
          replace ho := ho.then hs21
          replace hb := hb.then hs21
          replace hT := hT.then hs21
          have hz21 := hs21.size
          have hl21 := ho21.1.lt
          refine ⟨(by repeat' first | exact trivial | exact Blk.cell ht.own.1 rfl | exact Blk.cells ht.own.1 rfl | exact Blk.cell ho.1 rfl | exact Blk.cells ho.1 rfl | exact Blk.cell ho21.1 rfl | exact Blk.cells ho21.1 rfl | exact (hr.cell hT.sat (u := .int .i64 q) (by simp [hqi])) | assumption | refine all_keep ?_ | refine And.intro ?_ ?_), ?_⟩
          refine at_h0 (i := 10) (li := #[true, true, true, true, true, true, true, true, true, true, true, false]) rfl (by kernel_rfl) rfl (by kernel_rfl) (h_store hs21.sat ho21 rfl rfl rfl (by kernel_rfl) rfl rfl rfl fun w22 hs22 hn22 => ?_)
          replace ht := ht.just hs22 (by omega) (fun h => by have := qt _ h; omega)
          replace ho := ho.step hs22 (fun h => by have h : _ = _ := h; omega)
          replace hb := hb.step hs22 (fun g hg h => by have h : g = b21 := h; have := ql g hg; omega)
          clear ho21; have ho21 := hn22; clear hn22
          replace hT := hT.own hs22 (by omega)
          have hz22 := hs22.size
          refine ⟨(by repeat' first | exact trivial | exact Blk.cell ht.own.1 rfl | exact Blk.cells ht.own.1 rfl | exact Blk.cell ho.1 rfl | exact Blk.cells ho.1 rfl | exact Blk.cell ho21.1 rfl | exact Blk.cells ho21.1 rfl | exact (hr.cell hT.sat (u := .int .i64 q) (by simp [hqi])) | assumption | refine all_keep ?_ | refine And.intro ?_ ?_), ?_⟩
          refine at_q (i := 11) (li := #[true, true, true, true, true, true, true, true, true, true, true, true]) rfl (by kernel_rfl) rfl (fun _ => (q_assign rfl)) (by kernel_rfl) ?_
          refine at_done (by kernel_rfl) ?_
          exact ⟨_, (.cons rfl (.cons rfl (.cons rfl (.cons rfl (.cons rfl (.cons rfl (.cons rfl (.cons rfl (.cons rfl (.cons rfl (.nil _))))))))))), b21, la, lc, rfl, hT, ht, ho, hb, ho21, hb, by omega, by omega, fun h => by have := qt _ h; omega, fun g hg => by
            obtain ⟨h1, h2, h3, h4⟩ := hlb g hg
            have h5 := ql g hg
            exact ⟨h1, h2, by omega, h3, h4⟩⟩
        · skip
          refine ah_h (i := 9) (li := #[true, true, true, true, true, false, false, false, false, true, false, false]) rfl rfl (keep_sift (bs := [false, false]) (by kernel_rfl)) (by kernel_rfl) (h_allocO (z := (.agg #[(.slice none 0 0), (.int .i64 0)])) hs19.sat (by kernel_rfl) rfl fun b23 w23 hs23 ho23 e23 => ?_)
          replace ht := ht.then hs23
          replace ho := ho.then hs23
          replace hb := hb.then hs23
          replace hT := hT.then hs23
          have hz23 := hs23.size
          have hl23 := ho23.1.lt
          refine ⟨(by repeat' first | exact trivial | exact Blk.cell ht.own.1 rfl | exact Blk.cells ht.own.1 rfl | exact Blk.cell ho.1 rfl | exact Blk.cells ho.1 rfl | exact Blk.cell ho23.1 rfl | exact Blk.cells ho23.1 rfl | exact (hr.cell hT.sat (u := .int .i64 q) (by simp [hqi])) | assumption | refine all_keep ?_ | refine And.intro ?_ ?_), ?_⟩
          refine at_h (i := 5) (li := #[true, true, true, true, true, true, false, false, false, true, false, false]) rfl (by kernel_rfl) rfl (keep_sift (bs := [true, true]) (by kernel_rfl)) (by kernel_rfl) (h_call (by kernel_rfl) rfl ?_)
          refine (refAdd_full hs23.sat (by omega)).mono ?_
          rintro _ w24 ⟨rfl, hs24⟩
          replace ht := ht.then hs24
          replace ho := ho.then hs24
          replace hb := hb.then hs24
          replace ho23 := ho23.then hs24
          replace hT := hT.then hs24
          have hz24 := hs24.size
          refine ⟨(by repeat' first | exact trivial | exact Blk.cell ht.own.1 rfl | exact Blk.cells ht.own.1 rfl | exact Blk.cell ho.1 rfl | exact Blk.cells ho.1 rfl | exact Blk.cell ho23.1 rfl | exact Blk.cells ho23.1 rfl | exact (hr.cell hT.sat (u := .int .i64 q) (by simp [hqi])) | assumption | refine all_keep ?_ | refine And.intro ?_ ?_), ?_⟩
          refine at_q (i := 6) (li := #[true, true, true, true, true, true, true, false, false, true, false, false]) rfl (by kernel_rfl) rfl (fun _ => (q_move rfl)) (by kernel_rfl) ?_
          refine at_q (i := 7) (li := #[true, true, true, true, true, true, true, true, false, true, false, false]) rfl (by kernel_rfl) rfl (fun _ => (q_extract rfl rfl)) (by kernel_rfl) ?_
          refine at_q (i := 8) (li := #[true, true, true, true, true, true, true, true, true, true, false, false]) rfl (by kernel_rfl) rfl (fun _ => (q_extract rfl rfl)) (by kernel_rfl) ?_
          refine at_h0 (i := 10) (li := #[true, true, true, true, true, true, true, true, true, true, true, false]) rfl (by kernel_rfl) rfl (by kernel_rfl) (h_store hs24.sat ho23 rfl rfl rfl (by kernel_rfl) rfl rfl rfl fun w25 hs25 hn25 => ?_)
          replace ht := ht.just hs25 (by omega) (fun h => by have := qt _ h; omega)
          replace ho := ho.step hs25 (fun h => by have h : _ = _ := h; omega)
          replace hb := hb.step hs25 (fun g hg h => by have h : g = b23 := h; have := ql g hg; omega)
          clear ho23; have ho23 := hn25; clear hn25
          replace hT := hT.own hs25 (by omega)
          have hz25 := hs25.size
          refine ⟨(by repeat' first | exact trivial | exact Blk.cell ht.own.1 rfl | exact Blk.cells ht.own.1 rfl | exact Blk.cell ho.1 rfl | exact Blk.cells ho.1 rfl | exact Blk.cell ho23.1 rfl | exact Blk.cells ho23.1 rfl | exact (hr.cell hT.sat (u := .int .i64 q) (by simp [hqi])) | assumption | refine all_keep ?_ | refine And.intro ?_ ?_), ?_⟩
          refine at_q (i := 11) (li := #[true, true, true, true, true, true, true, true, true, true, true, true]) rfl (by kernel_rfl) rfl (fun _ => (q_assign rfl)) (by kernel_rfl) ?_
          refine at_done (by kernel_rfl) ?_
          exact ⟨_, (.cons rfl (.cons rfl (.cons rfl (.cons rfl (.cons rfl (.cons rfl (.cons rfl (.cons rfl (.cons rfl (.cons rfl (.nil _))))))))))), b23, la, lc, rfl, hT, ht, ho, hb, ho23, hb, by omega, by omega, fun h => by have := qt _ h; omega, fun g hg => by
            obtain ⟨h1, h2, h3, h4⟩ := hlb g hg
            have h5 := ql g hg
            exact ⟨h1, h2, by omega, h3, h4⟩⟩
      clear hT ht ho hb
      rintro l w ⟨d, ma, mc, rfl, hT, ht, ho, hb0, hod, hb, hrd, hbd, htd, hlb2⟩
      refine cw_rs fun K22 hK22 => ?_
      -- region 13
      refine as_q rfl rfl (q_loadc (n := 2) (by kernel_rfl) rfl (by first | exact Blk.cells ht.own.1 rfl | exact Blk.cells ho.1 rfl | exact Blk.cells hod.1 rfl | assumption)) ?_
      refine as_h0 (h_store hT.sat ho rfl rfl rfl (by kernel_rfl) rfl rfl rfl fun w26 hs26 hn26 => ?_)
      replace ht := ht.just hs26 (fun h => hbr h) htr
      replace hod := hod.step hs26 (fun h => hrd (Eq.symm h))
      replace hb := hb.step hs26 (fun g hg h => (hlb2 g hg).2.1 h)
      clear ho; have ho := hn26; clear hn26
      replace hT := hT.own hs26 (by omega)
      have hz26 := hs26.size
      refine as_nil (hK22 _ _ ?_)
      clear hK22 K22
      refine cw_rd (by kernel_rfl) (by kernel_rfl) (by kernel_rfl) rfl rfl fun K23 hK23 => ?_
      clear hb0 hlb
      have hlb := fun g hg => (⟨(hlb2 g hg).1, (hlb2 g hg).2.1, (hlb2 g hg).2.2.2.1, (hlb2 g hg).2.2.2.2⟩ : g ≠ b ∧ g ≠ r ∧ tv.ownBlock ≠ some g ∧ w0.heap.size ≤ g)
      -- region 14
      have hs27 := Step.drew hs26.sat
      have hz27 := hs27.size
      replace ht := ht.then hs27
      replace ho := ho.then hs27
      replace hb := hb.then hs27
      replace hT := hT.then hs27
      refine at_q (i := 0) (li := #[true, false, false, false, false, false, false, false, false, false, false, false, false, false, false, false, false, false, false, false, false, false, false, false, false, false, false, false, false, false, false, false, false, false, false, false, false, false, false, false, false, false, false, false]) rfl (by kernel_rfl) rfl (fun _ => (q_move rfl)) (by kernel_rfl) ?_
      refine at_q (i := 1) (li := #[true, true, false, false, false, false, false, false, false, false, false, false, false, false, false, false, false, false, false, false, false, false, false, false, false, false, false, false, false, false, false, false, false, false, false, false, false, false, false, false, false, false, false, false]) rfl (by kernel_rfl) rfl (fun _ => (q_move rfl)) (by kernel_rfl) ?_
      first | refine at_gskip (i := 2) (li := #[true, true, true, false, false, false, false, false, false, false, false, false, false, false, false, false, false, false, false, false, false, false, false, false, false, false, false, false, false, false, false, false, false, false, false, false, false, false, false, false, false, false, false, false]) rfl (by kernel_rfl) rfl rfl rfl rfl rfl (by kernel_rfl) ?_ | refine at_gskipU (i := 2) (li := #[true, true, true, false, false, false, false, false, false, false, false, false, false, false, false, false, false, false, false, false, false, false, false, false, false, false, false, false, false, false, false, false, false, false, false, false, false, false, false, false, false, false, false, false]) rfl (by kernel_rfl) rfl rfl rfl rfl (by kernel_rfl) ?_ | refine at_gp (i := 2) (li := #[true, true, true, false, false, false, false, false, false, false, false, false, false, false, false, false, false, false, false, false, false, false, false, false, false, false, false, false, false, false, false, false, false, false, false, false, false, false, false, false, false, false, false, false]) rfl (by kernel_rfl) rfl rfl rfl rfl (fun _ => (q_move rfl)) (by kernel_rfl) ?_
      first | refine at_gskip (i := 3) (li := #[true, true, true, true, false, false, false, false, false, false, false, false, false, false, false, false, false, false, false, false, false, false, false, false, false, false, false, false, false, false, false, false, false, false, false, false, false, false, false, false, false, false, false, false]) rfl (by kernel_rfl) rfl rfl rfl rfl rfl (by kernel_rfl) ?_ | refine at_gskipU (i := 3) (li := #[true, true, true, true, false, false, false, false, false, false, false, false, false, false, false, false, false, false, false, false, false, false, false, false, false, false, false, false, false, false, false, false, false, false, false, false, false, false, false, false, false, false, false, false]) rfl (by kernel_rfl) rfl rfl rfl rfl (by kernel_rfl) ?_ | refine at_gp (i := 3) (li := #[true, true, true, true, false, false, false, false, false, false, false, false, false, false, false, false, false, false, false, false, false, false, false, false, false, false, false, false, false, false, false, false, false, false, false, false, false, false, false, false, false, false, false, false]) rfl (by kernel_rfl) rfl rfl rfl rfl (fun _ => (q_neT rfl rfl (by omega))) (by kernel_rfl) ?_ | refine at_gp (i := 3) (li := #[true, true, true, true, false, false, false, false, false, false, false, false, false, false, false, false, false, false, false, false, false, false, false, false, false, false, false, false, false, false, false, false, false, false, false, false, false, false, false, false, false, false, false, false]) rfl (by kernel_rfl) rfl rfl rfl rfl (fun _ => (q_neF rfl rfl (by omega))) (by kernel_rfl) ?_ | refine at_gp (i := 3) (li := #[true, true, true, true, false, false, false, false, false, false, false, false, false, false, false, false, false, false, false, false, false, false, false, false, false, false, false, false, false, false, false, false, false, false, false, false, false, false, false, false, false, false, false, false]) rfl (by kernel_rfl) rfl rfl rfl rfl (fun _ => (q_ne rfl rfl)) (by kernel_rfl) ?_
      first | refine at_gskip (i := 4) (li := #[true, true, true, true, true, false, false, false, false, false, false, false, false, false, false, false, false, false, false, false, false, false, false, false, false, false, false, false, false, false, false, false, false, false, false, false, false, false, false, false, false, false, false, false]) rfl (by kernel_rfl) rfl rfl rfl rfl rfl (by kernel_rfl) ?_ | refine at_gskipU (i := 4) (li := #[true, true, true, true, true, false, false, false, false, false, false, false, false, false, false, false, false, false, false, false, false, false, false, false, false, false, false, false, false, false, false, false, false, false, false, false, false, false, false, false, false, false, false, false]) rfl (by kernel_rfl) rfl rfl rfl rfl (by kernel_rfl) ?_ | refine at_gp (i := 4) (li := #[true, true, true, true, true, false, false, false, false, false, false, false, false, false, false, false, false, false, false, false, false, false, false, false, false, false, false, false, false, false, false, false, false, false, false, false, false, false, false, false, false, false, false, false]) rfl (by kernel_rfl) rfl rfl rfl rfl (fun _ => (q_move rfl)) (by kernel_rfl) ?_
      first | refine at_gskip (i := 5) (li := #[true, true, true, true, true, true, false, false, false, false, false, false, false, false, false, false, false, false, false, false, false, false, false, false, false, false, false, false, false, false, false, false, false, false, false, false, false, false, false, false, false, false, false, false]) rfl (by kernel_rfl) rfl rfl rfl rfl rfl (by kernel_rfl) ?_ | refine at_gskipU (i := 5) (li := #[true, true, true, true, true, true, false, false, false, false, false, false, false, false, false, false, false, false, false, false, false, false, false, false, false, false, false, false, false, false, false, false, false, false, false, false, false, false, false, false, false, false, false, false]) rfl (by kernel_rfl) rfl rfl rfl rfl (by kernel_rfl) ?_ | refine at_gp (i := 5) (li := #[true, true, true, true, true, true, false, false, false, false, false, false, false, false, false, false, false, false, false, false, false, false, false, false, false, false, false, false, false, false, false, false, false, false, false, false, false, false, false, false, false, false, false, false]) rfl (by kernel_rfl) rfl rfl rfl rfl (fun _ => (q_move rfl)) (by kernel_rfl) ?_
      first | refine at_gskip (i := 6) (li := #[true, true, true, true, true, true, true, false, false, false, false, false, false, false, false, false, false, false, false, false, false, false, false, false, false, false, false, false, false, false, false, false, false, false, false, false, false, false, false, false, false, false, false, false]) rfl (by kernel_rfl) rfl rfl rfl rfl rfl (by kernel_rfl) ?_ | refine at_gskipU (i := 6) (li := #[true, true, true, true, true, true, true, false, false, false, false, false, false, false, false, false, false, false, false, false, false, false, false, false, false, false, false, false, false, false, false, false, false, false, false, false, false, false, false, false, false, false, false, false]) rfl (by kernel_rfl) rfl rfl rfl rfl (by kernel_rfl) ?_ | refine at_gp (i := 6) (li := #[true, true, true, true, true, true, true, false, false, false, false, false, false, false, false, false, false, false, false, false, false, false, false, false, false, false, false, false, false, false, false, false, false, false, false, false, false, false, false, false, false, false, false, false]) rfl (by kernel_rfl) rfl rfl rfl rfl (fun _ => (q_fieldAddr (off := 0) (by kernel_rfl) rfl)) (by kernel_rfl) ?_
      first | refine at_gskip (i := 7) (li := #[true, true, true, true, true, true, true, true, false, false, false, false, false, false, false, false, false, false, false, false, false, false, false, false, false, false, false, false, false, false, false, false, false, false, false, false, false, false, false, false, false, false, false, false]) rfl (by kernel_rfl) rfl rfl rfl rfl rfl (by kernel_rfl) ?_ | refine at_gskipU (i := 7) (li := #[true, true, true, true, true, true, true, true, false, false, false, false, false, false, false, false, false, false, false, false, false, false, false, false, false, false, false, false, false, false, false, false, false, false, false, false, false, false, false, false, false, false, false, false]) rfl (by kernel_rfl) rfl rfl rfl rfl (by kernel_rfl) ?_ | refine at_gq (i := 7) (li := #[true, true, true, true, true, true, true, true, false, false, false, false, false, false, false, false, false, false, false, false, false, false, false, false, false, false, false, false, false, false, false, false, false, false, false, false, false, false, false, false, false, false, false, false]) (cellIs _ _ _) rfl (by kernel_rfl) rfl rfl rfl rfl (fun _ h => q_load1 (by kernel_rfl) rfl h) (by first | exact Blk.cell ht.own.1 rfl | exact Blk.cell ho.1 rfl | assumption) (by kernel_rfl) ?_
      first | refine at_gskip (i := 8) (li := #[true, true, true, true, true, true, true, true, true, false, false, false, false, false, false, false, false, false, false, false, false, false, false, false, false, false, false, false, false, false, false, false, false, false, false, false, false, false, false, false, false, false, false, false]) rfl (by kernel_rfl) rfl rfl rfl rfl rfl (by kernel_rfl) ?_ | refine at_gskipU (i := 8) (li := #[true, true, true, true, true, true, true, true, true, false, false, false, false, false, false, false, false, false, false, false, false, false, false, false, false, false, false, false, false, false, false, false, false, false, false, false, false, false, false, false, false, false, false, false]) rfl (by kernel_rfl) rfl rfl rfl rfl (by kernel_rfl) ?_ | refine at_gp (i := 8) (li := #[true, true, true, true, true, true, true, true, true, false, false, false, false, false, false, false, false, false, false, false, false, false, false, false, false, false, false, false, false, false, false, false, false, false, false, false, false, false, false, false, false, false, false, false]) rfl (by kernel_rfl) rfl rfl rfl rfl (fun _ => (q_len (by kernel_rfl) rfl _)) (by kernel_rfl) ?_
      first | refine at_gskip (i := 9) (li := #[true, true, true, true, true, true, true, true, true, true, false, false, false, false, false, false, false, false, false, false, false, false, false, false, false, false, false, false, false, false, false, false, false, false, false, false, false, false, false, false, false, false, false, false]) rfl (by kernel_rfl) rfl rfl rfl rfl rfl (by kernel_rfl) ?_ | refine at_gskipU (i := 9) (li := #[true, true, true, true, true, true, true, true, true, true, false, false, false, false, false, false, false, false, false, false, false, false, false, false, false, false, false, false, false, false, false, false, false, false, false, false, false, false, false, false, false, false, false, false]) rfl (by kernel_rfl) rfl rfl rfl rfl (by kernel_rfl) ?_ | refine at_gp (i := 9) (li := #[true, true, true, true, true, true, true, true, true, true, false, false, false, false, false, false, false, false, false, false, false, false, false, false, false, false, false, false, false, false, false, false, false, false, false, false, false, false, false, false, false, false, false, false]) rfl (by kernel_rfl) rfl rfl rfl rfl (fun _ => (q_subx rfl rfl (by omega) (by omega))) (by kernel_rfl) ?_
      first | refine at_gskip (i := 10) (li := #[true, true, true, true, true, true, true, true, true, true, true, false, false, false, false, false, false, false, false, false, false, false, false, false, false, false, false, false, false, false, false, false, false, false, false, false, false, false, false, false, false, false, false, false]) rfl (by kernel_rfl) rfl rfl rfl rfl rfl (by kernel_rfl) ?_ | refine at_gskipU (i := 10) (li := #[true, true, true, true, true, true, true, true, true, true, true, false, false, false, false, false, false, false, false, false, false, false, false, false, false, false, false, false, false, false, false, false, false, false, false, false, false, false, false, false, false, false, false, false]) rfl (by kernel_rfl) rfl rfl rfl rfl (by kernel_rfl) ?_ | refine at_gp (i := 10) (li := #[true, true, true, true, true, true, true, true, true, true, true, false, false, false, false, false, false, false, false, false, false, false, false, false, false, false, false, false, false, false, false, false, false, false, false, false, false, false, false, false, false, false, false, false]) rfl (by kernel_rfl) rfl rfl rfl rfl (fun _ => (q_neT rfl rfl (by omega))) (by kernel_rfl) ?_ | refine at_gp (i := 10) (li := #[true, true, true, true, true, true, true, true, true, true, true, false, false, false, false, false, false, false, false, false, false, false, false, false, false, false, false, false, false, false, false, false, false, false, false, false, false, false, false, false, false, false, false, false]) rfl (by kernel_rfl) rfl rfl rfl rfl (fun _ => (q_neF rfl rfl (by omega))) (by kernel_rfl) ?_ | refine at_gp (i := 10) (li := #[true, true, true, true, true, true, true, true, true, true, true, false, false, false, false, false, false, false, false, false, false, false, false, false, false, false, false, false, false, false, false, false, false, false, false, false, false, false, false, false, false, false, false, false]) rfl (by kernel_rfl) rfl rfl rfl rfl (fun _ => (q_ne rfl rfl)) (by kernel_rfl) ?_
      first | refine at_gskip (i := 11) (li := #[true, true, true, true, true, true, true, true, true, true, true, true, false, false, false, false, false, false, false, false, false, false, false, false, false, false, false, false, false, false, false, false, false, false, false, false, false, false, false, false, false, false, false, false]) rfl (by kernel_rfl) rfl rfl rfl rfl rfl (by kernel_rfl) ?_ | refine at_gskipU (i := 11) (li := #[true, true, true, true, true, true, true, true, true, true, true, true, false, false, false, false, false, false, false, false, false, false, false, false, false, false, false, false, false, false, false, false, false, false, false, false, false, false, false, false, false, false, false, false]) rfl (by kernel_rfl) rfl rfl rfl rfl (by kernel_rfl) ?_ | refine at_gp (i := 11) (li := #[true, true, true, true, true, true, true, true, true, true, true, true, false, false, false, false, false, false, false, false, false, false, false, false, false, false, false, false, false, false, false, false, false, false, false, false, false, false, false, false, false, false, false, false]) rfl (by kernel_rfl) rfl rfl rfl rfl (fun _ => (q_pick_t rfl rfl)) (by kernel_rfl) ?_ | refine at_gp (i := 11) (li := #[true, true, true, true, true, true, true, true, true, true, true, true, false, false, false, false, false, false, false, false, false, false, false, false, false, false, false, false, false, false, false, false, false, false, false, false, false, false, false, false, false, false, false, false]) rfl (by kernel_rfl) rfl rfl rfl rfl (fun _ => (q_pick_f rfl rfl)) (by kernel_rfl) ?_ | refine at_gp (i := 11) (li := #[true, true, true, true, true, true, true, true, true, true, true, true, false, false, false, false, false, false, false, false, false, false, false, false, false, false, false, false, false, false, false, false, false, false, false, false, false, false, false, false, false, false, false, false]) rfl (by kernel_rfl) rfl rfl rfl rfl (fun _ => (q_pick rfl rfl rfl)) (by kernel_rfl) ?_
      first | refine at_q (i := 12) (li := #[true, true, true, true, true, true, true, true, true, true, true, true, true, false, false, false, false, false, false, false, false, false, false, false, false, false, false, false, false, false, false, false, false, false, false, false, false, false, false, false, false, false, false, false]) rfl (by kernel_rfl) rfl (fun _ => (q_pick_t rfl rfl)) (by kernel_rfl) ?_ | refine at_q (i := 12) (li := #[true, true, true, true, true, true, true, true, true, true, true, true, true, false, false, false, false, false, false, false, false, false, false, false, false, false, false, false, false, false, false, false, false, false, false, false, false, false, false, false, false, false, false, false]) rfl (by kernel_rfl) rfl (fun _ => (q_pick_f rfl rfl)) (by kernel_rfl) ?_ | refine at_q (i := 12) (li := #[true, true, true, true, true, true, true, true, true, true, true, true, true, false, false, false, false, false, false, false, false, false, false, false, false, false, false, false, false, false, false, false, false, false, false, false, false, false, false, false, false, false, false, false]) rfl (by kernel_rfl) rfl (fun _ => (q_pick rfl rfl rfl)) (by kernel_rfl) ?_
      refine at_q (i := 13) (li := #[true, true, true, true, true, true, true, true, true, true, true, true, true, true, false, false, false, false, false, false, false, false, false, false, false, false, false, false, false, false, false, false, false, false, false, false, false, false, false, false, false, false, false, false]) rfl (by kernel_rfl) rfl (fun _ => (q_move rfl)) (by kernel_rfl) ?_
      first | refine at_gskip (i := 14) (li := #[true, true, true, true, true, true, true, true, true, true, true, true, true, true, true, false, false, false, false, false, false, false, false, false, false, false, false, false, false, false, false, false, false, false, false, false, false, false, false, false, false, false, false, false]) rfl (by kernel_rfl) rfl rfl rfl rfl rfl (by kernel_rfl) ?_ | refine at_gskipU (i := 14) (li := #[true, true, true, true, true, true, true, true, true, true, true, true, true, true, true, false, false, false, false, false, false, false, false, false, false, false, false, false, false, false, false, false, false, false, false, false, false, false, false, false, false, false, false, false]) rfl (by kernel_rfl) rfl rfl rfl rfl (by kernel_rfl) ?_ | refine at_gp (i := 14) (li := #[true, true, true, true, true, true, true, true, true, true, true, true, true, true, true, false, false, false, false, false, false, false, false, false, false, false, false, false, false, false, false, false, false, false, false, false, false, false, false, false, false, false, false, false]) rfl (by kernel_rfl) rfl rfl rfl rfl (fun _ => (q_move rfl)) (by kernel_rfl) ?_
      first | refine at_gskip (i := 15) (li := #[true, true, true, true, true, true, true, true, true, true, true, true, true, true, true, true, false, false, false, false, false, false, false, false, false, false, false, false, false, false, false, false, false, false, false, false, false, false, false, false, false, false, false, false]) rfl (by kernel_rfl) rfl rfl rfl rfl rfl (by kernel_rfl) ?_ | refine at_gskipU (i := 15) (li := #[true, true, true, true, true, true, true, true, true, true, true, true, true, true, true, true, false, false, false, false, false, false, false, false, false, false, false, false, false, false, false, false, false, false, false, false, false, false, false, false, false, false, false, false]) rfl (by kernel_rfl) rfl rfl rfl rfl (by kernel_rfl) ?_ | refine at_gp (i := 15) (li := #[true, true, true, true, true, true, true, true, true, true, true, true, true, true, true, true, false, false, false, false, false, false, false, false, false, false, false, false, false, false, false, false, false, false, false, false, false, false, false, false, false, false, false, false]) rfl (by kernel_rfl) rfl rfl rfl rfl (fun _ => (q_not rfl)) (by kernel_rfl) ?_
      first | refine at_gskip (i := 16) (li := #[true, true, true, true, true, true, true, true, true, true, true, true, true, true, true, true, true, false, false, false, false, false, false, false, false, false, false, false, false, false, false, false, false, false, false, false, false, false, false, false, false, false, false, false]) rfl (by kernel_rfl) rfl rfl rfl rfl rfl (by kernel_rfl) ?_ | refine at_gskipU (i := 16) (li := #[true, true, true, true, true, true, true, true, true, true, true, true, true, true, true, true, true, false, false, false, false, false, false, false, false, false, false, false, false, false, false, false, false, false, false, false, false, false, false, false, false, false, false, false]) rfl (by kernel_rfl) rfl rfl rfl rfl (by kernel_rfl) ?_ | refine at_gp (i := 16) (li := #[true, true, true, true, true, true, true, true, true, true, true, true, true, true, true, true, true, false, false, false, false, false, false, false, false, false, false, false, false, false, false, false, false, false, false, false, false, false, false, false, false, false, false, false]) rfl (by kernel_rfl) rfl rfl rfl rfl (fun _ => (q_move rfl)) (by kernel_rfl) ?_
      first | refine at_gskip (i := 17) (li := #[true, true, true, true, true, true, true, true, true, true, true, true, true, true, true, true, true, true, false, false, false, false, false, false, false, false, false, false, false, false, false, false, false, false, false, false, false, false, false, false, false, false, false, false]) rfl (by kernel_rfl) rfl rfl rfl rfl rfl (by kernel_rfl) ?_ | refine at_gskipU (i := 17) (li := #[true, true, true, true, true, true, true, true, true, true, true, true, true, true, true, true, true, true, false, false, false, false, false, false, false, false, false, false, false, false, false, false, false, false, false, false, false, false, false, false, false, false, false, false]) rfl (by kernel_rfl) rfl rfl rfl rfl (by kernel_rfl) ?_ | refine at_gp (i := 17) (li := #[true, true, true, true, true, true, true, true, true, true, true, true, true, true, true, true, true, true, false, false, false, false, false, false, false, false, false, false, false, false, false, false, false, false, false, false, false, false, false, false, false, false, false, false]) rfl (by kernel_rfl) rfl rfl rfl rfl (fun _ => (q_move rfl)) (by kernel_rfl) ?_
      first | refine at_gskip (i := 18) (li := #[true, true, true, true, true, true, true, true, true, true, true, true, true, true, true, true, true, true, true, false, false, false, false, false, false, false, false, false, false, false, false, false, false, false, false, false, false, false, false, false, false, false, false, false]) rfl (by kernel_rfl) rfl rfl rfl rfl rfl (by kernel_rfl) ?_ | refine at_gskipU (i := 18) (li := #[true, true, true, true, true, true, true, true, true, true, true, true, true, true, true, true, true, true, true, false, false, false, false, false, false, false, false, false, false, false, false, false, false, false, false, false, false, false, false, false, false, false, false, false]) rfl (by kernel_rfl) rfl rfl rfl rfl (by kernel_rfl) ?_ | refine at_gp (i := 18) (li := #[true, true, true, true, true, true, true, true, true, true, true, true, true, true, true, true, true, true, true, false, false, false, false, false, false, false, false, false, false, false, false, false, false, false, false, false, false, false, false, false, false, false, false, false]) rfl (by kernel_rfl) rfl rfl rfl rfl (fun _ => (q_neT rfl rfl (by omega))) (by kernel_rfl) ?_ | refine at_gp (i := 18) (li := #[true, true, true, true, true, true, true, true, true, true, true, true, true, true, true, true, true, true, true, false, false, false, false, false, false, false, false, false, false, false, false, false, false, false, false, false, false, false, false, false, false, false, false, false]) rfl (by kernel_rfl) rfl rfl rfl rfl (fun _ => (q_neF rfl rfl (by omega))) (by kernel_rfl) ?_ | refine at_gp (i := 18) (li := #[true, true, true, true, true, true, true, true, true, true, true, true, true, true, true, true, true, true, true, false, false, false, false, false, false, false, false, false, false, false, false, false, false, false, false, false, false, false, false, false, false, false, false, false]) rfl (by kernel_rfl) rfl rfl rfl rfl (fun _ => (q_ne rfl rfl)) (by kernel_rfl) ?_
      first | refine at_gskip (i := 19) (li := #[true, true, true, true, true, true, true, true, true, true, true, true, true, true, true, true, true, true, true, true, false, false, false, false, false, false, false, false, false, false, false, false, false, false, false, false, false, false, false, false, false, false, false, false]) rfl (by kernel_rfl) rfl rfl rfl rfl rfl (by kernel_rfl) ?_ | refine at_gskipU (i := 19) (li := #[true, true, true, true, true, true, true, true, true, true, true, true, true, true, true, true, true, true, true, true, false, false, false, false, false, false, false, false, false, false, false, false, false, false, false, false, false, false, false, false, false, false, false, false]) rfl (by kernel_rfl) rfl rfl rfl rfl (by kernel_rfl) ?_ | refine at_gp (i := 19) (li := #[true, true, true, true, true, true, true, true, true, true, true, true, true, true, true, true, true, true, true, true, false, false, false, false, false, false, false, false, false, false, false, false, false, false, false, false, false, false, false, false, false, false, false, false]) rfl (by kernel_rfl) rfl rfl rfl rfl (fun _ => (q_move rfl)) (by kernel_rfl) ?_
      first | refine at_gskip (i := 20) (li := #[true, true, true, true, true, true, true, true, true, true, true, true, true, true, true, true, true, true, true, true, true, false, false, false, false, false, false, false, false, false, false, false, false, false, false, false, false, false, false, false, false, false, false, false]) rfl (by kernel_rfl) rfl rfl rfl rfl rfl (by kernel_rfl) ?_ | refine at_gskipU (i := 20) (li := #[true, true, true, true, true, true, true, true, true, true, true, true, true, true, true, true, true, true, true, true, true, false, false, false, false, false, false, false, false, false, false, false, false, false, false, false, false, false, false, false, false, false, false, false]) rfl (by kernel_rfl) rfl rfl rfl rfl (by kernel_rfl) ?_ | refine at_gp (i := 20) (li := #[true, true, true, true, true, true, true, true, true, true, true, true, true, true, true, true, true, true, true, true, true, false, false, false, false, false, false, false, false, false, false, false, false, false, false, false, false, false, false, false, false, false, false, false]) rfl (by kernel_rfl) rfl rfl rfl rfl (fun _ => (q_move rfl)) (by kernel_rfl) ?_
      first | refine at_gskip (i := 21) (li := #[true, true, true, true, true, true, true, true, true, true, true, true, true, true, true, true, true, true, true, true, true, true, false, false, false, false, false, false, false, false, false, false, false, false, false, false, false, false, false, false, false, false, false, false]) rfl (by kernel_rfl) rfl rfl rfl rfl rfl (by kernel_rfl) ?_ | refine at_gskipU (i := 21) (li := #[true, true, true, true, true, true, true, true, true, true, true, true, true, true, true, true, true, true, true, true, true, true, false, false, false, false, false, false, false, false, false, false, false, false, false, false, false, false, false, false, false, false, false, false]) rfl (by kernel_rfl) rfl rfl rfl rfl (by kernel_rfl) ?_ | refine at_gp (i := 21) (li := #[true, true, true, true, true, true, true, true, true, true, true, true, true, true, true, true, true, true, true, true, true, true, false, false, false, false, false, false, false, false, false, false, false, false, false, false, false, false, false, false, false, false, false, false]) rfl (by kernel_rfl) rfl rfl rfl rfl (fun _ => (q_neT rfl rfl (by omega))) (by kernel_rfl) ?_ | refine at_gp (i := 21) (li := #[true, true, true, true, true, true, true, true, true, true, true, true, true, true, true, true, true, true, true, true, true, true, false, false, false, false, false, false, false, false, false, false, false, false, false, false, false, false, false, false, false, false, false, false]) rfl (by kernel_rfl) rfl rfl rfl rfl (fun _ => (q_neF rfl rfl (by omega))) (by kernel_rfl) ?_ | refine at_gp (i := 21) (li := #[true, true, true, true, true, true, true, true, true, true, true, true, true, true, true, true, true, true, true, true, true, true, false, false, false, false, false, false, false, false, false, false, false, false, false, false, false, false, false, false, false, false, false, false]) rfl (by kernel_rfl) rfl rfl rfl rfl (fun _ => (q_ne rfl rfl)) (by kernel_rfl) ?_
      first | refine at_gskip (i := 22) (li := #[true, true, true, true, true, true, true, true, true, true, true, true, true, true, true, true, true, true, true, true, true, true, true, false, false, false, false, false, false, false, false, false, false, false, false, false, false, false, false, false, false, false, false, false]) rfl (by kernel_rfl) rfl rfl rfl rfl rfl (by kernel_rfl) ?_ | refine at_gskipU (i := 22) (li := #[true, true, true, true, true, true, true, true, true, true, true, true, true, true, true, true, true, true, true, true, true, true, true, false, false, false, false, false, false, false, false, false, false, false, false, false, false, false, false, false, false, false, false, false]) rfl (by kernel_rfl) rfl rfl rfl rfl (by kernel_rfl) ?_ | refine at_gp (i := 22) (li := #[true, true, true, true, true, true, true, true, true, true, true, true, true, true, true, true, true, true, true, true, true, true, true, false, false, false, false, false, false, false, false, false, false, false, false, false, false, false, false, false, false, false, false, false]) rfl (by kernel_rfl) rfl rfl rfl rfl (fun _ => (q_pick_t rfl rfl)) (by kernel_rfl) ?_ | refine at_gp (i := 22) (li := #[true, true, true, true, true, true, true, true, true, true, true, true, true, true, true, true, true, true, true, true, true, true, true, false, false, false, false, false, false, false, false, false, false, false, false, false, false, false, false, false, false, false, false, false]) rfl (by kernel_rfl) rfl rfl rfl rfl (fun _ => (q_pick_f rfl rfl)) (by kernel_rfl) ?_ | refine at_gp (i := 22) (li := #[true, true, true, true, true, true, true, true, true, true, true, true, true, true, true, true, true, true, true, true, true, true, true, false, false, false, false, false, false, false, false, false, false, false, false, false, false, false, false, false, false, false, false, false]) rfl (by kernel_rfl) rfl rfl rfl rfl (fun _ => (q_pick rfl rfl rfl)) (by kernel_rfl) ?_
      first | refine at_gskip (i := 23) (li := #[true, true, true, true, true, true, true, true, true, true, true, true, true, true, true, true, true, true, true, true, true, true, true, true, false, false, false, false, false, false, false, false, false, false, false, false, false, false, false, false, false, false, false, false]) rfl (by kernel_rfl) rfl rfl rfl rfl rfl (by kernel_rfl) ?_ | refine at_gskipU (i := 23) (li := #[true, true, true, true, true, true, true, true, true, true, true, true, true, true, true, true, true, true, true, true, true, true, true, true, false, false, false, false, false, false, false, false, false, false, false, false, false, false, false, false, false, false, false, false]) rfl (by kernel_rfl) rfl rfl rfl rfl (by kernel_rfl) ?_ | refine at_gp (i := 23) (li := #[true, true, true, true, true, true, true, true, true, true, true, true, true, true, true, true, true, true, true, true, true, true, true, true, false, false, false, false, false, false, false, false, false, false, false, false, false, false, false, false, false, false, false, false]) rfl (by kernel_rfl) rfl rfl rfl rfl (fun _ => (q_pick_t rfl rfl)) (by kernel_rfl) ?_ | refine at_gp (i := 23) (li := #[true, true, true, true, true, true, true, true, true, true, true, true, true, true, true, true, true, true, true, true, true, true, true, true, false, false, false, false, false, false, false, false, false, false, false, false, false, false, false, false, false, false, false, false]) rfl (by kernel_rfl) rfl rfl rfl rfl (fun _ => (q_pick_f rfl rfl)) (by kernel_rfl) ?_ | refine at_gp (i := 23) (li := #[true, true, true, true, true, true, true, true, true, true, true, true, true, true, true, true, true, true, true, true, true, true, true, true, false, false, false, false, false, false, false, false, false, false, false, false, false, false, false, false, false, false, false, false]) rfl (by kernel_rfl) rfl rfl rfl rfl (fun _ => (q_pick rfl rfl rfl)) (by kernel_rfl) ?_
      first | refine at_q (i := 24) (li := #[true, true, true, true, true, true, true, true, true, true, true, true, true, true, true, true, true, true, true, true, true, true, true, true, true, false, false, false, false, false, false, false, false, false, false, false, false, false, false, false, false, false, false, false]) rfl (by kernel_rfl) rfl (fun _ => (q_pick_t rfl rfl)) (by kernel_rfl) ?_ | refine at_q (i := 24) (li := #[true, true, true, true, true, true, true, true, true, true, true, true, true, true, true, true, true, true, true, true, true, true, true, true, true, false, false, false, false, false, false, false, false, false, false, false, false, false, false, false, false, false, false, false]) rfl (by kernel_rfl) rfl (fun _ => (q_pick_f rfl rfl)) (by kernel_rfl) ?_ | refine at_q (i := 24) (li := #[true, true, true, true, true, true, true, true, true, true, true, true, true, true, true, true, true, true, true, true, true, true, true, true, true, false, false, false, false, false, false, false, false, false, false, false, false, false, false, false, false, false, false, false]) rfl (by kernel_rfl) rfl (fun _ => (q_pick rfl rfl rfl)) (by kernel_rfl) ?_
      refine at_q (i := 25) (li := #[true, true, true, true, true, true, true, true, true, true, true, true, true, true, true, true, true, true, true, true, true, true, true, true, true, true, false, false, false, false, false, false, false, false, false, false, false, false, false, false, false, false, false, false]) rfl (by kernel_rfl) rfl (fun _ => (q_move rfl)) (by kernel_rfl) ?_
      first | refine at_gskip (i := 26) (li := #[true, true, true, true, true, true, true, true, true, true, true, true, true, true, true, true, true, true, true, true, true, true, true, true, true, true, true, false, false, false, false, false, false, false, false, false, false, false, false, false, false, false, false, false]) rfl (by kernel_rfl) rfl rfl rfl rfl rfl (by kernel_rfl) ?_ | refine at_gskipU (i := 26) (li := #[true, true, true, true, true, true, true, true, true, true, true, true, true, true, true, true, true, true, true, true, true, true, true, true, true, true, true, false, false, false, false, false, false, false, false, false, false, false, false, false, false, false, false, false]) rfl (by kernel_rfl) rfl rfl rfl rfl (by kernel_rfl) ?_ | refine at_gp (i := 26) (li := #[true, true, true, true, true, true, true, true, true, true, true, true, true, true, true, true, true, true, true, true, true, true, true, true, true, true, true, false, false, false, false, false, false, false, false, false, false, false, false, false, false, false, false, false]) rfl (by kernel_rfl) rfl rfl rfl rfl (fun _ => (q_move rfl)) (by kernel_rfl) ?_
      first | refine at_gskip (i := 28) (li := #[true, true, true, true, true, true, true, true, true, true, true, true, true, true, true, true, true, true, true, true, true, true, true, true, true, true, true, false, true, false, false, false, false, false, false, false, false, false, false, false, false, false, false, false]) rfl (by kernel_rfl) rfl rfl rfl rfl rfl (by kernel_rfl) ?_ | refine at_gskipU (i := 28) (li := #[true, true, true, true, true, true, true, true, true, true, true, true, true, true, true, true, true, true, true, true, true, true, true, true, true, true, true, false, true, false, false, false, false, false, false, false, false, false, false, false, false, false, false, false]) rfl (by kernel_rfl) rfl rfl rfl rfl (by kernel_rfl) ?_ | refine at_gp (i := 28) (li := #[true, true, true, true, true, true, true, true, true, true, true, true, true, true, true, true, true, true, true, true, true, true, true, true, true, true, true, false, true, false, false, false, false, false, false, false, false, false, false, false, false, false, false, false]) rfl (by kernel_rfl) rfl rfl rfl rfl (fun _ => (q_fieldAddr (off := 0) (by kernel_rfl) rfl)) (by kernel_rfl) ?_
      first | refine at_gskip (i := 29) (li := #[true, true, true, true, true, true, true, true, true, true, true, true, true, true, true, true, true, true, true, true, true, true, true, true, true, true, true, false, true, true, false, false, false, false, false, false, false, false, false, false, false, false, false, false]) rfl (by kernel_rfl) rfl rfl rfl rfl rfl (by kernel_rfl) ?_ | refine at_gskipU (i := 29) (li := #[true, true, true, true, true, true, true, true, true, true, true, true, true, true, true, true, true, true, true, true, true, true, true, true, true, true, true, false, true, true, false, false, false, false, false, false, false, false, false, false, false, false, false, false]) rfl (by kernel_rfl) rfl rfl rfl rfl (by kernel_rfl) ?_ | refine at_gq (i := 29) (li := #[true, true, true, true, true, true, true, true, true, true, true, true, true, true, true, true, true, true, true, true, true, true, true, true, true, true, true, false, true, true, false, false, false, false, false, false, false, false, false, false, false, false, false, false]) (cellIs _ _ _) rfl (by kernel_rfl) rfl rfl rfl rfl (fun _ h => q_load1 (by kernel_rfl) rfl h) (by first | exact Blk.cell ht.own.1 rfl | exact Blk.cell ho.1 rfl | assumption) (by kernel_rfl) ?_
      first | refine at_gskip (i := 30) (li := #[true, true, true, true, true, true, true, true, true, true, true, true, true, true, true, true, true, true, true, true, true, true, true, true, true, true, true, false, true, true, true, false, false, false, false, false, false, false, false, false, false, false, false, false]) rfl (by kernel_rfl) rfl rfl rfl rfl rfl (by kernel_rfl) ?_ | refine at_gskipU (i := 30) (li := #[true, true, true, true, true, true, true, true, true, true, true, true, true, true, true, true, true, true, true, true, true, true, true, true, true, true, true, false, true, true, true, false, false, false, false, false, false, false, false, false, false, false, false, false]) rfl (by kernel_rfl) rfl rfl rfl rfl (by kernel_rfl) ?_ | refine at_gp (i := 30) (li := #[true, true, true, true, true, true, true, true, true, true, true, true, true, true, true, true, true, true, true, true, true, true, true, true, true, true, true, false, true, true, true, false, false, false, false, false, false, false, false, false, false, false, false, false]) rfl (by kernel_rfl) rfl rfl rfl rfl (fun _ => (q_len (by kernel_rfl) rfl _)) (by kernel_rfl) ?_
      refine at_gh (i := 27) (li := #[true, true, true, true, true, true, true, true, true, true, true, true, true, true, true, true, true, true, true, true, true, true, true, true, true, true, true, true, true, true, true, false, false, false, false, false, false, false, false, false, false, false, false, false]) rfl (by kernel_rfl) rfl rfl rfl rfl rfl (by kernel_rfl) (h_call (by kernel_rfl) rfl ?_)
      refine (len_int hs27.sat ht).mono ?_
      rintro _ w28 ⟨rfl, hs28⟩
      replace ht := ht.then hs28
      replace ho := ho.then hs28
      replace hb := hb.then hs28
      replace hT := hT.then hs28
      have hz28 := hs28.size
      refine ⟨(by repeat' first | exact trivial | exact Blk.cell ht.own.1 rfl | exact Blk.cells ht.own.1 rfl | exact Blk.cell ho.1 rfl | exact Blk.cells ho.1 rfl | assumption | refine all_keep ?_ | refine And.intro ?_ ?_), ?_⟩
      first | refine at_gskip (i := 31) (li := #[true, true, true, true, true, true, true, true, true, true, true, true, true, true, true, true, true, true, true, true, true, true, true, true, true, true, true, true, true, true, true, true, false, false, false, false, false, false, false, false, false, false, false, false]) rfl (by kernel_rfl) rfl rfl rfl rfl rfl (by kernel_rfl) ?_ | refine at_gskipU (i := 31) (li := #[true, true, true, true, true, true, true, true, true, true, true, true, true, true, true, true, true, true, true, true, true, true, true, true, true, true, true, true, true, true, true, true, false, false, false, false, false, false, false, false, false, false, false, false]) rfl (by kernel_rfl) rfl rfl rfl rfl (by kernel_rfl) ?_ | refine at_gp (i := 31) (li := #[true, true, true, true, true, true, true, true, true, true, true, true, true, true, true, true, true, true, true, true, true, true, true, true, true, true, true, true, true, true, true, true, false, false, false, false, false, false, false, false, false, false, false, false]) rfl (by kernel_rfl) rfl rfl rfl rfl (fun _ => (q_neT rfl rfl (by omega))) (by kernel_rfl) ?_ | refine at_gp (i := 31) (li := #[true, true, true, true, true, true, true, true, true, true, true, true, true, true, true, true, true, true, true, true, true, true, true, true, true, true, true, true, true, true, true, true, false, false, false, false, false, false, false, false, false, false, false, false]) rfl (by kernel_rfl) rfl rfl rfl rfl (fun _ => (q_neF rfl rfl (by omega))) (by kernel_rfl) ?_ | refine at_gp (i := 31) (li := #[true, true, true, true, true, true, true, true, true, true, true, true, true, true, true, true, true, true, true, true, true, true, true, true, true, true, true, true, true, true, true, true, false, false, false, false, false, false, false, false, false, false, false, false]) rfl (by kernel_rfl) rfl rfl rfl rfl (fun _ => (q_ne rfl rfl)) (by kernel_rfl) ?_
      first | refine at_q (i := 32) (li := #[true, true, true, true, true, true, true, true, true, true, true, true, true, true, true, true, true, true, true, true, true, true, true, true, true, true, true, true, true, true, true, true, true, false, false, false, false, false, false, false, false, false, false, false]) rfl (by kernel_rfl) rfl (fun _ => (q_pick_t rfl rfl)) (by kernel_rfl) ?_ | refine at_q (i := 32) (li := #[true, true, true, true, true, true, true, true, true, true, true, true, true, true, true, true, true, true, true, true, true, true, true, true, true, true, true, true, true, true, true, true, true, false, false, false, false, false, false, false, false, false, false, false]) rfl (by kernel_rfl) rfl (fun _ => (q_pick_f rfl rfl)) (by kernel_rfl) ?_ | refine at_q (i := 32) (li := #[true, true, true, true, true, true, true, true, true, true, true, true, true, true, true, true, true, true, true, true, true, true, true, true, true, true, true, true, true, true, true, true, true, false, false, false, false, false, false, false, false, false, false, false]) rfl (by kernel_rfl) rfl (fun _ => (q_pick rfl rfl rfl)) (by kernel_rfl) ?_
      refine at_q (i := 33) (li := #[true, true, true, true, true, true, true, true, true, true, true, true, true, true, true, true, true, true, true, true, true, true, true, true, true, true, true, true, true, true, true, true, true, true, false, false, false, false, false, false, false, false, false, false]) rfl (by kernel_rfl) rfl (fun _ => (q_move rfl)) (by kernel_rfl) ?_
      first | refine at_gskip (i := 34) (li := #[true, true, true, true, true, true, true, true, true, true, true, true, true, true, true, true, true, true, true, true, true, true, true, true, true, true, true, true, true, true, true, true, true, true, true, false, false, false, false, false, false, false, false, false]) rfl (by kernel_rfl) rfl rfl rfl rfl rfl (by kernel_rfl) ?_ | refine at_gskipU (i := 34) (li := #[true, true, true, true, true, true, true, true, true, true, true, true, true, true, true, true, true, true, true, true, true, true, true, true, true, true, true, true, true, true, true, true, true, true, true, false, false, false, false, false, false, false, false, false]) rfl (by kernel_rfl) rfl rfl rfl rfl (by kernel_rfl) ?_ | refine at_gp (i := 34) (li := #[true, true, true, true, true, true, true, true, true, true, true, true, true, true, true, true, true, true, true, true, true, true, true, true, true, true, true, true, true, true, true, true, true, true, true, false, false, false, false, false, false, false, false, false]) rfl (by kernel_rfl) rfl rfl rfl rfl (fun _ => (q_move rfl)) (by kernel_rfl) ?_
      first | refine at_gskip (i := 36) (li := #[true, true, true, true, true, true, true, true, true, true, true, true, true, true, true, true, true, true, true, true, true, true, true, true, true, true, true, true, true, true, true, true, true, true, true, false, true, false, false, false, false, false, false, false]) rfl (by kernel_rfl) rfl rfl rfl rfl rfl (by kernel_rfl) ?_ | refine at_gskipU (i := 36) (li := #[true, true, true, true, true, true, true, true, true, true, true, true, true, true, true, true, true, true, true, true, true, true, true, true, true, true, true, true, true, true, true, true, true, true, true, false, true, false, false, false, false, false, false, false]) rfl (by kernel_rfl) rfl rfl rfl rfl (by kernel_rfl) ?_ | refine at_gp (i := 36) (li := #[true, true, true, true, true, true, true, true, true, true, true, true, true, true, true, true, true, true, true, true, true, true, true, true, true, true, true, true, true, true, true, true, true, true, true, false, true, false, false, false, false, false, false, false]) rfl (by kernel_rfl) rfl rfl rfl rfl (fun _ => (q_fieldAddr (off := 1) (by kernel_rfl) rfl)) (by kernel_rfl) ?_
      first | refine at_gskip (i := 37) (li := #[true, true, true, true, true, true, true, true, true, true, true, true, true, true, true, true, true, true, true, true, true, true, true, true, true, true, true, true, true, true, true, true, true, true, true, false, true, true, false, false, false, false, false, false]) rfl (by kernel_rfl) rfl rfl rfl rfl rfl (by kernel_rfl) ?_ | refine at_gskipU (i := 37) (li := #[true, true, true, true, true, true, true, true, true, true, true, true, true, true, true, true, true, true, true, true, true, true, true, true, true, true, true, true, true, true, true, true, true, true, true, false, true, true, false, false, false, false, false, false]) rfl (by kernel_rfl) rfl rfl rfl rfl (by kernel_rfl) ?_ | refine at_gq (i := 37) (li := #[true, true, true, true, true, true, true, true, true, true, true, true, true, true, true, true, true, true, true, true, true, true, true, true, true, true, true, true, true, true, true, true, true, true, true, false, true, true, false, false, false, false, false, false]) (cellIs _ _ _) rfl (by kernel_rfl) rfl rfl rfl rfl (fun _ h => q_load1 (by kernel_rfl) rfl h) (by first | exact Blk.cell ht.own.1 rfl | exact Blk.cell ho.1 rfl | assumption) (by kernel_rfl) ?_
      first | refine at_gskip (i := 38) (li := #[true, true, true, true, true, true, true, true, true, true, true, true, true, true, true, true, true, true, true, true, true, true, true, true, true, true, true, true, true, true, true, true, true, true, true, false, true, true, true, false, false, false, false, false]) rfl (by kernel_rfl) rfl rfl rfl rfl rfl (by kernel_rfl) ?_ | refine at_gskipU (i := 38) (li := #[true, true, true, true, true, true, true, true, true, true, true, true, true, true, true, true, true, true, true, true, true, true, true, true, true, true, true, true, true, true, true, true, true, true, true, false, true, true, true, false, false, false, false, false]) rfl (by kernel_rfl) rfl rfl rfl rfl (by kernel_rfl) ?_ | refine at_gp (i := 38) (li := #[true, true, true, true, true, true, true, true, true, true, true, true, true, true, true, true, true, true, true, true, true, true, true, true, true, true, true, true, true, true, true, true, true, true, true, false, true, true, true, false, false, false, false, false]) rfl (by kernel_rfl) rfl rfl rfl rfl (fun _ => (q_fieldAddr (off := 0) (by kernel_rfl) rfl)) (by kernel_rfl) ?_
      first | refine at_gskip (i := 39) (li := #[true, true, true, true, true, true, true, true, true, true, true, true, true, true, true, true, true, true, true, true, true, true, true, true, true, true, true, true, true, true, true, true, true, true, true, false, true, true, true, true, false, false, false, false]) rfl (by kernel_rfl) rfl rfl rfl rfl rfl (by kernel_rfl) ?_ | refine at_gskipU (i := 39) (li := #[true, true, true, true, true, true, true, true, true, true, true, true, true, true, true, true, true, true, true, true, true, true, true, true, true, true, true, true, true, true, true, true, true, true, true, false, true, true, true, true, false, false, false, false]) rfl (by kernel_rfl) rfl rfl rfl rfl (by kernel_rfl) ?_ | refine at_gq (i := 39) (li := #[true, true, true, true, true, true, true, true, true, true, true, true, true, true, true, true, true, true, true, true, true, true, true, true, true, true, true, true, true, true, true, true, true, true, true, false, true, true, true, true, false, false, false, false]) (cellIs _ _ _) rfl (by kernel_rfl) rfl rfl rfl rfl (fun _ h => q_load1 (by kernel_rfl) rfl h) (by first | exact Blk.cell ht.own.1 rfl | exact Blk.cell ho.1 rfl | assumption) (by kernel_rfl) ?_
      first | refine at_gskip (i := 40) (li := #[true, true, true, true, true, true, true, true, true, true, true, true, true, true, true, true, true, true, true, true, true, true, true, true, true, true, true, true, true, true, true, true, true, true, true, false, true, true, true, true, true, false, false, false]) rfl (by kernel_rfl) rfl rfl rfl rfl rfl (by kernel_rfl) ?_ | refine at_gskipU (i := 40) (li := #[true, true, true, true, true, true, true, true, true, true, true, true, true, true, true, true, true, true, true, true, true, true, true, true, true, true, true, true, true, true, true, true, true, true, true, false, true, true, true, true, true, false, false, false]) rfl (by kernel_rfl) rfl rfl rfl rfl (by kernel_rfl) ?_ | refine at_gp (i := 40) (li := #[true, true, true, true, true, true, true, true, true, true, true, true, true, true, true, true, true, true, true, true, true, true, true, true, true, true, true, true, true, true, true, true, true, true, true, false, true, true, true, true, true, false, false, false]) rfl (by kernel_rfl) rfl rfl rfl rfl (fun _ => (q_len (by kernel_rfl) rfl _)) (by kernel_rfl) ?_
      first | refine at_gskip (i := 41) (li := #[true, true, true, true, true, true, true, true, true, true, true, true, true, true, true, true, true, true, true, true, true, true, true, true, true, true, true, true, true, true, true, true, true, true, true, false, true, true, true, true, true, true, false, false]) rfl (by kernel_rfl) rfl rfl rfl rfl rfl (by kernel_rfl) ?_ | refine at_gskipU (i := 41) (li := #[true, true, true, true, true, true, true, true, true, true, true, true, true, true, true, true, true, true, true, true, true, true, true, true, true, true, true, true, true, true, true, true, true, true, true, false, true, true, true, true, true, true, false, false]) rfl (by kernel_rfl) rfl rfl rfl rfl (by kernel_rfl) ?_ | refine at_gp (i := 41) (li := #[true, true, true, true, true, true, true, true, true, true, true, true, true, true, true, true, true, true, true, true, true, true, true, true, true, true, true, true, true, true, true, true, true, true, true, false, true, true, true, true, true, true, false, false]) rfl (by kernel_rfl) rfl rfl rfl rfl (fun _ => (q_subx rfl rfl (by omega) (by omega))) (by kernel_rfl) ?_
      refine at_gh (i := 35) (li := #[true, true, true, true, true, true, true, true, true, true, true, true, true, true, true, true, true, true, true, true, true, true, true, true, true, true, true, true, true, true, true, true, true, true, true, true, true, true, true, true, true, true, false, false]) rfl (by kernel_rfl) rfl rfl rfl rfl rfl (by kernel_rfl) (h_call (by kernel_rfl) rfl ?_)
      refine (room_int hs28.sat ht (by omega) (by omega) (by omega)).mono ?_
      rintro _ w29 ⟨rfl, hs29⟩
      replace ht := ht.then hs29
      replace ho := ho.then hs29
      replace hb := hb.then hs29
      replace hT := hT.then hs29
      have hz29 := hs29.size
      refine ⟨(by repeat' first | exact trivial | exact Blk.cell ht.own.1 rfl | exact Blk.cells ht.own.1 rfl | exact Blk.cell ho.1 rfl | exact Blk.cells ho.1 rfl | assumption | refine all_keep ?_ | refine And.intro ?_ ?_), ?_⟩
      first | refine at_gskip (i := 42) (li := #[true, true, true, true, true, true, true, true, true, true, true, true, true, true, true, true, true, true, true, true, true, true, true, true, true, true, true, true, true, true, true, true, true, true, true, true, true, true, true, true, true, true, true, false]) rfl (by kernel_rfl) rfl rfl rfl rfl rfl (by kernel_rfl) ?_ | refine at_gskipU (i := 42) (li := #[true, true, true, true, true, true, true, true, true, true, true, true, true, true, true, true, true, true, true, true, true, true, true, true, true, true, true, true, true, true, true, true, true, true, true, true, true, true, true, true, true, true, true, false]) rfl (by kernel_rfl) rfl rfl rfl rfl (by kernel_rfl) ?_ | refine at_gp (i := 42) (li := #[true, true, true, true, true, true, true, true, true, true, true, true, true, true, true, true, true, true, true, true, true, true, true, true, true, true, true, true, true, true, true, true, true, true, true, true, true, true, true, true, true, true, true, false]) rfl (by kernel_rfl) rfl rfl rfl rfl (fun _ => (q_neT rfl rfl (by omega))) (by kernel_rfl) ?_ | refine at_gp (i := 42) (li := #[true, true, true, true, true, true, true, true, true, true, true, true, true, true, true, true, true, true, true, true, true, true, true, true, true, true, true, true, true, true, true, true, true, true, true, true, true, true, true, true, true, true, true, false]) rfl (by kernel_rfl) rfl rfl rfl rfl (fun _ => (q_neF rfl rfl (by omega))) (by kernel_rfl) ?_ | refine at_gp (i := 42) (li := #[true, true, true, true, true, true, true, true, true, true, true, true, true, true, true, true, true, true, true, true, true, true, true, true, true, true, true, true, true, true, true, true, true, true, true, true, true, true, true, true, true, true, true, false]) rfl (by kernel_rfl) rfl rfl rfl rfl (fun _ => (q_ne rfl rfl)) (by kernel_rfl) ?_
      first | refine at_q (i := 43) (li := #[true, true, true, true, true, true, true, true, true, true, true, true, true, true, true, true, true, true, true, true, true, true, true, true, true, true, true, true, true, true, true, true, true, true, true, true, true, true, true, true, true, true, true, true]) rfl (by kernel_rfl) rfl (fun _ => (q_pick_t rfl rfl)) (by kernel_rfl) ?_ | refine at_q (i := 43) (li := #[true, true, true, true, true, true, true, true, true, true, true, true, true, true, true, true, true, true, true, true, true, true, true, true, true, true, true, true, true, true, true, true, true, true, true, true, true, true, true, true, true, true, true, true]) rfl (by kernel_rfl) rfl (fun _ => (q_pick_f rfl rfl)) (by kernel_rfl) ?_ | refine at_q (i := 43) (li := #[true, true, true, true, true, true, true, true, true, true, true, true, true, true, true, true, true, true, true, true, true, true, true, true, true, true, true, true, true, true, true, true, true, true, true, true, true, true, true, true, true, true, true, true]) rfl (by kernel_rfl) rfl (fun _ => (q_pick rfl rfl rfl)) (by kernel_rfl) ?_
      refine at_done (by kernel_rfl) (hK23 _ _ ?_)
      clear hK23 K23
      refine cw_false rfl ?_
      refine cw_skip ?_
      refine hK19 _ _ ?_
      clear hK19 K19
      refine cw_region fun K24 hK24 => ?_
      -- region 10
      refine as_q rfl rfl (q_move rfl) ?_
      refine as_q rfl rfl (q_addx rfl rfl (by omega) (by omega)) ?_
      refine as_q rfl rfl (q_assign rfl) ?_
      refine as_nil (hK24 _ _ ?_)
      clear hK24 K24
      exact ⟨_, _, by omega, (.cons rfl (.cons rfl (.cons rfl (.cons rfl (.cons rfl (.cons rfl (.nil _))))))), i + 1, k, _, _, _, rfl, by omega, .inr ⟨by omega, by omega⟩, rfl, hT, ht, ho, hb, htr, hlb⟩
  · skip
    have hge : i = n := by have := of_decide_eq_false hc2; omega
    refine cw_exit ?_
    refine hK9 _ _ ?_
    clear hK11 K11
    clear hK9 K9
    refine cw_rs fun K25 hK25 => ?_
    -- region 16
    refine as_q rfl rfl (q_move rfl) ?_
    refine as_h rfl (h_call (by kernel_rfl) rfl ?_)
    have hbw := ht.own.1.lt
    have hrw := ho.1.lt
    have htw := ht.buf.lt
    have hlw := hb.lt
    have hsz0 := hT.size
    refine (all_int hT.sat ht (fun x hx => by obtain ⟨s, _, rfl⟩ := List.mem_map.1 hx; rfl) (by omega)).mono ?_
    rintro xv w30 ⟨hs30, hx, hxf⟩
    replace ht := ht.then hs30
    replace ho := ho.then hs30
    replace hb := hb.then hs30
    replace hT := hT.then hs30
    have hz30 := hs30.size
    have hxs : ∀ g, xv.ownBlock = some g → b ≠ g ∧ r ≠ g ∧ tv.ownBlock ≠ some g ∧ (Value.slice la k lc).ownBlock ≠ some g ∧ w0.heap.size ≤ g := fun g hg => by
      have h0 := hxf g hg
      have h1 := hT.size
      refine ⟨by omega, by omega, fun h => ?_, fun h => ?_, ?_⟩
      · have := htw g h; omega
      · have := hlw g h; omega
      · exact Nat.le_trans hsz0 h0
    obtain ⟨xa, xc, rfl, hxc, _⟩ := hx.slice
    refine as_q rfl rfl (q_assign rfl) ?_
    refine as_nil (hK25 _ _ ?_)
    clear hK25 K25
    refine cw_seq fun K26 hK26 => ?_
    refine cw_rs fun K27 hK27 => ?_
    -- region 17
    refine as_q rfl rfl (q_move rfl) ?_
    refine as_q rfl rfl (q_len (by kernel_rfl) rfl _) ?_
    refine as_q rfl rfl (q_fieldAddr (off := 0) (by kernel_rfl) rfl) ?_
    refine as_q rfl rfl (q_load1 (by kernel_rfl) rfl (by first | exact Blk.cell ht.own.1 rfl | exact Blk.cell ho.1 rfl | assumption)) ?_
    refine as_q rfl rfl (q_len (by kernel_rfl) rfl _) ?_
    first | refine as_q rfl rfl (q_neT rfl rfl (by omega)) ?_ | refine as_q rfl rfl (q_neF rfl rfl (by omega)) ?_ | refine as_q rfl rfl (q_ne rfl rfl) ?_
    refine as_nil (hK27 _ _ ?_)
    clear hK27 K27
    refine cw_false rfl ?_
    refine cw_skip ?_
    refine hK26 _ _ ?_
    clear hK26 K26
    refine cw_seq fun K28 hK28 => ?_
    refine cw_rs fun K29 hK29 => ?_
    -- region 19
    refine as_q rfl rfl (q_assign rfl) ?_
    refine as_nil (hK29 _ _ ?_)
    clear hK29 K29
    refine cw_block ?_
    refine cw_loop (fun mm l w => ∃ (i : Nat) (us : List Int), mm = k - i ∧ i ≤ k ∧ us.length = k ∧ (∀ j, i ≤ j → us[j]? = (xs.take k)[j]?) ∧ l = [(0, .int .i64 room), (1, .slice a n c), (2, .slice a2 m c2), (8, .pointer (some ⟨b, 0, none⟩)), (9, .pointer (some ⟨r, 0, none⟩)), (15, .slice xa k xc), (16, .int .i64 i)] ∧ Step Nope M0 w0 M0 w ∧ Tbl 88 3 1 w0.heap.size w M0 b tv k ((xs.take (k)).map (.int .i64)) rm ∧ Own w M0 r [.slice la k lc, .int .i64 rm] 38 ∧ Buf w M0 3 1 (.slice la k lc) k ((xs.take (k)).map (.int .i64)) ∧ Buf w M0 3 1 (.slice xa k xc) k (us.map (.int .i64))) (k) [(0, .int .i64 room), (1, .slice a n c), (2, .slice a2 m c2), (8, .pointer (some ⟨b, 0, none⟩)), (9, .pointer (some ⟨r, 0, none⟩)), (15, .slice xa k xc), (16, .int .i64 (0 : Nat))] (.cons rfl (.cons rfl (.cons rfl (.cons rfl (.cons rfl (.cons rfl (.cons rfl (.nil _)))))))) ?_ ?_
    · skip
      exact ⟨0, xs.take k, rfl, Nat.zero_le _, by simp; omega, fun _ _ => rfl, rfl, hT, ht, ho, hb, hx⟩
    clear ht hT ho hb hx
    rintro mm l w ⟨i, us, rfl, hi, hul, hus, rfl, hT, ht, ho, hb, hx⟩
    refine cw_seq fun K30 hK30 => ?_
    refine cw_rs fun K31 hK31 => ?_
    -- region 20
    refine as_q rfl rfl (q_move rfl) ?_
    refine as_q rfl rfl (q_move rfl) ?_
    refine as_q rfl rfl (q_len (by kernel_rfl) rfl _) ?_
    first | refine as_q rfl rfl (q_ltT rfl rfl (by omega)) ?_ | refine as_q rfl rfl (q_ltF rfl rfl (by omega)) ?_ | refine as_q rfl rfl (q_lt rfl rfl) ?_
    refine as_nil (hK31 _ _ ?_)
    clear hK31 K31
    refine cw_cond rfl (fun hc5 => ?_) (fun hc5 => ?_)
    · skip
      have hlt : i < k := by have := of_decide_eq_true hc5; omega
      obtain ⟨xg, xc2, hxe, _⟩ := hx.head (by omega)
      cases hxe
      obtain ⟨lg, lc2, hle, _⟩ := hb.head (by omega)
      cases hle
      have husi : us[i]'(by omega) = xs[i]'(by omega) := by have h := hus i (Nat.le_refl _); rw [List.getElem?_eq_getElem (by omega), List.getElem?_take, if_pos hlt, List.getElem?_eq_getElem (by omega)] at h; exact Option.some.inj h
      refine cw_skip ?_
      refine hK30 _ _ ?_
      clear hK30 K30
      refine cw_seq fun K32 hK32 => ?_
      refine cw_block ?_
      refine cw_rs fun K33 hK33 => ?_
      -- region 22
      refine as_q rfl rfl (q_move rfl) ?_
      refine as_q rfl rfl (q_move rfl) ?_
      refine as_h rfl (h_call (by kernel_rfl) rfl ?_)
      refine (at_int (u := .int .i64 (xs[i]'(by omega))) hT.sat ht (by omega) (by omega) (get_take_map _ _ (by omega) (by omega))).mono ?_
      rintro _ w31 ⟨rfl, hs31⟩
      replace ht := ht.then hs31
      replace ho := ho.then hs31
      replace hb := hb.then hs31
      replace hx := hx.then hs31
      replace hT := hT.then hs31
      have hz31 := hs31.size
      refine as_q rfl rfl (q_move rfl) ?_
      refine as_q rfl rfl (q_extract rfl rfl) ?_
      refine as_q rfl rfl (q_extract rfl rfl) ?_
      refine as_q rfl rfl (q_assign rfl) ?_
      refine as_q rfl rfl (q_assign rfl) ?_
      refine as_nil (hK33 _ _ ?_)
      clear hK33 K33
      refine cw_seq fun K34 hK34 => ?_
      refine cw_rs fun K35 hK35 => ?_
      -- region 23
      refine as_q rfl rfl (q_move rfl) ?_
      first | refine as_q rfl rfl (q_neT rfl rfl (by omega)) ?_ | refine as_q rfl rfl (q_neF rfl rfl (by omega)) ?_ | refine as_q rfl rfl (q_ne rfl rfl) ?_
      refine as_q rfl rfl (q_move rfl) ?_
      first | refine as_gskip rfl rfl rfl rfl rfl ?_ | refine as_gskipU rfl rfl rfl rfl ?_ | refine as_gh rfl rfl rfl rfl (h_q rfl (q_move rfl) ?_)
      first | refine as_gskip rfl rfl rfl rfl rfl ?_ | refine as_gskipU rfl rfl rfl rfl ?_ | refine as_gh rfl rfl rfl rfl (h_q rfl (q_fieldAddr (off := 0) (by kernel_rfl) rfl) ?_)
      first | refine as_gskip rfl rfl rfl rfl rfl ?_ | refine as_gskipU rfl rfl rfl rfl ?_ | refine as_gh rfl rfl rfl rfl (h_q rfl (q_load1 (by kernel_rfl) rfl (by first | exact Blk.cell ht.own.1 rfl | exact Blk.cell ho.1 rfl | assumption)) ?_)
      first | refine as_gskip rfl rfl rfl rfl rfl ?_ | refine as_gskipU rfl rfl rfl rfl ?_ | refine as_gh rfl rfl rfl rfl (h_q rfl (q_move rfl) ?_)
      first | refine as_gskip rfl rfl rfl rfl rfl ?_ | refine as_gskipU rfl rfl rfl rfl ?_ | refine as_gh rfl rfl rfl rfl (h_q rfl (q_indexAddr (e := 3) (size := 1) (by kernel_rfl) (by kernel_rfl) rfl rfl (by omega) (by omega)) ?_)
      first | refine as_gskip rfl rfl rfl rfl rfl ?_ | refine as_gskipU rfl rfl rfl rfl ?_ | refine as_gh rfl rfl rfl rfl (h_q rfl (q_load1 (by kernel_rfl) rfl (hb.cell (u := .int .i64 (xs[i]'(by omega))) (by simpa using get_take_map (Value.int .i64) xs (j := i) (k := k) (by omega) (by omega)))) ?_)
      first | refine as_gskip rfl rfl rfl rfl rfl ?_ | refine as_gskipU rfl rfl rfl rfl ?_ | refine as_gh rfl rfl rfl rfl (h_q rfl (q_neT rfl rfl (by omega)) ?_) | refine as_gh rfl rfl rfl rfl (h_q rfl (q_neF rfl rfl (by omega)) ?_) | refine as_gh rfl rfl rfl rfl (h_q rfl (q_ne rfl rfl) ?_)
      first | refine as_q rfl rfl (q_pick_t rfl rfl) ?_ | refine as_q rfl rfl (q_pick_f rfl rfl) ?_ | refine as_q rfl rfl (q_pick rfl rfl rfl) ?_
      refine as_q rfl rfl (q_move rfl) ?_
      first | refine as_gskip rfl rfl rfl rfl rfl ?_ | refine as_gskipU rfl rfl rfl rfl ?_ | refine as_gh rfl rfl rfl rfl (h_q rfl (q_move rfl) ?_)
      first | refine as_gskip rfl rfl rfl rfl rfl ?_ | refine as_gskipU rfl rfl rfl rfl ?_ | refine as_gh rfl rfl rfl rfl (h_q rfl (q_move rfl) ?_)
      first | refine as_gskip rfl rfl rfl rfl rfl ?_ | refine as_gskipU rfl rfl rfl rfl ?_ | refine as_gh rfl rfl rfl rfl (h_q rfl (q_indexAddr (e := 3) (size := 1) (by kernel_rfl) (by kernel_rfl) rfl rfl (by omega) (by omega)) ?_)
      first | refine as_gskip rfl rfl rfl rfl rfl ?_ | refine as_gskipU rfl rfl rfl rfl ?_ | refine as_gh rfl rfl rfl rfl (h_q rfl (q_load1 (by kernel_rfl) rfl (hx.cell (u := .int .i64 (us[i]'(by omega))) (by simp))) ?_)
      first | refine as_gskip rfl rfl rfl rfl rfl ?_ | refine as_gskipU rfl rfl rfl rfl ?_ | refine as_gh rfl rfl rfl rfl (h_q rfl (q_move rfl) ?_)
      first | refine as_gskip rfl rfl rfl rfl rfl ?_ | refine as_gskipU rfl rfl rfl rfl ?_ | refine as_gh rfl rfl rfl rfl (h_q rfl (q_neT rfl rfl (by omega)) ?_) | refine as_gh rfl rfl rfl rfl (h_q rfl (q_neF rfl rfl (by omega)) ?_) | refine as_gh rfl rfl rfl rfl (h_q rfl (q_ne rfl rfl) ?_)
      first | refine as_q rfl rfl (q_pick_t rfl rfl) ?_ | refine as_q rfl rfl (q_pick_f rfl rfl) ?_ | refine as_q rfl rfl (q_pick rfl rfl rfl) ?_
      refine as_nil (hK35 _ _ ?_)
      clear hK35 K35
      refine cw_false rfl ?_
      refine cw_skip ?_
      refine hK34 _ _ ?_
      clear hK34 K34
      refine cw_rs fun K36 hK36 => ?_
      -- region 25
      refine as_q rfl rfl (q_move rfl) ?_
      refine as_q rfl rfl (q_move rfl) ?_
      refine as_q rfl rfl (q_indexAddr (e := 3) (size := 1) (by kernel_rfl) (by kernel_rfl) rfl rfl (by omega) (by omega)) ?_
      refine as_q rfl rfl (q_load1 (by kernel_rfl) rfl (hx.cell (u := .int .i64 (us[i]'(by omega))) (by simp))) ?_
      refine as_q rfl rfl (q_add rfl rfl) ?_
      refine as_q rfl rfl (q_indexAddr (e := 3) (size := 1) (by kernel_rfl) (by kernel_rfl) rfl rfl (by omega) (by omega)) ?_
      refine as_h0 (h_storeB hs31.sat hx rfl rfl rfl (by kernel_rfl) (by simp [vcells]; omega) rfl rfl fun w32 hs32 hx32 => ?_)
      replace ht := ht.just hs32 (hxs _ rfl).1 (hxs _ rfl).2.2.1
      replace ho := ho.step hs32 (hxs _ rfl).2.1
      replace hb := hb.step hs32 (fun g hg h => by cases h; exact (hxs _ rfl).2.2.2.1 hg)
      replace hT := hT.own hs32 (hxs _ rfl).2.2.2.2
      refine as_nil (hK36 _ _ ?_)
      clear hK36 K36
      refine cw_rs fun K37 hK37 => ?_
      -- region 26
      refine as_q rfl rfl (q_move rfl) ?_
      refine as_q rfl rfl (q_move rfl) ?_
      refine as_h rfl (h_call (by kernel_rfl) rfl ?_)
      refine (at_int (u := .int .i64 (xs[i]'(by omega))) hs32.sat ht (by omega) (by omega) (get_take_map _ _ (by omega) (by omega))).mono ?_
      rintro _ w33 ⟨rfl, hs33⟩
      replace ht := ht.then hs33
      replace ho := ho.then hs33
      replace hb := hb.then hs33
      replace hx32 := hx32.then hs33
      replace hT := hT.then hs33
      have hz33 := hs33.size
      refine as_q rfl rfl (q_move rfl) ?_
      refine as_q rfl rfl (q_extract rfl rfl) ?_
      refine as_q rfl rfl (q_extract rfl rfl) ?_
      refine as_q rfl rfl (q_assign rfl) ?_
      refine as_q rfl rfl (q_assign rfl) ?_
      refine as_nil (hK37 _ _ ?_)
      clear hK37 K37
      refine cw_rs fun K38 hK38 => ?_
      -- region 27
      refine as_q rfl rfl (q_move rfl) ?_
      refine as_q rfl rfl (q_move rfl) ?_
      first | refine as_q rfl rfl (q_neT rfl rfl (by omega)) ?_ | refine as_q rfl rfl (q_neF rfl rfl (by omega)) ?_ | refine as_q rfl rfl (q_ne rfl rfl) ?_
      refine as_nil (hK38 _ _ ?_)
      clear hK38 K38
      refine cw_false rfl ?_
      refine cw_skip ?_
      refine hK32 _ _ ?_
      clear hK32 K32
      refine cw_region fun K39 hK39 => ?_
      -- region 21
      refine as_q rfl rfl (q_move rfl) ?_
      refine as_q rfl rfl (q_addx rfl rfl (by omega) (by omega)) ?_
      refine as_q rfl rfl (q_assign rfl) ?_
      refine as_nil (hK39 _ _ ?_)
      clear hK39 K39
      exact ⟨_, _, by omega, (.cons rfl (.cons rfl (.cons rfl (.cons rfl (.cons rfl (.cons rfl (.cons rfl (.nil _)))))))), i + 1, us.set i (IntKind.i64.wrap (us[i]'(by omega) + 1)), rfl, by omega, by simpa using hul, fun j hj => by rw [List.getElem?_set_ne (by omega)]; exact hus j (by omega), rfl, hT, ht, ho, hb, by have h := hx32; simpa [puts, vcells, List.map_set] using h⟩
    · skip
      have hge : i = k := by have := of_decide_eq_false hc5; omega
      refine cw_exit ?_
      refine hK28 _ _ ?_
      clear hK30 K30
      clear hK28 K28
      refine cw_seq fun K40 hK40 => ?_
      refine cw_rs fun K41 hK41 => ?_
      -- region 29
      refine as_q rfl rfl (q_assign rfl) ?_
      refine as_nil (hK41 _ _ ?_)
      clear hK41 K41
      refine cw_block ?_
      refine cw_loop (fun mm l w => ∃ (i : Nat), mm = m - i ∧ i ≤ m ∧ l = [(0, .int .i64 room), (1, .slice a n c), (2, .slice a2 m c2), (8, .pointer (some ⟨b, 0, none⟩)), (9, .pointer (some ⟨r, 0, none⟩)), (21, .int .i64 i)] ∧ Step Nope M0 w0 M0 w ∧ Tbl 88 3 1 w0.heap.size w M0 b tv k ((xs.take (k)).map (.int .i64)) rm ∧ Own w M0 r [.slice la k lc, .int .i64 rm] 38 ∧ Buf w M0 3 1 (.slice la k lc) k ((xs.take (k)).map (.int .i64))) (m) [(0, .int .i64 room), (1, .slice a n c), (2, .slice a2 m c2), (8, .pointer (some ⟨b, 0, none⟩)), (9, .pointer (some ⟨r, 0, none⟩)), (21, .int .i64 (0 : Nat))] (.cons rfl (.cons rfl (.cons rfl (.cons rfl (.cons rfl (.cons rfl (.nil _))))))) ?_ ?_
      · skip
        exact ⟨0, rfl, Nat.zero_le _, rfl, hT, ht, ho, hb⟩
      clear ht hT ho hb
      rintro mm l w ⟨i, rfl, hi, rfl, hT, ht, ho, hb⟩
      refine cw_seq fun K42 hK42 => ?_
      refine cw_rs fun K43 hK43 => ?_
      -- region 30
      refine as_q rfl rfl (q_move rfl) ?_
      refine as_q rfl rfl (q_move rfl) ?_
      refine as_q rfl rfl (q_len (by kernel_rfl) rfl _) ?_
      first | refine as_q rfl rfl (q_ltT rfl rfl (by omega)) ?_ | refine as_q rfl rfl (q_ltF rfl rfl (by omega)) ?_ | refine as_q rfl rfl (q_lt rfl rfl) ?_
      refine as_nil (hK43 _ _ ?_)
      clear hK43 K43
      refine cw_cond rfl (fun hc8 => ?_) (fun hc8 => ?_)
      · skip
        have hlt : i < m := by have := of_decide_eq_true hc8; omega
        obtain ⟨g2, o2, rfl⟩ := hsome2 (by omega)
        obtain ⟨p, hp⟩ : ∃ p, ys[i]? = some p := ⟨ys[i], by simp⟩
        have hpc : p < 0 ∨ (0 ≤ p ∧ p < k) ∨ (k : Int) ≤ p := by omega
        rcases hpc with hp0 | ⟨hp0, hp1⟩ | hp0
        · skip
          refine cw_skip ?_
          refine hK42 _ _ ?_
          clear hK42 K42
          refine cw_seq fun K44 hK44 => ?_
          refine cw_block ?_
          refine cw_rs fun K45 hK45 => ?_
          -- region 32
          refine as_q rfl rfl (q_move rfl) ?_
          refine as_q rfl rfl (q_move rfl) ?_
          refine as_q rfl rfl (q_move rfl) ?_
          refine as_q rfl rfl (q_indexAddr (e := 2) (size := 1) (by kernel_rfl) (by kernel_rfl) rfl rfl (by omega) (by omega)) ?_
          refine as_q rfl rfl (q_load1 (by kernel_rfl) rfl (ha.cell hT.sat (u := .int .i64 p) (by simp [hp]))) ?_
          refine as_h rfl (h_call (by kernel_rfl) rfl ?_)
          refine (at_int_neg hT.sat (by omega)).mono ?_
          rintro _ w34 ⟨rfl, hs34⟩
          replace ht := ht.then hs34
          replace ho := ho.then hs34
          replace hb := hb.then hs34
          replace hT := hT.then hs34
          have hz34 := hs34.size
          refine as_q rfl rfl (q_move rfl) ?_
          refine as_q rfl rfl (q_extract rfl rfl) ?_
          refine as_q rfl rfl (q_extract rfl rfl) ?_
          refine as_q rfl rfl (q_assign rfl) ?_
          refine as_q rfl rfl (q_assign rfl) ?_
          refine as_nil (hK45 _ _ ?_)
          clear hK45 K45
          refine cw_rd (by kernel_rfl) (by kernel_rfl) (by kernel_rfl) rfl rfl fun K46 hK46 => ?_
          -- region 33
          have hs35 := Step.drew hs34.sat
          have hz35 := hs35.size
          replace ht := ht.then hs35
          replace ho := ho.then hs35
          replace hb := hb.then hs35
          replace hT := hT.then hs35
          refine at_q (i := 0) (li := #[true, false, false, false, false, false, false, false, false, false, false, false, false, false, false, false]) rfl (by kernel_rfl) rfl (fun _ => (q_move rfl)) (by kernel_rfl) ?_
          refine at_q (i := 1) (li := #[true, true, false, false, false, false, false, false, false, false, false, false, false, false, false, false]) rfl (by kernel_rfl) rfl (fun _ => (q_move rfl)) (by kernel_rfl) ?_
          refine at_q (i := 2) (li := #[true, true, true, false, false, false, false, false, false, false, false, false, false, false, false, false]) rfl (by kernel_rfl) rfl (fun _ => (q_indexAddr (e := 2) (size := 1) (by kernel_rfl) (by kernel_rfl) rfl rfl (by omega) (by omega))) (by kernel_rfl) ?_
          refine at_l (i := 3) (li := #[true, true, true, true, false, false, false, false, false, false, false, false, false, false, false, false]) (cellIs _ _ _) rfl (by kernel_rfl) rfl (fun _ h => q_load1 (by kernel_rfl) rfl h) (ha.cell hT.sat (u := .int .i64 p) (by simp [hp])) (by kernel_rfl) ?_
          first | refine at_q (i := 4) (li := #[true, true, true, true, true, false, false, false, false, false, false, false, false, false, false, false]) rfl (by kernel_rfl) rfl (fun _ => (q_geT rfl rfl (by omega))) (by kernel_rfl) ?_ | refine at_q (i := 4) (li := #[true, true, true, true, true, false, false, false, false, false, false, false, false, false, false, false]) rfl (by kernel_rfl) rfl (fun _ => (q_geF rfl rfl (by omega))) (by kernel_rfl) ?_ | refine at_q (i := 4) (li := #[true, true, true, true, true, false, false, false, false, false, false, false, false, false, false, false]) rfl (by kernel_rfl) rfl (fun _ => (q_ge rfl rfl)) (by kernel_rfl) ?_
          refine at_q (i := 5) (li := #[true, true, true, true, true, true, false, false, false, false, false, false, false, false, false, false]) rfl (by kernel_rfl) rfl (fun _ => (q_move rfl)) (by kernel_rfl) ?_
          first | refine at_gskip (i := 6) (li := #[true, true, true, true, true, true, true, false, false, false, false, false, false, false, false, false]) rfl (by kernel_rfl) rfl rfl rfl rfl rfl (by kernel_rfl) ?_ | refine at_gskipU (i := 6) (li := #[true, true, true, true, true, true, true, false, false, false, false, false, false, false, false, false]) rfl (by kernel_rfl) rfl rfl rfl rfl (by kernel_rfl) ?_ | refine at_gp (i := 6) (li := #[true, true, true, true, true, true, true, false, false, false, false, false, false, false, false, false]) rfl (by kernel_rfl) rfl rfl rfl rfl (fun _ => (q_move rfl)) (by kernel_rfl) ?_
          first | refine at_gskip (i := 7) (li := #[true, true, true, true, true, true, true, true, false, false, false, false, false, false, false, false]) rfl (by kernel_rfl) rfl rfl rfl rfl rfl (by kernel_rfl) ?_ | refine at_gskipU (i := 7) (li := #[true, true, true, true, true, true, true, true, false, false, false, false, false, false, false, false]) rfl (by kernel_rfl) rfl rfl rfl rfl (by kernel_rfl) ?_ | refine at_gp (i := 7) (li := #[true, true, true, true, true, true, true, true, false, false, false, false, false, false, false, false]) rfl (by kernel_rfl) rfl rfl rfl rfl (fun _ => (q_move rfl)) (by kernel_rfl) ?_
          first | refine at_gskip (i := 8) (li := #[true, true, true, true, true, true, true, true, true, false, false, false, false, false, false, false]) rfl (by kernel_rfl) rfl rfl rfl rfl rfl (by kernel_rfl) ?_ | refine at_gskipU (i := 8) (li := #[true, true, true, true, true, true, true, true, true, false, false, false, false, false, false, false]) rfl (by kernel_rfl) rfl rfl rfl rfl (by kernel_rfl) ?_ | refine at_gp (i := 8) (li := #[true, true, true, true, true, true, true, true, true, false, false, false, false, false, false, false]) rfl (by kernel_rfl) rfl rfl rfl rfl (fun _ => (q_indexAddr (e := 2) (size := 1) (by kernel_rfl) (by kernel_rfl) rfl rfl (by omega) (by omega))) (by kernel_rfl) ?_
          first | refine at_gskip (i := 9) (li := #[true, true, true, true, true, true, true, true, true, true, false, false, false, false, false, false]) rfl (by kernel_rfl) rfl rfl rfl rfl rfl (by kernel_rfl) ?_ | refine at_gskipU (i := 9) (li := #[true, true, true, true, true, true, true, true, true, true, false, false, false, false, false, false]) rfl (by kernel_rfl) rfl rfl rfl rfl (by kernel_rfl) ?_ | refine at_gq (i := 9) (li := #[true, true, true, true, true, true, true, true, true, true, false, false, false, false, false, false]) (cellIs _ _ _) rfl (by kernel_rfl) rfl rfl rfl rfl (fun _ h => q_load1 (by kernel_rfl) rfl h) (ha.cell hT.sat (u := .int .i64 p) (by simp [hp])) (by kernel_rfl) ?_
          first | refine at_gskip (i := 10) (li := #[true, true, true, true, true, true, true, true, true, true, true, false, false, false, false, false]) rfl (by kernel_rfl) rfl rfl rfl rfl rfl (by kernel_rfl) ?_ | refine at_gskipU (i := 10) (li := #[true, true, true, true, true, true, true, true, true, true, true, false, false, false, false, false]) rfl (by kernel_rfl) rfl rfl rfl rfl (by kernel_rfl) ?_ | refine at_gp (i := 10) (li := #[true, true, true, true, true, true, true, true, true, true, true, false, false, false, false, false]) rfl (by kernel_rfl) rfl rfl rfl rfl (fun _ => (q_fieldAddr (off := 0) (by kernel_rfl) rfl)) (by kernel_rfl) ?_
          first | refine at_gskip (i := 11) (li := #[true, true, true, true, true, true, true, true, true, true, true, true, false, false, false, false]) rfl (by kernel_rfl) rfl rfl rfl rfl rfl (by kernel_rfl) ?_ | refine at_gskipU (i := 11) (li := #[true, true, true, true, true, true, true, true, true, true, true, true, false, false, false, false]) rfl (by kernel_rfl) rfl rfl rfl rfl (by kernel_rfl) ?_ | refine at_gq (i := 11) (li := #[true, true, true, true, true, true, true, true, true, true, true, true, false, false, false, false]) (cellIs _ _ _) rfl (by kernel_rfl) rfl rfl rfl rfl (fun _ h => q_load1 (by kernel_rfl) rfl h) (by first | exact Blk.cell ht.own.1 rfl | exact Blk.cell ho.1 rfl | assumption) (by kernel_rfl) ?_
          first | refine at_gskip (i := 12) (li := #[true, true, true, true, true, true, true, true, true, true, true, true, true, false, false, false]) rfl (by kernel_rfl) rfl rfl rfl rfl rfl (by kernel_rfl) ?_ | refine at_gskipU (i := 12) (li := #[true, true, true, true, true, true, true, true, true, true, true, true, true, false, false, false]) rfl (by kernel_rfl) rfl rfl rfl rfl (by kernel_rfl) ?_ | refine at_gp (i := 12) (li := #[true, true, true, true, true, true, true, true, true, true, true, true, true, false, false, false]) rfl (by kernel_rfl) rfl rfl rfl rfl (fun _ => (q_len (by kernel_rfl) rfl _)) (by kernel_rfl) ?_
          first | refine at_gskip (i := 13) (li := #[true, true, true, true, true, true, true, true, true, true, true, true, true, true, false, false]) rfl (by kernel_rfl) rfl rfl rfl rfl rfl (by kernel_rfl) ?_ | refine at_gskipU (i := 13) (li := #[true, true, true, true, true, true, true, true, true, true, true, true, true, true, false, false]) rfl (by kernel_rfl) rfl rfl rfl rfl (by kernel_rfl) ?_ | refine at_gp (i := 13) (li := #[true, true, true, true, true, true, true, true, true, true, true, true, true, true, false, false]) rfl (by kernel_rfl) rfl rfl rfl rfl (fun _ => (q_ltT rfl rfl (by omega))) (by kernel_rfl) ?_ | refine at_gp (i := 13) (li := #[true, true, true, true, true, true, true, true, true, true, true, true, true, true, false, false]) rfl (by kernel_rfl) rfl rfl rfl rfl (fun _ => (q_ltF rfl rfl (by omega))) (by kernel_rfl) ?_ | refine at_gp (i := 13) (li := #[true, true, true, true, true, true, true, true, true, true, true, true, true, true, false, false]) rfl (by kernel_rfl) rfl rfl rfl rfl (fun _ => (q_lt rfl rfl)) (by kernel_rfl) ?_
          first | refine at_q (i := 14) (li := #[true, true, true, true, true, true, true, true, true, true, true, true, true, true, true, false]) rfl (by kernel_rfl) rfl (fun _ => (q_pick_t rfl rfl)) (by kernel_rfl) ?_ | refine at_q (i := 14) (li := #[true, true, true, true, true, true, true, true, true, true, true, true, true, true, true, false]) rfl (by kernel_rfl) rfl (fun _ => (q_pick_f rfl rfl)) (by kernel_rfl) ?_ | refine at_q (i := 14) (li := #[true, true, true, true, true, true, true, true, true, true, true, true, true, true, true, false]) rfl (by kernel_rfl) rfl (fun _ => (q_pick rfl rfl rfl)) (by kernel_rfl) ?_
          refine at_q (i := 15) (li := #[true, true, true, true, true, true, true, true, true, true, true, true, true, true, true, true]) rfl (by kernel_rfl) rfl (fun _ => (q_assign rfl)) (by kernel_rfl) ?_
          refine at_done (by kernel_rfl) (hK46 _ _ ?_)
          clear hK46 K46
          refine cw_rs fun K47 hK47 => ?_
          -- region 34
          refine as_q rfl rfl (q_move rfl) ?_
          refine as_q rfl rfl (q_move rfl) ?_
          first | refine as_q rfl rfl (q_eqT rfl rfl (by omega)) ?_ | refine as_q rfl rfl (q_eqF rfl rfl (by omega)) ?_ | refine as_q rfl rfl (q_eq rfl rfl) ?_
          refine as_q rfl rfl (q_neb (by kernel_rfl) rfl rfl) ?_
          refine as_q rfl rfl (q_move rfl) ?_
          first | refine as_gskip rfl rfl rfl rfl rfl ?_ | refine as_gskipU rfl rfl rfl rfl ?_ | refine as_gh rfl rfl rfl rfl (h_q rfl (q_move rfl) ?_)
          first | refine as_gskip rfl rfl rfl rfl rfl ?_ | refine as_gskipU rfl rfl rfl rfl ?_ | refine as_gh rfl rfl rfl rfl (h_q rfl (q_not rfl) ?_)
          first | refine as_gskip rfl rfl rfl rfl rfl ?_ | refine as_gskipU rfl rfl rfl rfl ?_ | refine as_gh rfl rfl rfl rfl (h_q rfl (q_move rfl) ?_)
          first | refine as_gskip rfl rfl rfl rfl rfl ?_ | refine as_gskipU rfl rfl rfl rfl ?_ | refine as_gh rfl rfl rfl rfl (h_q rfl (q_move rfl) ?_)
          first | refine as_gskip rfl rfl rfl rfl rfl ?_ | refine as_gskipU rfl rfl rfl rfl ?_ | refine as_gh rfl rfl rfl rfl (h_q rfl (q_neT rfl rfl (by omega)) ?_) | refine as_gh rfl rfl rfl rfl (h_q rfl (q_neF rfl rfl (by omega)) ?_) | refine as_gh rfl rfl rfl rfl (h_q rfl (q_ne rfl rfl) ?_)
          first | refine as_gskip rfl rfl rfl rfl rfl ?_ | refine as_gskipU rfl rfl rfl rfl ?_ | refine as_gh rfl rfl rfl rfl (h_q rfl (q_move rfl) ?_)
          first | refine as_gskip rfl rfl rfl rfl rfl ?_ | refine as_gskipU rfl rfl rfl rfl ?_ | refine as_gh rfl rfl rfl rfl (h_q rfl (q_move rfl) ?_)
          first | refine as_gskip rfl rfl rfl rfl rfl ?_ | refine as_gskipU rfl rfl rfl rfl ?_ | refine as_gh rfl rfl rfl rfl (h_q rfl (q_neT rfl rfl (by omega)) ?_) | refine as_gh rfl rfl rfl rfl (h_q rfl (q_neF rfl rfl (by omega)) ?_) | refine as_gh rfl rfl rfl rfl (h_q rfl (q_ne rfl rfl) ?_)
          first | refine as_gskip rfl rfl rfl rfl rfl ?_ | refine as_gskipU rfl rfl rfl rfl ?_ | refine as_gh rfl rfl rfl rfl (h_q rfl (q_pick_t rfl rfl) ?_) | refine as_gh rfl rfl rfl rfl (h_q rfl (q_pick_f rfl rfl) ?_) | refine as_gh rfl rfl rfl rfl (h_q rfl (q_pick rfl rfl rfl) ?_)
          first | refine as_gskip rfl rfl rfl rfl rfl ?_ | refine as_gskipU rfl rfl rfl rfl ?_ | refine as_gh rfl rfl rfl rfl (h_q rfl (q_pick_t rfl rfl) ?_) | refine as_gh rfl rfl rfl rfl (h_q rfl (q_pick_f rfl rfl) ?_) | refine as_gh rfl rfl rfl rfl (h_q rfl (q_pick rfl rfl rfl) ?_)
          first | refine as_q rfl rfl (q_pick_t rfl rfl) ?_ | refine as_q rfl rfl (q_pick_f rfl rfl) ?_ | refine as_q rfl rfl (q_pick rfl rfl rfl) ?_
          refine as_nil (hK47 _ _ ?_)
          clear hK47 K47
          refine cw_false rfl ?_
          refine cw_skip ?_
          refine hK44 _ _ ?_
          clear hK44 K44
          refine cw_region fun K48 hK48 => ?_
          -- region 31
          refine as_q rfl rfl (q_move rfl) ?_
          refine as_q rfl rfl (q_addx rfl rfl (by omega) (by omega)) ?_
          refine as_q rfl rfl (q_assign rfl) ?_
          refine as_nil (hK48 _ _ ?_)
          clear hK48 K48
          exact ⟨_, _, by omega, (.cons rfl (.cons rfl (.cons rfl (.cons rfl (.cons rfl (.cons rfl (.nil _))))))), i + 1, rfl, by omega, rfl, hT, ht, ho, hb⟩
        · skip
          refine cw_skip ?_
          refine hK42 _ _ ?_
          clear hK42 K42
          refine cw_seq fun K49 hK49 => ?_
          refine cw_block ?_
          refine cw_rs fun K50 hK50 => ?_
          -- region 32
          refine as_q rfl rfl (q_move rfl) ?_
          refine as_q rfl rfl (q_move rfl) ?_
          refine as_q rfl rfl (q_move rfl) ?_
          refine as_q rfl rfl (q_indexAddr (e := 2) (size := 1) (by kernel_rfl) (by kernel_rfl) rfl rfl (by omega) (by omega)) ?_
          refine as_q rfl rfl (q_load1 (by kernel_rfl) rfl (ha.cell hT.sat (u := .int .i64 p) (by simp [hp]))) ?_
          refine as_h rfl (h_call (by kernel_rfl) rfl ?_)
          refine (at_int (u := .int .i64 (xs[p.toNat]'(by omega))) hT.sat ht (by omega) (by omega) (get_take_map' (by omega) (by omega) (by omega))).mono ?_
          rintro _ w36 ⟨rfl, hs36⟩
          replace ht := ht.then hs36
          replace ho := ho.then hs36
          replace hb := hb.then hs36
          replace hT := hT.then hs36
          have hz36 := hs36.size
          refine as_q rfl rfl (q_move rfl) ?_
          refine as_q rfl rfl (q_extract rfl rfl) ?_
          refine as_q rfl rfl (q_extract rfl rfl) ?_
          refine as_q rfl rfl (q_assign rfl) ?_
          refine as_q rfl rfl (q_assign rfl) ?_
          refine as_nil (hK50 _ _ ?_)
          clear hK50 K50
          refine cw_rd (by kernel_rfl) (by kernel_rfl) (by kernel_rfl) rfl rfl fun K51 hK51 => ?_
          -- region 33
          have hs37 := Step.drew hs36.sat
          have hz37 := hs37.size
          replace ht := ht.then hs37
          replace ho := ho.then hs37
          replace hb := hb.then hs37
          replace hT := hT.then hs37
          refine at_q (i := 0) (li := #[true, false, false, false, false, false, false, false, false, false, false, false, false, false, false, false]) rfl (by kernel_rfl) rfl (fun _ => (q_move rfl)) (by kernel_rfl) ?_
          refine at_q (i := 1) (li := #[true, true, false, false, false, false, false, false, false, false, false, false, false, false, false, false]) rfl (by kernel_rfl) rfl (fun _ => (q_move rfl)) (by kernel_rfl) ?_
          refine at_q (i := 2) (li := #[true, true, true, false, false, false, false, false, false, false, false, false, false, false, false, false]) rfl (by kernel_rfl) rfl (fun _ => (q_indexAddr (e := 2) (size := 1) (by kernel_rfl) (by kernel_rfl) rfl rfl (by omega) (by omega))) (by kernel_rfl) ?_
          refine at_l (i := 3) (li := #[true, true, true, true, false, false, false, false, false, false, false, false, false, false, false, false]) (cellIs _ _ _) rfl (by kernel_rfl) rfl (fun _ h => q_load1 (by kernel_rfl) rfl h) (ha.cell hT.sat (u := .int .i64 p) (by simp [hp])) (by kernel_rfl) ?_
          first | refine at_q (i := 4) (li := #[true, true, true, true, true, false, false, false, false, false, false, false, false, false, false, false]) rfl (by kernel_rfl) rfl (fun _ => (q_geT rfl rfl (by omega))) (by kernel_rfl) ?_ | refine at_q (i := 4) (li := #[true, true, true, true, true, false, false, false, false, false, false, false, false, false, false, false]) rfl (by kernel_rfl) rfl (fun _ => (q_geF rfl rfl (by omega))) (by kernel_rfl) ?_ | refine at_q (i := 4) (li := #[true, true, true, true, true, false, false, false, false, false, false, false, false, false, false, false]) rfl (by kernel_rfl) rfl (fun _ => (q_ge rfl rfl)) (by kernel_rfl) ?_
          refine at_q (i := 5) (li := #[true, true, true, true, true, true, false, false, false, false, false, false, false, false, false, false]) rfl (by kernel_rfl) rfl (fun _ => (q_move rfl)) (by kernel_rfl) ?_
          first | refine at_gskip (i := 6) (li := #[true, true, true, true, true, true, true, false, false, false, false, false, false, false, false, false]) rfl (by kernel_rfl) rfl rfl rfl rfl rfl (by kernel_rfl) ?_ | refine at_gskipU (i := 6) (li := #[true, true, true, true, true, true, true, false, false, false, false, false, false, false, false, false]) rfl (by kernel_rfl) rfl rfl rfl rfl (by kernel_rfl) ?_ | refine at_gp (i := 6) (li := #[true, true, true, true, true, true, true, false, false, false, false, false, false, false, false, false]) rfl (by kernel_rfl) rfl rfl rfl rfl (fun _ => (q_move rfl)) (by kernel_rfl) ?_
          first | refine at_gskip (i := 7) (li := #[true, true, true, true, true, true, true, true, false, false, false, false, false, false, false, false]) rfl (by kernel_rfl) rfl rfl rfl rfl rfl (by kernel_rfl) ?_ | refine at_gskipU (i := 7) (li := #[true, true, true, true, true, true, true, true, false, false, false, false, false, false, false, false]) rfl (by kernel_rfl) rfl rfl rfl rfl (by kernel_rfl) ?_ | refine at_gp (i := 7) (li := #[true, true, true, true, true, true, true, true, false, false, false, false, false, false, false, false]) rfl (by kernel_rfl) rfl rfl rfl rfl (fun _ => (q_move rfl)) (by kernel_rfl) ?_
          first | refine at_gskip (i := 8) (li := #[true, true, true, true, true, true, true, true, true, false, false, false, false, false, false, false]) rfl (by kernel_rfl) rfl rfl rfl rfl rfl (by kernel_rfl) ?_ | refine at_gskipU (i := 8) (li := #[true, true, true, true, true, true, true, true, true, false, false, false, false, false, false, false]) rfl (by kernel_rfl) rfl rfl rfl rfl (by kernel_rfl) ?_ | refine at_gp (i := 8) (li := #[true, true, true, true, true, true, true, true, true, false, false, false, false, false, false, false]) rfl (by kernel_rfl) rfl rfl rfl rfl (fun _ => (q_indexAddr (e := 2) (size := 1) (by kernel_rfl) (by kernel_rfl) rfl rfl (by omega) (by omega))) (by kernel_rfl) ?_
          first | refine at_gskip (i := 9) (li := #[true, true, true, true, true, true, true, true, true, true, false, false, false, false, false, false]) rfl (by kernel_rfl) rfl rfl rfl rfl rfl (by kernel_rfl) ?_ | refine at_gskipU (i := 9) (li := #[true, true, true, true, true, true, true, true, true, true, false, false, false, false, false, false]) rfl (by kernel_rfl) rfl rfl rfl rfl (by kernel_rfl) ?_ | refine at_gq (i := 9) (li := #[true, true, true, true, true, true, true, true, true, true, false, false, false, false, false, false]) (cellIs _ _ _) rfl (by kernel_rfl) rfl rfl rfl rfl (fun _ h => q_load1 (by kernel_rfl) rfl h) (ha.cell hT.sat (u := .int .i64 p) (by simp [hp])) (by kernel_rfl) ?_
          first | refine at_gskip (i := 10) (li := #[true, true, true, true, true, true, true, true, true, true, true, false, false, false, false, false]) rfl (by kernel_rfl) rfl rfl rfl rfl rfl (by kernel_rfl) ?_ | refine at_gskipU (i := 10) (li := #[true, true, true, true, true, true, true, true, true, true, true, false, false, false, false, false]) rfl (by kernel_rfl) rfl rfl rfl rfl (by kernel_rfl) ?_ | refine at_gp (i := 10) (li := #[true, true, true, true, true, true, true, true, true, true, true, false, false, false, false, false]) rfl (by kernel_rfl) rfl rfl rfl rfl (fun _ => (q_fieldAddr (off := 0) (by kernel_rfl) rfl)) (by kernel_rfl) ?_
          first | refine at_gskip (i := 11) (li := #[true, true, true, true, true, true, true, true, true, true, true, true, false, false, false, false]) rfl (by kernel_rfl) rfl rfl rfl rfl rfl (by kernel_rfl) ?_ | refine at_gskipU (i := 11) (li := #[true, true, true, true, true, true, true, true, true, true, true, true, false, false, false, false]) rfl (by kernel_rfl) rfl rfl rfl rfl (by kernel_rfl) ?_ | refine at_gq (i := 11) (li := #[true, true, true, true, true, true, true, true, true, true, true, true, false, false, false, false]) (cellIs _ _ _) rfl (by kernel_rfl) rfl rfl rfl rfl (fun _ h => q_load1 (by kernel_rfl) rfl h) (by first | exact Blk.cell ht.own.1 rfl | exact Blk.cell ho.1 rfl | assumption) (by kernel_rfl) ?_
          first | refine at_gskip (i := 12) (li := #[true, true, true, true, true, true, true, true, true, true, true, true, true, false, false, false]) rfl (by kernel_rfl) rfl rfl rfl rfl rfl (by kernel_rfl) ?_ | refine at_gskipU (i := 12) (li := #[true, true, true, true, true, true, true, true, true, true, true, true, true, false, false, false]) rfl (by kernel_rfl) rfl rfl rfl rfl (by kernel_rfl) ?_ | refine at_gp (i := 12) (li := #[true, true, true, true, true, true, true, true, true, true, true, true, true, false, false, false]) rfl (by kernel_rfl) rfl rfl rfl rfl (fun _ => (q_len (by kernel_rfl) rfl _)) (by kernel_rfl) ?_
          first | refine at_gskip (i := 13) (li := #[true, true, true, true, true, true, true, true, true, true, true, true, true, true, false, false]) rfl (by kernel_rfl) rfl rfl rfl rfl rfl (by kernel_rfl) ?_ | refine at_gskipU (i := 13) (li := #[true, true, true, true, true, true, true, true, true, true, true, true, true, true, false, false]) rfl (by kernel_rfl) rfl rfl rfl rfl (by kernel_rfl) ?_ | refine at_gp (i := 13) (li := #[true, true, true, true, true, true, true, true, true, true, true, true, true, true, false, false]) rfl (by kernel_rfl) rfl rfl rfl rfl (fun _ => (q_ltT rfl rfl (by omega))) (by kernel_rfl) ?_ | refine at_gp (i := 13) (li := #[true, true, true, true, true, true, true, true, true, true, true, true, true, true, false, false]) rfl (by kernel_rfl) rfl rfl rfl rfl (fun _ => (q_ltF rfl rfl (by omega))) (by kernel_rfl) ?_ | refine at_gp (i := 13) (li := #[true, true, true, true, true, true, true, true, true, true, true, true, true, true, false, false]) rfl (by kernel_rfl) rfl rfl rfl rfl (fun _ => (q_lt rfl rfl)) (by kernel_rfl) ?_
          first | refine at_q (i := 14) (li := #[true, true, true, true, true, true, true, true, true, true, true, true, true, true, true, false]) rfl (by kernel_rfl) rfl (fun _ => (q_pick_t rfl rfl)) (by kernel_rfl) ?_ | refine at_q (i := 14) (li := #[true, true, true, true, true, true, true, true, true, true, true, true, true, true, true, false]) rfl (by kernel_rfl) rfl (fun _ => (q_pick_f rfl rfl)) (by kernel_rfl) ?_ | refine at_q (i := 14) (li := #[true, true, true, true, true, true, true, true, true, true, true, true, true, true, true, false]) rfl (by kernel_rfl) rfl (fun _ => (q_pick rfl rfl rfl)) (by kernel_rfl) ?_
          refine at_q (i := 15) (li := #[true, true, true, true, true, true, true, true, true, true, true, true, true, true, true, true]) rfl (by kernel_rfl) rfl (fun _ => (q_assign rfl)) (by kernel_rfl) ?_
          refine at_done (by kernel_rfl) (hK51 _ _ ?_)
          clear hK51 K51
          refine cw_rs fun K52 hK52 => ?_
          -- region 34
          refine as_q rfl rfl (q_move rfl) ?_
          refine as_q rfl rfl (q_move rfl) ?_
          first | refine as_q rfl rfl (q_eqT rfl rfl (by omega)) ?_ | refine as_q rfl rfl (q_eqF rfl rfl (by omega)) ?_ | refine as_q rfl rfl (q_eq rfl rfl) ?_
          refine as_q rfl rfl (q_neb (by kernel_rfl) rfl rfl) ?_
          refine as_q rfl rfl (q_move rfl) ?_
          first | refine as_gskip rfl rfl rfl rfl rfl ?_ | refine as_gskipU rfl rfl rfl rfl ?_ | refine as_gh rfl rfl rfl rfl (h_q rfl (q_move rfl) ?_)
          first | refine as_gskip rfl rfl rfl rfl rfl ?_ | refine as_gskipU rfl rfl rfl rfl ?_ | refine as_gh rfl rfl rfl rfl (h_q rfl (q_not rfl) ?_)
          first | refine as_gskip rfl rfl rfl rfl rfl ?_ | refine as_gskipU rfl rfl rfl rfl ?_ | refine as_gh rfl rfl rfl rfl (h_q rfl (q_move rfl) ?_)
          first | refine as_gskip rfl rfl rfl rfl rfl ?_ | refine as_gskipU rfl rfl rfl rfl ?_ | refine as_gh rfl rfl rfl rfl (h_q rfl (q_move rfl) ?_)
          first | refine as_gskip rfl rfl rfl rfl rfl ?_ | refine as_gskipU rfl rfl rfl rfl ?_ | refine as_gh rfl rfl rfl rfl (h_q rfl (q_neT rfl rfl (by omega)) ?_) | refine as_gh rfl rfl rfl rfl (h_q rfl (q_neF rfl rfl (by omega)) ?_) | refine as_gh rfl rfl rfl rfl (h_q rfl (q_ne rfl rfl) ?_)
          first | refine as_gskip rfl rfl rfl rfl rfl ?_ | refine as_gskipU rfl rfl rfl rfl ?_ | refine as_gh rfl rfl rfl rfl (h_q rfl (q_move rfl) ?_)
          first | refine as_gskip rfl rfl rfl rfl rfl ?_ | refine as_gskipU rfl rfl rfl rfl ?_ | refine as_gh rfl rfl rfl rfl (h_q rfl (q_move rfl) ?_)
          first | refine as_gskip rfl rfl rfl rfl rfl ?_ | refine as_gskipU rfl rfl rfl rfl ?_ | refine as_gh rfl rfl rfl rfl (h_q rfl (q_neT rfl rfl (by omega)) ?_) | refine as_gh rfl rfl rfl rfl (h_q rfl (q_neF rfl rfl (by omega)) ?_) | refine as_gh rfl rfl rfl rfl (h_q rfl (q_ne rfl rfl) ?_)
          first | refine as_gskip rfl rfl rfl rfl rfl ?_ | refine as_gskipU rfl rfl rfl rfl ?_ | refine as_gh rfl rfl rfl rfl (h_q rfl (q_pick_t rfl rfl) ?_) | refine as_gh rfl rfl rfl rfl (h_q rfl (q_pick_f rfl rfl) ?_) | refine as_gh rfl rfl rfl rfl (h_q rfl (q_pick rfl rfl rfl) ?_)
          first | refine as_gskip rfl rfl rfl rfl rfl ?_ | refine as_gskipU rfl rfl rfl rfl ?_ | refine as_gh rfl rfl rfl rfl (h_q rfl (q_pick_t rfl rfl) ?_) | refine as_gh rfl rfl rfl rfl (h_q rfl (q_pick_f rfl rfl) ?_) | refine as_gh rfl rfl rfl rfl (h_q rfl (q_pick rfl rfl rfl) ?_)
          first | refine as_q rfl rfl (q_pick_t rfl rfl) ?_ | refine as_q rfl rfl (q_pick_f rfl rfl) ?_ | refine as_q rfl rfl (q_pick rfl rfl rfl) ?_
          refine as_nil (hK52 _ _ ?_)
          clear hK52 K52
          refine cw_false rfl ?_
          refine cw_skip ?_
          refine hK49 _ _ ?_
          clear hK49 K49
          refine cw_region fun K53 hK53 => ?_
          -- region 31
          refine as_q rfl rfl (q_move rfl) ?_
          refine as_q rfl rfl (q_addx rfl rfl (by omega) (by omega)) ?_
          refine as_q rfl rfl (q_assign rfl) ?_
          refine as_nil (hK53 _ _ ?_)
          clear hK53 K53
          exact ⟨_, _, by omega, (.cons rfl (.cons rfl (.cons rfl (.cons rfl (.cons rfl (.cons rfl (.nil _))))))), i + 1, rfl, by omega, rfl, hT, ht, ho, hb⟩
        · skip
          refine cw_skip ?_
          refine hK42 _ _ ?_
          clear hK42 K42
          refine cw_seq fun K54 hK54 => ?_
          refine cw_block ?_
          refine cw_rs fun K55 hK55 => ?_
          -- region 32
          refine as_q rfl rfl (q_move rfl) ?_
          refine as_q rfl rfl (q_move rfl) ?_
          refine as_q rfl rfl (q_move rfl) ?_
          refine as_q rfl rfl (q_indexAddr (e := 2) (size := 1) (by kernel_rfl) (by kernel_rfl) rfl rfl (by omega) (by omega)) ?_
          refine as_q rfl rfl (q_load1 (by kernel_rfl) rfl (ha.cell hT.sat (u := .int .i64 p) (by simp [hp]))) ?_
          refine as_h rfl (h_call (by kernel_rfl) rfl ?_)
          refine (at_int_ge hT.sat ht (by omega) (by omega)).mono ?_
          rintro _ w38 ⟨rfl, hs38⟩
          replace ht := ht.then hs38
          replace ho := ho.then hs38
          replace hb := hb.then hs38
          replace hT := hT.then hs38
          have hz38 := hs38.size
          refine as_q rfl rfl (q_move rfl) ?_
          refine as_q rfl rfl (q_extract rfl rfl) ?_
          refine as_q rfl rfl (q_extract rfl rfl) ?_
          refine as_q rfl rfl (q_assign rfl) ?_
          refine as_q rfl rfl (q_assign rfl) ?_
          refine as_nil (hK55 _ _ ?_)
          clear hK55 K55
          refine cw_rd (by kernel_rfl) (by kernel_rfl) (by kernel_rfl) rfl rfl fun K56 hK56 => ?_
          -- region 33
          have hs39 := Step.drew hs38.sat
          have hz39 := hs39.size
          replace ht := ht.then hs39
          replace ho := ho.then hs39
          replace hb := hb.then hs39
          replace hT := hT.then hs39
          refine at_q (i := 0) (li := #[true, false, false, false, false, false, false, false, false, false, false, false, false, false, false, false]) rfl (by kernel_rfl) rfl (fun _ => (q_move rfl)) (by kernel_rfl) ?_
          refine at_q (i := 1) (li := #[true, true, false, false, false, false, false, false, false, false, false, false, false, false, false, false]) rfl (by kernel_rfl) rfl (fun _ => (q_move rfl)) (by kernel_rfl) ?_
          refine at_q (i := 2) (li := #[true, true, true, false, false, false, false, false, false, false, false, false, false, false, false, false]) rfl (by kernel_rfl) rfl (fun _ => (q_indexAddr (e := 2) (size := 1) (by kernel_rfl) (by kernel_rfl) rfl rfl (by omega) (by omega))) (by kernel_rfl) ?_
          refine at_l (i := 3) (li := #[true, true, true, true, false, false, false, false, false, false, false, false, false, false, false, false]) (cellIs _ _ _) rfl (by kernel_rfl) rfl (fun _ h => q_load1 (by kernel_rfl) rfl h) (ha.cell hT.sat (u := .int .i64 p) (by simp [hp])) (by kernel_rfl) ?_
          first | refine at_q (i := 4) (li := #[true, true, true, true, true, false, false, false, false, false, false, false, false, false, false, false]) rfl (by kernel_rfl) rfl (fun _ => (q_geT rfl rfl (by omega))) (by kernel_rfl) ?_ | refine at_q (i := 4) (li := #[true, true, true, true, true, false, false, false, false, false, false, false, false, false, false, false]) rfl (by kernel_rfl) rfl (fun _ => (q_geF rfl rfl (by omega))) (by kernel_rfl) ?_ | refine at_q (i := 4) (li := #[true, true, true, true, true, false, false, false, false, false, false, false, false, false, false, false]) rfl (by kernel_rfl) rfl (fun _ => (q_ge rfl rfl)) (by kernel_rfl) ?_
          refine at_q (i := 5) (li := #[true, true, true, true, true, true, false, false, false, false, false, false, false, false, false, false]) rfl (by kernel_rfl) rfl (fun _ => (q_move rfl)) (by kernel_rfl) ?_
          first | refine at_gskip (i := 6) (li := #[true, true, true, true, true, true, true, false, false, false, false, false, false, false, false, false]) rfl (by kernel_rfl) rfl rfl rfl rfl rfl (by kernel_rfl) ?_ | refine at_gskipU (i := 6) (li := #[true, true, true, true, true, true, true, false, false, false, false, false, false, false, false, false]) rfl (by kernel_rfl) rfl rfl rfl rfl (by kernel_rfl) ?_ | refine at_gp (i := 6) (li := #[true, true, true, true, true, true, true, false, false, false, false, false, false, false, false, false]) rfl (by kernel_rfl) rfl rfl rfl rfl (fun _ => (q_move rfl)) (by kernel_rfl) ?_
          first | refine at_gskip (i := 7) (li := #[true, true, true, true, true, true, true, true, false, false, false, false, false, false, false, false]) rfl (by kernel_rfl) rfl rfl rfl rfl rfl (by kernel_rfl) ?_ | refine at_gskipU (i := 7) (li := #[true, true, true, true, true, true, true, true, false, false, false, false, false, false, false, false]) rfl (by kernel_rfl) rfl rfl rfl rfl (by kernel_rfl) ?_ | refine at_gp (i := 7) (li := #[true, true, true, true, true, true, true, true, false, false, false, false, false, false, false, false]) rfl (by kernel_rfl) rfl rfl rfl rfl (fun _ => (q_move rfl)) (by kernel_rfl) ?_
          first | refine at_gskip (i := 8) (li := #[true, true, true, true, true, true, true, true, true, false, false, false, false, false, false, false]) rfl (by kernel_rfl) rfl rfl rfl rfl rfl (by kernel_rfl) ?_ | refine at_gskipU (i := 8) (li := #[true, true, true, true, true, true, true, true, true, false, false, false, false, false, false, false]) rfl (by kernel_rfl) rfl rfl rfl rfl (by kernel_rfl) ?_ | refine at_gp (i := 8) (li := #[true, true, true, true, true, true, true, true, true, false, false, false, false, false, false, false]) rfl (by kernel_rfl) rfl rfl rfl rfl (fun _ => (q_indexAddr (e := 2) (size := 1) (by kernel_rfl) (by kernel_rfl) rfl rfl (by omega) (by omega))) (by kernel_rfl) ?_
          first | refine at_gskip (i := 9) (li := #[true, true, true, true, true, true, true, true, true, true, false, false, false, false, false, false]) rfl (by kernel_rfl) rfl rfl rfl rfl rfl (by kernel_rfl) ?_ | refine at_gskipU (i := 9) (li := #[true, true, true, true, true, true, true, true, true, true, false, false, false, false, false, false]) rfl (by kernel_rfl) rfl rfl rfl rfl (by kernel_rfl) ?_ | refine at_gq (i := 9) (li := #[true, true, true, true, true, true, true, true, true, true, false, false, false, false, false, false]) (cellIs _ _ _) rfl (by kernel_rfl) rfl rfl rfl rfl (fun _ h => q_load1 (by kernel_rfl) rfl h) (ha.cell hT.sat (u := .int .i64 p) (by simp [hp])) (by kernel_rfl) ?_
          first | refine at_gskip (i := 10) (li := #[true, true, true, true, true, true, true, true, true, true, true, false, false, false, false, false]) rfl (by kernel_rfl) rfl rfl rfl rfl rfl (by kernel_rfl) ?_ | refine at_gskipU (i := 10) (li := #[true, true, true, true, true, true, true, true, true, true, true, false, false, false, false, false]) rfl (by kernel_rfl) rfl rfl rfl rfl (by kernel_rfl) ?_ | refine at_gp (i := 10) (li := #[true, true, true, true, true, true, true, true, true, true, true, false, false, false, false, false]) rfl (by kernel_rfl) rfl rfl rfl rfl (fun _ => (q_fieldAddr (off := 0) (by kernel_rfl) rfl)) (by kernel_rfl) ?_
          first | refine at_gskip (i := 11) (li := #[true, true, true, true, true, true, true, true, true, true, true, true, false, false, false, false]) rfl (by kernel_rfl) rfl rfl rfl rfl rfl (by kernel_rfl) ?_ | refine at_gskipU (i := 11) (li := #[true, true, true, true, true, true, true, true, true, true, true, true, false, false, false, false]) rfl (by kernel_rfl) rfl rfl rfl rfl (by kernel_rfl) ?_ | refine at_gq (i := 11) (li := #[true, true, true, true, true, true, true, true, true, true, true, true, false, false, false, false]) (cellIs _ _ _) rfl (by kernel_rfl) rfl rfl rfl rfl (fun _ h => q_load1 (by kernel_rfl) rfl h) (by first | exact Blk.cell ht.own.1 rfl | exact Blk.cell ho.1 rfl | assumption) (by kernel_rfl) ?_
          first | refine at_gskip (i := 12) (li := #[true, true, true, true, true, true, true, true, true, true, true, true, true, false, false, false]) rfl (by kernel_rfl) rfl rfl rfl rfl rfl (by kernel_rfl) ?_ | refine at_gskipU (i := 12) (li := #[true, true, true, true, true, true, true, true, true, true, true, true, true, false, false, false]) rfl (by kernel_rfl) rfl rfl rfl rfl (by kernel_rfl) ?_ | refine at_gp (i := 12) (li := #[true, true, true, true, true, true, true, true, true, true, true, true, true, false, false, false]) rfl (by kernel_rfl) rfl rfl rfl rfl (fun _ => (q_len (by kernel_rfl) rfl _)) (by kernel_rfl) ?_
          first | refine at_gskip (i := 13) (li := #[true, true, true, true, true, true, true, true, true, true, true, true, true, true, false, false]) rfl (by kernel_rfl) rfl rfl rfl rfl rfl (by kernel_rfl) ?_ | refine at_gskipU (i := 13) (li := #[true, true, true, true, true, true, true, true, true, true, true, true, true, true, false, false]) rfl (by kernel_rfl) rfl rfl rfl rfl (by kernel_rfl) ?_ | refine at_gp (i := 13) (li := #[true, true, true, true, true, true, true, true, true, true, true, true, true, true, false, false]) rfl (by kernel_rfl) rfl rfl rfl rfl (fun _ => (q_ltT rfl rfl (by omega))) (by kernel_rfl) ?_ | refine at_gp (i := 13) (li := #[true, true, true, true, true, true, true, true, true, true, true, true, true, true, false, false]) rfl (by kernel_rfl) rfl rfl rfl rfl (fun _ => (q_ltF rfl rfl (by omega))) (by kernel_rfl) ?_ | refine at_gp (i := 13) (li := #[true, true, true, true, true, true, true, true, true, true, true, true, true, true, false, false]) rfl (by kernel_rfl) rfl rfl rfl rfl (fun _ => (q_lt rfl rfl)) (by kernel_rfl) ?_
          first | refine at_q (i := 14) (li := #[true, true, true, true, true, true, true, true, true, true, true, true, true, true, true, false]) rfl (by kernel_rfl) rfl (fun _ => (q_pick_t rfl rfl)) (by kernel_rfl) ?_ | refine at_q (i := 14) (li := #[true, true, true, true, true, true, true, true, true, true, true, true, true, true, true, false]) rfl (by kernel_rfl) rfl (fun _ => (q_pick_f rfl rfl)) (by kernel_rfl) ?_ | refine at_q (i := 14) (li := #[true, true, true, true, true, true, true, true, true, true, true, true, true, true, true, false]) rfl (by kernel_rfl) rfl (fun _ => (q_pick rfl rfl rfl)) (by kernel_rfl) ?_
          refine at_q (i := 15) (li := #[true, true, true, true, true, true, true, true, true, true, true, true, true, true, true, true]) rfl (by kernel_rfl) rfl (fun _ => (q_assign rfl)) (by kernel_rfl) ?_
          refine at_done (by kernel_rfl) (hK56 _ _ ?_)
          clear hK56 K56
          refine cw_rs fun K57 hK57 => ?_
          -- region 34
          refine as_q rfl rfl (q_move rfl) ?_
          refine as_q rfl rfl (q_move rfl) ?_
          first | refine as_q rfl rfl (q_eqT rfl rfl (by omega)) ?_ | refine as_q rfl rfl (q_eqF rfl rfl (by omega)) ?_ | refine as_q rfl rfl (q_eq rfl rfl) ?_
          refine as_q rfl rfl (q_neb (by kernel_rfl) rfl rfl) ?_
          refine as_q rfl rfl (q_move rfl) ?_
          first | refine as_gskip rfl rfl rfl rfl rfl ?_ | refine as_gskipU rfl rfl rfl rfl ?_ | refine as_gh rfl rfl rfl rfl (h_q rfl (q_move rfl) ?_)
          first | refine as_gskip rfl rfl rfl rfl rfl ?_ | refine as_gskipU rfl rfl rfl rfl ?_ | refine as_gh rfl rfl rfl rfl (h_q rfl (q_not rfl) ?_)
          first | refine as_gskip rfl rfl rfl rfl rfl ?_ | refine as_gskipU rfl rfl rfl rfl ?_ | refine as_gh rfl rfl rfl rfl (h_q rfl (q_move rfl) ?_)
          first | refine as_gskip rfl rfl rfl rfl rfl ?_ | refine as_gskipU rfl rfl rfl rfl ?_ | refine as_gh rfl rfl rfl rfl (h_q rfl (q_move rfl) ?_)
          first | refine as_gskip rfl rfl rfl rfl rfl ?_ | refine as_gskipU rfl rfl rfl rfl ?_ | refine as_gh rfl rfl rfl rfl (h_q rfl (q_neT rfl rfl (by omega)) ?_) | refine as_gh rfl rfl rfl rfl (h_q rfl (q_neF rfl rfl (by omega)) ?_) | refine as_gh rfl rfl rfl rfl (h_q rfl (q_ne rfl rfl) ?_)
          first | refine as_gskip rfl rfl rfl rfl rfl ?_ | refine as_gskipU rfl rfl rfl rfl ?_ | refine as_gh rfl rfl rfl rfl (h_q rfl (q_move rfl) ?_)
          first | refine as_gskip rfl rfl rfl rfl rfl ?_ | refine as_gskipU rfl rfl rfl rfl ?_ | refine as_gh rfl rfl rfl rfl (h_q rfl (q_move rfl) ?_)
          first | refine as_gskip rfl rfl rfl rfl rfl ?_ | refine as_gskipU rfl rfl rfl rfl ?_ | refine as_gh rfl rfl rfl rfl (h_q rfl (q_neT rfl rfl (by omega)) ?_) | refine as_gh rfl rfl rfl rfl (h_q rfl (q_neF rfl rfl (by omega)) ?_) | refine as_gh rfl rfl rfl rfl (h_q rfl (q_ne rfl rfl) ?_)
          first | refine as_gskip rfl rfl rfl rfl rfl ?_ | refine as_gskipU rfl rfl rfl rfl ?_ | refine as_gh rfl rfl rfl rfl (h_q rfl (q_pick_t rfl rfl) ?_) | refine as_gh rfl rfl rfl rfl (h_q rfl (q_pick_f rfl rfl) ?_) | refine as_gh rfl rfl rfl rfl (h_q rfl (q_pick rfl rfl rfl) ?_)
          first | refine as_gskip rfl rfl rfl rfl rfl ?_ | refine as_gskipU rfl rfl rfl rfl ?_ | refine as_gh rfl rfl rfl rfl (h_q rfl (q_pick_t rfl rfl) ?_) | refine as_gh rfl rfl rfl rfl (h_q rfl (q_pick_f rfl rfl) ?_) | refine as_gh rfl rfl rfl rfl (h_q rfl (q_pick rfl rfl rfl) ?_)
          first | refine as_q rfl rfl (q_pick_t rfl rfl) ?_ | refine as_q rfl rfl (q_pick_f rfl rfl) ?_ | refine as_q rfl rfl (q_pick rfl rfl rfl) ?_
          refine as_nil (hK57 _ _ ?_)
          clear hK57 K57
          refine cw_false rfl ?_
          refine cw_skip ?_
          refine hK54 _ _ ?_
          clear hK54 K54
          refine cw_region fun K58 hK58 => ?_
          -- region 31
          refine as_q rfl rfl (q_move rfl) ?_
          refine as_q rfl rfl (q_addx rfl rfl (by omega) (by omega)) ?_
          refine as_q rfl rfl (q_assign rfl) ?_
          refine as_nil (hK58 _ _ ?_)
          clear hK58 K58
          exact ⟨_, _, by omega, (.cons rfl (.cons rfl (.cons rfl (.cons rfl (.cons rfl (.cons rfl (.nil _))))))), i + 1, rfl, by omega, rfl, hT, ht, ho, hb⟩
      · skip
        have hge : i = m := by have := of_decide_eq_false hc8; omega
        refine cw_exit ?_
        refine hK40 _ _ ?_
        clear hK42 K42
        clear hK40 K40
        refine cw_rs fun K59 hK59 => ?_
        -- region 36
        refine as_q rfl rfl (q_assign rfl) ?_
        refine as_nil (hK59 _ _ ?_)
        clear hK59 K59
        refine cw_rs fun K60 hK60 => ?_
        -- region 37
        refine as_q rfl rfl (q_move rfl) ?_
        refine as_h rfl (h_call (by kernel_rfl) rfl ?_)
        refine (add_int_nil hT.sat).mono ?_
        rintro _ w40 ⟨rfl, hs40⟩
        replace ht := ht.then hs40
        replace ho := ho.then hs40
        replace hb := hb.then hs40
        replace hT := hT.then hs40
        have hz40 := hs40.size
        refine as_q rfl rfl (q_move rfl) ?_
        refine as_q rfl rfl (q_extract rfl rfl) ?_
        refine as_q rfl rfl (q_extract rfl rfl) ?_
        refine as_q rfl rfl (q_assign rfl) ?_
        refine as_q rfl rfl (q_assign rfl) ?_
        refine as_nil (hK60 _ _ ?_)
        clear hK60 K60
        refine cw_rs fun K61 hK61 => ?_
        -- region 38
        refine as_q rfl rfl (q_move rfl) ?_
        refine as_h rfl (h_call (by kernel_rfl) rfl ?_)
        refine (at_int_nil hs40.sat (by decide)).mono ?_
        rintro _ w41 ⟨rfl, hs41⟩
        replace ht := ht.then hs41
        replace ho := ho.then hs41
        replace hb := hb.then hs41
        replace hT := hT.then hs41
        have hz41 := hs41.size
        refine as_q rfl rfl (q_move rfl) ?_
        refine as_q rfl rfl (q_extract rfl rfl) ?_
        refine as_q rfl rfl (q_extract rfl rfl) ?_
        refine as_q rfl rfl (q_assign rfl) ?_
        refine as_q rfl rfl (q_assign rfl) ?_
        refine as_nil (hK61 _ _ ?_)
        clear hK61 K61
        refine cw_rs fun K62 hK62 => ?_
        -- region 39
        refine as_q rfl rfl (q_move rfl) ?_
        first | refine as_q rfl rfl (q_eqT rfl rfl (by omega)) ?_ | refine as_q rfl rfl (q_eqF rfl rfl (by omega)) ?_ | refine as_q rfl rfl (q_eq rfl rfl) ?_
        refine as_q rfl rfl (q_move rfl) ?_
        first | refine as_gskip rfl rfl rfl rfl rfl ?_ | refine as_gskipU rfl rfl rfl rfl ?_ | refine as_gh rfl rfl rfl rfl (h_q rfl (q_move rfl) ?_)
        first | refine as_gskip rfl rfl rfl rfl rfl ?_ | refine as_gskipU rfl rfl rfl rfl ?_ | refine as_gh rfl rfl rfl rfl (h_q rfl (q_eqT rfl rfl (by omega)) ?_) | refine as_gh rfl rfl rfl rfl (h_q rfl (q_eqF rfl rfl (by omega)) ?_) | refine as_gh rfl rfl rfl rfl (h_q rfl (q_eq rfl rfl) ?_)
        first | refine as_q rfl rfl (q_pick_t rfl rfl) ?_ | refine as_q rfl rfl (q_pick_f rfl rfl) ?_ | refine as_q rfl rfl (q_pick rfl rfl rfl) ?_
        refine as_q rfl rfl (q_move rfl) ?_
        first | refine as_gskip rfl rfl rfl rfl rfl ?_ | refine as_gskipU rfl rfl rfl rfl ?_ | refine as_gh rfl rfl rfl rfl (h_q rfl (q_move rfl) ?_)
        refine as_gh rfl rfl rfl rfl (h_call (by kernel_rfl) rfl ?_)
        refine (len_int_nil hs41.sat).mono ?_
        rintro _ w42 ⟨rfl, hs42⟩
        replace ht := ht.then hs42
        replace ho := ho.then hs42
        replace hb := hb.then hs42
        replace hT := hT.then hs42
        have hz42 := hs42.size
        first | refine as_gskip rfl rfl rfl rfl rfl ?_ | refine as_gskipU rfl rfl rfl rfl ?_ | refine as_gh rfl rfl rfl rfl (h_q rfl (q_move rfl) ?_)
        refine as_gh rfl rfl rfl rfl (h_call (by kernel_rfl) rfl ?_)
        refine (room_int_nil hs42.sat).mono ?_
        rintro _ w43 ⟨rfl, hs43⟩
        replace ht := ht.then hs43
        replace ho := ho.then hs43
        replace hb := hb.then hs43
        replace hT := hT.then hs43
        have hz43 := hs43.size
        first | refine as_gskip rfl rfl rfl rfl rfl ?_ | refine as_gskipU rfl rfl rfl rfl ?_ | refine as_gh rfl rfl rfl rfl (h_q rfl (q_addx rfl rfl (by omega) (by omega)) ?_)
        first | refine as_gskip rfl rfl rfl rfl rfl ?_ | refine as_gskipU rfl rfl rfl rfl ?_ | refine as_gh rfl rfl rfl rfl (h_q rfl (q_move rfl) ?_)
        refine as_gh rfl rfl rfl rfl (h_call (by kernel_rfl) rfl ?_)
        refine (all_int_none hs43.sat).mono ?_
        rintro _ w44 ⟨rfl, hs44⟩
        replace ht := ht.then hs44
        replace ho := ho.then hs44
        replace hb := hb.then hs44
        replace hT := hT.then hs44
        have hz44 := hs44.size
        first | refine as_gskip rfl rfl rfl rfl rfl ?_ | refine as_gskipU rfl rfl rfl rfl ?_ | refine as_gh rfl rfl rfl rfl (h_q rfl (q_len (by kernel_rfl) rfl _) ?_)
        first | refine as_gskip rfl rfl rfl rfl rfl ?_ | refine as_gskipU rfl rfl rfl rfl ?_ | refine as_gh rfl rfl rfl rfl (h_q rfl (q_addx rfl rfl (by omega) (by omega)) ?_)
        first | refine as_gskip rfl rfl rfl rfl rfl ?_ | refine as_gskipU rfl rfl rfl rfl ?_ | refine as_gh rfl rfl rfl rfl (h_q rfl (q_eqT rfl rfl (by omega)) ?_) | refine as_gh rfl rfl rfl rfl (h_q rfl (q_eqF rfl rfl (by omega)) ?_) | refine as_gh rfl rfl rfl rfl (h_q rfl (q_eq rfl rfl) ?_)
        first | refine as_q rfl rfl (q_pick_t rfl rfl) ?_ | refine as_q rfl rfl (q_pick_f rfl rfl) ?_ | refine as_q rfl rfl (q_pick rfl rfl rfl) ?_
        refine as_q rfl rfl (q_assign rfl) ?_
        refine as_nil (hK62 _ _ ?_)
        clear hK62 K62
        refine cw_ret ?_
        exact ⟨_, (res_tmp rfl res_nil), rfl, hT⟩

theorem tablePlays_walk {w0 : World} {M0 : Mem} {room : Int} {sv av : Value} {n m : Nat} {xs ys : List Int} (hs : Sat M0 w0) (hr : RdM M0 1 sv n (xs.map (.int .i64))) (ha : RdM M0 1 av m (ys.map (.int .i64)))  :
    Does Try.prog 4 #[.int .i64 room, sv, av] w0 (fun v w' => v = .bool true ∧ Step Nope M0 w0 M0 w') := by
  rcases Nat.lt_or_ge 60 n with h1 | h1
  · exact playsA hs hr ha h1
  rcases Nat.lt_or_ge 20 m with h2 | h2
  · exact playsB hs hr ha h1 h2
  rcases Int.lt_or_le 1000 room with h3 | h3
  · exact playsC hs hr ha h1 h2 h3
  rcases Int.lt_or_le room (-1000) with h4 | h4
  · exact playsD hs hr ha h1 h2 h4
  rcases Int.lt_or_le room 0 with h5 | h5
  · exact plays_main (rm := 0) hs hr ha h1 h2 h3 h4 (if_pos h5) (by omega) (by omega)
  · exact plays_main (rm := room) hs hr ha h1 h2 h3 h4 (if_neg (by omega)) (by omega) (by omega)

end Go.Proofs.Ytcnocefclcoiiaa
