/- Elements: what is sorted, part 1. -/
import Derived.Test.YtbfjkclijjhlhaaDoorEdA
namespace Go.Proofs.YtbfjkclijjhlhaaDoor
open Go Go.Eng
/-- A row that begins elsewhere, and goes round. -/
def rotE (xs : List El) (k : Nat) : List El := xs.drop (k % xs.length) ++ xs.take (k % xs.length)
theorem rotE_perm (xs : List El) (k : Nat) : (rotE xs k).Perm xs := by
  have := (List.perm_append_comm (l₁ := xs.drop (k % xs.length)) (l₂ := xs.take (k % xs.length)))
  rwa [List.take_append_drop] at this
theorem rotE_length (xs : List El) (k : Nat) : (rotE xs k).length = xs.length := (rotE_perm xs k).length_eq
theorem rotE_get {xs : List El} {i k : Nat} (hi : i < xs.length) : (rotE xs k)[i]? = xs[(i + k) % xs.length]? := by
  have hk := Nat.mod_lt k (show 0 < xs.length by omega)
  have e : (i + k) % xs.length = (i + k % xs.length) % xs.length := by rw [Nat.add_mod_mod]
  rw [e]
  unfold rotE
  generalize k % xs.length = q at hk ⊢
  rcases Nat.lt_or_ge (i + q) xs.length with h | h
  · rw [Nat.mod_eq_of_lt h, List.getElem?_append_left (by rw [List.length_drop]; omega), List.getElem?_drop, Nat.add_comm]
  · rw [Nat.mod_eq_sub_mod h, Nat.mod_eq_of_lt (by omega), List.getElem?_append_right (by rw [List.length_drop]; omega), List.length_drop, List.getElem?_take_of_lt (by omega)]
    congr 1
    omega
theorem cnt_step {xs : List El} {k : Nat} {y e : El} (h : xs[k]? = some y) : (xs.take (k + 1)).count e = (xs.take k).count e + if y = e then 1 else 0 := by
  rw [List.take_add_one, h, List.count_append]
  by_cases hy : y = e
  · subst hy; simp
  · simp [hy]
theorem cnt_le (xs : List El) (k : Nat) (e : El) : (xs.take k).count e ≤ k := Nat.le_trans List.count_le_length (by rw [List.length_take]; omega)
theorem ord_next {s : List El} {i : Nat} {y z : El} (h : OrdE s) (h1 : 1 ≤ i) (hy : s[i]? = some y) (hz : s[i - 1]? = some z) : ltE y z = false := by
  obtain ⟨a, rfl⟩ := List.getElem?_eq_some_iff.1 hy
  obtain ⟨b, rfl⟩ := List.getElem?_eq_some_iff.1 hz
  exact List.pairwise_iff_getElem.1 h (i - 1) i b a (by omega)

theorem ref_same_yes {w : World} {M : Mem} {va vb : Value} {n m : Nat} {xs ys : List El} (hs : Sat M w) (hn : n ≤ 1000000) (hr : Rds M w 2 va n (els xs)) (hr2 : Rds M w 2 vb m (els ys)) (he : xs = ys) :
    Does Tryd.prog 13 #[va, vb] w (fun v w' => v = .bool true ∧ Step Nope M w M w') :=
  (ref_same hs hn hr hr2).mono fun _ _ h => ⟨by rw [h.1, decide_eq_true he], h.2⟩

set_option maxHeartbeats 4000000 in
theorem elemSorts_walk {w : World} {M : Mem} {u : Value} {n : Nat} {xs : List El} {a : Int} (hs : Sat M w) (hg : Glob M) (hr : RdM M 2 u n (els xs)) (ha0 : 0 ≤ a) (ha1 : a ≤ 255) :
    Does Tryd.prog 6 #[u, .int .u8 a] w (fun v w' => v = .bool true ∧ Step Nope M w M w') := by
  have hT := Step.refl Nope hs
  obtain ⟨k, rfl⟩ : ∃ k : Nat, a = k := ⟨a.toNat, by omega⟩
  have hxl := (hr.rds w).els_len hs
  obtain ⟨la, lc, rfl, hlc, _⟩ := hr.slice
  refine fn_enter Tryd.func6 rfl (rs := [.tmp 4]) rfl rfl rfl rfl ?_
  refine cw_rs fun K1 hK1 => ?_
  -- region 0
  refine as_q rfl rfl (q_assign rfl) ?_
  refine as_nil (hK1 _ _ ?_)
  clear hK1 K1
  refine cw_rs fun K2 hK2 => ?_
  -- region 1
  refine as_h rfl (h_call (by kernel_rfl) rfl ?_)
  refine (awake01 hs hg).mono ?_
  rintro _ w1 ⟨rfl, hs1⟩
  replace hg := hg.mono hs1.le
  replace hr := hr.mono hs1.le
  replace hT := hT.then hs1
  have hz1 := hs1.size
  refine as_q rfl rfl (q_assign rfl) ?_
  refine as_nil (hK2 _ _ ?_)
  clear hK2 K2
  refine cw_seq fun K3 hK3 => ?_
  refine cw_rs fun K4 hK4 => ?_
  -- region 2
  refine as_q rfl rfl (q_move rfl) ?_
  refine as_q rfl rfl (q_not rfl) ?_
  refine as_nil (hK4 _ _ ?_)
  clear hK4 K4
  refine cw_false rfl ?_
  refine cw_skip ?_
  refine hK3 _ _ ?_
  clear hK3 K3
  refine cw_seq fun K5 hK5 => ?_
  have h60 : 60 < n ∨ n = 0 ∨ (0 < n ∧ n ≤ 60) := by omega
  rcases h60 with h60 | h60 | ⟨hn0, h60⟩
  · skip
    refine cw_rs fun K6 hK6 => ?_
    -- region 4
    refine as_q rfl rfl (q_move rfl) ?_
    refine as_q rfl rfl (q_len (by kernel_rfl) rfl _) ?_
    first | refine as_q rfl rfl (q_gtT rfl rfl (by omega)) ?_ | refine as_q rfl rfl (q_gtF rfl rfl (by omega)) ?_ | refine as_q rfl rfl (q_gt rfl rfl) ?_
    refine as_q rfl rfl (q_move rfl) ?_
    first | refine as_gskip rfl rfl rfl rfl rfl ?_ | refine as_gskipU rfl rfl rfl rfl ?_ | refine as_gh rfl rfl rfl rfl (h_q rfl (q_move rfl) ?_)
    first | refine as_gskip rfl rfl rfl rfl rfl ?_ | refine as_gskipU rfl rfl rfl rfl ?_ | refine as_gh rfl rfl rfl rfl (h_q rfl (q_len (by kernel_rfl) rfl _) ?_)
    first | refine as_gskip rfl rfl rfl rfl rfl ?_ | refine as_gskipU rfl rfl rfl rfl ?_ | refine as_gh rfl rfl rfl rfl (h_q rfl (q_eqT rfl rfl (by omega)) ?_) | refine as_gh rfl rfl rfl rfl (h_q rfl (q_eqF rfl rfl (by omega)) ?_) | refine as_gh rfl rfl rfl rfl (h_q rfl (q_eq rfl rfl) ?_)
    first | refine as_q rfl rfl (q_pick_t rfl rfl) ?_ | refine as_q rfl rfl (q_pick_f rfl rfl) ?_ | refine as_q rfl rfl (q_pick rfl rfl rfl) ?_
    refine as_nil (hK6 _ _ ?_)
    clear hK6 K6
    refine cw_true rfl ?_
    refine cw_rs fun K7 hK7 => ?_
    -- region 5
    refine as_q rfl rfl (q_assign rfl) ?_
    refine as_nil (hK7 _ _ ?_)
    clear hK7 K7
    refine cw_ret ?_
    exact ⟨_, (res_tmp rfl res_nil), rfl, hT.forget⟩
  · skip
    refine cw_rs fun K8 hK8 => ?_
    -- region 4
    refine as_q rfl rfl (q_move rfl) ?_
    refine as_q rfl rfl (q_len (by kernel_rfl) rfl _) ?_
    first | refine as_q rfl rfl (q_gtT rfl rfl (by omega)) ?_ | refine as_q rfl rfl (q_gtF rfl rfl (by omega)) ?_ | refine as_q rfl rfl (q_gt rfl rfl) ?_
    refine as_q rfl rfl (q_move rfl) ?_
    first | refine as_gskip rfl rfl rfl rfl rfl ?_ | refine as_gskipU rfl rfl rfl rfl ?_ | refine as_gh rfl rfl rfl rfl (h_q rfl (q_move rfl) ?_)
    first | refine as_gskip rfl rfl rfl rfl rfl ?_ | refine as_gskipU rfl rfl rfl rfl ?_ | refine as_gh rfl rfl rfl rfl (h_q rfl (q_len (by kernel_rfl) rfl _) ?_)
    first | refine as_gskip rfl rfl rfl rfl rfl ?_ | refine as_gskipU rfl rfl rfl rfl ?_ | refine as_gh rfl rfl rfl rfl (h_q rfl (q_eqT rfl rfl (by omega)) ?_) | refine as_gh rfl rfl rfl rfl (h_q rfl (q_eqF rfl rfl (by omega)) ?_) | refine as_gh rfl rfl rfl rfl (h_q rfl (q_eq rfl rfl) ?_)
    first | refine as_q rfl rfl (q_pick_t rfl rfl) ?_ | refine as_q rfl rfl (q_pick_f rfl rfl) ?_ | refine as_q rfl rfl (q_pick rfl rfl rfl) ?_
    refine as_nil (hK8 _ _ ?_)
    clear hK8 K8
    refine cw_true rfl ?_
    refine cw_rs fun K9 hK9 => ?_
    -- region 5
    refine as_q rfl rfl (q_assign rfl) ?_
    refine as_nil (hK9 _ _ ?_)
    clear hK9 K9
    refine cw_ret ?_
    exact ⟨_, (res_tmp rfl res_nil), rfl, hT.forget⟩
  · skip
    refine cw_rs fun K10 hK10 => ?_
    -- region 4
    refine as_q rfl rfl (q_move rfl) ?_
    refine as_q rfl rfl (q_len (by kernel_rfl) rfl _) ?_
    first | refine as_q rfl rfl (q_gtT rfl rfl (by omega)) ?_ | refine as_q rfl rfl (q_gtF rfl rfl (by omega)) ?_ | refine as_q rfl rfl (q_gt rfl rfl) ?_
    refine as_q rfl rfl (q_move rfl) ?_
    first | refine as_gskip rfl rfl rfl rfl rfl ?_ | refine as_gskipU rfl rfl rfl rfl ?_ | refine as_gh rfl rfl rfl rfl (h_q rfl (q_move rfl) ?_)
    first | refine as_gskip rfl rfl rfl rfl rfl ?_ | refine as_gskipU rfl rfl rfl rfl ?_ | refine as_gh rfl rfl rfl rfl (h_q rfl (q_len (by kernel_rfl) rfl _) ?_)
    first | refine as_gskip rfl rfl rfl rfl rfl ?_ | refine as_gskipU rfl rfl rfl rfl ?_ | refine as_gh rfl rfl rfl rfl (h_q rfl (q_eqT rfl rfl (by omega)) ?_) | refine as_gh rfl rfl rfl rfl (h_q rfl (q_eqF rfl rfl (by omega)) ?_) | refine as_gh rfl rfl rfl rfl (h_q rfl (q_eq rfl rfl) ?_)
    first | refine as_q rfl rfl (q_pick_t rfl rfl) ?_ | refine as_q rfl rfl (q_pick_f rfl rfl) ?_ | refine as_q rfl rfl (q_pick rfl rfl rfl) ?_
    refine as_nil (hK10 _ _ ?_)
    clear hK10 K10
    refine cw_false rfl ?_
    refine cw_skip ?_
    refine hK5 _ _ ?_
    clear hK5 K5
    refine cw_rs fun K11 hK11 => ?_
    -- region 6
    refine as_q rfl rfl (q_assign rfl) ?_
    refine as_nil (hK11 _ _ ?_)
    clear hK11 K11
    refine cw_seq fun K12 hK12 => ?_
    refine cw_rs fun K13 hK13 => ?_
    -- region 7
    refine as_q rfl rfl (q_assign rfl) ?_
    refine as_nil (hK13 _ _ ?_)
    clear hK13 K13
    refine cw_block ?_
    refine cw_loop (fun mm l w1 => ∃ (i : Nat) (ma : Option Addr) (mc : Nat), mm = n - i ∧ i ≤ n ∧ l = [(0, .slice la n lc), (1, .int .u8 (k : Nat)), (6, .slice ma i mc), (7, .int .i64 i)] ∧ Step Nope M w M w1 ∧ Buf w1 M 23 2 (.slice ma i mc) i (els ((rotE xs k).take i)) ∧ (∀ g, (Value.slice ma i mc).ownBlock = some g → w.heap.size ≤ g)) (n) [(0, .slice la n lc), (1, .int .u8 (k : Nat)), (6, .slice none 0 0), (7, .int .i64 (0 : Nat))] (.cons rfl (.cons rfl (.cons rfl (.cons rfl (.nil _))))) ?_ ?_
    · skip
      exact ⟨0, none, 0, rfl, Nat.zero_le _, rfl, hT, Buf.nil _ _ _ _, fun g hg => by cases hg⟩
    clear hT
    rintro mm l w1 ⟨i, ma, mc, rfl, hi, rfl, hT, hmb, hmf⟩
    refine cw_seq fun K14 hK14 => ?_
    refine cw_rs fun K15 hK15 => ?_
    -- region 8
    refine as_q rfl rfl (q_move rfl) ?_
    refine as_q rfl rfl (q_move rfl) ?_
    refine as_q rfl rfl (q_len (by kernel_rfl) rfl _) ?_
    refine as_q rfl rfl (q_lt rfl rfl) ?_
    refine as_nil (hK15 _ _ ?_)
    clear hK15 K15
    refine cw_cond rfl (fun hc2 => ?_) (fun hc2 => ?_)
    · skip
      have hlt : i < n := by have := of_decide_eq_true hc2; omega
      have hmod := Nat.mod_lt (i + k) hn0
      obtain ⟨y, hy⟩ : ∃ e, xs[(i + k) % n]? = some e := ⟨xs[(i + k) % n]'(by omega), List.getElem?_eq_getElem _⟩
      obtain ⟨lg, lo, rfl⟩ := hr.there (by omega)
      refine cw_skip ?_
      refine hK14 _ _ ?_
      clear hK14 K14
      refine cw_seq fun K16 hK16 => ?_
      refine cw_block ?_
      refine cw_region fun K17 hK17 => ?_
      -- region 10
      refine as_q rfl rfl (q_move rfl) ?_
      refine as_q rfl rfl (q_move rfl) ?_
      refine as_q rfl rfl (q_move rfl) ?_
      refine as_q rfl rfl (q_move rfl) ?_
      refine as_q rfl rfl (q_convx (by kernel_rfl) (by kernel_rfl) rfl (wrap64_of (by omega) (by omega))) ?_
      refine as_q rfl rfl (q_congr (q_addx rfl rfl (by omega) (by omega)) (v' := .int .i64 ((i + k : Nat) : Int)) (congrArg (Value.int .i64) (by omega))) ?_
      refine as_q rfl rfl (q_move rfl) ?_
      refine as_q rfl rfl (q_len (by kernel_rfl) rfl _) ?_
      refine as_q rfl rfl (q_congr (q_rem rfl rfl (by omega)) (v' := .int .i64 (((i + k) % n : Nat) : Int)) (congrArg (Value.int .i64) (Int.ofNat_tmod _ _).symm)) ?_
      refine as_q rfl rfl (q_indexAddr (e := 23) (size := 2) (by kernel_rfl) (by kernel_rfl) rfl rfl (by omega) (by omega)) ?_
      refine as_q rfl rfl (q_loadc (n := 2) (by kernel_rfl) rfl ((hr.rd hT.sat).el (j := (((i + k) % n : Nat) : Int).toNat) (by simpa only [Int.toNat_natCast] using hy))) ?_
      refine as_h rfl (h_buildO (e := 23) (size := 2) (zs := [(.int .i64 0), (.int .i64 0)]) (cs := [_, _]) (by kernel_rfl) (by kernel_rfl) (by kernel_rfl) rfl hT.sat rfl rfl fun b2 w2 hs2 ho2 e2 => ?_)
      replace hg := hg.mono hs2.le
      replace hr := hr.mono hs2.le
      replace hmb := hmb.then hs2
      replace hT := hT.then hs2
      have hz2 := hs2.size
      have hl2 := ho2.1.lt
      have hlt1 := hmb.lt
      have hq3 := hT.size
      refine as_h rfl (h_append (e := 23) (size := 2) (bytes := 16) (by kernel_rfl) hs2.sat hmb ((Own.buf ho2 (n := 1) (size := 2) rfl (by decide)).rd) rfl rfl (by simp [Value.oneCell']) (by omega) rfl fun hdv w3 hs3 hdb hdo => ?_)
      replace hg := hg.mono hs3.le
      replace hr := hr.mono hs3.le
      clear ho2
      have hdf := floor_of hdo hmf hq3
      replace hT := hT.trans hs3 (fun k hk h => absurd (hmf k h) (by omega))
      have hz3 := hs3.size
      obtain ⟨da, dc, rfl, _, _⟩ := hdb.slice
      refine as_q rfl rfl (q_assign rfl) ?_
      refine as_nil (hK17 _ _ ?_)
      clear hK17 K17
      refine hK16 _ _ ?_
      clear hK16 K16
      refine cw_region fun K18 hK18 => ?_
      -- region 9
      refine as_q rfl rfl (q_move rfl) ?_
      refine as_q rfl rfl (q_addx rfl rfl (by omega) (by omega)) ?_
      refine as_q rfl rfl (q_assign rfl) ?_
      refine as_nil (hK18 _ _ ?_)
      clear hK18 K18
      refine ⟨_, _, ?_, (.cons rfl (.cons rfl (.cons rfl (.cons rfl (.nil _))))), i + 1, da, dc, rfl, by omega, rfl, hT, ?_, hdf⟩
      · omega
      · rw [List.take_add_one, rotE_get (by omega), hxl, hy, els_append]
        exact hdb
    · skip
      have hge : n = i := by have := of_decide_eq_false hc2; omega
      subst hge
      refine cw_exit ?_
      refine hK12 _ _ ?_
      clear hK14 K14
      clear hK12 K12
      refine cw_rs fun K19 hK19 => ?_
      rw [List.take_of_length_le (by rw [rotE_length]; omega)] at hmb
      have hmlt := hmb.lt
      -- region 11
      refine as_q rfl rfl (q_move rfl) ?_
      refine as_h rfl (h_call (by kernel_rfl) rfl ?_)
      refine (elem_sort hT.sat (hr.rds _) (by omega)).mono ?_
      rintro svv w4 ⟨hs4, hsvb, _⟩
      replace hg := hg.mono hs4.le
      replace hr := hr.mono hs4.le
      replace hmb := hmb.then hs4
      replace hT := hT.then hs4
      have hz4 := hs4.size
      obtain ⟨sva, svc, rfl, _, _⟩ := hsvb.slice
      refine as_q rfl rfl (q_assign rfl) ?_
      refine as_nil (hK19 _ _ ?_)
      clear hK19 K19
      refine cw_seq fun K20 hK20 => ?_
      refine cw_rs fun K21 hK21 => ?_
      -- region 12
      refine as_q rfl rfl (q_assign rfl) ?_
      refine as_nil (hK21 _ _ ?_)
      clear hK21 K21
      refine cw_block ?_
      refine cw_loop (fun mm l w1 => ∃ (i : Nat), mm = n - i ∧ 1 ≤ i ∧ l = [(0, .slice la n lc), (1, .int .u8 (k : Nat)), (6, .slice ma n mc), (8, .slice sva n svc), (9, .int .i64 i)] ∧ Step Nope M w M w1 ∧ Buf w1 M 23 2 (.slice ma n mc) n (els (rotE xs k)) ∧ Buf w1 M 23 2 (.slice sva n svc) n (els (srtE xs))) (n - 1) [(0, .slice la n lc), (1, .int .u8 (k : Nat)), (6, .slice ma n mc), (8, .slice sva n svc), (9, .int .i64 (1 : Nat))] (.cons rfl (.cons rfl (.cons rfl (.cons rfl (.cons rfl (.nil _)))))) ?_ ?_
      · skip
        exact ⟨1, rfl, Nat.le_refl _, rfl, hT, hmb, hsvb⟩
      clear hT hmb hsvb
      rintro mm l w1 ⟨i, rfl, h1i, rfl, hT, hmb, hsvb⟩
      refine cw_seq fun K22 hK22 => ?_
      refine cw_rs fun K23 hK23 => ?_
      -- region 13
      refine as_q rfl rfl (q_move rfl) ?_
      refine as_q rfl rfl (q_move rfl) ?_
      refine as_q rfl rfl (q_len (by kernel_rfl) rfl _) ?_
      refine as_q rfl rfl (q_lt rfl rfl) ?_
      refine as_nil (hK23 _ _ ?_)
      clear hK23 K23
      refine cw_cond rfl (fun hc3 => ?_) (fun hc3 => ?_)
      · skip
        have hlt : i < n := by have := of_decide_eq_true hc3; omega
        obtain ⟨y, hy⟩ : ∃ e, (srtE xs)[i]? = some e := ⟨(srtE xs)[i]'(by rw [srtE_length]; omega), List.getElem?_eq_getElem _⟩
        obtain ⟨z, hz⟩ : ∃ e, (srtE xs)[i - 1]? = some e := ⟨(srtE xs)[i - 1]'(by rw [srtE_length]; omega), List.getElem?_eq_getElem _⟩
        obtain ⟨sg, so, rfl⟩ := hsvb.rd.there (by omega)
        refine cw_skip ?_
        refine hK22 _ _ ?_
        clear hK22 K22
        refine cw_seq fun K24 hK24 => ?_
        refine cw_block ?_
        refine cw_rd (by kernel_rfl) (by kernel_rfl) (by kernel_rfl) rfl rfl fun K25 hK25 => ?_
        -- region 15
        have hs5 := Step.drew hT.sat
        have hz5 := hs5.size
        replace hg := hg.mono hs5.le
        replace hr := hr.mono hs5.le
        replace hmb := hmb.then hs5
        replace hsvb := hsvb.then hs5
        replace hT := hT.then hs5
        refine at_q (i := 0) (li := #[true, false, false, false, false, false, false, false, false, false]) rfl (by kernel_rfl) rfl (fun _ => (q_move rfl)) (by kernel_rfl) ?_
        refine at_q (i := 1) (li := #[true, true, false, false, false, false, false, false, false, false]) rfl (by kernel_rfl) rfl (fun _ => (q_move rfl)) (by kernel_rfl) ?_
        refine at_q (i := 2) (li := #[true, true, true, false, false, false, false, false, false, false]) rfl (by kernel_rfl) rfl (fun _ => (q_indexAddr (e := 23) (size := 2) (by kernel_rfl) (by kernel_rfl) rfl rfl (by omega) (by omega))) (by kernel_rfl) ?_
        refine at_l (i := 3) (li := #[true, true, true, true, false, false, false, false, false, false]) (cellsAre _ _ 2 _) rfl (by kernel_rfl) rfl (fun _ h => q_loadc (n := 2) (by kernel_rfl) rfl h) ((hsvb.rd).el (j := (i : Int).toNat) (by simpa using hy)) (by kernel_rfl) ?_
        refine at_q (i := 4) (li := #[true, true, true, true, true, false, false, false, false, false]) rfl (by kernel_rfl) rfl (fun _ => (q_move rfl)) (by kernel_rfl) ?_
        refine at_q (i := 5) (li := #[true, true, true, true, true, true, false, false, false, false]) rfl (by kernel_rfl) rfl (fun _ => (q_move rfl)) (by kernel_rfl) ?_
        refine at_q (i := 6) (li := #[true, true, true, true, true, true, true, false, false, false]) rfl (by kernel_rfl) rfl (fun _ => (q_congr (q_subx rfl rfl (by omega) (by omega)) (v' := .int .i64 ((i - 1 : Nat) : Int)) (congrArg (Value.int .i64) (by omega)))) (by kernel_rfl) ?_
        refine at_q (i := 7) (li := #[true, true, true, true, true, true, true, true, false, false]) rfl (by kernel_rfl) rfl (fun _ => (q_indexAddr (e := 23) (size := 2) (by kernel_rfl) (by kernel_rfl) rfl rfl (by omega) (by omega))) (by kernel_rfl) ?_
        refine at_l (i := 8) (li := #[true, true, true, true, true, true, true, true, true, false]) (cellsAre _ _ 2 _) rfl (by kernel_rfl) rfl (fun _ h => q_loadc (n := 2) (by kernel_rfl) rfl h) ((hsvb.rd).el (j := ((i - 1 : Nat) : Int).toNat) (by simpa using hz)) (by kernel_rfl) ?_
        refine at_h (i := 9) (li := #[true, true, true, true, true, true, true, true, true, true]) rfl (by kernel_rfl) rfl (keep_sift (bs := [true, true]) (by kernel_rfl)) (by kernel_rfl) (h_call (by kernel_rfl) rfl ?_)
        refine (z_less_is (a := y) (b := z) hs5.sat (ord_next (srtE_ord xs) h1i hy hz)).mono ?_
        rintro _ w6 ⟨rfl, hs6⟩
        replace hg := hg.mono hs6.le
        replace hr := hr.mono hs6.le
        replace hmb := hmb.then hs6
        replace hsvb := hsvb.then hs6
        replace hT := hT.then hs6
        have hz6 := hs6.size
        refine ⟨(by repeat' first | exact trivial | exact ((hsvb.rd).el (j := (i : Int).toNat) (by simpa using hy)) | exact ((hsvb.rd).el (j := ((i - 1 : Nat) : Int).toNat) (by simpa using hz)) | assumption | refine all_keep ?_ | refine And.intro ?_ ?_), ?_⟩
        refine at_done (by kernel_rfl) (hK25 _ _ ?_)
        clear hK25 K25
        refine cw_false rfl ?_
        refine cw_skip ?_
        refine hK24 _ _ ?_
        clear hK24 K24
        refine cw_region fun K26 hK26 => ?_
        -- region 14
        refine as_q rfl rfl (q_move rfl) ?_
        refine as_q rfl rfl (q_addx rfl rfl (by omega) (by omega)) ?_
        refine as_q rfl rfl (q_assign rfl) ?_
        refine as_nil (hK26 _ _ ?_)
        clear hK26 K26
        refine ⟨_, _, ?_, (.cons rfl (.cons rfl (.cons rfl (.cons rfl (.cons rfl (.nil _)))))), i + 1, rfl, by omega, rfl, hT, hmb, hsvb⟩
        omega
      · skip
        skip
        refine cw_exit ?_
        refine hK20 _ _ ?_
        clear hK22 K22
        clear hK20 K20
        refine cw_seq fun K27 hK27 => ?_
        refine cw_rs fun K28 hK28 => ?_
        -- region 17
        refine as_q rfl rfl (q_assign rfl) ?_
        refine as_nil (hK28 _ _ ?_)
        clear hK28 K28
        refine cw_block ?_
        refine cw_loop (fun mm l w1 => ∃ (i : Nat), mm = n - i ∧ l = [(0, .slice la n lc), (1, .int .u8 (k : Nat)), (6, .slice ma n mc), (8, .slice sva n svc), (10, .int .i64 i)] ∧ Step Nope M w M w1 ∧ Buf w1 M 23 2 (.slice ma n mc) n (els (rotE xs k)) ∧ Buf w1 M 23 2 (.slice sva n svc) n (els (srtE xs))) (n) [(0, .slice la n lc), (1, .int .u8 (k : Nat)), (6, .slice ma n mc), (8, .slice sva n svc), (10, .int .i64 (0 : Nat))] (.cons rfl (.cons rfl (.cons rfl (.cons rfl (.cons rfl (.nil _)))))) ?_ ?_
        · skip
          exact ⟨0, rfl, rfl, hT, hmb, hsvb⟩
        clear hT hmb hsvb
        rintro mm l w1 ⟨i, rfl, rfl, hT, hmb, hsvb⟩
        refine cw_seq fun K29 hK29 => ?_
        refine cw_rs fun K30 hK30 => ?_
        -- region 18
        refine as_q rfl rfl (q_move rfl) ?_
        refine as_q rfl rfl (q_move rfl) ?_
        refine as_q rfl rfl (q_len (by kernel_rfl) rfl _) ?_
        refine as_q rfl rfl (q_lt rfl rfl) ?_
        refine as_nil (hK30 _ _ ?_)
        clear hK30 K30
        refine cw_cond rfl (fun hc5 => ?_) (fun hc5 => ?_)
        · skip
          have hlt : i < n := by have := of_decide_eq_true hc5; omega
          obtain ⟨e, he⟩ : ∃ e, xs[i]? = some e := ⟨xs[i]'(by omega), List.getElem?_eq_getElem _⟩
          refine cw_skip ?_
          refine hK29 _ _ ?_
          clear hK29 K29
          refine cw_seq fun K31 hK31 => ?_
          refine cw_block ?_
          refine cw_rs fun K32 hK32 => ?_
          -- region 20
          refine as_q rfl rfl (q_assign rfl) ?_
          refine as_nil (hK32 _ _ ?_)
          clear hK32 K32
          refine cw_seq fun K33 hK33 => ?_
          refine cw_rs fun K34 hK34 => ?_
          -- region 21
          refine as_q rfl rfl (q_assign rfl) ?_
          refine as_nil (hK34 _ _ ?_)
          clear hK34 K34
          refine cw_block ?_
          refine cw_loop (fun mm l w1 => ∃ (q : Nat) (c : Int), mm = n - q ∧ q ≤ n ∧ c = (((xs.take q).count e : Nat) : Int) - (((srtE xs).take q).count e : Nat) ∧ l = [(0, .slice la n lc), (1, .int .u8 (k : Nat)), (6, .slice ma n mc), (8, .slice sva n svc), (10, .int .i64 i), (11, .int .i64 c), (12, .int .i64 q)] ∧ Step Nope M w M w1 ∧ Buf w1 M 23 2 (.slice ma n mc) n (els (rotE xs k)) ∧ Buf w1 M 23 2 (.slice sva n svc) n (els (srtE xs))) (n) [(0, .slice la n lc), (1, .int .u8 (k : Nat)), (6, .slice ma n mc), (8, .slice sva n svc), (10, .int .i64 i), (11, .int .i64 0), (12, .int .i64 (0 : Nat))] (.cons rfl (.cons rfl (.cons rfl (.cons rfl (.cons rfl (.cons rfl (.cons rfl (.nil _)))))))) ?_ ?_
          · skip
            exact ⟨0, 0, rfl, Nat.zero_le _, by simp, rfl, hT, hmb, hsvb⟩
          clear hT hmb hsvb
          rintro mm l w1 ⟨q, c, rfl, hq, hcc, rfl, hT, hmb, hsvb⟩
          refine cw_seq fun K35 hK35 => ?_
          refine cw_rs fun K36 hK36 => ?_
          -- region 22
          refine as_q rfl rfl (q_move rfl) ?_
          refine as_q rfl rfl (q_move rfl) ?_
          refine as_q rfl rfl (q_len (by kernel_rfl) rfl _) ?_
          refine as_q rfl rfl (q_lt rfl rfl) ?_
          refine as_nil (hK36 _ _ ?_)
          clear hK36 K36
          refine cw_cond rfl (fun hc6 => ?_) (fun hc6 => ?_)
          · skip
            have hqlt : q < n := by have := of_decide_eq_true hc6; omega
            obtain ⟨y, hy⟩ : ∃ e, xs[q]? = some e := ⟨xs[q]'(by omega), List.getElem?_eq_getElem _⟩
            obtain ⟨z, hz⟩ : ∃ e, (srtE xs)[q]? = some e := ⟨(srtE xs)[q]'(by rw [srtE_length]; omega), List.getElem?_eq_getElem _⟩
            obtain ⟨sg, so, rfl⟩ := hsvb.rd.there (by omega)
            obtain ⟨lg, lo, rfl⟩ := hr.there (by omega)
            have hcy := cnt_step (e := e) hy
            have hcz := cnt_step (e := e) hz
            have hby := cnt_le xs q e
            have hbz := cnt_le (srtE xs) q e
            refine cw_skip ?_
            refine hK35 _ _ ?_
            clear hK35 K35
            refine cw_seq fun K37 hK37 => ?_
            refine cw_block ?_
            refine cw_seq fun K38 hK38 => ?_
            refine cw_rd (by kernel_rfl) (by kernel_rfl) (by kernel_rfl) rfl rfl fun K39 hK39 => ?_
            -- region 24
            have hs7 := Step.drew hT.sat
            have hz7 := hs7.size
            replace hg := hg.mono hs7.le
            replace hr := hr.mono hs7.le
            replace hmb := hmb.then hs7
            replace hsvb := hsvb.then hs7
            replace hT := hT.then hs7
            refine at_q (i := 0) (li := #[true, false, false, false, false, false, false, false, false]) rfl (by kernel_rfl) rfl (fun _ => (q_move rfl)) (by kernel_rfl) ?_
            refine at_q (i := 1) (li := #[true, true, false, false, false, false, false, false, false]) rfl (by kernel_rfl) rfl (fun _ => (q_move rfl)) (by kernel_rfl) ?_
            refine at_q (i := 2) (li := #[true, true, true, false, false, false, false, false, false]) rfl (by kernel_rfl) rfl (fun _ => (q_indexAddr (e := 23) (size := 2) (by kernel_rfl) (by kernel_rfl) rfl rfl (by omega) (by omega))) (by kernel_rfl) ?_
            refine at_l (i := 3) (li := #[true, true, true, true, false, false, false, false, false]) (cellsAre _ _ 2 _) rfl (by kernel_rfl) rfl (fun _ h => q_loadc (n := 2) (by kernel_rfl) rfl h) ((hr.rd hT.sat).el (j := (q : Int).toNat) (by simpa using hy)) (by kernel_rfl) ?_
            refine at_q (i := 4) (li := #[true, true, true, true, true, false, false, false, false]) rfl (by kernel_rfl) rfl (fun _ => (q_move rfl)) (by kernel_rfl) ?_
            refine at_q (i := 5) (li := #[true, true, true, true, true, true, false, false, false]) rfl (by kernel_rfl) rfl (fun _ => (q_move rfl)) (by kernel_rfl) ?_
            refine at_q (i := 6) (li := #[true, true, true, true, true, true, true, false, false]) rfl (by kernel_rfl) rfl (fun _ => (q_indexAddr (e := 23) (size := 2) (by kernel_rfl) (by kernel_rfl) rfl rfl (by omega) (by omega))) (by kernel_rfl) ?_
            refine at_l (i := 7) (li := #[true, true, true, true, true, true, true, true, false]) (cellsAre _ _ 2 _) rfl (by kernel_rfl) rfl (fun _ h => q_loadc (n := 2) (by kernel_rfl) rfl h) ((hr.rd hT.sat).el (j := (i : Int).toNat) (by simpa using he)) (by kernel_rfl) ?_
            refine at_q (i := 8) (li := #[true, true, true, true, true, true, true, true, true]) rfl (by kernel_rfl) rfl (fun _ => (q_eqE (a := y) (b := e) (e := 2) (by kernel_rfl) (by kernel_rfl) (by kernel_rfl) (by kernel_rfl) (by kernel_rfl) (by kernel_rfl) rfl rfl)) (by kernel_rfl) ?_
            refine at_done (by kernel_rfl) (hK39 _ _ ?_)
            clear hK39 K39
            refine cw_cond rfl (fun hc7 => ?_) (fun hc7 => ?_)
            · skip
              replace hc7 : y = e := of_decide_eq_true hc7
              rw [if_pos hc7] at hcy
              refine cw_region fun K40 hK40 => ?_
              -- region 25
              refine as_q rfl rfl (q_move rfl) ?_
              refine as_q rfl rfl (q_addx rfl rfl (by omega) (by omega)) ?_
              refine as_q rfl rfl (q_assign rfl) ?_
              refine as_nil (hK40 _ _ ?_)
              clear hK40 K40
              refine hK38 _ _ ?_
              clear hK38 K38
              refine cw_rd (by kernel_rfl) (by kernel_rfl) (by kernel_rfl) rfl rfl fun K41 hK41 => ?_
              -- region 26
              have hs8 := Step.drew hs7.sat
              have hz8 := hs8.size
              replace hg := hg.mono hs8.le
              replace hr := hr.mono hs8.le
              replace hmb := hmb.then hs8
              replace hsvb := hsvb.then hs8
              replace hT := hT.then hs8
              refine at_q (i := 0) (li := #[true, false, false, false, false, false, false, false, false, false, false, false, false, false, false]) rfl (by kernel_rfl) rfl (fun _ => (q_move rfl)) (by kernel_rfl) ?_
              refine at_q (i := 1) (li := #[true, true, false, false, false, false, false, false, false, false, false, false, false, false, false]) rfl (by kernel_rfl) rfl (fun _ => (q_move rfl)) (by kernel_rfl) ?_
              refine at_q (i := 2) (li := #[true, true, true, false, false, false, false, false, false, false, false, false, false, false, false]) rfl (by kernel_rfl) rfl (fun _ => (q_len (by kernel_rfl) rfl _)) (by kernel_rfl) ?_
              refine at_q (i := 3) (li := #[true, true, true, true, false, false, false, false, false, false, false, false, false, false, false]) rfl (by kernel_rfl) rfl (fun _ => (q_ltT rfl rfl (by omega))) (by kernel_rfl) ?_
              refine at_q (i := 4) (li := #[true, true, true, true, true, false, false, false, false, false, false, false, false, false, false]) rfl (by kernel_rfl) rfl (fun _ => (q_move rfl)) (by kernel_rfl) ?_
              first | refine at_gskip (i := 5) (li := #[true, true, true, true, true, true, false, false, false, false, false, false, false, false, false]) rfl (by kernel_rfl) rfl rfl rfl rfl rfl (by kernel_rfl) ?_ | refine at_gskipU (i := 5) (li := #[true, true, true, true, true, true, false, false, false, false, false, false, false, false, false]) rfl (by kernel_rfl) rfl rfl rfl rfl (by kernel_rfl) ?_ | refine at_gp (i := 5) (li := #[true, true, true, true, true, true, false, false, false, false, false, false, false, false, false]) rfl (by kernel_rfl) rfl rfl rfl rfl (fun _ => (q_move rfl)) (by kernel_rfl) ?_
              first | refine at_gskip (i := 6) (li := #[true, true, true, true, true, true, true, false, false, false, false, false, false, false, false]) rfl (by kernel_rfl) rfl rfl rfl rfl rfl (by kernel_rfl) ?_ | refine at_gskipU (i := 6) (li := #[true, true, true, true, true, true, true, false, false, false, false, false, false, false, false]) rfl (by kernel_rfl) rfl rfl rfl rfl (by kernel_rfl) ?_ | refine at_gp (i := 6) (li := #[true, true, true, true, true, true, true, false, false, false, false, false, false, false, false]) rfl (by kernel_rfl) rfl rfl rfl rfl (fun _ => (q_move rfl)) (by kernel_rfl) ?_
              first | refine at_gskip (i := 7) (li := #[true, true, true, true, true, true, true, true, false, false, false, false, false, false, false]) rfl (by kernel_rfl) rfl rfl rfl rfl rfl (by kernel_rfl) ?_ | refine at_gskipU (i := 7) (li := #[true, true, true, true, true, true, true, true, false, false, false, false, false, false, false]) rfl (by kernel_rfl) rfl rfl rfl rfl (by kernel_rfl) ?_ | refine at_gp (i := 7) (li := #[true, true, true, true, true, true, true, true, false, false, false, false, false, false, false]) rfl (by kernel_rfl) rfl rfl rfl rfl (fun _ => (q_indexAddr (e := 23) (size := 2) (by kernel_rfl) (by kernel_rfl) rfl rfl (by omega) (by omega))) (by kernel_rfl) ?_
              first | refine at_gskip (i := 8) (li := #[true, true, true, true, true, true, true, true, true, false, false, false, false, false, false]) rfl (by kernel_rfl) rfl rfl rfl rfl rfl (by kernel_rfl) ?_ | refine at_gskipU (i := 8) (li := #[true, true, true, true, true, true, true, true, true, false, false, false, false, false, false]) rfl (by kernel_rfl) rfl rfl rfl rfl (by kernel_rfl) ?_ | refine at_gq (i := 8) (li := #[true, true, true, true, true, true, true, true, true, false, false, false, false, false, false]) (cellsAre _ _ 2 _) rfl (by kernel_rfl) rfl rfl rfl rfl (fun _ h => q_loadc (n := 2) (by kernel_rfl) rfl h) ((hsvb.rd).el (j := (q : Int).toNat) (by simpa using hz)) (by kernel_rfl) ?_
              first | refine at_gskip (i := 9) (li := #[true, true, true, true, true, true, true, true, true, true, false, false, false, false, false]) rfl (by kernel_rfl) rfl rfl rfl rfl rfl (by kernel_rfl) ?_ | refine at_gskipU (i := 9) (li := #[true, true, true, true, true, true, true, true, true, true, false, false, false, false, false]) rfl (by kernel_rfl) rfl rfl rfl rfl (by kernel_rfl) ?_ | refine at_gp (i := 9) (li := #[true, true, true, true, true, true, true, true, true, true, false, false, false, false, false]) rfl (by kernel_rfl) rfl rfl rfl rfl (fun _ => (q_move rfl)) (by kernel_rfl) ?_
              first | refine at_gskip (i := 10) (li := #[true, true, true, true, true, true, true, true, true, true, true, false, false, false, false]) rfl (by kernel_rfl) rfl rfl rfl rfl rfl (by kernel_rfl) ?_ | refine at_gskipU (i := 10) (li := #[true, true, true, true, true, true, true, true, true, true, true, false, false, false, false]) rfl (by kernel_rfl) rfl rfl rfl rfl (by kernel_rfl) ?_ | refine at_gp (i := 10) (li := #[true, true, true, true, true, true, true, true, true, true, true, false, false, false, false]) rfl (by kernel_rfl) rfl rfl rfl rfl (fun _ => (q_move rfl)) (by kernel_rfl) ?_
              first | refine at_gskip (i := 11) (li := #[true, true, true, true, true, true, true, true, true, true, true, true, false, false, false]) rfl (by kernel_rfl) rfl rfl rfl rfl rfl (by kernel_rfl) ?_ | refine at_gskipU (i := 11) (li := #[true, true, true, true, true, true, true, true, true, true, true, true, false, false, false]) rfl (by kernel_rfl) rfl rfl rfl rfl (by kernel_rfl) ?_ | refine at_gp (i := 11) (li := #[true, true, true, true, true, true, true, true, true, true, true, true, false, false, false]) rfl (by kernel_rfl) rfl rfl rfl rfl (fun _ => (q_indexAddr (e := 23) (size := 2) (by kernel_rfl) (by kernel_rfl) rfl rfl (by omega) (by omega))) (by kernel_rfl) ?_
              first | refine at_gskip (i := 12) (li := #[true, true, true, true, true, true, true, true, true, true, true, true, true, false, false]) rfl (by kernel_rfl) rfl rfl rfl rfl rfl (by kernel_rfl) ?_ | refine at_gskipU (i := 12) (li := #[true, true, true, true, true, true, true, true, true, true, true, true, true, false, false]) rfl (by kernel_rfl) rfl rfl rfl rfl (by kernel_rfl) ?_ | refine at_gq (i := 12) (li := #[true, true, true, true, true, true, true, true, true, true, true, true, true, false, false]) (cellsAre _ _ 2 _) rfl (by kernel_rfl) rfl rfl rfl rfl (fun _ h => q_loadc (n := 2) (by kernel_rfl) rfl h) ((hr.rd hT.sat).el (j := (i : Int).toNat) (by simpa using he)) (by kernel_rfl) ?_
              first | refine at_gskip (i := 13) (li := #[true, true, true, true, true, true, true, true, true, true, true, true, true, true, false]) rfl (by kernel_rfl) rfl rfl rfl rfl rfl (by kernel_rfl) ?_ | refine at_gskipU (i := 13) (li := #[true, true, true, true, true, true, true, true, true, true, true, true, true, true, false]) rfl (by kernel_rfl) rfl rfl rfl rfl (by kernel_rfl) ?_ | refine at_gp (i := 13) (li := #[true, true, true, true, true, true, true, true, true, true, true, true, true, true, false]) rfl (by kernel_rfl) rfl rfl rfl rfl (fun _ => (q_eqE (a := z) (b := e) (e := 2) (by kernel_rfl) (by kernel_rfl) (by kernel_rfl) (by kernel_rfl) (by kernel_rfl) (by kernel_rfl) rfl rfl)) (by kernel_rfl) ?_
              first | refine at_q (i := 14) (li := #[true, true, true, true, true, true, true, true, true, true, true, true, true, true, true]) rfl (by kernel_rfl) rfl (fun _ => (q_pick_t rfl rfl)) (by kernel_rfl) ?_ | refine at_q (i := 14) (li := #[true, true, true, true, true, true, true, true, true, true, true, true, true, true, true]) rfl (by kernel_rfl) rfl (fun _ => (q_pick_f rfl rfl)) (by kernel_rfl) ?_ | refine at_q (i := 14) (li := #[true, true, true, true, true, true, true, true, true, true, true, true, true, true, true]) rfl (by kernel_rfl) rfl (fun _ => (q_pick rfl rfl rfl)) (by kernel_rfl) ?_
              refine at_done (by kernel_rfl) (hK41 _ _ ?_)
              clear hK41 K41
              refine cw_cond rfl (fun hc8 => ?_) (fun hc8 => ?_)
              · skip
                replace hc8 : z = e := of_decide_eq_true hc8
                rw [if_pos hc8] at hcz
                refine cw_region fun K42 hK42 => ?_
                -- region 27
                refine as_q rfl rfl (q_move rfl) ?_
                refine as_q rfl rfl (q_subx rfl rfl (by omega) (by omega)) ?_
                refine as_q rfl rfl (q_assign rfl) ?_
                refine as_nil (hK42 _ _ ?_)
                clear hK42 K42
                refine hK37 _ _ ?_
                clear hK37 K37
                refine cw_region fun K43 hK43 => ?_
                -- region 23
                refine as_q rfl rfl (q_move rfl) ?_
                refine as_q rfl rfl (q_addx rfl rfl (by omega) (by omega)) ?_
                refine as_q rfl rfl (q_assign rfl) ?_
                refine as_nil (hK43 _ _ ?_)
                clear hK43 K43
                refine ⟨_, _, ?_, (.cons rfl (.cons rfl (.cons rfl (.cons rfl (.cons rfl (.cons rfl (.cons rfl (.nil _)))))))), q + 1, _, rfl, by omega, ?_, rfl, hT, hmb, hsvb⟩
                · omega
                · rw [hcy, hcz]; omega
              · skip
                replace hc8 : z ≠ e := of_decide_eq_false hc8
                rw [if_neg hc8] at hcz
                refine cw_skip ?_
                refine hK37 _ _ ?_
                clear hK37 K37
                refine cw_region fun K44 hK44 => ?_
                -- region 23
                refine as_q rfl rfl (q_move rfl) ?_
                refine as_q rfl rfl (q_addx rfl rfl (by omega) (by omega)) ?_
                refine as_q rfl rfl (q_assign rfl) ?_
                refine as_nil (hK44 _ _ ?_)
                clear hK44 K44
                refine ⟨_, _, ?_, (.cons rfl (.cons rfl (.cons rfl (.cons rfl (.cons rfl (.cons rfl (.cons rfl (.nil _)))))))), q + 1, _, rfl, by omega, ?_, rfl, hT, hmb, hsvb⟩
                · omega
                · rw [hcy, hcz]; omega
            · skip
              replace hc7 : y ≠ e := of_decide_eq_false hc7
              rw [if_neg hc7] at hcy
              refine cw_skip ?_
              refine hK38 _ _ ?_
              clear hK38 K38
              refine cw_rd (by kernel_rfl) (by kernel_rfl) (by kernel_rfl) rfl rfl fun K45 hK45 => ?_
              -- region 26
              have hs9 := Step.drew hs7.sat
              have hz9 := hs9.size
              replace hg := hg.mono hs9.le
              replace hr := hr.mono hs9.le
              replace hmb := hmb.then hs9
              replace hsvb := hsvb.then hs9
              replace hT := hT.then hs9
              refine at_q (i := 0) (li := #[true, false, false, false, false, false, false, false, false, false, false, false, false, false, false]) rfl (by kernel_rfl) rfl (fun _ => (q_move rfl)) (by kernel_rfl) ?_
              refine at_q (i := 1) (li := #[true, true, false, false, false, false, false, false, false, false, false, false, false, false, false]) rfl (by kernel_rfl) rfl (fun _ => (q_move rfl)) (by kernel_rfl) ?_
              refine at_q (i := 2) (li := #[true, true, true, false, false, false, false, false, false, false, false, false, false, false, false]) rfl (by kernel_rfl) rfl (fun _ => (q_len (by kernel_rfl) rfl _)) (by kernel_rfl) ?_
              refine at_q (i := 3) (li := #[true, true, true, true, false, false, false, false, false, false, false, false, false, false, false]) rfl (by kernel_rfl) rfl (fun _ => (q_ltT rfl rfl (by omega))) (by kernel_rfl) ?_
              refine at_q (i := 4) (li := #[true, true, true, true, true, false, false, false, false, false, false, false, false, false, false]) rfl (by kernel_rfl) rfl (fun _ => (q_move rfl)) (by kernel_rfl) ?_
              first | refine at_gskip (i := 5) (li := #[true, true, true, true, true, true, false, false, false, false, false, false, false, false, false]) rfl (by kernel_rfl) rfl rfl rfl rfl rfl (by kernel_rfl) ?_ | refine at_gskipU (i := 5) (li := #[true, true, true, true, true, true, false, false, false, false, false, false, false, false, false]) rfl (by kernel_rfl) rfl rfl rfl rfl (by kernel_rfl) ?_ | refine at_gp (i := 5) (li := #[true, true, true, true, true, true, false, false, false, false, false, false, false, false, false]) rfl (by kernel_rfl) rfl rfl rfl rfl (fun _ => (q_move rfl)) (by kernel_rfl) ?_
              first | refine at_gskip (i := 6) (li := #[true, true, true, true, true, true, true, false, false, false, false, false, false, false, false]) rfl (by kernel_rfl) rfl rfl rfl rfl rfl (by kernel_rfl) ?_ | refine at_gskipU (i := 6) (li := #[true, true, true, true, true, true, true, false, false, false, false, false, false, false, false]) rfl (by kernel_rfl) rfl rfl rfl rfl (by kernel_rfl) ?_ | refine at_gp (i := 6) (li := #[true, true, true, true, true, true, true, false, false, false, false, false, false, false, false]) rfl (by kernel_rfl) rfl rfl rfl rfl (fun _ => (q_move rfl)) (by kernel_rfl) ?_
              first | refine at_gskip (i := 7) (li := #[true, true, true, true, true, true, true, true, false, false, false, false, false, false, false]) rfl (by kernel_rfl) rfl rfl rfl rfl rfl (by kernel_rfl) ?_ | refine at_gskipU (i := 7) (li := #[true, true, true, true, true, true, true, true, false, false, false, false, false, false, false]) rfl (by kernel_rfl) rfl rfl rfl rfl (by kernel_rfl) ?_ | refine at_gp (i := 7) (li := #[true, true, true, true, true, true, true, true, false, false, false, false, false, false, false]) rfl (by kernel_rfl) rfl rfl rfl rfl (fun _ => (q_indexAddr (e := 23) (size := 2) (by kernel_rfl) (by kernel_rfl) rfl rfl (by omega) (by omega))) (by kernel_rfl) ?_
              first | refine at_gskip (i := 8) (li := #[true, true, true, true, true, true, true, true, true, false, false, false, false, false, false]) rfl (by kernel_rfl) rfl rfl rfl rfl rfl (by kernel_rfl) ?_ | refine at_gskipU (i := 8) (li := #[true, true, true, true, true, true, true, true, true, false, false, false, false, false, false]) rfl (by kernel_rfl) rfl rfl rfl rfl (by kernel_rfl) ?_ | refine at_gq (i := 8) (li := #[true, true, true, true, true, true, true, true, true, false, false, false, false, false, false]) (cellsAre _ _ 2 _) rfl (by kernel_rfl) rfl rfl rfl rfl (fun _ h => q_loadc (n := 2) (by kernel_rfl) rfl h) ((hsvb.rd).el (j := (q : Int).toNat) (by simpa using hz)) (by kernel_rfl) ?_
              first | refine at_gskip (i := 9) (li := #[true, true, true, true, true, true, true, true, true, true, false, false, false, false, false]) rfl (by kernel_rfl) rfl rfl rfl rfl rfl (by kernel_rfl) ?_ | refine at_gskipU (i := 9) (li := #[true, true, true, true, true, true, true, true, true, true, false, false, false, false, false]) rfl (by kernel_rfl) rfl rfl rfl rfl (by kernel_rfl) ?_ | refine at_gp (i := 9) (li := #[true, true, true, true, true, true, true, true, true, true, false, false, false, false, false]) rfl (by kernel_rfl) rfl rfl rfl rfl (fun _ => (q_move rfl)) (by kernel_rfl) ?_
              first | refine at_gskip (i := 10) (li := #[true, true, true, true, true, true, true, true, true, true, true, false, false, false, false]) rfl (by kernel_rfl) rfl rfl rfl rfl rfl (by kernel_rfl) ?_ | refine at_gskipU (i := 10) (li := #[true, true, true, true, true, true, true, true, true, true, true, false, false, false, false]) rfl (by kernel_rfl) rfl rfl rfl rfl (by kernel_rfl) ?_ | refine at_gp (i := 10) (li := #[true, true, true, true, true, true, true, true, true, true, true, false, false, false, false]) rfl (by kernel_rfl) rfl rfl rfl rfl (fun _ => (q_move rfl)) (by kernel_rfl) ?_
              first | refine at_gskip (i := 11) (li := #[true, true, true, true, true, true, true, true, true, true, true, true, false, false, false]) rfl (by kernel_rfl) rfl rfl rfl rfl rfl (by kernel_rfl) ?_ | refine at_gskipU (i := 11) (li := #[true, true, true, true, true, true, true, true, true, true, true, true, false, false, false]) rfl (by kernel_rfl) rfl rfl rfl rfl (by kernel_rfl) ?_ | refine at_gp (i := 11) (li := #[true, true, true, true, true, true, true, true, true, true, true, true, false, false, false]) rfl (by kernel_rfl) rfl rfl rfl rfl (fun _ => (q_indexAddr (e := 23) (size := 2) (by kernel_rfl) (by kernel_rfl) rfl rfl (by omega) (by omega))) (by kernel_rfl) ?_
              first | refine at_gskip (i := 12) (li := #[true, true, true, true, true, true, true, true, true, true, true, true, true, false, false]) rfl (by kernel_rfl) rfl rfl rfl rfl rfl (by kernel_rfl) ?_ | refine at_gskipU (i := 12) (li := #[true, true, true, true, true, true, true, true, true, true, true, true, true, false, false]) rfl (by kernel_rfl) rfl rfl rfl rfl (by kernel_rfl) ?_ | refine at_gq (i := 12) (li := #[true, true, true, true, true, true, true, true, true, true, true, true, true, false, false]) (cellsAre _ _ 2 _) rfl (by kernel_rfl) rfl rfl rfl rfl (fun _ h => q_loadc (n := 2) (by kernel_rfl) rfl h) ((hr.rd hT.sat).el (j := (i : Int).toNat) (by simpa using he)) (by kernel_rfl) ?_
              first | refine at_gskip (i := 13) (li := #[true, true, true, true, true, true, true, true, true, true, true, true, true, true, false]) rfl (by kernel_rfl) rfl rfl rfl rfl rfl (by kernel_rfl) ?_ | refine at_gskipU (i := 13) (li := #[true, true, true, true, true, true, true, true, true, true, true, true, true, true, false]) rfl (by kernel_rfl) rfl rfl rfl rfl (by kernel_rfl) ?_ | refine at_gp (i := 13) (li := #[true, true, true, true, true, true, true, true, true, true, true, true, true, true, false]) rfl (by kernel_rfl) rfl rfl rfl rfl (fun _ => (q_eqE (a := z) (b := e) (e := 2) (by kernel_rfl) (by kernel_rfl) (by kernel_rfl) (by kernel_rfl) (by kernel_rfl) (by kernel_rfl) rfl rfl)) (by kernel_rfl) ?_
              first | refine at_q (i := 14) (li := #[true, true, true, true, true, true, true, true, true, true, true, true, true, true, true]) rfl (by kernel_rfl) rfl (fun _ => (q_pick_t rfl rfl)) (by kernel_rfl) ?_ | refine at_q (i := 14) (li := #[true, true, true, true, true, true, true, true, true, true, true, true, true, true, true]) rfl (by kernel_rfl) rfl (fun _ => (q_pick_f rfl rfl)) (by kernel_rfl) ?_ | refine at_q (i := 14) (li := #[true, true, true, true, true, true, true, true, true, true, true, true, true, true, true]) rfl (by kernel_rfl) rfl (fun _ => (q_pick rfl rfl rfl)) (by kernel_rfl) ?_
              refine at_done (by kernel_rfl) (hK45 _ _ ?_)
              clear hK45 K45
              refine cw_cond rfl (fun hc8 => ?_) (fun hc8 => ?_)
              · skip
                replace hc8 : z = e := of_decide_eq_true hc8
                rw [if_pos hc8] at hcz
                refine cw_region fun K46 hK46 => ?_
                -- region 27
                refine as_q rfl rfl (q_move rfl) ?_
                refine as_q rfl rfl (q_subx rfl rfl (by omega) (by omega)) ?_
                refine as_q rfl rfl (q_assign rfl) ?_
                refine as_nil (hK46 _ _ ?_)
                clear hK46 K46
                refine hK37 _ _ ?_
                clear hK37 K37
                refine cw_region fun K47 hK47 => ?_
                -- region 23
                refine as_q rfl rfl (q_move rfl) ?_
                refine as_q rfl rfl (q_addx rfl rfl (by omega) (by omega)) ?_
                refine as_q rfl rfl (q_assign rfl) ?_
                refine as_nil (hK47 _ _ ?_)
                clear hK47 K47
                refine ⟨_, _, ?_, (.cons rfl (.cons rfl (.cons rfl (.cons rfl (.cons rfl (.cons rfl (.cons rfl (.nil _)))))))), q + 1, _, rfl, by omega, ?_, rfl, hT, hmb, hsvb⟩
                · omega
                · rw [hcy, hcz]; omega
              · skip
                replace hc8 : z ≠ e := of_decide_eq_false hc8
                rw [if_neg hc8] at hcz
                refine cw_skip ?_
                refine hK37 _ _ ?_
                clear hK37 K37
                refine cw_region fun K48 hK48 => ?_
                -- region 23
                refine as_q rfl rfl (q_move rfl) ?_
                refine as_q rfl rfl (q_addx rfl rfl (by omega) (by omega)) ?_
                refine as_q rfl rfl (q_assign rfl) ?_
                refine as_nil (hK48 _ _ ?_)
                clear hK48 K48
                refine ⟨_, _, ?_, (.cons rfl (.cons rfl (.cons rfl (.cons rfl (.cons rfl (.cons rfl (.cons rfl (.nil _)))))))), q + 1, _, rfl, by omega, ?_, rfl, hT, hmb, hsvb⟩
                · omega
                · rw [hcy, hcz]; omega
          · skip
            have hge2 : q = n := by have := of_decide_eq_false hc6; omega
            have hcnt : c = 0 := by
              rw [hcc, hge2, List.take_of_length_le (by omega), List.take_of_length_le (by rw [srtE_length]; omega), (srtE_perm xs).count_eq]
              omega
            refine cw_exit ?_
            refine hK33 _ _ ?_
            clear hK35 K35
            clear hK33 K33
            refine cw_rs fun K49 hK49 => ?_
            -- region 28
            refine as_q rfl rfl (q_move rfl) ?_
            refine as_q rfl rfl (q_neF rfl rfl hcnt) ?_
            refine as_nil (hK49 _ _ ?_)
            clear hK49 K49
            refine cw_false rfl ?_
            refine cw_skip ?_
            refine hK31 _ _ ?_
            clear hK31 K31
            refine cw_region fun K50 hK50 => ?_
            -- region 19
            refine as_q rfl rfl (q_move rfl) ?_
            refine as_q rfl rfl (q_addx rfl rfl (by omega) (by omega)) ?_
            refine as_q rfl rfl (q_assign rfl) ?_
            refine as_nil (hK50 _ _ ?_)
            clear hK50 K50
            refine ⟨_, _, ?_, (.cons rfl (.cons rfl (.cons rfl (.cons rfl (.cons rfl (.nil _)))))), i + 1, rfl, rfl, hT, hmb, hsvb⟩
            omega
        · skip
          skip
          refine cw_exit ?_
          refine hK27 _ _ ?_
          clear hK29 K29
          clear hK27 K27
          refine cw_rs fun K51 hK51 => ?_
          -- region 30
          refine as_q rfl rfl (q_move rfl) ?_
          refine as_h rfl (h_call (by kernel_rfl) rfl ?_)
          refine (elem_sort hT.sat (hsvb.rds) (by omega)).mono ?_
          rintro s2v w10 ⟨hs10, hs2b, _⟩
          replace hg := hg.mono hs10.le
          replace hr := hr.mono hs10.le
          replace hmb := hmb.then hs10
          replace hsvb := hsvb.then hs10
          replace hT := hT.then hs10
          have hz10 := hs10.size
          obtain ⟨s2a, s2c, rfl, _, _⟩ := hs2b.slice
          refine as_q rfl rfl (q_move rfl) ?_
          refine as_h rfl (h_call (by kernel_rfl) rfl ?_)
          refine (ref_same_yes hs10.sat (by omega) (hs2b.rds) (hsvb.rds) (srtE_sorted (srtE_ord xs))).mono ?_
          rintro _ w11 ⟨rfl, hs11⟩
          replace hg := hg.mono hs11.le
          replace hr := hr.mono hs11.le
          replace hmb := hmb.then hs11
          replace hsvb := hsvb.then hs11
          replace hs2b := hs2b.then hs11
          replace hT := hT.then hs11
          have hz11 := hs11.size
          refine as_q rfl rfl (q_move rfl) ?_
          first | refine as_gskip rfl rfl rfl rfl rfl ?_ | refine as_gskipU rfl rfl rfl rfl ?_ | refine as_gh rfl rfl rfl rfl (h_q rfl (q_move rfl) ?_)
          refine as_gh rfl rfl rfl rfl (h_call (by kernel_rfl) rfl ?_)
          refine (elem_sort hs11.sat (hmb.rds) (by omega)).mono ?_
          rintro s3v w12 ⟨hs12, hs3b, _⟩
          replace hg := hg.mono hs12.le
          replace hr := hr.mono hs12.le
          replace hmb := hmb.then hs12
          replace hsvb := hsvb.then hs12
          replace hs2b := hs2b.then hs12
          replace hT := hT.then hs12
          have hz12 := hs12.size
          obtain ⟨s3a, s3c, rfl, _, _⟩ := hs3b.slice
          first | refine as_gskip rfl rfl rfl rfl rfl ?_ | refine as_gskipU rfl rfl rfl rfl ?_ | refine as_gh rfl rfl rfl rfl (h_q rfl (q_move rfl) ?_)
          refine as_gh rfl rfl rfl rfl (h_call (by kernel_rfl) rfl ?_)
          refine (ref_same_yes hs12.sat (by omega) (hs3b.rds) (hsvb.rds) (srtE_congr (rotE_perm xs k))).mono ?_
          rintro _ w13 ⟨rfl, hs13⟩
          replace hg := hg.mono hs13.le
          replace hr := hr.mono hs13.le
          replace hmb := hmb.then hs13
          replace hsvb := hsvb.then hs13
          replace hs2b := hs2b.then hs13
          replace hs3b := hs3b.then hs13
          replace hT := hT.then hs13
          have hz13 := hs13.size
          first | refine as_q rfl rfl (q_pick_t rfl rfl) ?_ | refine as_q rfl rfl (q_pick_f rfl rfl) ?_ | refine as_q rfl rfl (q_pick rfl rfl rfl) ?_
          refine as_q rfl rfl (q_move rfl) ?_
          first | refine as_gskip rfl rfl rfl rfl rfl ?_ | refine as_gskipU rfl rfl rfl rfl ?_ | refine as_gh rfl rfl rfl rfl (h_q rfl (q_move rfl) ?_)
          first | refine as_gskip rfl rfl rfl rfl rfl ?_ | refine as_gskipU rfl rfl rfl rfl ?_ | refine as_gh rfl rfl rfl rfl (h_q rfl (q_len (by kernel_rfl) rfl _) ?_)
          first | refine as_gskip rfl rfl rfl rfl rfl ?_ | refine as_gskipU rfl rfl rfl rfl ?_ | refine as_gh rfl rfl rfl rfl (h_q rfl (q_move rfl) ?_)
          first | refine as_gskip rfl rfl rfl rfl rfl ?_ | refine as_gskipU rfl rfl rfl rfl ?_ | refine as_gh rfl rfl rfl rfl (h_q rfl (q_len (by kernel_rfl) rfl _) ?_)
          first | refine as_gskip rfl rfl rfl rfl rfl ?_ | refine as_gskipU rfl rfl rfl rfl ?_ | refine as_gh rfl rfl rfl rfl (h_q rfl (q_eqT rfl rfl (by omega)) ?_) | refine as_gh rfl rfl rfl rfl (h_q rfl (q_eqF rfl rfl (by omega)) ?_) | refine as_gh rfl rfl rfl rfl (h_q rfl (q_eq rfl rfl) ?_)
          first | refine as_q rfl rfl (q_pick_t rfl rfl) ?_ | refine as_q rfl rfl (q_pick_f rfl rfl) ?_ | refine as_q rfl rfl (q_pick rfl rfl rfl) ?_
          refine as_q rfl rfl (q_assign rfl) ?_
          refine as_nil (hK51 _ _ ?_)
          clear hK51 K51
          refine cw_ret ?_
          exact ⟨_, (res_tmp rfl res_nil), rfl, hT.forget⟩

end Go.Proofs.YtbfjkclijjhlhaaDoor
