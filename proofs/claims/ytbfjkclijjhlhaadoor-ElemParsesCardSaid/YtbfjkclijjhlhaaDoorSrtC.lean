/- Go s sort of elements: what each of its functions does, part 3. -/
import Derived.Test.YtbfjkclijjhlhaaDoorSrtB
namespace Go.Proofs.YtbfjkclijjhlhaaDoor
open Go Go.Eng
theorem ss_out {d : Array El} {b i : Nat} (h : b ≤ i) : Go.Sort.scanSorted ltE d b i = i := by rw [Go.Sort.scanSorted, if_neg (by simp; omega)]
theorem ss_stop {d : Array El} {b i : Nat} (h : (!ltE d[i]! d[i - 1]!) = false) : Go.Sort.scanSorted ltE d b i = i := by rw [Go.Sort.scanSorted, if_neg (by rw [h]; simp)]
theorem ss_step {d : Array El} {b i : Nat} (h1 : i < b) (h2 : (!ltE d[i]! d[i - 1]!) = true) : Go.Sort.scanSorted ltE d b i = Go.Sort.scanSorted ltE d b (i + 1) := by
  conv => lhs; rw [Go.Sort.scanSorted]
  rw [if_pos (by rw [h2]; simp; omega)]
theorem dn_stop {d : Array El} {j : Nat} (h : (!ltE d[j]! d[j - 1]!) = true) : Go.Sort.shiftDown ltE j d = d := by
  cases j with
  | zero => rfl
  | succ k => rw [Go.Sort.shiftDown]; exact if_pos h
theorem dn_step {d : Array El} {j : Nat} (h0 : 0 < j) (h : (!ltE d[j]! d[j - 1]!) = false) : Go.Sort.shiftDown ltE j d = Go.Sort.shiftDown ltE (j - 1) (Go.Sort.swp d j (j - 1)) := by
  cases j with
  | zero => omega
  | succ k => rw [Go.Sort.shiftDown]; exact if_neg (by
    have h' : (!ltE d[k + 1]! d[k]!) = false := h
    rw [h']
    simp)
theorem up_out {d : Array El} {b j : Nat} (h : b ≤ j) : Go.Sort.shiftUp ltE b j d = d := by rw [Go.Sort.shiftUp, if_neg (by omega)]
theorem up_stop {d : Array El} {b j : Nat} (h0 : j < b) (h : (!ltE d[j]! d[j - 1]!) = true) : Go.Sort.shiftUp ltE b j d = d := by rw [Go.Sort.shiftUp, if_pos h0, if_pos h]
theorem up_step {d : Array El} {b j : Nat} (h0 : j < b) (h : (!ltE d[j]! d[j - 1]!) = false) : Go.Sort.shiftUp ltE b j d = Go.Sort.shiftUp ltE b (j + 1) (Go.Sort.swp d j (j - 1)) := by
  conv => lhs; rw [Go.Sort.shiftUp]
  rw [if_pos h0, if_neg (by rw [h]; simp)]
theorem pi_true {d : Array El} {a b s i : Nat} (h : Go.Sort.scanSorted ltE d b i = b) : Go.Sort.partialIns ltE a b (s + 1) i d = (d, true) := by
  unfold Go.Sort.partialIns
  simp only [h]
  rw [if_pos trivial]
theorem pi_false {d : Array El} {a b s i i2 : Nat} (h : Go.Sort.scanSorted ltE d b i = i2) (h1 : i2 ≠ b) (h2 : b - a < 50) : Go.Sort.partialIns ltE a b (s + 1) i d = (d, false) := by
  unfold Go.Sort.partialIns
  simp only [h]
  rw [if_neg h1, if_pos h2]
theorem pi_step {d1 d2 D U : Array El} {a b s i i2 : Nat} (h : Go.Sort.scanSorted ltE d1 b i = i2) (h1 : i2 ≠ b) (h2 : ¬ b - a < 50) (hd2 : d2 = Go.Sort.swp d1 i2 (i2 - 1))
    (hD : (if i2 - a ≥ 2 then Go.Sort.shiftDown ltE (i2 - 1) d2 else d2) = D) (hU : (if b - i2 ≥ 2 then Go.Sort.shiftUp ltE b (i2 + 1) D else D) = U) : Go.Sort.partialIns ltE a b (s + 1) i d1 = Go.Sort.partialIns ltE a b s i2 U := by
  subst hd2
  subst hD
  subst hU
  conv => lhs; unfold Go.Sort.partialIns
  simp only [h]
  rw [if_neg h1, if_neg h2]

set_option maxHeartbeats 4000000 in
theorem srt_partial {w : World} {M : Mem} {g n cap : Nat} {d : Array El} {a b : Nat} (hs : Sat M w) (hn : n ≤ 100000) (hd : ElRow 23 w M g n cap d) (hab : a < b) (hb : b ≤ n) :
    Does Tryd.prog 46 #[.slice (some ⟨g, 0, none⟩) n cap, .int .i64 a, .int .i64 b, (.func (.func 16) #[] #[])] w (fun v w' => v = .bool (Go.Sort.partialInsertionSort ltE d a b).2 ∧ Step (Just g) M w M w' ∧ ElRow 23 w' M g n cap (Go.Sort.partialInsertionSort ltE d a b).1) := by
  have hT := Step.refl (Just g) hs
  have hsz := hd.size
  refine fn_enter Tryd.func46 rfl (rs := [.tmp 8]) rfl rfl rfl rfl ?_
  refine cw_rs fun K1 hK1 => ?_
  -- region 0
  refine as_q rfl rfl (q_assign rfl) ?_
  refine as_nil (hK1 _ _ ?_)
  clear hK1 K1
  refine cw_rs fun K2 hK2 => ?_
  -- region 1
  refine as_q rfl rfl (q_move rfl) ?_
  refine as_q rfl rfl (q_congr (q_addx rfl rfl (by omega) (by omega)) (v' := .int .i64 (a + 1 : Nat)) (congrArg (Value.int .i64) (by omega))) ?_
  refine as_q rfl rfl (q_assign rfl) ?_
  refine as_nil (hK2 _ _ ?_)
  clear hK2 K2
  refine cw_seq fun K3 hK3 => ?_
  refine cw_rs fun K4 hK4 => ?_
  -- region 2
  refine as_q rfl rfl (q_assign rfl) ?_
  refine as_nil (hK4 _ _ ?_)
  clear hK4 K4
  refine cw_block ?_
  refine cw_loop (fun mm l w1 => ∃ (q i : Nat) (d1 : Array El), mm = 5 - q ∧ q ≤ 5 ∧ a + 1 ≤ i ∧ i ≤ b ∧ Go.Sort.partialIns ltE a b (5 - q) i d1 = Go.Sort.partialInsertionSort ltE d a b ∧ l = [(0, .slice (some ⟨g, 0, none⟩) n cap), (1, .int .i64 a), (2, .int .i64 b), (3, (.func (.func 16) #[] #[])), (9, .int .i64 i), (10, .int .i64 q)] ∧ Step (Just g) M w M w1 ∧ ElRow 23 w1 M g n cap d1) (5) [(0, .slice (some ⟨g, 0, none⟩) n cap), (1, .int .i64 a), (2, .int .i64 b), (3, (.func (.func 16) #[] #[])), (9, .int .i64 (a + 1 : Nat)), (10, .int .i64 (0 : Nat))] (.cons rfl (.cons rfl (.cons rfl (.cons rfl (.cons rfl (.cons rfl (.nil _))))))) ?_ ?_
  · skip
    exact ⟨0, a + 1, d, rfl, by omega, by omega, by omega, rfl, rfl, hT, hd⟩
  clear hT hd
  rintro mm l w1 ⟨q, i, d1, rfl, hq, hai, hib0, hpi, rfl, hT, hd⟩
  refine cw_seq fun K5 hK5 => ?_
  refine cw_rs fun K6 hK6 => ?_
  -- region 3
  refine as_q rfl rfl (q_move rfl) ?_
  first | refine as_q rfl rfl (q_ltT rfl rfl (by omega)) ?_ | refine as_q rfl rfl (q_ltF rfl rfl (by omega)) ?_ | refine as_q rfl rfl (q_lt rfl rfl) ?_
  refine as_nil (hK6 _ _ ?_)
  clear hK6 K6
  refine cw_cond rfl (fun hc0 => ?_) (fun hc0 => ?_)
  · skip
    have hq5 : q < 5 := by have := of_decide_eq_true hc0; omega
    obtain ⟨s, hs5⟩ : ∃ s, 5 - q = s + 1 := ⟨4 - q, by omega⟩
    rw [hs5] at hpi
    refine cw_skip ?_
    refine hK5 _ _ ?_
    clear hK5 K5
    refine cw_seq fun K7 hK7 => ?_
    refine cw_block ?_
    refine cw_seq fun K8 hK8 => ?_
    refine cw_block ?_
    refine cw_loop (fun mm l w1 => ∃ qi : Nat, mm = b - qi ∧ i ≤ qi ∧ qi ≤ b ∧ Go.Sort.scanSorted ltE d1 b qi = Go.Sort.scanSorted ltE d1 b i ∧ l = [(0, .slice (some ⟨g, 0, none⟩) n cap), (1, .int .i64 a), (2, .int .i64 b), (3, (.func (.func 16) #[] #[])), (9, .int .i64 qi), (10, .int .i64 q)] ∧ Step (Just g) M w M w1 ∧ ElRow 23 w1 M g n cap d1) (b - i) [(0, .slice (some ⟨g, 0, none⟩) n cap), (1, .int .i64 a), (2, .int .i64 b), (3, (.func (.func 16) #[] #[])), (9, .int .i64 i), (10, .int .i64 q)] (.cons rfl (.cons rfl (.cons rfl (.cons rfl (.cons rfl (.cons rfl (.nil _))))))) ?_ ?_
    · skip
      exact ⟨i, rfl, Nat.le_refl _, hib0, rfl, rfl, hT, hd⟩
    clear hT hd
    rintro mm l w1 ⟨i2, rfl, hi2a, hi2b, hi2e, rfl, hT, hd⟩
    refine cw_seq fun K9 hK9 => ?_
    have hcu : b ≤ i2 ∨ i2 < b := by omega
    rcases hcu with hcu | hcu
    · skip
      refine cw_rd (by kernel_rfl) (by kernel_rfl) (by kernel_rfl) rfl rfl fun K10 hK10 => ?_
      -- region 5
      have hs1 := Step.drew hT.sat
      replace hd := hd.then hs1
      replace hT := hT.then hs1
      refine at_q (i := 0) (li := #[true, false, false, false, false, false, false, false, false, false, false, false, false, false, false, false, false, false]) rfl (by kernel_rfl) rfl (fun _ => (q_move rfl)) (by kernel_rfl) ?_
      refine at_q (i := 1) (li := #[true, true, false, false, false, false, false, false, false, false, false, false, false, false, false, false, false, false]) rfl (by kernel_rfl) rfl (fun _ => (q_move rfl)) (by kernel_rfl) ?_
      first | refine at_q (i := 2) (li := #[true, true, true, false, false, false, false, false, false, false, false, false, false, false, false, false, false, false]) rfl (by kernel_rfl) rfl (fun _ => (q_ltT rfl rfl (by omega))) (by kernel_rfl) ?_ | refine at_q (i := 2) (li := #[true, true, true, false, false, false, false, false, false, false, false, false, false, false, false, false, false, false]) rfl (by kernel_rfl) rfl (fun _ => (q_ltF rfl rfl (by omega))) (by kernel_rfl) ?_ | refine at_q (i := 2) (li := #[true, true, true, false, false, false, false, false, false, false, false, false, false, false, false, false, false, false]) rfl (by kernel_rfl) rfl (fun _ => (q_lt rfl rfl)) (by kernel_rfl) ?_
      refine at_q (i := 3) (li := #[true, true, true, true, false, false, false, false, false, false, false, false, false, false, false, false, false, false]) rfl (by kernel_rfl) rfl (fun _ => (q_move rfl)) (by kernel_rfl) ?_
      first | refine at_gskip (i := 4) (li := #[true, true, true, true, true, false, false, false, false, false, false, false, false, false, false, false, false, false]) rfl (by kernel_rfl) rfl rfl rfl rfl rfl (by kernel_rfl) ?_ | refine at_gskipU (i := 4) (li := #[true, true, true, true, true, false, false, false, false, false, false, false, false, false, false, false, false, false]) rfl (by kernel_rfl) rfl rfl rfl rfl (by kernel_rfl) ?_ | refine at_gp (i := 4) (li := #[true, true, true, true, true, false, false, false, false, false, false, false, false, false, false, false, false, false]) rfl (by kernel_rfl) rfl rfl rfl rfl (fun _ => (q_move rfl)) (by kernel_rfl) ?_
      first | refine at_gskip (i := 5) (li := #[true, true, true, true, true, true, false, false, false, false, false, false, false, false, false, false, false, false]) rfl (by kernel_rfl) rfl rfl rfl rfl rfl (by kernel_rfl) ?_ | refine at_gskipU (i := 5) (li := #[true, true, true, true, true, true, false, false, false, false, false, false, false, false, false, false, false, false]) rfl (by kernel_rfl) rfl rfl rfl rfl (by kernel_rfl) ?_ | refine at_gp (i := 5) (li := #[true, true, true, true, true, true, false, false, false, false, false, false, false, false, false, false, false, false]) rfl (by kernel_rfl) rfl rfl rfl rfl (fun _ => (q_move rfl)) (by kernel_rfl) ?_
      first | refine at_gskip (i := 6) (li := #[true, true, true, true, true, true, true, false, false, false, false, false, false, false, false, false, false, false]) rfl (by kernel_rfl) rfl rfl rfl rfl rfl (by kernel_rfl) ?_ | refine at_gskipU (i := 6) (li := #[true, true, true, true, true, true, true, false, false, false, false, false, false, false, false, false, false, false]) rfl (by kernel_rfl) rfl rfl rfl rfl (by kernel_rfl) ?_ | refine at_gp (i := 6) (li := #[true, true, true, true, true, true, true, false, false, false, false, false, false, false, false, false, false, false]) rfl (by kernel_rfl) rfl rfl rfl rfl (fun _ => (q_move rfl)) (by kernel_rfl) ?_
      first | refine at_gskip (i := 7) (li := #[true, true, true, true, true, true, true, true, false, false, false, false, false, false, false, false, false, false]) rfl (by kernel_rfl) rfl rfl rfl rfl rfl (by kernel_rfl) ?_ | refine at_gskipU (i := 7) (li := #[true, true, true, true, true, true, true, true, false, false, false, false, false, false, false, false, false, false]) rfl (by kernel_rfl) rfl rfl rfl rfl (by kernel_rfl) ?_ | refine at_gp (i := 7) (li := #[true, true, true, true, true, true, true, true, false, false, false, false, false, false, false, false, false, false]) rfl (by kernel_rfl) rfl rfl rfl rfl (fun _ => (q_indexAddr (e := 23) (size := 2) (by kernel_rfl) (by kernel_rfl) rfl rfl (by omega) (by omega))) (by kernel_rfl) ?_
      first | refine at_gskip (i := 8) (li := #[true, true, true, true, true, true, true, true, true, false, false, false, false, false, false, false, false, false]) rfl (by kernel_rfl) rfl rfl rfl rfl rfl (by kernel_rfl) ?_ | refine at_gskipU (i := 8) (li := #[true, true, true, true, true, true, true, true, true, false, false, false, false, false, false, false, false, false]) rfl (by kernel_rfl) rfl rfl rfl rfl (by kernel_rfl) ?_ | refine at_gq (i := 8) (li := #[true, true, true, true, true, true, true, true, true, false, false, false, false, false, false, false, false, false]) (cellsAre _ _ 2 _) rfl (by kernel_rfl) rfl rfl rfl rfl (fun _ h => q_loadc (n := 2) (by kernel_rfl) rfl h) (hd.elem (i := ((i2 : Nat) : Int)) (by omega) (by omega)) (by kernel_rfl) ?_
      first | refine at_gskip (i := 9) (li := #[true, true, true, true, true, true, true, true, true, true, false, false, false, false, false, false, false, false]) rfl (by kernel_rfl) rfl rfl rfl rfl rfl (by kernel_rfl) ?_ | refine at_gskipU (i := 9) (li := #[true, true, true, true, true, true, true, true, true, true, false, false, false, false, false, false, false, false]) rfl (by kernel_rfl) rfl rfl rfl rfl (by kernel_rfl) ?_ | refine at_gp (i := 9) (li := #[true, true, true, true, true, true, true, true, true, true, false, false, false, false, false, false, false, false]) rfl (by kernel_rfl) rfl rfl rfl rfl (fun _ => (q_move rfl)) (by kernel_rfl) ?_
      first | refine at_gskip (i := 10) (li := #[true, true, true, true, true, true, true, true, true, true, true, false, false, false, false, false, false, false]) rfl (by kernel_rfl) rfl rfl rfl rfl rfl (by kernel_rfl) ?_ | refine at_gskipU (i := 10) (li := #[true, true, true, true, true, true, true, true, true, true, true, false, false, false, false, false, false, false]) rfl (by kernel_rfl) rfl rfl rfl rfl (by kernel_rfl) ?_ | refine at_gp (i := 10) (li := #[true, true, true, true, true, true, true, true, true, true, true, false, false, false, false, false, false, false]) rfl (by kernel_rfl) rfl rfl rfl rfl (fun _ => (q_move rfl)) (by kernel_rfl) ?_
      first | refine at_gskip (i := 11) (li := #[true, true, true, true, true, true, true, true, true, true, true, true, false, false, false, false, false, false]) rfl (by kernel_rfl) rfl rfl rfl rfl rfl (by kernel_rfl) ?_ | refine at_gskipU (i := 11) (li := #[true, true, true, true, true, true, true, true, true, true, true, true, false, false, false, false, false, false]) rfl (by kernel_rfl) rfl rfl rfl rfl (by kernel_rfl) ?_ | refine at_gp (i := 11) (li := #[true, true, true, true, true, true, true, true, true, true, true, true, false, false, false, false, false, false]) rfl (by kernel_rfl) rfl rfl rfl rfl (fun _ => (q_congr (q_subx rfl rfl (by omega) (by omega)) (v' := .int .i64 (i2 - 1 : Nat)) (congrArg (Value.int .i64) (by omega)))) (by kernel_rfl) ?_
      first | refine at_gskip (i := 12) (li := #[true, true, true, true, true, true, true, true, true, true, true, true, true, false, false, false, false, false]) rfl (by kernel_rfl) rfl rfl rfl rfl rfl (by kernel_rfl) ?_ | refine at_gskipU (i := 12) (li := #[true, true, true, true, true, true, true, true, true, true, true, true, true, false, false, false, false, false]) rfl (by kernel_rfl) rfl rfl rfl rfl (by kernel_rfl) ?_ | refine at_gp (i := 12) (li := #[true, true, true, true, true, true, true, true, true, true, true, true, true, false, false, false, false, false]) rfl (by kernel_rfl) rfl rfl rfl rfl (fun _ => (q_indexAddr (e := 23) (size := 2) (by kernel_rfl) (by kernel_rfl) rfl rfl (by omega) (by omega))) (by kernel_rfl) ?_
      first | refine at_gskip (i := 13) (li := #[true, true, true, true, true, true, true, true, true, true, true, true, true, true, false, false, false, false]) rfl (by kernel_rfl) rfl rfl rfl rfl rfl (by kernel_rfl) ?_ | refine at_gskipU (i := 13) (li := #[true, true, true, true, true, true, true, true, true, true, true, true, true, true, false, false, false, false]) rfl (by kernel_rfl) rfl rfl rfl rfl (by kernel_rfl) ?_ | refine at_gq (i := 13) (li := #[true, true, true, true, true, true, true, true, true, true, true, true, true, true, false, false, false, false]) (cellsAre _ _ 2 _) rfl (by kernel_rfl) rfl rfl rfl rfl (fun _ h => q_loadc (n := 2) (by kernel_rfl) rfl h) (hd.elem (i := ((i2 - 1 : Nat) : Int)) (by omega) (by omega)) (by kernel_rfl) ?_
      first | refine at_gskip (i := 14) (li := #[true, true, true, true, true, true, true, true, true, true, true, true, true, true, true, false, false, false]) rfl (by kernel_rfl) rfl rfl rfl rfl rfl (by kernel_rfl) ?_ | refine at_gskipU (i := 14) (li := #[true, true, true, true, true, true, true, true, true, true, true, true, true, true, true, false, false, false]) rfl (by kernel_rfl) rfl rfl rfl rfl (by kernel_rfl) ?_
      first | refine at_gskip (i := 15) (li := #[true, true, true, true, true, true, true, true, true, true, true, true, true, true, true, true, false, false]) rfl (by kernel_rfl) rfl rfl rfl rfl rfl (by kernel_rfl) ?_ | refine at_gskipU (i := 15) (li := #[true, true, true, true, true, true, true, true, true, true, true, true, true, true, true, true, false, false]) rfl (by kernel_rfl) rfl rfl rfl rfl (by kernel_rfl) ?_ | refine at_gp (i := 15) (li := #[true, true, true, true, true, true, true, true, true, true, true, true, true, true, true, true, false, false]) rfl (by kernel_rfl) rfl rfl rfl rfl (fun _ => (q_ltT rfl rfl (by omega))) (by kernel_rfl) ?_ | refine at_gp (i := 15) (li := #[true, true, true, true, true, true, true, true, true, true, true, true, true, true, true, true, false, false]) rfl (by kernel_rfl) rfl rfl rfl rfl (fun _ => (q_ltF rfl rfl (by omega))) (by kernel_rfl) ?_ | refine at_gp (i := 15) (li := #[true, true, true, true, true, true, true, true, true, true, true, true, true, true, true, true, false, false]) rfl (by kernel_rfl) rfl rfl rfl rfl (fun _ => (q_lt rfl rfl)) (by kernel_rfl) ?_
      first | refine at_gskip (i := 16) (li := #[true, true, true, true, true, true, true, true, true, true, true, true, true, true, true, true, true, false]) rfl (by kernel_rfl) rfl rfl rfl rfl rfl (by kernel_rfl) ?_ | refine at_gskipU (i := 16) (li := #[true, true, true, true, true, true, true, true, true, true, true, true, true, true, true, true, true, false]) rfl (by kernel_rfl) rfl rfl rfl rfl (by kernel_rfl) ?_ | refine at_gp (i := 16) (li := #[true, true, true, true, true, true, true, true, true, true, true, true, true, true, true, true, true, false]) rfl (by kernel_rfl) rfl rfl rfl rfl (fun _ => (q_not rfl)) (by kernel_rfl) ?_
      first | refine at_q (i := 17) (li := #[true, true, true, true, true, true, true, true, true, true, true, true, true, true, true, true, true, true]) rfl (by kernel_rfl) rfl (fun _ => (q_pick_t rfl rfl)) (by kernel_rfl) ?_ | refine at_q (i := 17) (li := #[true, true, true, true, true, true, true, true, true, true, true, true, true, true, true, true, true, true]) rfl (by kernel_rfl) rfl (fun _ => (q_pick_f rfl rfl)) (by kernel_rfl) ?_ | refine at_q (i := 17) (li := #[true, true, true, true, true, true, true, true, true, true, true, true, true, true, true, true, true, true]) rfl (by kernel_rfl) rfl (fun _ => (q_pick rfl rfl rfl)) (by kernel_rfl) ?_
      refine at_done (by kernel_rfl) (hK10 _ _ ?_)
      clear hK10 K10
      have hss : Go.Sort.scanSorted ltE d1 b i = i2 := hi2e.symm.trans (ss_out hcu)
      refine cw_false rfl ?_
      refine cw_exit ?_
      refine hK8 _ _ ?_
      clear hK9 K9
      clear hK8 K8
      refine cw_seq fun K11 hK11 => ?_
      refine cw_rs fun K12 hK12 => ?_
      -- region 7
      refine as_q rfl rfl (q_move rfl) ?_
      refine as_q rfl rfl (q_move rfl) ?_
      first | refine as_q rfl rfl (q_eqT rfl rfl (by omega)) ?_ | refine as_q rfl rfl (q_eqF rfl rfl (by omega)) ?_ | refine as_q rfl rfl (q_eq rfl rfl) ?_
      refine as_nil (hK12 _ _ ?_)
      clear hK12 K12
      have hib : i2 = b := by omega
      refine cw_true rfl ?_
      refine cw_rs fun K13 hK13 => ?_
      -- region 8
      refine as_q rfl rfl (q_assign rfl) ?_
      refine as_nil (hK13 _ _ ?_)
      clear hK13 K13
      refine cw_ret ?_
      rw [hib] at hss
      rw [pi_true hss] at hpi
      rw [← hpi]
      exact ⟨_, (res_tmp rfl res_nil), rfl, hT, hd⟩
    · skip
      refine cw_rd (by kernel_rfl) (by kernel_rfl) (by kernel_rfl) rfl rfl fun K14 hK14 => ?_
      -- region 5
      have hs2 := Step.drew hT.sat
      replace hd := hd.then hs2
      replace hT := hT.then hs2
      refine at_q (i := 0) (li := #[true, false, false, false, false, false, false, false, false, false, false, false, false, false, false, false, false, false]) rfl (by kernel_rfl) rfl (fun _ => (q_move rfl)) (by kernel_rfl) ?_
      refine at_q (i := 1) (li := #[true, true, false, false, false, false, false, false, false, false, false, false, false, false, false, false, false, false]) rfl (by kernel_rfl) rfl (fun _ => (q_move rfl)) (by kernel_rfl) ?_
      first | refine at_q (i := 2) (li := #[true, true, true, false, false, false, false, false, false, false, false, false, false, false, false, false, false, false]) rfl (by kernel_rfl) rfl (fun _ => (q_ltT rfl rfl (by omega))) (by kernel_rfl) ?_ | refine at_q (i := 2) (li := #[true, true, true, false, false, false, false, false, false, false, false, false, false, false, false, false, false, false]) rfl (by kernel_rfl) rfl (fun _ => (q_ltF rfl rfl (by omega))) (by kernel_rfl) ?_ | refine at_q (i := 2) (li := #[true, true, true, false, false, false, false, false, false, false, false, false, false, false, false, false, false, false]) rfl (by kernel_rfl) rfl (fun _ => (q_lt rfl rfl)) (by kernel_rfl) ?_
      refine at_q (i := 3) (li := #[true, true, true, true, false, false, false, false, false, false, false, false, false, false, false, false, false, false]) rfl (by kernel_rfl) rfl (fun _ => (q_move rfl)) (by kernel_rfl) ?_
      first | refine at_gskip (i := 4) (li := #[true, true, true, true, true, false, false, false, false, false, false, false, false, false, false, false, false, false]) rfl (by kernel_rfl) rfl rfl rfl rfl rfl (by kernel_rfl) ?_ | refine at_gskipU (i := 4) (li := #[true, true, true, true, true, false, false, false, false, false, false, false, false, false, false, false, false, false]) rfl (by kernel_rfl) rfl rfl rfl rfl (by kernel_rfl) ?_ | refine at_gp (i := 4) (li := #[true, true, true, true, true, false, false, false, false, false, false, false, false, false, false, false, false, false]) rfl (by kernel_rfl) rfl rfl rfl rfl (fun _ => (q_move rfl)) (by kernel_rfl) ?_
      first | refine at_gskip (i := 5) (li := #[true, true, true, true, true, true, false, false, false, false, false, false, false, false, false, false, false, false]) rfl (by kernel_rfl) rfl rfl rfl rfl rfl (by kernel_rfl) ?_ | refine at_gskipU (i := 5) (li := #[true, true, true, true, true, true, false, false, false, false, false, false, false, false, false, false, false, false]) rfl (by kernel_rfl) rfl rfl rfl rfl (by kernel_rfl) ?_ | refine at_gp (i := 5) (li := #[true, true, true, true, true, true, false, false, false, false, false, false, false, false, false, false, false, false]) rfl (by kernel_rfl) rfl rfl rfl rfl (fun _ => (q_move rfl)) (by kernel_rfl) ?_
      first | refine at_gskip (i := 6) (li := #[true, true, true, true, true, true, true, false, false, false, false, false, false, false, false, false, false, false]) rfl (by kernel_rfl) rfl rfl rfl rfl rfl (by kernel_rfl) ?_ | refine at_gskipU (i := 6) (li := #[true, true, true, true, true, true, true, false, false, false, false, false, false, false, false, false, false, false]) rfl (by kernel_rfl) rfl rfl rfl rfl (by kernel_rfl) ?_ | refine at_gp (i := 6) (li := #[true, true, true, true, true, true, true, false, false, false, false, false, false, false, false, false, false, false]) rfl (by kernel_rfl) rfl rfl rfl rfl (fun _ => (q_move rfl)) (by kernel_rfl) ?_
      first | refine at_gskip (i := 7) (li := #[true, true, true, true, true, true, true, true, false, false, false, false, false, false, false, false, false, false]) rfl (by kernel_rfl) rfl rfl rfl rfl rfl (by kernel_rfl) ?_ | refine at_gskipU (i := 7) (li := #[true, true, true, true, true, true, true, true, false, false, false, false, false, false, false, false, false, false]) rfl (by kernel_rfl) rfl rfl rfl rfl (by kernel_rfl) ?_ | refine at_gp (i := 7) (li := #[true, true, true, true, true, true, true, true, false, false, false, false, false, false, false, false, false, false]) rfl (by kernel_rfl) rfl rfl rfl rfl (fun _ => (q_indexAddr (e := 23) (size := 2) (by kernel_rfl) (by kernel_rfl) rfl rfl (by omega) (by omega))) (by kernel_rfl) ?_
      first | refine at_gskip (i := 8) (li := #[true, true, true, true, true, true, true, true, true, false, false, false, false, false, false, false, false, false]) rfl (by kernel_rfl) rfl rfl rfl rfl rfl (by kernel_rfl) ?_ | refine at_gskipU (i := 8) (li := #[true, true, true, true, true, true, true, true, true, false, false, false, false, false, false, false, false, false]) rfl (by kernel_rfl) rfl rfl rfl rfl (by kernel_rfl) ?_ | refine at_gq (i := 8) (li := #[true, true, true, true, true, true, true, true, true, false, false, false, false, false, false, false, false, false]) (cellsAre _ _ 2 _) rfl (by kernel_rfl) rfl rfl rfl rfl (fun _ h => q_loadc (n := 2) (by kernel_rfl) rfl h) (hd.elem (i := ((i2 : Nat) : Int)) (by omega) (by omega)) (by kernel_rfl) ?_
      first | refine at_gskip (i := 9) (li := #[true, true, true, true, true, true, true, true, true, true, false, false, false, false, false, false, false, false]) rfl (by kernel_rfl) rfl rfl rfl rfl rfl (by kernel_rfl) ?_ | refine at_gskipU (i := 9) (li := #[true, true, true, true, true, true, true, true, true, true, false, false, false, false, false, false, false, false]) rfl (by kernel_rfl) rfl rfl rfl rfl (by kernel_rfl) ?_ | refine at_gp (i := 9) (li := #[true, true, true, true, true, true, true, true, true, true, false, false, false, false, false, false, false, false]) rfl (by kernel_rfl) rfl rfl rfl rfl (fun _ => (q_move rfl)) (by kernel_rfl) ?_
      first | refine at_gskip (i := 10) (li := #[true, true, true, true, true, true, true, true, true, true, true, false, false, false, false, false, false, false]) rfl (by kernel_rfl) rfl rfl rfl rfl rfl (by kernel_rfl) ?_ | refine at_gskipU (i := 10) (li := #[true, true, true, true, true, true, true, true, true, true, true, false, false, false, false, false, false, false]) rfl (by kernel_rfl) rfl rfl rfl rfl (by kernel_rfl) ?_ | refine at_gp (i := 10) (li := #[true, true, true, true, true, true, true, true, true, true, true, false, false, false, false, false, false, false]) rfl (by kernel_rfl) rfl rfl rfl rfl (fun _ => (q_move rfl)) (by kernel_rfl) ?_
      first | refine at_gskip (i := 11) (li := #[true, true, true, true, true, true, true, true, true, true, true, true, false, false, false, false, false, false]) rfl (by kernel_rfl) rfl rfl rfl rfl rfl (by kernel_rfl) ?_ | refine at_gskipU (i := 11) (li := #[true, true, true, true, true, true, true, true, true, true, true, true, false, false, false, false, false, false]) rfl (by kernel_rfl) rfl rfl rfl rfl (by kernel_rfl) ?_ | refine at_gp (i := 11) (li := #[true, true, true, true, true, true, true, true, true, true, true, true, false, false, false, false, false, false]) rfl (by kernel_rfl) rfl rfl rfl rfl (fun _ => (q_congr (q_subx rfl rfl (by omega) (by omega)) (v' := .int .i64 (i2 - 1 : Nat)) (congrArg (Value.int .i64) (by omega)))) (by kernel_rfl) ?_
      first | refine at_gskip (i := 12) (li := #[true, true, true, true, true, true, true, true, true, true, true, true, true, false, false, false, false, false]) rfl (by kernel_rfl) rfl rfl rfl rfl rfl (by kernel_rfl) ?_ | refine at_gskipU (i := 12) (li := #[true, true, true, true, true, true, true, true, true, true, true, true, true, false, false, false, false, false]) rfl (by kernel_rfl) rfl rfl rfl rfl (by kernel_rfl) ?_ | refine at_gp (i := 12) (li := #[true, true, true, true, true, true, true, true, true, true, true, true, true, false, false, false, false, false]) rfl (by kernel_rfl) rfl rfl rfl rfl (fun _ => (q_indexAddr (e := 23) (size := 2) (by kernel_rfl) (by kernel_rfl) rfl rfl (by omega) (by omega))) (by kernel_rfl) ?_
      first | refine at_gskip (i := 13) (li := #[true, true, true, true, true, true, true, true, true, true, true, true, true, true, false, false, false, false]) rfl (by kernel_rfl) rfl rfl rfl rfl rfl (by kernel_rfl) ?_ | refine at_gskipU (i := 13) (li := #[true, true, true, true, true, true, true, true, true, true, true, true, true, true, false, false, false, false]) rfl (by kernel_rfl) rfl rfl rfl rfl (by kernel_rfl) ?_ | refine at_gq (i := 13) (li := #[true, true, true, true, true, true, true, true, true, true, true, true, true, true, false, false, false, false]) (cellsAre _ _ 2 _) rfl (by kernel_rfl) rfl rfl rfl rfl (fun _ h => q_loadc (n := 2) (by kernel_rfl) rfl h) (hd.elem (i := ((i2 - 1 : Nat) : Int)) (by omega) (by omega)) (by kernel_rfl) ?_
      refine at_gh (i := 14) (li := #[true, true, true, true, true, true, true, true, true, true, true, true, true, true, true, false, false, false]) rfl (by kernel_rfl) rfl rfl rfl rfl rfl (by kernel_rfl) (h_callv (f := 16) (first := []) (cap := []) (by kernel_rfl) rfl rfl rfl ?_)
      refine (srt_compare (a := d1[((i2 : Nat) : Int).toNat]!) (b := d1[((i2 - 1 : Nat) : Int).toNat]!) hs2.sat).mono ?_
      rintro _ w3 ⟨rfl, hs3⟩
      replace hd := hd.then hs3
      replace hT := hT.then hs3
      refine ⟨(by repeat' first | exact trivial | exact (hd.elem (i := ((i2 : Nat) : Int)) (by omega) (by omega)) | exact (hd.elem (i := ((i2 - 1 : Nat) : Int)) (by omega) (by omega)) | assumption | refine all_keep ?_ | refine And.intro ?_ ?_), ?_⟩
      first | refine at_gskip (i := 15) (li := #[true, true, true, true, true, true, true, true, true, true, true, true, true, true, true, true, false, false]) rfl (by kernel_rfl) rfl rfl rfl rfl rfl (by kernel_rfl) ?_ | refine at_gskipU (i := 15) (li := #[true, true, true, true, true, true, true, true, true, true, true, true, true, true, true, true, false, false]) rfl (by kernel_rfl) rfl rfl rfl rfl (by kernel_rfl) ?_ | refine at_gp (i := 15) (li := #[true, true, true, true, true, true, true, true, true, true, true, true, true, true, true, true, false, false]) rfl (by kernel_rfl) rfl rfl rfl rfl (fun _ => (q_ltT rfl rfl (by omega))) (by kernel_rfl) ?_ | refine at_gp (i := 15) (li := #[true, true, true, true, true, true, true, true, true, true, true, true, true, true, true, true, false, false]) rfl (by kernel_rfl) rfl rfl rfl rfl (fun _ => (q_ltF rfl rfl (by omega))) (by kernel_rfl) ?_ | refine at_gp (i := 15) (li := #[true, true, true, true, true, true, true, true, true, true, true, true, true, true, true, true, false, false]) rfl (by kernel_rfl) rfl rfl rfl rfl (fun _ => (q_lt rfl rfl)) (by kernel_rfl) ?_
      first | refine at_gskip (i := 16) (li := #[true, true, true, true, true, true, true, true, true, true, true, true, true, true, true, true, true, false]) rfl (by kernel_rfl) rfl rfl rfl rfl rfl (by kernel_rfl) ?_ | refine at_gskipU (i := 16) (li := #[true, true, true, true, true, true, true, true, true, true, true, true, true, true, true, true, true, false]) rfl (by kernel_rfl) rfl rfl rfl rfl (by kernel_rfl) ?_ | refine at_gp (i := 16) (li := #[true, true, true, true, true, true, true, true, true, true, true, true, true, true, true, true, true, false]) rfl (by kernel_rfl) rfl rfl rfl rfl (fun _ => (q_not rfl)) (by kernel_rfl) ?_
      first | refine at_q (i := 17) (li := #[true, true, true, true, true, true, true, true, true, true, true, true, true, true, true, true, true, true]) rfl (by kernel_rfl) rfl (fun _ => (q_pick_t rfl rfl)) (by kernel_rfl) ?_ | refine at_q (i := 17) (li := #[true, true, true, true, true, true, true, true, true, true, true, true, true, true, true, true, true, true]) rfl (by kernel_rfl) rfl (fun _ => (q_pick_f rfl rfl)) (by kernel_rfl) ?_ | refine at_q (i := 17) (li := #[true, true, true, true, true, true, true, true, true, true, true, true, true, true, true, true, true, true]) rfl (by kernel_rfl) rfl (fun _ => (q_pick rfl rfl rfl)) (by kernel_rfl) ?_
      refine at_done (by kernel_rfl) (hK14 _ _ ?_)
      clear hK14 K14
      refine cw_cond rfl (fun hc1 => ?_) (fun hc1 => ?_)
      · skip
        have hl : (!ltE d1[i2]! d1[i2 - 1]!) = true := hc1
        refine cw_skip ?_
        refine hK9 _ _ ?_
        clear hK9 K9
        refine cw_block ?_
        refine cw_region fun K15 hK15 => ?_
        -- region 6
        refine as_q rfl rfl (q_move rfl) ?_
        refine as_q rfl rfl (q_congr (q_addx rfl rfl (by omega) (by omega)) (v' := .int .i64 (i2 + 1 : Nat)) (congrArg (Value.int .i64) (by omega))) ?_
        refine as_q rfl rfl (q_assign rfl) ?_
        refine as_nil (hK15 _ _ ?_)
        clear hK15 K15
        exact ⟨_, _, by omega, (.cons rfl (.cons rfl (.cons rfl (.cons rfl (.cons rfl (.cons rfl (.nil _))))))), i2 + 1, rfl, by omega, by omega, (ss_step hcu hl).symm.trans hi2e, rfl, hT, hd⟩
      · skip
        have hl : (!ltE d1[i2]! d1[i2 - 1]!) = false := hc1
        have hss : Go.Sort.scanSorted ltE d1 b i = i2 := hi2e.symm.trans (ss_stop hl)
        refine cw_exit ?_
        refine hK8 _ _ ?_
        clear hK9 K9
        clear hK8 K8
        refine cw_seq fun K16 hK16 => ?_
        refine cw_rs fun K17 hK17 => ?_
        -- region 7
        refine as_q rfl rfl (q_move rfl) ?_
        refine as_q rfl rfl (q_move rfl) ?_
        first | refine as_q rfl rfl (q_eqT rfl rfl (by omega)) ?_ | refine as_q rfl rfl (q_eqF rfl rfl (by omega)) ?_ | refine as_q rfl rfl (q_eq rfl rfl) ?_
        refine as_nil (hK17 _ _ ?_)
        clear hK17 K17
        have hib : i2 ≠ b := by omega
        refine cw_false rfl ?_
        refine cw_skip ?_
        refine hK16 _ _ ?_
        clear hK16 K16
        refine cw_seq fun K18 hK18 => ?_
        refine cw_rs fun K19 hK19 => ?_
        -- region 9
        refine as_q rfl rfl (q_move rfl) ?_
        refine as_q rfl rfl (q_move rfl) ?_
        refine as_q rfl rfl (q_congr (q_subx rfl rfl (by omega) (by omega)) (v' := .int .i64 (b - a : Nat)) (congrArg (Value.int .i64) (by omega))) ?_
        refine as_q rfl rfl (q_lt rfl rfl) ?_
        refine as_nil (hK19 _ _ ?_)
        clear hK19 K19
        refine cw_cond rfl (fun hc3 => ?_) (fun hc3 => ?_)
        · skip
          have h50 : b - a < 50 := by have := of_decide_eq_true hc3; omega
          refine cw_rs fun K20 hK20 => ?_
          -- region 10
          refine as_q rfl rfl (q_assign rfl) ?_
          refine as_nil (hK20 _ _ ?_)
          clear hK20 K20
          refine cw_ret ?_
          rw [pi_false hss hib h50] at hpi
          rw [← hpi]
          exact ⟨_, (res_tmp rfl res_nil), rfl, hT, hd⟩
        · skip
          have h50 : ¬ b - a < 50 := by have := of_decide_eq_false hc3; omega
          refine cw_skip ?_
          refine hK18 _ _ ?_
          clear hK18 K18
          refine cw_rd (by kernel_rfl) (by kernel_rfl) (by kernel_rfl) rfl rfl fun K21 hK21 => ?_
          -- region 11
          have hs4 := Step.drew hs3.sat
          replace hd := hd.then hs4
          replace hT := hT.then hs4
          refine at_q (i := 0) (li := #[true, false, false, false, false, false, false, false, false, false, false, false, false, false, false, false, false, false]) rfl (by kernel_rfl) rfl (fun _ => (q_move rfl)) (by kernel_rfl) ?_
          refine at_q (i := 1) (li := #[true, true, false, false, false, false, false, false, false, false, false, false, false, false, false, false, false, false]) rfl (by kernel_rfl) rfl (fun _ => (q_move rfl)) (by kernel_rfl) ?_
          refine at_q (i := 2) (li := #[true, true, true, false, false, false, false, false, false, false, false, false, false, false, false, false, false, false]) rfl (by kernel_rfl) rfl (fun _ => (q_move rfl)) (by kernel_rfl) ?_
          refine at_q (i := 3) (li := #[true, true, true, true, false, false, false, false, false, false, false, false, false, false, false, false, false, false]) rfl (by kernel_rfl) rfl (fun _ => (q_move rfl)) (by kernel_rfl) ?_
          refine at_q (i := 4) (li := #[true, true, true, true, true, false, false, false, false, false, false, false, false, false, false, false, false, false]) rfl (by kernel_rfl) rfl (fun _ => (q_congr (q_subx rfl rfl (by omega) (by omega)) (v' := .int .i64 (i2 - 1 : Nat)) (congrArg (Value.int .i64) (by omega)))) (by kernel_rfl) ?_
          refine at_q (i := 5) (li := #[true, true, true, true, true, true, false, false, false, false, false, false, false, false, false, false, false, false]) rfl (by kernel_rfl) rfl (fun _ => (q_move rfl)) (by kernel_rfl) ?_
          refine at_q (i := 6) (li := #[true, true, true, true, true, true, true, false, false, false, false, false, false, false, false, false, false, false]) rfl (by kernel_rfl) rfl (fun _ => (q_move rfl)) (by kernel_rfl) ?_
          refine at_q (i := 7) (li := #[true, true, true, true, true, true, true, true, false, false, false, false, false, false, false, false, false, false]) rfl (by kernel_rfl) rfl (fun _ => (q_congr (q_subx rfl rfl (by omega) (by omega)) (v' := .int .i64 (i2 - 1 : Nat)) (congrArg (Value.int .i64) (by omega)))) (by kernel_rfl) ?_
          refine at_q (i := 8) (li := #[true, true, true, true, true, true, true, true, true, false, false, false, false, false, false, false, false, false]) rfl (by kernel_rfl) rfl (fun _ => (q_indexAddr (e := 23) (size := 2) (by kernel_rfl) (by kernel_rfl) rfl rfl (by omega) (by omega))) (by kernel_rfl) ?_
          refine at_l (i := 9) (li := #[true, true, true, true, true, true, true, true, true, true, false, false, false, false, false, false, false, false]) (cellsAre _ _ 2 _) rfl (by kernel_rfl) rfl (fun _ h => q_loadc (n := 2) (by kernel_rfl) rfl h) (hd.elem (i := ((i2 - 1 : Nat) : Int)) (by omega) (by omega)) (by kernel_rfl) ?_
          refine at_q (i := 10) (li := #[true, true, true, true, true, true, true, true, true, true, true, false, false, false, false, false, false, false]) rfl (by kernel_rfl) rfl (fun _ => (q_move rfl)) (by kernel_rfl) ?_
          refine at_q (i := 11) (li := #[true, true, true, true, true, true, true, true, true, true, true, true, false, false, false, false, false, false]) rfl (by kernel_rfl) rfl (fun _ => (q_move rfl)) (by kernel_rfl) ?_
          refine at_q (i := 12) (li := #[true, true, true, true, true, true, true, true, true, true, true, true, true, false, false, false, false, false]) rfl (by kernel_rfl) rfl (fun _ => (q_indexAddr (e := 23) (size := 2) (by kernel_rfl) (by kernel_rfl) rfl rfl (by omega) (by omega))) (by kernel_rfl) ?_
          refine at_l (i := 13) (li := #[true, true, true, true, true, true, true, true, true, true, true, true, true, true, false, false, false, false]) (cellsAre _ _ 2 _) rfl (by kernel_rfl) rfl (fun _ h => q_loadc (n := 2) (by kernel_rfl) rfl h) (hd.elem (i := ((i2 : Nat) : Int)) (by omega) (by omega)) (by kernel_rfl) ?_
          refine at_q (i := 14) (li := #[true, true, true, true, true, true, true, true, true, true, true, true, true, true, true, false, false, false]) rfl (by kernel_rfl) rfl (fun _ => (q_indexAddr (e := 23) (size := 2) (by kernel_rfl) (by kernel_rfl) rfl rfl (by omega) (by omega))) (by kernel_rfl) ?_
          refine at_h0 (i := 15) (li := #[true, true, true, true, true, true, true, true, true, true, true, true, true, true, true, true, false, false]) rfl (by kernel_rfl) (keep_sift (bs := [true, true]) (by kernel_rfl)) (by kernel_rfl) (h_storeD (i := ((i2 : Nat) : Int)) (e := d1[((i2 - 1 : Nat) : Int).toNat]!) hs4.sat hd rfl rfl (by kernel_rfl) (by omega) (by omega) fun w5 hs5 hd5 => ?_)
          replace hT := hT.also hs5
          clear hd; have hd := hd5; clear hd5
          refine ⟨(by repeat' first | exact trivial | exact (hd.elem (i := ((i2 - 1 : Nat) : Int)) (by omega) (by omega)) | exact (hd.elem (i := ((i2 : Nat) : Int)) (by omega) (by omega)) | assumption | refine all_keep ?_ | refine And.intro ?_ ?_), ?_⟩
          refine at_q (i := 16) (li := #[true, true, true, true, true, true, true, true, true, true, true, true, true, true, true, true, true, false]) rfl (by kernel_rfl) rfl (fun _ => (q_indexAddr (e := 23) (size := 2) (by kernel_rfl) (by kernel_rfl) rfl rfl (by omega) (by omega))) (by kernel_rfl) ?_
          refine at_h0 (i := 17) (li := #[true, true, true, true, true, true, true, true, true, true, true, true, true, true, true, true, true, true]) rfl (by kernel_rfl) rfl (by kernel_rfl) (h_storeD (i := ((i2 - 1 : Nat) : Int)) (e := d1[((i2 : Nat) : Int).toNat]!) hs5.sat hd rfl rfl (by kernel_rfl) (by omega) (by omega) fun w6 hs6 hd6 => ?_)
          replace hT := hT.also hs6
          clear hd; have hd := hd6; clear hd6
          refine ⟨(by repeat' first | exact trivial | exact (hd.elem (i := ((i2 - 1 : Nat) : Int)) (by omega) (by omega)) | exact (hd.elem (i := ((i2 : Nat) : Int)) (by omega) (by omega)) | assumption | refine all_keep ?_ | refine And.intro ?_ ?_), ?_⟩
          refine at_done (by kernel_rfl) (hK21 _ _ ?_)
          clear hK21 K21
          refine cw_seq fun K22 hK22 => ?_
          refine cw_rs fun K23 hK23 => ?_
          obtain ⟨d2, hd2⟩ : ∃ x, x = Go.Sort.swp d1 i2 (i2 - 1) := ⟨_, rfl⟩
          replace hd : ElRow 23 w6 M g n cap d2 := by rw [hd2]; exact hd
          -- region 12
          refine as_q rfl rfl (q_move rfl) ?_
          refine as_q rfl rfl (q_move rfl) ?_
          refine as_q rfl rfl (q_congr (q_subx rfl rfl (by omega) (by omega)) (v' := .int .i64 (i2 - a : Nat)) (congrArg (Value.int .i64) (by omega))) ?_
          refine as_q rfl rfl (q_ge rfl rfl) ?_
          refine as_nil (hK23 _ _ ?_)
          clear hK23 K23
          refine cw_cond rfl (fun hc4 => ?_) (fun hc4 => ?_)
          · skip
            have h2a : i2 - a ≥ 2 := by have := of_decide_eq_true hc4; omega
            refine cw_rs fun K24 hK24 => ?_
            -- region 13
            refine as_q rfl rfl (q_move rfl) ?_
            refine as_q rfl rfl (q_congr (q_subx rfl rfl (by omega) (by omega)) (v' := .int .i64 (i2 - 1 : Nat)) (congrArg (Value.int .i64) (by omega))) ?_
            refine as_q rfl rfl (q_assign rfl) ?_
            refine as_nil (hK24 _ _ ?_)
            clear hK24 K24
            refine cw_block ?_
            refine cw_loop (fun mm l w1 => ∃ (qj : Nat) (d3 : Array El), qj = mm ∧ qj ≤ i2 - 1 ∧ Go.Sort.shiftDown ltE qj d3 = Go.Sort.shiftDown ltE (i2 - 1) d2 ∧ l = [(0, .slice (some ⟨g, 0, none⟩) n cap), (1, .int .i64 a), (2, .int .i64 b), (3, (.func (.func 16) #[] #[])), (9, .int .i64 i2), (10, .int .i64 q), (11, .int .i64 qj)] ∧ Step (Just g) M w M w1 ∧ ElRow 23 w1 M g n cap d3) (i2 - 1) [(0, .slice (some ⟨g, 0, none⟩) n cap), (1, .int .i64 a), (2, .int .i64 b), (3, (.func (.func 16) #[] #[])), (9, .int .i64 i2), (10, .int .i64 q), (11, .int .i64 (i2 - 1 : Nat))] (.cons rfl (.cons rfl (.cons rfl (.cons rfl (.cons rfl (.cons rfl (.cons rfl (.nil _)))))))) ?_ ?_
            · skip
              exact ⟨i2 - 1, d2, rfl, Nat.le_refl _, rfl, rfl, hT, hd⟩
            clear hT hd
            rintro mm l w1 ⟨j, d3, rfl, hji, hje, rfl, hT, hd⟩
            refine cw_seq fun K25 hK25 => ?_
            refine cw_rs fun K26 hK26 => ?_
            -- region 14
            refine as_q rfl rfl (q_move rfl) ?_
            first | refine as_q rfl rfl (q_geT rfl rfl (by omega)) ?_ | refine as_q rfl rfl (q_geF rfl rfl (by omega)) ?_ | refine as_q rfl rfl (q_ge rfl rfl) ?_
            refine as_nil (hK26 _ _ ?_)
            clear hK26 K26
            refine cw_cond rfl (fun hc5 => ?_) (fun hc5 => ?_)
            · skip
              have hj1 : 1 ≤ j := by have := of_decide_eq_true hc5; omega
              refine cw_skip ?_
              refine hK25 _ _ ?_
              clear hK25 K25
              refine cw_seq fun K27 hK27 => ?_
              refine cw_block ?_
              refine cw_seq fun K28 hK28 => ?_
              refine cw_rd (by kernel_rfl) (by kernel_rfl) (by kernel_rfl) rfl rfl fun K29 hK29 => ?_
              -- region 16
              have hs7 := Step.drew hT.sat
              replace hd := hd.then hs7
              replace hT := hT.then hs7
              refine at_q (i := 0) (li := #[true, false, false, false, false, false, false, false, false, false, false, false, false]) rfl (by kernel_rfl) rfl (fun _ => (q_move rfl)) (by kernel_rfl) ?_
              refine at_q (i := 1) (li := #[true, true, false, false, false, false, false, false, false, false, false, false, false]) rfl (by kernel_rfl) rfl (fun _ => (q_move rfl)) (by kernel_rfl) ?_
              refine at_q (i := 2) (li := #[true, true, true, false, false, false, false, false, false, false, false, false, false]) rfl (by kernel_rfl) rfl (fun _ => (q_move rfl)) (by kernel_rfl) ?_
              refine at_q (i := 3) (li := #[true, true, true, true, false, false, false, false, false, false, false, false, false]) rfl (by kernel_rfl) rfl (fun _ => (q_indexAddr (e := 23) (size := 2) (by kernel_rfl) (by kernel_rfl) rfl rfl (by omega) (by omega))) (by kernel_rfl) ?_
              refine at_l (i := 4) (li := #[true, true, true, true, true, false, false, false, false, false, false, false, false]) (cellsAre _ _ 2 _) rfl (by kernel_rfl) rfl (fun _ h => q_loadc (n := 2) (by kernel_rfl) rfl h) (hd.elem (i := ((j : Nat) : Int)) (by omega) (by omega)) (by kernel_rfl) ?_
              refine at_q (i := 5) (li := #[true, true, true, true, true, true, false, false, false, false, false, false, false]) rfl (by kernel_rfl) rfl (fun _ => (q_move rfl)) (by kernel_rfl) ?_
              refine at_q (i := 6) (li := #[true, true, true, true, true, true, true, false, false, false, false, false, false]) rfl (by kernel_rfl) rfl (fun _ => (q_move rfl)) (by kernel_rfl) ?_
              refine at_q (i := 7) (li := #[true, true, true, true, true, true, true, true, false, false, false, false, false]) rfl (by kernel_rfl) rfl (fun _ => (q_congr (q_subx rfl rfl (by omega) (by omega)) (v' := .int .i64 (j - 1 : Nat)) (congrArg (Value.int .i64) (by omega)))) (by kernel_rfl) ?_
              refine at_q (i := 8) (li := #[true, true, true, true, true, true, true, true, true, false, false, false, false]) rfl (by kernel_rfl) rfl (fun _ => (q_indexAddr (e := 23) (size := 2) (by kernel_rfl) (by kernel_rfl) rfl rfl (by omega) (by omega))) (by kernel_rfl) ?_
              refine at_l (i := 9) (li := #[true, true, true, true, true, true, true, true, true, true, false, false, false]) (cellsAre _ _ 2 _) rfl (by kernel_rfl) rfl (fun _ h => q_loadc (n := 2) (by kernel_rfl) rfl h) (hd.elem (i := ((j - 1 : Nat) : Int)) (by omega) (by omega)) (by kernel_rfl) ?_
              refine at_h (i := 10) (li := #[true, true, true, true, true, true, true, true, true, true, true, false, false]) rfl (by kernel_rfl) rfl (keep_sift (bs := [true, true]) (by kernel_rfl)) (by kernel_rfl) (h_callv (f := 16) (first := []) (cap := []) (by kernel_rfl) rfl rfl rfl ?_)
              refine (srt_compare (a := d3[((j : Nat) : Int).toNat]!) (b := d3[((j - 1 : Nat) : Int).toNat]!) hs7.sat).mono ?_
              rintro _ w8 ⟨rfl, hs8⟩
              replace hd := hd.then hs8
              replace hT := hT.then hs8
              refine ⟨(by repeat' first | exact trivial | exact (hd.elem (i := ((j : Nat) : Int)) (by omega) (by omega)) | exact (hd.elem (i := ((j - 1 : Nat) : Int)) (by omega) (by omega)) | assumption | refine all_keep ?_ | refine And.intro ?_ ?_), ?_⟩
              first | refine at_q (i := 11) (li := #[true, true, true, true, true, true, true, true, true, true, true, true, false]) rfl (by kernel_rfl) rfl (fun _ => (q_ltT rfl rfl (by omega))) (by kernel_rfl) ?_ | refine at_q (i := 11) (li := #[true, true, true, true, true, true, true, true, true, true, true, true, false]) rfl (by kernel_rfl) rfl (fun _ => (q_ltF rfl rfl (by omega))) (by kernel_rfl) ?_ | refine at_q (i := 11) (li := #[true, true, true, true, true, true, true, true, true, true, true, true, false]) rfl (by kernel_rfl) rfl (fun _ => (q_lt rfl rfl)) (by kernel_rfl) ?_
              refine at_q (i := 12) (li := #[true, true, true, true, true, true, true, true, true, true, true, true, true]) rfl (by kernel_rfl) rfl (fun _ => (q_not rfl)) (by kernel_rfl) ?_
              refine at_done (by kernel_rfl) (hK29 _ _ ?_)
              clear hK29 K29
              refine cw_cond rfl (fun hc6 => ?_) (fun hc6 => ?_)
              · skip
                have hl6 : (!ltE d3[j]! d3[j - 1]!) = true := hc6
                have hD : (if i2 - a ≥ 2 then Go.Sort.shiftDown ltE (i2 - 1) d2 else d2) = d3 := (if_pos h2a).trans (hje.symm.trans (dn_stop hl6))
                skip
                · skip
                  refine cw_exit ?_
                  refine hK22 _ _ ?_
                  clear hK28 K28
                  clear hK27 K27
                  clear hK22 K22
                  refine cw_rs fun K30 hK30 => ?_
                  -- region 18
                  refine as_q rfl rfl (q_move rfl) ?_
                  refine as_q rfl rfl (q_move rfl) ?_
                  refine as_q rfl rfl (q_congr (q_subx rfl rfl (by omega) (by omega)) (v' := .int .i64 (b - i2 : Nat)) (congrArg (Value.int .i64) (by omega))) ?_
                  refine as_q rfl rfl (q_ge rfl rfl) ?_
                  refine as_nil (hK30 _ _ ?_)
                  clear hK30 K30
                  refine cw_cond rfl (fun hc7 => ?_) (fun hc7 => ?_)
                  · skip
                    have h2b : b - i2 ≥ 2 := by have := of_decide_eq_true hc7; omega
                    refine cw_rs fun K31 hK31 => ?_
                    -- region 19
                    refine as_q rfl rfl (q_move rfl) ?_
                    refine as_q rfl rfl (q_congr (q_addx rfl rfl (by omega) (by omega)) (v' := .int .i64 (i2 + 1 : Nat)) (congrArg (Value.int .i64) (by omega))) ?_
                    refine as_q rfl rfl (q_assign rfl) ?_
                    refine as_nil (hK31 _ _ ?_)
                    clear hK31 K31
                    refine cw_block ?_
                    refine cw_loop (fun mm l w1 => ∃ (qj : Nat) (d5 : Array El), mm = b - qj ∧ i2 + 1 ≤ qj ∧ qj ≤ b ∧ Go.Sort.shiftUp ltE b qj d5 = Go.Sort.shiftUp ltE b (i2 + 1) d3 ∧ l = [(0, .slice (some ⟨g, 0, none⟩) n cap), (1, .int .i64 a), (2, .int .i64 b), (3, (.func (.func 16) #[] #[])), (9, .int .i64 i2), (10, .int .i64 q), (12, .int .i64 qj)] ∧ Step (Just g) M w M w1 ∧ ElRow 23 w1 M g n cap d5) (b - (i2 + 1)) [(0, .slice (some ⟨g, 0, none⟩) n cap), (1, .int .i64 a), (2, .int .i64 b), (3, (.func (.func 16) #[] #[])), (9, .int .i64 i2), (10, .int .i64 q), (12, .int .i64 (i2 + 1 : Nat))] (.cons rfl (.cons rfl (.cons rfl (.cons rfl (.cons rfl (.cons rfl (.cons rfl (.nil _)))))))) ?_ ?_
                    · skip
                      exact ⟨i2 + 1, d3, rfl, Nat.le_refl _, by omega, rfl, rfl, hT, hd⟩
                    clear hT hd
                    rintro mm l w1 ⟨j5, d5, rfl, hj5i, hj5q, hj5e, rfl, hT, hd⟩
                    refine cw_seq fun K32 hK32 => ?_
                    refine cw_rs fun K33 hK33 => ?_
                    -- region 20
                    refine as_q rfl rfl (q_move rfl) ?_
                    refine as_q rfl rfl (q_move rfl) ?_
                    first | refine as_q rfl rfl (q_ltT rfl rfl (by omega)) ?_ | refine as_q rfl rfl (q_ltF rfl rfl (by omega)) ?_ | refine as_q rfl rfl (q_lt rfl rfl) ?_
                    refine as_nil (hK33 _ _ ?_)
                    clear hK33 K33
                    refine cw_cond rfl (fun hc8 => ?_) (fun hc8 => ?_)
                    · skip
                      have hj5b : j5 < b := by have := of_decide_eq_true hc8; omega
                      refine cw_skip ?_
                      refine hK32 _ _ ?_
                      clear hK32 K32
                      refine cw_seq fun K34 hK34 => ?_
                      refine cw_block ?_
                      refine cw_seq fun K35 hK35 => ?_
                      refine cw_rd (by kernel_rfl) (by kernel_rfl) (by kernel_rfl) rfl rfl fun K36 hK36 => ?_
                      -- region 22
                      have hs9 := Step.drew hT.sat
                      replace hd := hd.then hs9
                      replace hT := hT.then hs9
                      refine at_q (i := 0) (li := #[true, false, false, false, false, false, false, false, false, false, false, false, false]) rfl (by kernel_rfl) rfl (fun _ => (q_move rfl)) (by kernel_rfl) ?_
                      refine at_q (i := 1) (li := #[true, true, false, false, false, false, false, false, false, false, false, false, false]) rfl (by kernel_rfl) rfl (fun _ => (q_move rfl)) (by kernel_rfl) ?_
                      refine at_q (i := 2) (li := #[true, true, true, false, false, false, false, false, false, false, false, false, false]) rfl (by kernel_rfl) rfl (fun _ => (q_move rfl)) (by kernel_rfl) ?_
                      refine at_q (i := 3) (li := #[true, true, true, true, false, false, false, false, false, false, false, false, false]) rfl (by kernel_rfl) rfl (fun _ => (q_indexAddr (e := 23) (size := 2) (by kernel_rfl) (by kernel_rfl) rfl rfl (by omega) (by omega))) (by kernel_rfl) ?_
                      refine at_l (i := 4) (li := #[true, true, true, true, true, false, false, false, false, false, false, false, false]) (cellsAre _ _ 2 _) rfl (by kernel_rfl) rfl (fun _ h => q_loadc (n := 2) (by kernel_rfl) rfl h) (hd.elem (i := ((j5 : Nat) : Int)) (by omega) (by omega)) (by kernel_rfl) ?_
                      refine at_q (i := 5) (li := #[true, true, true, true, true, true, false, false, false, false, false, false, false]) rfl (by kernel_rfl) rfl (fun _ => (q_move rfl)) (by kernel_rfl) ?_
                      refine at_q (i := 6) (li := #[true, true, true, true, true, true, true, false, false, false, false, false, false]) rfl (by kernel_rfl) rfl (fun _ => (q_move rfl)) (by kernel_rfl) ?_
                      refine at_q (i := 7) (li := #[true, true, true, true, true, true, true, true, false, false, false, false, false]) rfl (by kernel_rfl) rfl (fun _ => (q_congr (q_subx rfl rfl (by omega) (by omega)) (v' := .int .i64 (j5 - 1 : Nat)) (congrArg (Value.int .i64) (by omega)))) (by kernel_rfl) ?_
                      refine at_q (i := 8) (li := #[true, true, true, true, true, true, true, true, true, false, false, false, false]) rfl (by kernel_rfl) rfl (fun _ => (q_indexAddr (e := 23) (size := 2) (by kernel_rfl) (by kernel_rfl) rfl rfl (by omega) (by omega))) (by kernel_rfl) ?_
                      refine at_l (i := 9) (li := #[true, true, true, true, true, true, true, true, true, true, false, false, false]) (cellsAre _ _ 2 _) rfl (by kernel_rfl) rfl (fun _ h => q_loadc (n := 2) (by kernel_rfl) rfl h) (hd.elem (i := ((j5 - 1 : Nat) : Int)) (by omega) (by omega)) (by kernel_rfl) ?_
                      refine at_h (i := 10) (li := #[true, true, true, true, true, true, true, true, true, true, true, false, false]) rfl (by kernel_rfl) rfl (keep_sift (bs := [true, true]) (by kernel_rfl)) (by kernel_rfl) (h_callv (f := 16) (first := []) (cap := []) (by kernel_rfl) rfl rfl rfl ?_)
                      refine (srt_compare (a := d5[((j5 : Nat) : Int).toNat]!) (b := d5[((j5 - 1 : Nat) : Int).toNat]!) hs9.sat).mono ?_
                      rintro _ w10 ⟨rfl, hs10⟩
                      replace hd := hd.then hs10
                      replace hT := hT.then hs10
                      refine ⟨(by repeat' first | exact trivial | exact (hd.elem (i := ((j5 : Nat) : Int)) (by omega) (by omega)) | exact (hd.elem (i := ((j5 - 1 : Nat) : Int)) (by omega) (by omega)) | assumption | refine all_keep ?_ | refine And.intro ?_ ?_), ?_⟩
                      first | refine at_q (i := 11) (li := #[true, true, true, true, true, true, true, true, true, true, true, true, false]) rfl (by kernel_rfl) rfl (fun _ => (q_ltT rfl rfl (by omega))) (by kernel_rfl) ?_ | refine at_q (i := 11) (li := #[true, true, true, true, true, true, true, true, true, true, true, true, false]) rfl (by kernel_rfl) rfl (fun _ => (q_ltF rfl rfl (by omega))) (by kernel_rfl) ?_ | refine at_q (i := 11) (li := #[true, true, true, true, true, true, true, true, true, true, true, true, false]) rfl (by kernel_rfl) rfl (fun _ => (q_lt rfl rfl)) (by kernel_rfl) ?_
                      refine at_q (i := 12) (li := #[true, true, true, true, true, true, true, true, true, true, true, true, true]) rfl (by kernel_rfl) rfl (fun _ => (q_not rfl)) (by kernel_rfl) ?_
                      refine at_done (by kernel_rfl) (hK36 _ _ ?_)
                      clear hK36 K36
                      refine cw_cond rfl (fun hc9 => ?_) (fun hc9 => ?_)
                      · skip
                        have hl9 : (!ltE d5[j5]! d5[j5 - 1]!) = true := hc9
                        have hU : (if b - i2 ≥ 2 then Go.Sort.shiftUp ltE b (i2 + 1) d3 else d3) = d5 := (if_pos h2b).trans (hj5e.symm.trans (up_stop hj5b hl9))
                        skip
                        · skip
                          refine cw_exit ?_
                          refine hK7 _ _ ?_
                          clear hK35 K35
                          clear hK34 K34
                          clear hK7 K7
                          refine cw_region fun K37 hK37 => ?_
                          -- region 4
                          refine as_q rfl rfl (q_move rfl) ?_
                          refine as_q rfl rfl (q_addx rfl rfl (by omega) (by omega)) ?_
                          refine as_q rfl rfl (q_assign rfl) ?_
                          refine as_nil (hK37 _ _ ?_)
                          clear hK37 K37
                          rw [pi_step hss hib h50 hd2 hD hU, show s = 5 - (q + 1) from by omega] at hpi
                          exact ⟨_, _, by omega, (.cons rfl (.cons rfl (.cons rfl (.cons rfl (.cons rfl (.cons rfl (.nil _))))))), q + 1, i2, d5, rfl, by omega, by omega, by omega, hpi, rfl, hT, hd⟩
                      · skip
                        have hl9 : (!ltE d5[j5]! d5[j5 - 1]!) = false := hc9
                        refine cw_skip ?_
                        refine hK35 _ _ ?_
                        clear hK35 K35
                        refine cw_drawn (by kernel_rfl) (by kernel_rfl) (by kernel_rfl) rfl rfl fun K38 hK38 => ?_
                        -- region 23
                        have hs11 := Step.drew hs10.sat
                        replace hd := hd.then hs11
                        replace hT := hT.then hs11
                        refine at_q (i := 0) (li := #[true, false, false, false, false, false, false, false, false, false, false, false, false, false, false, false, false, false]) rfl (by kernel_rfl) rfl (fun _ => (q_move rfl)) (by kernel_rfl) ?_
                        refine at_q (i := 1) (li := #[true, true, false, false, false, false, false, false, false, false, false, false, false, false, false, false, false, false]) rfl (by kernel_rfl) rfl (fun _ => (q_move rfl)) (by kernel_rfl) ?_
                        refine at_q (i := 2) (li := #[true, true, true, false, false, false, false, false, false, false, false, false, false, false, false, false, false, false]) rfl (by kernel_rfl) rfl (fun _ => (q_move rfl)) (by kernel_rfl) ?_
                        refine at_q (i := 3) (li := #[true, true, true, true, false, false, false, false, false, false, false, false, false, false, false, false, false, false]) rfl (by kernel_rfl) rfl (fun _ => (q_move rfl)) (by kernel_rfl) ?_
                        refine at_q (i := 4) (li := #[true, true, true, true, true, false, false, false, false, false, false, false, false, false, false, false, false, false]) rfl (by kernel_rfl) rfl (fun _ => (q_congr (q_subx rfl rfl (by omega) (by omega)) (v' := .int .i64 (j5 - 1 : Nat)) (congrArg (Value.int .i64) (by omega)))) (by kernel_rfl) ?_
                        refine at_q (i := 5) (li := #[true, true, true, true, true, true, false, false, false, false, false, false, false, false, false, false, false, false]) rfl (by kernel_rfl) rfl (fun _ => (q_move rfl)) (by kernel_rfl) ?_
                        refine at_q (i := 6) (li := #[true, true, true, true, true, true, true, false, false, false, false, false, false, false, false, false, false, false]) rfl (by kernel_rfl) rfl (fun _ => (q_move rfl)) (by kernel_rfl) ?_
                        refine at_q (i := 7) (li := #[true, true, true, true, true, true, true, true, false, false, false, false, false, false, false, false, false, false]) rfl (by kernel_rfl) rfl (fun _ => (q_congr (q_subx rfl rfl (by omega) (by omega)) (v' := .int .i64 (j5 - 1 : Nat)) (congrArg (Value.int .i64) (by omega)))) (by kernel_rfl) ?_
                        refine at_q (i := 8) (li := #[true, true, true, true, true, true, true, true, true, false, false, false, false, false, false, false, false, false]) rfl (by kernel_rfl) rfl (fun _ => (q_indexAddr (e := 23) (size := 2) (by kernel_rfl) (by kernel_rfl) rfl rfl (by omega) (by omega))) (by kernel_rfl) ?_
                        refine at_l (i := 9) (li := #[true, true, true, true, true, true, true, true, true, true, false, false, false, false, false, false, false, false]) (cellsAre _ _ 2 _) rfl (by kernel_rfl) rfl (fun _ h => q_loadc (n := 2) (by kernel_rfl) rfl h) (hd.elem (i := ((j5 - 1 : Nat) : Int)) (by omega) (by omega)) (by kernel_rfl) ?_
                        refine at_q (i := 10) (li := #[true, true, true, true, true, true, true, true, true, true, true, false, false, false, false, false, false, false]) rfl (by kernel_rfl) rfl (fun _ => (q_move rfl)) (by kernel_rfl) ?_
                        refine at_q (i := 11) (li := #[true, true, true, true, true, true, true, true, true, true, true, true, false, false, false, false, false, false]) rfl (by kernel_rfl) rfl (fun _ => (q_move rfl)) (by kernel_rfl) ?_
                        refine at_q (i := 12) (li := #[true, true, true, true, true, true, true, true, true, true, true, true, true, false, false, false, false, false]) rfl (by kernel_rfl) rfl (fun _ => (q_indexAddr (e := 23) (size := 2) (by kernel_rfl) (by kernel_rfl) rfl rfl (by omega) (by omega))) (by kernel_rfl) ?_
                        refine at_l (i := 13) (li := #[true, true, true, true, true, true, true, true, true, true, true, true, true, true, false, false, false, false]) (cellsAre _ _ 2 _) rfl (by kernel_rfl) rfl (fun _ h => q_loadc (n := 2) (by kernel_rfl) rfl h) (hd.elem (i := ((j5 : Nat) : Int)) (by omega) (by omega)) (by kernel_rfl) ?_
                        refine at_q (i := 14) (li := #[true, true, true, true, true, true, true, true, true, true, true, true, true, true, true, false, false, false]) rfl (by kernel_rfl) rfl (fun _ => (q_indexAddr (e := 23) (size := 2) (by kernel_rfl) (by kernel_rfl) rfl rfl (by omega) (by omega))) (by kernel_rfl) ?_
                        refine at_h0 (i := 15) (li := #[true, true, true, true, true, true, true, true, true, true, true, true, true, true, true, true, false, false]) rfl (by kernel_rfl) (keep_sift (bs := [true, true]) (by kernel_rfl)) (by kernel_rfl) (h_storeD (i := ((j5 : Nat) : Int)) (e := d5[((j5 - 1 : Nat) : Int).toNat]!) hs11.sat hd rfl rfl (by kernel_rfl) (by omega) (by omega) fun w12 hs12 hd12 => ?_)
                        replace hT := hT.also hs12
                        clear hd; have hd := hd12; clear hd12
                        refine ⟨(by repeat' first | exact trivial | exact (hd.elem (i := ((j5 - 1 : Nat) : Int)) (by omega) (by omega)) | exact (hd.elem (i := ((j5 : Nat) : Int)) (by omega) (by omega)) | assumption | refine all_keep ?_ | refine And.intro ?_ ?_), ?_⟩
                        refine at_q (i := 16) (li := #[true, true, true, true, true, true, true, true, true, true, true, true, true, true, true, true, true, false]) rfl (by kernel_rfl) rfl (fun _ => (q_indexAddr (e := 23) (size := 2) (by kernel_rfl) (by kernel_rfl) rfl rfl (by omega) (by omega))) (by kernel_rfl) ?_
                        refine at_h0 (i := 17) (li := #[true, true, true, true, true, true, true, true, true, true, true, true, true, true, true, true, true, true]) rfl (by kernel_rfl) rfl (by kernel_rfl) (h_storeD (i := ((j5 - 1 : Nat) : Int)) (e := d5[((j5 : Nat) : Int).toNat]!) hs12.sat hd rfl rfl (by kernel_rfl) (by omega) (by omega) fun w13 hs13 hd13 => ?_)
                        replace hT := hT.also hs13
                        clear hd; have hd := hd13; clear hd13
                        refine ⟨(by repeat' first | exact trivial | exact (hd.elem (i := ((j5 - 1 : Nat) : Int)) (by omega) (by omega)) | exact (hd.elem (i := ((j5 : Nat) : Int)) (by omega) (by omega)) | assumption | refine all_keep ?_ | refine And.intro ?_ ?_), ?_⟩
                        refine at_done (by kernel_rfl) (hK38 _ _ ?_)
                        clear hK38 K38
                        refine hK34 _ _ ?_
                        clear hK34 K34
                        refine cw_region fun K39 hK39 => ?_
                        -- region 21
                        refine as_q rfl rfl (q_move rfl) ?_
                        refine as_q rfl rfl (q_congr (q_addx rfl rfl (by omega) (by omega)) (v' := .int .i64 (j5 + 1 : Nat)) (congrArg (Value.int .i64) (by omega))) ?_
                        refine as_q rfl rfl (q_assign rfl) ?_
                        refine as_nil (hK39 _ _ ?_)
                        clear hK39 K39
                        exact ⟨_, _, by omega, (.cons rfl (.cons rfl (.cons rfl (.cons rfl (.cons rfl (.cons rfl (.cons rfl (.nil _)))))))), j5 + 1, Go.Sort.swp d5 j5 (j5 - 1), rfl, by omega, by omega, (up_step hj5b hl9).symm.trans hj5e, rfl, hT, hd⟩
                    · skip
                      have hj5b : b ≤ j5 := by have := of_decide_eq_false hc8; omega
                      have hU : (if b - i2 ≥ 2 then Go.Sort.shiftUp ltE b (i2 + 1) d3 else d3) = d5 := (if_pos h2b).trans (hj5e.symm.trans (up_out hj5b))
                      skip
                      · skip
                        refine cw_exit ?_
                        refine hK7 _ _ ?_
                        clear hK32 K32
                        clear hK7 K7
                        refine cw_region fun K40 hK40 => ?_
                        -- region 4
                        refine as_q rfl rfl (q_move rfl) ?_
                        refine as_q rfl rfl (q_addx rfl rfl (by omega) (by omega)) ?_
                        refine as_q rfl rfl (q_assign rfl) ?_
                        refine as_nil (hK40 _ _ ?_)
                        clear hK40 K40
                        rw [pi_step hss hib h50 hd2 hD hU, show s = 5 - (q + 1) from by omega] at hpi
                        exact ⟨_, _, by omega, (.cons rfl (.cons rfl (.cons rfl (.cons rfl (.cons rfl (.cons rfl (.nil _))))))), q + 1, i2, d5, rfl, by omega, by omega, by omega, hpi, rfl, hT, hd⟩
                  · skip
                    have h2b : ¬ b - i2 ≥ 2 := by have := of_decide_eq_false hc7; omega
                    have hU : (if b - i2 ≥ 2 then Go.Sort.shiftUp ltE b (i2 + 1) d3 else d3) = d3 := if_neg h2b
                    skip
                    · skip
                      refine cw_skip ?_
                      refine hK7 _ _ ?_
                      clear hK7 K7
                      refine cw_region fun K41 hK41 => ?_
                      -- region 4
                      refine as_q rfl rfl (q_move rfl) ?_
                      refine as_q rfl rfl (q_addx rfl rfl (by omega) (by omega)) ?_
                      refine as_q rfl rfl (q_assign rfl) ?_
                      refine as_nil (hK41 _ _ ?_)
                      clear hK41 K41
                      rw [pi_step hss hib h50 hd2 hD hU, show s = 5 - (q + 1) from by omega] at hpi
                      exact ⟨_, _, by omega, (.cons rfl (.cons rfl (.cons rfl (.cons rfl (.cons rfl (.cons rfl (.nil _))))))), q + 1, i2, d3, rfl, by omega, by omega, by omega, hpi, rfl, hT, hd⟩
              · skip
                have hl6 : (!ltE d3[j]! d3[j - 1]!) = false := hc6
                refine cw_skip ?_
                refine hK28 _ _ ?_
                clear hK28 K28
                refine cw_drawn (by kernel_rfl) (by kernel_rfl) (by kernel_rfl) rfl rfl fun K42 hK42 => ?_
                -- region 17
                have hs14 := Step.drew hs8.sat
                replace hd := hd.then hs14
                replace hT := hT.then hs14
                refine at_q (i := 0) (li := #[true, false, false, false, false, false, false, false, false, false, false, false, false, false, false, false, false, false]) rfl (by kernel_rfl) rfl (fun _ => (q_move rfl)) (by kernel_rfl) ?_
                refine at_q (i := 1) (li := #[true, true, false, false, false, false, false, false, false, false, false, false, false, false, false, false, false, false]) rfl (by kernel_rfl) rfl (fun _ => (q_move rfl)) (by kernel_rfl) ?_
                refine at_q (i := 2) (li := #[true, true, true, false, false, false, false, false, false, false, false, false, false, false, false, false, false, false]) rfl (by kernel_rfl) rfl (fun _ => (q_move rfl)) (by kernel_rfl) ?_
                refine at_q (i := 3) (li := #[true, true, true, true, false, false, false, false, false, false, false, false, false, false, false, false, false, false]) rfl (by kernel_rfl) rfl (fun _ => (q_move rfl)) (by kernel_rfl) ?_
                refine at_q (i := 4) (li := #[true, true, true, true, true, false, false, false, false, false, false, false, false, false, false, false, false, false]) rfl (by kernel_rfl) rfl (fun _ => (q_congr (q_subx rfl rfl (by omega) (by omega)) (v' := .int .i64 (j - 1 : Nat)) (congrArg (Value.int .i64) (by omega)))) (by kernel_rfl) ?_
                refine at_q (i := 5) (li := #[true, true, true, true, true, true, false, false, false, false, false, false, false, false, false, false, false, false]) rfl (by kernel_rfl) rfl (fun _ => (q_move rfl)) (by kernel_rfl) ?_
                refine at_q (i := 6) (li := #[true, true, true, true, true, true, true, false, false, false, false, false, false, false, false, false, false, false]) rfl (by kernel_rfl) rfl (fun _ => (q_move rfl)) (by kernel_rfl) ?_
                refine at_q (i := 7) (li := #[true, true, true, true, true, true, true, true, false, false, false, false, false, false, false, false, false, false]) rfl (by kernel_rfl) rfl (fun _ => (q_congr (q_subx rfl rfl (by omega) (by omega)) (v' := .int .i64 (j - 1 : Nat)) (congrArg (Value.int .i64) (by omega)))) (by kernel_rfl) ?_
                refine at_q (i := 8) (li := #[true, true, true, true, true, true, true, true, true, false, false, false, false, false, false, false, false, false]) rfl (by kernel_rfl) rfl (fun _ => (q_indexAddr (e := 23) (size := 2) (by kernel_rfl) (by kernel_rfl) rfl rfl (by omega) (by omega))) (by kernel_rfl) ?_
                refine at_l (i := 9) (li := #[true, true, true, true, true, true, true, true, true, true, false, false, false, false, false, false, false, false]) (cellsAre _ _ 2 _) rfl (by kernel_rfl) rfl (fun _ h => q_loadc (n := 2) (by kernel_rfl) rfl h) (hd.elem (i := ((j - 1 : Nat) : Int)) (by omega) (by omega)) (by kernel_rfl) ?_
                refine at_q (i := 10) (li := #[true, true, true, true, true, true, true, true, true, true, true, false, false, false, false, false, false, false]) rfl (by kernel_rfl) rfl (fun _ => (q_move rfl)) (by kernel_rfl) ?_
                refine at_q (i := 11) (li := #[true, true, true, true, true, true, true, true, true, true, true, true, false, false, false, false, false, false]) rfl (by kernel_rfl) rfl (fun _ => (q_move rfl)) (by kernel_rfl) ?_
                refine at_q (i := 12) (li := #[true, true, true, true, true, true, true, true, true, true, true, true, true, false, false, false, false, false]) rfl (by kernel_rfl) rfl (fun _ => (q_indexAddr (e := 23) (size := 2) (by kernel_rfl) (by kernel_rfl) rfl rfl (by omega) (by omega))) (by kernel_rfl) ?_
                refine at_l (i := 13) (li := #[true, true, true, true, true, true, true, true, true, true, true, true, true, true, false, false, false, false]) (cellsAre _ _ 2 _) rfl (by kernel_rfl) rfl (fun _ h => q_loadc (n := 2) (by kernel_rfl) rfl h) (hd.elem (i := ((j : Nat) : Int)) (by omega) (by omega)) (by kernel_rfl) ?_
                refine at_q (i := 14) (li := #[true, true, true, true, true, true, true, true, true, true, true, true, true, true, true, false, false, false]) rfl (by kernel_rfl) rfl (fun _ => (q_indexAddr (e := 23) (size := 2) (by kernel_rfl) (by kernel_rfl) rfl rfl (by omega) (by omega))) (by kernel_rfl) ?_
                refine at_h0 (i := 15) (li := #[true, true, true, true, true, true, true, true, true, true, true, true, true, true, true, true, false, false]) rfl (by kernel_rfl) (keep_sift (bs := [true, true]) (by kernel_rfl)) (by kernel_rfl) (h_storeD (i := ((j : Nat) : Int)) (e := d3[((j - 1 : Nat) : Int).toNat]!) hs14.sat hd rfl rfl (by kernel_rfl) (by omega) (by omega) fun w15 hs15 hd15 => ?_)
                replace hT := hT.also hs15
                clear hd; have hd := hd15; clear hd15
                refine ⟨(by repeat' first | exact trivial | exact (hd.elem (i := ((j - 1 : Nat) : Int)) (by omega) (by omega)) | exact (hd.elem (i := ((j : Nat) : Int)) (by omega) (by omega)) | assumption | refine all_keep ?_ | refine And.intro ?_ ?_), ?_⟩
                refine at_q (i := 16) (li := #[true, true, true, true, true, true, true, true, true, true, true, true, true, true, true, true, true, false]) rfl (by kernel_rfl) rfl (fun _ => (q_indexAddr (e := 23) (size := 2) (by kernel_rfl) (by kernel_rfl) rfl rfl (by omega) (by omega))) (by kernel_rfl) ?_
                refine at_h0 (i := 17) (li := #[true, true, true, true, true, true, true, true, true, true, true, true, true, true, true, true, true, true]) rfl (by kernel_rfl) rfl (by kernel_rfl) (h_storeD (i := ((j - 1 : Nat) : Int)) (e := d3[((j : Nat) : Int).toNat]!) hs15.sat hd rfl rfl (by kernel_rfl) (by omega) (by omega) fun w16 hs16 hd16 => ?_)
                replace hT := hT.also hs16
                clear hd; have hd := hd16; clear hd16
                refine ⟨(by repeat' first | exact trivial | exact (hd.elem (i := ((j - 1 : Nat) : Int)) (by omega) (by omega)) | exact (hd.elem (i := ((j : Nat) : Int)) (by omega) (by omega)) | assumption | refine all_keep ?_ | refine And.intro ?_ ?_), ?_⟩
                refine at_done (by kernel_rfl) (hK42 _ _ ?_)
                clear hK42 K42
                refine hK27 _ _ ?_
                clear hK27 K27
                refine cw_region fun K43 hK43 => ?_
                -- region 15
                refine as_q rfl rfl (q_move rfl) ?_
                refine as_q rfl rfl (q_congr (q_subx rfl rfl (by omega) (by omega)) (v' := .int .i64 (j - 1 : Nat)) (congrArg (Value.int .i64) (by omega))) ?_
                refine as_q rfl rfl (q_assign rfl) ?_
                refine as_nil (hK43 _ _ ?_)
                clear hK43 K43
                exact ⟨_, _, by omega, (.cons rfl (.cons rfl (.cons rfl (.cons rfl (.cons rfl (.cons rfl (.cons rfl (.nil _)))))))), j - 1, Go.Sort.swp d3 j (j - 1), rfl, by omega, (dn_step hj1 hl6).symm.trans hje, rfl, hT, hd⟩
            · skip
              have hj1 : j = 0 := by have := of_decide_eq_false hc5; omega
              have hD : (if i2 - a ≥ 2 then Go.Sort.shiftDown ltE (i2 - 1) d2 else d2) = d3 := (if_pos h2a).trans (hje.symm.trans (by rw [hj1]; rfl))
              skip
              · skip
                refine cw_exit ?_
                refine hK22 _ _ ?_
                clear hK25 K25
                clear hK22 K22
                refine cw_rs fun K44 hK44 => ?_
                -- region 18
                refine as_q rfl rfl (q_move rfl) ?_
                refine as_q rfl rfl (q_move rfl) ?_
                refine as_q rfl rfl (q_congr (q_subx rfl rfl (by omega) (by omega)) (v' := .int .i64 (b - i2 : Nat)) (congrArg (Value.int .i64) (by omega))) ?_
                refine as_q rfl rfl (q_ge rfl rfl) ?_
                refine as_nil (hK44 _ _ ?_)
                clear hK44 K44
                refine cw_cond rfl (fun hc7 => ?_) (fun hc7 => ?_)
                · skip
                  have h2b : b - i2 ≥ 2 := by have := of_decide_eq_true hc7; omega
                  refine cw_rs fun K45 hK45 => ?_
                  -- region 19
                  refine as_q rfl rfl (q_move rfl) ?_
                  refine as_q rfl rfl (q_congr (q_addx rfl rfl (by omega) (by omega)) (v' := .int .i64 (i2 + 1 : Nat)) (congrArg (Value.int .i64) (by omega))) ?_
                  refine as_q rfl rfl (q_assign rfl) ?_
                  refine as_nil (hK45 _ _ ?_)
                  clear hK45 K45
                  refine cw_block ?_
                  refine cw_loop (fun mm l w1 => ∃ (qj : Nat) (d5 : Array El), mm = b - qj ∧ i2 + 1 ≤ qj ∧ qj ≤ b ∧ Go.Sort.shiftUp ltE b qj d5 = Go.Sort.shiftUp ltE b (i2 + 1) d3 ∧ l = [(0, .slice (some ⟨g, 0, none⟩) n cap), (1, .int .i64 a), (2, .int .i64 b), (3, (.func (.func 16) #[] #[])), (9, .int .i64 i2), (10, .int .i64 q), (12, .int .i64 qj)] ∧ Step (Just g) M w M w1 ∧ ElRow 23 w1 M g n cap d5) (b - (i2 + 1)) [(0, .slice (some ⟨g, 0, none⟩) n cap), (1, .int .i64 a), (2, .int .i64 b), (3, (.func (.func 16) #[] #[])), (9, .int .i64 i2), (10, .int .i64 q), (12, .int .i64 (i2 + 1 : Nat))] (.cons rfl (.cons rfl (.cons rfl (.cons rfl (.cons rfl (.cons rfl (.cons rfl (.nil _)))))))) ?_ ?_
                  · skip
                    exact ⟨i2 + 1, d3, rfl, Nat.le_refl _, by omega, rfl, rfl, hT, hd⟩
                  clear hT hd
                  rintro mm l w1 ⟨j5, d5, rfl, hj5i, hj5q, hj5e, rfl, hT, hd⟩
                  refine cw_seq fun K46 hK46 => ?_
                  refine cw_rs fun K47 hK47 => ?_
                  -- region 20
                  refine as_q rfl rfl (q_move rfl) ?_
                  refine as_q rfl rfl (q_move rfl) ?_
                  first | refine as_q rfl rfl (q_ltT rfl rfl (by omega)) ?_ | refine as_q rfl rfl (q_ltF rfl rfl (by omega)) ?_ | refine as_q rfl rfl (q_lt rfl rfl) ?_
                  refine as_nil (hK47 _ _ ?_)
                  clear hK47 K47
                  refine cw_cond rfl (fun hc8 => ?_) (fun hc8 => ?_)
                  · skip
                    have hj5b : j5 < b := by have := of_decide_eq_true hc8; omega
                    refine cw_skip ?_
                    refine hK46 _ _ ?_
                    clear hK46 K46
                    refine cw_seq fun K48 hK48 => ?_
                    refine cw_block ?_
                    refine cw_seq fun K49 hK49 => ?_
                    refine cw_rd (by kernel_rfl) (by kernel_rfl) (by kernel_rfl) rfl rfl fun K50 hK50 => ?_
                    -- region 22
                    have hs17 := Step.drew hT.sat
                    replace hd := hd.then hs17
                    replace hT := hT.then hs17
                    refine at_q (i := 0) (li := #[true, false, false, false, false, false, false, false, false, false, false, false, false]) rfl (by kernel_rfl) rfl (fun _ => (q_move rfl)) (by kernel_rfl) ?_
                    refine at_q (i := 1) (li := #[true, true, false, false, false, false, false, false, false, false, false, false, false]) rfl (by kernel_rfl) rfl (fun _ => (q_move rfl)) (by kernel_rfl) ?_
                    refine at_q (i := 2) (li := #[true, true, true, false, false, false, false, false, false, false, false, false, false]) rfl (by kernel_rfl) rfl (fun _ => (q_move rfl)) (by kernel_rfl) ?_
                    refine at_q (i := 3) (li := #[true, true, true, true, false, false, false, false, false, false, false, false, false]) rfl (by kernel_rfl) rfl (fun _ => (q_indexAddr (e := 23) (size := 2) (by kernel_rfl) (by kernel_rfl) rfl rfl (by omega) (by omega))) (by kernel_rfl) ?_
                    refine at_l (i := 4) (li := #[true, true, true, true, true, false, false, false, false, false, false, false, false]) (cellsAre _ _ 2 _) rfl (by kernel_rfl) rfl (fun _ h => q_loadc (n := 2) (by kernel_rfl) rfl h) (hd.elem (i := ((j5 : Nat) : Int)) (by omega) (by omega)) (by kernel_rfl) ?_
                    refine at_q (i := 5) (li := #[true, true, true, true, true, true, false, false, false, false, false, false, false]) rfl (by kernel_rfl) rfl (fun _ => (q_move rfl)) (by kernel_rfl) ?_
                    refine at_q (i := 6) (li := #[true, true, true, true, true, true, true, false, false, false, false, false, false]) rfl (by kernel_rfl) rfl (fun _ => (q_move rfl)) (by kernel_rfl) ?_
                    refine at_q (i := 7) (li := #[true, true, true, true, true, true, true, true, false, false, false, false, false]) rfl (by kernel_rfl) rfl (fun _ => (q_congr (q_subx rfl rfl (by omega) (by omega)) (v' := .int .i64 (j5 - 1 : Nat)) (congrArg (Value.int .i64) (by omega)))) (by kernel_rfl) ?_
                    refine at_q (i := 8) (li := #[true, true, true, true, true, true, true, true, true, false, false, false, false]) rfl (by kernel_rfl) rfl (fun _ => (q_indexAddr (e := 23) (size := 2) (by kernel_rfl) (by kernel_rfl) rfl rfl (by omega) (by omega))) (by kernel_rfl) ?_
                    refine at_l (i := 9) (li := #[true, true, true, true, true, true, true, true, true, true, false, false, false]) (cellsAre _ _ 2 _) rfl (by kernel_rfl) rfl (fun _ h => q_loadc (n := 2) (by kernel_rfl) rfl h) (hd.elem (i := ((j5 - 1 : Nat) : Int)) (by omega) (by omega)) (by kernel_rfl) ?_
                    refine at_h (i := 10) (li := #[true, true, true, true, true, true, true, true, true, true, true, false, false]) rfl (by kernel_rfl) rfl (keep_sift (bs := [true, true]) (by kernel_rfl)) (by kernel_rfl) (h_callv (f := 16) (first := []) (cap := []) (by kernel_rfl) rfl rfl rfl ?_)
                    refine (srt_compare (a := d5[((j5 : Nat) : Int).toNat]!) (b := d5[((j5 - 1 : Nat) : Int).toNat]!) hs17.sat).mono ?_
                    rintro _ w18 ⟨rfl, hs18⟩
                    replace hd := hd.then hs18
                    replace hT := hT.then hs18
                    refine ⟨(by repeat' first | exact trivial | exact (hd.elem (i := ((j5 : Nat) : Int)) (by omega) (by omega)) | exact (hd.elem (i := ((j5 - 1 : Nat) : Int)) (by omega) (by omega)) | assumption | refine all_keep ?_ | refine And.intro ?_ ?_), ?_⟩
                    first | refine at_q (i := 11) (li := #[true, true, true, true, true, true, true, true, true, true, true, true, false]) rfl (by kernel_rfl) rfl (fun _ => (q_ltT rfl rfl (by omega))) (by kernel_rfl) ?_ | refine at_q (i := 11) (li := #[true, true, true, true, true, true, true, true, true, true, true, true, false]) rfl (by kernel_rfl) rfl (fun _ => (q_ltF rfl rfl (by omega))) (by kernel_rfl) ?_ | refine at_q (i := 11) (li := #[true, true, true, true, true, true, true, true, true, true, true, true, false]) rfl (by kernel_rfl) rfl (fun _ => (q_lt rfl rfl)) (by kernel_rfl) ?_
                    refine at_q (i := 12) (li := #[true, true, true, true, true, true, true, true, true, true, true, true, true]) rfl (by kernel_rfl) rfl (fun _ => (q_not rfl)) (by kernel_rfl) ?_
                    refine at_done (by kernel_rfl) (hK50 _ _ ?_)
                    clear hK50 K50
                    refine cw_cond rfl (fun hc9 => ?_) (fun hc9 => ?_)
                    · skip
                      have hl9 : (!ltE d5[j5]! d5[j5 - 1]!) = true := hc9
                      have hU : (if b - i2 ≥ 2 then Go.Sort.shiftUp ltE b (i2 + 1) d3 else d3) = d5 := (if_pos h2b).trans (hj5e.symm.trans (up_stop hj5b hl9))
                      skip
                      · skip
                        refine cw_exit ?_
                        refine hK7 _ _ ?_
                        clear hK49 K49
                        clear hK48 K48
                        clear hK7 K7
                        refine cw_region fun K51 hK51 => ?_
                        -- region 4
                        refine as_q rfl rfl (q_move rfl) ?_
                        refine as_q rfl rfl (q_addx rfl rfl (by omega) (by omega)) ?_
                        refine as_q rfl rfl (q_assign rfl) ?_
                        refine as_nil (hK51 _ _ ?_)
                        clear hK51 K51
                        rw [pi_step hss hib h50 hd2 hD hU, show s = 5 - (q + 1) from by omega] at hpi
                        exact ⟨_, _, by omega, (.cons rfl (.cons rfl (.cons rfl (.cons rfl (.cons rfl (.cons rfl (.nil _))))))), q + 1, i2, d5, rfl, by omega, by omega, by omega, hpi, rfl, hT, hd⟩
                    · skip
                      have hl9 : (!ltE d5[j5]! d5[j5 - 1]!) = false := hc9
                      refine cw_skip ?_
                      refine hK49 _ _ ?_
                      clear hK49 K49
                      refine cw_drawn (by kernel_rfl) (by kernel_rfl) (by kernel_rfl) rfl rfl fun K52 hK52 => ?_
                      -- region 23
                      have hs19 := Step.drew hs18.sat
                      replace hd := hd.then hs19
                      replace hT := hT.then hs19
                      refine at_q (i := 0) (li := #[true, false, false, false, false, false, false, false, false, false, false, false, false, false, false, false, false, false]) rfl (by kernel_rfl) rfl (fun _ => (q_move rfl)) (by kernel_rfl) ?_
                      refine at_q (i := 1) (li := #[true, true, false, false, false, false, false, false, false, false, false, false, false, false, false, false, false, false]) rfl (by kernel_rfl) rfl (fun _ => (q_move rfl)) (by kernel_rfl) ?_
                      refine at_q (i := 2) (li := #[true, true, true, false, false, false, false, false, false, false, false, false, false, false, false, false, false, false]) rfl (by kernel_rfl) rfl (fun _ => (q_move rfl)) (by kernel_rfl) ?_
                      refine at_q (i := 3) (li := #[true, true, true, true, false, false, false, false, false, false, false, false, false, false, false, false, false, false]) rfl (by kernel_rfl) rfl (fun _ => (q_move rfl)) (by kernel_rfl) ?_
                      refine at_q (i := 4) (li := #[true, true, true, true, true, false, false, false, false, false, false, false, false, false, false, false, false, false]) rfl (by kernel_rfl) rfl (fun _ => (q_congr (q_subx rfl rfl (by omega) (by omega)) (v' := .int .i64 (j5 - 1 : Nat)) (congrArg (Value.int .i64) (by omega)))) (by kernel_rfl) ?_
                      refine at_q (i := 5) (li := #[true, true, true, true, true, true, false, false, false, false, false, false, false, false, false, false, false, false]) rfl (by kernel_rfl) rfl (fun _ => (q_move rfl)) (by kernel_rfl) ?_
                      refine at_q (i := 6) (li := #[true, true, true, true, true, true, true, false, false, false, false, false, false, false, false, false, false, false]) rfl (by kernel_rfl) rfl (fun _ => (q_move rfl)) (by kernel_rfl) ?_
                      refine at_q (i := 7) (li := #[true, true, true, true, true, true, true, true, false, false, false, false, false, false, false, false, false, false]) rfl (by kernel_rfl) rfl (fun _ => (q_congr (q_subx rfl rfl (by omega) (by omega)) (v' := .int .i64 (j5 - 1 : Nat)) (congrArg (Value.int .i64) (by omega)))) (by kernel_rfl) ?_
                      refine at_q (i := 8) (li := #[true, true, true, true, true, true, true, true, true, false, false, false, false, false, false, false, false, false]) rfl (by kernel_rfl) rfl (fun _ => (q_indexAddr (e := 23) (size := 2) (by kernel_rfl) (by kernel_rfl) rfl rfl (by omega) (by omega))) (by kernel_rfl) ?_
                      refine at_l (i := 9) (li := #[true, true, true, true, true, true, true, true, true, true, false, false, false, false, false, false, false, false]) (cellsAre _ _ 2 _) rfl (by kernel_rfl) rfl (fun _ h => q_loadc (n := 2) (by kernel_rfl) rfl h) (hd.elem (i := ((j5 - 1 : Nat) : Int)) (by omega) (by omega)) (by kernel_rfl) ?_
                      refine at_q (i := 10) (li := #[true, true, true, true, true, true, true, true, true, true, true, false, false, false, false, false, false, false]) rfl (by kernel_rfl) rfl (fun _ => (q_move rfl)) (by kernel_rfl) ?_
                      refine at_q (i := 11) (li := #[true, true, true, true, true, true, true, true, true, true, true, true, false, false, false, false, false, false]) rfl (by kernel_rfl) rfl (fun _ => (q_move rfl)) (by kernel_rfl) ?_
                      refine at_q (i := 12) (li := #[true, true, true, true, true, true, true, true, true, true, true, true, true, false, false, false, false, false]) rfl (by kernel_rfl) rfl (fun _ => (q_indexAddr (e := 23) (size := 2) (by kernel_rfl) (by kernel_rfl) rfl rfl (by omega) (by omega))) (by kernel_rfl) ?_
                      refine at_l (i := 13) (li := #[true, true, true, true, true, true, true, true, true, true, true, true, true, true, false, false, false, false]) (cellsAre _ _ 2 _) rfl (by kernel_rfl) rfl (fun _ h => q_loadc (n := 2) (by kernel_rfl) rfl h) (hd.elem (i := ((j5 : Nat) : Int)) (by omega) (by omega)) (by kernel_rfl) ?_
                      refine at_q (i := 14) (li := #[true, true, true, true, true, true, true, true, true, true, true, true, true, true, true, false, false, false]) rfl (by kernel_rfl) rfl (fun _ => (q_indexAddr (e := 23) (size := 2) (by kernel_rfl) (by kernel_rfl) rfl rfl (by omega) (by omega))) (by kernel_rfl) ?_
                      refine at_h0 (i := 15) (li := #[true, true, true, true, true, true, true, true, true, true, true, true, true, true, true, true, false, false]) rfl (by kernel_rfl) (keep_sift (bs := [true, true]) (by kernel_rfl)) (by kernel_rfl) (h_storeD (i := ((j5 : Nat) : Int)) (e := d5[((j5 - 1 : Nat) : Int).toNat]!) hs19.sat hd rfl rfl (by kernel_rfl) (by omega) (by omega) fun w20 hs20 hd20 => ?_)
                      replace hT := hT.also hs20
                      clear hd; have hd := hd20; clear hd20
                      refine ⟨(by repeat' first | exact trivial | exact (hd.elem (i := ((j5 - 1 : Nat) : Int)) (by omega) (by omega)) | exact (hd.elem (i := ((j5 : Nat) : Int)) (by omega) (by omega)) | assumption | refine all_keep ?_ | refine And.intro ?_ ?_), ?_⟩
                      refine at_q (i := 16) (li := #[true, true, true, true, true, true, true, true, true, true, true, true, true, true, true, true, true, false]) rfl (by kernel_rfl) rfl (fun _ => (q_indexAddr (e := 23) (size := 2) (by kernel_rfl) (by kernel_rfl) rfl rfl (by omega) (by omega))) (by kernel_rfl) ?_
                      refine at_h0 (i := 17) (li := #[true, true, true, true, true, true, true, true, true, true, true, true, true, true, true, true, true, true]) rfl (by kernel_rfl) rfl (by kernel_rfl) (h_storeD (i := ((j5 - 1 : Nat) : Int)) (e := d5[((j5 : Nat) : Int).toNat]!) hs20.sat hd rfl rfl (by kernel_rfl) (by omega) (by omega) fun w21 hs21 hd21 => ?_)
                      replace hT := hT.also hs21
                      clear hd; have hd := hd21; clear hd21
                      refine ⟨(by repeat' first | exact trivial | exact (hd.elem (i := ((j5 - 1 : Nat) : Int)) (by omega) (by omega)) | exact (hd.elem (i := ((j5 : Nat) : Int)) (by omega) (by omega)) | assumption | refine all_keep ?_ | refine And.intro ?_ ?_), ?_⟩
                      refine at_done (by kernel_rfl) (hK52 _ _ ?_)
                      clear hK52 K52
                      refine hK48 _ _ ?_
                      clear hK48 K48
                      refine cw_region fun K53 hK53 => ?_
                      -- region 21
                      refine as_q rfl rfl (q_move rfl) ?_
                      refine as_q rfl rfl (q_congr (q_addx rfl rfl (by omega) (by omega)) (v' := .int .i64 (j5 + 1 : Nat)) (congrArg (Value.int .i64) (by omega))) ?_
                      refine as_q rfl rfl (q_assign rfl) ?_
                      refine as_nil (hK53 _ _ ?_)
                      clear hK53 K53
                      exact ⟨_, _, by omega, (.cons rfl (.cons rfl (.cons rfl (.cons rfl (.cons rfl (.cons rfl (.cons rfl (.nil _)))))))), j5 + 1, Go.Sort.swp d5 j5 (j5 - 1), rfl, by omega, by omega, (up_step hj5b hl9).symm.trans hj5e, rfl, hT, hd⟩
                  · skip
                    have hj5b : b ≤ j5 := by have := of_decide_eq_false hc8; omega
                    have hU : (if b - i2 ≥ 2 then Go.Sort.shiftUp ltE b (i2 + 1) d3 else d3) = d5 := (if_pos h2b).trans (hj5e.symm.trans (up_out hj5b))
                    skip
                    · skip
                      refine cw_exit ?_
                      refine hK7 _ _ ?_
                      clear hK46 K46
                      clear hK7 K7
                      refine cw_region fun K54 hK54 => ?_
                      -- region 4
                      refine as_q rfl rfl (q_move rfl) ?_
                      refine as_q rfl rfl (q_addx rfl rfl (by omega) (by omega)) ?_
                      refine as_q rfl rfl (q_assign rfl) ?_
                      refine as_nil (hK54 _ _ ?_)
                      clear hK54 K54
                      rw [pi_step hss hib h50 hd2 hD hU, show s = 5 - (q + 1) from by omega] at hpi
                      exact ⟨_, _, by omega, (.cons rfl (.cons rfl (.cons rfl (.cons rfl (.cons rfl (.cons rfl (.nil _))))))), q + 1, i2, d5, rfl, by omega, by omega, by omega, hpi, rfl, hT, hd⟩
                · skip
                  have h2b : ¬ b - i2 ≥ 2 := by have := of_decide_eq_false hc7; omega
                  have hU : (if b - i2 ≥ 2 then Go.Sort.shiftUp ltE b (i2 + 1) d3 else d3) = d3 := if_neg h2b
                  skip
                  · skip
                    refine cw_skip ?_
                    refine hK7 _ _ ?_
                    clear hK7 K7
                    refine cw_region fun K55 hK55 => ?_
                    -- region 4
                    refine as_q rfl rfl (q_move rfl) ?_
                    refine as_q rfl rfl (q_addx rfl rfl (by omega) (by omega)) ?_
                    refine as_q rfl rfl (q_assign rfl) ?_
                    refine as_nil (hK55 _ _ ?_)
                    clear hK55 K55
                    rw [pi_step hss hib h50 hd2 hD hU, show s = 5 - (q + 1) from by omega] at hpi
                    exact ⟨_, _, by omega, (.cons rfl (.cons rfl (.cons rfl (.cons rfl (.cons rfl (.cons rfl (.nil _))))))), q + 1, i2, d3, rfl, by omega, by omega, by omega, hpi, rfl, hT, hd⟩
          · skip
            have h2a : ¬ i2 - a ≥ 2 := by have := of_decide_eq_false hc4; omega
            have hD : (if i2 - a ≥ 2 then Go.Sort.shiftDown ltE (i2 - 1) d2 else d2) = d2 := if_neg h2a
            skip
            · skip
              refine cw_skip ?_
              refine hK22 _ _ ?_
              clear hK22 K22
              refine cw_rs fun K56 hK56 => ?_
              -- region 18
              refine as_q rfl rfl (q_move rfl) ?_
              refine as_q rfl rfl (q_move rfl) ?_
              refine as_q rfl rfl (q_congr (q_subx rfl rfl (by omega) (by omega)) (v' := .int .i64 (b - i2 : Nat)) (congrArg (Value.int .i64) (by omega))) ?_
              refine as_q rfl rfl (q_ge rfl rfl) ?_
              refine as_nil (hK56 _ _ ?_)
              clear hK56 K56
              refine cw_cond rfl (fun hc7 => ?_) (fun hc7 => ?_)
              · skip
                have h2b : b - i2 ≥ 2 := by have := of_decide_eq_true hc7; omega
                refine cw_rs fun K57 hK57 => ?_
                -- region 19
                refine as_q rfl rfl (q_move rfl) ?_
                refine as_q rfl rfl (q_congr (q_addx rfl rfl (by omega) (by omega)) (v' := .int .i64 (i2 + 1 : Nat)) (congrArg (Value.int .i64) (by omega))) ?_
                refine as_q rfl rfl (q_assign rfl) ?_
                refine as_nil (hK57 _ _ ?_)
                clear hK57 K57
                refine cw_block ?_
                refine cw_loop (fun mm l w1 => ∃ (qj : Nat) (d5 : Array El), mm = b - qj ∧ i2 + 1 ≤ qj ∧ qj ≤ b ∧ Go.Sort.shiftUp ltE b qj d5 = Go.Sort.shiftUp ltE b (i2 + 1) d2 ∧ l = [(0, .slice (some ⟨g, 0, none⟩) n cap), (1, .int .i64 a), (2, .int .i64 b), (3, (.func (.func 16) #[] #[])), (9, .int .i64 i2), (10, .int .i64 q), (12, .int .i64 qj)] ∧ Step (Just g) M w M w1 ∧ ElRow 23 w1 M g n cap d5) (b - (i2 + 1)) [(0, .slice (some ⟨g, 0, none⟩) n cap), (1, .int .i64 a), (2, .int .i64 b), (3, (.func (.func 16) #[] #[])), (9, .int .i64 i2), (10, .int .i64 q), (12, .int .i64 (i2 + 1 : Nat))] (.cons rfl (.cons rfl (.cons rfl (.cons rfl (.cons rfl (.cons rfl (.cons rfl (.nil _)))))))) ?_ ?_
                · skip
                  exact ⟨i2 + 1, d2, rfl, Nat.le_refl _, by omega, rfl, rfl, hT, hd⟩
                clear hT hd
                rintro mm l w1 ⟨j5, d5, rfl, hj5i, hj5q, hj5e, rfl, hT, hd⟩
                refine cw_seq fun K58 hK58 => ?_
                refine cw_rs fun K59 hK59 => ?_
                -- region 20
                refine as_q rfl rfl (q_move rfl) ?_
                refine as_q rfl rfl (q_move rfl) ?_
                first | refine as_q rfl rfl (q_ltT rfl rfl (by omega)) ?_ | refine as_q rfl rfl (q_ltF rfl rfl (by omega)) ?_ | refine as_q rfl rfl (q_lt rfl rfl) ?_
                refine as_nil (hK59 _ _ ?_)
                clear hK59 K59
                refine cw_cond rfl (fun hc8 => ?_) (fun hc8 => ?_)
                · skip
                  have hj5b : j5 < b := by have := of_decide_eq_true hc8; omega
                  refine cw_skip ?_
                  refine hK58 _ _ ?_
                  clear hK58 K58
                  refine cw_seq fun K60 hK60 => ?_
                  refine cw_block ?_
                  refine cw_seq fun K61 hK61 => ?_
                  refine cw_rd (by kernel_rfl) (by kernel_rfl) (by kernel_rfl) rfl rfl fun K62 hK62 => ?_
                  -- region 22
                  have hs22 := Step.drew hT.sat
                  replace hd := hd.then hs22
                  replace hT := hT.then hs22
                  refine at_q (i := 0) (li := #[true, false, false, false, false, false, false, false, false, false, false, false, false]) rfl (by kernel_rfl) rfl (fun _ => (q_move rfl)) (by kernel_rfl) ?_
                  refine at_q (i := 1) (li := #[true, true, false, false, false, false, false, false, false, false, false, false, false]) rfl (by kernel_rfl) rfl (fun _ => (q_move rfl)) (by kernel_rfl) ?_
                  refine at_q (i := 2) (li := #[true, true, true, false, false, false, false, false, false, false, false, false, false]) rfl (by kernel_rfl) rfl (fun _ => (q_move rfl)) (by kernel_rfl) ?_
                  refine at_q (i := 3) (li := #[true, true, true, true, false, false, false, false, false, false, false, false, false]) rfl (by kernel_rfl) rfl (fun _ => (q_indexAddr (e := 23) (size := 2) (by kernel_rfl) (by kernel_rfl) rfl rfl (by omega) (by omega))) (by kernel_rfl) ?_
                  refine at_l (i := 4) (li := #[true, true, true, true, true, false, false, false, false, false, false, false, false]) (cellsAre _ _ 2 _) rfl (by kernel_rfl) rfl (fun _ h => q_loadc (n := 2) (by kernel_rfl) rfl h) (hd.elem (i := ((j5 : Nat) : Int)) (by omega) (by omega)) (by kernel_rfl) ?_
                  refine at_q (i := 5) (li := #[true, true, true, true, true, true, false, false, false, false, false, false, false]) rfl (by kernel_rfl) rfl (fun _ => (q_move rfl)) (by kernel_rfl) ?_
                  refine at_q (i := 6) (li := #[true, true, true, true, true, true, true, false, false, false, false, false, false]) rfl (by kernel_rfl) rfl (fun _ => (q_move rfl)) (by kernel_rfl) ?_
                  refine at_q (i := 7) (li := #[true, true, true, true, true, true, true, true, false, false, false, false, false]) rfl (by kernel_rfl) rfl (fun _ => (q_congr (q_subx rfl rfl (by omega) (by omega)) (v' := .int .i64 (j5 - 1 : Nat)) (congrArg (Value.int .i64) (by omega)))) (by kernel_rfl) ?_
                  refine at_q (i := 8) (li := #[true, true, true, true, true, true, true, true, true, false, false, false, false]) rfl (by kernel_rfl) rfl (fun _ => (q_indexAddr (e := 23) (size := 2) (by kernel_rfl) (by kernel_rfl) rfl rfl (by omega) (by omega))) (by kernel_rfl) ?_
                  refine at_l (i := 9) (li := #[true, true, true, true, true, true, true, true, true, true, false, false, false]) (cellsAre _ _ 2 _) rfl (by kernel_rfl) rfl (fun _ h => q_loadc (n := 2) (by kernel_rfl) rfl h) (hd.elem (i := ((j5 - 1 : Nat) : Int)) (by omega) (by omega)) (by kernel_rfl) ?_
                  refine at_h (i := 10) (li := #[true, true, true, true, true, true, true, true, true, true, true, false, false]) rfl (by kernel_rfl) rfl (keep_sift (bs := [true, true]) (by kernel_rfl)) (by kernel_rfl) (h_callv (f := 16) (first := []) (cap := []) (by kernel_rfl) rfl rfl rfl ?_)
                  refine (srt_compare (a := d5[((j5 : Nat) : Int).toNat]!) (b := d5[((j5 - 1 : Nat) : Int).toNat]!) hs22.sat).mono ?_
                  rintro _ w23 ⟨rfl, hs23⟩
                  replace hd := hd.then hs23
                  replace hT := hT.then hs23
                  refine ⟨(by repeat' first | exact trivial | exact (hd.elem (i := ((j5 : Nat) : Int)) (by omega) (by omega)) | exact (hd.elem (i := ((j5 - 1 : Nat) : Int)) (by omega) (by omega)) | assumption | refine all_keep ?_ | refine And.intro ?_ ?_), ?_⟩
                  first | refine at_q (i := 11) (li := #[true, true, true, true, true, true, true, true, true, true, true, true, false]) rfl (by kernel_rfl) rfl (fun _ => (q_ltT rfl rfl (by omega))) (by kernel_rfl) ?_ | refine at_q (i := 11) (li := #[true, true, true, true, true, true, true, true, true, true, true, true, false]) rfl (by kernel_rfl) rfl (fun _ => (q_ltF rfl rfl (by omega))) (by kernel_rfl) ?_ | refine at_q (i := 11) (li := #[true, true, true, true, true, true, true, true, true, true, true, true, false]) rfl (by kernel_rfl) rfl (fun _ => (q_lt rfl rfl)) (by kernel_rfl) ?_
                  refine at_q (i := 12) (li := #[true, true, true, true, true, true, true, true, true, true, true, true, true]) rfl (by kernel_rfl) rfl (fun _ => (q_not rfl)) (by kernel_rfl) ?_
                  refine at_done (by kernel_rfl) (hK62 _ _ ?_)
                  clear hK62 K62
                  refine cw_cond rfl (fun hc9 => ?_) (fun hc9 => ?_)
                  · skip
                    have hl9 : (!ltE d5[j5]! d5[j5 - 1]!) = true := hc9
                    have hU : (if b - i2 ≥ 2 then Go.Sort.shiftUp ltE b (i2 + 1) d2 else d2) = d5 := (if_pos h2b).trans (hj5e.symm.trans (up_stop hj5b hl9))
                    skip
                    · skip
                      refine cw_exit ?_
                      refine hK7 _ _ ?_
                      clear hK61 K61
                      clear hK60 K60
                      clear hK7 K7
                      refine cw_region fun K63 hK63 => ?_
                      -- region 4
                      refine as_q rfl rfl (q_move rfl) ?_
                      refine as_q rfl rfl (q_addx rfl rfl (by omega) (by omega)) ?_
                      refine as_q rfl rfl (q_assign rfl) ?_
                      refine as_nil (hK63 _ _ ?_)
                      clear hK63 K63
                      rw [pi_step hss hib h50 hd2 hD hU, show s = 5 - (q + 1) from by omega] at hpi
                      exact ⟨_, _, by omega, (.cons rfl (.cons rfl (.cons rfl (.cons rfl (.cons rfl (.cons rfl (.nil _))))))), q + 1, i2, d5, rfl, by omega, by omega, by omega, hpi, rfl, hT, hd⟩
                  · skip
                    have hl9 : (!ltE d5[j5]! d5[j5 - 1]!) = false := hc9
                    refine cw_skip ?_
                    refine hK61 _ _ ?_
                    clear hK61 K61
                    refine cw_drawn (by kernel_rfl) (by kernel_rfl) (by kernel_rfl) rfl rfl fun K64 hK64 => ?_
                    -- region 23
                    have hs24 := Step.drew hs23.sat
                    replace hd := hd.then hs24
                    replace hT := hT.then hs24
                    refine at_q (i := 0) (li := #[true, false, false, false, false, false, false, false, false, false, false, false, false, false, false, false, false, false]) rfl (by kernel_rfl) rfl (fun _ => (q_move rfl)) (by kernel_rfl) ?_
                    refine at_q (i := 1) (li := #[true, true, false, false, false, false, false, false, false, false, false, false, false, false, false, false, false, false]) rfl (by kernel_rfl) rfl (fun _ => (q_move rfl)) (by kernel_rfl) ?_
                    refine at_q (i := 2) (li := #[true, true, true, false, false, false, false, false, false, false, false, false, false, false, false, false, false, false]) rfl (by kernel_rfl) rfl (fun _ => (q_move rfl)) (by kernel_rfl) ?_
                    refine at_q (i := 3) (li := #[true, true, true, true, false, false, false, false, false, false, false, false, false, false, false, false, false, false]) rfl (by kernel_rfl) rfl (fun _ => (q_move rfl)) (by kernel_rfl) ?_
                    refine at_q (i := 4) (li := #[true, true, true, true, true, false, false, false, false, false, false, false, false, false, false, false, false, false]) rfl (by kernel_rfl) rfl (fun _ => (q_congr (q_subx rfl rfl (by omega) (by omega)) (v' := .int .i64 (j5 - 1 : Nat)) (congrArg (Value.int .i64) (by omega)))) (by kernel_rfl) ?_
                    refine at_q (i := 5) (li := #[true, true, true, true, true, true, false, false, false, false, false, false, false, false, false, false, false, false]) rfl (by kernel_rfl) rfl (fun _ => (q_move rfl)) (by kernel_rfl) ?_
                    refine at_q (i := 6) (li := #[true, true, true, true, true, true, true, false, false, false, false, false, false, false, false, false, false, false]) rfl (by kernel_rfl) rfl (fun _ => (q_move rfl)) (by kernel_rfl) ?_
                    refine at_q (i := 7) (li := #[true, true, true, true, true, true, true, true, false, false, false, false, false, false, false, false, false, false]) rfl (by kernel_rfl) rfl (fun _ => (q_congr (q_subx rfl rfl (by omega) (by omega)) (v' := .int .i64 (j5 - 1 : Nat)) (congrArg (Value.int .i64) (by omega)))) (by kernel_rfl) ?_
                    refine at_q (i := 8) (li := #[true, true, true, true, true, true, true, true, true, false, false, false, false, false, false, false, false, false]) rfl (by kernel_rfl) rfl (fun _ => (q_indexAddr (e := 23) (size := 2) (by kernel_rfl) (by kernel_rfl) rfl rfl (by omega) (by omega))) (by kernel_rfl) ?_
                    refine at_l (i := 9) (li := #[true, true, true, true, true, true, true, true, true, true, false, false, false, false, false, false, false, false]) (cellsAre _ _ 2 _) rfl (by kernel_rfl) rfl (fun _ h => q_loadc (n := 2) (by kernel_rfl) rfl h) (hd.elem (i := ((j5 - 1 : Nat) : Int)) (by omega) (by omega)) (by kernel_rfl) ?_
                    refine at_q (i := 10) (li := #[true, true, true, true, true, true, true, true, true, true, true, false, false, false, false, false, false, false]) rfl (by kernel_rfl) rfl (fun _ => (q_move rfl)) (by kernel_rfl) ?_
                    refine at_q (i := 11) (li := #[true, true, true, true, true, true, true, true, true, true, true, true, false, false, false, false, false, false]) rfl (by kernel_rfl) rfl (fun _ => (q_move rfl)) (by kernel_rfl) ?_
                    refine at_q (i := 12) (li := #[true, true, true, true, true, true, true, true, true, true, true, true, true, false, false, false, false, false]) rfl (by kernel_rfl) rfl (fun _ => (q_indexAddr (e := 23) (size := 2) (by kernel_rfl) (by kernel_rfl) rfl rfl (by omega) (by omega))) (by kernel_rfl) ?_
                    refine at_l (i := 13) (li := #[true, true, true, true, true, true, true, true, true, true, true, true, true, true, false, false, false, false]) (cellsAre _ _ 2 _) rfl (by kernel_rfl) rfl (fun _ h => q_loadc (n := 2) (by kernel_rfl) rfl h) (hd.elem (i := ((j5 : Nat) : Int)) (by omega) (by omega)) (by kernel_rfl) ?_
                    refine at_q (i := 14) (li := #[true, true, true, true, true, true, true, true, true, true, true, true, true, true, true, false, false, false]) rfl (by kernel_rfl) rfl (fun _ => (q_indexAddr (e := 23) (size := 2) (by kernel_rfl) (by kernel_rfl) rfl rfl (by omega) (by omega))) (by kernel_rfl) ?_
                    refine at_h0 (i := 15) (li := #[true, true, true, true, true, true, true, true, true, true, true, true, true, true, true, true, false, false]) rfl (by kernel_rfl) (keep_sift (bs := [true, true]) (by kernel_rfl)) (by kernel_rfl) (h_storeD (i := ((j5 : Nat) : Int)) (e := d5[((j5 - 1 : Nat) : Int).toNat]!) hs24.sat hd rfl rfl (by kernel_rfl) (by omega) (by omega) fun w25 hs25 hd25 => ?_)
                    replace hT := hT.also hs25
                    clear hd; have hd := hd25; clear hd25
                    refine ⟨(by repeat' first | exact trivial | exact (hd.elem (i := ((j5 - 1 : Nat) : Int)) (by omega) (by omega)) | exact (hd.elem (i := ((j5 : Nat) : Int)) (by omega) (by omega)) | assumption | refine all_keep ?_ | refine And.intro ?_ ?_), ?_⟩
                    refine at_q (i := 16) (li := #[true, true, true, true, true, true, true, true, true, true, true, true, true, true, true, true, true, false]) rfl (by kernel_rfl) rfl (fun _ => (q_indexAddr (e := 23) (size := 2) (by kernel_rfl) (by kernel_rfl) rfl rfl (by omega) (by omega))) (by kernel_rfl) ?_
                    refine at_h0 (i := 17) (li := #[true, true, true, true, true, true, true, true, true, true, true, true, true, true, true, true, true, true]) rfl (by kernel_rfl) rfl (by kernel_rfl) (h_storeD (i := ((j5 - 1 : Nat) : Int)) (e := d5[((j5 : Nat) : Int).toNat]!) hs25.sat hd rfl rfl (by kernel_rfl) (by omega) (by omega) fun w26 hs26 hd26 => ?_)
                    replace hT := hT.also hs26
                    clear hd; have hd := hd26; clear hd26
                    refine ⟨(by repeat' first | exact trivial | exact (hd.elem (i := ((j5 - 1 : Nat) : Int)) (by omega) (by omega)) | exact (hd.elem (i := ((j5 : Nat) : Int)) (by omega) (by omega)) | assumption | refine all_keep ?_ | refine And.intro ?_ ?_), ?_⟩
                    refine at_done (by kernel_rfl) (hK64 _ _ ?_)
                    clear hK64 K64
                    refine hK60 _ _ ?_
                    clear hK60 K60
                    refine cw_region fun K65 hK65 => ?_
                    -- region 21
                    refine as_q rfl rfl (q_move rfl) ?_
                    refine as_q rfl rfl (q_congr (q_addx rfl rfl (by omega) (by omega)) (v' := .int .i64 (j5 + 1 : Nat)) (congrArg (Value.int .i64) (by omega))) ?_
                    refine as_q rfl rfl (q_assign rfl) ?_
                    refine as_nil (hK65 _ _ ?_)
                    clear hK65 K65
                    exact ⟨_, _, by omega, (.cons rfl (.cons rfl (.cons rfl (.cons rfl (.cons rfl (.cons rfl (.cons rfl (.nil _)))))))), j5 + 1, Go.Sort.swp d5 j5 (j5 - 1), rfl, by omega, by omega, (up_step hj5b hl9).symm.trans hj5e, rfl, hT, hd⟩
                · skip
                  have hj5b : b ≤ j5 := by have := of_decide_eq_false hc8; omega
                  have hU : (if b - i2 ≥ 2 then Go.Sort.shiftUp ltE b (i2 + 1) d2 else d2) = d5 := (if_pos h2b).trans (hj5e.symm.trans (up_out hj5b))
                  skip
                  · skip
                    refine cw_exit ?_
                    refine hK7 _ _ ?_
                    clear hK58 K58
                    clear hK7 K7
                    refine cw_region fun K66 hK66 => ?_
                    -- region 4
                    refine as_q rfl rfl (q_move rfl) ?_
                    refine as_q rfl rfl (q_addx rfl rfl (by omega) (by omega)) ?_
                    refine as_q rfl rfl (q_assign rfl) ?_
                    refine as_nil (hK66 _ _ ?_)
                    clear hK66 K66
                    rw [pi_step hss hib h50 hd2 hD hU, show s = 5 - (q + 1) from by omega] at hpi
                    exact ⟨_, _, by omega, (.cons rfl (.cons rfl (.cons rfl (.cons rfl (.cons rfl (.cons rfl (.nil _))))))), q + 1, i2, d5, rfl, by omega, by omega, by omega, hpi, rfl, hT, hd⟩
              · skip
                have h2b : ¬ b - i2 ≥ 2 := by have := of_decide_eq_false hc7; omega
                have hU : (if b - i2 ≥ 2 then Go.Sort.shiftUp ltE b (i2 + 1) d2 else d2) = d2 := if_neg h2b
                skip
                · skip
                  refine cw_skip ?_
                  refine hK7 _ _ ?_
                  clear hK7 K7
                  refine cw_region fun K67 hK67 => ?_
                  -- region 4
                  refine as_q rfl rfl (q_move rfl) ?_
                  refine as_q rfl rfl (q_addx rfl rfl (by omega) (by omega)) ?_
                  refine as_q rfl rfl (q_assign rfl) ?_
                  refine as_nil (hK67 _ _ ?_)
                  clear hK67 K67
                  rw [pi_step hss hib h50 hd2 hD hU, show s = 5 - (q + 1) from by omega] at hpi
                  exact ⟨_, _, by omega, (.cons rfl (.cons rfl (.cons rfl (.cons rfl (.cons rfl (.cons rfl (.nil _))))))), q + 1, i2, d2, rfl, by omega, by omega, by omega, hpi, rfl, hT, hd⟩
  · skip
    have hq5 : q = 5 := by have := of_decide_eq_false hc0; omega
    refine cw_exit ?_
    refine hK3 _ _ ?_
    clear hK5 K5
    clear hK3 K3
    refine cw_rs fun K68 hK68 => ?_
    -- region 24
    refine as_q rfl rfl (q_assign rfl) ?_
    refine as_nil (hK68 _ _ ?_)
    clear hK68 K68
    refine cw_ret ?_
    rw [hq5] at hpi
    replace hpi : (d1, false) = _ := hpi
    rw [← hpi]
    exact ⟨_, (res_tmp rfl res_nil), rfl, hT, hd⟩

end Go.Proofs.YtbfjkclijjhlhaaDoor
