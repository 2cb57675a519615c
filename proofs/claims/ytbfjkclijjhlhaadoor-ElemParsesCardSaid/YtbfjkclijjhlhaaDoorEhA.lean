/- The document s numbers and texts, part 1. -/
import Derived.Test.YtbfjkclijjhlhaaDoorEaA
import Derived.Test.YtbfjkclijjhlhaaDoorNum2
namespace Go.Proofs.YtbfjkclijjhlhaaDoor
open Go Go.Eng
def DigOk (k : Nat) : Prop := ∀ {w : World} {M : Mem} {u : Nat}, u < k → Sat M w → u ≤ 9223372036854775808 →
    Does Tryd.prog 33 #[.int .i64 (-(u : Int))] w (fun v w' => v = .string ⟨(Lib.decDigits u).toArray⟩ ∧ Step Nope M w M w')

theorem ref_digits_step {w : World} {M : Mem} {u : Nat} (ih : DigOk u) (hs : Sat M w) (hu : u ≤ 9223372036854775808) :
    Does Tryd.prog 33 #[.int .i64 (-(u : Int))] w (fun v w' => v = .string ⟨(Lib.decDigits u).toArray⟩ ∧ Step Nope M w M w') := by
  have hT := Step.refl Nope hs
  have hdl := dec_length 18 (u / 10) (by rw [show (10 : Nat) ^ (18 + 1) = 10000000000000000000 from by decide]; omega)
  refine fn_enter Tryd.func33 rfl (rs := [.tmp 2]) rfl rfl rfl rfl ?_
  refine cw_rs fun K1 hK1 => ?_
  -- region 0
  refine as_q rfl rfl (q_assign rfl) ?_
  refine as_nil (hK1 _ _ ?_)
  clear hK1 K1
  refine cw_rs fun K2 hK2 => ?_
  -- region 1
  refine as_q rfl rfl (q_assign rfl) ?_
  refine as_nil (hK2 _ _ ?_)
  clear hK2 K2
  refine cw_seq fun K3 hK3 => ?_
  refine cw_rs fun K4 hK4 => ?_
  -- region 2
  refine as_q rfl rfl (q_move rfl) ?_
  refine as_q rfl rfl (q_le rfl rfl) ?_
  refine as_nil (hK4 _ _ ?_)
  clear hK4 K4
  refine cw_cond rfl (fun hc0 => ?_) (fun hc0 => ?_)
  · skip
    have h10 : 10 ≤ u := by have := of_decide_eq_true hc0; omega
    skip
    · skip
      refine cw_region fun K5 hK5 => ?_
      -- region 3
      refine as_q rfl rfl (q_move rfl) ?_
      refine as_q rfl rfl (q_congr (q_quo rfl rfl (by decide)) (v' := .int .i64 (-((u / 10 : Nat) : Int))) (by rw [Int.neg_tdiv, show ((u : Int)).tdiv 10 = ((u / 10 : Nat) : Int) from by rw [Int.tdiv_eq_ediv_of_nonneg (by omega)]; omega, wrap64_of (by omega) (by omega)])) ?_
      refine as_h rfl (h_call (by kernel_rfl) rfl ?_)
      refine (ih (u := u / 10) (by omega) hs (by omega)).mono ?_
      rintro _ w1 ⟨rfl, hs1⟩
      replace hT := hT.then hs1
      refine as_q rfl rfl (q_assign rfl) ?_
      refine as_nil (hK5 _ _ ?_)
      clear hK5 K5
      refine hK3 _ _ ?_
      clear hK3 K3
      refine cw_rs fun K6 hK6 => ?_
      -- region 4
      refine as_q rfl rfl (q_move rfl) ?_
      refine as_q rfl rfl (q_move rfl) ?_
      refine as_q rfl rfl (q_congr (q_rem rfl rfl (by decide)) (v' := .int .i64 (-((u % 10 : Nat) : Int))) (congrArg (Value.int .i64) (by rw [Int.neg_tmod, show ((u : Int)).tmod 10 = ((u % 10 : Nat) : Int) from by rw [Int.tmod_eq_emod_of_nonneg (by omega)]; omega]))) ?_
      refine as_q rfl rfl (q_congr (q_subx rfl rfl (by omega) (by omega)) (v' := .int .i64 ((48 + u % 10 : Nat) : Int)) (congrArg (Value.int .i64) (by omega))) ?_
      refine as_q rfl rfl (q_convx (k' := .u8) (by kernel_rfl) (by kernel_rfl) rfl (show IntKind.u8.wrap ((48 + u % 10 : Nat) : Int) = ((48 + u % 10 : Nat) : Int) by simp [IntKind.wrap, IntKind.bits, IntKind.signed]; omega)) ?_
      refine as_h rfl (h_buildO (e := 5) (size := 1) (zs := [(.int .u8 0)]) (cs := [_]) (by kernel_rfl) (by kernel_rfl) (by kernel_rfl) rfl hs1.sat rfl rfl fun bb w2 hs2 hob eb => ?_)
      replace hT := hT.then hs2
      have hlb := hob.1.lt
      refine as_q rfl rfl (q_byteS (b := UInt8.ofNat (48 + u % 10)) Tryd.underlying41 Tryd.underlying5 Tryd.underlying9 rfl (by rw [toNat_digit (by omega)]; exact hob.1.cell rfl)) ?_
      refine as_q rfl rfl (q_catL (a := Lib.decDigits (u / 10)) (b := [_]) rfl rfl (by simp; omega)) ?_
      refine as_q rfl rfl (q_assign rfl) ?_
      refine as_nil (hK6 _ _ ?_)
      clear hK6 K6
      refine cw_ret ?_
      refine ⟨_, (res_tmp rfl res_nil), ?_, hT⟩
      rw [show Lib.decDigits u = Lib.decDigits (u / 10) ++ [UInt8.ofNat (48 + u % 10)] from dec_big (by omega)]
      rfl
  · skip
    have h10 : u < 10 := by have := of_decide_eq_false hc0; omega
    skip
    · skip
      refine cw_skip ?_
      refine hK3 _ _ ?_
      clear hK3 K3
      refine cw_rs fun K7 hK7 => ?_
      -- region 4
      refine as_q rfl rfl (q_move rfl) ?_
      refine as_q rfl rfl (q_move rfl) ?_
      refine as_q rfl rfl (q_congr (q_rem rfl rfl (by decide)) (v' := .int .i64 (-((u % 10 : Nat) : Int))) (congrArg (Value.int .i64) (by rw [Int.neg_tmod, show ((u : Int)).tmod 10 = ((u % 10 : Nat) : Int) from by rw [Int.tmod_eq_emod_of_nonneg (by omega)]; omega]))) ?_
      refine as_q rfl rfl (q_congr (q_subx rfl rfl (by omega) (by omega)) (v' := .int .i64 ((48 + u % 10 : Nat) : Int)) (congrArg (Value.int .i64) (by omega))) ?_
      refine as_q rfl rfl (q_convx (k' := .u8) (by kernel_rfl) (by kernel_rfl) rfl (show IntKind.u8.wrap ((48 + u % 10 : Nat) : Int) = ((48 + u % 10 : Nat) : Int) by simp [IntKind.wrap, IntKind.bits, IntKind.signed]; omega)) ?_
      refine as_h rfl (h_buildO (e := 5) (size := 1) (zs := [(.int .u8 0)]) (cs := [_]) (by kernel_rfl) (by kernel_rfl) (by kernel_rfl) rfl hs rfl rfl fun bb w3 hs3 hob eb => ?_)
      replace hT := hT.then hs3
      have hlb := hob.1.lt
      refine as_q rfl rfl (q_byteS (b := UInt8.ofNat (48 + u % 10)) Tryd.underlying41 Tryd.underlying5 Tryd.underlying9 rfl (by rw [toNat_digit (by omega)]; exact hob.1.cell rfl)) ?_
      refine as_q rfl rfl (q_catL (a := []) (b := [_]) rfl rfl (by simp)) ?_
      refine as_q rfl rfl (q_assign rfl) ?_
      refine as_nil (hK7 _ _ ?_)
      clear hK7 K7
      refine cw_ret ?_
      refine ⟨_, (res_tmp rfl res_nil), ?_, hT⟩
      rw [dec_small h10, show u % 10 = u from Nat.mod_eq_of_lt h10]
      rfl

theorem dig_all : ∀ k, DigOk k
  | 0 => fun h => absurd h (by omega)
  | k + 1 => fun h hs hu => ref_digits_step (fun h' => dig_all k (by omega)) hs hu

theorem ref_num_neg {w : World} {M : Mem} {u : Nat} (hs : Sat M w) (h0 : 0 < u) (hu : u ≤ 9223372036854775808) :
    Does Tryd.prog 22 #[.int .i64 (-(u : Int))] w (fun v w' => v = .string ⟨(45 :: Lib.decDigits u).toArray⟩ ∧ Step Nope M w M w') := by
  have hT := Step.refl Nope hs
  have hdl := dec_length 18 u (by rw [show (10 : Nat) ^ (18 + 1) = 10000000000000000000 from by decide]; omega)
  refine fn_enter Tryd.func22 rfl (rs := [.tmp 2]) rfl rfl rfl rfl ?_
  refine cw_rs fun K1 hK1 => ?_
  -- region 0
  refine as_q rfl rfl (q_assign rfl) ?_
  refine as_nil (hK1 _ _ ?_)
  clear hK1 K1
  refine cw_seq fun K2 hK2 => ?_
  refine cw_rs fun K3 hK3 => ?_
  -- region 1
  refine as_q rfl rfl (q_move rfl) ?_
  refine as_q rfl rfl (q_ltT rfl rfl (by omega)) ?_
  refine as_nil (hK3 _ _ ?_)
  clear hK3 K3
  refine cw_true rfl ?_
  refine cw_rs fun K4 hK4 => ?_
  -- region 2
  refine as_q rfl rfl (q_move rfl) ?_
  refine as_h rfl (h_call (by kernel_rfl) rfl ?_)
  refine (dig_all (u + 1) (u := u) (by omega) hs (by omega)).mono ?_
  rintro _ w1 ⟨rfl, hs1⟩
  replace hT := hT.then hs1
  refine as_q rfl rfl (q_catL (a := [45]) rfl rfl (by simp; omega)) ?_
  refine as_q rfl rfl (q_assign rfl) ?_
  refine as_nil (hK4 _ _ ?_)
  clear hK4 K4
  refine cw_ret ?_
  exact ⟨_, (res_tmp rfl res_nil), rfl, hT⟩

theorem ref_num_pos {w : World} {M : Mem} {u : Nat} (hs : Sat M w) (hu : u ≤ 9223372036854775807) :
    Does Tryd.prog 22 #[.int .i64 ((u : Int))] w (fun v w' => v = .string ⟨(Lib.decDigits u).toArray⟩ ∧ Step Nope M w M w') := by
  have hT := Step.refl Nope hs
  refine fn_enter Tryd.func22 rfl (rs := [.tmp 2]) rfl rfl rfl rfl ?_
  refine cw_rs fun K1 hK1 => ?_
  -- region 0
  refine as_q rfl rfl (q_assign rfl) ?_
  refine as_nil (hK1 _ _ ?_)
  clear hK1 K1
  refine cw_seq fun K2 hK2 => ?_
  refine cw_rs fun K3 hK3 => ?_
  -- region 1
  refine as_q rfl rfl (q_move rfl) ?_
  refine as_q rfl rfl (q_ltF rfl rfl (by omega)) ?_
  refine as_nil (hK3 _ _ ?_)
  clear hK3 K3
  refine cw_false rfl ?_
  refine cw_skip ?_
  refine hK2 _ _ ?_
  clear hK2 K2
  refine cw_rs fun K4 hK4 => ?_
  -- region 3
  refine as_q rfl rfl (q_move rfl) ?_
  refine as_q rfl rfl (q_congr (q_neg rfl) (v' := .int .i64 (-(u : Int))) (by rw [wrap64_of (by omega) (by omega)])) ?_
  refine as_h rfl (h_call (by kernel_rfl) rfl ?_)
  refine (dig_all (u + 1) (u := u) (by omega) hs (by omega)).mono ?_
  rintro _ w1 ⟨rfl, hs1⟩
  replace hT := hT.then hs1
  refine as_q rfl rfl (q_assign rfl) ?_
  refine as_nil (hK4 _ _ ?_)
  clear hK4 K4
  refine cw_ret ?_
  exact ⟨_, (res_tmp rfl res_nil), rfl, hT⟩

theorem ref_number {w : World} {M : Mem} {n : Int} (hs : Sat M w) (h : InR n) : Does Tryd.prog 22 #[.int .i64 n] w (fun v w' => v = .string ⟨(Lib.itoa n).toArray⟩ ∧ Step Nope M w M w') := by
  obtain ⟨h0, h1⟩ := h
  rcases Int.lt_or_le n 0 with hn | hn
  · obtain ⟨u, rfl⟩ : ∃ u : Nat, n = -(u : Int) := ⟨n.natAbs, by omega⟩
    have e : Lib.itoa (-(u : Int)) = 45 :: Lib.decDigits u := by
      unfold Lib.itoa
      rw [if_pos hn, show (-(u : Int)).natAbs = u from by omega]
    rw [e]
    exact ref_num_neg hs (by omega) (by omega)
  · obtain ⟨u, rfl⟩ : ∃ u : Nat, n = (u : Int) := ⟨n.toNat, by omega⟩
    have e : Lib.itoa (u : Int) = Lib.decDigits u := by
      unfold Lib.itoa
      rw [if_neg (by omega), show ((u : Int)).toNat = u from by omega]
    rw [e]
    exact ref_num_pos hs (by omega)

theorem ref_text {w : World} {M : Mem} {e : El} (hs : Sat M w) (he : InR e.1 ∧ InR e.2) :
    Does Tryd.prog 21 #[.agg (elc e).toArray] w (fun v w' => v = .string ⟨(textE e).toArray⟩ ∧ Step Nope M w M w') := by
  have hT := Step.refl Nope hs
  have hl1 := itoa_len he.1.1 he.1.2
  have hl2 := itoa_len he.2.1 he.2.2
  refine fn_enter Tryd.func21 rfl (rs := [.tmp 2]) rfl rfl rfl rfl ?_
  refine cw_rs fun K1 hK1 => ?_
  -- region 0
  have hqa1 := hT.size
  refine as_h rfl (h_boxO hs rfl rfl fun b1 w1 hs1 ho1 e1 => ?_)
  replace hT := hT.then hs1
  have hl1 := ho1.1.lt
  refine as_q rfl rfl (q_assign rfl) ?_
  refine as_nil (hK1 _ _ ?_)
  clear hK1 K1
  refine cw_rd (by kernel_rfl) (by kernel_rfl) (by kernel_rfl) rfl rfl fun K2 hK2 => ?_
  -- region 1
  have hs2 := Step.drew hs1.sat
  replace ho1 := ho1.then hs2
  replace hT := hT.then hs2
  refine at_q (i := 0) (li := #[true, false, false, false, false, false, false, false, false]) rfl (by kernel_rfl) rfl (fun _ => (q_fieldAddr (off := 0) (by kernel_rfl) rfl)) (by kernel_rfl) ?_
  refine at_l (i := 1) (li := #[true, true, false, false, false, false, false, false, false]) (cellIs _ _ _) rfl (by kernel_rfl) rfl (fun _ h => q_load1 (by kernel_rfl) rfl h) (by first | exact Blk.cell ho1.1 rfl | assumption) (by kernel_rfl) ?_
  refine at_q (i := 4) (li := #[true, true, false, false, true, false, false, false, false]) rfl (by kernel_rfl) rfl (fun _ => (q_fieldAddr (off := 1) (by kernel_rfl) rfl)) (by kernel_rfl) ?_
  refine at_l (i := 5) (li := #[true, true, false, false, true, true, false, false, false]) (cellIs _ _ _) rfl (by kernel_rfl) rfl (fun _ h => q_load1 (by kernel_rfl) rfl h) (by first | exact Blk.cell ho1.1 rfl | assumption) (by kernel_rfl) ?_
  refine at_h (i := 2) (li := #[true, true, true, false, true, true, false, false, false]) rfl (by kernel_rfl) rfl (keep_sift (bs := [false, true]) (by kernel_rfl)) (by kernel_rfl) (h_call (by kernel_rfl) rfl ?_)
  refine (ref_number hs2.sat he.1).mono ?_
  rintro _ w3 ⟨rfl, hs3⟩
  replace ho1 := ho1.then hs3
  replace hT := hT.then hs3
  refine ⟨(by repeat' first | exact trivial | exact Blk.cell ho1.1 rfl | exact Blk.cells ho1.1 rfl | assumption | refine all_keep ?_ | refine And.intro ?_ ?_), ?_⟩
  refine at_q (i := 3) (li := #[true, true, true, true, true, true, false, false, false]) rfl (by kernel_rfl) rfl (fun _ => (q_catL rfl rfl (by simp; omega))) (by kernel_rfl) ?_
  refine at_h (i := 6) (li := #[true, true, true, true, true, true, true, false, false]) rfl (by kernel_rfl) rfl (keep_sift (bs := [true]) (by kernel_rfl)) (by kernel_rfl) (h_call (by kernel_rfl) rfl ?_)
  refine (ref_number hs3.sat he.2).mono ?_
  rintro _ w4 ⟨rfl, hs4⟩
  replace ho1 := ho1.then hs4
  replace hT := hT.then hs4
  refine ⟨(by repeat' first | exact trivial | exact Blk.cell ho1.1 rfl | exact Blk.cells ho1.1 rfl | assumption | refine all_keep ?_ | refine And.intro ?_ ?_), ?_⟩
  refine at_q (i := 7) (li := #[true, true, true, true, true, true, true, true, false]) rfl (by kernel_rfl) rfl (fun _ => (q_catL rfl rfl (by simp; omega))) (by kernel_rfl) ?_
  refine at_q (i := 8) (li := #[true, true, true, true, true, true, true, true, true]) rfl (by kernel_rfl) rfl (fun _ => (q_assign rfl)) (by kernel_rfl) ?_
  refine at_done (by kernel_rfl) (hK2 _ _ ?_)
  clear hK2 K2
  refine cw_ret ?_
  refine ⟨_, (res_tmp rfl res_nil), ?_, hT⟩
  rw [show textE e = Lib.itoa e.1 ++ [58] ++ Lib.itoa e.2 from by simp [textE]]
  rfl

set_option maxHeartbeats 2000000 in
theorem ref_read {w : World} {M : Mem} {bs : List UInt8} (hs : Sat M w) (hn : bs.length ≤ 1000000) :
    Does Tryd.prog 31 #[.string ⟨bs.toArray⟩] w (fun v w' => ∃ x ok, v = .tuple #[.int .i64 x, .bool ok] ∧ ((InR x ∧ Lib.itoa x = bs ∧ ok = true) ∨ ((∀ p : Int, InR p → Lib.itoa p ≠ bs) ∧ ok = false)) ∧ Step Nope M w M w') := by
  have hT := Step.refl Nope hs
  refine fn_enter Tryd.func31 rfl (rs := [.tmp 2, .tmp 3]) rfl rfl rfl rfl ?_
  refine cw_rs fun K1 hK1 => ?_
  -- region 0
  refine as_q rfl rfl (q_assign rfl) ?_
  refine as_q rfl rfl (q_assign rfl) ?_
  refine as_nil (hK1 _ _ ?_)
  clear hK1 K1
  refine cw_rs fun K2 hK2 => ?_
  -- region 1
  refine as_q rfl rfl (q_assign rfl) ?_
  refine as_nil (hK2 _ _ ?_)
  clear hK2 K2
  refine cw_seq fun K3 hK3 => ?_
  refine cw_rs fun K4 hK4 => ?_
  -- region 2
  refine as_q rfl rfl (q_assign rfl) ?_
  refine as_nil (hK4 _ _ ?_)
  clear hK4 K4
  refine cw_block ?_
  refine cw_loop (fun mm l w1 => ∃ (i : Nat) (acc : Int), mm = bs.length - i ∧ i ≤ bs.length ∧ acc = accE (bs.take i) ∧ l = [(0, .string ⟨bs.toArray⟩), (4, .int .i64 acc), (5, .int .i64 i)] ∧ Step Nope M w M w1) (bs.length) [(0, .string ⟨bs.toArray⟩), (4, .int .i64 0), (5, .int .i64 (0 : Nat))] (.cons rfl (.cons rfl (.cons rfl (.nil _)))) ?_ ?_
  · skip
    exact ⟨0, 0, rfl, Nat.zero_le _, rfl, rfl, hT⟩
  clear hT
  rintro mm l w1 ⟨i, acc, rfl, hi, hacc, rfl, hT⟩
  refine cw_seq fun K5 hK5 => ?_
  refine cw_rs fun K6 hK6 => ?_
  -- region 3
  refine as_q rfl rfl (q_move rfl) ?_
  refine as_q rfl rfl (q_move rfl) ?_
  refine as_q rfl rfl (q_lenL (by kernel_rfl) rfl _) ?_
  refine as_q rfl rfl (q_lt rfl rfl) ?_
  refine as_nil (hK6 _ _ ?_)
  clear hK6 K6
  refine cw_cond rfl (fun hc0 => ?_) (fun hc0 => ?_)
  · skip
    have hlt : i < bs.length := by have := of_decide_eq_true hc0; omega
    obtain ⟨b, hb⟩ : ∃ b, bs[i]? = some b := ⟨bs[i], List.getElem?_eq_getElem _⟩
    have hb256 : b.toNat < 256 := b.toNat_lt
    refine cw_skip ?_
    refine hK5 _ _ ?_
    clear hK5 K5
    refine cw_seq fun K7 hK7 => ?_
    refine cw_block ?_
    refine cw_seq fun K8 hK8 => ?_
    have hc5 : (b.toNat = 45 ∧ i = 0) ∨ (b.toNat = 45 ∧ i ≠ 0) ∨ b.toNat ≠ 45 := by omega
    rcases hc5 with ⟨h45, hi0⟩ | ⟨h45, hi0⟩ | h45
    · skip
      refine cw_rs fun K9 hK9 => ?_
      -- region 5
      refine as_q rfl rfl (q_move rfl) ?_
      refine as_q rfl rfl (q_move rfl) ?_
      refine as_q rfl rfl (q_atL (by kernel_rfl) rfl rfl (by omega) (b := b) (by simpa using hb)) ?_
      refine as_q rfl rfl (q_eqT rfl rfl (by omega)) ?_
      refine as_q rfl rfl (q_move rfl) ?_
      first | refine as_gskip rfl rfl rfl rfl rfl ?_ | refine as_gskipU rfl rfl rfl rfl ?_ | refine as_gh rfl rfl rfl rfl (h_q rfl (q_move rfl) ?_)
      first | refine as_gskip rfl rfl rfl rfl rfl ?_ | refine as_gskipU rfl rfl rfl rfl ?_ | refine as_gh rfl rfl rfl rfl (h_q rfl (q_eqT rfl rfl (by omega)) ?_)
      first | refine as_q rfl rfl (q_pick_t rfl rfl) ?_ | refine as_q rfl rfl (q_pick_f rfl rfl) ?_ | refine as_q rfl rfl (q_pick rfl rfl rfl) ?_
      refine as_nil (hK9 _ _ ?_)
      clear hK9 K9
      refine cw_true rfl ?_
      refine cw_exit ?_
      refine hK7 _ _ ?_
      clear hK8 K8
      clear hK7 K7
      refine cw_region fun K10 hK10 => ?_
      -- region 4
      refine as_q rfl rfl (q_move rfl) ?_
      refine as_q rfl rfl (q_addx rfl rfl (by omega) (by omega)) ?_
      refine as_q rfl rfl (q_assign rfl) ?_
      refine as_nil (hK10 _ _ ?_)
      clear hK10 K10
      refine ⟨_, _, ?_, (.cons rfl (.cons rfl (.cons rfl (.nil _)))), i + 1, _, rfl, by omega, ?_, rfl, hT⟩
      · omega
      · obtain rfl : i = 0 := by omega
        rw [List.take_add_one, hb]
        show acc = accE ([] ++ [b])
        rw [accE_sign h45, hacc]
        rfl
    · skip
      refine cw_rs fun K11 hK11 => ?_
      -- region 5
      refine as_q rfl rfl (q_move rfl) ?_
      refine as_q rfl rfl (q_move rfl) ?_
      refine as_q rfl rfl (q_atL (by kernel_rfl) rfl rfl (by omega) (b := b) (by simpa using hb)) ?_
      refine as_q rfl rfl (q_eqT rfl rfl (by omega)) ?_
      refine as_q rfl rfl (q_move rfl) ?_
      first | refine as_gskip rfl rfl rfl rfl rfl ?_ | refine as_gskipU rfl rfl rfl rfl ?_ | refine as_gh rfl rfl rfl rfl (h_q rfl (q_move rfl) ?_)
      first | refine as_gskip rfl rfl rfl rfl rfl ?_ | refine as_gskipU rfl rfl rfl rfl ?_ | refine as_gh rfl rfl rfl rfl (h_q rfl (q_eqF rfl rfl (by omega)) ?_)
      first | refine as_q rfl rfl (q_pick_t rfl rfl) ?_ | refine as_q rfl rfl (q_pick_f rfl rfl) ?_ | refine as_q rfl rfl (q_pick rfl rfl rfl) ?_
      refine as_nil (hK11 _ _ ?_)
      clear hK11 K11
      refine cw_false rfl ?_
      refine cw_skip ?_
      refine hK8 _ _ ?_
      clear hK8 K8
      refine cw_seq fun K12 hK12 => ?_
      have hc6 : b.toNat < 48 ∨ (¬ b.toNat < 48 ∧ 57 < b.toNat) ∨ (¬ b.toNat < 48 ∧ ¬ 57 < b.toNat ∧ 20 < bs.length) ∨ (¬ b.toNat < 48 ∧ ¬ 57 < b.toNat ∧ ¬ 20 < bs.length) := by omega
      rcases hc6 with h48 | ⟨h48, h57⟩ | ⟨h48, h57, h20⟩ | ⟨h48, h57, h20⟩
      · skip
        refine cw_rs fun K13 hK13 => ?_
        -- region 6
        refine as_q rfl rfl (q_move rfl) ?_
        refine as_q rfl rfl (q_move rfl) ?_
        refine as_q rfl rfl (q_atL (by kernel_rfl) rfl rfl (by omega) (b := b) (by simpa using hb)) ?_
        refine as_q rfl rfl (q_ltT rfl rfl (by omega)) ?_
        refine as_q rfl rfl (q_move rfl) ?_
        first | refine as_gskip rfl rfl rfl rfl rfl ?_ | refine as_gskipU rfl rfl rfl rfl ?_ | refine as_gh rfl rfl rfl rfl (h_q rfl (q_move rfl) ?_)
        first | refine as_gskip rfl rfl rfl rfl rfl ?_ | refine as_gskipU rfl rfl rfl rfl ?_ | refine as_gh rfl rfl rfl rfl (h_q rfl (q_move rfl) ?_)
        first | refine as_gskip rfl rfl rfl rfl rfl ?_ | refine as_gskipU rfl rfl rfl rfl ?_ | refine as_gh rfl rfl rfl rfl (h_q rfl (q_atL (by kernel_rfl) rfl rfl (by omega) (b := b) (by simpa using hb)) ?_)
        first | refine as_gskip rfl rfl rfl rfl rfl ?_ | refine as_gskipU rfl rfl rfl rfl ?_ | refine as_gh rfl rfl rfl rfl (h_q rfl (q_gtF rfl rfl (by omega)) ?_)
        first | refine as_q rfl rfl (q_pick_t rfl rfl) ?_ | refine as_q rfl rfl (q_pick_f rfl rfl) ?_ | refine as_q rfl rfl (q_pick rfl rfl rfl) ?_
        refine as_q rfl rfl (q_move rfl) ?_
        first | refine as_gskip rfl rfl rfl rfl rfl ?_ | refine as_gskipU rfl rfl rfl rfl ?_ | refine as_gh rfl rfl rfl rfl (h_q rfl (q_move rfl) ?_)
        first | refine as_gskip rfl rfl rfl rfl rfl ?_ | refine as_gskipU rfl rfl rfl rfl ?_ | refine as_gh rfl rfl rfl rfl (h_q rfl (q_lenL (by kernel_rfl) rfl _) ?_)
        first | refine as_gskip rfl rfl rfl rfl rfl ?_ | refine as_gskipU rfl rfl rfl rfl ?_ | refine as_gh rfl rfl rfl rfl (h_q rfl (q_gtF rfl rfl (by omega)) ?_)
        first | refine as_q rfl rfl (q_pick_t rfl rfl) ?_ | refine as_q rfl rfl (q_pick_f rfl rfl) ?_ | refine as_q rfl rfl (q_pick rfl rfl rfl) ?_
        refine as_nil (hK13 _ _ ?_)
        clear hK13 K13
        refine cw_true rfl ?_
        refine cw_rs fun K14 hK14 => ?_
        -- region 7
        refine as_q rfl rfl (q_assign rfl) ?_
        refine as_q rfl rfl (q_assign rfl) ?_
        refine as_nil (hK14 _ _ ?_)
        clear hK14 K14
        refine cw_ret ?_
        have hno : ∀ p : Int, InR p → Lib.itoa p ≠ bs := fun p hp h => by
          have h3 := itoa_mem (p := p) (c := b) (by rw [h]; exact List.mem_of_getElem? hb)
          have h4 := itoa_at (p := p) (i := i) (b := b) (by rw [h]; exact hb) (by omega)
          omega
        exact ⟨_, (res_tmp rfl (res_tmp rfl res_nil)), 0, false, rfl, .inr ⟨hno, rfl⟩, hT⟩
      · skip
        exfalso
        omega
      · skip
        exfalso
        omega
      · skip
        exfalso
        omega
    · skip
      refine cw_rs fun K15 hK15 => ?_
      -- region 5
      refine as_q rfl rfl (q_move rfl) ?_
      refine as_q rfl rfl (q_move rfl) ?_
      refine as_q rfl rfl (q_atL (by kernel_rfl) rfl rfl (by omega) (b := b) (by simpa using hb)) ?_
      refine as_q rfl rfl (q_eqF rfl rfl (by omega)) ?_
      refine as_q rfl rfl (q_move rfl) ?_
      first | refine as_gskip rfl rfl rfl rfl rfl ?_ | refine as_gskipU rfl rfl rfl rfl ?_ | refine as_gh rfl rfl rfl rfl (h_q rfl (q_move rfl) ?_)
      first | refine as_gskip rfl rfl rfl rfl rfl ?_ | refine as_gskipU rfl rfl rfl rfl ?_ | refine as_gh rfl rfl rfl rfl (h_q rfl (q_eqT rfl rfl (by omega)) ?_) | refine as_gh rfl rfl rfl rfl (h_q rfl (q_eqF rfl rfl (by omega)) ?_) | refine as_gh rfl rfl rfl rfl (h_q rfl (q_eq rfl rfl) ?_)
      first | refine as_q rfl rfl (q_pick_t rfl rfl) ?_ | refine as_q rfl rfl (q_pick_f rfl rfl) ?_ | refine as_q rfl rfl (q_pick rfl rfl rfl) ?_
      refine as_nil (hK15 _ _ ?_)
      clear hK15 K15
      refine cw_false rfl ?_
      refine cw_skip ?_
      refine hK8 _ _ ?_
      clear hK8 K8
      refine cw_seq fun K16 hK16 => ?_
      have hc6 : b.toNat < 48 ∨ (¬ b.toNat < 48 ∧ 57 < b.toNat) ∨ (¬ b.toNat < 48 ∧ ¬ 57 < b.toNat ∧ 20 < bs.length) ∨ (¬ b.toNat < 48 ∧ ¬ 57 < b.toNat ∧ ¬ 20 < bs.length) := by omega
      rcases hc6 with h48 | ⟨h48, h57⟩ | ⟨h48, h57, h20⟩ | ⟨h48, h57, h20⟩
      · skip
        refine cw_rs fun K17 hK17 => ?_
        -- region 6
        refine as_q rfl rfl (q_move rfl) ?_
        refine as_q rfl rfl (q_move rfl) ?_
        refine as_q rfl rfl (q_atL (by kernel_rfl) rfl rfl (by omega) (b := b) (by simpa using hb)) ?_
        refine as_q rfl rfl (q_ltT rfl rfl (by omega)) ?_
        refine as_q rfl rfl (q_move rfl) ?_
        first | refine as_gskip rfl rfl rfl rfl rfl ?_ | refine as_gskipU rfl rfl rfl rfl ?_ | refine as_gh rfl rfl rfl rfl (h_q rfl (q_move rfl) ?_)
        first | refine as_gskip rfl rfl rfl rfl rfl ?_ | refine as_gskipU rfl rfl rfl rfl ?_ | refine as_gh rfl rfl rfl rfl (h_q rfl (q_move rfl) ?_)
        first | refine as_gskip rfl rfl rfl rfl rfl ?_ | refine as_gskipU rfl rfl rfl rfl ?_ | refine as_gh rfl rfl rfl rfl (h_q rfl (q_atL (by kernel_rfl) rfl rfl (by omega) (b := b) (by simpa using hb)) ?_)
        first | refine as_gskip rfl rfl rfl rfl rfl ?_ | refine as_gskipU rfl rfl rfl rfl ?_ | refine as_gh rfl rfl rfl rfl (h_q rfl (q_gtF rfl rfl (by omega)) ?_)
        first | refine as_q rfl rfl (q_pick_t rfl rfl) ?_ | refine as_q rfl rfl (q_pick_f rfl rfl) ?_ | refine as_q rfl rfl (q_pick rfl rfl rfl) ?_
        refine as_q rfl rfl (q_move rfl) ?_
        first | refine as_gskip rfl rfl rfl rfl rfl ?_ | refine as_gskipU rfl rfl rfl rfl ?_ | refine as_gh rfl rfl rfl rfl (h_q rfl (q_move rfl) ?_)
        first | refine as_gskip rfl rfl rfl rfl rfl ?_ | refine as_gskipU rfl rfl rfl rfl ?_ | refine as_gh rfl rfl rfl rfl (h_q rfl (q_lenL (by kernel_rfl) rfl _) ?_)
        first | refine as_gskip rfl rfl rfl rfl rfl ?_ | refine as_gskipU rfl rfl rfl rfl ?_ | refine as_gh rfl rfl rfl rfl (h_q rfl (q_gtF rfl rfl (by omega)) ?_)
        first | refine as_q rfl rfl (q_pick_t rfl rfl) ?_ | refine as_q rfl rfl (q_pick_f rfl rfl) ?_ | refine as_q rfl rfl (q_pick rfl rfl rfl) ?_
        refine as_nil (hK17 _ _ ?_)
        clear hK17 K17
        refine cw_true rfl ?_
        refine cw_rs fun K18 hK18 => ?_
        -- region 7
        refine as_q rfl rfl (q_assign rfl) ?_
        refine as_q rfl rfl (q_assign rfl) ?_
        refine as_nil (hK18 _ _ ?_)
        clear hK18 K18
        refine cw_ret ?_
        have hno : ∀ p : Int, InR p → Lib.itoa p ≠ bs := fun p hp h => by
          have h3 := itoa_mem (p := p) (c := b) (by rw [h]; exact List.mem_of_getElem? hb)
          omega
        exact ⟨_, (res_tmp rfl (res_tmp rfl res_nil)), 0, false, rfl, .inr ⟨hno, rfl⟩, hT⟩
      · skip
        refine cw_rs fun K19 hK19 => ?_
        -- region 6
        refine as_q rfl rfl (q_move rfl) ?_
        refine as_q rfl rfl (q_move rfl) ?_
        refine as_q rfl rfl (q_atL (by kernel_rfl) rfl rfl (by omega) (b := b) (by simpa using hb)) ?_
        refine as_q rfl rfl (q_ltF rfl rfl (by omega)) ?_
        refine as_q rfl rfl (q_move rfl) ?_
        first | refine as_gskip rfl rfl rfl rfl rfl ?_ | refine as_gskipU rfl rfl rfl rfl ?_ | refine as_gh rfl rfl rfl rfl (h_q rfl (q_move rfl) ?_)
        first | refine as_gskip rfl rfl rfl rfl rfl ?_ | refine as_gskipU rfl rfl rfl rfl ?_ | refine as_gh rfl rfl rfl rfl (h_q rfl (q_move rfl) ?_)
        first | refine as_gskip rfl rfl rfl rfl rfl ?_ | refine as_gskipU rfl rfl rfl rfl ?_ | refine as_gh rfl rfl rfl rfl (h_q rfl (q_atL (by kernel_rfl) rfl rfl (by omega) (b := b) (by simpa using hb)) ?_)
        first | refine as_gskip rfl rfl rfl rfl rfl ?_ | refine as_gskipU rfl rfl rfl rfl ?_ | refine as_gh rfl rfl rfl rfl (h_q rfl (q_gtT rfl rfl (by omega)) ?_)
        first | refine as_q rfl rfl (q_pick_t rfl rfl) ?_ | refine as_q rfl rfl (q_pick_f rfl rfl) ?_ | refine as_q rfl rfl (q_pick rfl rfl rfl) ?_
        refine as_q rfl rfl (q_move rfl) ?_
        first | refine as_gskip rfl rfl rfl rfl rfl ?_ | refine as_gskipU rfl rfl rfl rfl ?_ | refine as_gh rfl rfl rfl rfl (h_q rfl (q_move rfl) ?_)
        first | refine as_gskip rfl rfl rfl rfl rfl ?_ | refine as_gskipU rfl rfl rfl rfl ?_ | refine as_gh rfl rfl rfl rfl (h_q rfl (q_lenL (by kernel_rfl) rfl _) ?_)
        first | refine as_gskip rfl rfl rfl rfl rfl ?_ | refine as_gskipU rfl rfl rfl rfl ?_ | refine as_gh rfl rfl rfl rfl (h_q rfl (q_gtF rfl rfl (by omega)) ?_)
        first | refine as_q rfl rfl (q_pick_t rfl rfl) ?_ | refine as_q rfl rfl (q_pick_f rfl rfl) ?_ | refine as_q rfl rfl (q_pick rfl rfl rfl) ?_
        refine as_nil (hK19 _ _ ?_)
        clear hK19 K19
        refine cw_true rfl ?_
        refine cw_rs fun K20 hK20 => ?_
        -- region 7
        refine as_q rfl rfl (q_assign rfl) ?_
        refine as_q rfl rfl (q_assign rfl) ?_
        refine as_nil (hK20 _ _ ?_)
        clear hK20 K20
        refine cw_ret ?_
        have hno : ∀ p : Int, InR p → Lib.itoa p ≠ bs := fun p hp h => by
          have h3 := itoa_mem (p := p) (c := b) (by rw [h]; exact List.mem_of_getElem? hb)
          omega
        exact ⟨_, (res_tmp rfl (res_tmp rfl res_nil)), 0, false, rfl, .inr ⟨hno, rfl⟩, hT⟩
      · skip
        refine cw_rs fun K21 hK21 => ?_
        -- region 6
        refine as_q rfl rfl (q_move rfl) ?_
        refine as_q rfl rfl (q_move rfl) ?_
        refine as_q rfl rfl (q_atL (by kernel_rfl) rfl rfl (by omega) (b := b) (by simpa using hb)) ?_
        refine as_q rfl rfl (q_ltF rfl rfl (by omega)) ?_
        refine as_q rfl rfl (q_move rfl) ?_
        first | refine as_gskip rfl rfl rfl rfl rfl ?_ | refine as_gskipU rfl rfl rfl rfl ?_ | refine as_gh rfl rfl rfl rfl (h_q rfl (q_move rfl) ?_)
        first | refine as_gskip rfl rfl rfl rfl rfl ?_ | refine as_gskipU rfl rfl rfl rfl ?_ | refine as_gh rfl rfl rfl rfl (h_q rfl (q_move rfl) ?_)
        first | refine as_gskip rfl rfl rfl rfl rfl ?_ | refine as_gskipU rfl rfl rfl rfl ?_ | refine as_gh rfl rfl rfl rfl (h_q rfl (q_atL (by kernel_rfl) rfl rfl (by omega) (b := b) (by simpa using hb)) ?_)
        first | refine as_gskip rfl rfl rfl rfl rfl ?_ | refine as_gskipU rfl rfl rfl rfl ?_ | refine as_gh rfl rfl rfl rfl (h_q rfl (q_gtF rfl rfl (by omega)) ?_)
        first | refine as_q rfl rfl (q_pick_t rfl rfl) ?_ | refine as_q rfl rfl (q_pick_f rfl rfl) ?_ | refine as_q rfl rfl (q_pick rfl rfl rfl) ?_
        refine as_q rfl rfl (q_move rfl) ?_
        first | refine as_gskip rfl rfl rfl rfl rfl ?_ | refine as_gskipU rfl rfl rfl rfl ?_ | refine as_gh rfl rfl rfl rfl (h_q rfl (q_move rfl) ?_)
        first | refine as_gskip rfl rfl rfl rfl rfl ?_ | refine as_gskipU rfl rfl rfl rfl ?_ | refine as_gh rfl rfl rfl rfl (h_q rfl (q_lenL (by kernel_rfl) rfl _) ?_)
        first | refine as_gskip rfl rfl rfl rfl rfl ?_ | refine as_gskipU rfl rfl rfl rfl ?_ | refine as_gh rfl rfl rfl rfl (h_q rfl (q_gtT rfl rfl (by omega)) ?_)
        first | refine as_q rfl rfl (q_pick_t rfl rfl) ?_ | refine as_q rfl rfl (q_pick_f rfl rfl) ?_ | refine as_q rfl rfl (q_pick rfl rfl rfl) ?_
        refine as_nil (hK21 _ _ ?_)
        clear hK21 K21
        refine cw_true rfl ?_
        refine cw_rs fun K22 hK22 => ?_
        -- region 7
        refine as_q rfl rfl (q_assign rfl) ?_
        refine as_q rfl rfl (q_assign rfl) ?_
        refine as_nil (hK22 _ _ ?_)
        clear hK22 K22
        refine cw_ret ?_
        have hno : ∀ p : Int, InR p → Lib.itoa p ≠ bs := fun p hp h => by
          have h3 := itoa_len hp.1 hp.2
          rw [h] at h3
          omega
        exact ⟨_, (res_tmp rfl (res_tmp rfl res_nil)), 0, false, rfl, .inr ⟨hno, rfl⟩, hT⟩
      · skip
        refine cw_rs fun K23 hK23 => ?_
        -- region 6
        refine as_q rfl rfl (q_move rfl) ?_
        refine as_q rfl rfl (q_move rfl) ?_
        refine as_q rfl rfl (q_atL (by kernel_rfl) rfl rfl (by omega) (b := b) (by simpa using hb)) ?_
        refine as_q rfl rfl (q_ltF rfl rfl (by omega)) ?_
        refine as_q rfl rfl (q_move rfl) ?_
        first | refine as_gskip rfl rfl rfl rfl rfl ?_ | refine as_gskipU rfl rfl rfl rfl ?_ | refine as_gh rfl rfl rfl rfl (h_q rfl (q_move rfl) ?_)
        first | refine as_gskip rfl rfl rfl rfl rfl ?_ | refine as_gskipU rfl rfl rfl rfl ?_ | refine as_gh rfl rfl rfl rfl (h_q rfl (q_move rfl) ?_)
        first | refine as_gskip rfl rfl rfl rfl rfl ?_ | refine as_gskipU rfl rfl rfl rfl ?_ | refine as_gh rfl rfl rfl rfl (h_q rfl (q_atL (by kernel_rfl) rfl rfl (by omega) (b := b) (by simpa using hb)) ?_)
        first | refine as_gskip rfl rfl rfl rfl rfl ?_ | refine as_gskipU rfl rfl rfl rfl ?_ | refine as_gh rfl rfl rfl rfl (h_q rfl (q_gtF rfl rfl (by omega)) ?_)
        first | refine as_q rfl rfl (q_pick_t rfl rfl) ?_ | refine as_q rfl rfl (q_pick_f rfl rfl) ?_ | refine as_q rfl rfl (q_pick rfl rfl rfl) ?_
        refine as_q rfl rfl (q_move rfl) ?_
        first | refine as_gskip rfl rfl rfl rfl rfl ?_ | refine as_gskipU rfl rfl rfl rfl ?_ | refine as_gh rfl rfl rfl rfl (h_q rfl (q_move rfl) ?_)
        first | refine as_gskip rfl rfl rfl rfl rfl ?_ | refine as_gskipU rfl rfl rfl rfl ?_ | refine as_gh rfl rfl rfl rfl (h_q rfl (q_lenL (by kernel_rfl) rfl _) ?_)
        first | refine as_gskip rfl rfl rfl rfl rfl ?_ | refine as_gskipU rfl rfl rfl rfl ?_ | refine as_gh rfl rfl rfl rfl (h_q rfl (q_gtF rfl rfl (by omega)) ?_)
        first | refine as_q rfl rfl (q_pick_t rfl rfl) ?_ | refine as_q rfl rfl (q_pick_f rfl rfl) ?_ | refine as_q rfl rfl (q_pick rfl rfl rfl) ?_
        refine as_nil (hK23 _ _ ?_)
        clear hK23 K23
        refine cw_false rfl ?_
        refine cw_skip ?_
        refine hK16 _ _ ?_
        clear hK16 K16
        refine cw_region fun K24 hK24 => ?_
        have hne : bs.take i ≠ [] ∨ b.toNat ≠ 45 := .inr (by omega)
        -- region 8
        refine as_q rfl rfl (q_move rfl) ?_
        refine as_q rfl rfl (q_mul rfl rfl) ?_
        refine as_q rfl rfl (q_move rfl) ?_
        refine as_q rfl rfl (q_move rfl) ?_
        refine as_q rfl rfl (q_atL (by kernel_rfl) rfl rfl (by omega) (b := b) (by simpa using hb)) ?_
        refine as_q rfl rfl (q_congr (q_sub rfl rfl) (v' := .int .u8 ((b.toNat : Int) - 48)) (congrArg (Value.int .u8) (show IntKind.u8.wrap ((b.toNat : Int) - 48) = (b.toNat : Int) - 48 by simp [IntKind.wrap, IntKind.bits, IntKind.signed]; omega))) ?_
        refine as_q rfl rfl (q_convx (by kernel_rfl) (by kernel_rfl) rfl (wrap64_of (by omega) (by omega))) ?_
        refine as_q rfl rfl (q_sub rfl rfl) ?_
        refine as_q rfl rfl (q_assign rfl) ?_
        refine as_nil (hK24 _ _ ?_)
        clear hK24 K24
        refine hK7 _ _ ?_
        clear hK7 K7
        refine cw_region fun K25 hK25 => ?_
        -- region 4
        refine as_q rfl rfl (q_move rfl) ?_
        refine as_q rfl rfl (q_addx rfl rfl (by omega) (by omega)) ?_
        refine as_q rfl rfl (q_assign rfl) ?_
        refine as_nil (hK25 _ _ ?_)
        clear hK25 K25
        refine ⟨_, _, ?_, (.cons rfl (.cons rfl (.cons rfl (.nil _)))), i + 1, _, rfl, by omega, ?_, rfl, hT⟩
        · omega
        · rw [List.take_add_one, hb]
          show _ = accE (bs.take i ++ [b])
          rw [accE_snoc hne, ← hacc]
          rfl
  · skip
    have hge : i = bs.length := by have := of_decide_eq_false hc0; omega
    rw [hge, List.take_length] at hacc
    refine cw_exit ?_
    refine hK3 _ _ ?_
    clear hK5 K5
    clear hK3 K3
    refine cw_seq fun K26 hK26 => ?_
    have hc9 : bs = [] ∨ (∃ b r, bs = b :: r ∧ b.toNat = 45) ∨ (∃ b r, bs = b :: r ∧ b.toNat ≠ 45) := by
      cases bs with
      | nil => exact .inl rfl
      | cons b r => rcases Nat.lt_or_ge b.toNat 45 with h | h
                    · exact .inr (.inr ⟨b, r, rfl, by omega⟩)
                    · rcases Nat.lt_or_ge 45 b.toNat with h2 | h2
                      · exact .inr (.inr ⟨b, r, rfl, by omega⟩)
                      · exact .inr (.inl ⟨b, r, rfl, by omega⟩)
    rcases hc9 with rfl | ⟨b, r, rfl, h45⟩ | ⟨b, r, rfl, h45⟩
    · skip
      have hfin : acc = finE [] := hacc
      refine cw_rs fun K27 hK27 => ?_
      -- region 9
      refine as_q rfl rfl (q_move rfl) ?_
      refine as_q rfl rfl (q_congr (q_neL rfl rfl) (v' := .bool false) (by simp)) ?_
      refine as_q rfl rfl (q_move rfl) ?_
      first | refine as_gskip rfl rfl rfl rfl rfl ?_ | refine as_gskipU rfl rfl rfl rfl ?_ | refine as_gh rfl rfl rfl rfl (h_q rfl (q_move rfl) ?_)
      first | refine as_gskip rfl rfl rfl rfl rfl ?_ | refine as_gskipU rfl rfl rfl rfl ?_ | refine as_gh rfl rfl rfl rfl (h_q rfl (q_atL (by kernel_rfl) rfl rfl (by omega) (b := b) rfl) ?_)
      first | refine as_gskip rfl rfl rfl rfl rfl ?_ | refine as_gskipU rfl rfl rfl rfl ?_ | refine as_gh rfl rfl rfl rfl (h_q rfl (q_neT rfl rfl (by omega)) ?_)
      first | refine as_q rfl rfl (q_pick_t rfl rfl) ?_ | refine as_q rfl rfl (q_pick_f rfl rfl) ?_ | refine as_q rfl rfl (q_pick rfl rfl rfl) ?_
      refine as_nil (hK27 _ _ ?_)
      clear hK27 K27
      refine cw_false rfl ?_
      refine cw_skip ?_
      refine hK26 _ _ ?_
      clear hK26 K26
      refine cw_rs fun K28 hK28 => ?_
      -- region 11
      refine as_q rfl rfl (q_move rfl) ?_
      refine as_q rfl rfl (q_move rfl) ?_
      refine as_h rfl (h_call (by kernel_rfl) rfl ?_)
      refine (ref_number (n := acc) hT.sat (by rw [hfin]; exact finE_in _)).mono ?_
      rintro _ w1 ⟨rfl, hs1⟩
      replace hT := hT.then hs1
      refine as_q rfl rfl (q_move rfl) ?_
      refine as_q rfl rfl (q_eqL rfl rfl) ?_
      refine as_q rfl rfl (q_assign rfl) ?_
      refine as_q rfl rfl (q_assign rfl) ?_
      refine as_nil (hK28 _ _ ?_)
      clear hK28 K28
      refine cw_ret ?_
      refine ⟨_, (res_tmp rfl (res_tmp rfl res_nil)), acc, decide (Lib.itoa acc = []), rfl, ?_, hT⟩
      by_cases hy : Lib.itoa acc = []
      · exact .inl ⟨by rw [hfin]; exact finE_in _, hy, decide_eq_true hy⟩
      · exact .inr ⟨fun p hp h => hy (by rw [hfin, ← h, fin_itoa hp]), decide_eq_false hy⟩
    · skip
      have hfin : acc = finE (b :: r) := by rw [finE, if_pos h45]; exact hacc
      refine cw_rs fun K29 hK29 => ?_
      -- region 9
      refine as_q rfl rfl (q_move rfl) ?_
      refine as_q rfl rfl (q_congr (q_neL rfl rfl) (v' := .bool true) (by simp)) ?_
      refine as_q rfl rfl (q_move rfl) ?_
      first | refine as_gskip rfl rfl rfl rfl rfl ?_ | refine as_gskipU rfl rfl rfl rfl ?_ | refine as_gh rfl rfl rfl rfl (h_q rfl (q_move rfl) ?_)
      first | refine as_gskip rfl rfl rfl rfl rfl ?_ | refine as_gskipU rfl rfl rfl rfl ?_ | refine as_gh rfl rfl rfl rfl (h_q rfl (q_atL (by kernel_rfl) rfl rfl (by omega) (b := b) rfl) ?_)
      first | refine as_gskip rfl rfl rfl rfl rfl ?_ | refine as_gskipU rfl rfl rfl rfl ?_ | refine as_gh rfl rfl rfl rfl (h_q rfl (q_neF rfl rfl (by omega)) ?_)
      first | refine as_q rfl rfl (q_pick_t rfl rfl) ?_ | refine as_q rfl rfl (q_pick_f rfl rfl) ?_ | refine as_q rfl rfl (q_pick rfl rfl rfl) ?_
      refine as_nil (hK29 _ _ ?_)
      clear hK29 K29
      refine cw_false rfl ?_
      refine cw_skip ?_
      refine hK26 _ _ ?_
      clear hK26 K26
      refine cw_rs fun K30 hK30 => ?_
      -- region 11
      refine as_q rfl rfl (q_move rfl) ?_
      refine as_q rfl rfl (q_move rfl) ?_
      refine as_h rfl (h_call (by kernel_rfl) rfl ?_)
      refine (ref_number (n := acc) hT.sat (by rw [hfin]; exact finE_in _)).mono ?_
      rintro _ w2 ⟨rfl, hs2⟩
      replace hT := hT.then hs2
      refine as_q rfl rfl (q_move rfl) ?_
      refine as_q rfl rfl (q_eqL rfl rfl) ?_
      refine as_q rfl rfl (q_assign rfl) ?_
      refine as_q rfl rfl (q_assign rfl) ?_
      refine as_nil (hK30 _ _ ?_)
      clear hK30 K30
      refine cw_ret ?_
      refine ⟨_, (res_tmp rfl (res_tmp rfl res_nil)), acc, decide (Lib.itoa acc = (b :: r)), rfl, ?_, hT⟩
      by_cases hy : Lib.itoa acc = (b :: r)
      · exact .inl ⟨by rw [hfin]; exact finE_in _, hy, decide_eq_true hy⟩
      · exact .inr ⟨fun p hp h => hy (by rw [hfin, ← h, fin_itoa hp]), decide_eq_false hy⟩
    · skip
      have hfin : W64 (-acc) = finE (b :: r) := by rw [finE, if_neg h45, hacc]
      refine cw_rs fun K31 hK31 => ?_
      -- region 9
      refine as_q rfl rfl (q_move rfl) ?_
      refine as_q rfl rfl (q_congr (q_neL rfl rfl) (v' := .bool true) (by simp)) ?_
      refine as_q rfl rfl (q_move rfl) ?_
      first | refine as_gskip rfl rfl rfl rfl rfl ?_ | refine as_gskipU rfl rfl rfl rfl ?_ | refine as_gh rfl rfl rfl rfl (h_q rfl (q_move rfl) ?_)
      first | refine as_gskip rfl rfl rfl rfl rfl ?_ | refine as_gskipU rfl rfl rfl rfl ?_ | refine as_gh rfl rfl rfl rfl (h_q rfl (q_atL (by kernel_rfl) rfl rfl (by omega) (b := b) rfl) ?_)
      first | refine as_gskip rfl rfl rfl rfl rfl ?_ | refine as_gskipU rfl rfl rfl rfl ?_ | refine as_gh rfl rfl rfl rfl (h_q rfl (q_neT rfl rfl (by omega)) ?_)
      first | refine as_q rfl rfl (q_pick_t rfl rfl) ?_ | refine as_q rfl rfl (q_pick_f rfl rfl) ?_ | refine as_q rfl rfl (q_pick rfl rfl rfl) ?_
      refine as_nil (hK31 _ _ ?_)
      clear hK31 K31
      refine cw_true rfl ?_
      refine cw_region fun K32 hK32 => ?_
      -- region 10
      refine as_q rfl rfl (q_move rfl) ?_
      refine as_q rfl rfl (q_neg rfl) ?_
      refine as_q rfl rfl (q_assign rfl) ?_
      refine as_nil (hK32 _ _ ?_)
      clear hK32 K32
      refine hK26 _ _ ?_
      clear hK26 K26
      refine cw_rs fun K33 hK33 => ?_
      -- region 11
      refine as_q rfl rfl (q_move rfl) ?_
      refine as_q rfl rfl (q_move rfl) ?_
      refine as_h rfl (h_call (by kernel_rfl) rfl ?_)
      refine (ref_number (n := W64 (-acc)) hT.sat (by rw [hfin]; exact finE_in _)).mono ?_
      rintro _ w3 ⟨rfl, hs3⟩
      replace hT := hT.then hs3
      refine as_q rfl rfl (q_move rfl) ?_
      refine as_q rfl rfl (q_eqL rfl rfl) ?_
      refine as_q rfl rfl (q_assign rfl) ?_
      refine as_q rfl rfl (q_assign rfl) ?_
      refine as_nil (hK33 _ _ ?_)
      clear hK33 K33
      refine cw_ret ?_
      refine ⟨_, (res_tmp rfl (res_tmp rfl res_nil)), (W64 (-acc)), decide (Lib.itoa (W64 (-acc)) = (b :: r)), rfl, ?_, hT⟩
      by_cases hy : Lib.itoa (W64 (-acc)) = (b :: r)
      · exact .inl ⟨by rw [hfin]; exact finE_in _, hy, decide_eq_true hy⟩
      · exact .inr ⟨fun p hp h => hy (by rw [hfin, ← h, fin_itoa hp]), decide_eq_false hy⟩

end Go.Proofs.YtbfjkclijjhlhaaDoor
