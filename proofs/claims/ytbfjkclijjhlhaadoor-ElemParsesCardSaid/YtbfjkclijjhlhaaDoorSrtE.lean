/- Go s sort of elements: what each of its functions does, part 5. -/
import Derived.Test.YtbfjkclijjhlhaaDoorSrtD
namespace Go.Proofs.YtbfjkclijjhlhaaDoor
open Go Go.Eng
theorem srt_len64 {w : World} {M : Mem} {x : Nat} (hs : Sat M w) (hx : x < 256) :
    Does Tryd.prog 50 #[.int .u64 x] w (fun v w' => v = .int .i64 (Go.Lib.len8 x) ∧ Step Nope M w M w') := by
  have hT := Step.refl Nope hs
  have hl8 := len8_all x hx
  refine fn_enter Tryd.func50 rfl (rs := [.tmp 2]) rfl rfl rfl rfl ?_
  refine cw_rs fun K1 hK1 => ?_
  -- region 0
  refine as_q rfl rfl (q_assign rfl) ?_
  refine as_nil (hK1 _ _ ?_)
  clear hK1 K1
  refine cw_seq fun K2 hK2 => ?_
  refine cw_rs fun K3 hK3 => ?_
  -- region 1
  refine as_q rfl rfl (q_move rfl) ?_
  first | refine as_q rfl rfl (q_geT rfl rfl (by omega)) ?_ | refine as_q rfl rfl (q_geF rfl rfl (by omega)) ?_ | refine as_q rfl rfl (q_ge rfl rfl) ?_
  refine as_nil (hK3 _ _ ?_)
  clear hK3 K3
  refine cw_false rfl ?_
  refine cw_skip ?_
  refine hK2 _ _ ?_
  clear hK2 K2
  refine cw_seq fun K4 hK4 => ?_
  refine cw_rs fun K5 hK5 => ?_
  -- region 4
  refine as_q rfl rfl (q_move rfl) ?_
  first | refine as_q rfl rfl (q_geT rfl rfl (by omega)) ?_ | refine as_q rfl rfl (q_geF rfl rfl (by omega)) ?_ | refine as_q rfl rfl (q_ge rfl rfl) ?_
  refine as_nil (hK5 _ _ ?_)
  clear hK5 K5
  refine cw_false rfl ?_
  refine cw_skip ?_
  refine hK4 _ _ ?_
  clear hK4 K4
  refine cw_seq fun K6 hK6 => ?_
  refine cw_rs fun K7 hK7 => ?_
  -- region 7
  refine as_q rfl rfl (q_move rfl) ?_
  first | refine as_q rfl rfl (q_geT rfl rfl (by omega)) ?_ | refine as_q rfl rfl (q_geF rfl rfl (by omega)) ?_ | refine as_q rfl rfl (q_ge rfl rfl) ?_
  refine as_nil (hK7 _ _ ?_)
  clear hK7 K7
  refine cw_false rfl ?_
  refine cw_skip ?_
  refine hK6 _ _ ?_
  clear hK6 K6
  refine cw_rs fun K8 hK8 => ?_
  -- region 10
  refine as_q rfl rfl (q_move rfl) ?_
  refine as_q rfl rfl (q_move rfl) ?_
  refine as_q rfl rfl (q_convx (k' := .u8) (by kernel_rfl) (by kernel_rfl) rfl (show IntKind.u8.wrap ((x : Nat) : Int) = ((x : Nat) : Int) by simp [IntKind.wrap, IntKind.bits, IntKind.signed]; omega)) ?_
  refine as_q rfl rfl (q_len8 (i := (x : Nat)) (by kernel_rfl) (by kernel_rfl) rfl (by omega) (by omega)) ?_
  refine as_q rfl rfl (q_convx (by kernel_rfl) (by kernel_rfl) rfl (by first | exact wrap64_of (by omega) (by omega) | omega | (simp; omega))) ?_
  refine as_q rfl rfl (q_congr (q_addx rfl rfl (by omega) (by omega)) (v' := .int .i64 (Go.Lib.len8 (x : Nat))) (congrArg (Value.int .i64) (by omega))) ?_
  refine as_q rfl rfl (q_assign rfl) ?_
  refine as_nil (hK8 _ _ ?_)
  clear hK8 K8
  refine cw_ret ?_
  exact ⟨_, (res_tmp rfl res_nil), rfl, hT⟩

theorem srt_len {w : World} {M : Mem} {x : Nat} (hs : Sat M w) (hx : x < 256) :
    Does Tryd.prog 35 #[.int .u64 x] w (fun v w' => v = .int .i64 (Go.Lib.len8 x) ∧ Step Nope M w M w') := by
  have hT := Step.refl Nope hs
  refine fn_enter Tryd.func35 rfl (rs := [.tmp 2]) rfl rfl rfl rfl ?_
  refine cw_rs fun K1 hK1 => ?_
  -- region 0
  refine as_q rfl rfl (q_assign rfl) ?_
  refine as_nil (hK1 _ _ ?_)
  clear hK1 K1
  refine cw_seq fun K2 hK2 => ?_
  refine cw_false rfl ?_
  refine cw_skip ?_
  refine hK2 _ _ ?_
  clear hK2 K2
  refine cw_rs fun K3 hK3 => ?_
  -- region 2
  refine as_q rfl rfl (q_move rfl) ?_
  refine as_h rfl (h_call (by kernel_rfl) rfl ?_)
  refine (srt_len64 hs hx).mono ?_
  rintro _ w1 ⟨rfl, hs1⟩
  replace hT := hT.then hs1
  refine as_q rfl rfl (q_assign rfl) ?_
  refine as_nil (hK3 _ _ ?_)
  clear hK3 K3
  refine cw_ret ?_
  exact ⟨_, (res_tmp rfl res_nil), rfl, hT⟩

theorem srt_pow2 {w : World} {M : Mem} {x : Nat} (hs : Sat M w) (hx : x < 256) (h8 : 8 ≤ x) :
    Does Tryd.prog 62 #[.int .i64 x] w (fun v w' => ∃ m : Int, v = .int .u64 m ∧ 1 ≤ m ∧ m ≤ 2 * x ∧ Step Nope M w M w') := by
  have hT := Step.refl Nope hs
  have hl8 := len8_all x hx
  have hpos : 0 < 2 ^ (Go.Lib.len8 x).toNat := Nat.two_pow_pos _
  have hle := hl8.2.2 h8
  have hpw : IntKind.u64.wrap (1 * 2 ^ (min (Go.Lib.len8 x).toNat IntKind.u64.bits)) = ((2 ^ (Go.Lib.len8 x).toNat : Nat) : Int) := by
    rw [show min (Go.Lib.len8 x).toNat IntKind.u64.bits = (Go.Lib.len8 x).toNat from Nat.min_eq_left (by simp only [IntKind.bits]; omega), Int.one_mul, IntKind.wrap_u64, show ((2 : Int) ^ (Go.Lib.len8 x).toNat) = ((2 ^ (Go.Lib.len8 x).toNat : Nat) : Int) from by simp]
    omega
  refine fn_enter Tryd.func62 rfl (rs := [.tmp 2]) rfl rfl rfl rfl ?_
  refine cw_rs fun K1 hK1 => ?_
  -- region 0
  refine as_q rfl rfl (q_assign rfl) ?_
  refine as_nil (hK1 _ _ ?_)
  clear hK1 K1
  refine cw_rs fun K2 hK2 => ?_
  -- region 1
  refine as_q rfl rfl (q_move rfl) ?_
  refine as_q rfl rfl (q_convx (by kernel_rfl) (by kernel_rfl) rfl (by rw [IntKind.wrap_u64]; omega)) ?_
  refine as_h rfl (h_call (by kernel_rfl) rfl ?_)
  refine (srt_len hs hx).mono ?_
  rintro _ w1 ⟨rfl, hs1⟩
  replace hT := hT.then hs1
  refine as_q rfl rfl (q_congr (q_shl rfl rfl hl8.1) (v' := .int .u64 ((2 ^ (Go.Lib.len8 x).toNat : Nat) : Int)) (congrArg (Value.int .u64) hpw)) ?_
  refine as_q rfl rfl (q_assign rfl) ?_
  refine as_nil (hK2 _ _ ?_)
  clear hK2 K2
  refine cw_ret ?_
  exact ⟨_, (res_tmp rfl res_nil), _, rfl, by omega, by omega, hT⟩

theorem srt_next {w : World} {M : Mem} {q : Nat} {r : Int} (hs : Sat M w) (ho : Own w M q [.int .u64 r] 87) :
    Does Tryd.prog 63 #[.pointer (some ⟨q, 0, none⟩)] w (fun v w' => ∃ z : Int, v = .int .u64 z ∧ (0 ≤ z ∧ z < 18446744073709551616) ∧ Step (Just q) M w M w' ∧ Own w' M q [.int .u64 z] 87) := by
  have hT := Step.refl (Just q) hs
  refine fn_enter Tryd.func63 rfl (rs := [.tmp 2]) rfl rfl rfl rfl ?_
  refine cw_rs fun K1 hK1 => ?_
  -- region 0
  refine as_q rfl rfl (q_assign rfl) ?_
  refine as_nil (hK1 _ _ ?_)
  clear hK1 K1
  refine cw_rd (by kernel_rfl) (by kernel_rfl) (by kernel_rfl) rfl rfl fun K2 hK2 => ?_
  -- region 1
  have hs1 := Step.drew hs
  replace ho := ho.then hs1
  replace hT := hT.then hs1
  refine at_q (i := 0) (li := #[true, false, false, false, false, false, false, false, false, false]) rfl (by kernel_rfl) rfl (fun _ => (q_move rfl)) (by kernel_rfl) ?_
  first | refine at_q (i := 1) (li := #[true, true, false, false, false, false, false, false, false, false]) rfl (by kernel_rfl) rfl (fun _ => (q_nilp rfl)) (by kernel_rfl) ?_ | refine at_q (i := 1) (li := #[true, true, false, false, false, false, false, false, false, false]) rfl (by kernel_rfl) rfl (fun _ => (q_nili rfl)) (by kernel_rfl) ?_ | refine at_q (i := 1) (li := #[true, true, false, false, false, false, false, false, false, false]) rfl (by kernel_rfl) rfl (fun _ => (q_nilf rfl)) (by kernel_rfl) ?_ | refine at_q (i := 1) (li := #[true, true, false, false, false, false, false, false, false, false]) rfl (by kernel_rfl) rfl (fun _ => (q_nily rfl)) (by kernel_rfl) ?_
  refine at_l (i := 2) (li := #[true, true, true, false, false, false, false, false, false, false]) (cellIs _ _ _) rfl (by kernel_rfl) rfl (fun _ h => q_load1 (by kernel_rfl) rfl h) (by first | exact Blk.cell ho.1 rfl | assumption) (by kernel_rfl) ?_
  refine at_q (i := 3) (li := #[true, true, true, true, false, false, false, false, false, false]) rfl (by kernel_rfl) rfl (fun _ => (q_move rfl)) (by kernel_rfl) ?_
  first | refine at_q (i := 4) (li := #[true, true, true, true, true, false, false, false, false, false]) rfl (by kernel_rfl) rfl (fun _ => (q_nilp rfl)) (by kernel_rfl) ?_ | refine at_q (i := 4) (li := #[true, true, true, true, true, false, false, false, false, false]) rfl (by kernel_rfl) rfl (fun _ => (q_nili rfl)) (by kernel_rfl) ?_ | refine at_q (i := 4) (li := #[true, true, true, true, true, false, false, false, false, false]) rfl (by kernel_rfl) rfl (fun _ => (q_nilf rfl)) (by kernel_rfl) ?_ | refine at_q (i := 4) (li := #[true, true, true, true, true, false, false, false, false, false]) rfl (by kernel_rfl) rfl (fun _ => (q_nily rfl)) (by kernel_rfl) ?_
  refine at_l (i := 5) (li := #[true, true, true, true, true, true, false, false, false, false]) (cellIs _ _ _) rfl (by kernel_rfl) rfl (fun _ h => q_load1 (by kernel_rfl) rfl h) (by first | exact Blk.cell ho.1 rfl | assumption) (by kernel_rfl) ?_
  refine at_q (i := 6) (li := #[true, true, true, true, true, true, true, false, false, false]) rfl (by kernel_rfl) rfl (fun _ => (q_shl rfl rfl (by decide))) (by kernel_rfl) ?_
  refine at_q (i := 7) (li := #[true, true, true, true, true, true, true, true, false, false]) rfl (by kernel_rfl) rfl (fun _ => (q_xorb rfl rfl)) (by kernel_rfl) ?_
  first | refine at_q (i := 8) (li := #[true, true, true, true, true, true, true, true, true, false]) rfl (by kernel_rfl) rfl (fun _ => (q_nilp rfl)) (by kernel_rfl) ?_ | refine at_q (i := 8) (li := #[true, true, true, true, true, true, true, true, true, false]) rfl (by kernel_rfl) rfl (fun _ => (q_nili rfl)) (by kernel_rfl) ?_ | refine at_q (i := 8) (li := #[true, true, true, true, true, true, true, true, true, false]) rfl (by kernel_rfl) rfl (fun _ => (q_nilf rfl)) (by kernel_rfl) ?_ | refine at_q (i := 8) (li := #[true, true, true, true, true, true, true, true, true, false]) rfl (by kernel_rfl) rfl (fun _ => (q_nily rfl)) (by kernel_rfl) ?_
  refine at_h0 (i := 9) (li := #[true, true, true, true, true, true, true, true, true, true]) rfl (by kernel_rfl) (keep_sift (bs := [true, true]) (by kernel_rfl)) (by kernel_rfl) (h_store hs1.sat ho rfl rfl rfl (by kernel_rfl) rfl rfl rfl fun w2 hs2 hn2 => ?_)
  replace hT := hT.also hs2
  clear ho; have ho := hn2; clear hn2
  refine ⟨(by repeat' first | exact trivial | exact Blk.cell ho.1 rfl | exact Blk.cells ho.1 rfl | assumption | refine all_keep ?_ | refine And.intro ?_ ?_), ?_⟩
  refine at_done (by kernel_rfl) (hK2 _ _ ?_)
  clear hK2 K2
  refine cw_rd (by kernel_rfl) (by kernel_rfl) (by kernel_rfl) rfl rfl fun K3 hK3 => ?_
  -- region 2
  have hs3 := Step.drew hs2.sat
  replace ho := ho.then hs3
  replace hT := hT.then hs3
  refine at_q (i := 0) (li := #[true, false, false, false, false, false, false, false, false, false]) rfl (by kernel_rfl) rfl (fun _ => (q_move rfl)) (by kernel_rfl) ?_
  first | refine at_q (i := 1) (li := #[true, true, false, false, false, false, false, false, false, false]) rfl (by kernel_rfl) rfl (fun _ => (q_nilp rfl)) (by kernel_rfl) ?_ | refine at_q (i := 1) (li := #[true, true, false, false, false, false, false, false, false, false]) rfl (by kernel_rfl) rfl (fun _ => (q_nili rfl)) (by kernel_rfl) ?_ | refine at_q (i := 1) (li := #[true, true, false, false, false, false, false, false, false, false]) rfl (by kernel_rfl) rfl (fun _ => (q_nilf rfl)) (by kernel_rfl) ?_ | refine at_q (i := 1) (li := #[true, true, false, false, false, false, false, false, false, false]) rfl (by kernel_rfl) rfl (fun _ => (q_nily rfl)) (by kernel_rfl) ?_
  refine at_l (i := 2) (li := #[true, true, true, false, false, false, false, false, false, false]) (cellIs _ _ _) rfl (by kernel_rfl) rfl (fun _ h => q_load1 (by kernel_rfl) rfl h) (by first | exact Blk.cell ho.1 rfl | assumption) (by kernel_rfl) ?_
  refine at_q (i := 3) (li := #[true, true, true, true, false, false, false, false, false, false]) rfl (by kernel_rfl) rfl (fun _ => (q_move rfl)) (by kernel_rfl) ?_
  first | refine at_q (i := 4) (li := #[true, true, true, true, true, false, false, false, false, false]) rfl (by kernel_rfl) rfl (fun _ => (q_nilp rfl)) (by kernel_rfl) ?_ | refine at_q (i := 4) (li := #[true, true, true, true, true, false, false, false, false, false]) rfl (by kernel_rfl) rfl (fun _ => (q_nili rfl)) (by kernel_rfl) ?_ | refine at_q (i := 4) (li := #[true, true, true, true, true, false, false, false, false, false]) rfl (by kernel_rfl) rfl (fun _ => (q_nilf rfl)) (by kernel_rfl) ?_ | refine at_q (i := 4) (li := #[true, true, true, true, true, false, false, false, false, false]) rfl (by kernel_rfl) rfl (fun _ => (q_nily rfl)) (by kernel_rfl) ?_
  refine at_l (i := 5) (li := #[true, true, true, true, true, true, false, false, false, false]) (cellIs _ _ _) rfl (by kernel_rfl) rfl (fun _ h => q_load1 (by kernel_rfl) rfl h) (by first | exact Blk.cell ho.1 rfl | assumption) (by kernel_rfl) ?_
  refine at_q (i := 6) (li := #[true, true, true, true, true, true, true, false, false, false]) rfl (by kernel_rfl) rfl (fun _ => (q_shr rfl rfl (by decide))) (by kernel_rfl) ?_
  refine at_q (i := 7) (li := #[true, true, true, true, true, true, true, true, false, false]) rfl (by kernel_rfl) rfl (fun _ => (q_xorb rfl rfl)) (by kernel_rfl) ?_
  first | refine at_q (i := 8) (li := #[true, true, true, true, true, true, true, true, true, false]) rfl (by kernel_rfl) rfl (fun _ => (q_nilp rfl)) (by kernel_rfl) ?_ | refine at_q (i := 8) (li := #[true, true, true, true, true, true, true, true, true, false]) rfl (by kernel_rfl) rfl (fun _ => (q_nili rfl)) (by kernel_rfl) ?_ | refine at_q (i := 8) (li := #[true, true, true, true, true, true, true, true, true, false]) rfl (by kernel_rfl) rfl (fun _ => (q_nilf rfl)) (by kernel_rfl) ?_ | refine at_q (i := 8) (li := #[true, true, true, true, true, true, true, true, true, false]) rfl (by kernel_rfl) rfl (fun _ => (q_nily rfl)) (by kernel_rfl) ?_
  refine at_h0 (i := 9) (li := #[true, true, true, true, true, true, true, true, true, true]) rfl (by kernel_rfl) (keep_sift (bs := [true, true]) (by kernel_rfl)) (by kernel_rfl) (h_store hs3.sat ho rfl rfl rfl (by kernel_rfl) rfl rfl rfl fun w4 hs4 hn4 => ?_)
  replace hT := hT.also hs4
  clear ho; have ho := hn4; clear hn4
  refine ⟨(by repeat' first | exact trivial | exact Blk.cell ho.1 rfl | exact Blk.cells ho.1 rfl | assumption | refine all_keep ?_ | refine And.intro ?_ ?_), ?_⟩
  refine at_done (by kernel_rfl) (hK3 _ _ ?_)
  clear hK3 K3
  refine cw_rd (by kernel_rfl) (by kernel_rfl) (by kernel_rfl) rfl rfl fun K4 hK4 => ?_
  -- region 3
  have hs5 := Step.drew hs4.sat
  replace ho := ho.then hs5
  replace hT := hT.then hs5
  refine at_q (i := 0) (li := #[true, false, false, false, false, false, false, false, false, false]) rfl (by kernel_rfl) rfl (fun _ => (q_move rfl)) (by kernel_rfl) ?_
  first | refine at_q (i := 1) (li := #[true, true, false, false, false, false, false, false, false, false]) rfl (by kernel_rfl) rfl (fun _ => (q_nilp rfl)) (by kernel_rfl) ?_ | refine at_q (i := 1) (li := #[true, true, false, false, false, false, false, false, false, false]) rfl (by kernel_rfl) rfl (fun _ => (q_nili rfl)) (by kernel_rfl) ?_ | refine at_q (i := 1) (li := #[true, true, false, false, false, false, false, false, false, false]) rfl (by kernel_rfl) rfl (fun _ => (q_nilf rfl)) (by kernel_rfl) ?_ | refine at_q (i := 1) (li := #[true, true, false, false, false, false, false, false, false, false]) rfl (by kernel_rfl) rfl (fun _ => (q_nily rfl)) (by kernel_rfl) ?_
  refine at_l (i := 2) (li := #[true, true, true, false, false, false, false, false, false, false]) (cellIs _ _ _) rfl (by kernel_rfl) rfl (fun _ h => q_load1 (by kernel_rfl) rfl h) (by first | exact Blk.cell ho.1 rfl | assumption) (by kernel_rfl) ?_
  refine at_q (i := 3) (li := #[true, true, true, true, false, false, false, false, false, false]) rfl (by kernel_rfl) rfl (fun _ => (q_move rfl)) (by kernel_rfl) ?_
  first | refine at_q (i := 4) (li := #[true, true, true, true, true, false, false, false, false, false]) rfl (by kernel_rfl) rfl (fun _ => (q_nilp rfl)) (by kernel_rfl) ?_ | refine at_q (i := 4) (li := #[true, true, true, true, true, false, false, false, false, false]) rfl (by kernel_rfl) rfl (fun _ => (q_nili rfl)) (by kernel_rfl) ?_ | refine at_q (i := 4) (li := #[true, true, true, true, true, false, false, false, false, false]) rfl (by kernel_rfl) rfl (fun _ => (q_nilf rfl)) (by kernel_rfl) ?_ | refine at_q (i := 4) (li := #[true, true, true, true, true, false, false, false, false, false]) rfl (by kernel_rfl) rfl (fun _ => (q_nily rfl)) (by kernel_rfl) ?_
  refine at_l (i := 5) (li := #[true, true, true, true, true, true, false, false, false, false]) (cellIs _ _ _) rfl (by kernel_rfl) rfl (fun _ h => q_load1 (by kernel_rfl) rfl h) (by first | exact Blk.cell ho.1 rfl | assumption) (by kernel_rfl) ?_
  refine at_q (i := 6) (li := #[true, true, true, true, true, true, true, false, false, false]) rfl (by kernel_rfl) rfl (fun _ => (q_shl rfl rfl (by decide))) (by kernel_rfl) ?_
  refine at_q (i := 7) (li := #[true, true, true, true, true, true, true, true, false, false]) rfl (by kernel_rfl) rfl (fun _ => (q_xorb rfl rfl)) (by kernel_rfl) ?_
  first | refine at_q (i := 8) (li := #[true, true, true, true, true, true, true, true, true, false]) rfl (by kernel_rfl) rfl (fun _ => (q_nilp rfl)) (by kernel_rfl) ?_ | refine at_q (i := 8) (li := #[true, true, true, true, true, true, true, true, true, false]) rfl (by kernel_rfl) rfl (fun _ => (q_nili rfl)) (by kernel_rfl) ?_ | refine at_q (i := 8) (li := #[true, true, true, true, true, true, true, true, true, false]) rfl (by kernel_rfl) rfl (fun _ => (q_nilf rfl)) (by kernel_rfl) ?_ | refine at_q (i := 8) (li := #[true, true, true, true, true, true, true, true, true, false]) rfl (by kernel_rfl) rfl (fun _ => (q_nily rfl)) (by kernel_rfl) ?_
  refine at_h0 (i := 9) (li := #[true, true, true, true, true, true, true, true, true, true]) rfl (by kernel_rfl) (keep_sift (bs := [true, true]) (by kernel_rfl)) (by kernel_rfl) (h_store hs5.sat ho rfl rfl rfl (by kernel_rfl) rfl rfl rfl fun w6 hs6 hn6 => ?_)
  replace hT := hT.also hs6
  clear ho; have ho := hn6; clear hn6
  refine ⟨(by repeat' first | exact trivial | exact Blk.cell ho.1 rfl | exact Blk.cells ho.1 rfl | assumption | refine all_keep ?_ | refine And.intro ?_ ?_), ?_⟩
  refine at_done (by kernel_rfl) (hK4 _ _ ?_)
  clear hK4 K4
  refine cw_rs fun K5 hK5 => ?_
  -- region 4
  refine as_q rfl rfl (q_move rfl) ?_
  first | refine as_q rfl rfl (q_nilp rfl) ?_ | refine as_q rfl rfl (q_nili rfl) ?_ | refine as_q rfl rfl (q_nilf rfl) ?_ | refine as_q rfl rfl (q_nily rfl) ?_
  refine as_q rfl rfl (q_load1 (by kernel_rfl) rfl (by first | exact Blk.cell ho.1 rfl | assumption)) ?_
  refine as_q rfl rfl (q_assign rfl) ?_
  refine as_nil (hK5 _ _ ?_)
  clear hK5 K5
  refine cw_ret ?_
  exact ⟨_, (res_tmp rfl res_nil), _, rfl, wrap_u64_range _, hT, ho⟩

set_option maxHeartbeats 2000000 in
theorem srt_break {w : World} {M : Mem} {g n cap : Nat} {d : Array El} {a b : Nat} (hs : Sat M w) (hn : n ≤ 100000) (hd : ElRow 23 w M g n cap d) (hab : a + 8 ≤ b) (hb : b ≤ n) (h255 : n ≤ 255) :
    Does Tryd.prog 43 #[.slice (some ⟨g, 0, none⟩) n cap, .int .i64 a, .int .i64 b, (.func (.func 16) #[] #[])] w (fun _ w' => Step (Just g) M w M w' ∧ ∃ d2, Go.Sort.PermIn a b d d2 ∧ ElRow 23 w' M g n cap d2) := by
  have hT := Step.refl (Just g) hs
  have hsz := hd.size
  refine fn_enter Tryd.func43 rfl (rs := []) rfl rfl rfl rfl ?_
  refine cw_rs fun K1 hK1 => ?_
  -- region 0
  refine as_q rfl rfl (q_move rfl) ?_
  refine as_q rfl rfl (q_move rfl) ?_
  refine as_q rfl rfl (q_congr (q_subx rfl rfl (by omega) (by omega)) (v' := .int .i64 (b - a : Nat)) (congrArg (Value.int .i64) (by omega))) ?_
  refine as_q rfl rfl (q_assign rfl) ?_
  refine as_nil (hK1 _ _ ?_)
  clear hK1 K1
  refine cw_rs fun K2 hK2 => ?_
  -- region 1
  refine as_q rfl rfl (q_move rfl) ?_
  first | refine as_q rfl rfl (q_geT rfl rfl (by omega)) ?_ | refine as_q rfl rfl (q_geF rfl rfl (by omega)) ?_ | refine as_q rfl rfl (q_ge rfl rfl) ?_
  refine as_nil (hK2 _ _ ?_)
  clear hK2 K2
  refine cw_true rfl ?_
  refine cw_rs fun K3 hK3 => ?_
  -- region 2
  refine as_q rfl rfl (q_move rfl) ?_
  refine as_q rfl rfl (q_convx (by kernel_rfl) (by kernel_rfl) rfl (by rw [IntKind.wrap_u64]; omega)) ?_
  refine as_h rfl (h_allocO (z := .int .u64 0) hs (by kernel_rfl) rfl fun q w1 hs1 ho eq => ?_)
  have hgq : g ≠ q := by have := Buf.lt hd g rfl; omega
  have hqw : w.heap.size ≤ q := by have := hT.size; omega
  replace hd := hd.then hs1
  replace hT := hT.then hs1
  refine as_h0 (h_store hs1.sat ho rfl rfl rfl (by kernel_rfl) rfl rfl rfl fun w2 hs2 hn2 => ?_)
  replace hd := hd.step hs2 (fun h => hgq h)
  replace hT := hT.own hs2 hqw
  clear ho; have ho := hn2; clear hn2
  refine as_nil (hK3 _ _ ?_)
  clear hK3 K3
  refine cw_rs fun K4 hK4 => ?_
  -- region 3
  refine as_q rfl rfl (q_move rfl) ?_
  refine as_h rfl (h_call (by kernel_rfl) rfl ?_)
  refine (srt_pow2 hs2.sat (by omega) (by omega)).mono ?_
  rintro _ w3 ⟨m, rfl, hm1, hm2, hs3⟩
  replace hd := hd.then hs3
  replace ho := ho.then hs3
  replace hT := hT.then hs3
  refine as_q rfl rfl (q_assign rfl) ?_
  refine as_nil (hK4 _ _ ?_)
  clear hK4 K4
  refine cw_rs fun K5 hK5 => ?_
  -- region 4
  refine as_q rfl rfl (q_move rfl) ?_
  refine as_q rfl rfl (q_move rfl) ?_
  refine as_q rfl rfl (q_congr (q_quo rfl rfl (by decide)) (v' := .int .i64 (((b - a) / 4 : Nat) : Int)) (by rw [Int.tdiv_eq_ediv_of_nonneg (by omega), show (((b - a : Nat) : Int) / 4) = (((b - a) / 4 : Nat) : Int) from by omega, wrap64_of (by omega) (by omega)])) ?_
  refine as_q rfl rfl (q_congr (q_mulx rfl rfl (by omega) (by omega)) (v' := .int .i64 ((b - a) / 4 * 2 : Nat)) (congrArg (Value.int .i64) (by omega))) ?_
  refine as_q rfl rfl (q_congr (q_addx rfl rfl (by omega) (by omega)) (v' := .int .i64 (a + (b - a) / 4 * 2 : Nat)) (congrArg (Value.int .i64) (by omega))) ?_
  refine as_q rfl rfl (q_congr (q_subx rfl rfl (by omega) (by omega)) (v' := .int .i64 (a + (b - a) / 4 * 2 - 1 : Nat)) (congrArg (Value.int .i64) (by omega))) ?_
  refine as_q rfl rfl (q_assign rfl) ?_
  refine as_nil (hK5 _ _ ?_)
  clear hK5 K5
  refine cw_block ?_
  refine cw_loop (fun mm l w1 => ∃ (x : Nat) (d2 : Array El) (r : Int), mm = a + (b - a) / 4 * 2 + 2 - x ∧ a ≤ x ∧ x ≤ a + (b - a) / 4 * 2 + 2 ∧ Go.Sort.PermIn a b d d2 ∧ l = [(0, .slice (some ⟨g, 0, none⟩) n cap), (1, .int .i64 a), (8, .int .i64 ((b - a : Nat) : Int)), (9, .pointer (some ⟨q, 0, none⟩)), (10, .int .u64 m), (11, .int .i64 x)] ∧ Step (Just g) M w M w1 ∧ ElRow 23 w1 M g n cap d2 ∧ Own w1 M q [.int .u64 r] 87) (a + (b - a) / 4 * 2 + 2 - (a + (b - a) / 4 * 2 - 1)) [(0, .slice (some ⟨g, 0, none⟩) n cap), (1, .int .i64 a), (8, .int .i64 ((b - a : Nat) : Int)), (9, .pointer (some ⟨q, 0, none⟩)), (10, .int .u64 m), (11, .int .i64 (a + (b - a) / 4 * 2 - 1 : Nat))] (.cons rfl (.cons rfl (.cons rfl (.cons rfl (.cons rfl (.cons rfl (.nil _))))))) ?_ ?_
  · skip
    exact ⟨_, d, _, rfl, by omega, by omega, Go.Sort.permIn_refl _ _ _, rfl, hT, hd, ho⟩
  clear hT hd ho
  rintro mm l w1 ⟨x, d2, r, rfl, hxa, hxb, hpm, rfl, hT, hd, ho⟩
  have hsz2 := hd.size
  refine cw_seq fun K6 hK6 => ?_
  refine cw_rs fun K7 hK7 => ?_
  -- region 5
  refine as_q rfl rfl (q_move rfl) ?_
  refine as_q rfl rfl (q_move rfl) ?_
  refine as_q rfl rfl (q_move rfl) ?_
  refine as_q rfl rfl (q_congr (q_quo rfl rfl (by decide)) (v' := .int .i64 (((b - a) / 4 : Nat) : Int)) (by rw [Int.tdiv_eq_ediv_of_nonneg (by omega), show (((b - a : Nat) : Int) / 4) = (((b - a) / 4 : Nat) : Int) from by omega, wrap64_of (by omega) (by omega)])) ?_
  refine as_q rfl rfl (q_congr (q_mulx rfl rfl (by omega) (by omega)) (v' := .int .i64 ((b - a) / 4 * 2 : Nat)) (congrArg (Value.int .i64) (by omega))) ?_
  refine as_q rfl rfl (q_congr (q_addx rfl rfl (by omega) (by omega)) (v' := .int .i64 (a + (b - a) / 4 * 2 : Nat)) (congrArg (Value.int .i64) (by omega))) ?_
  refine as_q rfl rfl (q_congr (q_addx rfl rfl (by omega) (by omega)) (v' := .int .i64 (a + (b - a) / 4 * 2 + 1 : Nat)) (congrArg (Value.int .i64) (by omega))) ?_
  first | refine as_q rfl rfl (q_leT rfl rfl (by omega)) ?_ | refine as_q rfl rfl (q_leF rfl rfl (by omega)) ?_ | refine as_q rfl rfl (q_le rfl rfl) ?_
  refine as_nil (hK7 _ _ ?_)
  clear hK7 K7
  refine cw_cond rfl (fun hc1 => ?_) (fun hc1 => ?_)
  · skip
    have hx : x ≤ a + (b - a) / 4 * 2 + 1 := by have := of_decide_eq_true hc1; omega
    refine cw_skip ?_
    refine hK6 _ _ ?_
    clear hK6 K6
    refine cw_seq fun K8 hK8 => ?_
    refine cw_block ?_
    refine cw_rs fun K9 hK9 => ?_
    -- region 7
    refine as_h rfl (h_call (by kernel_rfl) rfl ?_)
    refine (srt_next hT.sat ho).mono ?_
    rintro _ w4 ⟨z, rfl, hz, hs4, ho4⟩
    replace hd := hd.step hs4 (fun h => hgq h)
    replace hT := hT.own hs4 hqw
    clear ho; have ho := ho4; clear ho4
    obtain ⟨o, ho1, ho2, ho3⟩ : ∃ o, IntKind.u64.wrap ((BitVec.ofInt IntKind.u64.bits z &&& BitVec.ofInt IntKind.u64.bits (m - 1)).toNat : Int) = o ∧ 0 ≤ o ∧ o ≤ m - 1 := ⟨_, rfl, (wrap_u64_range _).1, and_u64_le z (m - 1) (by omega) (by omega)⟩
    refine as_q rfl rfl (q_move rfl) ?_
    refine as_q rfl rfl (q_congr (q_sub rfl rfl) (v' := .int .u64 (m - 1)) (by rw [IntKind.wrap_u64]; exact congrArg (Value.int .u64) (by omega))) ?_
    refine as_q rfl rfl (q_congr (q_andb rfl rfl) (v' := .int .u64 o) (by rw [ho1])) ?_
    refine as_q rfl rfl (q_convx (by kernel_rfl) (by kernel_rfl) rfl (by first | exact wrap64_of (by omega) (by omega) | omega | (simp; omega))) ?_
    refine as_q rfl rfl (q_assign rfl) ?_
    refine as_nil (hK9 _ _ ?_)
    clear hK9 K9
    refine cw_seq fun K10 hK10 => ?_
    refine cw_rs fun K11 hK11 => ?_
    -- region 8
    refine as_q rfl rfl (q_move rfl) ?_
    refine as_q rfl rfl (q_move rfl) ?_
    refine as_q rfl rfl (q_ge rfl rfl) ?_
    refine as_nil (hK11 _ _ ?_)
    clear hK11 K11
    refine cw_cond rfl (fun hc2 => ?_) (fun hc2 => ?_)
    · skip
      obtain ⟨y, hy, hyb⟩ : ∃ y : Nat, o - ((b - a : Nat) : Int) = y ∧ y < b - a := ⟨(o - ((b - a : Nat) : Int)).toNat, by have := of_decide_eq_true hc2; omega, by have := of_decide_eq_true hc2; omega⟩
      skip
      · skip
        refine cw_region fun K12 hK12 => ?_
        -- region 9
        refine as_q rfl rfl (q_move rfl) ?_
        refine as_q rfl rfl (q_move rfl) ?_
        refine as_q rfl rfl (q_congr (q_subx rfl rfl (by omega) (by omega)) (v' := .int .i64 (y : Nat)) (congrArg (Value.int .i64) hy)) ?_
        refine as_q rfl rfl (q_assign rfl) ?_
        refine as_nil (hK12 _ _ ?_)
        clear hK12 K12
        refine hK10 _ _ ?_
        clear hK10 K10
        refine cw_drawn (by kernel_rfl) (by kernel_rfl) (by kernel_rfl) rfl rfl fun K13 hK13 => ?_
        -- region 10
        have hs5 := Step.drew hs4.sat
        replace hd := hd.then hs5
        replace ho := ho.then hs5
        replace hT := hT.then hs5
        refine at_q (i := 0) (li := #[true, false, false, false, false, false, false, false, false, false, false, false, false, false, false, false, false, false, false, false]) rfl (by kernel_rfl) rfl (fun _ => (q_move rfl)) (by kernel_rfl) ?_
        refine at_q (i := 1) (li := #[true, true, false, false, false, false, false, false, false, false, false, false, false, false, false, false, false, false, false, false]) rfl (by kernel_rfl) rfl (fun _ => (q_move rfl)) (by kernel_rfl) ?_
        refine at_q (i := 2) (li := #[true, true, true, false, false, false, false, false, false, false, false, false, false, false, false, false, false, false, false, false]) rfl (by kernel_rfl) rfl (fun _ => (q_move rfl)) (by kernel_rfl) ?_
        refine at_q (i := 3) (li := #[true, true, true, true, false, false, false, false, false, false, false, false, false, false, false, false, false, false, false, false]) rfl (by kernel_rfl) rfl (fun _ => (q_move rfl)) (by kernel_rfl) ?_
        refine at_q (i := 4) (li := #[true, true, true, true, true, false, false, false, false, false, false, false, false, false, false, false, false, false, false, false]) rfl (by kernel_rfl) rfl (fun _ => (q_move rfl)) (by kernel_rfl) ?_
        refine at_q (i := 5) (li := #[true, true, true, true, true, true, false, false, false, false, false, false, false, false, false, false, false, false, false, false]) rfl (by kernel_rfl) rfl (fun _ => (q_addx rfl rfl (by omega) (by omega))) (by kernel_rfl) ?_
        refine at_q (i := 6) (li := #[true, true, true, true, true, true, true, false, false, false, false, false, false, false, false, false, false, false, false, false]) rfl (by kernel_rfl) rfl (fun _ => (q_move rfl)) (by kernel_rfl) ?_
        refine at_q (i := 7) (li := #[true, true, true, true, true, true, true, true, false, false, false, false, false, false, false, false, false, false, false, false]) rfl (by kernel_rfl) rfl (fun _ => (q_move rfl)) (by kernel_rfl) ?_
        refine at_q (i := 8) (li := #[true, true, true, true, true, true, true, true, true, false, false, false, false, false, false, false, false, false, false, false]) rfl (by kernel_rfl) rfl (fun _ => (q_move rfl)) (by kernel_rfl) ?_
        refine at_q (i := 9) (li := #[true, true, true, true, true, true, true, true, true, true, false, false, false, false, false, false, false, false, false, false]) rfl (by kernel_rfl) rfl (fun _ => (q_addx rfl rfl (by omega) (by omega))) (by kernel_rfl) ?_
        refine at_q (i := 10) (li := #[true, true, true, true, true, true, true, true, true, true, true, false, false, false, false, false, false, false, false, false]) rfl (by kernel_rfl) rfl (fun _ => (q_indexAddr (e := 23) (size := 2) (by kernel_rfl) (by kernel_rfl) rfl rfl (by omega) (by omega))) (by kernel_rfl) ?_
        refine at_l (i := 11) (li := #[true, true, true, true, true, true, true, true, true, true, true, true, false, false, false, false, false, false, false, false]) (cellsAre _ _ 2 _) rfl (by kernel_rfl) rfl (fun _ h => q_loadc (n := 2) (by kernel_rfl) rfl h) (hd.elem (i := ((a : Nat) + (y : Nat) : Int)) (by omega) (by omega)) (by kernel_rfl) ?_
        refine at_q (i := 12) (li := #[true, true, true, true, true, true, true, true, true, true, true, true, true, false, false, false, false, false, false, false]) rfl (by kernel_rfl) rfl (fun _ => (q_move rfl)) (by kernel_rfl) ?_
        refine at_q (i := 13) (li := #[true, true, true, true, true, true, true, true, true, true, true, true, true, true, false, false, false, false, false, false]) rfl (by kernel_rfl) rfl (fun _ => (q_move rfl)) (by kernel_rfl) ?_
        refine at_q (i := 14) (li := #[true, true, true, true, true, true, true, true, true, true, true, true, true, true, true, false, false, false, false, false]) rfl (by kernel_rfl) rfl (fun _ => (q_indexAddr (e := 23) (size := 2) (by kernel_rfl) (by kernel_rfl) rfl rfl (by omega) (by omega))) (by kernel_rfl) ?_
        refine at_l (i := 15) (li := #[true, true, true, true, true, true, true, true, true, true, true, true, true, true, true, true, false, false, false, false]) (cellsAre _ _ 2 _) rfl (by kernel_rfl) rfl (fun _ h => q_loadc (n := 2) (by kernel_rfl) rfl h) (hd.elem (i := ((x : Nat) : Int)) (by omega) (by omega)) (by kernel_rfl) ?_
        refine at_q (i := 16) (li := #[true, true, true, true, true, true, true, true, true, true, true, true, true, true, true, true, true, false, false, false]) rfl (by kernel_rfl) rfl (fun _ => (q_indexAddr (e := 23) (size := 2) (by kernel_rfl) (by kernel_rfl) rfl rfl (by omega) (by omega))) (by kernel_rfl) ?_
        refine at_h0 (i := 17) (li := #[true, true, true, true, true, true, true, true, true, true, true, true, true, true, true, true, true, true, false, false]) rfl (by kernel_rfl) (keep_sift (bs := [true, true]) (by kernel_rfl)) (by kernel_rfl) (h_storeD (i := ((x : Nat) : Int)) (e := d2[((a : Nat) + (y : Nat) : Int).toNat]!) hs5.sat hd rfl rfl (by kernel_rfl) (by omega) (by omega) fun w6 hs6 hd6 => ?_)
        replace hT := hT.also hs6
        clear hd; have hd := hd6; clear hd6
        replace ho := ho.step hs6 (fun h => hgq (Eq.symm h))
        refine ⟨(by repeat' first | exact trivial | exact Blk.cell ho.1 rfl | exact Blk.cells ho.1 rfl | exact (hd.elem (i := ((a : Nat) + (y : Nat) : Int)) (by omega) (by omega)) | exact (hd.elem (i := ((x : Nat) : Int)) (by omega) (by omega)) | assumption | refine all_keep ?_ | refine And.intro ?_ ?_), ?_⟩
        refine at_q (i := 18) (li := #[true, true, true, true, true, true, true, true, true, true, true, true, true, true, true, true, true, true, true, false]) rfl (by kernel_rfl) rfl (fun _ => (q_indexAddr (e := 23) (size := 2) (by kernel_rfl) (by kernel_rfl) rfl rfl (by omega) (by omega))) (by kernel_rfl) ?_
        refine at_h0 (i := 19) (li := #[true, true, true, true, true, true, true, true, true, true, true, true, true, true, true, true, true, true, true, true]) rfl (by kernel_rfl) rfl (by kernel_rfl) (h_storeD (i := ((a : Nat) + (y : Nat) : Int)) (e := d2[((x : Nat) : Int).toNat]!) hs6.sat hd rfl rfl (by kernel_rfl) (by omega) (by omega) fun w7 hs7 hd7 => ?_)
        replace hT := hT.also hs7
        clear hd; have hd := hd7; clear hd7
        replace ho := ho.step hs7 (fun h => hgq (Eq.symm h))
        refine ⟨(by repeat' first | exact trivial | exact Blk.cell ho.1 rfl | exact Blk.cells ho.1 rfl | exact (hd.elem (i := ((a : Nat) + (y : Nat) : Int)) (by omega) (by omega)) | exact (hd.elem (i := ((x : Nat) : Int)) (by omega) (by omega)) | assumption | refine all_keep ?_ | refine And.intro ?_ ?_), ?_⟩
        refine at_done (by kernel_rfl) (hK13 _ _ ?_)
        clear hK13 K13
        refine hK8 _ _ ?_
        clear hK8 K8
        refine cw_region fun K14 hK14 => ?_
        -- region 6
        refine as_q rfl rfl (q_move rfl) ?_
        refine as_q rfl rfl (q_addx rfl rfl (by omega) (by omega)) ?_
        refine as_q rfl rfl (q_assign rfl) ?_
        refine as_nil (hK14 _ _ ?_)
        clear hK14 K14
        refine ⟨_, _, ?_, (.cons rfl (.cons rfl (.cons rfl (.cons rfl (.cons rfl (.cons rfl (.nil _))))))), x + 1, Go.Sort.swp d2 x (a + y), _, rfl, by omega, by omega, ?_, rfl, hT, hd, ho⟩
        · omega
        · exact Go.Sort.permIn_trans _ _ _ a b hpm (Go.Sort.swp_permIn d2 a b x (a + y) (by omega) (by omega) (by omega) (by omega) (by omega))
    · skip
      obtain ⟨y, hy, hyb⟩ : ∃ y : Nat, o = y ∧ y < b - a := ⟨o.toNat, by omega, by have := of_decide_eq_false hc2; omega⟩
      subst hy
      · skip
        refine cw_skip ?_
        refine hK10 _ _ ?_
        clear hK10 K10
        refine cw_drawn (by kernel_rfl) (by kernel_rfl) (by kernel_rfl) rfl rfl fun K15 hK15 => ?_
        -- region 10
        have hs8 := Step.drew hs4.sat
        replace hd := hd.then hs8
        replace ho := ho.then hs8
        replace hT := hT.then hs8
        refine at_q (i := 0) (li := #[true, false, false, false, false, false, false, false, false, false, false, false, false, false, false, false, false, false, false, false]) rfl (by kernel_rfl) rfl (fun _ => (q_move rfl)) (by kernel_rfl) ?_
        refine at_q (i := 1) (li := #[true, true, false, false, false, false, false, false, false, false, false, false, false, false, false, false, false, false, false, false]) rfl (by kernel_rfl) rfl (fun _ => (q_move rfl)) (by kernel_rfl) ?_
        refine at_q (i := 2) (li := #[true, true, true, false, false, false, false, false, false, false, false, false, false, false, false, false, false, false, false, false]) rfl (by kernel_rfl) rfl (fun _ => (q_move rfl)) (by kernel_rfl) ?_
        refine at_q (i := 3) (li := #[true, true, true, true, false, false, false, false, false, false, false, false, false, false, false, false, false, false, false, false]) rfl (by kernel_rfl) rfl (fun _ => (q_move rfl)) (by kernel_rfl) ?_
        refine at_q (i := 4) (li := #[true, true, true, true, true, false, false, false, false, false, false, false, false, false, false, false, false, false, false, false]) rfl (by kernel_rfl) rfl (fun _ => (q_move rfl)) (by kernel_rfl) ?_
        refine at_q (i := 5) (li := #[true, true, true, true, true, true, false, false, false, false, false, false, false, false, false, false, false, false, false, false]) rfl (by kernel_rfl) rfl (fun _ => (q_addx rfl rfl (by omega) (by omega))) (by kernel_rfl) ?_
        refine at_q (i := 6) (li := #[true, true, true, true, true, true, true, false, false, false, false, false, false, false, false, false, false, false, false, false]) rfl (by kernel_rfl) rfl (fun _ => (q_move rfl)) (by kernel_rfl) ?_
        refine at_q (i := 7) (li := #[true, true, true, true, true, true, true, true, false, false, false, false, false, false, false, false, false, false, false, false]) rfl (by kernel_rfl) rfl (fun _ => (q_move rfl)) (by kernel_rfl) ?_
        refine at_q (i := 8) (li := #[true, true, true, true, true, true, true, true, true, false, false, false, false, false, false, false, false, false, false, false]) rfl (by kernel_rfl) rfl (fun _ => (q_move rfl)) (by kernel_rfl) ?_
        refine at_q (i := 9) (li := #[true, true, true, true, true, true, true, true, true, true, false, false, false, false, false, false, false, false, false, false]) rfl (by kernel_rfl) rfl (fun _ => (q_addx rfl rfl (by omega) (by omega))) (by kernel_rfl) ?_
        refine at_q (i := 10) (li := #[true, true, true, true, true, true, true, true, true, true, true, false, false, false, false, false, false, false, false, false]) rfl (by kernel_rfl) rfl (fun _ => (q_indexAddr (e := 23) (size := 2) (by kernel_rfl) (by kernel_rfl) rfl rfl (by omega) (by omega))) (by kernel_rfl) ?_
        refine at_l (i := 11) (li := #[true, true, true, true, true, true, true, true, true, true, true, true, false, false, false, false, false, false, false, false]) (cellsAre _ _ 2 _) rfl (by kernel_rfl) rfl (fun _ h => q_loadc (n := 2) (by kernel_rfl) rfl h) (hd.elem (i := ((a : Nat) + (y : Nat) : Int)) (by omega) (by omega)) (by kernel_rfl) ?_
        refine at_q (i := 12) (li := #[true, true, true, true, true, true, true, true, true, true, true, true, true, false, false, false, false, false, false, false]) rfl (by kernel_rfl) rfl (fun _ => (q_move rfl)) (by kernel_rfl) ?_
        refine at_q (i := 13) (li := #[true, true, true, true, true, true, true, true, true, true, true, true, true, true, false, false, false, false, false, false]) rfl (by kernel_rfl) rfl (fun _ => (q_move rfl)) (by kernel_rfl) ?_
        refine at_q (i := 14) (li := #[true, true, true, true, true, true, true, true, true, true, true, true, true, true, true, false, false, false, false, false]) rfl (by kernel_rfl) rfl (fun _ => (q_indexAddr (e := 23) (size := 2) (by kernel_rfl) (by kernel_rfl) rfl rfl (by omega) (by omega))) (by kernel_rfl) ?_
        refine at_l (i := 15) (li := #[true, true, true, true, true, true, true, true, true, true, true, true, true, true, true, true, false, false, false, false]) (cellsAre _ _ 2 _) rfl (by kernel_rfl) rfl (fun _ h => q_loadc (n := 2) (by kernel_rfl) rfl h) (hd.elem (i := ((x : Nat) : Int)) (by omega) (by omega)) (by kernel_rfl) ?_
        refine at_q (i := 16) (li := #[true, true, true, true, true, true, true, true, true, true, true, true, true, true, true, true, true, false, false, false]) rfl (by kernel_rfl) rfl (fun _ => (q_indexAddr (e := 23) (size := 2) (by kernel_rfl) (by kernel_rfl) rfl rfl (by omega) (by omega))) (by kernel_rfl) ?_
        refine at_h0 (i := 17) (li := #[true, true, true, true, true, true, true, true, true, true, true, true, true, true, true, true, true, true, false, false]) rfl (by kernel_rfl) (keep_sift (bs := [true, true]) (by kernel_rfl)) (by kernel_rfl) (h_storeD (i := ((x : Nat) : Int)) (e := d2[((a : Nat) + (y : Nat) : Int).toNat]!) hs8.sat hd rfl rfl (by kernel_rfl) (by omega) (by omega) fun w9 hs9 hd9 => ?_)
        replace hT := hT.also hs9
        clear hd; have hd := hd9; clear hd9
        replace ho := ho.step hs9 (fun h => hgq (Eq.symm h))
        refine ⟨(by repeat' first | exact trivial | exact Blk.cell ho.1 rfl | exact Blk.cells ho.1 rfl | exact (hd.elem (i := ((a : Nat) + (y : Nat) : Int)) (by omega) (by omega)) | exact (hd.elem (i := ((x : Nat) : Int)) (by omega) (by omega)) | assumption | refine all_keep ?_ | refine And.intro ?_ ?_), ?_⟩
        refine at_q (i := 18) (li := #[true, true, true, true, true, true, true, true, true, true, true, true, true, true, true, true, true, true, true, false]) rfl (by kernel_rfl) rfl (fun _ => (q_indexAddr (e := 23) (size := 2) (by kernel_rfl) (by kernel_rfl) rfl rfl (by omega) (by omega))) (by kernel_rfl) ?_
        refine at_h0 (i := 19) (li := #[true, true, true, true, true, true, true, true, true, true, true, true, true, true, true, true, true, true, true, true]) rfl (by kernel_rfl) rfl (by kernel_rfl) (h_storeD (i := ((a : Nat) + (y : Nat) : Int)) (e := d2[((x : Nat) : Int).toNat]!) hs9.sat hd rfl rfl (by kernel_rfl) (by omega) (by omega) fun w10 hs10 hd10 => ?_)
        replace hT := hT.also hs10
        clear hd; have hd := hd10; clear hd10
        replace ho := ho.step hs10 (fun h => hgq (Eq.symm h))
        refine ⟨(by repeat' first | exact trivial | exact Blk.cell ho.1 rfl | exact Blk.cells ho.1 rfl | exact (hd.elem (i := ((a : Nat) + (y : Nat) : Int)) (by omega) (by omega)) | exact (hd.elem (i := ((x : Nat) : Int)) (by omega) (by omega)) | assumption | refine all_keep ?_ | refine And.intro ?_ ?_), ?_⟩
        refine at_done (by kernel_rfl) (hK15 _ _ ?_)
        clear hK15 K15
        refine hK8 _ _ ?_
        clear hK8 K8
        refine cw_region fun K16 hK16 => ?_
        -- region 6
        refine as_q rfl rfl (q_move rfl) ?_
        refine as_q rfl rfl (q_addx rfl rfl (by omega) (by omega)) ?_
        refine as_q rfl rfl (q_assign rfl) ?_
        refine as_nil (hK16 _ _ ?_)
        clear hK16 K16
        refine ⟨_, _, ?_, (.cons rfl (.cons rfl (.cons rfl (.cons rfl (.cons rfl (.cons rfl (.nil _))))))), x + 1, Go.Sort.swp d2 x (a + y), _, rfl, by omega, by omega, ?_, rfl, hT, hd, ho⟩
        · omega
        · exact Go.Sort.permIn_trans _ _ _ a b hpm (Go.Sort.swp_permIn d2 a b x (a + y) (by omega) (by omega) (by omega) (by omega) (by omega))
  · skip
    skip
    refine cw_exit ?_
    exact ⟨_, res_nil, hT, _, hpm, hd⟩

end Go.Proofs.YtbfjkclijjhlhaaDoor
