/- Go s sort of elements: what each of its functions does, part 4. -/
import Derived.Test.YtbfjkclijjhlhaaDoorSrtC
namespace Go.Proofs.YtbfjkclijjhlhaaDoor
open Go Go.Eng
theorem srt_order2 {w : World} {M : Mem} {g n cap : Nat} {d : Array El} {x y : Nat} {q s : Nat} (hs : Sat M w) (_hn : n ≤ 100000) (hd : ElRow 23 w M g n cap d) (ho : Own w M q [.int .i64 (s : Nat)] 3) (hgq : g ≠ q) (hsb : s ≤ 2000) (hx : x < n) (hy : y < n) :
    Does Tryd.prog 79 #[.slice (some ⟨g, 0, none⟩) n cap, .int .i64 x, .int .i64 y, .pointer (some ⟨q, 0, none⟩), (.func (.func 16) #[] #[])] w (fun v w' => v = .tuple #[.int .i64 (Go.Sort.order2 ltE d x y s).1, .int .i64 (Go.Sort.order2 ltE d x y s).2.1] ∧ Step (Just q) M w M w' ∧ ElRow 23 w' M g n cap d ∧ Own w' M q [.int .i64 (Go.Sort.order2 ltE d x y s).2.2] 3) := by
  have hT := Step.refl (Just q) hs
  have hsz := hd.size
  refine fn_enter Tryd.func79 rfl (rs := [.tmp 10, .tmp 11]) rfl rfl rfl rfl ?_
  refine cw_rs fun K1 hK1 => ?_
  -- region 0
  refine as_q rfl rfl (q_assign rfl) ?_
  refine as_q rfl rfl (q_assign rfl) ?_
  refine as_nil (hK1 _ _ ?_)
  clear hK1 K1
  refine cw_seq fun K2 hK2 => ?_
  refine cw_rd (by kernel_rfl) (by kernel_rfl) (by kernel_rfl) rfl rfl fun K3 hK3 => ?_
  -- region 1
  have hs1 := Step.drew hs
  replace hd := hd.then hs1
  replace ho := ho.then hs1
  replace hT := hT.then hs1
  refine at_q (i := 0) (li := #[true, false, false, false, false, false, false, false, false, false, false]) rfl (by kernel_rfl) rfl (fun _ => (q_move rfl)) (by kernel_rfl) ?_
  refine at_q (i := 1) (li := #[true, true, false, false, false, false, false, false, false, false, false]) rfl (by kernel_rfl) rfl (fun _ => (q_move rfl)) (by kernel_rfl) ?_
  refine at_q (i := 2) (li := #[true, true, true, false, false, false, false, false, false, false, false]) rfl (by kernel_rfl) rfl (fun _ => (q_move rfl)) (by kernel_rfl) ?_
  refine at_q (i := 3) (li := #[true, true, true, true, false, false, false, false, false, false, false]) rfl (by kernel_rfl) rfl (fun _ => (q_indexAddr (e := 23) (size := 2) (by kernel_rfl) (by kernel_rfl) rfl rfl (by omega) (by omega))) (by kernel_rfl) ?_
  refine at_l (i := 4) (li := #[true, true, true, true, true, false, false, false, false, false, false]) (cellsAre _ _ 2 _) rfl (by kernel_rfl) rfl (fun _ h => q_loadc (n := 2) (by kernel_rfl) rfl h) (hd.elem (i := ((y : Nat) : Int)) (by omega) (by omega)) (by kernel_rfl) ?_
  refine at_q (i := 5) (li := #[true, true, true, true, true, true, false, false, false, false, false]) rfl (by kernel_rfl) rfl (fun _ => (q_move rfl)) (by kernel_rfl) ?_
  refine at_q (i := 6) (li := #[true, true, true, true, true, true, true, false, false, false, false]) rfl (by kernel_rfl) rfl (fun _ => (q_move rfl)) (by kernel_rfl) ?_
  refine at_q (i := 7) (li := #[true, true, true, true, true, true, true, true, false, false, false]) rfl (by kernel_rfl) rfl (fun _ => (q_indexAddr (e := 23) (size := 2) (by kernel_rfl) (by kernel_rfl) rfl rfl (by omega) (by omega))) (by kernel_rfl) ?_
  refine at_l (i := 8) (li := #[true, true, true, true, true, true, true, true, true, false, false]) (cellsAre _ _ 2 _) rfl (by kernel_rfl) rfl (fun _ h => q_loadc (n := 2) (by kernel_rfl) rfl h) (hd.elem (i := ((x : Nat) : Int)) (by omega) (by omega)) (by kernel_rfl) ?_
  refine at_h (i := 9) (li := #[true, true, true, true, true, true, true, true, true, true, false]) rfl (by kernel_rfl) rfl (keep_sift (bs := [true, true]) (by kernel_rfl)) (by kernel_rfl) (h_callv (f := 16) (first := []) (cap := []) (by kernel_rfl) rfl rfl rfl ?_)
  refine (srt_compare (a := d[((y : Nat) : Int).toNat]!) (b := d[((x : Nat) : Int).toNat]!) hs1.sat).mono ?_
  rintro _ w2 ⟨rfl, hs2⟩
  replace hd := hd.then hs2
  replace ho := ho.then hs2
  replace hT := hT.then hs2
  refine ⟨(by repeat' first | exact trivial | exact Blk.cell ho.1 rfl | exact Blk.cells ho.1 rfl | exact (hd.elem (i := ((y : Nat) : Int)) (by omega) (by omega)) | exact (hd.elem (i := ((x : Nat) : Int)) (by omega) (by omega)) | assumption | refine all_keep ?_ | refine And.intro ?_ ?_), ?_⟩
  first | refine at_q (i := 10) (li := #[true, true, true, true, true, true, true, true, true, true, true]) rfl (by kernel_rfl) rfl (fun _ => (q_ltT rfl rfl (by omega))) (by kernel_rfl) ?_ | refine at_q (i := 10) (li := #[true, true, true, true, true, true, true, true, true, true, true]) rfl (by kernel_rfl) rfl (fun _ => (q_ltF rfl rfl (by omega))) (by kernel_rfl) ?_ | refine at_q (i := 10) (li := #[true, true, true, true, true, true, true, true, true, true, true]) rfl (by kernel_rfl) rfl (fun _ => (q_lt rfl rfl)) (by kernel_rfl) ?_
  refine at_done (by kernel_rfl) (hK3 _ _ ?_)
  clear hK3 K3
  refine cw_cond rfl (fun hc0 => ?_) (fun hc0 => ?_)
  · skip
    have hl : ltE d[y]! d[x]! = true := hc0
    refine cw_rs fun K4 hK4 => ?_
    -- region 2
    refine as_q rfl rfl (q_move rfl) ?_
    first | refine as_q rfl rfl (q_nilp rfl) ?_ | refine as_q rfl rfl (q_nili rfl) ?_ | refine as_q rfl rfl (q_nilf rfl) ?_ | refine as_q rfl rfl (q_nily rfl) ?_
    refine as_q rfl rfl (q_load1 (by kernel_rfl) rfl (by first | exact Blk.cell ho.1 rfl | assumption)) ?_
    refine as_q rfl rfl (q_congr (q_addx rfl rfl (by omega) (by omega)) (v' := .int .i64 (s + 1 : Nat)) (congrArg (Value.int .i64) (by omega))) ?_
    first | refine as_q rfl rfl (q_nilp rfl) ?_ | refine as_q rfl rfl (q_nili rfl) ?_ | refine as_q rfl rfl (q_nilf rfl) ?_ | refine as_q rfl rfl (q_nily rfl) ?_
    refine as_h0 (h_store hs2.sat ho rfl rfl rfl (by kernel_rfl) rfl rfl rfl fun w3 hs3 hn3 => ?_)
    replace hd := hd.step hs3 (fun h => hgq h)
    replace hT := hT.also hs3
    clear ho; have ho := hn3; clear hn3
    refine as_nil (hK4 _ _ ?_)
    clear hK4 K4
    refine cw_rs fun K5 hK5 => ?_
    -- region 3
    refine as_q rfl rfl (q_move rfl) ?_
    refine as_q rfl rfl (q_move rfl) ?_
    refine as_q rfl rfl (q_assign rfl) ?_
    refine as_q rfl rfl (q_assign rfl) ?_
    refine as_nil (hK5 _ _ ?_)
    clear hK5 K5
    refine cw_ret ?_
    rw [show Go.Sort.order2 ltE d x y s = (y, x, s + 1) from if_pos hl]
    exact ⟨_, (res_tmp rfl (res_tmp rfl res_nil)), rfl, hT, hd, ho⟩
  · skip
    have hl : ltE d[y]! d[x]! = false := hc0
    refine cw_skip ?_
    refine hK2 _ _ ?_
    clear hK2 K2
    refine cw_rs fun K6 hK6 => ?_
    -- region 4
    refine as_q rfl rfl (q_move rfl) ?_
    refine as_q rfl rfl (q_move rfl) ?_
    refine as_q rfl rfl (q_assign rfl) ?_
    refine as_q rfl rfl (q_assign rfl) ?_
    refine as_nil (hK6 _ _ ?_)
    clear hK6 K6
    refine cw_ret ?_
    rw [show Go.Sort.order2 ltE d x y s = (x, y, s) from if_neg (by rw [hl]; simp)]
    exact ⟨_, (res_tmp rfl (res_tmp rfl res_nil)), rfl, hT, hd, ho⟩

theorem srt_median {w : World} {M : Mem} {g n cap : Nat} {d : Array El} {x y z : Nat} {q s : Nat} (hs : Sat M w) (hn : n ≤ 100000) (hd : ElRow 23 w M g n cap d) (ho : Own w M q [.int .i64 (s : Nat)] 3) (hgq : g ≠ q) (hsb : s ≤ 1000) (hx : x < n) (hy : y < n) (hz : z < n) :
    Does Tryd.prog 65 #[.slice (some ⟨g, 0, none⟩) n cap, .int .i64 x, .int .i64 y, .int .i64 z, .pointer (some ⟨q, 0, none⟩), (.func (.func 16) #[] #[])] w (fun v w' => v = .int .i64 (Go.Sort.median ltE d x y z s).1 ∧ Step (Just q) M w M w' ∧ ElRow 23 w' M g n cap d ∧ Own w' M q [.int .i64 (Go.Sort.median ltE d x y z s).2] 3) := by
  have hT := Step.refl (Just q) hs
  have hsz := hd.size
  refine fn_enter Tryd.func65 rfl (rs := [.tmp 12]) rfl rfl rfl rfl ?_
  refine cw_rs fun K1 hK1 => ?_
  -- region 0
  refine as_q rfl rfl (q_assign rfl) ?_
  refine as_nil (hK1 _ _ ?_)
  clear hK1 K1
  refine cw_rs fun K2 hK2 => ?_
  -- region 1
  refine as_q rfl rfl (q_move rfl) ?_
  refine as_q rfl rfl (q_move rfl) ?_
  refine as_q rfl rfl (q_move rfl) ?_
  refine as_q rfl rfl (q_move rfl) ?_
  refine as_q rfl rfl (q_move rfl) ?_
  refine as_h rfl (h_call (by kernel_rfl) rfl ?_)
  refine (srt_order2 (x := x) (y := y) (s := s) hs hn hd ho hgq (by omega) (by omega) (by omega)).mono ?_
  rintro _ w1 ⟨rfl, hs1, hd1, ho1⟩
  replace hT := hT.also hs1
  clear hd ho; have hd := hd1; have ho := ho1; clear hd1 ho1
  obtain ⟨r1, hr1⟩ : ∃ zz, zz = Go.Sort.order2 ltE d x y s := ⟨_, rfl⟩
  rw [← hr1] at ho
  have hmr1 := Go.Sort.order2_mem ltE d x y s
  have hkr1 := Go.Sort.order2_count (lt := ltE) d x y s
  rw [← hr1] at hmr1 hkr1
  simp only [← hr1]
  refine as_q rfl rfl (q_move rfl) ?_
  refine as_q rfl rfl (q_extract rfl rfl) ?_
  refine as_q rfl rfl (q_extract rfl rfl) ?_
  refine as_q rfl rfl (q_assign rfl) ?_
  refine as_q rfl rfl (q_assign rfl) ?_
  refine as_nil (hK2 _ _ ?_)
  clear hK2 K2
  refine cw_rs fun K3 hK3 => ?_
  -- region 2
  refine as_q rfl rfl (q_move rfl) ?_
  refine as_q rfl rfl (q_move rfl) ?_
  refine as_q rfl rfl (q_move rfl) ?_
  refine as_q rfl rfl (q_move rfl) ?_
  refine as_q rfl rfl (q_move rfl) ?_
  refine as_h rfl (h_call (by kernel_rfl) rfl ?_)
  refine (srt_order2 (x := r1.2.1) (y := z) (s := r1.2.2) hs1.sat hn hd ho hgq (by omega) (by omega) (by omega)).mono ?_
  rintro _ w2 ⟨rfl, hs2, hd2, ho2⟩
  replace hT := hT.also hs2
  clear hd ho; have hd := hd2; have ho := ho2; clear hd2 ho2
  obtain ⟨r2, hr2⟩ : ∃ zz, zz = Go.Sort.order2 ltE d r1.2.1 z r1.2.2 := ⟨_, rfl⟩
  rw [← hr2] at ho
  have hmr2 := Go.Sort.order2_mem ltE d r1.2.1 z r1.2.2
  have hkr2 := Go.Sort.order2_count (lt := ltE) d r1.2.1 z r1.2.2
  rw [← hr2] at hmr2 hkr2
  simp only [← hr2]
  refine as_q rfl rfl (q_move rfl) ?_
  refine as_q rfl rfl (q_extract rfl rfl) ?_
  refine as_q rfl rfl (q_extract rfl rfl) ?_
  refine as_q rfl rfl (q_assign rfl) ?_
  refine as_q rfl rfl (q_assign rfl) ?_
  refine as_nil (hK3 _ _ ?_)
  clear hK3 K3
  refine cw_rs fun K4 hK4 => ?_
  -- region 3
  refine as_q rfl rfl (q_move rfl) ?_
  refine as_q rfl rfl (q_move rfl) ?_
  refine as_q rfl rfl (q_move rfl) ?_
  refine as_q rfl rfl (q_move rfl) ?_
  refine as_q rfl rfl (q_move rfl) ?_
  refine as_h rfl (h_call (by kernel_rfl) rfl ?_)
  refine (srt_order2 (x := r1.1) (y := r2.1) (s := r2.2.2) hs2.sat hn hd ho hgq (by omega) (by omega) (by omega)).mono ?_
  rintro _ w3 ⟨rfl, hs3, hd3, ho3⟩
  replace hT := hT.also hs3
  clear hd ho; have hd := hd3; have ho := ho3; clear hd3 ho3
  obtain ⟨r3, hr3⟩ : ∃ zz, zz = Go.Sort.order2 ltE d r1.1 r2.1 r2.2.2 := ⟨_, rfl⟩
  rw [← hr3] at ho
  have hmr3 := Go.Sort.order2_mem ltE d r1.1 r2.1 r2.2.2
  have hkr3 := Go.Sort.order2_count (lt := ltE) d r1.1 r2.1 r2.2.2
  rw [← hr3] at hmr3 hkr3
  simp only [← hr3]
  refine as_q rfl rfl (q_move rfl) ?_
  refine as_q rfl rfl (q_extract rfl rfl) ?_
  refine as_q rfl rfl (q_extract rfl rfl) ?_
  refine as_q rfl rfl (q_assign rfl) ?_
  refine as_q rfl rfl (q_assign rfl) ?_
  refine as_nil (hK4 _ _ ?_)
  clear hK4 K4
  refine cw_rs fun K5 hK5 => ?_
  -- region 4
  refine as_q rfl rfl (q_move rfl) ?_
  refine as_q rfl rfl (q_assign rfl) ?_
  refine as_nil (hK5 _ _ ?_)
  clear hK5 K5
  refine cw_ret ?_
  rw [show Go.Sort.median ltE d x y z s = (r3.2.1, r3.2.2) from by rw [hr3, hr2, hr1]; rfl]
  exact ⟨_, (res_tmp rfl res_nil), rfl, hT, hd, ho⟩

theorem srt_medAdj {w : World} {M : Mem} {g n cap : Nat} {d : Array El} {x : Nat} {q s : Nat} (hs : Sat M w) (hn : n ≤ 100000) (hd : ElRow 23 w M g n cap d) (ho : Own w M q [.int .i64 (s : Nat)] 3) (hgq : g ≠ q) (hsb : s ≤ 1000) (hx : 1 ≤ x) (hx2 : x + 1 < n) :
    Does Tryd.prog 64 #[.slice (some ⟨g, 0, none⟩) n cap, .int .i64 x, .pointer (some ⟨q, 0, none⟩), (.func (.func 16) #[] #[])] w (fun v w' => v = .int .i64 (Go.Sort.medianAdjacent ltE d x s).1 ∧ Step (Just q) M w M w' ∧ ElRow 23 w' M g n cap d ∧ Own w' M q [.int .i64 (Go.Sort.medianAdjacent ltE d x s).2] 3) := by
  have hT := Step.refl (Just q) hs
  have hsz := hd.size
  refine fn_enter Tryd.func64 rfl (rs := [.tmp 8]) rfl rfl rfl rfl ?_
  refine cw_rs fun K1 hK1 => ?_
  -- region 0
  refine as_q rfl rfl (q_assign rfl) ?_
  refine as_nil (hK1 _ _ ?_)
  clear hK1 K1
  refine cw_rs fun K2 hK2 => ?_
  -- region 1
  refine as_q rfl rfl (q_move rfl) ?_
  refine as_q rfl rfl (q_move rfl) ?_
  refine as_q rfl rfl (q_congr (q_subx rfl rfl (by omega) (by omega)) (v' := .int .i64 (x - 1 : Nat)) (congrArg (Value.int .i64) (by omega))) ?_
  refine as_q rfl rfl (q_move rfl) ?_
  refine as_q rfl rfl (q_move rfl) ?_
  refine as_q rfl rfl (q_congr (q_addx rfl rfl (by omega) (by omega)) (v' := .int .i64 (x + 1 : Nat)) (congrArg (Value.int .i64) (by omega))) ?_
  refine as_q rfl rfl (q_move rfl) ?_
  refine as_q rfl rfl (q_move rfl) ?_
  refine as_h rfl (h_call (by kernel_rfl) rfl ?_)
  refine (srt_median (x := x - 1) (y := x) (z := x + 1) (s := s) hs hn hd ho hgq (by omega) (by omega) (by omega) (by omega)).mono ?_
  rintro _ w1 ⟨rfl, hs1, hd1, ho1⟩
  replace hT := hT.also hs1
  clear hd ho; have hd := hd1; have ho := ho1; clear hd1 ho1
  obtain ⟨r, hr⟩ : ∃ zz, zz = Go.Sort.median ltE d (x - 1) (x) (x + 1) (s) := ⟨_, rfl⟩
  rw [← hr] at ho
  have hmr := Go.Sort.median_mem ltE d (x - 1) (x) (x + 1) (s)
  have hkr := Go.Sort.median_count (lt := ltE) d (x - 1) (x) (x + 1) (s)
  rw [← hr] at hmr hkr
  simp only [← hr]
  refine as_q rfl rfl (q_assign rfl) ?_
  refine as_nil (hK2 _ _ ?_)
  clear hK2 K2
  refine cw_ret ?_
  rw [show Go.Sort.medianAdjacent ltE d x s = r from hr.symm]
  exact ⟨_, (res_tmp rfl res_nil), rfl, hT, hd, ho⟩

theorem srt_choose {w : World} {M : Mem} {g n cap : Nat} {d : Array El} {a b : Nat} (hs : Sat M w) (hn : n ≤ 100000) (hd : ElRow 23 w M g n cap d) (hab : a + 12 < b) (hb : b ≤ n) :
    Does Tryd.prog 44 #[.slice (some ⟨g, 0, none⟩) n cap, .int .i64 a, .int .i64 b, (.func (.func 16) #[] #[])] w (fun v w' => v = .tuple #[.int .i64 (Go.Sort.choosePivot ltE d a b).1, .int .i64 (Go.Sort.hintCode (Go.Sort.choosePivot ltE d a b).2)] ∧ Step Nope M w M w' ∧ ElRow 23 w' M g n cap d) := by
  have hT := Step.refl Nope hs
  have hsz := hd.size
  refine fn_enter Tryd.func44 rfl (rs := [.tmp 8, .tmp 9]) rfl rfl rfl rfl ?_
  refine cw_rs fun K1 hK1 => ?_
  -- region 0
  refine as_q rfl rfl (q_assign rfl) ?_
  refine as_q rfl rfl (q_assign rfl) ?_
  refine as_nil (hK1 _ _ ?_)
  clear hK1 K1
  refine cw_rs fun K2 hK2 => ?_
  -- region 1
  refine as_q rfl rfl (q_move rfl) ?_
  refine as_q rfl rfl (q_move rfl) ?_
  refine as_q rfl rfl (q_congr (q_subx rfl rfl (by omega) (by omega)) (v' := .int .i64 (b - a : Nat)) (congrArg (Value.int .i64) (by omega))) ?_
  refine as_q rfl rfl (q_assign rfl) ?_
  refine as_nil (hK2 _ _ ?_)
  clear hK2 K2
  refine cw_rs fun K3 hK3 => ?_
  -- region 2
  refine as_h rfl (h_allocO (z := .int .i64 0) hs (by kernel_rfl) rfl fun q w1 hs1 ho eq => ?_)
  have hgq : g ≠ q := by have := Buf.lt hd g rfl; omega
  have hqw : w.heap.size ≤ q := by have := hT.size; omega
  replace hd := hd.then hs1
  replace hT := hT.then hs1
  refine as_nil (hK3 _ _ ?_)
  clear hK3 K3
  refine cw_rs fun K4 hK4 => ?_
  -- region 3
  refine as_q rfl rfl (q_move rfl) ?_
  refine as_q rfl rfl (q_move rfl) ?_
  refine as_q rfl rfl (q_congr (q_quo rfl rfl (by decide)) (v' := .int .i64 (((b - a) / 4 : Nat) : Int)) (by rw [Int.tdiv_eq_ediv_of_nonneg (by omega), show (((b - a : Nat) : Int) / 4) = (((b - a) / 4 : Nat) : Int) from by omega, wrap64_of (by omega) (by omega)])) ?_
  refine as_q rfl rfl (q_congr (q_mulx rfl rfl (by omega) (by omega)) (v' := .int .i64 ((b - a) / 4 * 1 : Nat)) (congrArg (Value.int .i64) (by omega))) ?_
  refine as_q rfl rfl (q_congr (q_addx rfl rfl (by omega) (by omega)) (v' := .int .i64 (a + (b - a) / 4 * 1 : Nat)) (congrArg (Value.int .i64) (by omega))) ?_
  refine as_q rfl rfl (q_assign rfl) ?_
  refine as_nil (hK4 _ _ ?_)
  clear hK4 K4
  refine cw_rs fun K5 hK5 => ?_
  -- region 4
  refine as_q rfl rfl (q_move rfl) ?_
  refine as_q rfl rfl (q_move rfl) ?_
  refine as_q rfl rfl (q_congr (q_quo rfl rfl (by decide)) (v' := .int .i64 (((b - a) / 4 : Nat) : Int)) (by rw [Int.tdiv_eq_ediv_of_nonneg (by omega), show (((b - a : Nat) : Int) / 4) = (((b - a) / 4 : Nat) : Int) from by omega, wrap64_of (by omega) (by omega)])) ?_
  refine as_q rfl rfl (q_congr (q_mulx rfl rfl (by omega) (by omega)) (v' := .int .i64 ((b - a) / 4 * 2 : Nat)) (congrArg (Value.int .i64) (by omega))) ?_
  refine as_q rfl rfl (q_congr (q_addx rfl rfl (by omega) (by omega)) (v' := .int .i64 (a + (b - a) / 4 * 2 : Nat)) (congrArg (Value.int .i64) (by omega))) ?_
  refine as_q rfl rfl (q_assign rfl) ?_
  refine as_nil (hK5 _ _ ?_)
  clear hK5 K5
  refine cw_rs fun K6 hK6 => ?_
  -- region 5
  refine as_q rfl rfl (q_move rfl) ?_
  refine as_q rfl rfl (q_move rfl) ?_
  refine as_q rfl rfl (q_congr (q_quo rfl rfl (by decide)) (v' := .int .i64 (((b - a) / 4 : Nat) : Int)) (by rw [Int.tdiv_eq_ediv_of_nonneg (by omega), show (((b - a : Nat) : Int) / 4) = (((b - a) / 4 : Nat) : Int) from by omega, wrap64_of (by omega) (by omega)])) ?_
  refine as_q rfl rfl (q_congr (q_mulx rfl rfl (by omega) (by omega)) (v' := .int .i64 ((b - a) / 4 * 3 : Nat)) (congrArg (Value.int .i64) (by omega))) ?_
  refine as_q rfl rfl (q_congr (q_addx rfl rfl (by omega) (by omega)) (v' := .int .i64 (a + (b - a) / 4 * 3 : Nat)) (congrArg (Value.int .i64) (by omega))) ?_
  refine as_q rfl rfl (q_assign rfl) ?_
  refine as_nil (hK6 _ _ ?_)
  clear hK6 K6
  refine cw_seq fun K7 hK7 => ?_
  refine cw_rs fun K8 hK8 => ?_
  -- region 6
  refine as_q rfl rfl (q_move rfl) ?_
  first | refine as_q rfl rfl (q_geT rfl rfl (by omega)) ?_ | refine as_q rfl rfl (q_geF rfl rfl (by omega)) ?_ | refine as_q rfl rfl (q_ge rfl rfl) ?_
  refine as_nil (hK8 _ _ ?_)
  clear hK8 K8
  refine cw_true rfl ?_
  refine cw_seq fun K9 hK9 => ?_
  refine cw_rs fun K10 hK10 => ?_
  -- region 7
  refine as_q rfl rfl (q_move rfl) ?_
  refine as_q rfl rfl (q_ge rfl rfl) ?_
  refine as_nil (hK10 _ _ ?_)
  clear hK10 K10
  refine cw_cond rfl (fun hc1 => ?_) (fun hc1 => ?_)
  · skip
    have h50 : b - a ≥ 50 := by have := of_decide_eq_true hc1; omega
    skip
    · skip
      refine cw_rs fun K11 hK11 => ?_
      -- region 8
      refine as_q rfl rfl (q_move rfl) ?_
      refine as_q rfl rfl (q_move rfl) ?_
      refine as_q rfl rfl (q_move rfl) ?_
      refine as_h rfl (h_call (by kernel_rfl) rfl ?_)
      refine (srt_medAdj (x := a + (b - a) / 4 * 1) (s := 0) hs1.sat hn hd ho hgq (by omega) (by omega) (by omega)).mono ?_
      rintro _ w2 ⟨rfl, hs2, hd2, ho2⟩
      replace hT := hT.own hs2 hqw
      clear hd ho; have hd := hd2; have ho := ho2; clear hd2 ho2
      obtain ⟨r1, hr1⟩ : ∃ zz, zz = Go.Sort.medianAdjacent ltE d (a + (b - a) / 4 * 1) (0) := ⟨_, rfl⟩
      rw [← hr1] at ho
      have hmr1 := Go.Sort.medianAdjacent_mem ltE d (a + (b - a) / 4 * 1) (0)
      have hkr1 := Go.Sort.medianAdjacent_count (lt := ltE) d (a + (b - a) / 4 * 1) (0)
      rw [← hr1] at hmr1 hkr1
      simp only [← hr1]
      refine as_q rfl rfl (q_assign rfl) ?_
      refine as_nil (hK11 _ _ ?_)
      clear hK11 K11
      refine cw_rs fun K12 hK12 => ?_
      -- region 9
      refine as_q rfl rfl (q_move rfl) ?_
      refine as_q rfl rfl (q_move rfl) ?_
      refine as_q rfl rfl (q_move rfl) ?_
      refine as_h rfl (h_call (by kernel_rfl) rfl ?_)
      refine (srt_medAdj (x := a + (b - a) / 4 * 2) (s := r1.2) hs2.sat hn hd ho hgq (by omega) (by omega) (by omega)).mono ?_
      rintro _ w3 ⟨rfl, hs3, hd3, ho3⟩
      replace hT := hT.own hs3 hqw
      clear hd ho; have hd := hd3; have ho := ho3; clear hd3 ho3
      obtain ⟨r2, hr2⟩ : ∃ zz, zz = Go.Sort.medianAdjacent ltE d (a + (b - a) / 4 * 2) (r1.2) := ⟨_, rfl⟩
      rw [← hr2] at ho
      have hmr2 := Go.Sort.medianAdjacent_mem ltE d (a + (b - a) / 4 * 2) (r1.2)
      have hkr2 := Go.Sort.medianAdjacent_count (lt := ltE) d (a + (b - a) / 4 * 2) (r1.2)
      rw [← hr2] at hmr2 hkr2
      simp only [← hr2]
      refine as_q rfl rfl (q_assign rfl) ?_
      refine as_nil (hK12 _ _ ?_)
      clear hK12 K12
      refine cw_region fun K13 hK13 => ?_
      -- region 10
      refine as_q rfl rfl (q_move rfl) ?_
      refine as_q rfl rfl (q_move rfl) ?_
      refine as_q rfl rfl (q_move rfl) ?_
      refine as_h rfl (h_call (by kernel_rfl) rfl ?_)
      refine (srt_medAdj (x := a + (b - a) / 4 * 3) (s := r2.2) hs3.sat hn hd ho hgq (by omega) (by omega) (by omega)).mono ?_
      rintro _ w4 ⟨rfl, hs4, hd4, ho4⟩
      replace hT := hT.own hs4 hqw
      clear hd ho; have hd := hd4; have ho := ho4; clear hd4 ho4
      obtain ⟨r3, hr3⟩ : ∃ zz, zz = Go.Sort.medianAdjacent ltE d (a + (b - a) / 4 * 3) (r2.2) := ⟨_, rfl⟩
      rw [← hr3] at ho
      have hmr3 := Go.Sort.medianAdjacent_mem ltE d (a + (b - a) / 4 * 3) (r2.2)
      have hkr3 := Go.Sort.medianAdjacent_count (lt := ltE) d (a + (b - a) / 4 * 3) (r2.2)
      rw [← hr3] at hmr3 hkr3
      simp only [← hr3]
      refine as_q rfl rfl (q_assign rfl) ?_
      refine as_nil (hK13 _ _ ?_)
      clear hK13 K13
      refine hK9 _ _ ?_
      clear hK9 K9
      refine cw_region fun K14 hK14 => ?_
      -- region 11
      refine as_q rfl rfl (q_move rfl) ?_
      refine as_q rfl rfl (q_move rfl) ?_
      refine as_q rfl rfl (q_move rfl) ?_
      refine as_q rfl rfl (q_move rfl) ?_
      refine as_q rfl rfl (q_move rfl) ?_
      refine as_h rfl (h_call (by kernel_rfl) rfl ?_)
      refine (srt_median (x := r1.1) (y := r2.1) (z := r3.1) (s := r3.2) hs4.sat hn hd ho hgq (by omega) (by omega) (by omega) (by omega)).mono ?_
      rintro _ w5 ⟨rfl, hs5, hd5, ho5⟩
      replace hT := hT.own hs5 hqw
      clear hd ho; have hd := hd5; have ho := ho5; clear hd5 ho5
      obtain ⟨r, hr⟩ : ∃ zz, zz = Go.Sort.median ltE d (r1.1) (r2.1) (r3.1) (r3.2) := ⟨_, rfl⟩
      rw [← hr] at ho
      have hmr := Go.Sort.median_mem ltE d (r1.1) (r2.1) (r3.1) (r3.2)
      have hkr := Go.Sort.median_count (lt := ltE) d (r1.1) (r2.1) (r3.1) (r3.2)
      rw [← hr] at hmr hkr
      simp only [← hr]
      have hraw : Go.Sort.rawPivot ltE d a b = r := by
        unfold Go.Sort.rawPivot
        rw [if_pos (by omega), if_pos h50, hr, hr3, hr2, hr1]
      refine as_q rfl rfl (q_assign rfl) ?_
      refine as_nil (hK14 _ _ ?_)
      clear hK14 K14
      refine hK7 _ _ ?_
      clear hK7 K7
      refine cw_rs fun K15 hK15 => ?_
      -- region 12
      refine as_q rfl rfl (q_load1 (by kernel_rfl) rfl (by first | exact Blk.cell ho.1 rfl | assumption)) ?_
      refine as_nil (hK15 _ _ ?_)
      clear hK15 K15
      refine cw_block ?_
      refine cw_rs fun K16 hK16 => ?_
      -- region 14
      refine as_q rfl rfl (q_eq rfl rfl) ?_
      refine as_q rfl rfl (q_assign rfl) ?_
      refine as_nil (hK16 _ _ ?_)
      clear hK16 K16
      refine cw_cond rfl (fun hc2 => ?_) (fun hc2 => ?_)
      · skip
        have hz0 : r.2 = 0 := by simp at hc2; omega
        refine cw_rs fun K17 hK17 => ?_
        -- region 15
        refine as_q rfl rfl (q_move rfl) ?_
        refine as_q rfl rfl (q_assign rfl) ?_
        refine as_q rfl rfl (q_assign rfl) ?_
        refine as_nil (hK17 _ _ ?_)
        clear hK17 K17
        refine cw_ret ?_
        rw [Go.Sort.choosePivot_eq, hraw]
        simp only []
        rw [show Go.Sort.hintOf r.2 = _ from if_pos hz0]
        exact ⟨_, (res_tmp rfl (res_tmp rfl res_nil)), rfl, hT, hd⟩
      · skip
        have hz0 : r.2 ≠ 0 := by simp at hc2; omega
        refine cw_rs fun K18 hK18 => ?_
        -- region 16
        refine as_q rfl rfl (q_eq rfl rfl) ?_
        refine as_q rfl rfl (q_assign rfl) ?_
        refine as_nil (hK18 _ _ ?_)
        clear hK18 K18
        refine cw_cond rfl (fun hc3 => ?_) (fun hc3 => ?_)
        · skip
          have hz1 : r.2 = 12 := by simp at hc3; omega
          refine cw_rs fun K19 hK19 => ?_
          -- region 17
          refine as_q rfl rfl (q_move rfl) ?_
          refine as_q rfl rfl (q_assign rfl) ?_
          refine as_q rfl rfl (q_assign rfl) ?_
          refine as_nil (hK19 _ _ ?_)
          clear hK19 K19
          refine cw_ret ?_
          rw [Go.Sort.choosePivot_eq, hraw]
          simp only []
          rw [show Go.Sort.hintOf r.2 = _ from (if_neg hz0).trans (if_pos hz1)]
          exact ⟨_, (res_tmp rfl (res_tmp rfl res_nil)), rfl, hT, hd⟩
        · skip
          have hz1 : r.2 ≠ 12 := by simp at hc3; omega
          refine cw_rs fun K20 hK20 => ?_
          -- region 13
          refine as_q rfl rfl (q_move rfl) ?_
          refine as_q rfl rfl (q_assign rfl) ?_
          refine as_q rfl rfl (q_assign rfl) ?_
          refine as_nil (hK20 _ _ ?_)
          clear hK20 K20
          refine cw_ret ?_
          rw [Go.Sort.choosePivot_eq, hraw]
          simp only []
          rw [show Go.Sort.hintOf r.2 = _ from (if_neg hz0).trans (if_neg hz1)]
          exact ⟨_, (res_tmp rfl (res_tmp rfl res_nil)), rfl, hT, hd⟩
  · skip
    have h50 : ¬ b - a ≥ 50 := by have := of_decide_eq_false hc1; omega
    skip
    · skip
      refine cw_skip ?_
      refine hK9 _ _ ?_
      clear hK9 K9
      refine cw_region fun K21 hK21 => ?_
      -- region 11
      refine as_q rfl rfl (q_move rfl) ?_
      refine as_q rfl rfl (q_move rfl) ?_
      refine as_q rfl rfl (q_move rfl) ?_
      refine as_q rfl rfl (q_move rfl) ?_
      refine as_q rfl rfl (q_move rfl) ?_
      refine as_h rfl (h_call (by kernel_rfl) rfl ?_)
      refine (srt_median (x := a + (b - a) / 4 * 1) (y := a + (b - a) / 4 * 2) (z := a + (b - a) / 4 * 3) (s := 0) hs1.sat hn hd ho hgq (by omega) (by omega) (by omega) (by omega)).mono ?_
      rintro _ w6 ⟨rfl, hs6, hd6, ho6⟩
      replace hT := hT.own hs6 hqw
      clear hd ho; have hd := hd6; have ho := ho6; clear hd6 ho6
      obtain ⟨r, hr⟩ : ∃ zz, zz = Go.Sort.median ltE d (a + (b - a) / 4 * 1) (a + (b - a) / 4 * 2) (a + (b - a) / 4 * 3) (0) := ⟨_, rfl⟩
      rw [← hr] at ho
      have hmr := Go.Sort.median_mem ltE d (a + (b - a) / 4 * 1) (a + (b - a) / 4 * 2) (a + (b - a) / 4 * 3) (0)
      have hkr := Go.Sort.median_count (lt := ltE) d (a + (b - a) / 4 * 1) (a + (b - a) / 4 * 2) (a + (b - a) / 4 * 3) (0)
      rw [← hr] at hmr hkr
      simp only [← hr]
      have hraw : Go.Sort.rawPivot ltE d a b = r := by
        unfold Go.Sort.rawPivot
        rw [if_pos (by omega), if_neg h50, hr]
      refine as_q rfl rfl (q_assign rfl) ?_
      refine as_nil (hK21 _ _ ?_)
      clear hK21 K21
      refine hK7 _ _ ?_
      clear hK7 K7
      refine cw_rs fun K22 hK22 => ?_
      -- region 12
      refine as_q rfl rfl (q_load1 (by kernel_rfl) rfl (by first | exact Blk.cell ho.1 rfl | assumption)) ?_
      refine as_nil (hK22 _ _ ?_)
      clear hK22 K22
      refine cw_block ?_
      refine cw_rs fun K23 hK23 => ?_
      -- region 14
      refine as_q rfl rfl (q_eq rfl rfl) ?_
      refine as_q rfl rfl (q_assign rfl) ?_
      refine as_nil (hK23 _ _ ?_)
      clear hK23 K23
      refine cw_cond rfl (fun hc2 => ?_) (fun hc2 => ?_)
      · skip
        have hz0 : r.2 = 0 := by simp at hc2; omega
        refine cw_rs fun K24 hK24 => ?_
        -- region 15
        refine as_q rfl rfl (q_move rfl) ?_
        refine as_q rfl rfl (q_assign rfl) ?_
        refine as_q rfl rfl (q_assign rfl) ?_
        refine as_nil (hK24 _ _ ?_)
        clear hK24 K24
        refine cw_ret ?_
        rw [Go.Sort.choosePivot_eq, hraw]
        simp only []
        rw [show Go.Sort.hintOf r.2 = _ from if_pos hz0]
        exact ⟨_, (res_tmp rfl (res_tmp rfl res_nil)), rfl, hT, hd⟩
      · skip
        have hz0 : r.2 ≠ 0 := by simp at hc2; omega
        refine cw_rs fun K25 hK25 => ?_
        -- region 16
        refine as_q rfl rfl (q_eq rfl rfl) ?_
        refine as_q rfl rfl (q_assign rfl) ?_
        refine as_nil (hK25 _ _ ?_)
        clear hK25 K25
        refine cw_cond rfl (fun hc3 => ?_) (fun hc3 => ?_)
        · skip
          have hz1 : r.2 = 12 := by simp at hc3; omega
          refine cw_rs fun K26 hK26 => ?_
          -- region 17
          refine as_q rfl rfl (q_move rfl) ?_
          refine as_q rfl rfl (q_assign rfl) ?_
          refine as_q rfl rfl (q_assign rfl) ?_
          refine as_nil (hK26 _ _ ?_)
          clear hK26 K26
          refine cw_ret ?_
          rw [Go.Sort.choosePivot_eq, hraw]
          simp only []
          rw [show Go.Sort.hintOf r.2 = _ from (if_neg hz0).trans (if_pos hz1)]
          exact ⟨_, (res_tmp rfl (res_tmp rfl res_nil)), rfl, hT, hd⟩
        · skip
          have hz1 : r.2 ≠ 12 := by simp at hc3; omega
          refine cw_rs fun K27 hK27 => ?_
          -- region 13
          refine as_q rfl rfl (q_move rfl) ?_
          refine as_q rfl rfl (q_assign rfl) ?_
          refine as_q rfl rfl (q_assign rfl) ?_
          refine as_nil (hK27 _ _ ?_)
          clear hK27 K27
          refine cw_ret ?_
          rw [Go.Sort.choosePivot_eq, hraw]
          simp only []
          rw [show Go.Sort.hintOf r.2 = _ from (if_neg hz0).trans (if_neg hz1)]
          exact ⟨_, (res_tmp rfl (res_tmp rfl res_nil)), rfl, hT, hd⟩

end Go.Proofs.YtbfjkclijjhlhaaDoor
