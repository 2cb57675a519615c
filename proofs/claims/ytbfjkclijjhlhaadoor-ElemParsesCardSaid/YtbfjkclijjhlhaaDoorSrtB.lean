/- Go s sort of elements: what each of its functions does, part 2. -/
import Derived.Test.YtbfjkclijjhlhaaDoorSrtA
namespace Go.Proofs.YtbfjkclijjhlhaaDoor
open Go Go.Eng
theorem su_out {p : El → Bool} {d : Array El} {j i : Nat} (h : j < i) : Go.Sort.scanUp p d j i = i := by rw [Go.Sort.scanUp, if_neg (by simp; omega)]
theorem su_stop {p : El → Bool} {d : Array El} {j i : Nat} (h : p d[i]! = false) : Go.Sort.scanUp p d j i = i := by rw [Go.Sort.scanUp, if_neg (by simp [h])]
theorem su_step {p : El → Bool} {d : Array El} {j i : Nat} (h1 : i ≤ j) (h2 : p d[i]! = true) : Go.Sort.scanUp p d j i = Go.Sort.scanUp p d j (i + 1) := by
  conv => lhs; rw [Go.Sort.scanUp]
  rw [if_pos (by simp [h1, h2])]
theorem sn_out {p : El → Bool} {d : Array El} {j i : Nat} (h : j < i) : Go.Sort.scanDown p d i j = j := by
  cases j with
  | zero => rfl
  | succ k => rw [Go.Sort.scanDown, if_neg (by simp; omega)]
theorem sn_stop {p : El → Bool} {d : Array El} {j i : Nat} (h : p d[j]! = false) : Go.Sort.scanDown p d i j = j := by
  cases j with
  | zero => rfl
  | succ k => rw [Go.Sort.scanDown, if_neg (by simp [h])]
theorem sn_step {p : El → Bool} {d : Array El} {j i : Nat} (h0 : 0 < j) (h1 : i ≤ j) (h2 : p d[j]! = true) : Go.Sort.scanDown p d i j = Go.Sort.scanDown p d i (j - 1) := by
  cases j with
  | zero => omega
  | succ k => rw [Go.Sort.scanDown, if_pos (by simp [h1, h2])]; rfl
theorem part_done {d d1 : Array El} {a b p i j : Nat} (hd1 : d1 = Go.Sort.swp d a p) (h1 : Go.Sort.scanUp (fun x => ltE x d1[a]!) d1 (b - 1) (a + 1) = i) (h2 : Go.Sort.scanDown (fun x => !ltE x d1[a]!) d1 i (b - 1) = j) (h : j < i) :
    Go.Sort.partition ltE d a b p = (j, true, Go.Sort.swp d1 j a) := by
  subst hd1
  unfold Go.Sort.partition
  simp only [h1, h2]
  rw [if_pos h]
theorem part_go {d d1 : Array El} {a b p i j : Nat} (hd1 : d1 = Go.Sort.swp d a p) (h1 : Go.Sort.scanUp (fun x => ltE x d1[a]!) d1 (b - 1) (a + 1) = i) (h2 : Go.Sort.scanDown (fun x => !ltE x d1[a]!) d1 i (b - 1) = j) (h : ¬ j < i) :
    Go.Sort.partition ltE d a b p = ((Go.Sort.partLoop ltE a (i + 1) (j - 1) (Go.Sort.swp d1 i j)).1, false, Go.Sort.swp (Go.Sort.partLoop ltE a (i + 1) (j - 1) (Go.Sort.swp d1 i j)).2 (Go.Sort.partLoop ltE a (i + 1) (j - 1) (Go.Sort.swp d1 i j)).1 a) := by
  subst hd1
  unfold Go.Sort.partition
  simp only [h1, h2]
  rw [if_neg h]

set_option maxHeartbeats 2000000 in
theorem srt_partition {w : World} {M : Mem} {g n cap : Nat} {d : Array El} {a b p : Nat} (hs : Sat M w) (hn : n ≤ 100000) (hd : ElRow 23 w M g n cap d) (_hap : a ≤ p) (hpb : p < b) (hab : a + 1 < b) (hb : b ≤ n) :
    Does Tryd.prog 48 #[.slice (some ⟨g, 0, none⟩) n cap, .int .i64 a, .int .i64 b, .int .i64 p, (.func (.func 16) #[] #[])] w (fun v w' => v = .tuple #[.int .i64 (Go.Sort.partition ltE d a b p).1, .bool (Go.Sort.partition ltE d a b p).2.1] ∧ Step (Just g) M w M w' ∧ ElRow 23 w' M g n cap (Go.Sort.partition ltE d a b p).2.2) := by
  have hT := Step.refl (Just g) hs
  have hsz := hd.size
  refine fn_enter Tryd.func48 rfl (rs := [.tmp 10, .tmp 11]) rfl rfl rfl rfl ?_
  refine cw_rs fun K1 hK1 => ?_
  -- region 0
  refine as_q rfl rfl (q_assign rfl) ?_
  refine as_q rfl rfl (q_assign rfl) ?_
  refine as_nil (hK1 _ _ ?_)
  clear hK1 K1
  refine cw_rd (by kernel_rfl) (by kernel_rfl) (by kernel_rfl) rfl rfl fun K2 hK2 => ?_
  -- region 1
  have hs1 := Step.drew hs
  replace hd := hd.then hs1
  replace hT := hT.then hs1
  refine at_q (i := 0) (li := #[true, false, false, false, false, false, false, false, false, false, false, false, false, false, false, false]) rfl (by kernel_rfl) rfl (fun _ => (q_move rfl)) (by kernel_rfl) ?_
  refine at_q (i := 1) (li := #[true, true, false, false, false, false, false, false, false, false, false, false, false, false, false, false]) rfl (by kernel_rfl) rfl (fun _ => (q_move rfl)) (by kernel_rfl) ?_
  refine at_q (i := 2) (li := #[true, true, true, false, false, false, false, false, false, false, false, false, false, false, false, false]) rfl (by kernel_rfl) rfl (fun _ => (q_move rfl)) (by kernel_rfl) ?_
  refine at_q (i := 3) (li := #[true, true, true, true, false, false, false, false, false, false, false, false, false, false, false, false]) rfl (by kernel_rfl) rfl (fun _ => (q_move rfl)) (by kernel_rfl) ?_
  refine at_q (i := 4) (li := #[true, true, true, true, true, false, false, false, false, false, false, false, false, false, false, false]) rfl (by kernel_rfl) rfl (fun _ => (q_move rfl)) (by kernel_rfl) ?_
  refine at_q (i := 5) (li := #[true, true, true, true, true, true, false, false, false, false, false, false, false, false, false, false]) rfl (by kernel_rfl) rfl (fun _ => (q_move rfl)) (by kernel_rfl) ?_
  refine at_q (i := 6) (li := #[true, true, true, true, true, true, true, false, false, false, false, false, false, false, false, false]) rfl (by kernel_rfl) rfl (fun _ => (q_indexAddr (e := 23) (size := 2) (by kernel_rfl) (by kernel_rfl) rfl rfl (by omega) (by omega))) (by kernel_rfl) ?_
  refine at_l (i := 7) (li := #[true, true, true, true, true, true, true, true, false, false, false, false, false, false, false, false]) (cellsAre _ _ 2 _) rfl (by kernel_rfl) rfl (fun _ h => q_loadc (n := 2) (by kernel_rfl) rfl h) (hd.elem (i := ((p : Nat) : Int)) (by omega) (by omega)) (by kernel_rfl) ?_
  refine at_q (i := 8) (li := #[true, true, true, true, true, true, true, true, true, false, false, false, false, false, false, false]) rfl (by kernel_rfl) rfl (fun _ => (q_move rfl)) (by kernel_rfl) ?_
  refine at_q (i := 9) (li := #[true, true, true, true, true, true, true, true, true, true, false, false, false, false, false, false]) rfl (by kernel_rfl) rfl (fun _ => (q_move rfl)) (by kernel_rfl) ?_
  refine at_q (i := 10) (li := #[true, true, true, true, true, true, true, true, true, true, true, false, false, false, false, false]) rfl (by kernel_rfl) rfl (fun _ => (q_indexAddr (e := 23) (size := 2) (by kernel_rfl) (by kernel_rfl) rfl rfl (by omega) (by omega))) (by kernel_rfl) ?_
  refine at_l (i := 11) (li := #[true, true, true, true, true, true, true, true, true, true, true, true, false, false, false, false]) (cellsAre _ _ 2 _) rfl (by kernel_rfl) rfl (fun _ h => q_loadc (n := 2) (by kernel_rfl) rfl h) (hd.elem (i := ((a : Nat) : Int)) (by omega) (by omega)) (by kernel_rfl) ?_
  refine at_q (i := 12) (li := #[true, true, true, true, true, true, true, true, true, true, true, true, true, false, false, false]) rfl (by kernel_rfl) rfl (fun _ => (q_indexAddr (e := 23) (size := 2) (by kernel_rfl) (by kernel_rfl) rfl rfl (by omega) (by omega))) (by kernel_rfl) ?_
  refine at_h0 (i := 13) (li := #[true, true, true, true, true, true, true, true, true, true, true, true, true, true, false, false]) rfl (by kernel_rfl) (keep_sift (bs := [true, true]) (by kernel_rfl)) (by kernel_rfl) (h_storeD (i := ((a : Nat) : Int)) (e := d[((p : Nat) : Int).toNat]!) hs1.sat hd rfl rfl (by kernel_rfl) (by omega) (by omega) fun w2 hs2 hd2 => ?_)
  replace hT := hT.also hs2
  clear hd; have hd := hd2; clear hd2
  refine ⟨(by repeat' first | exact trivial | exact (hd.elem (i := ((p : Nat) : Int)) (by omega) (by omega)) | exact (hd.elem (i := ((a : Nat) : Int)) (by omega) (by omega)) | assumption | refine all_keep ?_ | refine And.intro ?_ ?_), ?_⟩
  refine at_q (i := 14) (li := #[true, true, true, true, true, true, true, true, true, true, true, true, true, true, true, false]) rfl (by kernel_rfl) rfl (fun _ => (q_indexAddr (e := 23) (size := 2) (by kernel_rfl) (by kernel_rfl) rfl rfl (by omega) (by omega))) (by kernel_rfl) ?_
  refine at_h0 (i := 15) (li := #[true, true, true, true, true, true, true, true, true, true, true, true, true, true, true, true]) rfl (by kernel_rfl) rfl (by kernel_rfl) (h_storeD (i := ((p : Nat) : Int)) (e := d[((a : Nat) : Int).toNat]!) hs2.sat hd rfl rfl (by kernel_rfl) (by omega) (by omega) fun w3 hs3 hd3 => ?_)
  replace hT := hT.also hs3
  clear hd; have hd := hd3; clear hd3
  refine ⟨(by repeat' first | exact trivial | exact (hd.elem (i := ((p : Nat) : Int)) (by omega) (by omega)) | exact (hd.elem (i := ((a : Nat) : Int)) (by omega) (by omega)) | assumption | refine all_keep ?_ | refine And.intro ?_ ?_), ?_⟩
  refine at_done (by kernel_rfl) (hK2 _ _ ?_)
  clear hK2 K2
  refine cw_rs fun K3 hK3 => ?_
  obtain ⟨d1, hd1⟩ : ∃ x, x = Go.Sort.swp d a p := ⟨_, rfl⟩
  replace hd : ElRow 23 w3 M g n cap d1 := by rw [hd1]; exact hd
  -- region 2
  refine as_q rfl rfl (q_move rfl) ?_
  refine as_q rfl rfl (q_congr (q_addx rfl rfl (by omega) (by omega)) (v' := .int .i64 (a + 1 : Nat)) (congrArg (Value.int .i64) (by omega))) ?_
  refine as_q rfl rfl (q_move rfl) ?_
  refine as_q rfl rfl (q_congr (q_subx rfl rfl (by omega) (by omega)) (v' := .int .i64 (b - 1 : Nat)) (congrArg (Value.int .i64) (by omega))) ?_
  refine as_q rfl rfl (q_assign rfl) ?_
  refine as_q rfl rfl (q_assign rfl) ?_
  refine as_nil (hK3 _ _ ?_)
  clear hK3 K3
  refine cw_seq fun K4 hK4 => ?_
  refine cw_block ?_
  refine cw_loop (fun mm l w1 => ∃ qi : Nat, mm = (b - 1) + 1 - qi ∧ a + 1 ≤ qi ∧ qi ≤ (b - 1) + 1 ∧ Go.Sort.scanUp (fun x => ltE x d1[a]!) d1 ((b - 1)) qi = Go.Sort.scanUp (fun x => ltE x d1[a]!) d1 ((b - 1)) (a + 1) ∧ l = [(0, .slice (some ⟨g, 0, none⟩) n cap), (1, .int .i64 a), (4, (.func (.func 16) #[] #[])), (12, .int .i64 qi), (13, .int .i64 ((b - 1) : Nat))] ∧ Step (Just g) M w M w1 ∧ ElRow 23 w1 M g n cap d1) ((b - 1) + 1 - (a + 1)) [(0, .slice (some ⟨g, 0, none⟩) n cap), (1, .int .i64 a), (4, (.func (.func 16) #[] #[])), (12, .int .i64 (a + 1 : Nat)), (13, .int .i64 ((b - 1) : Nat))] (.cons rfl (.cons rfl (.cons rfl (.cons rfl (.cons rfl (.nil _)))))) ?_ ?_
  · skip
    exact ⟨a + 1, rfl, Nat.le_refl _, by omega, rfl, rfl, hT, hd⟩
  clear hT hd
  rintro mm l w1 ⟨i1, rfl, hi1a, hi1b, hi1e, rfl, hT, hd⟩
  refine cw_seq fun K5 hK5 => ?_
  have hcu : (b - 1) < i1 ∨ i1 ≤ (b - 1) := by omega
  rcases hcu with hcu | hcu
  · skip
    refine cw_rd (by kernel_rfl) (by kernel_rfl) (by kernel_rfl) rfl rfl fun K6 hK6 => ?_
    -- region 3
    have hs4 := Step.drew hT.sat
    replace hd := hd.then hs4
    replace hT := hT.then hs4
    refine at_q (i := 0) (li := #[true, false, false, false, false, false, false, false, false, false, false, false, false, false, false, false]) rfl (by kernel_rfl) rfl (fun _ => (q_move rfl)) (by kernel_rfl) ?_
    refine at_q (i := 1) (li := #[true, true, false, false, false, false, false, false, false, false, false, false, false, false, false, false]) rfl (by kernel_rfl) rfl (fun _ => (q_move rfl)) (by kernel_rfl) ?_
    first | refine at_q (i := 2) (li := #[true, true, true, false, false, false, false, false, false, false, false, false, false, false, false, false]) rfl (by kernel_rfl) rfl (fun _ => (q_leT rfl rfl (by omega))) (by kernel_rfl) ?_ | refine at_q (i := 2) (li := #[true, true, true, false, false, false, false, false, false, false, false, false, false, false, false, false]) rfl (by kernel_rfl) rfl (fun _ => (q_leF rfl rfl (by omega))) (by kernel_rfl) ?_ | refine at_q (i := 2) (li := #[true, true, true, false, false, false, false, false, false, false, false, false, false, false, false, false]) rfl (by kernel_rfl) rfl (fun _ => (q_le rfl rfl)) (by kernel_rfl) ?_
    refine at_q (i := 3) (li := #[true, true, true, true, false, false, false, false, false, false, false, false, false, false, false, false]) rfl (by kernel_rfl) rfl (fun _ => (q_move rfl)) (by kernel_rfl) ?_
    first | refine at_gskip (i := 4) (li := #[true, true, true, true, true, false, false, false, false, false, false, false, false, false, false, false]) rfl (by kernel_rfl) rfl rfl rfl rfl rfl (by kernel_rfl) ?_ | refine at_gskipU (i := 4) (li := #[true, true, true, true, true, false, false, false, false, false, false, false, false, false, false, false]) rfl (by kernel_rfl) rfl rfl rfl rfl (by kernel_rfl) ?_ | refine at_gp (i := 4) (li := #[true, true, true, true, true, false, false, false, false, false, false, false, false, false, false, false]) rfl (by kernel_rfl) rfl rfl rfl rfl (fun _ => (q_move rfl)) (by kernel_rfl) ?_
    first | refine at_gskip (i := 5) (li := #[true, true, true, true, true, true, false, false, false, false, false, false, false, false, false, false]) rfl (by kernel_rfl) rfl rfl rfl rfl rfl (by kernel_rfl) ?_ | refine at_gskipU (i := 5) (li := #[true, true, true, true, true, true, false, false, false, false, false, false, false, false, false, false]) rfl (by kernel_rfl) rfl rfl rfl rfl (by kernel_rfl) ?_ | refine at_gp (i := 5) (li := #[true, true, true, true, true, true, false, false, false, false, false, false, false, false, false, false]) rfl (by kernel_rfl) rfl rfl rfl rfl (fun _ => (q_move rfl)) (by kernel_rfl) ?_
    first | refine at_gskip (i := 6) (li := #[true, true, true, true, true, true, true, false, false, false, false, false, false, false, false, false]) rfl (by kernel_rfl) rfl rfl rfl rfl rfl (by kernel_rfl) ?_ | refine at_gskipU (i := 6) (li := #[true, true, true, true, true, true, true, false, false, false, false, false, false, false, false, false]) rfl (by kernel_rfl) rfl rfl rfl rfl (by kernel_rfl) ?_ | refine at_gp (i := 6) (li := #[true, true, true, true, true, true, true, false, false, false, false, false, false, false, false, false]) rfl (by kernel_rfl) rfl rfl rfl rfl (fun _ => (q_move rfl)) (by kernel_rfl) ?_
    first | refine at_gskip (i := 7) (li := #[true, true, true, true, true, true, true, true, false, false, false, false, false, false, false, false]) rfl (by kernel_rfl) rfl rfl rfl rfl rfl (by kernel_rfl) ?_ | refine at_gskipU (i := 7) (li := #[true, true, true, true, true, true, true, true, false, false, false, false, false, false, false, false]) rfl (by kernel_rfl) rfl rfl rfl rfl (by kernel_rfl) ?_ | refine at_gp (i := 7) (li := #[true, true, true, true, true, true, true, true, false, false, false, false, false, false, false, false]) rfl (by kernel_rfl) rfl rfl rfl rfl (fun _ => (q_indexAddr (e := 23) (size := 2) (by kernel_rfl) (by kernel_rfl) rfl rfl (by omega) (by omega))) (by kernel_rfl) ?_
    first | refine at_gskip (i := 8) (li := #[true, true, true, true, true, true, true, true, true, false, false, false, false, false, false, false]) rfl (by kernel_rfl) rfl rfl rfl rfl rfl (by kernel_rfl) ?_ | refine at_gskipU (i := 8) (li := #[true, true, true, true, true, true, true, true, true, false, false, false, false, false, false, false]) rfl (by kernel_rfl) rfl rfl rfl rfl (by kernel_rfl) ?_ | refine at_gq (i := 8) (li := #[true, true, true, true, true, true, true, true, true, false, false, false, false, false, false, false]) (cellsAre _ _ 2 _) rfl (by kernel_rfl) rfl rfl rfl rfl (fun _ h => q_loadc (n := 2) (by kernel_rfl) rfl h) (hd.elem (i := ((i1 : Nat) : Int)) (by omega) (by omega)) (by kernel_rfl) ?_
    first | refine at_gskip (i := 9) (li := #[true, true, true, true, true, true, true, true, true, true, false, false, false, false, false, false]) rfl (by kernel_rfl) rfl rfl rfl rfl rfl (by kernel_rfl) ?_ | refine at_gskipU (i := 9) (li := #[true, true, true, true, true, true, true, true, true, true, false, false, false, false, false, false]) rfl (by kernel_rfl) rfl rfl rfl rfl (by kernel_rfl) ?_ | refine at_gp (i := 9) (li := #[true, true, true, true, true, true, true, true, true, true, false, false, false, false, false, false]) rfl (by kernel_rfl) rfl rfl rfl rfl (fun _ => (q_move rfl)) (by kernel_rfl) ?_
    first | refine at_gskip (i := 10) (li := #[true, true, true, true, true, true, true, true, true, true, true, false, false, false, false, false]) rfl (by kernel_rfl) rfl rfl rfl rfl rfl (by kernel_rfl) ?_ | refine at_gskipU (i := 10) (li := #[true, true, true, true, true, true, true, true, true, true, true, false, false, false, false, false]) rfl (by kernel_rfl) rfl rfl rfl rfl (by kernel_rfl) ?_ | refine at_gp (i := 10) (li := #[true, true, true, true, true, true, true, true, true, true, true, false, false, false, false, false]) rfl (by kernel_rfl) rfl rfl rfl rfl (fun _ => (q_move rfl)) (by kernel_rfl) ?_
    first | refine at_gskip (i := 11) (li := #[true, true, true, true, true, true, true, true, true, true, true, true, false, false, false, false]) rfl (by kernel_rfl) rfl rfl rfl rfl rfl (by kernel_rfl) ?_ | refine at_gskipU (i := 11) (li := #[true, true, true, true, true, true, true, true, true, true, true, true, false, false, false, false]) rfl (by kernel_rfl) rfl rfl rfl rfl (by kernel_rfl) ?_ | refine at_gp (i := 11) (li := #[true, true, true, true, true, true, true, true, true, true, true, true, false, false, false, false]) rfl (by kernel_rfl) rfl rfl rfl rfl (fun _ => (q_indexAddr (e := 23) (size := 2) (by kernel_rfl) (by kernel_rfl) rfl rfl (by omega) (by omega))) (by kernel_rfl) ?_
    first | refine at_gskip (i := 12) (li := #[true, true, true, true, true, true, true, true, true, true, true, true, true, false, false, false]) rfl (by kernel_rfl) rfl rfl rfl rfl rfl (by kernel_rfl) ?_ | refine at_gskipU (i := 12) (li := #[true, true, true, true, true, true, true, true, true, true, true, true, true, false, false, false]) rfl (by kernel_rfl) rfl rfl rfl rfl (by kernel_rfl) ?_ | refine at_gq (i := 12) (li := #[true, true, true, true, true, true, true, true, true, true, true, true, true, false, false, false]) (cellsAre _ _ 2 _) rfl (by kernel_rfl) rfl rfl rfl rfl (fun _ h => q_loadc (n := 2) (by kernel_rfl) rfl h) (hd.elem (i := ((a : Nat) : Int)) (by omega) (by omega)) (by kernel_rfl) ?_
    first | refine at_gskip (i := 13) (li := #[true, true, true, true, true, true, true, true, true, true, true, true, true, true, false, false]) rfl (by kernel_rfl) rfl rfl rfl rfl rfl (by kernel_rfl) ?_ | refine at_gskipU (i := 13) (li := #[true, true, true, true, true, true, true, true, true, true, true, true, true, true, false, false]) rfl (by kernel_rfl) rfl rfl rfl rfl (by kernel_rfl) ?_
    first | refine at_gskip (i := 14) (li := #[true, true, true, true, true, true, true, true, true, true, true, true, true, true, true, false]) rfl (by kernel_rfl) rfl rfl rfl rfl rfl (by kernel_rfl) ?_ | refine at_gskipU (i := 14) (li := #[true, true, true, true, true, true, true, true, true, true, true, true, true, true, true, false]) rfl (by kernel_rfl) rfl rfl rfl rfl (by kernel_rfl) ?_ | refine at_gp (i := 14) (li := #[true, true, true, true, true, true, true, true, true, true, true, true, true, true, true, false]) rfl (by kernel_rfl) rfl rfl rfl rfl (fun _ => (q_ltT rfl rfl (by omega))) (by kernel_rfl) ?_ | refine at_gp (i := 14) (li := #[true, true, true, true, true, true, true, true, true, true, true, true, true, true, true, false]) rfl (by kernel_rfl) rfl rfl rfl rfl (fun _ => (q_ltF rfl rfl (by omega))) (by kernel_rfl) ?_ | refine at_gp (i := 14) (li := #[true, true, true, true, true, true, true, true, true, true, true, true, true, true, true, false]) rfl (by kernel_rfl) rfl rfl rfl rfl (fun _ => (q_lt rfl rfl)) (by kernel_rfl) ?_
    first | refine at_q (i := 15) (li := #[true, true, true, true, true, true, true, true, true, true, true, true, true, true, true, true]) rfl (by kernel_rfl) rfl (fun _ => (q_pick_t rfl rfl)) (by kernel_rfl) ?_ | refine at_q (i := 15) (li := #[true, true, true, true, true, true, true, true, true, true, true, true, true, true, true, true]) rfl (by kernel_rfl) rfl (fun _ => (q_pick_f rfl rfl)) (by kernel_rfl) ?_ | refine at_q (i := 15) (li := #[true, true, true, true, true, true, true, true, true, true, true, true, true, true, true, true]) rfl (by kernel_rfl) rfl (fun _ => (q_pick rfl rfl rfl)) (by kernel_rfl) ?_
    refine at_done (by kernel_rfl) (hK6 _ _ ?_)
    clear hK6 K6
    have hsi1 : Go.Sort.scanUp (fun x => ltE x d1[a]!) d1 ((b - 1)) (a + 1) = i1 := hi1e.symm.trans (su_out hcu)
    have hti1 : i1 ≤ (b - 1) → ltE d1[i1]! d1[a]! = false := fun h => absurd h (by omega)
    refine cw_false rfl ?_
    refine cw_exit ?_
    refine hK4 _ _ ?_
    clear hK5 K5
    clear hK4 K4
    refine cw_seq fun K7 hK7 => ?_
    refine cw_block ?_
    refine cw_loop (fun mm l w1 => ∃ qj : Nat, qj = mm ∧ i1 ≤ qj + 1 ∧ qj ≤ b - 1 ∧ Go.Sort.scanDown (fun x => !ltE x d1[a]!) d1 i1 qj = Go.Sort.scanDown (fun x => !ltE x d1[a]!) d1 i1 (b - 1) ∧ l = [(0, .slice (some ⟨g, 0, none⟩) n cap), (1, .int .i64 a), (4, (.func (.func 16) #[] #[])), (12, .int .i64 (i1 : Nat)), (13, .int .i64 qj)] ∧ Step (Just g) M w M w1 ∧ ElRow 23 w1 M g n cap d1) (b - 1) [(0, .slice (some ⟨g, 0, none⟩) n cap), (1, .int .i64 a), (4, (.func (.func 16) #[] #[])), (12, .int .i64 (i1 : Nat)), (13, .int .i64 (b - 1 : Nat))] (.cons rfl (.cons rfl (.cons rfl (.cons rfl (.cons rfl (.nil _)))))) ?_ ?_
    · skip
      exact ⟨b - 1, rfl, by omega, Nat.le_refl _, rfl, rfl, hT, hd⟩
    clear hT hd
    rintro mm l w1 ⟨j2, rfl, hj2a, hj2b, hj2e, rfl, hT, hd⟩
    refine cw_seq fun K8 hK8 => ?_
    have hcu : j2 < i1 ∨ i1 ≤ j2 := by omega
    rcases hcu with hcu | hcu
    · skip
      refine cw_rd (by kernel_rfl) (by kernel_rfl) (by kernel_rfl) rfl rfl fun K9 hK9 => ?_
      -- region 5
      have hs5 := Step.drew hT.sat
      replace hd := hd.then hs5
      replace hT := hT.then hs5
      refine at_q (i := 0) (li := #[true, false, false, false, false, false, false, false, false, false, false, false, false, false, false, false, false]) rfl (by kernel_rfl) rfl (fun _ => (q_move rfl)) (by kernel_rfl) ?_
      refine at_q (i := 1) (li := #[true, true, false, false, false, false, false, false, false, false, false, false, false, false, false, false, false]) rfl (by kernel_rfl) rfl (fun _ => (q_move rfl)) (by kernel_rfl) ?_
      first | refine at_q (i := 2) (li := #[true, true, true, false, false, false, false, false, false, false, false, false, false, false, false, false, false]) rfl (by kernel_rfl) rfl (fun _ => (q_leT rfl rfl (by omega))) (by kernel_rfl) ?_ | refine at_q (i := 2) (li := #[true, true, true, false, false, false, false, false, false, false, false, false, false, false, false, false, false]) rfl (by kernel_rfl) rfl (fun _ => (q_leF rfl rfl (by omega))) (by kernel_rfl) ?_ | refine at_q (i := 2) (li := #[true, true, true, false, false, false, false, false, false, false, false, false, false, false, false, false, false]) rfl (by kernel_rfl) rfl (fun _ => (q_le rfl rfl)) (by kernel_rfl) ?_
      refine at_q (i := 3) (li := #[true, true, true, true, false, false, false, false, false, false, false, false, false, false, false, false, false]) rfl (by kernel_rfl) rfl (fun _ => (q_move rfl)) (by kernel_rfl) ?_
      first | refine at_gskip (i := 4) (li := #[true, true, true, true, true, false, false, false, false, false, false, false, false, false, false, false, false]) rfl (by kernel_rfl) rfl rfl rfl rfl rfl (by kernel_rfl) ?_ | refine at_gskipU (i := 4) (li := #[true, true, true, true, true, false, false, false, false, false, false, false, false, false, false, false, false]) rfl (by kernel_rfl) rfl rfl rfl rfl (by kernel_rfl) ?_ | refine at_gp (i := 4) (li := #[true, true, true, true, true, false, false, false, false, false, false, false, false, false, false, false, false]) rfl (by kernel_rfl) rfl rfl rfl rfl (fun _ => (q_move rfl)) (by kernel_rfl) ?_
      first | refine at_gskip (i := 5) (li := #[true, true, true, true, true, true, false, false, false, false, false, false, false, false, false, false, false]) rfl (by kernel_rfl) rfl rfl rfl rfl rfl (by kernel_rfl) ?_ | refine at_gskipU (i := 5) (li := #[true, true, true, true, true, true, false, false, false, false, false, false, false, false, false, false, false]) rfl (by kernel_rfl) rfl rfl rfl rfl (by kernel_rfl) ?_ | refine at_gp (i := 5) (li := #[true, true, true, true, true, true, false, false, false, false, false, false, false, false, false, false, false]) rfl (by kernel_rfl) rfl rfl rfl rfl (fun _ => (q_move rfl)) (by kernel_rfl) ?_
      first | refine at_gskip (i := 6) (li := #[true, true, true, true, true, true, true, false, false, false, false, false, false, false, false, false, false]) rfl (by kernel_rfl) rfl rfl rfl rfl rfl (by kernel_rfl) ?_ | refine at_gskipU (i := 6) (li := #[true, true, true, true, true, true, true, false, false, false, false, false, false, false, false, false, false]) rfl (by kernel_rfl) rfl rfl rfl rfl (by kernel_rfl) ?_ | refine at_gp (i := 6) (li := #[true, true, true, true, true, true, true, false, false, false, false, false, false, false, false, false, false]) rfl (by kernel_rfl) rfl rfl rfl rfl (fun _ => (q_move rfl)) (by kernel_rfl) ?_
      first | refine at_gskip (i := 7) (li := #[true, true, true, true, true, true, true, true, false, false, false, false, false, false, false, false, false]) rfl (by kernel_rfl) rfl rfl rfl rfl rfl (by kernel_rfl) ?_ | refine at_gskipU (i := 7) (li := #[true, true, true, true, true, true, true, true, false, false, false, false, false, false, false, false, false]) rfl (by kernel_rfl) rfl rfl rfl rfl (by kernel_rfl) ?_ | refine at_gp (i := 7) (li := #[true, true, true, true, true, true, true, true, false, false, false, false, false, false, false, false, false]) rfl (by kernel_rfl) rfl rfl rfl rfl (fun _ => (q_indexAddr (e := 23) (size := 2) (by kernel_rfl) (by kernel_rfl) rfl rfl (by omega) (by omega))) (by kernel_rfl) ?_
      first | refine at_gskip (i := 8) (li := #[true, true, true, true, true, true, true, true, true, false, false, false, false, false, false, false, false]) rfl (by kernel_rfl) rfl rfl rfl rfl rfl (by kernel_rfl) ?_ | refine at_gskipU (i := 8) (li := #[true, true, true, true, true, true, true, true, true, false, false, false, false, false, false, false, false]) rfl (by kernel_rfl) rfl rfl rfl rfl (by kernel_rfl) ?_ | refine at_gq (i := 8) (li := #[true, true, true, true, true, true, true, true, true, false, false, false, false, false, false, false, false]) (cellsAre _ _ 2 _) rfl (by kernel_rfl) rfl rfl rfl rfl (fun _ h => q_loadc (n := 2) (by kernel_rfl) rfl h) (hd.elem (i := ((j2 : Nat) : Int)) (by omega) (by omega)) (by kernel_rfl) ?_
      first | refine at_gskip (i := 9) (li := #[true, true, true, true, true, true, true, true, true, true, false, false, false, false, false, false, false]) rfl (by kernel_rfl) rfl rfl rfl rfl rfl (by kernel_rfl) ?_ | refine at_gskipU (i := 9) (li := #[true, true, true, true, true, true, true, true, true, true, false, false, false, false, false, false, false]) rfl (by kernel_rfl) rfl rfl rfl rfl (by kernel_rfl) ?_ | refine at_gp (i := 9) (li := #[true, true, true, true, true, true, true, true, true, true, false, false, false, false, false, false, false]) rfl (by kernel_rfl) rfl rfl rfl rfl (fun _ => (q_move rfl)) (by kernel_rfl) ?_
      first | refine at_gskip (i := 10) (li := #[true, true, true, true, true, true, true, true, true, true, true, false, false, false, false, false, false]) rfl (by kernel_rfl) rfl rfl rfl rfl rfl (by kernel_rfl) ?_ | refine at_gskipU (i := 10) (li := #[true, true, true, true, true, true, true, true, true, true, true, false, false, false, false, false, false]) rfl (by kernel_rfl) rfl rfl rfl rfl (by kernel_rfl) ?_ | refine at_gp (i := 10) (li := #[true, true, true, true, true, true, true, true, true, true, true, false, false, false, false, false, false]) rfl (by kernel_rfl) rfl rfl rfl rfl (fun _ => (q_move rfl)) (by kernel_rfl) ?_
      first | refine at_gskip (i := 11) (li := #[true, true, true, true, true, true, true, true, true, true, true, true, false, false, false, false, false]) rfl (by kernel_rfl) rfl rfl rfl rfl rfl (by kernel_rfl) ?_ | refine at_gskipU (i := 11) (li := #[true, true, true, true, true, true, true, true, true, true, true, true, false, false, false, false, false]) rfl (by kernel_rfl) rfl rfl rfl rfl (by kernel_rfl) ?_ | refine at_gp (i := 11) (li := #[true, true, true, true, true, true, true, true, true, true, true, true, false, false, false, false, false]) rfl (by kernel_rfl) rfl rfl rfl rfl (fun _ => (q_indexAddr (e := 23) (size := 2) (by kernel_rfl) (by kernel_rfl) rfl rfl (by omega) (by omega))) (by kernel_rfl) ?_
      first | refine at_gskip (i := 12) (li := #[true, true, true, true, true, true, true, true, true, true, true, true, true, false, false, false, false]) rfl (by kernel_rfl) rfl rfl rfl rfl rfl (by kernel_rfl) ?_ | refine at_gskipU (i := 12) (li := #[true, true, true, true, true, true, true, true, true, true, true, true, true, false, false, false, false]) rfl (by kernel_rfl) rfl rfl rfl rfl (by kernel_rfl) ?_ | refine at_gq (i := 12) (li := #[true, true, true, true, true, true, true, true, true, true, true, true, true, false, false, false, false]) (cellsAre _ _ 2 _) rfl (by kernel_rfl) rfl rfl rfl rfl (fun _ h => q_loadc (n := 2) (by kernel_rfl) rfl h) (hd.elem (i := ((a : Nat) : Int)) (by omega) (by omega)) (by kernel_rfl) ?_
      first | refine at_gskip (i := 13) (li := #[true, true, true, true, true, true, true, true, true, true, true, true, true, true, false, false, false]) rfl (by kernel_rfl) rfl rfl rfl rfl rfl (by kernel_rfl) ?_ | refine at_gskipU (i := 13) (li := #[true, true, true, true, true, true, true, true, true, true, true, true, true, true, false, false, false]) rfl (by kernel_rfl) rfl rfl rfl rfl (by kernel_rfl) ?_
      first | refine at_gskip (i := 14) (li := #[true, true, true, true, true, true, true, true, true, true, true, true, true, true, true, false, false]) rfl (by kernel_rfl) rfl rfl rfl rfl rfl (by kernel_rfl) ?_ | refine at_gskipU (i := 14) (li := #[true, true, true, true, true, true, true, true, true, true, true, true, true, true, true, false, false]) rfl (by kernel_rfl) rfl rfl rfl rfl (by kernel_rfl) ?_ | refine at_gp (i := 14) (li := #[true, true, true, true, true, true, true, true, true, true, true, true, true, true, true, false, false]) rfl (by kernel_rfl) rfl rfl rfl rfl (fun _ => (q_ltT rfl rfl (by omega))) (by kernel_rfl) ?_ | refine at_gp (i := 14) (li := #[true, true, true, true, true, true, true, true, true, true, true, true, true, true, true, false, false]) rfl (by kernel_rfl) rfl rfl rfl rfl (fun _ => (q_ltF rfl rfl (by omega))) (by kernel_rfl) ?_ | refine at_gp (i := 14) (li := #[true, true, true, true, true, true, true, true, true, true, true, true, true, true, true, false, false]) rfl (by kernel_rfl) rfl rfl rfl rfl (fun _ => (q_lt rfl rfl)) (by kernel_rfl) ?_
      first | refine at_gskip (i := 15) (li := #[true, true, true, true, true, true, true, true, true, true, true, true, true, true, true, true, false]) rfl (by kernel_rfl) rfl rfl rfl rfl rfl (by kernel_rfl) ?_ | refine at_gskipU (i := 15) (li := #[true, true, true, true, true, true, true, true, true, true, true, true, true, true, true, true, false]) rfl (by kernel_rfl) rfl rfl rfl rfl (by kernel_rfl) ?_ | refine at_gp (i := 15) (li := #[true, true, true, true, true, true, true, true, true, true, true, true, true, true, true, true, false]) rfl (by kernel_rfl) rfl rfl rfl rfl (fun _ => (q_not rfl)) (by kernel_rfl) ?_
      first | refine at_q (i := 16) (li := #[true, true, true, true, true, true, true, true, true, true, true, true, true, true, true, true, true]) rfl (by kernel_rfl) rfl (fun _ => (q_pick_t rfl rfl)) (by kernel_rfl) ?_ | refine at_q (i := 16) (li := #[true, true, true, true, true, true, true, true, true, true, true, true, true, true, true, true, true]) rfl (by kernel_rfl) rfl (fun _ => (q_pick_f rfl rfl)) (by kernel_rfl) ?_ | refine at_q (i := 16) (li := #[true, true, true, true, true, true, true, true, true, true, true, true, true, true, true, true, true]) rfl (by kernel_rfl) rfl (fun _ => (q_pick rfl rfl rfl)) (by kernel_rfl) ?_
      refine at_done (by kernel_rfl) (hK9 _ _ ?_)
      clear hK9 K9
      have hsj2 : Go.Sort.scanDown (fun x => !ltE x d1[a]!) d1 i1 (b - 1) = j2 := hj2e.symm.trans (sn_out hcu)
      have htj2 : i1 ≤ j2 → (!ltE d1[j2]! d1[a]!) = false := fun h => absurd h (by omega)
      refine cw_false rfl ?_
      refine cw_exit ?_
      refine hK7 _ _ ?_
      clear hK8 K8
      clear hK7 K7
      refine cw_seq fun K10 hK10 => ?_
      refine cw_rs fun K11 hK11 => ?_
      -- region 7
      refine as_q rfl rfl (q_move rfl) ?_
      refine as_q rfl rfl (q_move rfl) ?_
      first | refine as_q rfl rfl (q_gtT rfl rfl (by omega)) ?_ | refine as_q rfl rfl (q_gtF rfl rfl (by omega)) ?_ | refine as_q rfl rfl (q_gt rfl rfl) ?_
      refine as_nil (hK11 _ _ ?_)
      clear hK11 K11
      have hgt : j2 < i1 := by omega
      refine cw_true rfl ?_
      refine cw_rd (by kernel_rfl) (by kernel_rfl) (by kernel_rfl) rfl rfl fun K12 hK12 => ?_
      -- region 8
      have hs6 := Step.drew hs5.sat
      replace hd := hd.then hs6
      replace hT := hT.then hs6
      refine at_q (i := 0) (li := #[true, false, false, false, false, false, false, false, false, false, false, false, false, false, false, false]) rfl (by kernel_rfl) rfl (fun _ => (q_move rfl)) (by kernel_rfl) ?_
      refine at_q (i := 1) (li := #[true, true, false, false, false, false, false, false, false, false, false, false, false, false, false, false]) rfl (by kernel_rfl) rfl (fun _ => (q_move rfl)) (by kernel_rfl) ?_
      refine at_q (i := 2) (li := #[true, true, true, false, false, false, false, false, false, false, false, false, false, false, false, false]) rfl (by kernel_rfl) rfl (fun _ => (q_move rfl)) (by kernel_rfl) ?_
      refine at_q (i := 3) (li := #[true, true, true, true, false, false, false, false, false, false, false, false, false, false, false, false]) rfl (by kernel_rfl) rfl (fun _ => (q_move rfl)) (by kernel_rfl) ?_
      refine at_q (i := 4) (li := #[true, true, true, true, true, false, false, false, false, false, false, false, false, false, false, false]) rfl (by kernel_rfl) rfl (fun _ => (q_move rfl)) (by kernel_rfl) ?_
      refine at_q (i := 5) (li := #[true, true, true, true, true, true, false, false, false, false, false, false, false, false, false, false]) rfl (by kernel_rfl) rfl (fun _ => (q_move rfl)) (by kernel_rfl) ?_
      refine at_q (i := 6) (li := #[true, true, true, true, true, true, true, false, false, false, false, false, false, false, false, false]) rfl (by kernel_rfl) rfl (fun _ => (q_indexAddr (e := 23) (size := 2) (by kernel_rfl) (by kernel_rfl) rfl rfl (by omega) (by omega))) (by kernel_rfl) ?_
      refine at_l (i := 7) (li := #[true, true, true, true, true, true, true, true, false, false, false, false, false, false, false, false]) (cellsAre _ _ 2 _) rfl (by kernel_rfl) rfl (fun _ h => q_loadc (n := 2) (by kernel_rfl) rfl h) (hd.elem (i := ((a : Nat) : Int)) (by omega) (by omega)) (by kernel_rfl) ?_
      refine at_q (i := 8) (li := #[true, true, true, true, true, true, true, true, true, false, false, false, false, false, false, false]) rfl (by kernel_rfl) rfl (fun _ => (q_move rfl)) (by kernel_rfl) ?_
      refine at_q (i := 9) (li := #[true, true, true, true, true, true, true, true, true, true, false, false, false, false, false, false]) rfl (by kernel_rfl) rfl (fun _ => (q_move rfl)) (by kernel_rfl) ?_
      refine at_q (i := 10) (li := #[true, true, true, true, true, true, true, true, true, true, true, false, false, false, false, false]) rfl (by kernel_rfl) rfl (fun _ => (q_indexAddr (e := 23) (size := 2) (by kernel_rfl) (by kernel_rfl) rfl rfl (by omega) (by omega))) (by kernel_rfl) ?_
      refine at_l (i := 11) (li := #[true, true, true, true, true, true, true, true, true, true, true, true, false, false, false, false]) (cellsAre _ _ 2 _) rfl (by kernel_rfl) rfl (fun _ h => q_loadc (n := 2) (by kernel_rfl) rfl h) (hd.elem (i := ((j2 : Nat) : Int)) (by omega) (by omega)) (by kernel_rfl) ?_
      refine at_q (i := 12) (li := #[true, true, true, true, true, true, true, true, true, true, true, true, true, false, false, false]) rfl (by kernel_rfl) rfl (fun _ => (q_indexAddr (e := 23) (size := 2) (by kernel_rfl) (by kernel_rfl) rfl rfl (by omega) (by omega))) (by kernel_rfl) ?_
      refine at_h0 (i := 13) (li := #[true, true, true, true, true, true, true, true, true, true, true, true, true, true, false, false]) rfl (by kernel_rfl) (keep_sift (bs := [true, true]) (by kernel_rfl)) (by kernel_rfl) (h_storeD (i := ((j2 : Nat) : Int)) (e := d1[((a : Nat) : Int).toNat]!) hs6.sat hd rfl rfl (by kernel_rfl) (by omega) (by omega) fun w7 hs7 hd7 => ?_)
      replace hT := hT.also hs7
      clear hd; have hd := hd7; clear hd7
      refine ⟨(by repeat' first | exact trivial | exact (hd.elem (i := ((a : Nat) : Int)) (by omega) (by omega)) | exact (hd.elem (i := ((j2 : Nat) : Int)) (by omega) (by omega)) | assumption | refine all_keep ?_ | refine And.intro ?_ ?_), ?_⟩
      refine at_q (i := 14) (li := #[true, true, true, true, true, true, true, true, true, true, true, true, true, true, true, false]) rfl (by kernel_rfl) rfl (fun _ => (q_indexAddr (e := 23) (size := 2) (by kernel_rfl) (by kernel_rfl) rfl rfl (by omega) (by omega))) (by kernel_rfl) ?_
      refine at_h0 (i := 15) (li := #[true, true, true, true, true, true, true, true, true, true, true, true, true, true, true, true]) rfl (by kernel_rfl) rfl (by kernel_rfl) (h_storeD (i := ((a : Nat) : Int)) (e := d1[((j2 : Nat) : Int).toNat]!) hs7.sat hd rfl rfl (by kernel_rfl) (by omega) (by omega) fun w8 hs8 hd8 => ?_)
      replace hT := hT.also hs8
      clear hd; have hd := hd8; clear hd8
      refine ⟨(by repeat' first | exact trivial | exact (hd.elem (i := ((a : Nat) : Int)) (by omega) (by omega)) | exact (hd.elem (i := ((j2 : Nat) : Int)) (by omega) (by omega)) | assumption | refine all_keep ?_ | refine And.intro ?_ ?_), ?_⟩
      refine at_done (by kernel_rfl) (hK12 _ _ ?_)
      clear hK12 K12
      refine cw_rs fun K13 hK13 => ?_
      -- region 9
      refine as_q rfl rfl (q_move rfl) ?_
      refine as_q rfl rfl (q_assign rfl) ?_
      refine as_q rfl rfl (q_assign rfl) ?_
      refine as_nil (hK13 _ _ ?_)
      clear hK13 K13
      refine cw_ret ?_
      rw [part_done hd1 hsi1 hsj2 hgt]
      exact ⟨_, (res_tmp rfl (res_tmp rfl res_nil)), rfl, hT, hd⟩
    · skip
      exfalso
      omega
  · skip
    refine cw_rd (by kernel_rfl) (by kernel_rfl) (by kernel_rfl) rfl rfl fun K14 hK14 => ?_
    -- region 3
    have hs9 := Step.drew hT.sat
    replace hd := hd.then hs9
    replace hT := hT.then hs9
    refine at_q (i := 0) (li := #[true, false, false, false, false, false, false, false, false, false, false, false, false, false, false, false]) rfl (by kernel_rfl) rfl (fun _ => (q_move rfl)) (by kernel_rfl) ?_
    refine at_q (i := 1) (li := #[true, true, false, false, false, false, false, false, false, false, false, false, false, false, false, false]) rfl (by kernel_rfl) rfl (fun _ => (q_move rfl)) (by kernel_rfl) ?_
    first | refine at_q (i := 2) (li := #[true, true, true, false, false, false, false, false, false, false, false, false, false, false, false, false]) rfl (by kernel_rfl) rfl (fun _ => (q_leT rfl rfl (by omega))) (by kernel_rfl) ?_ | refine at_q (i := 2) (li := #[true, true, true, false, false, false, false, false, false, false, false, false, false, false, false, false]) rfl (by kernel_rfl) rfl (fun _ => (q_leF rfl rfl (by omega))) (by kernel_rfl) ?_ | refine at_q (i := 2) (li := #[true, true, true, false, false, false, false, false, false, false, false, false, false, false, false, false]) rfl (by kernel_rfl) rfl (fun _ => (q_le rfl rfl)) (by kernel_rfl) ?_
    refine at_q (i := 3) (li := #[true, true, true, true, false, false, false, false, false, false, false, false, false, false, false, false]) rfl (by kernel_rfl) rfl (fun _ => (q_move rfl)) (by kernel_rfl) ?_
    first | refine at_gskip (i := 4) (li := #[true, true, true, true, true, false, false, false, false, false, false, false, false, false, false, false]) rfl (by kernel_rfl) rfl rfl rfl rfl rfl (by kernel_rfl) ?_ | refine at_gskipU (i := 4) (li := #[true, true, true, true, true, false, false, false, false, false, false, false, false, false, false, false]) rfl (by kernel_rfl) rfl rfl rfl rfl (by kernel_rfl) ?_ | refine at_gp (i := 4) (li := #[true, true, true, true, true, false, false, false, false, false, false, false, false, false, false, false]) rfl (by kernel_rfl) rfl rfl rfl rfl (fun _ => (q_move rfl)) (by kernel_rfl) ?_
    first | refine at_gskip (i := 5) (li := #[true, true, true, true, true, true, false, false, false, false, false, false, false, false, false, false]) rfl (by kernel_rfl) rfl rfl rfl rfl rfl (by kernel_rfl) ?_ | refine at_gskipU (i := 5) (li := #[true, true, true, true, true, true, false, false, false, false, false, false, false, false, false, false]) rfl (by kernel_rfl) rfl rfl rfl rfl (by kernel_rfl) ?_ | refine at_gp (i := 5) (li := #[true, true, true, true, true, true, false, false, false, false, false, false, false, false, false, false]) rfl (by kernel_rfl) rfl rfl rfl rfl (fun _ => (q_move rfl)) (by kernel_rfl) ?_
    first | refine at_gskip (i := 6) (li := #[true, true, true, true, true, true, true, false, false, false, false, false, false, false, false, false]) rfl (by kernel_rfl) rfl rfl rfl rfl rfl (by kernel_rfl) ?_ | refine at_gskipU (i := 6) (li := #[true, true, true, true, true, true, true, false, false, false, false, false, false, false, false, false]) rfl (by kernel_rfl) rfl rfl rfl rfl (by kernel_rfl) ?_ | refine at_gp (i := 6) (li := #[true, true, true, true, true, true, true, false, false, false, false, false, false, false, false, false]) rfl (by kernel_rfl) rfl rfl rfl rfl (fun _ => (q_move rfl)) (by kernel_rfl) ?_
    first | refine at_gskip (i := 7) (li := #[true, true, true, true, true, true, true, true, false, false, false, false, false, false, false, false]) rfl (by kernel_rfl) rfl rfl rfl rfl rfl (by kernel_rfl) ?_ | refine at_gskipU (i := 7) (li := #[true, true, true, true, true, true, true, true, false, false, false, false, false, false, false, false]) rfl (by kernel_rfl) rfl rfl rfl rfl (by kernel_rfl) ?_ | refine at_gp (i := 7) (li := #[true, true, true, true, true, true, true, true, false, false, false, false, false, false, false, false]) rfl (by kernel_rfl) rfl rfl rfl rfl (fun _ => (q_indexAddr (e := 23) (size := 2) (by kernel_rfl) (by kernel_rfl) rfl rfl (by omega) (by omega))) (by kernel_rfl) ?_
    first | refine at_gskip (i := 8) (li := #[true, true, true, true, true, true, true, true, true, false, false, false, false, false, false, false]) rfl (by kernel_rfl) rfl rfl rfl rfl rfl (by kernel_rfl) ?_ | refine at_gskipU (i := 8) (li := #[true, true, true, true, true, true, true, true, true, false, false, false, false, false, false, false]) rfl (by kernel_rfl) rfl rfl rfl rfl (by kernel_rfl) ?_ | refine at_gq (i := 8) (li := #[true, true, true, true, true, true, true, true, true, false, false, false, false, false, false, false]) (cellsAre _ _ 2 _) rfl (by kernel_rfl) rfl rfl rfl rfl (fun _ h => q_loadc (n := 2) (by kernel_rfl) rfl h) (hd.elem (i := ((i1 : Nat) : Int)) (by omega) (by omega)) (by kernel_rfl) ?_
    first | refine at_gskip (i := 9) (li := #[true, true, true, true, true, true, true, true, true, true, false, false, false, false, false, false]) rfl (by kernel_rfl) rfl rfl rfl rfl rfl (by kernel_rfl) ?_ | refine at_gskipU (i := 9) (li := #[true, true, true, true, true, true, true, true, true, true, false, false, false, false, false, false]) rfl (by kernel_rfl) rfl rfl rfl rfl (by kernel_rfl) ?_ | refine at_gp (i := 9) (li := #[true, true, true, true, true, true, true, true, true, true, false, false, false, false, false, false]) rfl (by kernel_rfl) rfl rfl rfl rfl (fun _ => (q_move rfl)) (by kernel_rfl) ?_
    first | refine at_gskip (i := 10) (li := #[true, true, true, true, true, true, true, true, true, true, true, false, false, false, false, false]) rfl (by kernel_rfl) rfl rfl rfl rfl rfl (by kernel_rfl) ?_ | refine at_gskipU (i := 10) (li := #[true, true, true, true, true, true, true, true, true, true, true, false, false, false, false, false]) rfl (by kernel_rfl) rfl rfl rfl rfl (by kernel_rfl) ?_ | refine at_gp (i := 10) (li := #[true, true, true, true, true, true, true, true, true, true, true, false, false, false, false, false]) rfl (by kernel_rfl) rfl rfl rfl rfl (fun _ => (q_move rfl)) (by kernel_rfl) ?_
    first | refine at_gskip (i := 11) (li := #[true, true, true, true, true, true, true, true, true, true, true, true, false, false, false, false]) rfl (by kernel_rfl) rfl rfl rfl rfl rfl (by kernel_rfl) ?_ | refine at_gskipU (i := 11) (li := #[true, true, true, true, true, true, true, true, true, true, true, true, false, false, false, false]) rfl (by kernel_rfl) rfl rfl rfl rfl (by kernel_rfl) ?_ | refine at_gp (i := 11) (li := #[true, true, true, true, true, true, true, true, true, true, true, true, false, false, false, false]) rfl (by kernel_rfl) rfl rfl rfl rfl (fun _ => (q_indexAddr (e := 23) (size := 2) (by kernel_rfl) (by kernel_rfl) rfl rfl (by omega) (by omega))) (by kernel_rfl) ?_
    first | refine at_gskip (i := 12) (li := #[true, true, true, true, true, true, true, true, true, true, true, true, true, false, false, false]) rfl (by kernel_rfl) rfl rfl rfl rfl rfl (by kernel_rfl) ?_ | refine at_gskipU (i := 12) (li := #[true, true, true, true, true, true, true, true, true, true, true, true, true, false, false, false]) rfl (by kernel_rfl) rfl rfl rfl rfl (by kernel_rfl) ?_ | refine at_gq (i := 12) (li := #[true, true, true, true, true, true, true, true, true, true, true, true, true, false, false, false]) (cellsAre _ _ 2 _) rfl (by kernel_rfl) rfl rfl rfl rfl (fun _ h => q_loadc (n := 2) (by kernel_rfl) rfl h) (hd.elem (i := ((a : Nat) : Int)) (by omega) (by omega)) (by kernel_rfl) ?_
    refine at_gh (i := 13) (li := #[true, true, true, true, true, true, true, true, true, true, true, true, true, true, false, false]) rfl (by kernel_rfl) rfl rfl rfl rfl rfl (by kernel_rfl) (h_callv (f := 16) (first := []) (cap := []) (by kernel_rfl) rfl rfl rfl ?_)
    refine (srt_compare (a := d1[((i1 : Nat) : Int).toNat]!) (b := d1[((a : Nat) : Int).toNat]!) hs9.sat).mono ?_
    rintro _ w10 ⟨rfl, hs10⟩
    replace hd := hd.then hs10
    replace hT := hT.then hs10
    refine ⟨(by repeat' first | exact trivial | exact (hd.elem (i := ((i1 : Nat) : Int)) (by omega) (by omega)) | exact (hd.elem (i := ((a : Nat) : Int)) (by omega) (by omega)) | assumption | refine all_keep ?_ | refine And.intro ?_ ?_), ?_⟩
    first | refine at_gskip (i := 14) (li := #[true, true, true, true, true, true, true, true, true, true, true, true, true, true, true, false]) rfl (by kernel_rfl) rfl rfl rfl rfl rfl (by kernel_rfl) ?_ | refine at_gskipU (i := 14) (li := #[true, true, true, true, true, true, true, true, true, true, true, true, true, true, true, false]) rfl (by kernel_rfl) rfl rfl rfl rfl (by kernel_rfl) ?_ | refine at_gp (i := 14) (li := #[true, true, true, true, true, true, true, true, true, true, true, true, true, true, true, false]) rfl (by kernel_rfl) rfl rfl rfl rfl (fun _ => (q_ltT rfl rfl (by omega))) (by kernel_rfl) ?_ | refine at_gp (i := 14) (li := #[true, true, true, true, true, true, true, true, true, true, true, true, true, true, true, false]) rfl (by kernel_rfl) rfl rfl rfl rfl (fun _ => (q_ltF rfl rfl (by omega))) (by kernel_rfl) ?_ | refine at_gp (i := 14) (li := #[true, true, true, true, true, true, true, true, true, true, true, true, true, true, true, false]) rfl (by kernel_rfl) rfl rfl rfl rfl (fun _ => (q_lt rfl rfl)) (by kernel_rfl) ?_
    first | refine at_q (i := 15) (li := #[true, true, true, true, true, true, true, true, true, true, true, true, true, true, true, true]) rfl (by kernel_rfl) rfl (fun _ => (q_pick_t rfl rfl)) (by kernel_rfl) ?_ | refine at_q (i := 15) (li := #[true, true, true, true, true, true, true, true, true, true, true, true, true, true, true, true]) rfl (by kernel_rfl) rfl (fun _ => (q_pick_f rfl rfl)) (by kernel_rfl) ?_ | refine at_q (i := 15) (li := #[true, true, true, true, true, true, true, true, true, true, true, true, true, true, true, true]) rfl (by kernel_rfl) rfl (fun _ => (q_pick rfl rfl rfl)) (by kernel_rfl) ?_
    refine at_done (by kernel_rfl) (hK14 _ _ ?_)
    clear hK14 K14
    refine cw_cond rfl (fun hc0 => ?_) (fun hc0 => ?_)
    · skip
      have hl : ltE d1[i1]! d1[a]! = true := hc0
      refine cw_skip ?_
      refine hK5 _ _ ?_
      clear hK5 K5
      refine cw_block ?_
      refine cw_region fun K15 hK15 => ?_
      -- region 4
      refine as_q rfl rfl (q_move rfl) ?_
      refine as_q rfl rfl (q_congr (q_addx rfl rfl (by omega) (by omega)) (v' := .int .i64 (i1 + 1 : Nat)) (congrArg (Value.int .i64) (by omega))) ?_
      refine as_q rfl rfl (q_assign rfl) ?_
      refine as_nil (hK15 _ _ ?_)
      clear hK15 K15
      exact ⟨_, _, by omega, (.cons rfl (.cons rfl (.cons rfl (.cons rfl (.cons rfl (.nil _)))))), i1 + 1, rfl, by omega, by omega, (su_step hcu hl).symm.trans hi1e, rfl, hT, hd⟩
    · skip
      have hl : ltE d1[i1]! d1[a]! = false := hc0
      have hsi1 : Go.Sort.scanUp (fun x => ltE x d1[a]!) d1 ((b - 1)) (a + 1) = i1 := hi1e.symm.trans (su_stop hl)
      have hti1 : i1 ≤ (b - 1) → ltE d1[i1]! d1[a]! = false := fun _ => hl
      refine cw_exit ?_
      refine hK4 _ _ ?_
      clear hK5 K5
      clear hK4 K4
      refine cw_seq fun K16 hK16 => ?_
      refine cw_block ?_
      refine cw_loop (fun mm l w1 => ∃ qj : Nat, qj = mm ∧ i1 ≤ qj + 1 ∧ qj ≤ b - 1 ∧ Go.Sort.scanDown (fun x => !ltE x d1[a]!) d1 i1 qj = Go.Sort.scanDown (fun x => !ltE x d1[a]!) d1 i1 (b - 1) ∧ l = [(0, .slice (some ⟨g, 0, none⟩) n cap), (1, .int .i64 a), (4, (.func (.func 16) #[] #[])), (12, .int .i64 (i1 : Nat)), (13, .int .i64 qj)] ∧ Step (Just g) M w M w1 ∧ ElRow 23 w1 M g n cap d1) (b - 1) [(0, .slice (some ⟨g, 0, none⟩) n cap), (1, .int .i64 a), (4, (.func (.func 16) #[] #[])), (12, .int .i64 (i1 : Nat)), (13, .int .i64 (b - 1 : Nat))] (.cons rfl (.cons rfl (.cons rfl (.cons rfl (.cons rfl (.nil _)))))) ?_ ?_
      · skip
        exact ⟨b - 1, rfl, by omega, Nat.le_refl _, rfl, rfl, hT, hd⟩
      clear hT hd
      rintro mm l w1 ⟨j2, rfl, hj2a, hj2b, hj2e, rfl, hT, hd⟩
      refine cw_seq fun K17 hK17 => ?_
      have hcu : j2 < i1 ∨ i1 ≤ j2 := by omega
      rcases hcu with hcu | hcu
      · skip
        refine cw_rd (by kernel_rfl) (by kernel_rfl) (by kernel_rfl) rfl rfl fun K18 hK18 => ?_
        -- region 5
        have hs11 := Step.drew hT.sat
        replace hd := hd.then hs11
        replace hT := hT.then hs11
        refine at_q (i := 0) (li := #[true, false, false, false, false, false, false, false, false, false, false, false, false, false, false, false, false]) rfl (by kernel_rfl) rfl (fun _ => (q_move rfl)) (by kernel_rfl) ?_
        refine at_q (i := 1) (li := #[true, true, false, false, false, false, false, false, false, false, false, false, false, false, false, false, false]) rfl (by kernel_rfl) rfl (fun _ => (q_move rfl)) (by kernel_rfl) ?_
        first | refine at_q (i := 2) (li := #[true, true, true, false, false, false, false, false, false, false, false, false, false, false, false, false, false]) rfl (by kernel_rfl) rfl (fun _ => (q_leT rfl rfl (by omega))) (by kernel_rfl) ?_ | refine at_q (i := 2) (li := #[true, true, true, false, false, false, false, false, false, false, false, false, false, false, false, false, false]) rfl (by kernel_rfl) rfl (fun _ => (q_leF rfl rfl (by omega))) (by kernel_rfl) ?_ | refine at_q (i := 2) (li := #[true, true, true, false, false, false, false, false, false, false, false, false, false, false, false, false, false]) rfl (by kernel_rfl) rfl (fun _ => (q_le rfl rfl)) (by kernel_rfl) ?_
        refine at_q (i := 3) (li := #[true, true, true, true, false, false, false, false, false, false, false, false, false, false, false, false, false]) rfl (by kernel_rfl) rfl (fun _ => (q_move rfl)) (by kernel_rfl) ?_
        first | refine at_gskip (i := 4) (li := #[true, true, true, true, true, false, false, false, false, false, false, false, false, false, false, false, false]) rfl (by kernel_rfl) rfl rfl rfl rfl rfl (by kernel_rfl) ?_ | refine at_gskipU (i := 4) (li := #[true, true, true, true, true, false, false, false, false, false, false, false, false, false, false, false, false]) rfl (by kernel_rfl) rfl rfl rfl rfl (by kernel_rfl) ?_ | refine at_gp (i := 4) (li := #[true, true, true, true, true, false, false, false, false, false, false, false, false, false, false, false, false]) rfl (by kernel_rfl) rfl rfl rfl rfl (fun _ => (q_move rfl)) (by kernel_rfl) ?_
        first | refine at_gskip (i := 5) (li := #[true, true, true, true, true, true, false, false, false, false, false, false, false, false, false, false, false]) rfl (by kernel_rfl) rfl rfl rfl rfl rfl (by kernel_rfl) ?_ | refine at_gskipU (i := 5) (li := #[true, true, true, true, true, true, false, false, false, false, false, false, false, false, false, false, false]) rfl (by kernel_rfl) rfl rfl rfl rfl (by kernel_rfl) ?_ | refine at_gp (i := 5) (li := #[true, true, true, true, true, true, false, false, false, false, false, false, false, false, false, false, false]) rfl (by kernel_rfl) rfl rfl rfl rfl (fun _ => (q_move rfl)) (by kernel_rfl) ?_
        first | refine at_gskip (i := 6) (li := #[true, true, true, true, true, true, true, false, false, false, false, false, false, false, false, false, false]) rfl (by kernel_rfl) rfl rfl rfl rfl rfl (by kernel_rfl) ?_ | refine at_gskipU (i := 6) (li := #[true, true, true, true, true, true, true, false, false, false, false, false, false, false, false, false, false]) rfl (by kernel_rfl) rfl rfl rfl rfl (by kernel_rfl) ?_ | refine at_gp (i := 6) (li := #[true, true, true, true, true, true, true, false, false, false, false, false, false, false, false, false, false]) rfl (by kernel_rfl) rfl rfl rfl rfl (fun _ => (q_move rfl)) (by kernel_rfl) ?_
        first | refine at_gskip (i := 7) (li := #[true, true, true, true, true, true, true, true, false, false, false, false, false, false, false, false, false]) rfl (by kernel_rfl) rfl rfl rfl rfl rfl (by kernel_rfl) ?_ | refine at_gskipU (i := 7) (li := #[true, true, true, true, true, true, true, true, false, false, false, false, false, false, false, false, false]) rfl (by kernel_rfl) rfl rfl rfl rfl (by kernel_rfl) ?_ | refine at_gp (i := 7) (li := #[true, true, true, true, true, true, true, true, false, false, false, false, false, false, false, false, false]) rfl (by kernel_rfl) rfl rfl rfl rfl (fun _ => (q_indexAddr (e := 23) (size := 2) (by kernel_rfl) (by kernel_rfl) rfl rfl (by omega) (by omega))) (by kernel_rfl) ?_
        first | refine at_gskip (i := 8) (li := #[true, true, true, true, true, true, true, true, true, false, false, false, false, false, false, false, false]) rfl (by kernel_rfl) rfl rfl rfl rfl rfl (by kernel_rfl) ?_ | refine at_gskipU (i := 8) (li := #[true, true, true, true, true, true, true, true, true, false, false, false, false, false, false, false, false]) rfl (by kernel_rfl) rfl rfl rfl rfl (by kernel_rfl) ?_ | refine at_gq (i := 8) (li := #[true, true, true, true, true, true, true, true, true, false, false, false, false, false, false, false, false]) (cellsAre _ _ 2 _) rfl (by kernel_rfl) rfl rfl rfl rfl (fun _ h => q_loadc (n := 2) (by kernel_rfl) rfl h) (hd.elem (i := ((j2 : Nat) : Int)) (by omega) (by omega)) (by kernel_rfl) ?_
        first | refine at_gskip (i := 9) (li := #[true, true, true, true, true, true, true, true, true, true, false, false, false, false, false, false, false]) rfl (by kernel_rfl) rfl rfl rfl rfl rfl (by kernel_rfl) ?_ | refine at_gskipU (i := 9) (li := #[true, true, true, true, true, true, true, true, true, true, false, false, false, false, false, false, false]) rfl (by kernel_rfl) rfl rfl rfl rfl (by kernel_rfl) ?_ | refine at_gp (i := 9) (li := #[true, true, true, true, true, true, true, true, true, true, false, false, false, false, false, false, false]) rfl (by kernel_rfl) rfl rfl rfl rfl (fun _ => (q_move rfl)) (by kernel_rfl) ?_
        first | refine at_gskip (i := 10) (li := #[true, true, true, true, true, true, true, true, true, true, true, false, false, false, false, false, false]) rfl (by kernel_rfl) rfl rfl rfl rfl rfl (by kernel_rfl) ?_ | refine at_gskipU (i := 10) (li := #[true, true, true, true, true, true, true, true, true, true, true, false, false, false, false, false, false]) rfl (by kernel_rfl) rfl rfl rfl rfl (by kernel_rfl) ?_ | refine at_gp (i := 10) (li := #[true, true, true, true, true, true, true, true, true, true, true, false, false, false, false, false, false]) rfl (by kernel_rfl) rfl rfl rfl rfl (fun _ => (q_move rfl)) (by kernel_rfl) ?_
        first | refine at_gskip (i := 11) (li := #[true, true, true, true, true, true, true, true, true, true, true, true, false, false, false, false, false]) rfl (by kernel_rfl) rfl rfl rfl rfl rfl (by kernel_rfl) ?_ | refine at_gskipU (i := 11) (li := #[true, true, true, true, true, true, true, true, true, true, true, true, false, false, false, false, false]) rfl (by kernel_rfl) rfl rfl rfl rfl (by kernel_rfl) ?_ | refine at_gp (i := 11) (li := #[true, true, true, true, true, true, true, true, true, true, true, true, false, false, false, false, false]) rfl (by kernel_rfl) rfl rfl rfl rfl (fun _ => (q_indexAddr (e := 23) (size := 2) (by kernel_rfl) (by kernel_rfl) rfl rfl (by omega) (by omega))) (by kernel_rfl) ?_
        first | refine at_gskip (i := 12) (li := #[true, true, true, true, true, true, true, true, true, true, true, true, true, false, false, false, false]) rfl (by kernel_rfl) rfl rfl rfl rfl rfl (by kernel_rfl) ?_ | refine at_gskipU (i := 12) (li := #[true, true, true, true, true, true, true, true, true, true, true, true, true, false, false, false, false]) rfl (by kernel_rfl) rfl rfl rfl rfl (by kernel_rfl) ?_ | refine at_gq (i := 12) (li := #[true, true, true, true, true, true, true, true, true, true, true, true, true, false, false, false, false]) (cellsAre _ _ 2 _) rfl (by kernel_rfl) rfl rfl rfl rfl (fun _ h => q_loadc (n := 2) (by kernel_rfl) rfl h) (hd.elem (i := ((a : Nat) : Int)) (by omega) (by omega)) (by kernel_rfl) ?_
        first | refine at_gskip (i := 13) (li := #[true, true, true, true, true, true, true, true, true, true, true, true, true, true, false, false, false]) rfl (by kernel_rfl) rfl rfl rfl rfl rfl (by kernel_rfl) ?_ | refine at_gskipU (i := 13) (li := #[true, true, true, true, true, true, true, true, true, true, true, true, true, true, false, false, false]) rfl (by kernel_rfl) rfl rfl rfl rfl (by kernel_rfl) ?_
        first | refine at_gskip (i := 14) (li := #[true, true, true, true, true, true, true, true, true, true, true, true, true, true, true, false, false]) rfl (by kernel_rfl) rfl rfl rfl rfl rfl (by kernel_rfl) ?_ | refine at_gskipU (i := 14) (li := #[true, true, true, true, true, true, true, true, true, true, true, true, true, true, true, false, false]) rfl (by kernel_rfl) rfl rfl rfl rfl (by kernel_rfl) ?_ | refine at_gp (i := 14) (li := #[true, true, true, true, true, true, true, true, true, true, true, true, true, true, true, false, false]) rfl (by kernel_rfl) rfl rfl rfl rfl (fun _ => (q_ltT rfl rfl (by omega))) (by kernel_rfl) ?_ | refine at_gp (i := 14) (li := #[true, true, true, true, true, true, true, true, true, true, true, true, true, true, true, false, false]) rfl (by kernel_rfl) rfl rfl rfl rfl (fun _ => (q_ltF rfl rfl (by omega))) (by kernel_rfl) ?_ | refine at_gp (i := 14) (li := #[true, true, true, true, true, true, true, true, true, true, true, true, true, true, true, false, false]) rfl (by kernel_rfl) rfl rfl rfl rfl (fun _ => (q_lt rfl rfl)) (by kernel_rfl) ?_
        first | refine at_gskip (i := 15) (li := #[true, true, true, true, true, true, true, true, true, true, true, true, true, true, true, true, false]) rfl (by kernel_rfl) rfl rfl rfl rfl rfl (by kernel_rfl) ?_ | refine at_gskipU (i := 15) (li := #[true, true, true, true, true, true, true, true, true, true, true, true, true, true, true, true, false]) rfl (by kernel_rfl) rfl rfl rfl rfl (by kernel_rfl) ?_ | refine at_gp (i := 15) (li := #[true, true, true, true, true, true, true, true, true, true, true, true, true, true, true, true, false]) rfl (by kernel_rfl) rfl rfl rfl rfl (fun _ => (q_not rfl)) (by kernel_rfl) ?_
        first | refine at_q (i := 16) (li := #[true, true, true, true, true, true, true, true, true, true, true, true, true, true, true, true, true]) rfl (by kernel_rfl) rfl (fun _ => (q_pick_t rfl rfl)) (by kernel_rfl) ?_ | refine at_q (i := 16) (li := #[true, true, true, true, true, true, true, true, true, true, true, true, true, true, true, true, true]) rfl (by kernel_rfl) rfl (fun _ => (q_pick_f rfl rfl)) (by kernel_rfl) ?_ | refine at_q (i := 16) (li := #[true, true, true, true, true, true, true, true, true, true, true, true, true, true, true, true, true]) rfl (by kernel_rfl) rfl (fun _ => (q_pick rfl rfl rfl)) (by kernel_rfl) ?_
        refine at_done (by kernel_rfl) (hK18 _ _ ?_)
        clear hK18 K18
        have hsj2 : Go.Sort.scanDown (fun x => !ltE x d1[a]!) d1 i1 (b - 1) = j2 := hj2e.symm.trans (sn_out hcu)
        have htj2 : i1 ≤ j2 → (!ltE d1[j2]! d1[a]!) = false := fun h => absurd h (by omega)
        refine cw_false rfl ?_
        refine cw_exit ?_
        refine hK16 _ _ ?_
        clear hK17 K17
        clear hK16 K16
        refine cw_seq fun K19 hK19 => ?_
        refine cw_rs fun K20 hK20 => ?_
        -- region 7
        refine as_q rfl rfl (q_move rfl) ?_
        refine as_q rfl rfl (q_move rfl) ?_
        first | refine as_q rfl rfl (q_gtT rfl rfl (by omega)) ?_ | refine as_q rfl rfl (q_gtF rfl rfl (by omega)) ?_ | refine as_q rfl rfl (q_gt rfl rfl) ?_
        refine as_nil (hK20 _ _ ?_)
        clear hK20 K20
        have hgt : j2 < i1 := by omega
        refine cw_true rfl ?_
        refine cw_rd (by kernel_rfl) (by kernel_rfl) (by kernel_rfl) rfl rfl fun K21 hK21 => ?_
        -- region 8
        have hs12 := Step.drew hs11.sat
        replace hd := hd.then hs12
        replace hT := hT.then hs12
        refine at_q (i := 0) (li := #[true, false, false, false, false, false, false, false, false, false, false, false, false, false, false, false]) rfl (by kernel_rfl) rfl (fun _ => (q_move rfl)) (by kernel_rfl) ?_
        refine at_q (i := 1) (li := #[true, true, false, false, false, false, false, false, false, false, false, false, false, false, false, false]) rfl (by kernel_rfl) rfl (fun _ => (q_move rfl)) (by kernel_rfl) ?_
        refine at_q (i := 2) (li := #[true, true, true, false, false, false, false, false, false, false, false, false, false, false, false, false]) rfl (by kernel_rfl) rfl (fun _ => (q_move rfl)) (by kernel_rfl) ?_
        refine at_q (i := 3) (li := #[true, true, true, true, false, false, false, false, false, false, false, false, false, false, false, false]) rfl (by kernel_rfl) rfl (fun _ => (q_move rfl)) (by kernel_rfl) ?_
        refine at_q (i := 4) (li := #[true, true, true, true, true, false, false, false, false, false, false, false, false, false, false, false]) rfl (by kernel_rfl) rfl (fun _ => (q_move rfl)) (by kernel_rfl) ?_
        refine at_q (i := 5) (li := #[true, true, true, true, true, true, false, false, false, false, false, false, false, false, false, false]) rfl (by kernel_rfl) rfl (fun _ => (q_move rfl)) (by kernel_rfl) ?_
        refine at_q (i := 6) (li := #[true, true, true, true, true, true, true, false, false, false, false, false, false, false, false, false]) rfl (by kernel_rfl) rfl (fun _ => (q_indexAddr (e := 23) (size := 2) (by kernel_rfl) (by kernel_rfl) rfl rfl (by omega) (by omega))) (by kernel_rfl) ?_
        refine at_l (i := 7) (li := #[true, true, true, true, true, true, true, true, false, false, false, false, false, false, false, false]) (cellsAre _ _ 2 _) rfl (by kernel_rfl) rfl (fun _ h => q_loadc (n := 2) (by kernel_rfl) rfl h) (hd.elem (i := ((a : Nat) : Int)) (by omega) (by omega)) (by kernel_rfl) ?_
        refine at_q (i := 8) (li := #[true, true, true, true, true, true, true, true, true, false, false, false, false, false, false, false]) rfl (by kernel_rfl) rfl (fun _ => (q_move rfl)) (by kernel_rfl) ?_
        refine at_q (i := 9) (li := #[true, true, true, true, true, true, true, true, true, true, false, false, false, false, false, false]) rfl (by kernel_rfl) rfl (fun _ => (q_move rfl)) (by kernel_rfl) ?_
        refine at_q (i := 10) (li := #[true, true, true, true, true, true, true, true, true, true, true, false, false, false, false, false]) rfl (by kernel_rfl) rfl (fun _ => (q_indexAddr (e := 23) (size := 2) (by kernel_rfl) (by kernel_rfl) rfl rfl (by omega) (by omega))) (by kernel_rfl) ?_
        refine at_l (i := 11) (li := #[true, true, true, true, true, true, true, true, true, true, true, true, false, false, false, false]) (cellsAre _ _ 2 _) rfl (by kernel_rfl) rfl (fun _ h => q_loadc (n := 2) (by kernel_rfl) rfl h) (hd.elem (i := ((j2 : Nat) : Int)) (by omega) (by omega)) (by kernel_rfl) ?_
        refine at_q (i := 12) (li := #[true, true, true, true, true, true, true, true, true, true, true, true, true, false, false, false]) rfl (by kernel_rfl) rfl (fun _ => (q_indexAddr (e := 23) (size := 2) (by kernel_rfl) (by kernel_rfl) rfl rfl (by omega) (by omega))) (by kernel_rfl) ?_
        refine at_h0 (i := 13) (li := #[true, true, true, true, true, true, true, true, true, true, true, true, true, true, false, false]) rfl (by kernel_rfl) (keep_sift (bs := [true, true]) (by kernel_rfl)) (by kernel_rfl) (h_storeD (i := ((j2 : Nat) : Int)) (e := d1[((a : Nat) : Int).toNat]!) hs12.sat hd rfl rfl (by kernel_rfl) (by omega) (by omega) fun w13 hs13 hd13 => ?_)
        replace hT := hT.also hs13
        clear hd; have hd := hd13; clear hd13
        refine ⟨(by repeat' first | exact trivial | exact (hd.elem (i := ((a : Nat) : Int)) (by omega) (by omega)) | exact (hd.elem (i := ((j2 : Nat) : Int)) (by omega) (by omega)) | assumption | refine all_keep ?_ | refine And.intro ?_ ?_), ?_⟩
        refine at_q (i := 14) (li := #[true, true, true, true, true, true, true, true, true, true, true, true, true, true, true, false]) rfl (by kernel_rfl) rfl (fun _ => (q_indexAddr (e := 23) (size := 2) (by kernel_rfl) (by kernel_rfl) rfl rfl (by omega) (by omega))) (by kernel_rfl) ?_
        refine at_h0 (i := 15) (li := #[true, true, true, true, true, true, true, true, true, true, true, true, true, true, true, true]) rfl (by kernel_rfl) rfl (by kernel_rfl) (h_storeD (i := ((a : Nat) : Int)) (e := d1[((j2 : Nat) : Int).toNat]!) hs13.sat hd rfl rfl (by kernel_rfl) (by omega) (by omega) fun w14 hs14 hd14 => ?_)
        replace hT := hT.also hs14
        clear hd; have hd := hd14; clear hd14
        refine ⟨(by repeat' first | exact trivial | exact (hd.elem (i := ((a : Nat) : Int)) (by omega) (by omega)) | exact (hd.elem (i := ((j2 : Nat) : Int)) (by omega) (by omega)) | assumption | refine all_keep ?_ | refine And.intro ?_ ?_), ?_⟩
        refine at_done (by kernel_rfl) (hK21 _ _ ?_)
        clear hK21 K21
        refine cw_rs fun K22 hK22 => ?_
        -- region 9
        refine as_q rfl rfl (q_move rfl) ?_
        refine as_q rfl rfl (q_assign rfl) ?_
        refine as_q rfl rfl (q_assign rfl) ?_
        refine as_nil (hK22 _ _ ?_)
        clear hK22 K22
        refine cw_ret ?_
        rw [part_done hd1 hsi1 hsj2 hgt]
        exact ⟨_, (res_tmp rfl (res_tmp rfl res_nil)), rfl, hT, hd⟩
      · skip
        refine cw_rd (by kernel_rfl) (by kernel_rfl) (by kernel_rfl) rfl rfl fun K23 hK23 => ?_
        -- region 5
        have hs15 := Step.drew hT.sat
        replace hd := hd.then hs15
        replace hT := hT.then hs15
        refine at_q (i := 0) (li := #[true, false, false, false, false, false, false, false, false, false, false, false, false, false, false, false, false]) rfl (by kernel_rfl) rfl (fun _ => (q_move rfl)) (by kernel_rfl) ?_
        refine at_q (i := 1) (li := #[true, true, false, false, false, false, false, false, false, false, false, false, false, false, false, false, false]) rfl (by kernel_rfl) rfl (fun _ => (q_move rfl)) (by kernel_rfl) ?_
        first | refine at_q (i := 2) (li := #[true, true, true, false, false, false, false, false, false, false, false, false, false, false, false, false, false]) rfl (by kernel_rfl) rfl (fun _ => (q_leT rfl rfl (by omega))) (by kernel_rfl) ?_ | refine at_q (i := 2) (li := #[true, true, true, false, false, false, false, false, false, false, false, false, false, false, false, false, false]) rfl (by kernel_rfl) rfl (fun _ => (q_leF rfl rfl (by omega))) (by kernel_rfl) ?_ | refine at_q (i := 2) (li := #[true, true, true, false, false, false, false, false, false, false, false, false, false, false, false, false, false]) rfl (by kernel_rfl) rfl (fun _ => (q_le rfl rfl)) (by kernel_rfl) ?_
        refine at_q (i := 3) (li := #[true, true, true, true, false, false, false, false, false, false, false, false, false, false, false, false, false]) rfl (by kernel_rfl) rfl (fun _ => (q_move rfl)) (by kernel_rfl) ?_
        first | refine at_gskip (i := 4) (li := #[true, true, true, true, true, false, false, false, false, false, false, false, false, false, false, false, false]) rfl (by kernel_rfl) rfl rfl rfl rfl rfl (by kernel_rfl) ?_ | refine at_gskipU (i := 4) (li := #[true, true, true, true, true, false, false, false, false, false, false, false, false, false, false, false, false]) rfl (by kernel_rfl) rfl rfl rfl rfl (by kernel_rfl) ?_ | refine at_gp (i := 4) (li := #[true, true, true, true, true, false, false, false, false, false, false, false, false, false, false, false, false]) rfl (by kernel_rfl) rfl rfl rfl rfl (fun _ => (q_move rfl)) (by kernel_rfl) ?_
        first | refine at_gskip (i := 5) (li := #[true, true, true, true, true, true, false, false, false, false, false, false, false, false, false, false, false]) rfl (by kernel_rfl) rfl rfl rfl rfl rfl (by kernel_rfl) ?_ | refine at_gskipU (i := 5) (li := #[true, true, true, true, true, true, false, false, false, false, false, false, false, false, false, false, false]) rfl (by kernel_rfl) rfl rfl rfl rfl (by kernel_rfl) ?_ | refine at_gp (i := 5) (li := #[true, true, true, true, true, true, false, false, false, false, false, false, false, false, false, false, false]) rfl (by kernel_rfl) rfl rfl rfl rfl (fun _ => (q_move rfl)) (by kernel_rfl) ?_
        first | refine at_gskip (i := 6) (li := #[true, true, true, true, true, true, true, false, false, false, false, false, false, false, false, false, false]) rfl (by kernel_rfl) rfl rfl rfl rfl rfl (by kernel_rfl) ?_ | refine at_gskipU (i := 6) (li := #[true, true, true, true, true, true, true, false, false, false, false, false, false, false, false, false, false]) rfl (by kernel_rfl) rfl rfl rfl rfl (by kernel_rfl) ?_ | refine at_gp (i := 6) (li := #[true, true, true, true, true, true, true, false, false, false, false, false, false, false, false, false, false]) rfl (by kernel_rfl) rfl rfl rfl rfl (fun _ => (q_move rfl)) (by kernel_rfl) ?_
        first | refine at_gskip (i := 7) (li := #[true, true, true, true, true, true, true, true, false, false, false, false, false, false, false, false, false]) rfl (by kernel_rfl) rfl rfl rfl rfl rfl (by kernel_rfl) ?_ | refine at_gskipU (i := 7) (li := #[true, true, true, true, true, true, true, true, false, false, false, false, false, false, false, false, false]) rfl (by kernel_rfl) rfl rfl rfl rfl (by kernel_rfl) ?_ | refine at_gp (i := 7) (li := #[true, true, true, true, true, true, true, true, false, false, false, false, false, false, false, false, false]) rfl (by kernel_rfl) rfl rfl rfl rfl (fun _ => (q_indexAddr (e := 23) (size := 2) (by kernel_rfl) (by kernel_rfl) rfl rfl (by omega) (by omega))) (by kernel_rfl) ?_
        first | refine at_gskip (i := 8) (li := #[true, true, true, true, true, true, true, true, true, false, false, false, false, false, false, false, false]) rfl (by kernel_rfl) rfl rfl rfl rfl rfl (by kernel_rfl) ?_ | refine at_gskipU (i := 8) (li := #[true, true, true, true, true, true, true, true, true, false, false, false, false, false, false, false, false]) rfl (by kernel_rfl) rfl rfl rfl rfl (by kernel_rfl) ?_ | refine at_gq (i := 8) (li := #[true, true, true, true, true, true, true, true, true, false, false, false, false, false, false, false, false]) (cellsAre _ _ 2 _) rfl (by kernel_rfl) rfl rfl rfl rfl (fun _ h => q_loadc (n := 2) (by kernel_rfl) rfl h) (hd.elem (i := ((j2 : Nat) : Int)) (by omega) (by omega)) (by kernel_rfl) ?_
        first | refine at_gskip (i := 9) (li := #[true, true, true, true, true, true, true, true, true, true, false, false, false, false, false, false, false]) rfl (by kernel_rfl) rfl rfl rfl rfl rfl (by kernel_rfl) ?_ | refine at_gskipU (i := 9) (li := #[true, true, true, true, true, true, true, true, true, true, false, false, false, false, false, false, false]) rfl (by kernel_rfl) rfl rfl rfl rfl (by kernel_rfl) ?_ | refine at_gp (i := 9) (li := #[true, true, true, true, true, true, true, true, true, true, false, false, false, false, false, false, false]) rfl (by kernel_rfl) rfl rfl rfl rfl (fun _ => (q_move rfl)) (by kernel_rfl) ?_
        first | refine at_gskip (i := 10) (li := #[true, true, true, true, true, true, true, true, true, true, true, false, false, false, false, false, false]) rfl (by kernel_rfl) rfl rfl rfl rfl rfl (by kernel_rfl) ?_ | refine at_gskipU (i := 10) (li := #[true, true, true, true, true, true, true, true, true, true, true, false, false, false, false, false, false]) rfl (by kernel_rfl) rfl rfl rfl rfl (by kernel_rfl) ?_ | refine at_gp (i := 10) (li := #[true, true, true, true, true, true, true, true, true, true, true, false, false, false, false, false, false]) rfl (by kernel_rfl) rfl rfl rfl rfl (fun _ => (q_move rfl)) (by kernel_rfl) ?_
        first | refine at_gskip (i := 11) (li := #[true, true, true, true, true, true, true, true, true, true, true, true, false, false, false, false, false]) rfl (by kernel_rfl) rfl rfl rfl rfl rfl (by kernel_rfl) ?_ | refine at_gskipU (i := 11) (li := #[true, true, true, true, true, true, true, true, true, true, true, true, false, false, false, false, false]) rfl (by kernel_rfl) rfl rfl rfl rfl (by kernel_rfl) ?_ | refine at_gp (i := 11) (li := #[true, true, true, true, true, true, true, true, true, true, true, true, false, false, false, false, false]) rfl (by kernel_rfl) rfl rfl rfl rfl (fun _ => (q_indexAddr (e := 23) (size := 2) (by kernel_rfl) (by kernel_rfl) rfl rfl (by omega) (by omega))) (by kernel_rfl) ?_
        first | refine at_gskip (i := 12) (li := #[true, true, true, true, true, true, true, true, true, true, true, true, true, false, false, false, false]) rfl (by kernel_rfl) rfl rfl rfl rfl rfl (by kernel_rfl) ?_ | refine at_gskipU (i := 12) (li := #[true, true, true, true, true, true, true, true, true, true, true, true, true, false, false, false, false]) rfl (by kernel_rfl) rfl rfl rfl rfl (by kernel_rfl) ?_ | refine at_gq (i := 12) (li := #[true, true, true, true, true, true, true, true, true, true, true, true, true, false, false, false, false]) (cellsAre _ _ 2 _) rfl (by kernel_rfl) rfl rfl rfl rfl (fun _ h => q_loadc (n := 2) (by kernel_rfl) rfl h) (hd.elem (i := ((a : Nat) : Int)) (by omega) (by omega)) (by kernel_rfl) ?_
        refine at_gh (i := 13) (li := #[true, true, true, true, true, true, true, true, true, true, true, true, true, true, false, false, false]) rfl (by kernel_rfl) rfl rfl rfl rfl rfl (by kernel_rfl) (h_callv (f := 16) (first := []) (cap := []) (by kernel_rfl) rfl rfl rfl ?_)
        refine (srt_compare (a := d1[((j2 : Nat) : Int).toNat]!) (b := d1[((a : Nat) : Int).toNat]!) hs15.sat).mono ?_
        rintro _ w16 ⟨rfl, hs16⟩
        replace hd := hd.then hs16
        replace hT := hT.then hs16
        refine ⟨(by repeat' first | exact trivial | exact (hd.elem (i := ((j2 : Nat) : Int)) (by omega) (by omega)) | exact (hd.elem (i := ((a : Nat) : Int)) (by omega) (by omega)) | assumption | refine all_keep ?_ | refine And.intro ?_ ?_), ?_⟩
        first | refine at_gskip (i := 14) (li := #[true, true, true, true, true, true, true, true, true, true, true, true, true, true, true, false, false]) rfl (by kernel_rfl) rfl rfl rfl rfl rfl (by kernel_rfl) ?_ | refine at_gskipU (i := 14) (li := #[true, true, true, true, true, true, true, true, true, true, true, true, true, true, true, false, false]) rfl (by kernel_rfl) rfl rfl rfl rfl (by kernel_rfl) ?_ | refine at_gp (i := 14) (li := #[true, true, true, true, true, true, true, true, true, true, true, true, true, true, true, false, false]) rfl (by kernel_rfl) rfl rfl rfl rfl (fun _ => (q_ltT rfl rfl (by omega))) (by kernel_rfl) ?_ | refine at_gp (i := 14) (li := #[true, true, true, true, true, true, true, true, true, true, true, true, true, true, true, false, false]) rfl (by kernel_rfl) rfl rfl rfl rfl (fun _ => (q_ltF rfl rfl (by omega))) (by kernel_rfl) ?_ | refine at_gp (i := 14) (li := #[true, true, true, true, true, true, true, true, true, true, true, true, true, true, true, false, false]) rfl (by kernel_rfl) rfl rfl rfl rfl (fun _ => (q_lt rfl rfl)) (by kernel_rfl) ?_
        first | refine at_gskip (i := 15) (li := #[true, true, true, true, true, true, true, true, true, true, true, true, true, true, true, true, false]) rfl (by kernel_rfl) rfl rfl rfl rfl rfl (by kernel_rfl) ?_ | refine at_gskipU (i := 15) (li := #[true, true, true, true, true, true, true, true, true, true, true, true, true, true, true, true, false]) rfl (by kernel_rfl) rfl rfl rfl rfl (by kernel_rfl) ?_ | refine at_gp (i := 15) (li := #[true, true, true, true, true, true, true, true, true, true, true, true, true, true, true, true, false]) rfl (by kernel_rfl) rfl rfl rfl rfl (fun _ => (q_not rfl)) (by kernel_rfl) ?_
        first | refine at_q (i := 16) (li := #[true, true, true, true, true, true, true, true, true, true, true, true, true, true, true, true, true]) rfl (by kernel_rfl) rfl (fun _ => (q_pick_t rfl rfl)) (by kernel_rfl) ?_ | refine at_q (i := 16) (li := #[true, true, true, true, true, true, true, true, true, true, true, true, true, true, true, true, true]) rfl (by kernel_rfl) rfl (fun _ => (q_pick_f rfl rfl)) (by kernel_rfl) ?_ | refine at_q (i := 16) (li := #[true, true, true, true, true, true, true, true, true, true, true, true, true, true, true, true, true]) rfl (by kernel_rfl) rfl (fun _ => (q_pick rfl rfl rfl)) (by kernel_rfl) ?_
        refine at_done (by kernel_rfl) (hK23 _ _ ?_)
        clear hK23 K23
        refine cw_cond rfl (fun hc1 => ?_) (fun hc1 => ?_)
        · skip
          have hl : (!ltE d1[j2]! d1[a]!) = true := hc1
          refine cw_skip ?_
          refine hK17 _ _ ?_
          clear hK17 K17
          refine cw_block ?_
          refine cw_region fun K24 hK24 => ?_
          -- region 6
          refine as_q rfl rfl (q_move rfl) ?_
          refine as_q rfl rfl (q_congr (q_subx rfl rfl (by omega) (by omega)) (v' := .int .i64 (j2 - 1 : Nat)) (congrArg (Value.int .i64) (by omega))) ?_
          refine as_q rfl rfl (q_assign rfl) ?_
          refine as_nil (hK24 _ _ ?_)
          clear hK24 K24
          exact ⟨_, _, by omega, (.cons rfl (.cons rfl (.cons rfl (.cons rfl (.cons rfl (.nil _)))))), j2 - 1, rfl, by omega, by omega, (sn_step (by omega) hcu hl).symm.trans hj2e, rfl, hT, hd⟩
        · skip
          have hl : (!ltE d1[j2]! d1[a]!) = false := hc1
          have hsj2 : Go.Sort.scanDown (fun x => !ltE x d1[a]!) d1 i1 (b - 1) = j2 := hj2e.symm.trans (sn_stop hl)
          have htj2 : i1 ≤ j2 → (!ltE d1[j2]! d1[a]!) = false := fun _ => hl
          refine cw_exit ?_
          refine hK16 _ _ ?_
          clear hK17 K17
          clear hK16 K16
          refine cw_seq fun K25 hK25 => ?_
          refine cw_rs fun K26 hK26 => ?_
          -- region 7
          refine as_q rfl rfl (q_move rfl) ?_
          refine as_q rfl rfl (q_move rfl) ?_
          first | refine as_q rfl rfl (q_gtT rfl rfl (by omega)) ?_ | refine as_q rfl rfl (q_gtF rfl rfl (by omega)) ?_ | refine as_q rfl rfl (q_gt rfl rfl) ?_
          refine as_nil (hK26 _ _ ?_)
          clear hK26 K26
          have hgt : ¬ j2 < i1 := by omega
          have hlt12 : i1 < j2 := by
            rcases Nat.lt_or_ge i1 j2 with h | h
            · exact h
            · have he : i1 = j2 := by omega
              have h1 := hti1 (by omega)
              have h2 := htj2 (by omega)
              rw [he] at h1
              rw [h1] at h2
              cases h2
          refine cw_false rfl ?_
          refine cw_skip ?_
          refine hK25 _ _ ?_
          clear hK25 K25
          refine cw_rd (by kernel_rfl) (by kernel_rfl) (by kernel_rfl) rfl rfl fun K27 hK27 => ?_
          -- region 10
          have hs17 := Step.drew hs16.sat
          replace hd := hd.then hs17
          replace hT := hT.then hs17
          refine at_q (i := 0) (li := #[true, false, false, false, false, false, false, false, false, false, false, false, false, false, false, false]) rfl (by kernel_rfl) rfl (fun _ => (q_move rfl)) (by kernel_rfl) ?_
          refine at_q (i := 1) (li := #[true, true, false, false, false, false, false, false, false, false, false, false, false, false, false, false]) rfl (by kernel_rfl) rfl (fun _ => (q_move rfl)) (by kernel_rfl) ?_
          refine at_q (i := 2) (li := #[true, true, true, false, false, false, false, false, false, false, false, false, false, false, false, false]) rfl (by kernel_rfl) rfl (fun _ => (q_move rfl)) (by kernel_rfl) ?_
          refine at_q (i := 3) (li := #[true, true, true, true, false, false, false, false, false, false, false, false, false, false, false, false]) rfl (by kernel_rfl) rfl (fun _ => (q_move rfl)) (by kernel_rfl) ?_
          refine at_q (i := 4) (li := #[true, true, true, true, true, false, false, false, false, false, false, false, false, false, false, false]) rfl (by kernel_rfl) rfl (fun _ => (q_move rfl)) (by kernel_rfl) ?_
          refine at_q (i := 5) (li := #[true, true, true, true, true, true, false, false, false, false, false, false, false, false, false, false]) rfl (by kernel_rfl) rfl (fun _ => (q_move rfl)) (by kernel_rfl) ?_
          refine at_q (i := 6) (li := #[true, true, true, true, true, true, true, false, false, false, false, false, false, false, false, false]) rfl (by kernel_rfl) rfl (fun _ => (q_indexAddr (e := 23) (size := 2) (by kernel_rfl) (by kernel_rfl) rfl rfl (by omega) (by omega))) (by kernel_rfl) ?_
          refine at_l (i := 7) (li := #[true, true, true, true, true, true, true, true, false, false, false, false, false, false, false, false]) (cellsAre _ _ 2 _) rfl (by kernel_rfl) rfl (fun _ h => q_loadc (n := 2) (by kernel_rfl) rfl h) (hd.elem (i := ((j2 : Nat) : Int)) (by omega) (by omega)) (by kernel_rfl) ?_
          refine at_q (i := 8) (li := #[true, true, true, true, true, true, true, true, true, false, false, false, false, false, false, false]) rfl (by kernel_rfl) rfl (fun _ => (q_move rfl)) (by kernel_rfl) ?_
          refine at_q (i := 9) (li := #[true, true, true, true, true, true, true, true, true, true, false, false, false, false, false, false]) rfl (by kernel_rfl) rfl (fun _ => (q_move rfl)) (by kernel_rfl) ?_
          refine at_q (i := 10) (li := #[true, true, true, true, true, true, true, true, true, true, true, false, false, false, false, false]) rfl (by kernel_rfl) rfl (fun _ => (q_indexAddr (e := 23) (size := 2) (by kernel_rfl) (by kernel_rfl) rfl rfl (by omega) (by omega))) (by kernel_rfl) ?_
          refine at_l (i := 11) (li := #[true, true, true, true, true, true, true, true, true, true, true, true, false, false, false, false]) (cellsAre _ _ 2 _) rfl (by kernel_rfl) rfl (fun _ h => q_loadc (n := 2) (by kernel_rfl) rfl h) (hd.elem (i := ((i1 : Nat) : Int)) (by omega) (by omega)) (by kernel_rfl) ?_
          refine at_q (i := 12) (li := #[true, true, true, true, true, true, true, true, true, true, true, true, true, false, false, false]) rfl (by kernel_rfl) rfl (fun _ => (q_indexAddr (e := 23) (size := 2) (by kernel_rfl) (by kernel_rfl) rfl rfl (by omega) (by omega))) (by kernel_rfl) ?_
          refine at_h0 (i := 13) (li := #[true, true, true, true, true, true, true, true, true, true, true, true, true, true, false, false]) rfl (by kernel_rfl) (keep_sift (bs := [true, true]) (by kernel_rfl)) (by kernel_rfl) (h_storeD (i := ((i1 : Nat) : Int)) (e := d1[((j2 : Nat) : Int).toNat]!) hs17.sat hd rfl rfl (by kernel_rfl) (by omega) (by omega) fun w18 hs18 hd18 => ?_)
          replace hT := hT.also hs18
          clear hd; have hd := hd18; clear hd18
          refine ⟨(by repeat' first | exact trivial | exact (hd.elem (i := ((j2 : Nat) : Int)) (by omega) (by omega)) | exact (hd.elem (i := ((i1 : Nat) : Int)) (by omega) (by omega)) | assumption | refine all_keep ?_ | refine And.intro ?_ ?_), ?_⟩
          refine at_q (i := 14) (li := #[true, true, true, true, true, true, true, true, true, true, true, true, true, true, true, false]) rfl (by kernel_rfl) rfl (fun _ => (q_indexAddr (e := 23) (size := 2) (by kernel_rfl) (by kernel_rfl) rfl rfl (by omega) (by omega))) (by kernel_rfl) ?_
          refine at_h0 (i := 15) (li := #[true, true, true, true, true, true, true, true, true, true, true, true, true, true, true, true]) rfl (by kernel_rfl) rfl (by kernel_rfl) (h_storeD (i := ((j2 : Nat) : Int)) (e := d1[((i1 : Nat) : Int).toNat]!) hs18.sat hd rfl rfl (by kernel_rfl) (by omega) (by omega) fun w19 hs19 hd19 => ?_)
          replace hT := hT.also hs19
          clear hd; have hd := hd19; clear hd19
          refine ⟨(by repeat' first | exact trivial | exact (hd.elem (i := ((j2 : Nat) : Int)) (by omega) (by omega)) | exact (hd.elem (i := ((i1 : Nat) : Int)) (by omega) (by omega)) | assumption | refine all_keep ?_ | refine And.intro ?_ ?_), ?_⟩
          refine at_done (by kernel_rfl) (hK27 _ _ ?_)
          clear hK27 K27
          refine cw_rs fun K28 hK28 => ?_
          -- region 11
          refine as_q rfl rfl (q_move rfl) ?_
          refine as_q rfl rfl (q_congr (q_addx rfl rfl (by omega) (by omega)) (v' := .int .i64 (i1 + 1 : Nat)) (congrArg (Value.int .i64) (by omega))) ?_
          refine as_q rfl rfl (q_assign rfl) ?_
          refine as_nil (hK28 _ _ ?_)
          clear hK28 K28
          refine cw_rs fun K29 hK29 => ?_
          -- region 12
          refine as_q rfl rfl (q_move rfl) ?_
          refine as_q rfl rfl (q_congr (q_subx rfl rfl (by omega) (by omega)) (v' := .int .i64 (j2 - 1 : Nat)) (congrArg (Value.int .i64) (by omega))) ?_
          refine as_q rfl rfl (q_assign rfl) ?_
          refine as_nil (hK29 _ _ ?_)
          clear hK29 K29
          refine cw_seq fun K30 hK30 => ?_
          refine cw_block ?_
          refine cw_loop (fun mm l w1 => ∃ (i j : Nat) (d2 : Array El), mm = j + 1 - i ∧ Go.Sort.partLoop ltE a i j d2 = Go.Sort.partLoop ltE a (i1 + 1) (j2 - 1) (Go.Sort.swp d1 i1 j2) ∧ a < i ∧ i ≤ j + 1 ∧ j < b ∧ l = [(0, .slice (some ⟨g, 0, none⟩) n cap), (1, .int .i64 a), (4, (.func (.func 16) #[] #[])), (12, .int .i64 i), (13, .int .i64 j)] ∧ Step (Just g) M w M w1 ∧ ElRow 23 w1 M g n cap d2) (j2 - 1 + 1 - (i1 + 1)) [(0, .slice (some ⟨g, 0, none⟩) n cap), (1, .int .i64 a), (4, (.func (.func 16) #[] #[])), (12, .int .i64 (i1 + 1 : Nat)), (13, .int .i64 (j2 - 1 : Nat))] (.cons rfl (.cons rfl (.cons rfl (.cons rfl (.cons rfl (.nil _)))))) ?_ ?_
          · skip
            exact ⟨i1 + 1, j2 - 1, Go.Sort.swp d1 i1 j2, rfl, rfl, by omega, by omega, by omega, rfl, hT, hd⟩
          clear hT hd
          rintro mm l w1 ⟨i, j, d2, rfl, hpl, hai, hij, hjb, rfl, hT, hd⟩
          refine cw_block ?_
          refine cw_seq fun K31 hK31 => ?_
          refine cw_block ?_
          refine cw_loop (fun mm l w1 => ∃ qi : Nat, mm = j + 1 - qi ∧ i ≤ qi ∧ qi ≤ j + 1 ∧ Go.Sort.scanUp (fun x => ltE x d2[a]!) d2 (j) qi = Go.Sort.scanUp (fun x => ltE x d2[a]!) d2 (j) (i) ∧ l = [(0, .slice (some ⟨g, 0, none⟩) n cap), (1, .int .i64 a), (4, (.func (.func 16) #[] #[])), (12, .int .i64 qi), (13, .int .i64 (j : Nat))] ∧ Step (Just g) M w M w1 ∧ ElRow 23 w1 M g n cap d2) (j + 1 - (i)) [(0, .slice (some ⟨g, 0, none⟩) n cap), (1, .int .i64 a), (4, (.func (.func 16) #[] #[])), (12, .int .i64 (i : Nat)), (13, .int .i64 (j : Nat))] (.cons rfl (.cons rfl (.cons rfl (.cons rfl (.cons rfl (.nil _)))))) ?_ ?_
          · skip
            exact ⟨i, rfl, Nat.le_refl _, by omega, rfl, rfl, hT, hd⟩
          clear hT hd
          rintro mm l w1 ⟨i3, rfl, hi3a, hi3b, hi3e, rfl, hT, hd⟩
          refine cw_seq fun K32 hK32 => ?_
          have hcu : j < i3 ∨ i3 ≤ j := by omega
          rcases hcu with hcu | hcu
          · skip
            refine cw_rd (by kernel_rfl) (by kernel_rfl) (by kernel_rfl) rfl rfl fun K33 hK33 => ?_
            -- region 13
            have hs20 := Step.drew hT.sat
            replace hd := hd.then hs20
            replace hT := hT.then hs20
            refine at_q (i := 0) (li := #[true, false, false, false, false, false, false, false, false, false, false, false, false, false, false, false]) rfl (by kernel_rfl) rfl (fun _ => (q_move rfl)) (by kernel_rfl) ?_
            refine at_q (i := 1) (li := #[true, true, false, false, false, false, false, false, false, false, false, false, false, false, false, false]) rfl (by kernel_rfl) rfl (fun _ => (q_move rfl)) (by kernel_rfl) ?_
            first | refine at_q (i := 2) (li := #[true, true, true, false, false, false, false, false, false, false, false, false, false, false, false, false]) rfl (by kernel_rfl) rfl (fun _ => (q_leT rfl rfl (by omega))) (by kernel_rfl) ?_ | refine at_q (i := 2) (li := #[true, true, true, false, false, false, false, false, false, false, false, false, false, false, false, false]) rfl (by kernel_rfl) rfl (fun _ => (q_leF rfl rfl (by omega))) (by kernel_rfl) ?_ | refine at_q (i := 2) (li := #[true, true, true, false, false, false, false, false, false, false, false, false, false, false, false, false]) rfl (by kernel_rfl) rfl (fun _ => (q_le rfl rfl)) (by kernel_rfl) ?_
            refine at_q (i := 3) (li := #[true, true, true, true, false, false, false, false, false, false, false, false, false, false, false, false]) rfl (by kernel_rfl) rfl (fun _ => (q_move rfl)) (by kernel_rfl) ?_
            first | refine at_gskip (i := 4) (li := #[true, true, true, true, true, false, false, false, false, false, false, false, false, false, false, false]) rfl (by kernel_rfl) rfl rfl rfl rfl rfl (by kernel_rfl) ?_ | refine at_gskipU (i := 4) (li := #[true, true, true, true, true, false, false, false, false, false, false, false, false, false, false, false]) rfl (by kernel_rfl) rfl rfl rfl rfl (by kernel_rfl) ?_ | refine at_gp (i := 4) (li := #[true, true, true, true, true, false, false, false, false, false, false, false, false, false, false, false]) rfl (by kernel_rfl) rfl rfl rfl rfl (fun _ => (q_move rfl)) (by kernel_rfl) ?_
            first | refine at_gskip (i := 5) (li := #[true, true, true, true, true, true, false, false, false, false, false, false, false, false, false, false]) rfl (by kernel_rfl) rfl rfl rfl rfl rfl (by kernel_rfl) ?_ | refine at_gskipU (i := 5) (li := #[true, true, true, true, true, true, false, false, false, false, false, false, false, false, false, false]) rfl (by kernel_rfl) rfl rfl rfl rfl (by kernel_rfl) ?_ | refine at_gp (i := 5) (li := #[true, true, true, true, true, true, false, false, false, false, false, false, false, false, false, false]) rfl (by kernel_rfl) rfl rfl rfl rfl (fun _ => (q_move rfl)) (by kernel_rfl) ?_
            first | refine at_gskip (i := 6) (li := #[true, true, true, true, true, true, true, false, false, false, false, false, false, false, false, false]) rfl (by kernel_rfl) rfl rfl rfl rfl rfl (by kernel_rfl) ?_ | refine at_gskipU (i := 6) (li := #[true, true, true, true, true, true, true, false, false, false, false, false, false, false, false, false]) rfl (by kernel_rfl) rfl rfl rfl rfl (by kernel_rfl) ?_ | refine at_gp (i := 6) (li := #[true, true, true, true, true, true, true, false, false, false, false, false, false, false, false, false]) rfl (by kernel_rfl) rfl rfl rfl rfl (fun _ => (q_move rfl)) (by kernel_rfl) ?_
            first | refine at_gskip (i := 7) (li := #[true, true, true, true, true, true, true, true, false, false, false, false, false, false, false, false]) rfl (by kernel_rfl) rfl rfl rfl rfl rfl (by kernel_rfl) ?_ | refine at_gskipU (i := 7) (li := #[true, true, true, true, true, true, true, true, false, false, false, false, false, false, false, false]) rfl (by kernel_rfl) rfl rfl rfl rfl (by kernel_rfl) ?_ | refine at_gp (i := 7) (li := #[true, true, true, true, true, true, true, true, false, false, false, false, false, false, false, false]) rfl (by kernel_rfl) rfl rfl rfl rfl (fun _ => (q_indexAddr (e := 23) (size := 2) (by kernel_rfl) (by kernel_rfl) rfl rfl (by omega) (by omega))) (by kernel_rfl) ?_
            first | refine at_gskip (i := 8) (li := #[true, true, true, true, true, true, true, true, true, false, false, false, false, false, false, false]) rfl (by kernel_rfl) rfl rfl rfl rfl rfl (by kernel_rfl) ?_ | refine at_gskipU (i := 8) (li := #[true, true, true, true, true, true, true, true, true, false, false, false, false, false, false, false]) rfl (by kernel_rfl) rfl rfl rfl rfl (by kernel_rfl) ?_ | refine at_gq (i := 8) (li := #[true, true, true, true, true, true, true, true, true, false, false, false, false, false, false, false]) (cellsAre _ _ 2 _) rfl (by kernel_rfl) rfl rfl rfl rfl (fun _ h => q_loadc (n := 2) (by kernel_rfl) rfl h) (hd.elem (i := ((i3 : Nat) : Int)) (by omega) (by omega)) (by kernel_rfl) ?_
            first | refine at_gskip (i := 9) (li := #[true, true, true, true, true, true, true, true, true, true, false, false, false, false, false, false]) rfl (by kernel_rfl) rfl rfl rfl rfl rfl (by kernel_rfl) ?_ | refine at_gskipU (i := 9) (li := #[true, true, true, true, true, true, true, true, true, true, false, false, false, false, false, false]) rfl (by kernel_rfl) rfl rfl rfl rfl (by kernel_rfl) ?_ | refine at_gp (i := 9) (li := #[true, true, true, true, true, true, true, true, true, true, false, false, false, false, false, false]) rfl (by kernel_rfl) rfl rfl rfl rfl (fun _ => (q_move rfl)) (by kernel_rfl) ?_
            first | refine at_gskip (i := 10) (li := #[true, true, true, true, true, true, true, true, true, true, true, false, false, false, false, false]) rfl (by kernel_rfl) rfl rfl rfl rfl rfl (by kernel_rfl) ?_ | refine at_gskipU (i := 10) (li := #[true, true, true, true, true, true, true, true, true, true, true, false, false, false, false, false]) rfl (by kernel_rfl) rfl rfl rfl rfl (by kernel_rfl) ?_ | refine at_gp (i := 10) (li := #[true, true, true, true, true, true, true, true, true, true, true, false, false, false, false, false]) rfl (by kernel_rfl) rfl rfl rfl rfl (fun _ => (q_move rfl)) (by kernel_rfl) ?_
            first | refine at_gskip (i := 11) (li := #[true, true, true, true, true, true, true, true, true, true, true, true, false, false, false, false]) rfl (by kernel_rfl) rfl rfl rfl rfl rfl (by kernel_rfl) ?_ | refine at_gskipU (i := 11) (li := #[true, true, true, true, true, true, true, true, true, true, true, true, false, false, false, false]) rfl (by kernel_rfl) rfl rfl rfl rfl (by kernel_rfl) ?_ | refine at_gp (i := 11) (li := #[true, true, true, true, true, true, true, true, true, true, true, true, false, false, false, false]) rfl (by kernel_rfl) rfl rfl rfl rfl (fun _ => (q_indexAddr (e := 23) (size := 2) (by kernel_rfl) (by kernel_rfl) rfl rfl (by omega) (by omega))) (by kernel_rfl) ?_
            first | refine at_gskip (i := 12) (li := #[true, true, true, true, true, true, true, true, true, true, true, true, true, false, false, false]) rfl (by kernel_rfl) rfl rfl rfl rfl rfl (by kernel_rfl) ?_ | refine at_gskipU (i := 12) (li := #[true, true, true, true, true, true, true, true, true, true, true, true, true, false, false, false]) rfl (by kernel_rfl) rfl rfl rfl rfl (by kernel_rfl) ?_ | refine at_gq (i := 12) (li := #[true, true, true, true, true, true, true, true, true, true, true, true, true, false, false, false]) (cellsAre _ _ 2 _) rfl (by kernel_rfl) rfl rfl rfl rfl (fun _ h => q_loadc (n := 2) (by kernel_rfl) rfl h) (hd.elem (i := ((a : Nat) : Int)) (by omega) (by omega)) (by kernel_rfl) ?_
            first | refine at_gskip (i := 13) (li := #[true, true, true, true, true, true, true, true, true, true, true, true, true, true, false, false]) rfl (by kernel_rfl) rfl rfl rfl rfl rfl (by kernel_rfl) ?_ | refine at_gskipU (i := 13) (li := #[true, true, true, true, true, true, true, true, true, true, true, true, true, true, false, false]) rfl (by kernel_rfl) rfl rfl rfl rfl (by kernel_rfl) ?_
            first | refine at_gskip (i := 14) (li := #[true, true, true, true, true, true, true, true, true, true, true, true, true, true, true, false]) rfl (by kernel_rfl) rfl rfl rfl rfl rfl (by kernel_rfl) ?_ | refine at_gskipU (i := 14) (li := #[true, true, true, true, true, true, true, true, true, true, true, true, true, true, true, false]) rfl (by kernel_rfl) rfl rfl rfl rfl (by kernel_rfl) ?_ | refine at_gp (i := 14) (li := #[true, true, true, true, true, true, true, true, true, true, true, true, true, true, true, false]) rfl (by kernel_rfl) rfl rfl rfl rfl (fun _ => (q_ltT rfl rfl (by omega))) (by kernel_rfl) ?_ | refine at_gp (i := 14) (li := #[true, true, true, true, true, true, true, true, true, true, true, true, true, true, true, false]) rfl (by kernel_rfl) rfl rfl rfl rfl (fun _ => (q_ltF rfl rfl (by omega))) (by kernel_rfl) ?_ | refine at_gp (i := 14) (li := #[true, true, true, true, true, true, true, true, true, true, true, true, true, true, true, false]) rfl (by kernel_rfl) rfl rfl rfl rfl (fun _ => (q_lt rfl rfl)) (by kernel_rfl) ?_
            first | refine at_q (i := 15) (li := #[true, true, true, true, true, true, true, true, true, true, true, true, true, true, true, true]) rfl (by kernel_rfl) rfl (fun _ => (q_pick_t rfl rfl)) (by kernel_rfl) ?_ | refine at_q (i := 15) (li := #[true, true, true, true, true, true, true, true, true, true, true, true, true, true, true, true]) rfl (by kernel_rfl) rfl (fun _ => (q_pick_f rfl rfl)) (by kernel_rfl) ?_ | refine at_q (i := 15) (li := #[true, true, true, true, true, true, true, true, true, true, true, true, true, true, true, true]) rfl (by kernel_rfl) rfl (fun _ => (q_pick rfl rfl rfl)) (by kernel_rfl) ?_
            refine at_done (by kernel_rfl) (hK33 _ _ ?_)
            clear hK33 K33
            have hsi3 : Go.Sort.scanUp (fun x => ltE x d2[a]!) d2 (j) (i) = i3 := hi3e.symm.trans (su_out hcu)
            have hti3 : i3 ≤ j → ltE d2[i3]! d2[a]! = false := fun h => absurd h (by omega)
            refine cw_false rfl ?_
            refine cw_exit ?_
            refine hK31 _ _ ?_
            clear hK32 K32
            clear hK31 K31
            refine cw_seq fun K34 hK34 => ?_
            refine cw_block ?_
            refine cw_loop (fun mm l w1 => ∃ qj : Nat, qj = mm ∧ i3 ≤ qj + 1 ∧ qj ≤ j ∧ Go.Sort.scanDown (fun x => !ltE x d2[a]!) d2 i3 qj = Go.Sort.scanDown (fun x => !ltE x d2[a]!) d2 i3 (j) ∧ l = [(0, .slice (some ⟨g, 0, none⟩) n cap), (1, .int .i64 a), (4, (.func (.func 16) #[] #[])), (12, .int .i64 (i3 : Nat)), (13, .int .i64 qj)] ∧ Step (Just g) M w M w1 ∧ ElRow 23 w1 M g n cap d2) (j) [(0, .slice (some ⟨g, 0, none⟩) n cap), (1, .int .i64 a), (4, (.func (.func 16) #[] #[])), (12, .int .i64 (i3 : Nat)), (13, .int .i64 (j : Nat))] (.cons rfl (.cons rfl (.cons rfl (.cons rfl (.cons rfl (.nil _)))))) ?_ ?_
            · skip
              exact ⟨j, rfl, by omega, Nat.le_refl _, rfl, rfl, hT, hd⟩
            clear hT hd
            rintro mm l w1 ⟨j4, rfl, hj4a, hj4b, hj4e, rfl, hT, hd⟩
            refine cw_seq fun K35 hK35 => ?_
            have hcu : j4 < i3 ∨ i3 ≤ j4 := by omega
            rcases hcu with hcu | hcu
            · skip
              refine cw_rd (by kernel_rfl) (by kernel_rfl) (by kernel_rfl) rfl rfl fun K36 hK36 => ?_
              -- region 15
              have hs21 := Step.drew hT.sat
              replace hd := hd.then hs21
              replace hT := hT.then hs21
              refine at_q (i := 0) (li := #[true, false, false, false, false, false, false, false, false, false, false, false, false, false, false, false, false]) rfl (by kernel_rfl) rfl (fun _ => (q_move rfl)) (by kernel_rfl) ?_
              refine at_q (i := 1) (li := #[true, true, false, false, false, false, false, false, false, false, false, false, false, false, false, false, false]) rfl (by kernel_rfl) rfl (fun _ => (q_move rfl)) (by kernel_rfl) ?_
              first | refine at_q (i := 2) (li := #[true, true, true, false, false, false, false, false, false, false, false, false, false, false, false, false, false]) rfl (by kernel_rfl) rfl (fun _ => (q_leT rfl rfl (by omega))) (by kernel_rfl) ?_ | refine at_q (i := 2) (li := #[true, true, true, false, false, false, false, false, false, false, false, false, false, false, false, false, false]) rfl (by kernel_rfl) rfl (fun _ => (q_leF rfl rfl (by omega))) (by kernel_rfl) ?_ | refine at_q (i := 2) (li := #[true, true, true, false, false, false, false, false, false, false, false, false, false, false, false, false, false]) rfl (by kernel_rfl) rfl (fun _ => (q_le rfl rfl)) (by kernel_rfl) ?_
              refine at_q (i := 3) (li := #[true, true, true, true, false, false, false, false, false, false, false, false, false, false, false, false, false]) rfl (by kernel_rfl) rfl (fun _ => (q_move rfl)) (by kernel_rfl) ?_
              first | refine at_gskip (i := 4) (li := #[true, true, true, true, true, false, false, false, false, false, false, false, false, false, false, false, false]) rfl (by kernel_rfl) rfl rfl rfl rfl rfl (by kernel_rfl) ?_ | refine at_gskipU (i := 4) (li := #[true, true, true, true, true, false, false, false, false, false, false, false, false, false, false, false, false]) rfl (by kernel_rfl) rfl rfl rfl rfl (by kernel_rfl) ?_ | refine at_gp (i := 4) (li := #[true, true, true, true, true, false, false, false, false, false, false, false, false, false, false, false, false]) rfl (by kernel_rfl) rfl rfl rfl rfl (fun _ => (q_move rfl)) (by kernel_rfl) ?_
              first | refine at_gskip (i := 5) (li := #[true, true, true, true, true, true, false, false, false, false, false, false, false, false, false, false, false]) rfl (by kernel_rfl) rfl rfl rfl rfl rfl (by kernel_rfl) ?_ | refine at_gskipU (i := 5) (li := #[true, true, true, true, true, true, false, false, false, false, false, false, false, false, false, false, false]) rfl (by kernel_rfl) rfl rfl rfl rfl (by kernel_rfl) ?_ | refine at_gp (i := 5) (li := #[true, true, true, true, true, true, false, false, false, false, false, false, false, false, false, false, false]) rfl (by kernel_rfl) rfl rfl rfl rfl (fun _ => (q_move rfl)) (by kernel_rfl) ?_
              first | refine at_gskip (i := 6) (li := #[true, true, true, true, true, true, true, false, false, false, false, false, false, false, false, false, false]) rfl (by kernel_rfl) rfl rfl rfl rfl rfl (by kernel_rfl) ?_ | refine at_gskipU (i := 6) (li := #[true, true, true, true, true, true, true, false, false, false, false, false, false, false, false, false, false]) rfl (by kernel_rfl) rfl rfl rfl rfl (by kernel_rfl) ?_ | refine at_gp (i := 6) (li := #[true, true, true, true, true, true, true, false, false, false, false, false, false, false, false, false, false]) rfl (by kernel_rfl) rfl rfl rfl rfl (fun _ => (q_move rfl)) (by kernel_rfl) ?_
              first | refine at_gskip (i := 7) (li := #[true, true, true, true, true, true, true, true, false, false, false, false, false, false, false, false, false]) rfl (by kernel_rfl) rfl rfl rfl rfl rfl (by kernel_rfl) ?_ | refine at_gskipU (i := 7) (li := #[true, true, true, true, true, true, true, true, false, false, false, false, false, false, false, false, false]) rfl (by kernel_rfl) rfl rfl rfl rfl (by kernel_rfl) ?_ | refine at_gp (i := 7) (li := #[true, true, true, true, true, true, true, true, false, false, false, false, false, false, false, false, false]) rfl (by kernel_rfl) rfl rfl rfl rfl (fun _ => (q_indexAddr (e := 23) (size := 2) (by kernel_rfl) (by kernel_rfl) rfl rfl (by omega) (by omega))) (by kernel_rfl) ?_
              first | refine at_gskip (i := 8) (li := #[true, true, true, true, true, true, true, true, true, false, false, false, false, false, false, false, false]) rfl (by kernel_rfl) rfl rfl rfl rfl rfl (by kernel_rfl) ?_ | refine at_gskipU (i := 8) (li := #[true, true, true, true, true, true, true, true, true, false, false, false, false, false, false, false, false]) rfl (by kernel_rfl) rfl rfl rfl rfl (by kernel_rfl) ?_ | refine at_gq (i := 8) (li := #[true, true, true, true, true, true, true, true, true, false, false, false, false, false, false, false, false]) (cellsAre _ _ 2 _) rfl (by kernel_rfl) rfl rfl rfl rfl (fun _ h => q_loadc (n := 2) (by kernel_rfl) rfl h) (hd.elem (i := ((j4 : Nat) : Int)) (by omega) (by omega)) (by kernel_rfl) ?_
              first | refine at_gskip (i := 9) (li := #[true, true, true, true, true, true, true, true, true, true, false, false, false, false, false, false, false]) rfl (by kernel_rfl) rfl rfl rfl rfl rfl (by kernel_rfl) ?_ | refine at_gskipU (i := 9) (li := #[true, true, true, true, true, true, true, true, true, true, false, false, false, false, false, false, false]) rfl (by kernel_rfl) rfl rfl rfl rfl (by kernel_rfl) ?_ | refine at_gp (i := 9) (li := #[true, true, true, true, true, true, true, true, true, true, false, false, false, false, false, false, false]) rfl (by kernel_rfl) rfl rfl rfl rfl (fun _ => (q_move rfl)) (by kernel_rfl) ?_
              first | refine at_gskip (i := 10) (li := #[true, true, true, true, true, true, true, true, true, true, true, false, false, false, false, false, false]) rfl (by kernel_rfl) rfl rfl rfl rfl rfl (by kernel_rfl) ?_ | refine at_gskipU (i := 10) (li := #[true, true, true, true, true, true, true, true, true, true, true, false, false, false, false, false, false]) rfl (by kernel_rfl) rfl rfl rfl rfl (by kernel_rfl) ?_ | refine at_gp (i := 10) (li := #[true, true, true, true, true, true, true, true, true, true, true, false, false, false, false, false, false]) rfl (by kernel_rfl) rfl rfl rfl rfl (fun _ => (q_move rfl)) (by kernel_rfl) ?_
              first | refine at_gskip (i := 11) (li := #[true, true, true, true, true, true, true, true, true, true, true, true, false, false, false, false, false]) rfl (by kernel_rfl) rfl rfl rfl rfl rfl (by kernel_rfl) ?_ | refine at_gskipU (i := 11) (li := #[true, true, true, true, true, true, true, true, true, true, true, true, false, false, false, false, false]) rfl (by kernel_rfl) rfl rfl rfl rfl (by kernel_rfl) ?_ | refine at_gp (i := 11) (li := #[true, true, true, true, true, true, true, true, true, true, true, true, false, false, false, false, false]) rfl (by kernel_rfl) rfl rfl rfl rfl (fun _ => (q_indexAddr (e := 23) (size := 2) (by kernel_rfl) (by kernel_rfl) rfl rfl (by omega) (by omega))) (by kernel_rfl) ?_
              first | refine at_gskip (i := 12) (li := #[true, true, true, true, true, true, true, true, true, true, true, true, true, false, false, false, false]) rfl (by kernel_rfl) rfl rfl rfl rfl rfl (by kernel_rfl) ?_ | refine at_gskipU (i := 12) (li := #[true, true, true, true, true, true, true, true, true, true, true, true, true, false, false, false, false]) rfl (by kernel_rfl) rfl rfl rfl rfl (by kernel_rfl) ?_ | refine at_gq (i := 12) (li := #[true, true, true, true, true, true, true, true, true, true, true, true, true, false, false, false, false]) (cellsAre _ _ 2 _) rfl (by kernel_rfl) rfl rfl rfl rfl (fun _ h => q_loadc (n := 2) (by kernel_rfl) rfl h) (hd.elem (i := ((a : Nat) : Int)) (by omega) (by omega)) (by kernel_rfl) ?_
              first | refine at_gskip (i := 13) (li := #[true, true, true, true, true, true, true, true, true, true, true, true, true, true, false, false, false]) rfl (by kernel_rfl) rfl rfl rfl rfl rfl (by kernel_rfl) ?_ | refine at_gskipU (i := 13) (li := #[true, true, true, true, true, true, true, true, true, true, true, true, true, true, false, false, false]) rfl (by kernel_rfl) rfl rfl rfl rfl (by kernel_rfl) ?_
              first | refine at_gskip (i := 14) (li := #[true, true, true, true, true, true, true, true, true, true, true, true, true, true, true, false, false]) rfl (by kernel_rfl) rfl rfl rfl rfl rfl (by kernel_rfl) ?_ | refine at_gskipU (i := 14) (li := #[true, true, true, true, true, true, true, true, true, true, true, true, true, true, true, false, false]) rfl (by kernel_rfl) rfl rfl rfl rfl (by kernel_rfl) ?_ | refine at_gp (i := 14) (li := #[true, true, true, true, true, true, true, true, true, true, true, true, true, true, true, false, false]) rfl (by kernel_rfl) rfl rfl rfl rfl (fun _ => (q_ltT rfl rfl (by omega))) (by kernel_rfl) ?_ | refine at_gp (i := 14) (li := #[true, true, true, true, true, true, true, true, true, true, true, true, true, true, true, false, false]) rfl (by kernel_rfl) rfl rfl rfl rfl (fun _ => (q_ltF rfl rfl (by omega))) (by kernel_rfl) ?_ | refine at_gp (i := 14) (li := #[true, true, true, true, true, true, true, true, true, true, true, true, true, true, true, false, false]) rfl (by kernel_rfl) rfl rfl rfl rfl (fun _ => (q_lt rfl rfl)) (by kernel_rfl) ?_
              first | refine at_gskip (i := 15) (li := #[true, true, true, true, true, true, true, true, true, true, true, true, true, true, true, true, false]) rfl (by kernel_rfl) rfl rfl rfl rfl rfl (by kernel_rfl) ?_ | refine at_gskipU (i := 15) (li := #[true, true, true, true, true, true, true, true, true, true, true, true, true, true, true, true, false]) rfl (by kernel_rfl) rfl rfl rfl rfl (by kernel_rfl) ?_ | refine at_gp (i := 15) (li := #[true, true, true, true, true, true, true, true, true, true, true, true, true, true, true, true, false]) rfl (by kernel_rfl) rfl rfl rfl rfl (fun _ => (q_not rfl)) (by kernel_rfl) ?_
              first | refine at_q (i := 16) (li := #[true, true, true, true, true, true, true, true, true, true, true, true, true, true, true, true, true]) rfl (by kernel_rfl) rfl (fun _ => (q_pick_t rfl rfl)) (by kernel_rfl) ?_ | refine at_q (i := 16) (li := #[true, true, true, true, true, true, true, true, true, true, true, true, true, true, true, true, true]) rfl (by kernel_rfl) rfl (fun _ => (q_pick_f rfl rfl)) (by kernel_rfl) ?_ | refine at_q (i := 16) (li := #[true, true, true, true, true, true, true, true, true, true, true, true, true, true, true, true, true]) rfl (by kernel_rfl) rfl (fun _ => (q_pick rfl rfl rfl)) (by kernel_rfl) ?_
              refine at_done (by kernel_rfl) (hK36 _ _ ?_)
              clear hK36 K36
              have hsj4 : Go.Sort.scanDown (fun x => !ltE x d2[a]!) d2 i3 (j) = j4 := hj4e.symm.trans (sn_out hcu)
              have htj4 : i3 ≤ j4 → (!ltE d2[j4]! d2[a]!) = false := fun h => absurd h (by omega)
              refine cw_false rfl ?_
              refine cw_exit ?_
              refine hK34 _ _ ?_
              clear hK35 K35
              clear hK34 K34
              refine cw_seq fun K37 hK37 => ?_
              refine cw_rs fun K38 hK38 => ?_
              -- region 17
              refine as_q rfl rfl (q_move rfl) ?_
              refine as_q rfl rfl (q_move rfl) ?_
              first | refine as_q rfl rfl (q_gtT rfl rfl (by omega)) ?_ | refine as_q rfl rfl (q_gtF rfl rfl (by omega)) ?_ | refine as_q rfl rfl (q_gt rfl rfl) ?_
              refine as_nil (hK38 _ _ ?_)
              clear hK38 K38
              have hgt2 : j4 < i3 := by omega
              refine cw_true rfl ?_
              refine cw_exit ?_
              refine hK30 _ _ ?_
              clear hK37 K37
              clear hK30 K30
              refine cw_rd (by kernel_rfl) (by kernel_rfl) (by kernel_rfl) rfl rfl fun K39 hK39 => ?_
              -- region 21
              have hs22 := Step.drew hs21.sat
              replace hd := hd.then hs22
              replace hT := hT.then hs22
              refine at_q (i := 0) (li := #[true, false, false, false, false, false, false, false, false, false, false, false, false, false, false, false]) rfl (by kernel_rfl) rfl (fun _ => (q_move rfl)) (by kernel_rfl) ?_
              refine at_q (i := 1) (li := #[true, true, false, false, false, false, false, false, false, false, false, false, false, false, false, false]) rfl (by kernel_rfl) rfl (fun _ => (q_move rfl)) (by kernel_rfl) ?_
              refine at_q (i := 2) (li := #[true, true, true, false, false, false, false, false, false, false, false, false, false, false, false, false]) rfl (by kernel_rfl) rfl (fun _ => (q_move rfl)) (by kernel_rfl) ?_
              refine at_q (i := 3) (li := #[true, true, true, true, false, false, false, false, false, false, false, false, false, false, false, false]) rfl (by kernel_rfl) rfl (fun _ => (q_move rfl)) (by kernel_rfl) ?_
              refine at_q (i := 4) (li := #[true, true, true, true, true, false, false, false, false, false, false, false, false, false, false, false]) rfl (by kernel_rfl) rfl (fun _ => (q_move rfl)) (by kernel_rfl) ?_
              refine at_q (i := 5) (li := #[true, true, true, true, true, true, false, false, false, false, false, false, false, false, false, false]) rfl (by kernel_rfl) rfl (fun _ => (q_move rfl)) (by kernel_rfl) ?_
              refine at_q (i := 6) (li := #[true, true, true, true, true, true, true, false, false, false, false, false, false, false, false, false]) rfl (by kernel_rfl) rfl (fun _ => (q_indexAddr (e := 23) (size := 2) (by kernel_rfl) (by kernel_rfl) rfl rfl (by omega) (by omega))) (by kernel_rfl) ?_
              refine at_l (i := 7) (li := #[true, true, true, true, true, true, true, true, false, false, false, false, false, false, false, false]) (cellsAre _ _ 2 _) rfl (by kernel_rfl) rfl (fun _ h => q_loadc (n := 2) (by kernel_rfl) rfl h) (hd.elem (i := ((a : Nat) : Int)) (by omega) (by omega)) (by kernel_rfl) ?_
              refine at_q (i := 8) (li := #[true, true, true, true, true, true, true, true, true, false, false, false, false, false, false, false]) rfl (by kernel_rfl) rfl (fun _ => (q_move rfl)) (by kernel_rfl) ?_
              refine at_q (i := 9) (li := #[true, true, true, true, true, true, true, true, true, true, false, false, false, false, false, false]) rfl (by kernel_rfl) rfl (fun _ => (q_move rfl)) (by kernel_rfl) ?_
              refine at_q (i := 10) (li := #[true, true, true, true, true, true, true, true, true, true, true, false, false, false, false, false]) rfl (by kernel_rfl) rfl (fun _ => (q_indexAddr (e := 23) (size := 2) (by kernel_rfl) (by kernel_rfl) rfl rfl (by omega) (by omega))) (by kernel_rfl) ?_
              refine at_l (i := 11) (li := #[true, true, true, true, true, true, true, true, true, true, true, true, false, false, false, false]) (cellsAre _ _ 2 _) rfl (by kernel_rfl) rfl (fun _ h => q_loadc (n := 2) (by kernel_rfl) rfl h) (hd.elem (i := ((j4 : Nat) : Int)) (by omega) (by omega)) (by kernel_rfl) ?_
              refine at_q (i := 12) (li := #[true, true, true, true, true, true, true, true, true, true, true, true, true, false, false, false]) rfl (by kernel_rfl) rfl (fun _ => (q_indexAddr (e := 23) (size := 2) (by kernel_rfl) (by kernel_rfl) rfl rfl (by omega) (by omega))) (by kernel_rfl) ?_
              refine at_h0 (i := 13) (li := #[true, true, true, true, true, true, true, true, true, true, true, true, true, true, false, false]) rfl (by kernel_rfl) (keep_sift (bs := [true, true]) (by kernel_rfl)) (by kernel_rfl) (h_storeD (i := ((j4 : Nat) : Int)) (e := d2[((a : Nat) : Int).toNat]!) hs22.sat hd rfl rfl (by kernel_rfl) (by omega) (by omega) fun w23 hs23 hd23 => ?_)
              replace hT := hT.also hs23
              clear hd; have hd := hd23; clear hd23
              refine ⟨(by repeat' first | exact trivial | exact (hd.elem (i := ((a : Nat) : Int)) (by omega) (by omega)) | exact (hd.elem (i := ((j4 : Nat) : Int)) (by omega) (by omega)) | assumption | refine all_keep ?_ | refine And.intro ?_ ?_), ?_⟩
              refine at_q (i := 14) (li := #[true, true, true, true, true, true, true, true, true, true, true, true, true, true, true, false]) rfl (by kernel_rfl) rfl (fun _ => (q_indexAddr (e := 23) (size := 2) (by kernel_rfl) (by kernel_rfl) rfl rfl (by omega) (by omega))) (by kernel_rfl) ?_
              refine at_h0 (i := 15) (li := #[true, true, true, true, true, true, true, true, true, true, true, true, true, true, true, true]) rfl (by kernel_rfl) rfl (by kernel_rfl) (h_storeD (i := ((a : Nat) : Int)) (e := d2[((j4 : Nat) : Int).toNat]!) hs23.sat hd rfl rfl (by kernel_rfl) (by omega) (by omega) fun w24 hs24 hd24 => ?_)
              replace hT := hT.also hs24
              clear hd; have hd := hd24; clear hd24
              refine ⟨(by repeat' first | exact trivial | exact (hd.elem (i := ((a : Nat) : Int)) (by omega) (by omega)) | exact (hd.elem (i := ((j4 : Nat) : Int)) (by omega) (by omega)) | assumption | refine all_keep ?_ | refine And.intro ?_ ?_), ?_⟩
              refine at_done (by kernel_rfl) (hK39 _ _ ?_)
              clear hK39 K39
              refine cw_rs fun K40 hK40 => ?_
              -- region 22
              refine as_q rfl rfl (q_move rfl) ?_
              refine as_q rfl rfl (q_assign rfl) ?_
              refine as_q rfl rfl (q_assign rfl) ?_
              refine as_nil (hK40 _ _ ?_)
              clear hK40 K40
              refine cw_ret ?_
              rw [Go.Sort.partLoop_eq, hsi3, hsj4, if_pos (by omega)] at hpl
              rw [part_go hd1 hsi1 hsj2 hgt, ← hpl]
              exact ⟨_, (res_tmp rfl (res_tmp rfl res_nil)), rfl, hT, hd⟩
            · skip
              exfalso
              omega
          · skip
            refine cw_rd (by kernel_rfl) (by kernel_rfl) (by kernel_rfl) rfl rfl fun K41 hK41 => ?_
            -- region 13
            have hs25 := Step.drew hT.sat
            replace hd := hd.then hs25
            replace hT := hT.then hs25
            refine at_q (i := 0) (li := #[true, false, false, false, false, false, false, false, false, false, false, false, false, false, false, false]) rfl (by kernel_rfl) rfl (fun _ => (q_move rfl)) (by kernel_rfl) ?_
            refine at_q (i := 1) (li := #[true, true, false, false, false, false, false, false, false, false, false, false, false, false, false, false]) rfl (by kernel_rfl) rfl (fun _ => (q_move rfl)) (by kernel_rfl) ?_
            first | refine at_q (i := 2) (li := #[true, true, true, false, false, false, false, false, false, false, false, false, false, false, false, false]) rfl (by kernel_rfl) rfl (fun _ => (q_leT rfl rfl (by omega))) (by kernel_rfl) ?_ | refine at_q (i := 2) (li := #[true, true, true, false, false, false, false, false, false, false, false, false, false, false, false, false]) rfl (by kernel_rfl) rfl (fun _ => (q_leF rfl rfl (by omega))) (by kernel_rfl) ?_ | refine at_q (i := 2) (li := #[true, true, true, false, false, false, false, false, false, false, false, false, false, false, false, false]) rfl (by kernel_rfl) rfl (fun _ => (q_le rfl rfl)) (by kernel_rfl) ?_
            refine at_q (i := 3) (li := #[true, true, true, true, false, false, false, false, false, false, false, false, false, false, false, false]) rfl (by kernel_rfl) rfl (fun _ => (q_move rfl)) (by kernel_rfl) ?_
            first | refine at_gskip (i := 4) (li := #[true, true, true, true, true, false, false, false, false, false, false, false, false, false, false, false]) rfl (by kernel_rfl) rfl rfl rfl rfl rfl (by kernel_rfl) ?_ | refine at_gskipU (i := 4) (li := #[true, true, true, true, true, false, false, false, false, false, false, false, false, false, false, false]) rfl (by kernel_rfl) rfl rfl rfl rfl (by kernel_rfl) ?_ | refine at_gp (i := 4) (li := #[true, true, true, true, true, false, false, false, false, false, false, false, false, false, false, false]) rfl (by kernel_rfl) rfl rfl rfl rfl (fun _ => (q_move rfl)) (by kernel_rfl) ?_
            first | refine at_gskip (i := 5) (li := #[true, true, true, true, true, true, false, false, false, false, false, false, false, false, false, false]) rfl (by kernel_rfl) rfl rfl rfl rfl rfl (by kernel_rfl) ?_ | refine at_gskipU (i := 5) (li := #[true, true, true, true, true, true, false, false, false, false, false, false, false, false, false, false]) rfl (by kernel_rfl) rfl rfl rfl rfl (by kernel_rfl) ?_ | refine at_gp (i := 5) (li := #[true, true, true, true, true, true, false, false, false, false, false, false, false, false, false, false]) rfl (by kernel_rfl) rfl rfl rfl rfl (fun _ => (q_move rfl)) (by kernel_rfl) ?_
            first | refine at_gskip (i := 6) (li := #[true, true, true, true, true, true, true, false, false, false, false, false, false, false, false, false]) rfl (by kernel_rfl) rfl rfl rfl rfl rfl (by kernel_rfl) ?_ | refine at_gskipU (i := 6) (li := #[true, true, true, true, true, true, true, false, false, false, false, false, false, false, false, false]) rfl (by kernel_rfl) rfl rfl rfl rfl (by kernel_rfl) ?_ | refine at_gp (i := 6) (li := #[true, true, true, true, true, true, true, false, false, false, false, false, false, false, false, false]) rfl (by kernel_rfl) rfl rfl rfl rfl (fun _ => (q_move rfl)) (by kernel_rfl) ?_
            first | refine at_gskip (i := 7) (li := #[true, true, true, true, true, true, true, true, false, false, false, false, false, false, false, false]) rfl (by kernel_rfl) rfl rfl rfl rfl rfl (by kernel_rfl) ?_ | refine at_gskipU (i := 7) (li := #[true, true, true, true, true, true, true, true, false, false, false, false, false, false, false, false]) rfl (by kernel_rfl) rfl rfl rfl rfl (by kernel_rfl) ?_ | refine at_gp (i := 7) (li := #[true, true, true, true, true, true, true, true, false, false, false, false, false, false, false, false]) rfl (by kernel_rfl) rfl rfl rfl rfl (fun _ => (q_indexAddr (e := 23) (size := 2) (by kernel_rfl) (by kernel_rfl) rfl rfl (by omega) (by omega))) (by kernel_rfl) ?_
            first | refine at_gskip (i := 8) (li := #[true, true, true, true, true, true, true, true, true, false, false, false, false, false, false, false]) rfl (by kernel_rfl) rfl rfl rfl rfl rfl (by kernel_rfl) ?_ | refine at_gskipU (i := 8) (li := #[true, true, true, true, true, true, true, true, true, false, false, false, false, false, false, false]) rfl (by kernel_rfl) rfl rfl rfl rfl (by kernel_rfl) ?_ | refine at_gq (i := 8) (li := #[true, true, true, true, true, true, true, true, true, false, false, false, false, false, false, false]) (cellsAre _ _ 2 _) rfl (by kernel_rfl) rfl rfl rfl rfl (fun _ h => q_loadc (n := 2) (by kernel_rfl) rfl h) (hd.elem (i := ((i3 : Nat) : Int)) (by omega) (by omega)) (by kernel_rfl) ?_
            first | refine at_gskip (i := 9) (li := #[true, true, true, true, true, true, true, true, true, true, false, false, false, false, false, false]) rfl (by kernel_rfl) rfl rfl rfl rfl rfl (by kernel_rfl) ?_ | refine at_gskipU (i := 9) (li := #[true, true, true, true, true, true, true, true, true, true, false, false, false, false, false, false]) rfl (by kernel_rfl) rfl rfl rfl rfl (by kernel_rfl) ?_ | refine at_gp (i := 9) (li := #[true, true, true, true, true, true, true, true, true, true, false, false, false, false, false, false]) rfl (by kernel_rfl) rfl rfl rfl rfl (fun _ => (q_move rfl)) (by kernel_rfl) ?_
            first | refine at_gskip (i := 10) (li := #[true, true, true, true, true, true, true, true, true, true, true, false, false, false, false, false]) rfl (by kernel_rfl) rfl rfl rfl rfl rfl (by kernel_rfl) ?_ | refine at_gskipU (i := 10) (li := #[true, true, true, true, true, true, true, true, true, true, true, false, false, false, false, false]) rfl (by kernel_rfl) rfl rfl rfl rfl (by kernel_rfl) ?_ | refine at_gp (i := 10) (li := #[true, true, true, true, true, true, true, true, true, true, true, false, false, false, false, false]) rfl (by kernel_rfl) rfl rfl rfl rfl (fun _ => (q_move rfl)) (by kernel_rfl) ?_
            first | refine at_gskip (i := 11) (li := #[true, true, true, true, true, true, true, true, true, true, true, true, false, false, false, false]) rfl (by kernel_rfl) rfl rfl rfl rfl rfl (by kernel_rfl) ?_ | refine at_gskipU (i := 11) (li := #[true, true, true, true, true, true, true, true, true, true, true, true, false, false, false, false]) rfl (by kernel_rfl) rfl rfl rfl rfl (by kernel_rfl) ?_ | refine at_gp (i := 11) (li := #[true, true, true, true, true, true, true, true, true, true, true, true, false, false, false, false]) rfl (by kernel_rfl) rfl rfl rfl rfl (fun _ => (q_indexAddr (e := 23) (size := 2) (by kernel_rfl) (by kernel_rfl) rfl rfl (by omega) (by omega))) (by kernel_rfl) ?_
            first | refine at_gskip (i := 12) (li := #[true, true, true, true, true, true, true, true, true, true, true, true, true, false, false, false]) rfl (by kernel_rfl) rfl rfl rfl rfl rfl (by kernel_rfl) ?_ | refine at_gskipU (i := 12) (li := #[true, true, true, true, true, true, true, true, true, true, true, true, true, false, false, false]) rfl (by kernel_rfl) rfl rfl rfl rfl (by kernel_rfl) ?_ | refine at_gq (i := 12) (li := #[true, true, true, true, true, true, true, true, true, true, true, true, true, false, false, false]) (cellsAre _ _ 2 _) rfl (by kernel_rfl) rfl rfl rfl rfl (fun _ h => q_loadc (n := 2) (by kernel_rfl) rfl h) (hd.elem (i := ((a : Nat) : Int)) (by omega) (by omega)) (by kernel_rfl) ?_
            refine at_gh (i := 13) (li := #[true, true, true, true, true, true, true, true, true, true, true, true, true, true, false, false]) rfl (by kernel_rfl) rfl rfl rfl rfl rfl (by kernel_rfl) (h_callv (f := 16) (first := []) (cap := []) (by kernel_rfl) rfl rfl rfl ?_)
            refine (srt_compare (a := d2[((i3 : Nat) : Int).toNat]!) (b := d2[((a : Nat) : Int).toNat]!) hs25.sat).mono ?_
            rintro _ w26 ⟨rfl, hs26⟩
            replace hd := hd.then hs26
            replace hT := hT.then hs26
            refine ⟨(by repeat' first | exact trivial | exact (hd.elem (i := ((i3 : Nat) : Int)) (by omega) (by omega)) | exact (hd.elem (i := ((a : Nat) : Int)) (by omega) (by omega)) | assumption | refine all_keep ?_ | refine And.intro ?_ ?_), ?_⟩
            first | refine at_gskip (i := 14) (li := #[true, true, true, true, true, true, true, true, true, true, true, true, true, true, true, false]) rfl (by kernel_rfl) rfl rfl rfl rfl rfl (by kernel_rfl) ?_ | refine at_gskipU (i := 14) (li := #[true, true, true, true, true, true, true, true, true, true, true, true, true, true, true, false]) rfl (by kernel_rfl) rfl rfl rfl rfl (by kernel_rfl) ?_ | refine at_gp (i := 14) (li := #[true, true, true, true, true, true, true, true, true, true, true, true, true, true, true, false]) rfl (by kernel_rfl) rfl rfl rfl rfl (fun _ => (q_ltT rfl rfl (by omega))) (by kernel_rfl) ?_ | refine at_gp (i := 14) (li := #[true, true, true, true, true, true, true, true, true, true, true, true, true, true, true, false]) rfl (by kernel_rfl) rfl rfl rfl rfl (fun _ => (q_ltF rfl rfl (by omega))) (by kernel_rfl) ?_ | refine at_gp (i := 14) (li := #[true, true, true, true, true, true, true, true, true, true, true, true, true, true, true, false]) rfl (by kernel_rfl) rfl rfl rfl rfl (fun _ => (q_lt rfl rfl)) (by kernel_rfl) ?_
            first | refine at_q (i := 15) (li := #[true, true, true, true, true, true, true, true, true, true, true, true, true, true, true, true]) rfl (by kernel_rfl) rfl (fun _ => (q_pick_t rfl rfl)) (by kernel_rfl) ?_ | refine at_q (i := 15) (li := #[true, true, true, true, true, true, true, true, true, true, true, true, true, true, true, true]) rfl (by kernel_rfl) rfl (fun _ => (q_pick_f rfl rfl)) (by kernel_rfl) ?_ | refine at_q (i := 15) (li := #[true, true, true, true, true, true, true, true, true, true, true, true, true, true, true, true]) rfl (by kernel_rfl) rfl (fun _ => (q_pick rfl rfl rfl)) (by kernel_rfl) ?_
            refine at_done (by kernel_rfl) (hK41 _ _ ?_)
            clear hK41 K41
            refine cw_cond rfl (fun hc3 => ?_) (fun hc3 => ?_)
            · skip
              have hl : ltE d2[i3]! d2[a]! = true := hc3
              refine cw_skip ?_
              refine hK32 _ _ ?_
              clear hK32 K32
              refine cw_block ?_
              refine cw_region fun K42 hK42 => ?_
              -- region 14
              refine as_q rfl rfl (q_move rfl) ?_
              refine as_q rfl rfl (q_congr (q_addx rfl rfl (by omega) (by omega)) (v' := .int .i64 (i3 + 1 : Nat)) (congrArg (Value.int .i64) (by omega))) ?_
              refine as_q rfl rfl (q_assign rfl) ?_
              refine as_nil (hK42 _ _ ?_)
              clear hK42 K42
              exact ⟨_, _, by omega, (.cons rfl (.cons rfl (.cons rfl (.cons rfl (.cons rfl (.nil _)))))), i3 + 1, rfl, by omega, by omega, (su_step hcu hl).symm.trans hi3e, rfl, hT, hd⟩
            · skip
              have hl : ltE d2[i3]! d2[a]! = false := hc3
              have hsi3 : Go.Sort.scanUp (fun x => ltE x d2[a]!) d2 (j) (i) = i3 := hi3e.symm.trans (su_stop hl)
              have hti3 : i3 ≤ j → ltE d2[i3]! d2[a]! = false := fun _ => hl
              refine cw_exit ?_
              refine hK31 _ _ ?_
              clear hK32 K32
              clear hK31 K31
              refine cw_seq fun K43 hK43 => ?_
              refine cw_block ?_
              refine cw_loop (fun mm l w1 => ∃ qj : Nat, qj = mm ∧ i3 ≤ qj + 1 ∧ qj ≤ j ∧ Go.Sort.scanDown (fun x => !ltE x d2[a]!) d2 i3 qj = Go.Sort.scanDown (fun x => !ltE x d2[a]!) d2 i3 (j) ∧ l = [(0, .slice (some ⟨g, 0, none⟩) n cap), (1, .int .i64 a), (4, (.func (.func 16) #[] #[])), (12, .int .i64 (i3 : Nat)), (13, .int .i64 qj)] ∧ Step (Just g) M w M w1 ∧ ElRow 23 w1 M g n cap d2) (j) [(0, .slice (some ⟨g, 0, none⟩) n cap), (1, .int .i64 a), (4, (.func (.func 16) #[] #[])), (12, .int .i64 (i3 : Nat)), (13, .int .i64 (j : Nat))] (.cons rfl (.cons rfl (.cons rfl (.cons rfl (.cons rfl (.nil _)))))) ?_ ?_
              · skip
                exact ⟨j, rfl, by omega, Nat.le_refl _, rfl, rfl, hT, hd⟩
              clear hT hd
              rintro mm l w1 ⟨j4, rfl, hj4a, hj4b, hj4e, rfl, hT, hd⟩
              refine cw_seq fun K44 hK44 => ?_
              have hcu : j4 < i3 ∨ i3 ≤ j4 := by omega
              rcases hcu with hcu | hcu
              · skip
                refine cw_rd (by kernel_rfl) (by kernel_rfl) (by kernel_rfl) rfl rfl fun K45 hK45 => ?_
                -- region 15
                have hs27 := Step.drew hT.sat
                replace hd := hd.then hs27
                replace hT := hT.then hs27
                refine at_q (i := 0) (li := #[true, false, false, false, false, false, false, false, false, false, false, false, false, false, false, false, false]) rfl (by kernel_rfl) rfl (fun _ => (q_move rfl)) (by kernel_rfl) ?_
                refine at_q (i := 1) (li := #[true, true, false, false, false, false, false, false, false, false, false, false, false, false, false, false, false]) rfl (by kernel_rfl) rfl (fun _ => (q_move rfl)) (by kernel_rfl) ?_
                first | refine at_q (i := 2) (li := #[true, true, true, false, false, false, false, false, false, false, false, false, false, false, false, false, false]) rfl (by kernel_rfl) rfl (fun _ => (q_leT rfl rfl (by omega))) (by kernel_rfl) ?_ | refine at_q (i := 2) (li := #[true, true, true, false, false, false, false, false, false, false, false, false, false, false, false, false, false]) rfl (by kernel_rfl) rfl (fun _ => (q_leF rfl rfl (by omega))) (by kernel_rfl) ?_ | refine at_q (i := 2) (li := #[true, true, true, false, false, false, false, false, false, false, false, false, false, false, false, false, false]) rfl (by kernel_rfl) rfl (fun _ => (q_le rfl rfl)) (by kernel_rfl) ?_
                refine at_q (i := 3) (li := #[true, true, true, true, false, false, false, false, false, false, false, false, false, false, false, false, false]) rfl (by kernel_rfl) rfl (fun _ => (q_move rfl)) (by kernel_rfl) ?_
                first | refine at_gskip (i := 4) (li := #[true, true, true, true, true, false, false, false, false, false, false, false, false, false, false, false, false]) rfl (by kernel_rfl) rfl rfl rfl rfl rfl (by kernel_rfl) ?_ | refine at_gskipU (i := 4) (li := #[true, true, true, true, true, false, false, false, false, false, false, false, false, false, false, false, false]) rfl (by kernel_rfl) rfl rfl rfl rfl (by kernel_rfl) ?_ | refine at_gp (i := 4) (li := #[true, true, true, true, true, false, false, false, false, false, false, false, false, false, false, false, false]) rfl (by kernel_rfl) rfl rfl rfl rfl (fun _ => (q_move rfl)) (by kernel_rfl) ?_
                first | refine at_gskip (i := 5) (li := #[true, true, true, true, true, true, false, false, false, false, false, false, false, false, false, false, false]) rfl (by kernel_rfl) rfl rfl rfl rfl rfl (by kernel_rfl) ?_ | refine at_gskipU (i := 5) (li := #[true, true, true, true, true, true, false, false, false, false, false, false, false, false, false, false, false]) rfl (by kernel_rfl) rfl rfl rfl rfl (by kernel_rfl) ?_ | refine at_gp (i := 5) (li := #[true, true, true, true, true, true, false, false, false, false, false, false, false, false, false, false, false]) rfl (by kernel_rfl) rfl rfl rfl rfl (fun _ => (q_move rfl)) (by kernel_rfl) ?_
                first | refine at_gskip (i := 6) (li := #[true, true, true, true, true, true, true, false, false, false, false, false, false, false, false, false, false]) rfl (by kernel_rfl) rfl rfl rfl rfl rfl (by kernel_rfl) ?_ | refine at_gskipU (i := 6) (li := #[true, true, true, true, true, true, true, false, false, false, false, false, false, false, false, false, false]) rfl (by kernel_rfl) rfl rfl rfl rfl (by kernel_rfl) ?_ | refine at_gp (i := 6) (li := #[true, true, true, true, true, true, true, false, false, false, false, false, false, false, false, false, false]) rfl (by kernel_rfl) rfl rfl rfl rfl (fun _ => (q_move rfl)) (by kernel_rfl) ?_
                first | refine at_gskip (i := 7) (li := #[true, true, true, true, true, true, true, true, false, false, false, false, false, false, false, false, false]) rfl (by kernel_rfl) rfl rfl rfl rfl rfl (by kernel_rfl) ?_ | refine at_gskipU (i := 7) (li := #[true, true, true, true, true, true, true, true, false, false, false, false, false, false, false, false, false]) rfl (by kernel_rfl) rfl rfl rfl rfl (by kernel_rfl) ?_ | refine at_gp (i := 7) (li := #[true, true, true, true, true, true, true, true, false, false, false, false, false, false, false, false, false]) rfl (by kernel_rfl) rfl rfl rfl rfl (fun _ => (q_indexAddr (e := 23) (size := 2) (by kernel_rfl) (by kernel_rfl) rfl rfl (by omega) (by omega))) (by kernel_rfl) ?_
                first | refine at_gskip (i := 8) (li := #[true, true, true, true, true, true, true, true, true, false, false, false, false, false, false, false, false]) rfl (by kernel_rfl) rfl rfl rfl rfl rfl (by kernel_rfl) ?_ | refine at_gskipU (i := 8) (li := #[true, true, true, true, true, true, true, true, true, false, false, false, false, false, false, false, false]) rfl (by kernel_rfl) rfl rfl rfl rfl (by kernel_rfl) ?_ | refine at_gq (i := 8) (li := #[true, true, true, true, true, true, true, true, true, false, false, false, false, false, false, false, false]) (cellsAre _ _ 2 _) rfl (by kernel_rfl) rfl rfl rfl rfl (fun _ h => q_loadc (n := 2) (by kernel_rfl) rfl h) (hd.elem (i := ((j4 : Nat) : Int)) (by omega) (by omega)) (by kernel_rfl) ?_
                first | refine at_gskip (i := 9) (li := #[true, true, true, true, true, true, true, true, true, true, false, false, false, false, false, false, false]) rfl (by kernel_rfl) rfl rfl rfl rfl rfl (by kernel_rfl) ?_ | refine at_gskipU (i := 9) (li := #[true, true, true, true, true, true, true, true, true, true, false, false, false, false, false, false, false]) rfl (by kernel_rfl) rfl rfl rfl rfl (by kernel_rfl) ?_ | refine at_gp (i := 9) (li := #[true, true, true, true, true, true, true, true, true, true, false, false, false, false, false, false, false]) rfl (by kernel_rfl) rfl rfl rfl rfl (fun _ => (q_move rfl)) (by kernel_rfl) ?_
                first | refine at_gskip (i := 10) (li := #[true, true, true, true, true, true, true, true, true, true, true, false, false, false, false, false, false]) rfl (by kernel_rfl) rfl rfl rfl rfl rfl (by kernel_rfl) ?_ | refine at_gskipU (i := 10) (li := #[true, true, true, true, true, true, true, true, true, true, true, false, false, false, false, false, false]) rfl (by kernel_rfl) rfl rfl rfl rfl (by kernel_rfl) ?_ | refine at_gp (i := 10) (li := #[true, true, true, true, true, true, true, true, true, true, true, false, false, false, false, false, false]) rfl (by kernel_rfl) rfl rfl rfl rfl (fun _ => (q_move rfl)) (by kernel_rfl) ?_
                first | refine at_gskip (i := 11) (li := #[true, true, true, true, true, true, true, true, true, true, true, true, false, false, false, false, false]) rfl (by kernel_rfl) rfl rfl rfl rfl rfl (by kernel_rfl) ?_ | refine at_gskipU (i := 11) (li := #[true, true, true, true, true, true, true, true, true, true, true, true, false, false, false, false, false]) rfl (by kernel_rfl) rfl rfl rfl rfl (by kernel_rfl) ?_ | refine at_gp (i := 11) (li := #[true, true, true, true, true, true, true, true, true, true, true, true, false, false, false, false, false]) rfl (by kernel_rfl) rfl rfl rfl rfl (fun _ => (q_indexAddr (e := 23) (size := 2) (by kernel_rfl) (by kernel_rfl) rfl rfl (by omega) (by omega))) (by kernel_rfl) ?_
                first | refine at_gskip (i := 12) (li := #[true, true, true, true, true, true, true, true, true, true, true, true, true, false, false, false, false]) rfl (by kernel_rfl) rfl rfl rfl rfl rfl (by kernel_rfl) ?_ | refine at_gskipU (i := 12) (li := #[true, true, true, true, true, true, true, true, true, true, true, true, true, false, false, false, false]) rfl (by kernel_rfl) rfl rfl rfl rfl (by kernel_rfl) ?_ | refine at_gq (i := 12) (li := #[true, true, true, true, true, true, true, true, true, true, true, true, true, false, false, false, false]) (cellsAre _ _ 2 _) rfl (by kernel_rfl) rfl rfl rfl rfl (fun _ h => q_loadc (n := 2) (by kernel_rfl) rfl h) (hd.elem (i := ((a : Nat) : Int)) (by omega) (by omega)) (by kernel_rfl) ?_
                first | refine at_gskip (i := 13) (li := #[true, true, true, true, true, true, true, true, true, true, true, true, true, true, false, false, false]) rfl (by kernel_rfl) rfl rfl rfl rfl rfl (by kernel_rfl) ?_ | refine at_gskipU (i := 13) (li := #[true, true, true, true, true, true, true, true, true, true, true, true, true, true, false, false, false]) rfl (by kernel_rfl) rfl rfl rfl rfl (by kernel_rfl) ?_
                first | refine at_gskip (i := 14) (li := #[true, true, true, true, true, true, true, true, true, true, true, true, true, true, true, false, false]) rfl (by kernel_rfl) rfl rfl rfl rfl rfl (by kernel_rfl) ?_ | refine at_gskipU (i := 14) (li := #[true, true, true, true, true, true, true, true, true, true, true, true, true, true, true, false, false]) rfl (by kernel_rfl) rfl rfl rfl rfl (by kernel_rfl) ?_ | refine at_gp (i := 14) (li := #[true, true, true, true, true, true, true, true, true, true, true, true, true, true, true, false, false]) rfl (by kernel_rfl) rfl rfl rfl rfl (fun _ => (q_ltT rfl rfl (by omega))) (by kernel_rfl) ?_ | refine at_gp (i := 14) (li := #[true, true, true, true, true, true, true, true, true, true, true, true, true, true, true, false, false]) rfl (by kernel_rfl) rfl rfl rfl rfl (fun _ => (q_ltF rfl rfl (by omega))) (by kernel_rfl) ?_ | refine at_gp (i := 14) (li := #[true, true, true, true, true, true, true, true, true, true, true, true, true, true, true, false, false]) rfl (by kernel_rfl) rfl rfl rfl rfl (fun _ => (q_lt rfl rfl)) (by kernel_rfl) ?_
                first | refine at_gskip (i := 15) (li := #[true, true, true, true, true, true, true, true, true, true, true, true, true, true, true, true, false]) rfl (by kernel_rfl) rfl rfl rfl rfl rfl (by kernel_rfl) ?_ | refine at_gskipU (i := 15) (li := #[true, true, true, true, true, true, true, true, true, true, true, true, true, true, true, true, false]) rfl (by kernel_rfl) rfl rfl rfl rfl (by kernel_rfl) ?_ | refine at_gp (i := 15) (li := #[true, true, true, true, true, true, true, true, true, true, true, true, true, true, true, true, false]) rfl (by kernel_rfl) rfl rfl rfl rfl (fun _ => (q_not rfl)) (by kernel_rfl) ?_
                first | refine at_q (i := 16) (li := #[true, true, true, true, true, true, true, true, true, true, true, true, true, true, true, true, true]) rfl (by kernel_rfl) rfl (fun _ => (q_pick_t rfl rfl)) (by kernel_rfl) ?_ | refine at_q (i := 16) (li := #[true, true, true, true, true, true, true, true, true, true, true, true, true, true, true, true, true]) rfl (by kernel_rfl) rfl (fun _ => (q_pick_f rfl rfl)) (by kernel_rfl) ?_ | refine at_q (i := 16) (li := #[true, true, true, true, true, true, true, true, true, true, true, true, true, true, true, true, true]) rfl (by kernel_rfl) rfl (fun _ => (q_pick rfl rfl rfl)) (by kernel_rfl) ?_
                refine at_done (by kernel_rfl) (hK45 _ _ ?_)
                clear hK45 K45
                have hsj4 : Go.Sort.scanDown (fun x => !ltE x d2[a]!) d2 i3 (j) = j4 := hj4e.symm.trans (sn_out hcu)
                have htj4 : i3 ≤ j4 → (!ltE d2[j4]! d2[a]!) = false := fun h => absurd h (by omega)
                refine cw_false rfl ?_
                refine cw_exit ?_
                refine hK43 _ _ ?_
                clear hK44 K44
                clear hK43 K43
                refine cw_seq fun K46 hK46 => ?_
                refine cw_rs fun K47 hK47 => ?_
                -- region 17
                refine as_q rfl rfl (q_move rfl) ?_
                refine as_q rfl rfl (q_move rfl) ?_
                first | refine as_q rfl rfl (q_gtT rfl rfl (by omega)) ?_ | refine as_q rfl rfl (q_gtF rfl rfl (by omega)) ?_ | refine as_q rfl rfl (q_gt rfl rfl) ?_
                refine as_nil (hK47 _ _ ?_)
                clear hK47 K47
                have hgt2 : j4 < i3 := by omega
                refine cw_true rfl ?_
                refine cw_exit ?_
                refine hK30 _ _ ?_
                clear hK46 K46
                clear hK30 K30
                refine cw_rd (by kernel_rfl) (by kernel_rfl) (by kernel_rfl) rfl rfl fun K48 hK48 => ?_
                -- region 21
                have hs28 := Step.drew hs27.sat
                replace hd := hd.then hs28
                replace hT := hT.then hs28
                refine at_q (i := 0) (li := #[true, false, false, false, false, false, false, false, false, false, false, false, false, false, false, false]) rfl (by kernel_rfl) rfl (fun _ => (q_move rfl)) (by kernel_rfl) ?_
                refine at_q (i := 1) (li := #[true, true, false, false, false, false, false, false, false, false, false, false, false, false, false, false]) rfl (by kernel_rfl) rfl (fun _ => (q_move rfl)) (by kernel_rfl) ?_
                refine at_q (i := 2) (li := #[true, true, true, false, false, false, false, false, false, false, false, false, false, false, false, false]) rfl (by kernel_rfl) rfl (fun _ => (q_move rfl)) (by kernel_rfl) ?_
                refine at_q (i := 3) (li := #[true, true, true, true, false, false, false, false, false, false, false, false, false, false, false, false]) rfl (by kernel_rfl) rfl (fun _ => (q_move rfl)) (by kernel_rfl) ?_
                refine at_q (i := 4) (li := #[true, true, true, true, true, false, false, false, false, false, false, false, false, false, false, false]) rfl (by kernel_rfl) rfl (fun _ => (q_move rfl)) (by kernel_rfl) ?_
                refine at_q (i := 5) (li := #[true, true, true, true, true, true, false, false, false, false, false, false, false, false, false, false]) rfl (by kernel_rfl) rfl (fun _ => (q_move rfl)) (by kernel_rfl) ?_
                refine at_q (i := 6) (li := #[true, true, true, true, true, true, true, false, false, false, false, false, false, false, false, false]) rfl (by kernel_rfl) rfl (fun _ => (q_indexAddr (e := 23) (size := 2) (by kernel_rfl) (by kernel_rfl) rfl rfl (by omega) (by omega))) (by kernel_rfl) ?_
                refine at_l (i := 7) (li := #[true, true, true, true, true, true, true, true, false, false, false, false, false, false, false, false]) (cellsAre _ _ 2 _) rfl (by kernel_rfl) rfl (fun _ h => q_loadc (n := 2) (by kernel_rfl) rfl h) (hd.elem (i := ((a : Nat) : Int)) (by omega) (by omega)) (by kernel_rfl) ?_
                refine at_q (i := 8) (li := #[true, true, true, true, true, true, true, true, true, false, false, false, false, false, false, false]) rfl (by kernel_rfl) rfl (fun _ => (q_move rfl)) (by kernel_rfl) ?_
                refine at_q (i := 9) (li := #[true, true, true, true, true, true, true, true, true, true, false, false, false, false, false, false]) rfl (by kernel_rfl) rfl (fun _ => (q_move rfl)) (by kernel_rfl) ?_
                refine at_q (i := 10) (li := #[true, true, true, true, true, true, true, true, true, true, true, false, false, false, false, false]) rfl (by kernel_rfl) rfl (fun _ => (q_indexAddr (e := 23) (size := 2) (by kernel_rfl) (by kernel_rfl) rfl rfl (by omega) (by omega))) (by kernel_rfl) ?_
                refine at_l (i := 11) (li := #[true, true, true, true, true, true, true, true, true, true, true, true, false, false, false, false]) (cellsAre _ _ 2 _) rfl (by kernel_rfl) rfl (fun _ h => q_loadc (n := 2) (by kernel_rfl) rfl h) (hd.elem (i := ((j4 : Nat) : Int)) (by omega) (by omega)) (by kernel_rfl) ?_
                refine at_q (i := 12) (li := #[true, true, true, true, true, true, true, true, true, true, true, true, true, false, false, false]) rfl (by kernel_rfl) rfl (fun _ => (q_indexAddr (e := 23) (size := 2) (by kernel_rfl) (by kernel_rfl) rfl rfl (by omega) (by omega))) (by kernel_rfl) ?_
                refine at_h0 (i := 13) (li := #[true, true, true, true, true, true, true, true, true, true, true, true, true, true, false, false]) rfl (by kernel_rfl) (keep_sift (bs := [true, true]) (by kernel_rfl)) (by kernel_rfl) (h_storeD (i := ((j4 : Nat) : Int)) (e := d2[((a : Nat) : Int).toNat]!) hs28.sat hd rfl rfl (by kernel_rfl) (by omega) (by omega) fun w29 hs29 hd29 => ?_)
                replace hT := hT.also hs29
                clear hd; have hd := hd29; clear hd29
                refine ⟨(by repeat' first | exact trivial | exact (hd.elem (i := ((a : Nat) : Int)) (by omega) (by omega)) | exact (hd.elem (i := ((j4 : Nat) : Int)) (by omega) (by omega)) | assumption | refine all_keep ?_ | refine And.intro ?_ ?_), ?_⟩
                refine at_q (i := 14) (li := #[true, true, true, true, true, true, true, true, true, true, true, true, true, true, true, false]) rfl (by kernel_rfl) rfl (fun _ => (q_indexAddr (e := 23) (size := 2) (by kernel_rfl) (by kernel_rfl) rfl rfl (by omega) (by omega))) (by kernel_rfl) ?_
                refine at_h0 (i := 15) (li := #[true, true, true, true, true, true, true, true, true, true, true, true, true, true, true, true]) rfl (by kernel_rfl) rfl (by kernel_rfl) (h_storeD (i := ((a : Nat) : Int)) (e := d2[((j4 : Nat) : Int).toNat]!) hs29.sat hd rfl rfl (by kernel_rfl) (by omega) (by omega) fun w30 hs30 hd30 => ?_)
                replace hT := hT.also hs30
                clear hd; have hd := hd30; clear hd30
                refine ⟨(by repeat' first | exact trivial | exact (hd.elem (i := ((a : Nat) : Int)) (by omega) (by omega)) | exact (hd.elem (i := ((j4 : Nat) : Int)) (by omega) (by omega)) | assumption | refine all_keep ?_ | refine And.intro ?_ ?_), ?_⟩
                refine at_done (by kernel_rfl) (hK48 _ _ ?_)
                clear hK48 K48
                refine cw_rs fun K49 hK49 => ?_
                -- region 22
                refine as_q rfl rfl (q_move rfl) ?_
                refine as_q rfl rfl (q_assign rfl) ?_
                refine as_q rfl rfl (q_assign rfl) ?_
                refine as_nil (hK49 _ _ ?_)
                clear hK49 K49
                refine cw_ret ?_
                rw [Go.Sort.partLoop_eq, hsi3, hsj4, if_pos (by omega)] at hpl
                rw [part_go hd1 hsi1 hsj2 hgt, ← hpl]
                exact ⟨_, (res_tmp rfl (res_tmp rfl res_nil)), rfl, hT, hd⟩
              · skip
                refine cw_rd (by kernel_rfl) (by kernel_rfl) (by kernel_rfl) rfl rfl fun K50 hK50 => ?_
                -- region 15
                have hs31 := Step.drew hT.sat
                replace hd := hd.then hs31
                replace hT := hT.then hs31
                refine at_q (i := 0) (li := #[true, false, false, false, false, false, false, false, false, false, false, false, false, false, false, false, false]) rfl (by kernel_rfl) rfl (fun _ => (q_move rfl)) (by kernel_rfl) ?_
                refine at_q (i := 1) (li := #[true, true, false, false, false, false, false, false, false, false, false, false, false, false, false, false, false]) rfl (by kernel_rfl) rfl (fun _ => (q_move rfl)) (by kernel_rfl) ?_
                first | refine at_q (i := 2) (li := #[true, true, true, false, false, false, false, false, false, false, false, false, false, false, false, false, false]) rfl (by kernel_rfl) rfl (fun _ => (q_leT rfl rfl (by omega))) (by kernel_rfl) ?_ | refine at_q (i := 2) (li := #[true, true, true, false, false, false, false, false, false, false, false, false, false, false, false, false, false]) rfl (by kernel_rfl) rfl (fun _ => (q_leF rfl rfl (by omega))) (by kernel_rfl) ?_ | refine at_q (i := 2) (li := #[true, true, true, false, false, false, false, false, false, false, false, false, false, false, false, false, false]) rfl (by kernel_rfl) rfl (fun _ => (q_le rfl rfl)) (by kernel_rfl) ?_
                refine at_q (i := 3) (li := #[true, true, true, true, false, false, false, false, false, false, false, false, false, false, false, false, false]) rfl (by kernel_rfl) rfl (fun _ => (q_move rfl)) (by kernel_rfl) ?_
                first | refine at_gskip (i := 4) (li := #[true, true, true, true, true, false, false, false, false, false, false, false, false, false, false, false, false]) rfl (by kernel_rfl) rfl rfl rfl rfl rfl (by kernel_rfl) ?_ | refine at_gskipU (i := 4) (li := #[true, true, true, true, true, false, false, false, false, false, false, false, false, false, false, false, false]) rfl (by kernel_rfl) rfl rfl rfl rfl (by kernel_rfl) ?_ | refine at_gp (i := 4) (li := #[true, true, true, true, true, false, false, false, false, false, false, false, false, false, false, false, false]) rfl (by kernel_rfl) rfl rfl rfl rfl (fun _ => (q_move rfl)) (by kernel_rfl) ?_
                first | refine at_gskip (i := 5) (li := #[true, true, true, true, true, true, false, false, false, false, false, false, false, false, false, false, false]) rfl (by kernel_rfl) rfl rfl rfl rfl rfl (by kernel_rfl) ?_ | refine at_gskipU (i := 5) (li := #[true, true, true, true, true, true, false, false, false, false, false, false, false, false, false, false, false]) rfl (by kernel_rfl) rfl rfl rfl rfl (by kernel_rfl) ?_ | refine at_gp (i := 5) (li := #[true, true, true, true, true, true, false, false, false, false, false, false, false, false, false, false, false]) rfl (by kernel_rfl) rfl rfl rfl rfl (fun _ => (q_move rfl)) (by kernel_rfl) ?_
                first | refine at_gskip (i := 6) (li := #[true, true, true, true, true, true, true, false, false, false, false, false, false, false, false, false, false]) rfl (by kernel_rfl) rfl rfl rfl rfl rfl (by kernel_rfl) ?_ | refine at_gskipU (i := 6) (li := #[true, true, true, true, true, true, true, false, false, false, false, false, false, false, false, false, false]) rfl (by kernel_rfl) rfl rfl rfl rfl (by kernel_rfl) ?_ | refine at_gp (i := 6) (li := #[true, true, true, true, true, true, true, false, false, false, false, false, false, false, false, false, false]) rfl (by kernel_rfl) rfl rfl rfl rfl (fun _ => (q_move rfl)) (by kernel_rfl) ?_
                first | refine at_gskip (i := 7) (li := #[true, true, true, true, true, true, true, true, false, false, false, false, false, false, false, false, false]) rfl (by kernel_rfl) rfl rfl rfl rfl rfl (by kernel_rfl) ?_ | refine at_gskipU (i := 7) (li := #[true, true, true, true, true, true, true, true, false, false, false, false, false, false, false, false, false]) rfl (by kernel_rfl) rfl rfl rfl rfl (by kernel_rfl) ?_ | refine at_gp (i := 7) (li := #[true, true, true, true, true, true, true, true, false, false, false, false, false, false, false, false, false]) rfl (by kernel_rfl) rfl rfl rfl rfl (fun _ => (q_indexAddr (e := 23) (size := 2) (by kernel_rfl) (by kernel_rfl) rfl rfl (by omega) (by omega))) (by kernel_rfl) ?_
                first | refine at_gskip (i := 8) (li := #[true, true, true, true, true, true, true, true, true, false, false, false, false, false, false, false, false]) rfl (by kernel_rfl) rfl rfl rfl rfl rfl (by kernel_rfl) ?_ | refine at_gskipU (i := 8) (li := #[true, true, true, true, true, true, true, true, true, false, false, false, false, false, false, false, false]) rfl (by kernel_rfl) rfl rfl rfl rfl (by kernel_rfl) ?_ | refine at_gq (i := 8) (li := #[true, true, true, true, true, true, true, true, true, false, false, false, false, false, false, false, false]) (cellsAre _ _ 2 _) rfl (by kernel_rfl) rfl rfl rfl rfl (fun _ h => q_loadc (n := 2) (by kernel_rfl) rfl h) (hd.elem (i := ((j4 : Nat) : Int)) (by omega) (by omega)) (by kernel_rfl) ?_
                first | refine at_gskip (i := 9) (li := #[true, true, true, true, true, true, true, true, true, true, false, false, false, false, false, false, false]) rfl (by kernel_rfl) rfl rfl rfl rfl rfl (by kernel_rfl) ?_ | refine at_gskipU (i := 9) (li := #[true, true, true, true, true, true, true, true, true, true, false, false, false, false, false, false, false]) rfl (by kernel_rfl) rfl rfl rfl rfl (by kernel_rfl) ?_ | refine at_gp (i := 9) (li := #[true, true, true, true, true, true, true, true, true, true, false, false, false, false, false, false, false]) rfl (by kernel_rfl) rfl rfl rfl rfl (fun _ => (q_move rfl)) (by kernel_rfl) ?_
                first | refine at_gskip (i := 10) (li := #[true, true, true, true, true, true, true, true, true, true, true, false, false, false, false, false, false]) rfl (by kernel_rfl) rfl rfl rfl rfl rfl (by kernel_rfl) ?_ | refine at_gskipU (i := 10) (li := #[true, true, true, true, true, true, true, true, true, true, true, false, false, false, false, false, false]) rfl (by kernel_rfl) rfl rfl rfl rfl (by kernel_rfl) ?_ | refine at_gp (i := 10) (li := #[true, true, true, true, true, true, true, true, true, true, true, false, false, false, false, false, false]) rfl (by kernel_rfl) rfl rfl rfl rfl (fun _ => (q_move rfl)) (by kernel_rfl) ?_
                first | refine at_gskip (i := 11) (li := #[true, true, true, true, true, true, true, true, true, true, true, true, false, false, false, false, false]) rfl (by kernel_rfl) rfl rfl rfl rfl rfl (by kernel_rfl) ?_ | refine at_gskipU (i := 11) (li := #[true, true, true, true, true, true, true, true, true, true, true, true, false, false, false, false, false]) rfl (by kernel_rfl) rfl rfl rfl rfl (by kernel_rfl) ?_ | refine at_gp (i := 11) (li := #[true, true, true, true, true, true, true, true, true, true, true, true, false, false, false, false, false]) rfl (by kernel_rfl) rfl rfl rfl rfl (fun _ => (q_indexAddr (e := 23) (size := 2) (by kernel_rfl) (by kernel_rfl) rfl rfl (by omega) (by omega))) (by kernel_rfl) ?_
                first | refine at_gskip (i := 12) (li := #[true, true, true, true, true, true, true, true, true, true, true, true, true, false, false, false, false]) rfl (by kernel_rfl) rfl rfl rfl rfl rfl (by kernel_rfl) ?_ | refine at_gskipU (i := 12) (li := #[true, true, true, true, true, true, true, true, true, true, true, true, true, false, false, false, false]) rfl (by kernel_rfl) rfl rfl rfl rfl (by kernel_rfl) ?_ | refine at_gq (i := 12) (li := #[true, true, true, true, true, true, true, true, true, true, true, true, true, false, false, false, false]) (cellsAre _ _ 2 _) rfl (by kernel_rfl) rfl rfl rfl rfl (fun _ h => q_loadc (n := 2) (by kernel_rfl) rfl h) (hd.elem (i := ((a : Nat) : Int)) (by omega) (by omega)) (by kernel_rfl) ?_
                refine at_gh (i := 13) (li := #[true, true, true, true, true, true, true, true, true, true, true, true, true, true, false, false, false]) rfl (by kernel_rfl) rfl rfl rfl rfl rfl (by kernel_rfl) (h_callv (f := 16) (first := []) (cap := []) (by kernel_rfl) rfl rfl rfl ?_)
                refine (srt_compare (a := d2[((j4 : Nat) : Int).toNat]!) (b := d2[((a : Nat) : Int).toNat]!) hs31.sat).mono ?_
                rintro _ w32 ⟨rfl, hs32⟩
                replace hd := hd.then hs32
                replace hT := hT.then hs32
                refine ⟨(by repeat' first | exact trivial | exact (hd.elem (i := ((j4 : Nat) : Int)) (by omega) (by omega)) | exact (hd.elem (i := ((a : Nat) : Int)) (by omega) (by omega)) | assumption | refine all_keep ?_ | refine And.intro ?_ ?_), ?_⟩
                first | refine at_gskip (i := 14) (li := #[true, true, true, true, true, true, true, true, true, true, true, true, true, true, true, false, false]) rfl (by kernel_rfl) rfl rfl rfl rfl rfl (by kernel_rfl) ?_ | refine at_gskipU (i := 14) (li := #[true, true, true, true, true, true, true, true, true, true, true, true, true, true, true, false, false]) rfl (by kernel_rfl) rfl rfl rfl rfl (by kernel_rfl) ?_ | refine at_gp (i := 14) (li := #[true, true, true, true, true, true, true, true, true, true, true, true, true, true, true, false, false]) rfl (by kernel_rfl) rfl rfl rfl rfl (fun _ => (q_ltT rfl rfl (by omega))) (by kernel_rfl) ?_ | refine at_gp (i := 14) (li := #[true, true, true, true, true, true, true, true, true, true, true, true, true, true, true, false, false]) rfl (by kernel_rfl) rfl rfl rfl rfl (fun _ => (q_ltF rfl rfl (by omega))) (by kernel_rfl) ?_ | refine at_gp (i := 14) (li := #[true, true, true, true, true, true, true, true, true, true, true, true, true, true, true, false, false]) rfl (by kernel_rfl) rfl rfl rfl rfl (fun _ => (q_lt rfl rfl)) (by kernel_rfl) ?_
                first | refine at_gskip (i := 15) (li := #[true, true, true, true, true, true, true, true, true, true, true, true, true, true, true, true, false]) rfl (by kernel_rfl) rfl rfl rfl rfl rfl (by kernel_rfl) ?_ | refine at_gskipU (i := 15) (li := #[true, true, true, true, true, true, true, true, true, true, true, true, true, true, true, true, false]) rfl (by kernel_rfl) rfl rfl rfl rfl (by kernel_rfl) ?_ | refine at_gp (i := 15) (li := #[true, true, true, true, true, true, true, true, true, true, true, true, true, true, true, true, false]) rfl (by kernel_rfl) rfl rfl rfl rfl (fun _ => (q_not rfl)) (by kernel_rfl) ?_
                first | refine at_q (i := 16) (li := #[true, true, true, true, true, true, true, true, true, true, true, true, true, true, true, true, true]) rfl (by kernel_rfl) rfl (fun _ => (q_pick_t rfl rfl)) (by kernel_rfl) ?_ | refine at_q (i := 16) (li := #[true, true, true, true, true, true, true, true, true, true, true, true, true, true, true, true, true]) rfl (by kernel_rfl) rfl (fun _ => (q_pick_f rfl rfl)) (by kernel_rfl) ?_ | refine at_q (i := 16) (li := #[true, true, true, true, true, true, true, true, true, true, true, true, true, true, true, true, true]) rfl (by kernel_rfl) rfl (fun _ => (q_pick rfl rfl rfl)) (by kernel_rfl) ?_
                refine at_done (by kernel_rfl) (hK50 _ _ ?_)
                clear hK50 K50
                refine cw_cond rfl (fun hc4 => ?_) (fun hc4 => ?_)
                · skip
                  have hl : (!ltE d2[j4]! d2[a]!) = true := hc4
                  refine cw_skip ?_
                  refine hK44 _ _ ?_
                  clear hK44 K44
                  refine cw_block ?_
                  refine cw_region fun K51 hK51 => ?_
                  -- region 16
                  refine as_q rfl rfl (q_move rfl) ?_
                  refine as_q rfl rfl (q_congr (q_subx rfl rfl (by omega) (by omega)) (v' := .int .i64 (j4 - 1 : Nat)) (congrArg (Value.int .i64) (by omega))) ?_
                  refine as_q rfl rfl (q_assign rfl) ?_
                  refine as_nil (hK51 _ _ ?_)
                  clear hK51 K51
                  exact ⟨_, _, by omega, (.cons rfl (.cons rfl (.cons rfl (.cons rfl (.cons rfl (.nil _)))))), j4 - 1, rfl, by omega, by omega, (sn_step (by omega) hcu hl).symm.trans hj4e, rfl, hT, hd⟩
                · skip
                  have hl : (!ltE d2[j4]! d2[a]!) = false := hc4
                  have hsj4 : Go.Sort.scanDown (fun x => !ltE x d2[a]!) d2 i3 (j) = j4 := hj4e.symm.trans (sn_stop hl)
                  have htj4 : i3 ≤ j4 → (!ltE d2[j4]! d2[a]!) = false := fun _ => hl
                  refine cw_exit ?_
                  refine hK43 _ _ ?_
                  clear hK44 K44
                  clear hK43 K43
                  refine cw_seq fun K52 hK52 => ?_
                  refine cw_rs fun K53 hK53 => ?_
                  -- region 17
                  refine as_q rfl rfl (q_move rfl) ?_
                  refine as_q rfl rfl (q_move rfl) ?_
                  first | refine as_q rfl rfl (q_gtT rfl rfl (by omega)) ?_ | refine as_q rfl rfl (q_gtF rfl rfl (by omega)) ?_ | refine as_q rfl rfl (q_gt rfl rfl) ?_
                  refine as_nil (hK53 _ _ ?_)
                  clear hK53 K53
                  have hgt2 : ¬ j4 < i3 := by omega
                  have hlt34 : i3 < j4 := by
                    rcases Nat.lt_or_ge i3 j4 with h | h
                    · exact h
                    · have he : i3 = j4 := by omega
                      have h1 := hti3 (by omega)
                      have h2 := htj4 (by omega)
                      rw [he] at h1
                      rw [h1] at h2
                      cases h2
                  refine cw_false rfl ?_
                  refine cw_skip ?_
                  refine hK52 _ _ ?_
                  clear hK52 K52
                  refine cw_rd (by kernel_rfl) (by kernel_rfl) (by kernel_rfl) rfl rfl fun K54 hK54 => ?_
                  -- region 18
                  have hs33 := Step.drew hs32.sat
                  replace hd := hd.then hs33
                  replace hT := hT.then hs33
                  refine at_q (i := 0) (li := #[true, false, false, false, false, false, false, false, false, false, false, false, false, false, false, false]) rfl (by kernel_rfl) rfl (fun _ => (q_move rfl)) (by kernel_rfl) ?_
                  refine at_q (i := 1) (li := #[true, true, false, false, false, false, false, false, false, false, false, false, false, false, false, false]) rfl (by kernel_rfl) rfl (fun _ => (q_move rfl)) (by kernel_rfl) ?_
                  refine at_q (i := 2) (li := #[true, true, true, false, false, false, false, false, false, false, false, false, false, false, false, false]) rfl (by kernel_rfl) rfl (fun _ => (q_move rfl)) (by kernel_rfl) ?_
                  refine at_q (i := 3) (li := #[true, true, true, true, false, false, false, false, false, false, false, false, false, false, false, false]) rfl (by kernel_rfl) rfl (fun _ => (q_move rfl)) (by kernel_rfl) ?_
                  refine at_q (i := 4) (li := #[true, true, true, true, true, false, false, false, false, false, false, false, false, false, false, false]) rfl (by kernel_rfl) rfl (fun _ => (q_move rfl)) (by kernel_rfl) ?_
                  refine at_q (i := 5) (li := #[true, true, true, true, true, true, false, false, false, false, false, false, false, false, false, false]) rfl (by kernel_rfl) rfl (fun _ => (q_move rfl)) (by kernel_rfl) ?_
                  refine at_q (i := 6) (li := #[true, true, true, true, true, true, true, false, false, false, false, false, false, false, false, false]) rfl (by kernel_rfl) rfl (fun _ => (q_indexAddr (e := 23) (size := 2) (by kernel_rfl) (by kernel_rfl) rfl rfl (by omega) (by omega))) (by kernel_rfl) ?_
                  refine at_l (i := 7) (li := #[true, true, true, true, true, true, true, true, false, false, false, false, false, false, false, false]) (cellsAre _ _ 2 _) rfl (by kernel_rfl) rfl (fun _ h => q_loadc (n := 2) (by kernel_rfl) rfl h) (hd.elem (i := ((j4 : Nat) : Int)) (by omega) (by omega)) (by kernel_rfl) ?_
                  refine at_q (i := 8) (li := #[true, true, true, true, true, true, true, true, true, false, false, false, false, false, false, false]) rfl (by kernel_rfl) rfl (fun _ => (q_move rfl)) (by kernel_rfl) ?_
                  refine at_q (i := 9) (li := #[true, true, true, true, true, true, true, true, true, true, false, false, false, false, false, false]) rfl (by kernel_rfl) rfl (fun _ => (q_move rfl)) (by kernel_rfl) ?_
                  refine at_q (i := 10) (li := #[true, true, true, true, true, true, true, true, true, true, true, false, false, false, false, false]) rfl (by kernel_rfl) rfl (fun _ => (q_indexAddr (e := 23) (size := 2) (by kernel_rfl) (by kernel_rfl) rfl rfl (by omega) (by omega))) (by kernel_rfl) ?_
                  refine at_l (i := 11) (li := #[true, true, true, true, true, true, true, true, true, true, true, true, false, false, false, false]) (cellsAre _ _ 2 _) rfl (by kernel_rfl) rfl (fun _ h => q_loadc (n := 2) (by kernel_rfl) rfl h) (hd.elem (i := ((i3 : Nat) : Int)) (by omega) (by omega)) (by kernel_rfl) ?_
                  refine at_q (i := 12) (li := #[true, true, true, true, true, true, true, true, true, true, true, true, true, false, false, false]) rfl (by kernel_rfl) rfl (fun _ => (q_indexAddr (e := 23) (size := 2) (by kernel_rfl) (by kernel_rfl) rfl rfl (by omega) (by omega))) (by kernel_rfl) ?_
                  refine at_h0 (i := 13) (li := #[true, true, true, true, true, true, true, true, true, true, true, true, true, true, false, false]) rfl (by kernel_rfl) (keep_sift (bs := [true, true]) (by kernel_rfl)) (by kernel_rfl) (h_storeD (i := ((i3 : Nat) : Int)) (e := d2[((j4 : Nat) : Int).toNat]!) hs33.sat hd rfl rfl (by kernel_rfl) (by omega) (by omega) fun w34 hs34 hd34 => ?_)
                  replace hT := hT.also hs34
                  clear hd; have hd := hd34; clear hd34
                  refine ⟨(by repeat' first | exact trivial | exact (hd.elem (i := ((j4 : Nat) : Int)) (by omega) (by omega)) | exact (hd.elem (i := ((i3 : Nat) : Int)) (by omega) (by omega)) | assumption | refine all_keep ?_ | refine And.intro ?_ ?_), ?_⟩
                  refine at_q (i := 14) (li := #[true, true, true, true, true, true, true, true, true, true, true, true, true, true, true, false]) rfl (by kernel_rfl) rfl (fun _ => (q_indexAddr (e := 23) (size := 2) (by kernel_rfl) (by kernel_rfl) rfl rfl (by omega) (by omega))) (by kernel_rfl) ?_
                  refine at_h0 (i := 15) (li := #[true, true, true, true, true, true, true, true, true, true, true, true, true, true, true, true]) rfl (by kernel_rfl) rfl (by kernel_rfl) (h_storeD (i := ((j4 : Nat) : Int)) (e := d2[((i3 : Nat) : Int).toNat]!) hs34.sat hd rfl rfl (by kernel_rfl) (by omega) (by omega) fun w35 hs35 hd35 => ?_)
                  replace hT := hT.also hs35
                  clear hd; have hd := hd35; clear hd35
                  refine ⟨(by repeat' first | exact trivial | exact (hd.elem (i := ((j4 : Nat) : Int)) (by omega) (by omega)) | exact (hd.elem (i := ((i3 : Nat) : Int)) (by omega) (by omega)) | assumption | refine all_keep ?_ | refine And.intro ?_ ?_), ?_⟩
                  refine at_done (by kernel_rfl) (hK54 _ _ ?_)
                  clear hK54 K54
                  refine cw_rs fun K55 hK55 => ?_
                  -- region 19
                  refine as_q rfl rfl (q_move rfl) ?_
                  refine as_q rfl rfl (q_congr (q_addx rfl rfl (by omega) (by omega)) (v' := .int .i64 (i3 + 1 : Nat)) (congrArg (Value.int .i64) (by omega))) ?_
                  refine as_q rfl rfl (q_assign rfl) ?_
                  refine as_nil (hK55 _ _ ?_)
                  clear hK55 K55
                  refine cw_region fun K56 hK56 => ?_
                  -- region 20
                  refine as_q rfl rfl (q_move rfl) ?_
                  refine as_q rfl rfl (q_congr (q_subx rfl rfl (by omega) (by omega)) (v' := .int .i64 (j4 - 1 : Nat)) (congrArg (Value.int .i64) (by omega))) ?_
                  refine as_q rfl rfl (q_assign rfl) ?_
                  refine as_nil (hK56 _ _ ?_)
                  clear hK56 K56
                  refine ⟨_, _, ?_, (.cons rfl (.cons rfl (.cons rfl (.cons rfl (.cons rfl (.nil _)))))), i3 + 1, j4 - 1, Go.Sort.swp d2 i3 j4, rfl, ?_, by omega, by omega, by omega, rfl, hT, hd⟩
                  · omega
                  · rw [← hpl]
                    conv => rhs; rw [Go.Sort.partLoop_eq, hsi3, hsj4, if_neg (by omega)]

set_option maxHeartbeats 2000000 in
theorem srt_partEq {w : World} {M : Mem} {g n cap : Nat} {d : Array El} {a b p : Nat} (hs : Sat M w) (hn : n ≤ 100000) (hd : ElRow 23 w M g n cap d) (_hap : a ≤ p) (hpb : p < b) (hab : a + 1 < b) (hb : b ≤ n) :
    Does Tryd.prog 47 #[.slice (some ⟨g, 0, none⟩) n cap, .int .i64 a, .int .i64 b, .int .i64 p, (.func (.func 16) #[] #[])] w (fun v w' => v = .int .i64 (Go.Sort.partitionEqual ltE d a b p).1 ∧ Step (Just g) M w M w' ∧ ElRow 23 w' M g n cap (Go.Sort.partitionEqual ltE d a b p).2) := by
  have hT := Step.refl (Just g) hs
  have hsz := hd.size
  refine fn_enter Tryd.func47 rfl (rs := [.tmp 10]) rfl rfl rfl rfl ?_
  refine cw_rs fun K1 hK1 => ?_
  -- region 0
  refine as_q rfl rfl (q_assign rfl) ?_
  refine as_nil (hK1 _ _ ?_)
  clear hK1 K1
  refine cw_rd (by kernel_rfl) (by kernel_rfl) (by kernel_rfl) rfl rfl fun K2 hK2 => ?_
  -- region 1
  have hs1 := Step.drew hs
  replace hd := hd.then hs1
  replace hT := hT.then hs1
  refine at_q (i := 0) (li := #[true, false, false, false, false, false, false, false, false, false, false, false, false, false, false, false]) rfl (by kernel_rfl) rfl (fun _ => (q_move rfl)) (by kernel_rfl) ?_
  refine at_q (i := 1) (li := #[true, true, false, false, false, false, false, false, false, false, false, false, false, false, false, false]) rfl (by kernel_rfl) rfl (fun _ => (q_move rfl)) (by kernel_rfl) ?_
  refine at_q (i := 2) (li := #[true, true, true, false, false, false, false, false, false, false, false, false, false, false, false, false]) rfl (by kernel_rfl) rfl (fun _ => (q_move rfl)) (by kernel_rfl) ?_
  refine at_q (i := 3) (li := #[true, true, true, true, false, false, false, false, false, false, false, false, false, false, false, false]) rfl (by kernel_rfl) rfl (fun _ => (q_move rfl)) (by kernel_rfl) ?_
  refine at_q (i := 4) (li := #[true, true, true, true, true, false, false, false, false, false, false, false, false, false, false, false]) rfl (by kernel_rfl) rfl (fun _ => (q_move rfl)) (by kernel_rfl) ?_
  refine at_q (i := 5) (li := #[true, true, true, true, true, true, false, false, false, false, false, false, false, false, false, false]) rfl (by kernel_rfl) rfl (fun _ => (q_move rfl)) (by kernel_rfl) ?_
  refine at_q (i := 6) (li := #[true, true, true, true, true, true, true, false, false, false, false, false, false, false, false, false]) rfl (by kernel_rfl) rfl (fun _ => (q_indexAddr (e := 23) (size := 2) (by kernel_rfl) (by kernel_rfl) rfl rfl (by omega) (by omega))) (by kernel_rfl) ?_
  refine at_l (i := 7) (li := #[true, true, true, true, true, true, true, true, false, false, false, false, false, false, false, false]) (cellsAre _ _ 2 _) rfl (by kernel_rfl) rfl (fun _ h => q_loadc (n := 2) (by kernel_rfl) rfl h) (hd.elem (i := ((p : Nat) : Int)) (by omega) (by omega)) (by kernel_rfl) ?_
  refine at_q (i := 8) (li := #[true, true, true, true, true, true, true, true, true, false, false, false, false, false, false, false]) rfl (by kernel_rfl) rfl (fun _ => (q_move rfl)) (by kernel_rfl) ?_
  refine at_q (i := 9) (li := #[true, true, true, true, true, true, true, true, true, true, false, false, false, false, false, false]) rfl (by kernel_rfl) rfl (fun _ => (q_move rfl)) (by kernel_rfl) ?_
  refine at_q (i := 10) (li := #[true, true, true, true, true, true, true, true, true, true, true, false, false, false, false, false]) rfl (by kernel_rfl) rfl (fun _ => (q_indexAddr (e := 23) (size := 2) (by kernel_rfl) (by kernel_rfl) rfl rfl (by omega) (by omega))) (by kernel_rfl) ?_
  refine at_l (i := 11) (li := #[true, true, true, true, true, true, true, true, true, true, true, true, false, false, false, false]) (cellsAre _ _ 2 _) rfl (by kernel_rfl) rfl (fun _ h => q_loadc (n := 2) (by kernel_rfl) rfl h) (hd.elem (i := ((a : Nat) : Int)) (by omega) (by omega)) (by kernel_rfl) ?_
  refine at_q (i := 12) (li := #[true, true, true, true, true, true, true, true, true, true, true, true, true, false, false, false]) rfl (by kernel_rfl) rfl (fun _ => (q_indexAddr (e := 23) (size := 2) (by kernel_rfl) (by kernel_rfl) rfl rfl (by omega) (by omega))) (by kernel_rfl) ?_
  refine at_h0 (i := 13) (li := #[true, true, true, true, true, true, true, true, true, true, true, true, true, true, false, false]) rfl (by kernel_rfl) (keep_sift (bs := [true, true]) (by kernel_rfl)) (by kernel_rfl) (h_storeD (i := ((a : Nat) : Int)) (e := d[((p : Nat) : Int).toNat]!) hs1.sat hd rfl rfl (by kernel_rfl) (by omega) (by omega) fun w2 hs2 hd2 => ?_)
  replace hT := hT.also hs2
  clear hd; have hd := hd2; clear hd2
  refine ⟨(by repeat' first | exact trivial | exact (hd.elem (i := ((p : Nat) : Int)) (by omega) (by omega)) | exact (hd.elem (i := ((a : Nat) : Int)) (by omega) (by omega)) | assumption | refine all_keep ?_ | refine And.intro ?_ ?_), ?_⟩
  refine at_q (i := 14) (li := #[true, true, true, true, true, true, true, true, true, true, true, true, true, true, true, false]) rfl (by kernel_rfl) rfl (fun _ => (q_indexAddr (e := 23) (size := 2) (by kernel_rfl) (by kernel_rfl) rfl rfl (by omega) (by omega))) (by kernel_rfl) ?_
  refine at_h0 (i := 15) (li := #[true, true, true, true, true, true, true, true, true, true, true, true, true, true, true, true]) rfl (by kernel_rfl) rfl (by kernel_rfl) (h_storeD (i := ((p : Nat) : Int)) (e := d[((a : Nat) : Int).toNat]!) hs2.sat hd rfl rfl (by kernel_rfl) (by omega) (by omega) fun w3 hs3 hd3 => ?_)
  replace hT := hT.also hs3
  clear hd; have hd := hd3; clear hd3
  refine ⟨(by repeat' first | exact trivial | exact (hd.elem (i := ((p : Nat) : Int)) (by omega) (by omega)) | exact (hd.elem (i := ((a : Nat) : Int)) (by omega) (by omega)) | assumption | refine all_keep ?_ | refine And.intro ?_ ?_), ?_⟩
  refine at_done (by kernel_rfl) (hK2 _ _ ?_)
  clear hK2 K2
  refine cw_rs fun K3 hK3 => ?_
  -- region 2
  refine as_q rfl rfl (q_move rfl) ?_
  refine as_q rfl rfl (q_congr (q_addx rfl rfl (by omega) (by omega)) (v' := .int .i64 (a + 1 : Nat)) (congrArg (Value.int .i64) (by omega))) ?_
  refine as_q rfl rfl (q_move rfl) ?_
  refine as_q rfl rfl (q_congr (q_subx rfl rfl (by omega) (by omega)) (v' := .int .i64 (b - 1 : Nat)) (congrArg (Value.int .i64) (by omega))) ?_
  refine as_q rfl rfl (q_assign rfl) ?_
  refine as_q rfl rfl (q_assign rfl) ?_
  refine as_nil (hK3 _ _ ?_)
  clear hK3 K3
  refine cw_seq fun K4 hK4 => ?_
  refine cw_block ?_
  refine cw_loop (fun mm l w1 => ∃ (i j : Nat) (d2 : Array El), mm = j + 1 - i ∧ Go.Sort.partEqLoop ltE a i j d2 = Go.Sort.partitionEqual ltE d a b p ∧ a < i ∧ i ≤ j + 1 ∧ j < b ∧ l = [(0, .slice (some ⟨g, 0, none⟩) n cap), (1, .int .i64 a), (4, (.func (.func 16) #[] #[])), (11, .int .i64 i), (12, .int .i64 j)] ∧ Step (Just g) M w M w1 ∧ ElRow 23 w1 M g n cap d2) (b - 1 + 1 - (a + 1)) [(0, .slice (some ⟨g, 0, none⟩) n cap), (1, .int .i64 a), (4, (.func (.func 16) #[] #[])), (11, .int .i64 (a + 1 : Nat)), (12, .int .i64 (b - 1 : Nat))] (.cons rfl (.cons rfl (.cons rfl (.cons rfl (.cons rfl (.nil _)))))) ?_ ?_
  · skip
    exact ⟨a + 1, b - 1, Go.Sort.swp d a p, rfl, rfl, by omega, by omega, by omega, rfl, hT, hd⟩
  clear hT hd
  rintro mm l w1 ⟨i, j, d2, rfl, hpl, hai, hij, hjb, rfl, hT, hd⟩
  refine cw_block ?_
  refine cw_seq fun K5 hK5 => ?_
  refine cw_block ?_
  refine cw_loop (fun mm l w1 => ∃ qi : Nat, mm = j + 1 - qi ∧ i ≤ qi ∧ qi ≤ j + 1 ∧ Go.Sort.scanUp (fun x => !ltE d2[a]! x) d2 (j) qi = Go.Sort.scanUp (fun x => !ltE d2[a]! x) d2 (j) (i) ∧ l = [(0, .slice (some ⟨g, 0, none⟩) n cap), (1, .int .i64 a), (4, (.func (.func 16) #[] #[])), (11, .int .i64 qi), (12, .int .i64 (j : Nat))] ∧ Step (Just g) M w M w1 ∧ ElRow 23 w1 M g n cap d2) (j + 1 - (i)) [(0, .slice (some ⟨g, 0, none⟩) n cap), (1, .int .i64 a), (4, (.func (.func 16) #[] #[])), (11, .int .i64 (i : Nat)), (12, .int .i64 (j : Nat))] (.cons rfl (.cons rfl (.cons rfl (.cons rfl (.cons rfl (.nil _)))))) ?_ ?_
  · skip
    exact ⟨i, rfl, Nat.le_refl _, by omega, rfl, rfl, hT, hd⟩
  clear hT hd
  rintro mm l w1 ⟨i3, rfl, hi3a, hi3b, hi3e, rfl, hT, hd⟩
  refine cw_seq fun K6 hK6 => ?_
  have hcu : j < i3 ∨ i3 ≤ j := by omega
  rcases hcu with hcu | hcu
  · skip
    refine cw_rd (by kernel_rfl) (by kernel_rfl) (by kernel_rfl) rfl rfl fun K7 hK7 => ?_
    -- region 3
    have hs4 := Step.drew hT.sat
    replace hd := hd.then hs4
    replace hT := hT.then hs4
    refine at_q (i := 0) (li := #[true, false, false, false, false, false, false, false, false, false, false, false, false, false, false, false, false]) rfl (by kernel_rfl) rfl (fun _ => (q_move rfl)) (by kernel_rfl) ?_
    refine at_q (i := 1) (li := #[true, true, false, false, false, false, false, false, false, false, false, false, false, false, false, false, false]) rfl (by kernel_rfl) rfl (fun _ => (q_move rfl)) (by kernel_rfl) ?_
    first | refine at_q (i := 2) (li := #[true, true, true, false, false, false, false, false, false, false, false, false, false, false, false, false, false]) rfl (by kernel_rfl) rfl (fun _ => (q_leT rfl rfl (by omega))) (by kernel_rfl) ?_ | refine at_q (i := 2) (li := #[true, true, true, false, false, false, false, false, false, false, false, false, false, false, false, false, false]) rfl (by kernel_rfl) rfl (fun _ => (q_leF rfl rfl (by omega))) (by kernel_rfl) ?_ | refine at_q (i := 2) (li := #[true, true, true, false, false, false, false, false, false, false, false, false, false, false, false, false, false]) rfl (by kernel_rfl) rfl (fun _ => (q_le rfl rfl)) (by kernel_rfl) ?_
    refine at_q (i := 3) (li := #[true, true, true, true, false, false, false, false, false, false, false, false, false, false, false, false, false]) rfl (by kernel_rfl) rfl (fun _ => (q_move rfl)) (by kernel_rfl) ?_
    first | refine at_gskip (i := 4) (li := #[true, true, true, true, true, false, false, false, false, false, false, false, false, false, false, false, false]) rfl (by kernel_rfl) rfl rfl rfl rfl rfl (by kernel_rfl) ?_ | refine at_gskipU (i := 4) (li := #[true, true, true, true, true, false, false, false, false, false, false, false, false, false, false, false, false]) rfl (by kernel_rfl) rfl rfl rfl rfl (by kernel_rfl) ?_ | refine at_gp (i := 4) (li := #[true, true, true, true, true, false, false, false, false, false, false, false, false, false, false, false, false]) rfl (by kernel_rfl) rfl rfl rfl rfl (fun _ => (q_move rfl)) (by kernel_rfl) ?_
    first | refine at_gskip (i := 5) (li := #[true, true, true, true, true, true, false, false, false, false, false, false, false, false, false, false, false]) rfl (by kernel_rfl) rfl rfl rfl rfl rfl (by kernel_rfl) ?_ | refine at_gskipU (i := 5) (li := #[true, true, true, true, true, true, false, false, false, false, false, false, false, false, false, false, false]) rfl (by kernel_rfl) rfl rfl rfl rfl (by kernel_rfl) ?_ | refine at_gp (i := 5) (li := #[true, true, true, true, true, true, false, false, false, false, false, false, false, false, false, false, false]) rfl (by kernel_rfl) rfl rfl rfl rfl (fun _ => (q_move rfl)) (by kernel_rfl) ?_
    first | refine at_gskip (i := 6) (li := #[true, true, true, true, true, true, true, false, false, false, false, false, false, false, false, false, false]) rfl (by kernel_rfl) rfl rfl rfl rfl rfl (by kernel_rfl) ?_ | refine at_gskipU (i := 6) (li := #[true, true, true, true, true, true, true, false, false, false, false, false, false, false, false, false, false]) rfl (by kernel_rfl) rfl rfl rfl rfl (by kernel_rfl) ?_ | refine at_gp (i := 6) (li := #[true, true, true, true, true, true, true, false, false, false, false, false, false, false, false, false, false]) rfl (by kernel_rfl) rfl rfl rfl rfl (fun _ => (q_move rfl)) (by kernel_rfl) ?_
    first | refine at_gskip (i := 7) (li := #[true, true, true, true, true, true, true, true, false, false, false, false, false, false, false, false, false]) rfl (by kernel_rfl) rfl rfl rfl rfl rfl (by kernel_rfl) ?_ | refine at_gskipU (i := 7) (li := #[true, true, true, true, true, true, true, true, false, false, false, false, false, false, false, false, false]) rfl (by kernel_rfl) rfl rfl rfl rfl (by kernel_rfl) ?_ | refine at_gp (i := 7) (li := #[true, true, true, true, true, true, true, true, false, false, false, false, false, false, false, false, false]) rfl (by kernel_rfl) rfl rfl rfl rfl (fun _ => (q_indexAddr (e := 23) (size := 2) (by kernel_rfl) (by kernel_rfl) rfl rfl (by omega) (by omega))) (by kernel_rfl) ?_
    first | refine at_gskip (i := 8) (li := #[true, true, true, true, true, true, true, true, true, false, false, false, false, false, false, false, false]) rfl (by kernel_rfl) rfl rfl rfl rfl rfl (by kernel_rfl) ?_ | refine at_gskipU (i := 8) (li := #[true, true, true, true, true, true, true, true, true, false, false, false, false, false, false, false, false]) rfl (by kernel_rfl) rfl rfl rfl rfl (by kernel_rfl) ?_ | refine at_gq (i := 8) (li := #[true, true, true, true, true, true, true, true, true, false, false, false, false, false, false, false, false]) (cellsAre _ _ 2 _) rfl (by kernel_rfl) rfl rfl rfl rfl (fun _ h => q_loadc (n := 2) (by kernel_rfl) rfl h) (hd.elem (i := ((a : Nat) : Int)) (by omega) (by omega)) (by kernel_rfl) ?_
    first | refine at_gskip (i := 9) (li := #[true, true, true, true, true, true, true, true, true, true, false, false, false, false, false, false, false]) rfl (by kernel_rfl) rfl rfl rfl rfl rfl (by kernel_rfl) ?_ | refine at_gskipU (i := 9) (li := #[true, true, true, true, true, true, true, true, true, true, false, false, false, false, false, false, false]) rfl (by kernel_rfl) rfl rfl rfl rfl (by kernel_rfl) ?_ | refine at_gp (i := 9) (li := #[true, true, true, true, true, true, true, true, true, true, false, false, false, false, false, false, false]) rfl (by kernel_rfl) rfl rfl rfl rfl (fun _ => (q_move rfl)) (by kernel_rfl) ?_
    first | refine at_gskip (i := 10) (li := #[true, true, true, true, true, true, true, true, true, true, true, false, false, false, false, false, false]) rfl (by kernel_rfl) rfl rfl rfl rfl rfl (by kernel_rfl) ?_ | refine at_gskipU (i := 10) (li := #[true, true, true, true, true, true, true, true, true, true, true, false, false, false, false, false, false]) rfl (by kernel_rfl) rfl rfl rfl rfl (by kernel_rfl) ?_ | refine at_gp (i := 10) (li := #[true, true, true, true, true, true, true, true, true, true, true, false, false, false, false, false, false]) rfl (by kernel_rfl) rfl rfl rfl rfl (fun _ => (q_move rfl)) (by kernel_rfl) ?_
    first | refine at_gskip (i := 11) (li := #[true, true, true, true, true, true, true, true, true, true, true, true, false, false, false, false, false]) rfl (by kernel_rfl) rfl rfl rfl rfl rfl (by kernel_rfl) ?_ | refine at_gskipU (i := 11) (li := #[true, true, true, true, true, true, true, true, true, true, true, true, false, false, false, false, false]) rfl (by kernel_rfl) rfl rfl rfl rfl (by kernel_rfl) ?_ | refine at_gp (i := 11) (li := #[true, true, true, true, true, true, true, true, true, true, true, true, false, false, false, false, false]) rfl (by kernel_rfl) rfl rfl rfl rfl (fun _ => (q_indexAddr (e := 23) (size := 2) (by kernel_rfl) (by kernel_rfl) rfl rfl (by omega) (by omega))) (by kernel_rfl) ?_
    first | refine at_gskip (i := 12) (li := #[true, true, true, true, true, true, true, true, true, true, true, true, true, false, false, false, false]) rfl (by kernel_rfl) rfl rfl rfl rfl rfl (by kernel_rfl) ?_ | refine at_gskipU (i := 12) (li := #[true, true, true, true, true, true, true, true, true, true, true, true, true, false, false, false, false]) rfl (by kernel_rfl) rfl rfl rfl rfl (by kernel_rfl) ?_ | refine at_gq (i := 12) (li := #[true, true, true, true, true, true, true, true, true, true, true, true, true, false, false, false, false]) (cellsAre _ _ 2 _) rfl (by kernel_rfl) rfl rfl rfl rfl (fun _ h => q_loadc (n := 2) (by kernel_rfl) rfl h) (hd.elem (i := ((i3 : Nat) : Int)) (by omega) (by omega)) (by kernel_rfl) ?_
    first | refine at_gskip (i := 13) (li := #[true, true, true, true, true, true, true, true, true, true, true, true, true, true, false, false, false]) rfl (by kernel_rfl) rfl rfl rfl rfl rfl (by kernel_rfl) ?_ | refine at_gskipU (i := 13) (li := #[true, true, true, true, true, true, true, true, true, true, true, true, true, true, false, false, false]) rfl (by kernel_rfl) rfl rfl rfl rfl (by kernel_rfl) ?_
    first | refine at_gskip (i := 14) (li := #[true, true, true, true, true, true, true, true, true, true, true, true, true, true, true, false, false]) rfl (by kernel_rfl) rfl rfl rfl rfl rfl (by kernel_rfl) ?_ | refine at_gskipU (i := 14) (li := #[true, true, true, true, true, true, true, true, true, true, true, true, true, true, true, false, false]) rfl (by kernel_rfl) rfl rfl rfl rfl (by kernel_rfl) ?_ | refine at_gp (i := 14) (li := #[true, true, true, true, true, true, true, true, true, true, true, true, true, true, true, false, false]) rfl (by kernel_rfl) rfl rfl rfl rfl (fun _ => (q_ltT rfl rfl (by omega))) (by kernel_rfl) ?_ | refine at_gp (i := 14) (li := #[true, true, true, true, true, true, true, true, true, true, true, true, true, true, true, false, false]) rfl (by kernel_rfl) rfl rfl rfl rfl (fun _ => (q_ltF rfl rfl (by omega))) (by kernel_rfl) ?_ | refine at_gp (i := 14) (li := #[true, true, true, true, true, true, true, true, true, true, true, true, true, true, true, false, false]) rfl (by kernel_rfl) rfl rfl rfl rfl (fun _ => (q_lt rfl rfl)) (by kernel_rfl) ?_
    first | refine at_gskip (i := 15) (li := #[true, true, true, true, true, true, true, true, true, true, true, true, true, true, true, true, false]) rfl (by kernel_rfl) rfl rfl rfl rfl rfl (by kernel_rfl) ?_ | refine at_gskipU (i := 15) (li := #[true, true, true, true, true, true, true, true, true, true, true, true, true, true, true, true, false]) rfl (by kernel_rfl) rfl rfl rfl rfl (by kernel_rfl) ?_ | refine at_gp (i := 15) (li := #[true, true, true, true, true, true, true, true, true, true, true, true, true, true, true, true, false]) rfl (by kernel_rfl) rfl rfl rfl rfl (fun _ => (q_not rfl)) (by kernel_rfl) ?_
    first | refine at_q (i := 16) (li := #[true, true, true, true, true, true, true, true, true, true, true, true, true, true, true, true, true]) rfl (by kernel_rfl) rfl (fun _ => (q_pick_t rfl rfl)) (by kernel_rfl) ?_ | refine at_q (i := 16) (li := #[true, true, true, true, true, true, true, true, true, true, true, true, true, true, true, true, true]) rfl (by kernel_rfl) rfl (fun _ => (q_pick_f rfl rfl)) (by kernel_rfl) ?_ | refine at_q (i := 16) (li := #[true, true, true, true, true, true, true, true, true, true, true, true, true, true, true, true, true]) rfl (by kernel_rfl) rfl (fun _ => (q_pick rfl rfl rfl)) (by kernel_rfl) ?_
    refine at_done (by kernel_rfl) (hK7 _ _ ?_)
    clear hK7 K7
    have hsi3 : Go.Sort.scanUp (fun x => !ltE d2[a]! x) d2 (j) (i) = i3 := hi3e.symm.trans (su_out hcu)
    have hti3 : i3 ≤ j → (!ltE d2[a]! d2[i3]!) = false := fun h => absurd h (by omega)
    refine cw_false rfl ?_
    refine cw_exit ?_
    refine hK5 _ _ ?_
    clear hK6 K6
    clear hK5 K5
    refine cw_seq fun K8 hK8 => ?_
    refine cw_block ?_
    refine cw_loop (fun mm l w1 => ∃ qj : Nat, qj = mm ∧ i3 ≤ qj + 1 ∧ qj ≤ j ∧ Go.Sort.scanDown (fun x => ltE d2[a]! x) d2 i3 qj = Go.Sort.scanDown (fun x => ltE d2[a]! x) d2 i3 (j) ∧ l = [(0, .slice (some ⟨g, 0, none⟩) n cap), (1, .int .i64 a), (4, (.func (.func 16) #[] #[])), (11, .int .i64 (i3 : Nat)), (12, .int .i64 qj)] ∧ Step (Just g) M w M w1 ∧ ElRow 23 w1 M g n cap d2) (j) [(0, .slice (some ⟨g, 0, none⟩) n cap), (1, .int .i64 a), (4, (.func (.func 16) #[] #[])), (11, .int .i64 (i3 : Nat)), (12, .int .i64 (j : Nat))] (.cons rfl (.cons rfl (.cons rfl (.cons rfl (.cons rfl (.nil _)))))) ?_ ?_
    · skip
      exact ⟨j, rfl, by omega, Nat.le_refl _, rfl, rfl, hT, hd⟩
    clear hT hd
    rintro mm l w1 ⟨j4, rfl, hj4a, hj4b, hj4e, rfl, hT, hd⟩
    refine cw_seq fun K9 hK9 => ?_
    have hcu : j4 < i3 ∨ i3 ≤ j4 := by omega
    rcases hcu with hcu | hcu
    · skip
      refine cw_rd (by kernel_rfl) (by kernel_rfl) (by kernel_rfl) rfl rfl fun K10 hK10 => ?_
      -- region 5
      have hs5 := Step.drew hT.sat
      replace hd := hd.then hs5
      replace hT := hT.then hs5
      refine at_q (i := 0) (li := #[true, false, false, false, false, false, false, false, false, false, false, false, false, false, false, false]) rfl (by kernel_rfl) rfl (fun _ => (q_move rfl)) (by kernel_rfl) ?_
      refine at_q (i := 1) (li := #[true, true, false, false, false, false, false, false, false, false, false, false, false, false, false, false]) rfl (by kernel_rfl) rfl (fun _ => (q_move rfl)) (by kernel_rfl) ?_
      first | refine at_q (i := 2) (li := #[true, true, true, false, false, false, false, false, false, false, false, false, false, false, false, false]) rfl (by kernel_rfl) rfl (fun _ => (q_leT rfl rfl (by omega))) (by kernel_rfl) ?_ | refine at_q (i := 2) (li := #[true, true, true, false, false, false, false, false, false, false, false, false, false, false, false, false]) rfl (by kernel_rfl) rfl (fun _ => (q_leF rfl rfl (by omega))) (by kernel_rfl) ?_ | refine at_q (i := 2) (li := #[true, true, true, false, false, false, false, false, false, false, false, false, false, false, false, false]) rfl (by kernel_rfl) rfl (fun _ => (q_le rfl rfl)) (by kernel_rfl) ?_
      refine at_q (i := 3) (li := #[true, true, true, true, false, false, false, false, false, false, false, false, false, false, false, false]) rfl (by kernel_rfl) rfl (fun _ => (q_move rfl)) (by kernel_rfl) ?_
      first | refine at_gskip (i := 4) (li := #[true, true, true, true, true, false, false, false, false, false, false, false, false, false, false, false]) rfl (by kernel_rfl) rfl rfl rfl rfl rfl (by kernel_rfl) ?_ | refine at_gskipU (i := 4) (li := #[true, true, true, true, true, false, false, false, false, false, false, false, false, false, false, false]) rfl (by kernel_rfl) rfl rfl rfl rfl (by kernel_rfl) ?_ | refine at_gp (i := 4) (li := #[true, true, true, true, true, false, false, false, false, false, false, false, false, false, false, false]) rfl (by kernel_rfl) rfl rfl rfl rfl (fun _ => (q_move rfl)) (by kernel_rfl) ?_
      first | refine at_gskip (i := 5) (li := #[true, true, true, true, true, true, false, false, false, false, false, false, false, false, false, false]) rfl (by kernel_rfl) rfl rfl rfl rfl rfl (by kernel_rfl) ?_ | refine at_gskipU (i := 5) (li := #[true, true, true, true, true, true, false, false, false, false, false, false, false, false, false, false]) rfl (by kernel_rfl) rfl rfl rfl rfl (by kernel_rfl) ?_ | refine at_gp (i := 5) (li := #[true, true, true, true, true, true, false, false, false, false, false, false, false, false, false, false]) rfl (by kernel_rfl) rfl rfl rfl rfl (fun _ => (q_move rfl)) (by kernel_rfl) ?_
      first | refine at_gskip (i := 6) (li := #[true, true, true, true, true, true, true, false, false, false, false, false, false, false, false, false]) rfl (by kernel_rfl) rfl rfl rfl rfl rfl (by kernel_rfl) ?_ | refine at_gskipU (i := 6) (li := #[true, true, true, true, true, true, true, false, false, false, false, false, false, false, false, false]) rfl (by kernel_rfl) rfl rfl rfl rfl (by kernel_rfl) ?_ | refine at_gp (i := 6) (li := #[true, true, true, true, true, true, true, false, false, false, false, false, false, false, false, false]) rfl (by kernel_rfl) rfl rfl rfl rfl (fun _ => (q_move rfl)) (by kernel_rfl) ?_
      first | refine at_gskip (i := 7) (li := #[true, true, true, true, true, true, true, true, false, false, false, false, false, false, false, false]) rfl (by kernel_rfl) rfl rfl rfl rfl rfl (by kernel_rfl) ?_ | refine at_gskipU (i := 7) (li := #[true, true, true, true, true, true, true, true, false, false, false, false, false, false, false, false]) rfl (by kernel_rfl) rfl rfl rfl rfl (by kernel_rfl) ?_ | refine at_gp (i := 7) (li := #[true, true, true, true, true, true, true, true, false, false, false, false, false, false, false, false]) rfl (by kernel_rfl) rfl rfl rfl rfl (fun _ => (q_indexAddr (e := 23) (size := 2) (by kernel_rfl) (by kernel_rfl) rfl rfl (by omega) (by omega))) (by kernel_rfl) ?_
      first | refine at_gskip (i := 8) (li := #[true, true, true, true, true, true, true, true, true, false, false, false, false, false, false, false]) rfl (by kernel_rfl) rfl rfl rfl rfl rfl (by kernel_rfl) ?_ | refine at_gskipU (i := 8) (li := #[true, true, true, true, true, true, true, true, true, false, false, false, false, false, false, false]) rfl (by kernel_rfl) rfl rfl rfl rfl (by kernel_rfl) ?_ | refine at_gq (i := 8) (li := #[true, true, true, true, true, true, true, true, true, false, false, false, false, false, false, false]) (cellsAre _ _ 2 _) rfl (by kernel_rfl) rfl rfl rfl rfl (fun _ h => q_loadc (n := 2) (by kernel_rfl) rfl h) (hd.elem (i := ((a : Nat) : Int)) (by omega) (by omega)) (by kernel_rfl) ?_
      first | refine at_gskip (i := 9) (li := #[true, true, true, true, true, true, true, true, true, true, false, false, false, false, false, false]) rfl (by kernel_rfl) rfl rfl rfl rfl rfl (by kernel_rfl) ?_ | refine at_gskipU (i := 9) (li := #[true, true, true, true, true, true, true, true, true, true, false, false, false, false, false, false]) rfl (by kernel_rfl) rfl rfl rfl rfl (by kernel_rfl) ?_ | refine at_gp (i := 9) (li := #[true, true, true, true, true, true, true, true, true, true, false, false, false, false, false, false]) rfl (by kernel_rfl) rfl rfl rfl rfl (fun _ => (q_move rfl)) (by kernel_rfl) ?_
      first | refine at_gskip (i := 10) (li := #[true, true, true, true, true, true, true, true, true, true, true, false, false, false, false, false]) rfl (by kernel_rfl) rfl rfl rfl rfl rfl (by kernel_rfl) ?_ | refine at_gskipU (i := 10) (li := #[true, true, true, true, true, true, true, true, true, true, true, false, false, false, false, false]) rfl (by kernel_rfl) rfl rfl rfl rfl (by kernel_rfl) ?_ | refine at_gp (i := 10) (li := #[true, true, true, true, true, true, true, true, true, true, true, false, false, false, false, false]) rfl (by kernel_rfl) rfl rfl rfl rfl (fun _ => (q_move rfl)) (by kernel_rfl) ?_
      first | refine at_gskip (i := 11) (li := #[true, true, true, true, true, true, true, true, true, true, true, true, false, false, false, false]) rfl (by kernel_rfl) rfl rfl rfl rfl rfl (by kernel_rfl) ?_ | refine at_gskipU (i := 11) (li := #[true, true, true, true, true, true, true, true, true, true, true, true, false, false, false, false]) rfl (by kernel_rfl) rfl rfl rfl rfl (by kernel_rfl) ?_ | refine at_gp (i := 11) (li := #[true, true, true, true, true, true, true, true, true, true, true, true, false, false, false, false]) rfl (by kernel_rfl) rfl rfl rfl rfl (fun _ => (q_indexAddr (e := 23) (size := 2) (by kernel_rfl) (by kernel_rfl) rfl rfl (by omega) (by omega))) (by kernel_rfl) ?_
      first | refine at_gskip (i := 12) (li := #[true, true, true, true, true, true, true, true, true, true, true, true, true, false, false, false]) rfl (by kernel_rfl) rfl rfl rfl rfl rfl (by kernel_rfl) ?_ | refine at_gskipU (i := 12) (li := #[true, true, true, true, true, true, true, true, true, true, true, true, true, false, false, false]) rfl (by kernel_rfl) rfl rfl rfl rfl (by kernel_rfl) ?_ | refine at_gq (i := 12) (li := #[true, true, true, true, true, true, true, true, true, true, true, true, true, false, false, false]) (cellsAre _ _ 2 _) rfl (by kernel_rfl) rfl rfl rfl rfl (fun _ h => q_loadc (n := 2) (by kernel_rfl) rfl h) (hd.elem (i := ((j4 : Nat) : Int)) (by omega) (by omega)) (by kernel_rfl) ?_
      first | refine at_gskip (i := 13) (li := #[true, true, true, true, true, true, true, true, true, true, true, true, true, true, false, false]) rfl (by kernel_rfl) rfl rfl rfl rfl rfl (by kernel_rfl) ?_ | refine at_gskipU (i := 13) (li := #[true, true, true, true, true, true, true, true, true, true, true, true, true, true, false, false]) rfl (by kernel_rfl) rfl rfl rfl rfl (by kernel_rfl) ?_
      first | refine at_gskip (i := 14) (li := #[true, true, true, true, true, true, true, true, true, true, true, true, true, true, true, false]) rfl (by kernel_rfl) rfl rfl rfl rfl rfl (by kernel_rfl) ?_ | refine at_gskipU (i := 14) (li := #[true, true, true, true, true, true, true, true, true, true, true, true, true, true, true, false]) rfl (by kernel_rfl) rfl rfl rfl rfl (by kernel_rfl) ?_ | refine at_gp (i := 14) (li := #[true, true, true, true, true, true, true, true, true, true, true, true, true, true, true, false]) rfl (by kernel_rfl) rfl rfl rfl rfl (fun _ => (q_ltT rfl rfl (by omega))) (by kernel_rfl) ?_ | refine at_gp (i := 14) (li := #[true, true, true, true, true, true, true, true, true, true, true, true, true, true, true, false]) rfl (by kernel_rfl) rfl rfl rfl rfl (fun _ => (q_ltF rfl rfl (by omega))) (by kernel_rfl) ?_ | refine at_gp (i := 14) (li := #[true, true, true, true, true, true, true, true, true, true, true, true, true, true, true, false]) rfl (by kernel_rfl) rfl rfl rfl rfl (fun _ => (q_lt rfl rfl)) (by kernel_rfl) ?_
      first | refine at_q (i := 15) (li := #[true, true, true, true, true, true, true, true, true, true, true, true, true, true, true, true]) rfl (by kernel_rfl) rfl (fun _ => (q_pick_t rfl rfl)) (by kernel_rfl) ?_ | refine at_q (i := 15) (li := #[true, true, true, true, true, true, true, true, true, true, true, true, true, true, true, true]) rfl (by kernel_rfl) rfl (fun _ => (q_pick_f rfl rfl)) (by kernel_rfl) ?_ | refine at_q (i := 15) (li := #[true, true, true, true, true, true, true, true, true, true, true, true, true, true, true, true]) rfl (by kernel_rfl) rfl (fun _ => (q_pick rfl rfl rfl)) (by kernel_rfl) ?_
      refine at_done (by kernel_rfl) (hK10 _ _ ?_)
      clear hK10 K10
      have hsj4 : Go.Sort.scanDown (fun x => ltE d2[a]! x) d2 i3 (j) = j4 := hj4e.symm.trans (sn_out hcu)
      have htj4 : i3 ≤ j4 → ltE d2[a]! d2[j4]! = false := fun h => absurd h (by omega)
      refine cw_false rfl ?_
      refine cw_exit ?_
      refine hK8 _ _ ?_
      clear hK9 K9
      clear hK8 K8
      refine cw_seq fun K11 hK11 => ?_
      refine cw_rs fun K12 hK12 => ?_
      -- region 7
      refine as_q rfl rfl (q_move rfl) ?_
      refine as_q rfl rfl (q_move rfl) ?_
      first | refine as_q rfl rfl (q_gtT rfl rfl (by omega)) ?_ | refine as_q rfl rfl (q_gtF rfl rfl (by omega)) ?_ | refine as_q rfl rfl (q_gt rfl rfl) ?_
      refine as_nil (hK12 _ _ ?_)
      clear hK12 K12
      have hgt2 : j4 < i3 := by omega
      refine cw_true rfl ?_
      refine cw_exit ?_
      refine hK4 _ _ ?_
      clear hK11 K11
      clear hK4 K4
      refine cw_rs fun K13 hK13 => ?_
      -- region 11
      refine as_q rfl rfl (q_move rfl) ?_
      refine as_q rfl rfl (q_assign rfl) ?_
      refine as_nil (hK13 _ _ ?_)
      clear hK13 K13
      refine cw_ret ?_
      rw [Go.Sort.partEqLoop_eq, hsi3, hsj4, if_pos (by omega)] at hpl
      rw [← hpl]
      exact ⟨_, (res_tmp rfl res_nil), rfl, hT, hd⟩
    · skip
      exfalso
      omega
  · skip
    refine cw_rd (by kernel_rfl) (by kernel_rfl) (by kernel_rfl) rfl rfl fun K14 hK14 => ?_
    -- region 3
    have hs6 := Step.drew hT.sat
    replace hd := hd.then hs6
    replace hT := hT.then hs6
    refine at_q (i := 0) (li := #[true, false, false, false, false, false, false, false, false, false, false, false, false, false, false, false, false]) rfl (by kernel_rfl) rfl (fun _ => (q_move rfl)) (by kernel_rfl) ?_
    refine at_q (i := 1) (li := #[true, true, false, false, false, false, false, false, false, false, false, false, false, false, false, false, false]) rfl (by kernel_rfl) rfl (fun _ => (q_move rfl)) (by kernel_rfl) ?_
    first | refine at_q (i := 2) (li := #[true, true, true, false, false, false, false, false, false, false, false, false, false, false, false, false, false]) rfl (by kernel_rfl) rfl (fun _ => (q_leT rfl rfl (by omega))) (by kernel_rfl) ?_ | refine at_q (i := 2) (li := #[true, true, true, false, false, false, false, false, false, false, false, false, false, false, false, false, false]) rfl (by kernel_rfl) rfl (fun _ => (q_leF rfl rfl (by omega))) (by kernel_rfl) ?_ | refine at_q (i := 2) (li := #[true, true, true, false, false, false, false, false, false, false, false, false, false, false, false, false, false]) rfl (by kernel_rfl) rfl (fun _ => (q_le rfl rfl)) (by kernel_rfl) ?_
    refine at_q (i := 3) (li := #[true, true, true, true, false, false, false, false, false, false, false, false, false, false, false, false, false]) rfl (by kernel_rfl) rfl (fun _ => (q_move rfl)) (by kernel_rfl) ?_
    first | refine at_gskip (i := 4) (li := #[true, true, true, true, true, false, false, false, false, false, false, false, false, false, false, false, false]) rfl (by kernel_rfl) rfl rfl rfl rfl rfl (by kernel_rfl) ?_ | refine at_gskipU (i := 4) (li := #[true, true, true, true, true, false, false, false, false, false, false, false, false, false, false, false, false]) rfl (by kernel_rfl) rfl rfl rfl rfl (by kernel_rfl) ?_ | refine at_gp (i := 4) (li := #[true, true, true, true, true, false, false, false, false, false, false, false, false, false, false, false, false]) rfl (by kernel_rfl) rfl rfl rfl rfl (fun _ => (q_move rfl)) (by kernel_rfl) ?_
    first | refine at_gskip (i := 5) (li := #[true, true, true, true, true, true, false, false, false, false, false, false, false, false, false, false, false]) rfl (by kernel_rfl) rfl rfl rfl rfl rfl (by kernel_rfl) ?_ | refine at_gskipU (i := 5) (li := #[true, true, true, true, true, true, false, false, false, false, false, false, false, false, false, false, false]) rfl (by kernel_rfl) rfl rfl rfl rfl (by kernel_rfl) ?_ | refine at_gp (i := 5) (li := #[true, true, true, true, true, true, false, false, false, false, false, false, false, false, false, false, false]) rfl (by kernel_rfl) rfl rfl rfl rfl (fun _ => (q_move rfl)) (by kernel_rfl) ?_
    first | refine at_gskip (i := 6) (li := #[true, true, true, true, true, true, true, false, false, false, false, false, false, false, false, false, false]) rfl (by kernel_rfl) rfl rfl rfl rfl rfl (by kernel_rfl) ?_ | refine at_gskipU (i := 6) (li := #[true, true, true, true, true, true, true, false, false, false, false, false, false, false, false, false, false]) rfl (by kernel_rfl) rfl rfl rfl rfl (by kernel_rfl) ?_ | refine at_gp (i := 6) (li := #[true, true, true, true, true, true, true, false, false, false, false, false, false, false, false, false, false]) rfl (by kernel_rfl) rfl rfl rfl rfl (fun _ => (q_move rfl)) (by kernel_rfl) ?_
    first | refine at_gskip (i := 7) (li := #[true, true, true, true, true, true, true, true, false, false, false, false, false, false, false, false, false]) rfl (by kernel_rfl) rfl rfl rfl rfl rfl (by kernel_rfl) ?_ | refine at_gskipU (i := 7) (li := #[true, true, true, true, true, true, true, true, false, false, false, false, false, false, false, false, false]) rfl (by kernel_rfl) rfl rfl rfl rfl (by kernel_rfl) ?_ | refine at_gp (i := 7) (li := #[true, true, true, true, true, true, true, true, false, false, false, false, false, false, false, false, false]) rfl (by kernel_rfl) rfl rfl rfl rfl (fun _ => (q_indexAddr (e := 23) (size := 2) (by kernel_rfl) (by kernel_rfl) rfl rfl (by omega) (by omega))) (by kernel_rfl) ?_
    first | refine at_gskip (i := 8) (li := #[true, true, true, true, true, true, true, true, true, false, false, false, false, false, false, false, false]) rfl (by kernel_rfl) rfl rfl rfl rfl rfl (by kernel_rfl) ?_ | refine at_gskipU (i := 8) (li := #[true, true, true, true, true, true, true, true, true, false, false, false, false, false, false, false, false]) rfl (by kernel_rfl) rfl rfl rfl rfl (by kernel_rfl) ?_ | refine at_gq (i := 8) (li := #[true, true, true, true, true, true, true, true, true, false, false, false, false, false, false, false, false]) (cellsAre _ _ 2 _) rfl (by kernel_rfl) rfl rfl rfl rfl (fun _ h => q_loadc (n := 2) (by kernel_rfl) rfl h) (hd.elem (i := ((a : Nat) : Int)) (by omega) (by omega)) (by kernel_rfl) ?_
    first | refine at_gskip (i := 9) (li := #[true, true, true, true, true, true, true, true, true, true, false, false, false, false, false, false, false]) rfl (by kernel_rfl) rfl rfl rfl rfl rfl (by kernel_rfl) ?_ | refine at_gskipU (i := 9) (li := #[true, true, true, true, true, true, true, true, true, true, false, false, false, false, false, false, false]) rfl (by kernel_rfl) rfl rfl rfl rfl (by kernel_rfl) ?_ | refine at_gp (i := 9) (li := #[true, true, true, true, true, true, true, true, true, true, false, false, false, false, false, false, false]) rfl (by kernel_rfl) rfl rfl rfl rfl (fun _ => (q_move rfl)) (by kernel_rfl) ?_
    first | refine at_gskip (i := 10) (li := #[true, true, true, true, true, true, true, true, true, true, true, false, false, false, false, false, false]) rfl (by kernel_rfl) rfl rfl rfl rfl rfl (by kernel_rfl) ?_ | refine at_gskipU (i := 10) (li := #[true, true, true, true, true, true, true, true, true, true, true, false, false, false, false, false, false]) rfl (by kernel_rfl) rfl rfl rfl rfl (by kernel_rfl) ?_ | refine at_gp (i := 10) (li := #[true, true, true, true, true, true, true, true, true, true, true, false, false, false, false, false, false]) rfl (by kernel_rfl) rfl rfl rfl rfl (fun _ => (q_move rfl)) (by kernel_rfl) ?_
    first | refine at_gskip (i := 11) (li := #[true, true, true, true, true, true, true, true, true, true, true, true, false, false, false, false, false]) rfl (by kernel_rfl) rfl rfl rfl rfl rfl (by kernel_rfl) ?_ | refine at_gskipU (i := 11) (li := #[true, true, true, true, true, true, true, true, true, true, true, true, false, false, false, false, false]) rfl (by kernel_rfl) rfl rfl rfl rfl (by kernel_rfl) ?_ | refine at_gp (i := 11) (li := #[true, true, true, true, true, true, true, true, true, true, true, true, false, false, false, false, false]) rfl (by kernel_rfl) rfl rfl rfl rfl (fun _ => (q_indexAddr (e := 23) (size := 2) (by kernel_rfl) (by kernel_rfl) rfl rfl (by omega) (by omega))) (by kernel_rfl) ?_
    first | refine at_gskip (i := 12) (li := #[true, true, true, true, true, true, true, true, true, true, true, true, true, false, false, false, false]) rfl (by kernel_rfl) rfl rfl rfl rfl rfl (by kernel_rfl) ?_ | refine at_gskipU (i := 12) (li := #[true, true, true, true, true, true, true, true, true, true, true, true, true, false, false, false, false]) rfl (by kernel_rfl) rfl rfl rfl rfl (by kernel_rfl) ?_ | refine at_gq (i := 12) (li := #[true, true, true, true, true, true, true, true, true, true, true, true, true, false, false, false, false]) (cellsAre _ _ 2 _) rfl (by kernel_rfl) rfl rfl rfl rfl (fun _ h => q_loadc (n := 2) (by kernel_rfl) rfl h) (hd.elem (i := ((i3 : Nat) : Int)) (by omega) (by omega)) (by kernel_rfl) ?_
    refine at_gh (i := 13) (li := #[true, true, true, true, true, true, true, true, true, true, true, true, true, true, false, false, false]) rfl (by kernel_rfl) rfl rfl rfl rfl rfl (by kernel_rfl) (h_callv (f := 16) (first := []) (cap := []) (by kernel_rfl) rfl rfl rfl ?_)
    refine (srt_compare (a := d2[((a : Nat) : Int).toNat]!) (b := d2[((i3 : Nat) : Int).toNat]!) hs6.sat).mono ?_
    rintro _ w7 ⟨rfl, hs7⟩
    replace hd := hd.then hs7
    replace hT := hT.then hs7
    refine ⟨(by repeat' first | exact trivial | exact (hd.elem (i := ((a : Nat) : Int)) (by omega) (by omega)) | exact (hd.elem (i := ((i3 : Nat) : Int)) (by omega) (by omega)) | assumption | refine all_keep ?_ | refine And.intro ?_ ?_), ?_⟩
    first | refine at_gskip (i := 14) (li := #[true, true, true, true, true, true, true, true, true, true, true, true, true, true, true, false, false]) rfl (by kernel_rfl) rfl rfl rfl rfl rfl (by kernel_rfl) ?_ | refine at_gskipU (i := 14) (li := #[true, true, true, true, true, true, true, true, true, true, true, true, true, true, true, false, false]) rfl (by kernel_rfl) rfl rfl rfl rfl (by kernel_rfl) ?_ | refine at_gp (i := 14) (li := #[true, true, true, true, true, true, true, true, true, true, true, true, true, true, true, false, false]) rfl (by kernel_rfl) rfl rfl rfl rfl (fun _ => (q_ltT rfl rfl (by omega))) (by kernel_rfl) ?_ | refine at_gp (i := 14) (li := #[true, true, true, true, true, true, true, true, true, true, true, true, true, true, true, false, false]) rfl (by kernel_rfl) rfl rfl rfl rfl (fun _ => (q_ltF rfl rfl (by omega))) (by kernel_rfl) ?_ | refine at_gp (i := 14) (li := #[true, true, true, true, true, true, true, true, true, true, true, true, true, true, true, false, false]) rfl (by kernel_rfl) rfl rfl rfl rfl (fun _ => (q_lt rfl rfl)) (by kernel_rfl) ?_
    first | refine at_gskip (i := 15) (li := #[true, true, true, true, true, true, true, true, true, true, true, true, true, true, true, true, false]) rfl (by kernel_rfl) rfl rfl rfl rfl rfl (by kernel_rfl) ?_ | refine at_gskipU (i := 15) (li := #[true, true, true, true, true, true, true, true, true, true, true, true, true, true, true, true, false]) rfl (by kernel_rfl) rfl rfl rfl rfl (by kernel_rfl) ?_ | refine at_gp (i := 15) (li := #[true, true, true, true, true, true, true, true, true, true, true, true, true, true, true, true, false]) rfl (by kernel_rfl) rfl rfl rfl rfl (fun _ => (q_not rfl)) (by kernel_rfl) ?_
    first | refine at_q (i := 16) (li := #[true, true, true, true, true, true, true, true, true, true, true, true, true, true, true, true, true]) rfl (by kernel_rfl) rfl (fun _ => (q_pick_t rfl rfl)) (by kernel_rfl) ?_ | refine at_q (i := 16) (li := #[true, true, true, true, true, true, true, true, true, true, true, true, true, true, true, true, true]) rfl (by kernel_rfl) rfl (fun _ => (q_pick_f rfl rfl)) (by kernel_rfl) ?_ | refine at_q (i := 16) (li := #[true, true, true, true, true, true, true, true, true, true, true, true, true, true, true, true, true]) rfl (by kernel_rfl) rfl (fun _ => (q_pick rfl rfl rfl)) (by kernel_rfl) ?_
    refine at_done (by kernel_rfl) (hK14 _ _ ?_)
    clear hK14 K14
    refine cw_cond rfl (fun hc0 => ?_) (fun hc0 => ?_)
    · skip
      have hl : (!ltE d2[a]! d2[i3]!) = true := hc0
      refine cw_skip ?_
      refine hK6 _ _ ?_
      clear hK6 K6
      refine cw_block ?_
      refine cw_region fun K15 hK15 => ?_
      -- region 4
      refine as_q rfl rfl (q_move rfl) ?_
      refine as_q rfl rfl (q_congr (q_addx rfl rfl (by omega) (by omega)) (v' := .int .i64 (i3 + 1 : Nat)) (congrArg (Value.int .i64) (by omega))) ?_
      refine as_q rfl rfl (q_assign rfl) ?_
      refine as_nil (hK15 _ _ ?_)
      clear hK15 K15
      exact ⟨_, _, by omega, (.cons rfl (.cons rfl (.cons rfl (.cons rfl (.cons rfl (.nil _)))))), i3 + 1, rfl, by omega, by omega, (su_step hcu hl).symm.trans hi3e, rfl, hT, hd⟩
    · skip
      have hl : (!ltE d2[a]! d2[i3]!) = false := hc0
      have hsi3 : Go.Sort.scanUp (fun x => !ltE d2[a]! x) d2 (j) (i) = i3 := hi3e.symm.trans (su_stop hl)
      have hti3 : i3 ≤ j → (!ltE d2[a]! d2[i3]!) = false := fun _ => hl
      refine cw_exit ?_
      refine hK5 _ _ ?_
      clear hK6 K6
      clear hK5 K5
      refine cw_seq fun K16 hK16 => ?_
      refine cw_block ?_
      refine cw_loop (fun mm l w1 => ∃ qj : Nat, qj = mm ∧ i3 ≤ qj + 1 ∧ qj ≤ j ∧ Go.Sort.scanDown (fun x => ltE d2[a]! x) d2 i3 qj = Go.Sort.scanDown (fun x => ltE d2[a]! x) d2 i3 (j) ∧ l = [(0, .slice (some ⟨g, 0, none⟩) n cap), (1, .int .i64 a), (4, (.func (.func 16) #[] #[])), (11, .int .i64 (i3 : Nat)), (12, .int .i64 qj)] ∧ Step (Just g) M w M w1 ∧ ElRow 23 w1 M g n cap d2) (j) [(0, .slice (some ⟨g, 0, none⟩) n cap), (1, .int .i64 a), (4, (.func (.func 16) #[] #[])), (11, .int .i64 (i3 : Nat)), (12, .int .i64 (j : Nat))] (.cons rfl (.cons rfl (.cons rfl (.cons rfl (.cons rfl (.nil _)))))) ?_ ?_
      · skip
        exact ⟨j, rfl, by omega, Nat.le_refl _, rfl, rfl, hT, hd⟩
      clear hT hd
      rintro mm l w1 ⟨j4, rfl, hj4a, hj4b, hj4e, rfl, hT, hd⟩
      refine cw_seq fun K17 hK17 => ?_
      have hcu : j4 < i3 ∨ i3 ≤ j4 := by omega
      rcases hcu with hcu | hcu
      · skip
        refine cw_rd (by kernel_rfl) (by kernel_rfl) (by kernel_rfl) rfl rfl fun K18 hK18 => ?_
        -- region 5
        have hs8 := Step.drew hT.sat
        replace hd := hd.then hs8
        replace hT := hT.then hs8
        refine at_q (i := 0) (li := #[true, false, false, false, false, false, false, false, false, false, false, false, false, false, false, false]) rfl (by kernel_rfl) rfl (fun _ => (q_move rfl)) (by kernel_rfl) ?_
        refine at_q (i := 1) (li := #[true, true, false, false, false, false, false, false, false, false, false, false, false, false, false, false]) rfl (by kernel_rfl) rfl (fun _ => (q_move rfl)) (by kernel_rfl) ?_
        first | refine at_q (i := 2) (li := #[true, true, true, false, false, false, false, false, false, false, false, false, false, false, false, false]) rfl (by kernel_rfl) rfl (fun _ => (q_leT rfl rfl (by omega))) (by kernel_rfl) ?_ | refine at_q (i := 2) (li := #[true, true, true, false, false, false, false, false, false, false, false, false, false, false, false, false]) rfl (by kernel_rfl) rfl (fun _ => (q_leF rfl rfl (by omega))) (by kernel_rfl) ?_ | refine at_q (i := 2) (li := #[true, true, true, false, false, false, false, false, false, false, false, false, false, false, false, false]) rfl (by kernel_rfl) rfl (fun _ => (q_le rfl rfl)) (by kernel_rfl) ?_
        refine at_q (i := 3) (li := #[true, true, true, true, false, false, false, false, false, false, false, false, false, false, false, false]) rfl (by kernel_rfl) rfl (fun _ => (q_move rfl)) (by kernel_rfl) ?_
        first | refine at_gskip (i := 4) (li := #[true, true, true, true, true, false, false, false, false, false, false, false, false, false, false, false]) rfl (by kernel_rfl) rfl rfl rfl rfl rfl (by kernel_rfl) ?_ | refine at_gskipU (i := 4) (li := #[true, true, true, true, true, false, false, false, false, false, false, false, false, false, false, false]) rfl (by kernel_rfl) rfl rfl rfl rfl (by kernel_rfl) ?_ | refine at_gp (i := 4) (li := #[true, true, true, true, true, false, false, false, false, false, false, false, false, false, false, false]) rfl (by kernel_rfl) rfl rfl rfl rfl (fun _ => (q_move rfl)) (by kernel_rfl) ?_
        first | refine at_gskip (i := 5) (li := #[true, true, true, true, true, true, false, false, false, false, false, false, false, false, false, false]) rfl (by kernel_rfl) rfl rfl rfl rfl rfl (by kernel_rfl) ?_ | refine at_gskipU (i := 5) (li := #[true, true, true, true, true, true, false, false, false, false, false, false, false, false, false, false]) rfl (by kernel_rfl) rfl rfl rfl rfl (by kernel_rfl) ?_ | refine at_gp (i := 5) (li := #[true, true, true, true, true, true, false, false, false, false, false, false, false, false, false, false]) rfl (by kernel_rfl) rfl rfl rfl rfl (fun _ => (q_move rfl)) (by kernel_rfl) ?_
        first | refine at_gskip (i := 6) (li := #[true, true, true, true, true, true, true, false, false, false, false, false, false, false, false, false]) rfl (by kernel_rfl) rfl rfl rfl rfl rfl (by kernel_rfl) ?_ | refine at_gskipU (i := 6) (li := #[true, true, true, true, true, true, true, false, false, false, false, false, false, false, false, false]) rfl (by kernel_rfl) rfl rfl rfl rfl (by kernel_rfl) ?_ | refine at_gp (i := 6) (li := #[true, true, true, true, true, true, true, false, false, false, false, false, false, false, false, false]) rfl (by kernel_rfl) rfl rfl rfl rfl (fun _ => (q_move rfl)) (by kernel_rfl) ?_
        first | refine at_gskip (i := 7) (li := #[true, true, true, true, true, true, true, true, false, false, false, false, false, false, false, false]) rfl (by kernel_rfl) rfl rfl rfl rfl rfl (by kernel_rfl) ?_ | refine at_gskipU (i := 7) (li := #[true, true, true, true, true, true, true, true, false, false, false, false, false, false, false, false]) rfl (by kernel_rfl) rfl rfl rfl rfl (by kernel_rfl) ?_ | refine at_gp (i := 7) (li := #[true, true, true, true, true, true, true, true, false, false, false, false, false, false, false, false]) rfl (by kernel_rfl) rfl rfl rfl rfl (fun _ => (q_indexAddr (e := 23) (size := 2) (by kernel_rfl) (by kernel_rfl) rfl rfl (by omega) (by omega))) (by kernel_rfl) ?_
        first | refine at_gskip (i := 8) (li := #[true, true, true, true, true, true, true, true, true, false, false, false, false, false, false, false]) rfl (by kernel_rfl) rfl rfl rfl rfl rfl (by kernel_rfl) ?_ | refine at_gskipU (i := 8) (li := #[true, true, true, true, true, true, true, true, true, false, false, false, false, false, false, false]) rfl (by kernel_rfl) rfl rfl rfl rfl (by kernel_rfl) ?_ | refine at_gq (i := 8) (li := #[true, true, true, true, true, true, true, true, true, false, false, false, false, false, false, false]) (cellsAre _ _ 2 _) rfl (by kernel_rfl) rfl rfl rfl rfl (fun _ h => q_loadc (n := 2) (by kernel_rfl) rfl h) (hd.elem (i := ((a : Nat) : Int)) (by omega) (by omega)) (by kernel_rfl) ?_
        first | refine at_gskip (i := 9) (li := #[true, true, true, true, true, true, true, true, true, true, false, false, false, false, false, false]) rfl (by kernel_rfl) rfl rfl rfl rfl rfl (by kernel_rfl) ?_ | refine at_gskipU (i := 9) (li := #[true, true, true, true, true, true, true, true, true, true, false, false, false, false, false, false]) rfl (by kernel_rfl) rfl rfl rfl rfl (by kernel_rfl) ?_ | refine at_gp (i := 9) (li := #[true, true, true, true, true, true, true, true, true, true, false, false, false, false, false, false]) rfl (by kernel_rfl) rfl rfl rfl rfl (fun _ => (q_move rfl)) (by kernel_rfl) ?_
        first | refine at_gskip (i := 10) (li := #[true, true, true, true, true, true, true, true, true, true, true, false, false, false, false, false]) rfl (by kernel_rfl) rfl rfl rfl rfl rfl (by kernel_rfl) ?_ | refine at_gskipU (i := 10) (li := #[true, true, true, true, true, true, true, true, true, true, true, false, false, false, false, false]) rfl (by kernel_rfl) rfl rfl rfl rfl (by kernel_rfl) ?_ | refine at_gp (i := 10) (li := #[true, true, true, true, true, true, true, true, true, true, true, false, false, false, false, false]) rfl (by kernel_rfl) rfl rfl rfl rfl (fun _ => (q_move rfl)) (by kernel_rfl) ?_
        first | refine at_gskip (i := 11) (li := #[true, true, true, true, true, true, true, true, true, true, true, true, false, false, false, false]) rfl (by kernel_rfl) rfl rfl rfl rfl rfl (by kernel_rfl) ?_ | refine at_gskipU (i := 11) (li := #[true, true, true, true, true, true, true, true, true, true, true, true, false, false, false, false]) rfl (by kernel_rfl) rfl rfl rfl rfl (by kernel_rfl) ?_ | refine at_gp (i := 11) (li := #[true, true, true, true, true, true, true, true, true, true, true, true, false, false, false, false]) rfl (by kernel_rfl) rfl rfl rfl rfl (fun _ => (q_indexAddr (e := 23) (size := 2) (by kernel_rfl) (by kernel_rfl) rfl rfl (by omega) (by omega))) (by kernel_rfl) ?_
        first | refine at_gskip (i := 12) (li := #[true, true, true, true, true, true, true, true, true, true, true, true, true, false, false, false]) rfl (by kernel_rfl) rfl rfl rfl rfl rfl (by kernel_rfl) ?_ | refine at_gskipU (i := 12) (li := #[true, true, true, true, true, true, true, true, true, true, true, true, true, false, false, false]) rfl (by kernel_rfl) rfl rfl rfl rfl (by kernel_rfl) ?_ | refine at_gq (i := 12) (li := #[true, true, true, true, true, true, true, true, true, true, true, true, true, false, false, false]) (cellsAre _ _ 2 _) rfl (by kernel_rfl) rfl rfl rfl rfl (fun _ h => q_loadc (n := 2) (by kernel_rfl) rfl h) (hd.elem (i := ((j4 : Nat) : Int)) (by omega) (by omega)) (by kernel_rfl) ?_
        first | refine at_gskip (i := 13) (li := #[true, true, true, true, true, true, true, true, true, true, true, true, true, true, false, false]) rfl (by kernel_rfl) rfl rfl rfl rfl rfl (by kernel_rfl) ?_ | refine at_gskipU (i := 13) (li := #[true, true, true, true, true, true, true, true, true, true, true, true, true, true, false, false]) rfl (by kernel_rfl) rfl rfl rfl rfl (by kernel_rfl) ?_
        first | refine at_gskip (i := 14) (li := #[true, true, true, true, true, true, true, true, true, true, true, true, true, true, true, false]) rfl (by kernel_rfl) rfl rfl rfl rfl rfl (by kernel_rfl) ?_ | refine at_gskipU (i := 14) (li := #[true, true, true, true, true, true, true, true, true, true, true, true, true, true, true, false]) rfl (by kernel_rfl) rfl rfl rfl rfl (by kernel_rfl) ?_ | refine at_gp (i := 14) (li := #[true, true, true, true, true, true, true, true, true, true, true, true, true, true, true, false]) rfl (by kernel_rfl) rfl rfl rfl rfl (fun _ => (q_ltT rfl rfl (by omega))) (by kernel_rfl) ?_ | refine at_gp (i := 14) (li := #[true, true, true, true, true, true, true, true, true, true, true, true, true, true, true, false]) rfl (by kernel_rfl) rfl rfl rfl rfl (fun _ => (q_ltF rfl rfl (by omega))) (by kernel_rfl) ?_ | refine at_gp (i := 14) (li := #[true, true, true, true, true, true, true, true, true, true, true, true, true, true, true, false]) rfl (by kernel_rfl) rfl rfl rfl rfl (fun _ => (q_lt rfl rfl)) (by kernel_rfl) ?_
        first | refine at_q (i := 15) (li := #[true, true, true, true, true, true, true, true, true, true, true, true, true, true, true, true]) rfl (by kernel_rfl) rfl (fun _ => (q_pick_t rfl rfl)) (by kernel_rfl) ?_ | refine at_q (i := 15) (li := #[true, true, true, true, true, true, true, true, true, true, true, true, true, true, true, true]) rfl (by kernel_rfl) rfl (fun _ => (q_pick_f rfl rfl)) (by kernel_rfl) ?_ | refine at_q (i := 15) (li := #[true, true, true, true, true, true, true, true, true, true, true, true, true, true, true, true]) rfl (by kernel_rfl) rfl (fun _ => (q_pick rfl rfl rfl)) (by kernel_rfl) ?_
        refine at_done (by kernel_rfl) (hK18 _ _ ?_)
        clear hK18 K18
        have hsj4 : Go.Sort.scanDown (fun x => ltE d2[a]! x) d2 i3 (j) = j4 := hj4e.symm.trans (sn_out hcu)
        have htj4 : i3 ≤ j4 → ltE d2[a]! d2[j4]! = false := fun h => absurd h (by omega)
        refine cw_false rfl ?_
        refine cw_exit ?_
        refine hK16 _ _ ?_
        clear hK17 K17
        clear hK16 K16
        refine cw_seq fun K19 hK19 => ?_
        refine cw_rs fun K20 hK20 => ?_
        -- region 7
        refine as_q rfl rfl (q_move rfl) ?_
        refine as_q rfl rfl (q_move rfl) ?_
        first | refine as_q rfl rfl (q_gtT rfl rfl (by omega)) ?_ | refine as_q rfl rfl (q_gtF rfl rfl (by omega)) ?_ | refine as_q rfl rfl (q_gt rfl rfl) ?_
        refine as_nil (hK20 _ _ ?_)
        clear hK20 K20
        have hgt2 : j4 < i3 := by omega
        refine cw_true rfl ?_
        refine cw_exit ?_
        refine hK4 _ _ ?_
        clear hK19 K19
        clear hK4 K4
        refine cw_rs fun K21 hK21 => ?_
        -- region 11
        refine as_q rfl rfl (q_move rfl) ?_
        refine as_q rfl rfl (q_assign rfl) ?_
        refine as_nil (hK21 _ _ ?_)
        clear hK21 K21
        refine cw_ret ?_
        rw [Go.Sort.partEqLoop_eq, hsi3, hsj4, if_pos (by omega)] at hpl
        rw [← hpl]
        exact ⟨_, (res_tmp rfl res_nil), rfl, hT, hd⟩
      · skip
        refine cw_rd (by kernel_rfl) (by kernel_rfl) (by kernel_rfl) rfl rfl fun K22 hK22 => ?_
        -- region 5
        have hs9 := Step.drew hT.sat
        replace hd := hd.then hs9
        replace hT := hT.then hs9
        refine at_q (i := 0) (li := #[true, false, false, false, false, false, false, false, false, false, false, false, false, false, false, false]) rfl (by kernel_rfl) rfl (fun _ => (q_move rfl)) (by kernel_rfl) ?_
        refine at_q (i := 1) (li := #[true, true, false, false, false, false, false, false, false, false, false, false, false, false, false, false]) rfl (by kernel_rfl) rfl (fun _ => (q_move rfl)) (by kernel_rfl) ?_
        first | refine at_q (i := 2) (li := #[true, true, true, false, false, false, false, false, false, false, false, false, false, false, false, false]) rfl (by kernel_rfl) rfl (fun _ => (q_leT rfl rfl (by omega))) (by kernel_rfl) ?_ | refine at_q (i := 2) (li := #[true, true, true, false, false, false, false, false, false, false, false, false, false, false, false, false]) rfl (by kernel_rfl) rfl (fun _ => (q_leF rfl rfl (by omega))) (by kernel_rfl) ?_ | refine at_q (i := 2) (li := #[true, true, true, false, false, false, false, false, false, false, false, false, false, false, false, false]) rfl (by kernel_rfl) rfl (fun _ => (q_le rfl rfl)) (by kernel_rfl) ?_
        refine at_q (i := 3) (li := #[true, true, true, true, false, false, false, false, false, false, false, false, false, false, false, false]) rfl (by kernel_rfl) rfl (fun _ => (q_move rfl)) (by kernel_rfl) ?_
        first | refine at_gskip (i := 4) (li := #[true, true, true, true, true, false, false, false, false, false, false, false, false, false, false, false]) rfl (by kernel_rfl) rfl rfl rfl rfl rfl (by kernel_rfl) ?_ | refine at_gskipU (i := 4) (li := #[true, true, true, true, true, false, false, false, false, false, false, false, false, false, false, false]) rfl (by kernel_rfl) rfl rfl rfl rfl (by kernel_rfl) ?_ | refine at_gp (i := 4) (li := #[true, true, true, true, true, false, false, false, false, false, false, false, false, false, false, false]) rfl (by kernel_rfl) rfl rfl rfl rfl (fun _ => (q_move rfl)) (by kernel_rfl) ?_
        first | refine at_gskip (i := 5) (li := #[true, true, true, true, true, true, false, false, false, false, false, false, false, false, false, false]) rfl (by kernel_rfl) rfl rfl rfl rfl rfl (by kernel_rfl) ?_ | refine at_gskipU (i := 5) (li := #[true, true, true, true, true, true, false, false, false, false, false, false, false, false, false, false]) rfl (by kernel_rfl) rfl rfl rfl rfl (by kernel_rfl) ?_ | refine at_gp (i := 5) (li := #[true, true, true, true, true, true, false, false, false, false, false, false, false, false, false, false]) rfl (by kernel_rfl) rfl rfl rfl rfl (fun _ => (q_move rfl)) (by kernel_rfl) ?_
        first | refine at_gskip (i := 6) (li := #[true, true, true, true, true, true, true, false, false, false, false, false, false, false, false, false]) rfl (by kernel_rfl) rfl rfl rfl rfl rfl (by kernel_rfl) ?_ | refine at_gskipU (i := 6) (li := #[true, true, true, true, true, true, true, false, false, false, false, false, false, false, false, false]) rfl (by kernel_rfl) rfl rfl rfl rfl (by kernel_rfl) ?_ | refine at_gp (i := 6) (li := #[true, true, true, true, true, true, true, false, false, false, false, false, false, false, false, false]) rfl (by kernel_rfl) rfl rfl rfl rfl (fun _ => (q_move rfl)) (by kernel_rfl) ?_
        first | refine at_gskip (i := 7) (li := #[true, true, true, true, true, true, true, true, false, false, false, false, false, false, false, false]) rfl (by kernel_rfl) rfl rfl rfl rfl rfl (by kernel_rfl) ?_ | refine at_gskipU (i := 7) (li := #[true, true, true, true, true, true, true, true, false, false, false, false, false, false, false, false]) rfl (by kernel_rfl) rfl rfl rfl rfl (by kernel_rfl) ?_ | refine at_gp (i := 7) (li := #[true, true, true, true, true, true, true, true, false, false, false, false, false, false, false, false]) rfl (by kernel_rfl) rfl rfl rfl rfl (fun _ => (q_indexAddr (e := 23) (size := 2) (by kernel_rfl) (by kernel_rfl) rfl rfl (by omega) (by omega))) (by kernel_rfl) ?_
        first | refine at_gskip (i := 8) (li := #[true, true, true, true, true, true, true, true, true, false, false, false, false, false, false, false]) rfl (by kernel_rfl) rfl rfl rfl rfl rfl (by kernel_rfl) ?_ | refine at_gskipU (i := 8) (li := #[true, true, true, true, true, true, true, true, true, false, false, false, false, false, false, false]) rfl (by kernel_rfl) rfl rfl rfl rfl (by kernel_rfl) ?_ | refine at_gq (i := 8) (li := #[true, true, true, true, true, true, true, true, true, false, false, false, false, false, false, false]) (cellsAre _ _ 2 _) rfl (by kernel_rfl) rfl rfl rfl rfl (fun _ h => q_loadc (n := 2) (by kernel_rfl) rfl h) (hd.elem (i := ((a : Nat) : Int)) (by omega) (by omega)) (by kernel_rfl) ?_
        first | refine at_gskip (i := 9) (li := #[true, true, true, true, true, true, true, true, true, true, false, false, false, false, false, false]) rfl (by kernel_rfl) rfl rfl rfl rfl rfl (by kernel_rfl) ?_ | refine at_gskipU (i := 9) (li := #[true, true, true, true, true, true, true, true, true, true, false, false, false, false, false, false]) rfl (by kernel_rfl) rfl rfl rfl rfl (by kernel_rfl) ?_ | refine at_gp (i := 9) (li := #[true, true, true, true, true, true, true, true, true, true, false, false, false, false, false, false]) rfl (by kernel_rfl) rfl rfl rfl rfl (fun _ => (q_move rfl)) (by kernel_rfl) ?_
        first | refine at_gskip (i := 10) (li := #[true, true, true, true, true, true, true, true, true, true, true, false, false, false, false, false]) rfl (by kernel_rfl) rfl rfl rfl rfl rfl (by kernel_rfl) ?_ | refine at_gskipU (i := 10) (li := #[true, true, true, true, true, true, true, true, true, true, true, false, false, false, false, false]) rfl (by kernel_rfl) rfl rfl rfl rfl (by kernel_rfl) ?_ | refine at_gp (i := 10) (li := #[true, true, true, true, true, true, true, true, true, true, true, false, false, false, false, false]) rfl (by kernel_rfl) rfl rfl rfl rfl (fun _ => (q_move rfl)) (by kernel_rfl) ?_
        first | refine at_gskip (i := 11) (li := #[true, true, true, true, true, true, true, true, true, true, true, true, false, false, false, false]) rfl (by kernel_rfl) rfl rfl rfl rfl rfl (by kernel_rfl) ?_ | refine at_gskipU (i := 11) (li := #[true, true, true, true, true, true, true, true, true, true, true, true, false, false, false, false]) rfl (by kernel_rfl) rfl rfl rfl rfl (by kernel_rfl) ?_ | refine at_gp (i := 11) (li := #[true, true, true, true, true, true, true, true, true, true, true, true, false, false, false, false]) rfl (by kernel_rfl) rfl rfl rfl rfl (fun _ => (q_indexAddr (e := 23) (size := 2) (by kernel_rfl) (by kernel_rfl) rfl rfl (by omega) (by omega))) (by kernel_rfl) ?_
        first | refine at_gskip (i := 12) (li := #[true, true, true, true, true, true, true, true, true, true, true, true, true, false, false, false]) rfl (by kernel_rfl) rfl rfl rfl rfl rfl (by kernel_rfl) ?_ | refine at_gskipU (i := 12) (li := #[true, true, true, true, true, true, true, true, true, true, true, true, true, false, false, false]) rfl (by kernel_rfl) rfl rfl rfl rfl (by kernel_rfl) ?_ | refine at_gq (i := 12) (li := #[true, true, true, true, true, true, true, true, true, true, true, true, true, false, false, false]) (cellsAre _ _ 2 _) rfl (by kernel_rfl) rfl rfl rfl rfl (fun _ h => q_loadc (n := 2) (by kernel_rfl) rfl h) (hd.elem (i := ((j4 : Nat) : Int)) (by omega) (by omega)) (by kernel_rfl) ?_
        refine at_gh (i := 13) (li := #[true, true, true, true, true, true, true, true, true, true, true, true, true, true, false, false]) rfl (by kernel_rfl) rfl rfl rfl rfl rfl (by kernel_rfl) (h_callv (f := 16) (first := []) (cap := []) (by kernel_rfl) rfl rfl rfl ?_)
        refine (srt_compare (a := d2[((a : Nat) : Int).toNat]!) (b := d2[((j4 : Nat) : Int).toNat]!) hs9.sat).mono ?_
        rintro _ w10 ⟨rfl, hs10⟩
        replace hd := hd.then hs10
        replace hT := hT.then hs10
        refine ⟨(by repeat' first | exact trivial | exact (hd.elem (i := ((a : Nat) : Int)) (by omega) (by omega)) | exact (hd.elem (i := ((j4 : Nat) : Int)) (by omega) (by omega)) | assumption | refine all_keep ?_ | refine And.intro ?_ ?_), ?_⟩
        first | refine at_gskip (i := 14) (li := #[true, true, true, true, true, true, true, true, true, true, true, true, true, true, true, false]) rfl (by kernel_rfl) rfl rfl rfl rfl rfl (by kernel_rfl) ?_ | refine at_gskipU (i := 14) (li := #[true, true, true, true, true, true, true, true, true, true, true, true, true, true, true, false]) rfl (by kernel_rfl) rfl rfl rfl rfl (by kernel_rfl) ?_ | refine at_gp (i := 14) (li := #[true, true, true, true, true, true, true, true, true, true, true, true, true, true, true, false]) rfl (by kernel_rfl) rfl rfl rfl rfl (fun _ => (q_ltT rfl rfl (by omega))) (by kernel_rfl) ?_ | refine at_gp (i := 14) (li := #[true, true, true, true, true, true, true, true, true, true, true, true, true, true, true, false]) rfl (by kernel_rfl) rfl rfl rfl rfl (fun _ => (q_ltF rfl rfl (by omega))) (by kernel_rfl) ?_ | refine at_gp (i := 14) (li := #[true, true, true, true, true, true, true, true, true, true, true, true, true, true, true, false]) rfl (by kernel_rfl) rfl rfl rfl rfl (fun _ => (q_lt rfl rfl)) (by kernel_rfl) ?_
        first | refine at_q (i := 15) (li := #[true, true, true, true, true, true, true, true, true, true, true, true, true, true, true, true]) rfl (by kernel_rfl) rfl (fun _ => (q_pick_t rfl rfl)) (by kernel_rfl) ?_ | refine at_q (i := 15) (li := #[true, true, true, true, true, true, true, true, true, true, true, true, true, true, true, true]) rfl (by kernel_rfl) rfl (fun _ => (q_pick_f rfl rfl)) (by kernel_rfl) ?_ | refine at_q (i := 15) (li := #[true, true, true, true, true, true, true, true, true, true, true, true, true, true, true, true]) rfl (by kernel_rfl) rfl (fun _ => (q_pick rfl rfl rfl)) (by kernel_rfl) ?_
        refine at_done (by kernel_rfl) (hK22 _ _ ?_)
        clear hK22 K22
        refine cw_cond rfl (fun hc1 => ?_) (fun hc1 => ?_)
        · skip
          have hl : ltE d2[a]! d2[j4]! = true := hc1
          refine cw_skip ?_
          refine hK17 _ _ ?_
          clear hK17 K17
          refine cw_block ?_
          refine cw_region fun K23 hK23 => ?_
          -- region 6
          refine as_q rfl rfl (q_move rfl) ?_
          refine as_q rfl rfl (q_congr (q_subx rfl rfl (by omega) (by omega)) (v' := .int .i64 (j4 - 1 : Nat)) (congrArg (Value.int .i64) (by omega))) ?_
          refine as_q rfl rfl (q_assign rfl) ?_
          refine as_nil (hK23 _ _ ?_)
          clear hK23 K23
          exact ⟨_, _, by omega, (.cons rfl (.cons rfl (.cons rfl (.cons rfl (.cons rfl (.nil _)))))), j4 - 1, rfl, by omega, by omega, (sn_step (by omega) hcu hl).symm.trans hj4e, rfl, hT, hd⟩
        · skip
          have hl : ltE d2[a]! d2[j4]! = false := hc1
          have hsj4 : Go.Sort.scanDown (fun x => ltE d2[a]! x) d2 i3 (j) = j4 := hj4e.symm.trans (sn_stop hl)
          have htj4 : i3 ≤ j4 → ltE d2[a]! d2[j4]! = false := fun _ => hl
          refine cw_exit ?_
          refine hK16 _ _ ?_
          clear hK17 K17
          clear hK16 K16
          refine cw_seq fun K24 hK24 => ?_
          refine cw_rs fun K25 hK25 => ?_
          -- region 7
          refine as_q rfl rfl (q_move rfl) ?_
          refine as_q rfl rfl (q_move rfl) ?_
          first | refine as_q rfl rfl (q_gtT rfl rfl (by omega)) ?_ | refine as_q rfl rfl (q_gtF rfl rfl (by omega)) ?_ | refine as_q rfl rfl (q_gt rfl rfl) ?_
          refine as_nil (hK25 _ _ ?_)
          clear hK25 K25
          have hgt2 : ¬ j4 < i3 := by omega
          have hlt34 : i3 < j4 := by
            rcases Nat.lt_or_ge i3 j4 with h | h
            · exact h
            · have he : i3 = j4 := by omega
              have h1 := hti3 (by omega)
              have h2 := htj4 (by omega)
              rw [he] at h1
              rw [h2] at h1
              cases h1
          refine cw_false rfl ?_
          refine cw_skip ?_
          refine hK24 _ _ ?_
          clear hK24 K24
          refine cw_rd (by kernel_rfl) (by kernel_rfl) (by kernel_rfl) rfl rfl fun K26 hK26 => ?_
          -- region 8
          have hs11 := Step.drew hs10.sat
          replace hd := hd.then hs11
          replace hT := hT.then hs11
          refine at_q (i := 0) (li := #[true, false, false, false, false, false, false, false, false, false, false, false, false, false, false, false]) rfl (by kernel_rfl) rfl (fun _ => (q_move rfl)) (by kernel_rfl) ?_
          refine at_q (i := 1) (li := #[true, true, false, false, false, false, false, false, false, false, false, false, false, false, false, false]) rfl (by kernel_rfl) rfl (fun _ => (q_move rfl)) (by kernel_rfl) ?_
          refine at_q (i := 2) (li := #[true, true, true, false, false, false, false, false, false, false, false, false, false, false, false, false]) rfl (by kernel_rfl) rfl (fun _ => (q_move rfl)) (by kernel_rfl) ?_
          refine at_q (i := 3) (li := #[true, true, true, true, false, false, false, false, false, false, false, false, false, false, false, false]) rfl (by kernel_rfl) rfl (fun _ => (q_move rfl)) (by kernel_rfl) ?_
          refine at_q (i := 4) (li := #[true, true, true, true, true, false, false, false, false, false, false, false, false, false, false, false]) rfl (by kernel_rfl) rfl (fun _ => (q_move rfl)) (by kernel_rfl) ?_
          refine at_q (i := 5) (li := #[true, true, true, true, true, true, false, false, false, false, false, false, false, false, false, false]) rfl (by kernel_rfl) rfl (fun _ => (q_move rfl)) (by kernel_rfl) ?_
          refine at_q (i := 6) (li := #[true, true, true, true, true, true, true, false, false, false, false, false, false, false, false, false]) rfl (by kernel_rfl) rfl (fun _ => (q_indexAddr (e := 23) (size := 2) (by kernel_rfl) (by kernel_rfl) rfl rfl (by omega) (by omega))) (by kernel_rfl) ?_
          refine at_l (i := 7) (li := #[true, true, true, true, true, true, true, true, false, false, false, false, false, false, false, false]) (cellsAre _ _ 2 _) rfl (by kernel_rfl) rfl (fun _ h => q_loadc (n := 2) (by kernel_rfl) rfl h) (hd.elem (i := ((j4 : Nat) : Int)) (by omega) (by omega)) (by kernel_rfl) ?_
          refine at_q (i := 8) (li := #[true, true, true, true, true, true, true, true, true, false, false, false, false, false, false, false]) rfl (by kernel_rfl) rfl (fun _ => (q_move rfl)) (by kernel_rfl) ?_
          refine at_q (i := 9) (li := #[true, true, true, true, true, true, true, true, true, true, false, false, false, false, false, false]) rfl (by kernel_rfl) rfl (fun _ => (q_move rfl)) (by kernel_rfl) ?_
          refine at_q (i := 10) (li := #[true, true, true, true, true, true, true, true, true, true, true, false, false, false, false, false]) rfl (by kernel_rfl) rfl (fun _ => (q_indexAddr (e := 23) (size := 2) (by kernel_rfl) (by kernel_rfl) rfl rfl (by omega) (by omega))) (by kernel_rfl) ?_
          refine at_l (i := 11) (li := #[true, true, true, true, true, true, true, true, true, true, true, true, false, false, false, false]) (cellsAre _ _ 2 _) rfl (by kernel_rfl) rfl (fun _ h => q_loadc (n := 2) (by kernel_rfl) rfl h) (hd.elem (i := ((i3 : Nat) : Int)) (by omega) (by omega)) (by kernel_rfl) ?_
          refine at_q (i := 12) (li := #[true, true, true, true, true, true, true, true, true, true, true, true, true, false, false, false]) rfl (by kernel_rfl) rfl (fun _ => (q_indexAddr (e := 23) (size := 2) (by kernel_rfl) (by kernel_rfl) rfl rfl (by omega) (by omega))) (by kernel_rfl) ?_
          refine at_h0 (i := 13) (li := #[true, true, true, true, true, true, true, true, true, true, true, true, true, true, false, false]) rfl (by kernel_rfl) (keep_sift (bs := [true, true]) (by kernel_rfl)) (by kernel_rfl) (h_storeD (i := ((i3 : Nat) : Int)) (e := d2[((j4 : Nat) : Int).toNat]!) hs11.sat hd rfl rfl (by kernel_rfl) (by omega) (by omega) fun w12 hs12 hd12 => ?_)
          replace hT := hT.also hs12
          clear hd; have hd := hd12; clear hd12
          refine ⟨(by repeat' first | exact trivial | exact (hd.elem (i := ((j4 : Nat) : Int)) (by omega) (by omega)) | exact (hd.elem (i := ((i3 : Nat) : Int)) (by omega) (by omega)) | assumption | refine all_keep ?_ | refine And.intro ?_ ?_), ?_⟩
          refine at_q (i := 14) (li := #[true, true, true, true, true, true, true, true, true, true, true, true, true, true, true, false]) rfl (by kernel_rfl) rfl (fun _ => (q_indexAddr (e := 23) (size := 2) (by kernel_rfl) (by kernel_rfl) rfl rfl (by omega) (by omega))) (by kernel_rfl) ?_
          refine at_h0 (i := 15) (li := #[true, true, true, true, true, true, true, true, true, true, true, true, true, true, true, true]) rfl (by kernel_rfl) rfl (by kernel_rfl) (h_storeD (i := ((j4 : Nat) : Int)) (e := d2[((i3 : Nat) : Int).toNat]!) hs12.sat hd rfl rfl (by kernel_rfl) (by omega) (by omega) fun w13 hs13 hd13 => ?_)
          replace hT := hT.also hs13
          clear hd; have hd := hd13; clear hd13
          refine ⟨(by repeat' first | exact trivial | exact (hd.elem (i := ((j4 : Nat) : Int)) (by omega) (by omega)) | exact (hd.elem (i := ((i3 : Nat) : Int)) (by omega) (by omega)) | assumption | refine all_keep ?_ | refine And.intro ?_ ?_), ?_⟩
          refine at_done (by kernel_rfl) (hK26 _ _ ?_)
          clear hK26 K26
          refine cw_rs fun K27 hK27 => ?_
          -- region 9
          refine as_q rfl rfl (q_move rfl) ?_
          refine as_q rfl rfl (q_congr (q_addx rfl rfl (by omega) (by omega)) (v' := .int .i64 (i3 + 1 : Nat)) (congrArg (Value.int .i64) (by omega))) ?_
          refine as_q rfl rfl (q_assign rfl) ?_
          refine as_nil (hK27 _ _ ?_)
          clear hK27 K27
          refine cw_region fun K28 hK28 => ?_
          -- region 10
          refine as_q rfl rfl (q_move rfl) ?_
          refine as_q rfl rfl (q_congr (q_subx rfl rfl (by omega) (by omega)) (v' := .int .i64 (j4 - 1 : Nat)) (congrArg (Value.int .i64) (by omega))) ?_
          refine as_q rfl rfl (q_assign rfl) ?_
          refine as_nil (hK28 _ _ ?_)
          clear hK28 K28
          refine ⟨_, _, ?_, (.cons rfl (.cons rfl (.cons rfl (.cons rfl (.cons rfl (.nil _)))))), i3 + 1, j4 - 1, Go.Sort.swp d2 i3 j4, rfl, ?_, by omega, by omega, by omega, rfl, hT, hd⟩
          · omega
          · rw [← hpl]
            conv => rhs; rw [Go.Sort.partEqLoop_eq, hsi3, hsj4, if_neg (by omega)]

end Go.Proofs.YtbfjkclijjhlhaaDoor
