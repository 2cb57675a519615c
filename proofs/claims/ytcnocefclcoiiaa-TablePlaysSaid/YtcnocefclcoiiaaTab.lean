/- Tables (package table): what each of its functions does, at int and at string. Conditions: of New the room is small; of Add the table has room, or none. -/
import Derived.Test.YtcnocefclcoiiaaRows
import Derived.Test.YtcnocefclcoiiaaOps2
import Derived.KernelRfl
namespace Go.Proofs.Ytcnocefclcoiiaa
open Go Go.Eng

/-- A table: where it lies, its things (their cells), its room; all from block B on. -/
structure Tbl (T e size B : Nat) (w : World) (M : Mem) (b : Nat) (sv : Value) (n : Nat) (cs : List Value) (room : Int) : Prop where
  own : Own w M b [sv, .int .i64 room] T
  buf : Buf w M e size sv n cs
  ne : sv.ownBlock ≠ some b
  hb : B ≤ b
  hsv : ∀ g, sv.ownBlock = some g → B ≤ g

theorem Tbl.then {T e size B : Nat} {w w' : World} {M M' : Mem} {b : Nat} {sv : Value} {n : Nat} {cs : List Value} {room : Int} (h : Tbl T e size B w M b sv n cs room) (k : Step Nope M w M' w') : Tbl T e size B w' M' b sv n cs room :=
  ⟨h.own.then k, h.buf.then k, h.ne, h.hb, h.hsv⟩
/-- What adding to it may write. -/
def TS (b : Nat) (sv : Value) : Nat → Prop := fun k => k = b ∨ sv.ownBlock = some k
theorem step_add {S : Nat → Prop} {w w' w'' : World} {M M' M'' : Mem} {b : Nat} {sv : Value} (h : Step S M w M' w') (k : Step (TS b sv) M' w' M'' w'') (h1 : w.heap.size ≤ b) (h2 : ∀ g, sv.ownBlock = some g → w.heap.size ≤ g) : Step S M w M'' w'' :=
  h.trans k fun c hc hs => by
    rcases hs with rfl | hs
    · omega
    · have := h2 c hs; omega
theorem Tbl.just {T e size B g : Nat} {w w' : World} {M M' : Mem} {b : Nat} {sv : Value} {n : Nat} {cs : List Value} {room : Int} (h : Tbl T e size B w M b sv n cs room) (k : Step (Just g) M w M' w') (h1 : b ≠ g) (h2 : sv.ownBlock ≠ some g) : Tbl T e size B w' M' b sv n cs room :=
  ⟨h.own.step k h1, h.buf.step k (fun q hq hs => h2 (by cases hs; exact hq)), h.ne, h.hb, h.hsv⟩
theorem Tbl.other {T e size B : Nat} {w w' : World} {M M' : Mem} {b b' : Nat} {sv sv' : Value} {n : Nat} {cs : List Value} {room : Int} (h : Tbl T e size B w M b sv n cs room) (k : Step (TS b' sv') M w M' w') (h1 : b ≠ b') (h2 : sv'.ownBlock ≠ some b) (h3 : sv.ownBlock ≠ some b') (h4 : ∀ g, sv.ownBlock = some g → sv'.ownBlock ≠ some g) : Tbl T e size B w' M' b sv n cs room :=
  ⟨h.own.step k (fun hs => hs.elim h1 h2), h.buf.step k (fun g hg hs => hs.elim (fun e => h3 (e ▸ hg)) (h4 g hg)), h.ne, h.hb, h.hsv⟩

theorem new_int {w : World} {M : Mem} {B : Nat} {room : Int} (hs : Sat M w) (hB : B ≤ w.heap.size) (h0 : 0 ≤ room) :
    Does Try.prog 18 #[.int .i64 room] w (fun v w' => ∃ b, v = .pointer (some ⟨b, 0, none⟩) ∧ Step Nope M w M w' ∧ Tbl 88 3 1 B w' M b (.slice none 0 0) 0 [] room) := by
  have hT := Step.refl Nope hs
  have hroom : (if 0 > room then 0 else room) = room := if_neg (by omega)
  refine fn_enter Try.func18 rfl (rs := [.tmp 2]) rfl rfl rfl rfl ?_
  refine cw_rs fun K1 hK1 => ?_
  -- region 0
  refine as_q rfl rfl (q_assign rfl) ?_
  refine as_nil (hK1 _ _ ?_)
  clear hK1 K1
  refine cw_rs fun K2 hK2 => ?_
  -- region 1
  refine as_q rfl rfl (q_move rfl) ?_
  refine as_q rfl rfl (q_max2 rfl rfl) ?_
  refine as_q rfl rfl (q_build (zs := [(.slice none 0 0), (.int .i64 0)]) (places := [(0, 1), (1, 1)]) (cs := [_, _]) (by kernel_rfl) (by kernel_rfl) rfl rfl) ?_
  refine as_h rfl (h_boxO hs rfl rfl fun b1 w1 hs1 ho1 e1 => ?_)
  replace hT := hT.then hs1
  refine as_q rfl rfl (q_assign rfl) ?_
  refine as_nil (hK2 _ _ ?_)
  clear hK2 K2
  refine cw_ret ?_
  rw [hroom] at ho1
  exact ⟨_, (res_tmp rfl res_nil), _, rfl, hT, ⟨ho1, Buf.nil _ _ _ _, by simp [Value.ownBlock], by omega, by intro g hg; cases hg⟩⟩

theorem len_int {w : World} {M : Mem} {B b n : Nat} {sv : Value} {cs : List Value} {room : Int} (hs : Sat M w) (ht : Tbl 88 3 1 B w M b sv n cs room) :
    Does Try.prog 22 #[.pointer (some ⟨b, 0, none⟩)] w (fun v w' => v = .int .i64 n ∧ Step Nope M w M w') := by
  obtain ⟨ho, hb, hne, hB, hsv⟩ := ht
  obtain ⟨a, c, rfl, hnc, hnil⟩ := hb.slice
  have hT := Step.refl Nope hs
  refine fn_enter Try.func22 rfl (rs := [.tmp 2]) rfl rfl rfl rfl ?_
  refine cw_rs fun K1 hK1 => ?_
  -- region 0
  refine as_q rfl rfl (q_assign rfl) ?_
  refine as_nil (hK1 _ _ ?_)
  clear hK1 K1
  refine cw_seq fun K2 hK2 => ?_
  refine cw_rs fun K3 hK3 => ?_
  -- region 1
  refine as_q rfl rfl (q_move rfl) ?_
  refine as_q rfl rfl (q_eqnil (by kernel_rfl) rfl) ?_
  refine as_nil (hK3 _ _ ?_)
  clear hK3 K3
  refine cw_false rfl ?_
  refine cw_skip ?_
  refine hK2 _ _ ?_
  clear hK2 K2
  refine cw_rs fun K4 hK4 => ?_
  -- region 3
  refine as_q rfl rfl (q_move rfl) ?_
  first | refine as_q rfl rfl (q_nilp rfl) ?_ | refine as_q rfl rfl (q_nili rfl) ?_ | refine as_q rfl rfl (q_nilf rfl) ?_ | refine as_q rfl rfl (q_nily rfl) ?_
  refine as_q rfl rfl (q_fieldAddr (off := 0) (by kernel_rfl) rfl) ?_
  refine as_q rfl rfl (q_load1 (by kernel_rfl) rfl (by first | exact Blk.cell ho.1 rfl | assumption)) ?_
  refine as_q rfl rfl (q_len (by kernel_rfl) rfl _) ?_
  refine as_q rfl rfl (q_assign rfl) ?_
  refine as_nil (hK4 _ _ ?_)
  clear hK4 K4
  refine cw_ret ?_
  exact ⟨_, (res_tmp rfl res_nil), rfl, hT⟩

theorem len_int_nil {w : World} {M : Mem} (hs : Sat M w) :
    Does Try.prog 22 #[.pointer none] w (fun v w' => v = .int .i64 0 ∧ Step Nope M w M w') := by
  have hT := Step.refl Nope hs
  refine fn_enter Try.func22 rfl (rs := [.tmp 2]) rfl rfl rfl rfl ?_
  refine cw_rs fun K1 hK1 => ?_
  -- region 0
  refine as_q rfl rfl (q_assign rfl) ?_
  refine as_nil (hK1 _ _ ?_)
  clear hK1 K1
  refine cw_seq fun K2 hK2 => ?_
  refine cw_rs fun K3 hK3 => ?_
  -- region 1
  refine as_q rfl rfl (q_move rfl) ?_
  refine as_q rfl rfl (q_eqnil (by kernel_rfl) rfl) ?_
  refine as_nil (hK3 _ _ ?_)
  clear hK3 K3
  refine cw_true rfl ?_
  refine cw_rs fun K4 hK4 => ?_
  -- region 2
  refine as_q rfl rfl (q_assign rfl) ?_
  refine as_nil (hK4 _ _ ?_)
  clear hK4 K4
  refine cw_ret ?_
  exact ⟨_, (res_tmp rfl res_nil), rfl, hT⟩

theorem room_int {w : World} {M : Mem} {B b n : Nat} {sv : Value} {cs : List Value} {room : Int} (hs : Sat M w) (ht : Tbl 88 3 1 B w M b sv n cs room) (h0 : 0 ≤ room) (h1 : room ≤ 1000) (h2 : n ≤ 1000) :
    Does Try.prog 23 #[.pointer (some ⟨b, 0, none⟩)] w (fun v w' => v = .int .i64 (room - n) ∧ Step Nope M w M w') := by
  obtain ⟨ho, hb, hne, hB, hsv⟩ := ht
  obtain ⟨a, c, rfl, hnc, hnil⟩ := hb.slice
  have hT := Step.refl Nope hs
  refine fn_enter Try.func23 rfl (rs := [.tmp 2]) rfl rfl rfl rfl ?_
  refine cw_rs fun K1 hK1 => ?_
  -- region 0
  refine as_q rfl rfl (q_assign rfl) ?_
  refine as_nil (hK1 _ _ ?_)
  clear hK1 K1
  refine cw_seq fun K2 hK2 => ?_
  refine cw_rs fun K3 hK3 => ?_
  -- region 1
  refine as_q rfl rfl (q_move rfl) ?_
  refine as_q rfl rfl (q_eqnil (by kernel_rfl) rfl) ?_
  refine as_nil (hK3 _ _ ?_)
  clear hK3 K3
  refine cw_false rfl ?_
  refine cw_skip ?_
  refine hK2 _ _ ?_
  clear hK2 K2
  refine cw_rd (by kernel_rfl) (by kernel_rfl) (by kernel_rfl) rfl rfl fun K4 hK4 => ?_
  -- region 3
  have hs1 := Step.drew hs
  replace ho := ho.then hs1
  replace hb := hb.then hs1
  replace hT := hT.then hs1
  refine at_q (i := 0) (li := #[true, false, false, false, false, false, false, false, false, false, false]) rfl (by kernel_rfl) rfl (fun _ => (q_move rfl)) (by kernel_rfl) ?_
  first | refine at_q (i := 1) (li := #[true, true, false, false, false, false, false, false, false, false, false]) rfl (by kernel_rfl) rfl (fun _ => (q_nilp rfl)) (by kernel_rfl) ?_ | refine at_q (i := 1) (li := #[true, true, false, false, false, false, false, false, false, false, false]) rfl (by kernel_rfl) rfl (fun _ => (q_nili rfl)) (by kernel_rfl) ?_ | refine at_q (i := 1) (li := #[true, true, false, false, false, false, false, false, false, false, false]) rfl (by kernel_rfl) rfl (fun _ => (q_nilf rfl)) (by kernel_rfl) ?_ | refine at_q (i := 1) (li := #[true, true, false, false, false, false, false, false, false, false, false]) rfl (by kernel_rfl) rfl (fun _ => (q_nily rfl)) (by kernel_rfl) ?_
  refine at_q (i := 2) (li := #[true, true, true, false, false, false, false, false, false, false, false]) rfl (by kernel_rfl) rfl (fun _ => (q_fieldAddr (off := 1) (by kernel_rfl) rfl)) (by kernel_rfl) ?_
  refine at_l (i := 3) (li := #[true, true, true, true, false, false, false, false, false, false, false]) (cellIs _ _ _) rfl (by kernel_rfl) rfl (fun _ h => q_load1 (by kernel_rfl) rfl h) (by first | exact Blk.cell ho.1 rfl | assumption) (by kernel_rfl) ?_
  refine at_q (i := 4) (li := #[true, true, true, true, true, false, false, false, false, false, false]) rfl (by kernel_rfl) rfl (fun _ => (q_move rfl)) (by kernel_rfl) ?_
  first | refine at_q (i := 5) (li := #[true, true, true, true, true, true, false, false, false, false, false]) rfl (by kernel_rfl) rfl (fun _ => (q_nilp rfl)) (by kernel_rfl) ?_ | refine at_q (i := 5) (li := #[true, true, true, true, true, true, false, false, false, false, false]) rfl (by kernel_rfl) rfl (fun _ => (q_nili rfl)) (by kernel_rfl) ?_ | refine at_q (i := 5) (li := #[true, true, true, true, true, true, false, false, false, false, false]) rfl (by kernel_rfl) rfl (fun _ => (q_nilf rfl)) (by kernel_rfl) ?_ | refine at_q (i := 5) (li := #[true, true, true, true, true, true, false, false, false, false, false]) rfl (by kernel_rfl) rfl (fun _ => (q_nily rfl)) (by kernel_rfl) ?_
  refine at_q (i := 6) (li := #[true, true, true, true, true, true, true, false, false, false, false]) rfl (by kernel_rfl) rfl (fun _ => (q_fieldAddr (off := 0) (by kernel_rfl) rfl)) (by kernel_rfl) ?_
  refine at_l (i := 7) (li := #[true, true, true, true, true, true, true, true, false, false, false]) (cellIs _ _ _) rfl (by kernel_rfl) rfl (fun _ h => q_load1 (by kernel_rfl) rfl h) (by first | exact Blk.cell ho.1 rfl | assumption) (by kernel_rfl) ?_
  refine at_q (i := 8) (li := #[true, true, true, true, true, true, true, true, true, false, false]) rfl (by kernel_rfl) rfl (fun _ => (q_len (by kernel_rfl) rfl _)) (by kernel_rfl) ?_
  refine at_q (i := 9) (li := #[true, true, true, true, true, true, true, true, true, true, false]) rfl (by kernel_rfl) rfl (fun _ => (q_subx rfl rfl (by omega) (by omega))) (by kernel_rfl) ?_
  refine at_q (i := 10) (li := #[true, true, true, true, true, true, true, true, true, true, true]) rfl (by kernel_rfl) rfl (fun _ => (q_assign rfl)) (by kernel_rfl) ?_
  refine at_done (by kernel_rfl) (hK4 _ _ ?_)
  clear hK4 K4
  refine cw_ret ?_
  exact ⟨_, (res_tmp rfl res_nil), rfl, hT⟩

theorem room_int_nil {w : World} {M : Mem} (hs : Sat M w) :
    Does Try.prog 23 #[.pointer none] w (fun v w' => v = .int .i64 0 ∧ Step Nope M w M w') := by
  have hT := Step.refl Nope hs
  refine fn_enter Try.func23 rfl (rs := [.tmp 2]) rfl rfl rfl rfl ?_
  refine cw_rs fun K1 hK1 => ?_
  -- region 0
  refine as_q rfl rfl (q_assign rfl) ?_
  refine as_nil (hK1 _ _ ?_)
  clear hK1 K1
  refine cw_seq fun K2 hK2 => ?_
  refine cw_rs fun K3 hK3 => ?_
  -- region 1
  refine as_q rfl rfl (q_move rfl) ?_
  refine as_q rfl rfl (q_eqnil (by kernel_rfl) rfl) ?_
  refine as_nil (hK3 _ _ ?_)
  clear hK3 K3
  refine cw_true rfl ?_
  refine cw_rs fun K4 hK4 => ?_
  -- region 2
  refine as_q rfl rfl (q_assign rfl) ?_
  refine as_nil (hK4 _ _ ?_)
  clear hK4 K4
  refine cw_ret ?_
  exact ⟨_, (res_tmp rfl res_nil), rfl, hT⟩

theorem add_int {w : World} {M : Mem} {B b n : Nat} {sv : Value} {cs : List Value} {room : Int} {q : Int} (hs : Sat M w) (ht : Tbl 88 3 1 B w M b sv n cs room) (h0 : 0 ≤ room) (h1 : room ≤ 1000) (h2 : n ≤ 1000) (hlt : n < room) (hBw : B ≤ w.heap.size) :
    Does Try.prog 20 #[.pointer (some ⟨b, 0, none⟩), .int .i64 q] w (fun v w' => ∃ sv', v = .tuple #[.int .i64 n, .int .i64 0] ∧ Step (TS b sv) M w M w' ∧ Tbl 88 3 1 B w' M b sv' (n + 1) (cs ++ [.int .i64 q]) room ∧ (sv'.ownBlock = sv.ownBlock ∨ ∀ g, sv'.ownBlock = some g → w.heap.size ≤ g)) := by
  have hT := Step.refl (TS b sv) hs
  have hx1 : ∀ y ∈ [(.int .i64 q : Value)], y.oneCell' = true := by simp [Value.oneCell']
  have hblt := ht.own.1.lt
  refine fn_enter Try.func20 rfl (rs := [.tmp 4, .tmp 5]) rfl rfl rfl rfl ?_
  refine cw_rs fun K1 hK1 => ?_
  -- region 0
  refine as_q rfl rfl (q_assign rfl) ?_
  refine as_q rfl rfl (q_assign rfl) ?_
  refine as_nil (hK1 _ _ ?_)
  clear hK1 K1
  refine cw_seq fun K2 hK2 => ?_
  refine cw_rs fun K3 hK3 => ?_
  -- region 1
  refine as_q rfl rfl (q_move rfl) ?_
  refine as_h rfl (h_call (by kernel_rfl) rfl ?_)
  refine (room_int hs ht h0 h1 h2).mono ?_
  rintro _ w1 ⟨rfl, hs1⟩
  replace ht := ht.then hs1
  replace hT := (hT.then hs1)
  obtain ⟨ho, hb, hne, hB, hsv⟩ := ht
  first | refine as_q rfl rfl (q_eqT rfl rfl (by omega)) ?_ | refine as_q rfl rfl (q_eqF rfl rfl (by omega)) ?_ | refine as_q rfl rfl (q_eq rfl rfl) ?_
  refine as_nil (hK3 _ _ ?_)
  clear hK3 K3
  refine cw_false rfl ?_
  refine cw_skip ?_
  refine hK2 _ _ ?_
  clear hK2 K2
  refine cw_rs fun K4 hK4 => ?_
  -- region 3
  refine as_q rfl rfl (q_move rfl) ?_
  refine as_q rfl rfl (q_move rfl) ?_
  first | refine as_q rfl rfl (q_nilp rfl) ?_ | refine as_q rfl rfl (q_nili rfl) ?_ | refine as_q rfl rfl (q_nilf rfl) ?_ | refine as_q rfl rfl (q_nily rfl) ?_
  refine as_q rfl rfl (q_fieldAddr (off := 0) (by kernel_rfl) rfl) ?_
  refine as_q rfl rfl (q_load1 (by kernel_rfl) rfl (by first | exact Blk.cell ho.1 rfl | assumption)) ?_
  refine as_q rfl rfl (q_move rfl) ?_
  refine as_h rfl (h_buildO (e := 3) (size := 1) (zs := [(.int .i64 0)]) (cs := [_]) (by kernel_rfl) (by kernel_rfl) (by kernel_rfl) rfl hs1.sat rfl rfl fun b2 w2 hs2 ho2 e2 => ?_)
  replace ho := ho.then hs2
  replace hb := hb.then hs2
  replace hT := hT.then hs2
  have hzz := hT.size
  refine as_h rfl (h_append (e := 3) (size := 1) (bytes := 8) (by kernel_rfl) hs2.sat hb ((Own.buf ho2 (n := 1) (size := 1) rfl (by decide))).rd rfl rfl hx1 (by omega) rfl fun sv3 w3 hs3 hb3 hor3 => ?_)
  replace ho := ho.step hs3 hne
  replace hT := hT.trans hs3 (fun k _ h => Or.inr h)
  have hz3 := hT.size
  have hsv2 : ∀ g, sv3.ownBlock = some g → B ≤ g := by
    rcases hor3 with h | h
    · rw [h]; exact hsv
    · rw [h]; intro g hg; cases hg; exact Nat.le_trans hBw (by omega)
  have hfr : sv3.ownBlock = sv.ownBlock ∨ ∀ g, sv3.ownBlock = some g → w.heap.size ≤ g := by
    rcases hor3 with h | h
    · exact .inl h
    · refine .inr fun g hg => ?_
      rw [h] at hg
      have h2 := Option.some.inj hg
      omega
  have hnbhb3 : sv3.ownBlock ≠ some b := by
    rcases hor3 with h | h
    · rw [h]; exact hne
    · rw [h]; intro h; cases h; omega
  obtain ⟨a3, c3, rfl, hnc3, hnil3⟩ := hb3.slice
  first | refine as_q rfl rfl (q_nilp rfl) ?_ | refine as_q rfl rfl (q_nili rfl) ?_ | refine as_q rfl rfl (q_nilf rfl) ?_ | refine as_q rfl rfl (q_nily rfl) ?_
  refine as_q rfl rfl (q_fieldAddr (off := 0) (by kernel_rfl) rfl) ?_
  refine as_h0 (h_store hs3.sat ho rfl rfl rfl (by kernel_rfl) rfl rfl rfl fun w4 hs4 ho4 => ?_)
  replace hb3 := hb3.step hs4 (fun g hg h => by cases h; exact hnbhb3 hg)
  replace hT := hT.trans hs4 (fun k _ h => Or.inl h)
  refine as_nil (hK4 _ _ ?_)
  clear hK4 K4
  refine cw_rs fun K5 hK5 => ?_
  -- region 4
  refine as_q rfl rfl (q_move rfl) ?_
  first | refine as_q rfl rfl (q_nilp rfl) ?_ | refine as_q rfl rfl (q_nili rfl) ?_ | refine as_q rfl rfl (q_nilf rfl) ?_ | refine as_q rfl rfl (q_nily rfl) ?_
  refine as_q rfl rfl (q_fieldAddr (off := 0) (by kernel_rfl) rfl) ?_
  refine as_q rfl rfl (q_load1 (by kernel_rfl) rfl (by first | exact Blk.cell ho4.1 rfl | assumption)) ?_
  refine as_q rfl rfl (q_len (by kernel_rfl) rfl _) ?_
  refine as_q rfl rfl (q_subx rfl rfl (by omega) (by omega)) ?_
  refine as_q rfl rfl (q_assign rfl) ?_
  refine as_q rfl rfl (q_assign rfl) ?_
  refine as_nil (hK5 _ _ ?_)
  clear hK5 K5
  refine cw_ret ?_
  exact ⟨_, (res_tmp rfl (res_tmp rfl res_nil)), _, (by rw [show ((n + 1 : Nat) : Int) - 1 = n from by omega]; rfl), hT, ⟨ho4, hb3, hnbhb3, hB, hsv2⟩, hfr⟩

theorem add_int_full {w : World} {M : Mem} {B b n : Nat} {sv : Value} {cs : List Value} {room : Int} {x : Value} (hs : Sat M w) (ht : Tbl 88 3 1 B w M b sv n cs room) (h0 : 0 ≤ room) (h1 : room ≤ 1000) (h2 : n ≤ 1000) (hlt : n = room) :
    Does Try.prog 20 #[.pointer (some ⟨b, 0, none⟩), x] w (fun v w' => v = .tuple #[.int .i64 0, .int .i64 25] ∧ Step Nope M w M w') := by
  have hT := Step.refl Nope hs
  refine fn_enter Try.func20 rfl (rs := [.tmp 4, .tmp 5]) rfl rfl rfl rfl ?_
  refine cw_rs fun K1 hK1 => ?_
  -- region 0
  refine as_q rfl rfl (q_assign rfl) ?_
  refine as_q rfl rfl (q_assign rfl) ?_
  refine as_nil (hK1 _ _ ?_)
  clear hK1 K1
  refine cw_seq fun K2 hK2 => ?_
  refine cw_rs fun K3 hK3 => ?_
  -- region 1
  refine as_q rfl rfl (q_move rfl) ?_
  refine as_h rfl (h_call (by kernel_rfl) rfl ?_)
  refine (room_int hs ht h0 h1 h2).mono ?_
  rintro _ w1 ⟨rfl, hs1⟩
  replace hT := hT.then hs1
  first | refine as_q rfl rfl (q_eqT rfl rfl (by omega)) ?_ | refine as_q rfl rfl (q_eqF rfl rfl (by omega)) ?_ | refine as_q rfl rfl (q_eq rfl rfl) ?_
  refine as_nil (hK3 _ _ ?_)
  clear hK3 K3
  refine cw_true rfl ?_
  refine cw_rs fun K4 hK4 => ?_
  -- region 2
  refine as_q rfl rfl (q_assign rfl) ?_
  refine as_q rfl rfl (q_assign rfl) ?_
  refine as_nil (hK4 _ _ ?_)
  clear hK4 K4
  refine cw_ret ?_
  exact ⟨_, (res_tmp rfl (res_tmp rfl res_nil)), rfl, hT⟩

theorem add_int_nil {w : World} {M : Mem} {x : Value} (hs : Sat M w) :
    Does Try.prog 20 #[.pointer none, x] w (fun v w' => v = .tuple #[.int .i64 0, .int .i64 25] ∧ Step Nope M w M w') := by
  have hT := Step.refl Nope hs
  refine fn_enter Try.func20 rfl (rs := [.tmp 4, .tmp 5]) rfl rfl rfl rfl ?_
  refine cw_rs fun K1 hK1 => ?_
  -- region 0
  refine as_q rfl rfl (q_assign rfl) ?_
  refine as_q rfl rfl (q_assign rfl) ?_
  refine as_nil (hK1 _ _ ?_)
  clear hK1 K1
  refine cw_seq fun K2 hK2 => ?_
  refine cw_rs fun K3 hK3 => ?_
  -- region 1
  refine as_q rfl rfl (q_move rfl) ?_
  refine as_h rfl (h_call (by kernel_rfl) rfl ?_)
  refine (room_int_nil hs).mono ?_
  rintro _ w1 ⟨rfl, hs1⟩
  replace hT := hT.then hs1
  first | refine as_q rfl rfl (q_eqT rfl rfl (by omega)) ?_ | refine as_q rfl rfl (q_eqF rfl rfl (by omega)) ?_ | refine as_q rfl rfl (q_eq rfl rfl) ?_
  refine as_nil (hK3 _ _ ?_)
  clear hK3 K3
  refine cw_true rfl ?_
  refine cw_rs fun K4 hK4 => ?_
  -- region 2
  refine as_q rfl rfl (q_assign rfl) ?_
  refine as_q rfl rfl (q_assign rfl) ?_
  refine as_nil (hK4 _ _ ?_)
  clear hK4 K4
  refine cw_ret ?_
  exact ⟨_, (res_tmp rfl (res_tmp rfl res_nil)), rfl, hT⟩

theorem at_int {w : World} {M : Mem} {B b n : Nat} {sv : Value} {cs : List Value} {room : Int} {i : Int} {u : Value} (hs : Sat M w) (ht : Tbl 88 3 1 B w M b sv n cs room) (h0 : 0 ≤ i) (h1 : i < n) (hi : cs[i.toNat]? = some u) :
    Does Try.prog 25 #[.pointer (some ⟨b, 0, none⟩), .int .i64 i] w (fun v w' => v = .tuple #[u, .int .i64 0] ∧ Step Nope M w M w') := by
  have hT := Step.refl Nope hs
  obtain ⟨hlen, ⟨rfl, _⟩ | ⟨g, o, cap, rfl, hcap, _⟩⟩ := ht.buf.rd
  · omega
  refine fn_enter Try.func25 rfl (rs := [.tmp 4, .tmp 5]) rfl rfl rfl rfl ?_
  refine cw_rs fun K1 hK1 => ?_
  -- region 0
  refine as_q rfl rfl (q_assign rfl) ?_
  refine as_q rfl rfl (q_assign rfl) ?_
  refine as_nil (hK1 _ _ ?_)
  clear hK1 K1
  refine cw_seq fun K2 hK2 => ?_
  refine cw_rs fun K3 hK3 => ?_
  -- region 1
  refine as_q rfl rfl (q_move rfl) ?_
  first | refine as_q rfl rfl (q_ltT rfl rfl (by omega)) ?_ | refine as_q rfl rfl (q_ltF rfl rfl (by omega)) ?_ | refine as_q rfl rfl (q_lt rfl rfl) ?_
  refine as_q rfl rfl (q_move rfl) ?_
  refine as_gh rfl rfl rfl rfl (h_q rfl (q_move rfl) ?_)
  refine as_gh rfl rfl rfl rfl (h_q rfl (q_move rfl) ?_)
  refine as_gh rfl rfl rfl rfl (h_call (by kernel_rfl) rfl ?_)
  refine (len_int hs ht).mono ?_
  rintro _ w1 ⟨rfl, hs1⟩
  replace ht := ht.then hs1
  replace hT := hT.then hs1
  first | refine as_gh rfl rfl rfl rfl (h_q rfl (q_geT rfl rfl (by omega)) ?_) | refine as_gh rfl rfl rfl rfl (h_q rfl (q_geF rfl rfl (by omega)) ?_) | refine as_gh rfl rfl rfl rfl (h_q rfl (q_ge rfl rfl) ?_)
  first | refine as_q rfl rfl (q_pick_t rfl rfl) ?_ | refine as_q rfl rfl (q_pick_f rfl rfl) ?_ | refine as_q rfl rfl (q_pick rfl rfl rfl) ?_
  refine as_nil (hK3 _ _ ?_)
  clear hK3 K3
  refine cw_false rfl ?_
  refine cw_skip ?_
  refine hK2 _ _ ?_
  clear hK2 K2
  refine cw_rs fun K4 hK4 => ?_
  -- region 4
  refine as_q rfl rfl (q_move rfl) ?_
  first | refine as_q rfl rfl (q_nilp rfl) ?_ | refine as_q rfl rfl (q_nili rfl) ?_ | refine as_q rfl rfl (q_nilf rfl) ?_ | refine as_q rfl rfl (q_nily rfl) ?_
  refine as_q rfl rfl (q_fieldAddr (off := 0) (by kernel_rfl) rfl) ?_
  refine as_q rfl rfl (q_load1 (by kernel_rfl) rfl (by first | exact Blk.cell ht.own.1 rfl | assumption)) ?_
  refine as_q rfl rfl (q_move rfl) ?_
  refine as_q rfl rfl (q_indexAddr (e := 3) (size := 1) (by kernel_rfl) (by kernel_rfl) rfl rfl (by omega) (by omega)) ?_
  refine as_q rfl rfl (q_load1 (by kernel_rfl) rfl (ht.buf.cell (by simpa using hi))) ?_
  refine as_q rfl rfl (q_assign rfl) ?_
  refine as_q rfl rfl (q_assign rfl) ?_
  refine as_nil (hK4 _ _ ?_)
  clear hK4 K4
  refine cw_ret ?_
  exact ⟨_, (res_tmp rfl (res_tmp rfl res_nil)), rfl, hT⟩

theorem at_int_ge {w : World} {M : Mem} {B b n : Nat} {sv : Value} {cs : List Value} {room : Int} {i : Int} (hs : Sat M w) (ht : Tbl 88 3 1 B w M b sv n cs room) (h0 : 0 ≤ i) (h1 : n ≤ i) :
    Does Try.prog 25 #[.pointer (some ⟨b, 0, none⟩), .int .i64 i] w (fun v w' => v = .tuple #[.int .i64 0, .int .i64 21] ∧ Step Nope M w M w') := by
  have hT := Step.refl Nope hs
  refine fn_enter Try.func25 rfl (rs := [.tmp 4, .tmp 5]) rfl rfl rfl rfl ?_
  refine cw_rs fun K1 hK1 => ?_
  -- region 0
  refine as_q rfl rfl (q_assign rfl) ?_
  refine as_q rfl rfl (q_assign rfl) ?_
  refine as_nil (hK1 _ _ ?_)
  clear hK1 K1
  refine cw_seq fun K2 hK2 => ?_
  refine cw_rs fun K3 hK3 => ?_
  -- region 1
  refine as_q rfl rfl (q_move rfl) ?_
  first | refine as_q rfl rfl (q_ltT rfl rfl (by omega)) ?_ | refine as_q rfl rfl (q_ltF rfl rfl (by omega)) ?_ | refine as_q rfl rfl (q_lt rfl rfl) ?_
  refine as_q rfl rfl (q_move rfl) ?_
  refine as_gh rfl rfl rfl rfl (h_q rfl (q_move rfl) ?_)
  refine as_gh rfl rfl rfl rfl (h_q rfl (q_move rfl) ?_)
  refine as_gh rfl rfl rfl rfl (h_call (by kernel_rfl) rfl ?_)
  refine (len_int hs ht).mono ?_
  rintro _ w1 ⟨rfl, hs1⟩
  replace ht := ht.then hs1
  replace hT := hT.then hs1
  first | refine as_gh rfl rfl rfl rfl (h_q rfl (q_geT rfl rfl (by omega)) ?_) | refine as_gh rfl rfl rfl rfl (h_q rfl (q_geF rfl rfl (by omega)) ?_) | refine as_gh rfl rfl rfl rfl (h_q rfl (q_ge rfl rfl) ?_)
  first | refine as_q rfl rfl (q_pick_t rfl rfl) ?_ | refine as_q rfl rfl (q_pick_f rfl rfl) ?_ | refine as_q rfl rfl (q_pick rfl rfl rfl) ?_
  refine as_nil (hK3 _ _ ?_)
  clear hK3 K3
  refine cw_true rfl ?_
  refine cw_rs fun K4 hK4 => ?_
  -- region 2
  refine as_q rfl rfl (q_assign rfl) ?_
  refine as_nil (hK4 _ _ ?_)
  clear hK4 K4
  refine cw_rs fun K5 hK5 => ?_
  -- region 3
  refine as_q rfl rfl (q_move rfl) ?_
  refine as_q rfl rfl (q_assign rfl) ?_
  refine as_q rfl rfl (q_assign rfl) ?_
  refine as_nil (hK5 _ _ ?_)
  clear hK5 K5
  refine cw_ret ?_
  exact ⟨_, (res_tmp rfl (res_tmp rfl res_nil)), rfl, hT⟩

theorem at_int_neg {w : World} {M : Mem} {p : Value} {i : Int} (hs : Sat M w) (h0 : i < 0) :
    Does Try.prog 25 #[p, .int .i64 i] w (fun v w' => v = .tuple #[.int .i64 0, .int .i64 21] ∧ Step Nope M w M w') := by
  have hT := Step.refl Nope hs
  refine fn_enter Try.func25 rfl (rs := [.tmp 4, .tmp 5]) rfl rfl rfl rfl ?_
  refine cw_rs fun K1 hK1 => ?_
  -- region 0
  refine as_q rfl rfl (q_assign rfl) ?_
  refine as_q rfl rfl (q_assign rfl) ?_
  refine as_nil (hK1 _ _ ?_)
  clear hK1 K1
  refine cw_seq fun K2 hK2 => ?_
  refine cw_rs fun K3 hK3 => ?_
  -- region 1
  refine as_q rfl rfl (q_move rfl) ?_
  first | refine as_q rfl rfl (q_ltT rfl rfl (by omega)) ?_ | refine as_q rfl rfl (q_ltF rfl rfl (by omega)) ?_ | refine as_q rfl rfl (q_lt rfl rfl) ?_
  refine as_q rfl rfl (q_move rfl) ?_
  first | refine as_gskip rfl rfl rfl rfl rfl ?_ | refine as_gskipU rfl rfl rfl rfl ?_
  first | refine as_gskip rfl rfl rfl rfl rfl ?_ | refine as_gskipU rfl rfl rfl rfl ?_
  first | refine as_gskip rfl rfl rfl rfl rfl ?_ | refine as_gskipU rfl rfl rfl rfl ?_
  first | refine as_gskip rfl rfl rfl rfl rfl ?_ | refine as_gskipU rfl rfl rfl rfl ?_
  first | refine as_q rfl rfl (q_pick_t rfl rfl) ?_ | refine as_q rfl rfl (q_pick_f rfl rfl) ?_ | refine as_q rfl rfl (q_pick rfl rfl rfl) ?_
  refine as_nil (hK3 _ _ ?_)
  clear hK3 K3
  refine cw_true rfl ?_
  refine cw_rs fun K4 hK4 => ?_
  -- region 2
  refine as_q rfl rfl (q_assign rfl) ?_
  refine as_nil (hK4 _ _ ?_)
  clear hK4 K4
  refine cw_rs fun K5 hK5 => ?_
  -- region 3
  refine as_q rfl rfl (q_move rfl) ?_
  refine as_q rfl rfl (q_assign rfl) ?_
  refine as_q rfl rfl (q_assign rfl) ?_
  refine as_nil (hK5 _ _ ?_)
  clear hK5 K5
  refine cw_ret ?_
  exact ⟨_, (res_tmp rfl (res_tmp rfl res_nil)), rfl, hT⟩

theorem at_int_nil {w : World} {M : Mem} {i : Int} (hs : Sat M w) (h0 : 0 ≤ i) :
    Does Try.prog 25 #[.pointer none, .int .i64 i] w (fun v w' => v = .tuple #[.int .i64 0, .int .i64 21] ∧ Step Nope M w M w') := by
  have hT := Step.refl Nope hs
  refine fn_enter Try.func25 rfl (rs := [.tmp 4, .tmp 5]) rfl rfl rfl rfl ?_
  refine cw_rs fun K1 hK1 => ?_
  -- region 0
  refine as_q rfl rfl (q_assign rfl) ?_
  refine as_q rfl rfl (q_assign rfl) ?_
  refine as_nil (hK1 _ _ ?_)
  clear hK1 K1
  refine cw_seq fun K2 hK2 => ?_
  refine cw_rs fun K3 hK3 => ?_
  -- region 1
  refine as_q rfl rfl (q_move rfl) ?_
  first | refine as_q rfl rfl (q_ltT rfl rfl (by omega)) ?_ | refine as_q rfl rfl (q_ltF rfl rfl (by omega)) ?_ | refine as_q rfl rfl (q_lt rfl rfl) ?_
  refine as_q rfl rfl (q_move rfl) ?_
  refine as_gh rfl rfl rfl rfl (h_q rfl (q_move rfl) ?_)
  refine as_gh rfl rfl rfl rfl (h_q rfl (q_move rfl) ?_)
  refine as_gh rfl rfl rfl rfl (h_call (by kernel_rfl) rfl ?_)
  refine (len_int_nil hs).mono ?_
  rintro _ w1 ⟨rfl, hs1⟩
  replace hT := hT.then hs1
  first | refine as_gh rfl rfl rfl rfl (h_q rfl (q_geT rfl rfl (by omega)) ?_) | refine as_gh rfl rfl rfl rfl (h_q rfl (q_geF rfl rfl (by omega)) ?_) | refine as_gh rfl rfl rfl rfl (h_q rfl (q_ge rfl rfl) ?_)
  first | refine as_q rfl rfl (q_pick_t rfl rfl) ?_ | refine as_q rfl rfl (q_pick_f rfl rfl) ?_ | refine as_q rfl rfl (q_pick rfl rfl rfl) ?_
  refine as_nil (hK3 _ _ ?_)
  clear hK3 K3
  refine cw_true rfl ?_
  refine cw_rs fun K4 hK4 => ?_
  -- region 2
  refine as_q rfl rfl (q_assign rfl) ?_
  refine as_nil (hK4 _ _ ?_)
  clear hK4 K4
  refine cw_rs fun K5 hK5 => ?_
  -- region 3
  refine as_q rfl rfl (q_move rfl) ?_
  refine as_q rfl rfl (q_assign rfl) ?_
  refine as_q rfl rfl (q_assign rfl) ?_
  refine as_nil (hK5 _ _ ?_)
  clear hK5 K5
  refine cw_ret ?_
  exact ⟨_, (res_tmp rfl (res_tmp rfl res_nil)), rfl, hT⟩

theorem clone_int {w : World} {M : Mem} {n c : Nat} {p : Addr} {cs : List Value} (hs : Sat M w) (hr : ∀ w', Step Nope M w M w' → Rd w' 1 (.slice (some p) n c) n cs) (h1 : ∀ x ∈ cs, x.oneCell' = true) (hsz : n * 8 ≤ 140737488355328) :
    Does Try.prog 46 #[.slice (some p) n c] w (fun v w' => Step Nope M w M w' ∧ Buf w' M 3 1 v n cs ∧ ∀ g, v.ownBlock = some g → w.heap.size ≤ g) := by
  have hT := Step.refl Nope hs
  have hsrc := hr
  refine fn_enter Try.func46 rfl (rs := [.tmp 2]) rfl rfl rfl rfl ?_
  refine cw_rs fun K1 hK1 => ?_
  -- region 0
  refine as_q rfl rfl (q_assign rfl) ?_
  refine as_nil (hK1 _ _ ?_)
  clear hK1 K1
  refine cw_seq fun K2 hK2 => ?_
  refine cw_rs fun K3 hK3 => ?_
  -- region 1
  refine as_q rfl rfl (q_move rfl) ?_
  refine as_q rfl rfl (q_eqsl (by kernel_rfl) rfl) ?_
  refine as_nil (hK3 _ _ ?_)
  clear hK3 K3
  refine cw_false rfl ?_
  refine cw_skip ?_
  refine hK2 _ _ ?_
  clear hK2 K2
  refine cw_rs fun K4 hK4 => ?_
  -- region 3
  refine as_h rfl (h_buildO (e := 3) (size := 1) (zs := []) (cs := []) (by kernel_rfl) (by kernel_rfl) (by kernel_rfl) rfl hs rfl rfl fun b1 w1 hs1 ho1 e1 => ?_)
  replace hT := hT.then hs1
  refine as_q rfl rfl (q_move rfl) ?_
  have hbb := Own.buf ho1 (n := 0) (size := 1) rfl (by decide)
  refine as_h rfl (h_append (e := 3) (size := 1) (bytes := 8) (by kernel_rfl) hs1.sat hbb (hsrc w1 hs1) rfl rfl h1 (by omega) rfl fun sv2 w2 hs2 hb2 hor2 => ?_)
  replace hT := hT.trans hs2 (fun k hk h => by have h2 : b1 = k := Option.some.inj h; omega)
  rw [Nat.zero_add, List.nil_append] at hb2
  refine as_q rfl rfl (q_assign rfl) ?_
  refine as_nil (hK4 _ _ ?_)
  clear hK4 K4
  refine cw_ret ?_
  exact ⟨_, (res_tmp rfl res_nil), hT, hb2, fun g hg => by
    replace hg : sv2.ownBlock = some g := hg
    rcases hor2 with h | h
    · rw [h] at hg; have h2 : b1 = g := Option.some.inj hg; omega
    · rw [h] at hg; have h2 : w1.heap.size = g := Option.some.inj hg; have := hs1.size; omega⟩

theorem clone_int_nil {w : World} {M : Mem} (hs : Sat M w) :
    Does Try.prog 46 #[.slice none 0 0] w (fun v w' => v = .slice none 0 0 ∧ Step Nope M w M w') := by
  have hT := Step.refl Nope hs
  refine fn_enter Try.func46 rfl (rs := [.tmp 2]) rfl rfl rfl rfl ?_
  refine cw_rs fun K1 hK1 => ?_
  -- region 0
  refine as_q rfl rfl (q_assign rfl) ?_
  refine as_nil (hK1 _ _ ?_)
  clear hK1 K1
  refine cw_seq fun K2 hK2 => ?_
  refine cw_rs fun K3 hK3 => ?_
  -- region 1
  refine as_q rfl rfl (q_move rfl) ?_
  refine as_q rfl rfl (q_eqsl (by kernel_rfl) rfl) ?_
  refine as_nil (hK3 _ _ ?_)
  clear hK3 K3
  refine cw_true rfl ?_
  refine cw_rs fun K4 hK4 => ?_
  -- region 2
  refine as_q rfl rfl (q_assign rfl) ?_
  refine as_nil (hK4 _ _ ?_)
  clear hK4 K4
  refine cw_ret ?_
  exact ⟨_, (res_tmp rfl res_nil), rfl, hT⟩

theorem all_int_nil {w : World} {M : Mem} {B b : Nat} {room : Int} (hs : Sat M w) (ht : Tbl 88 3 1 B w M b (.slice none 0 0) 0 [] room) :
    Does Try.prog 24 #[.pointer (some ⟨b, 0, none⟩)] w (fun v w' => Step Nope M w M w' ∧ Buf w' M 3 1 v 0 [] ∧ ∀ g, v.ownBlock = some g → w.heap.size ≤ g) := by
  have hT := Step.refl Nope hs
  refine fn_enter Try.func24 rfl (rs := [.tmp 2]) rfl rfl rfl rfl ?_
  refine cw_rs fun K1 hK1 => ?_
  -- region 0
  refine as_q rfl rfl (q_assign rfl) ?_
  refine as_nil (hK1 _ _ ?_)
  clear hK1 K1
  refine cw_seq fun K2 hK2 => ?_
  refine cw_rs fun K3 hK3 => ?_
  -- region 1
  refine as_q rfl rfl (q_move rfl) ?_
  refine as_q rfl rfl (q_eqnil (by kernel_rfl) rfl) ?_
  refine as_nil (hK3 _ _ ?_)
  clear hK3 K3
  refine cw_false rfl ?_
  refine cw_skip ?_
  refine hK2 _ _ ?_
  clear hK2 K2
  refine cw_rs fun K4 hK4 => ?_
  -- region 3
  refine as_q rfl rfl (q_move rfl) ?_
  first | refine as_q rfl rfl (q_nilp rfl) ?_ | refine as_q rfl rfl (q_nili rfl) ?_ | refine as_q rfl rfl (q_nilf rfl) ?_ | refine as_q rfl rfl (q_nily rfl) ?_
  refine as_q rfl rfl (q_fieldAddr (off := 0) (by kernel_rfl) rfl) ?_
  refine as_q rfl rfl (q_load1 (by kernel_rfl) rfl (by first | exact Blk.cell ht.own.1 rfl | assumption)) ?_
  refine as_h rfl (h_call (by kernel_rfl) rfl ?_)
  refine (clone_int_nil hs).mono ?_
  rintro _ w1 ⟨rfl, hs1⟩
  replace ht := ht.then hs1
  replace hT := hT.then hs1
  refine as_q rfl rfl (q_assign rfl) ?_
  refine as_nil (hK4 _ _ ?_)
  clear hK4 K4
  refine cw_ret ?_
  exact ⟨_, (res_tmp rfl res_nil), hT, Buf.nil _ _ _ _, fun g hg => (by cases hg)⟩

theorem all_int_some {w : World} {M : Mem} {B b n c : Nat} {p : Addr} {cs : List Value} {room : Int} (hs : Sat M w) (ht : Tbl 88 3 1 B w M b (.slice (some p) n c) n cs room) (h1 : ∀ x ∈ cs, x.oneCell' = true) (hsz : n * 8 ≤ 140737488355328) :
    Does Try.prog 24 #[.pointer (some ⟨b, 0, none⟩)] w (fun v w' => Step Nope M w M w' ∧ Buf w' M 3 1 v n cs ∧ ∀ g, v.ownBlock = some g → w.heap.size ≤ g) := by
  have hT := Step.refl Nope hs
  refine fn_enter Try.func24 rfl (rs := [.tmp 2]) rfl rfl rfl rfl ?_
  refine cw_rs fun K1 hK1 => ?_
  -- region 0
  refine as_q rfl rfl (q_assign rfl) ?_
  refine as_nil (hK1 _ _ ?_)
  clear hK1 K1
  refine cw_seq fun K2 hK2 => ?_
  refine cw_rs fun K3 hK3 => ?_
  -- region 1
  refine as_q rfl rfl (q_move rfl) ?_
  refine as_q rfl rfl (q_eqnil (by kernel_rfl) rfl) ?_
  refine as_nil (hK3 _ _ ?_)
  clear hK3 K3
  refine cw_false rfl ?_
  refine cw_skip ?_
  refine hK2 _ _ ?_
  clear hK2 K2
  refine cw_rs fun K4 hK4 => ?_
  -- region 3
  refine as_q rfl rfl (q_move rfl) ?_
  first | refine as_q rfl rfl (q_nilp rfl) ?_ | refine as_q rfl rfl (q_nili rfl) ?_ | refine as_q rfl rfl (q_nilf rfl) ?_ | refine as_q rfl rfl (q_nily rfl) ?_
  refine as_q rfl rfl (q_fieldAddr (off := 0) (by kernel_rfl) rfl) ?_
  refine as_q rfl rfl (q_load1 (by kernel_rfl) rfl (by first | exact Blk.cell ht.own.1 rfl | assumption)) ?_
  refine as_h rfl (h_call (by kernel_rfl) rfl ?_)
  refine (clone_int hs (fun w' h => (ht.then h).buf.rd) h1 hsz).mono ?_
  rintro v1 w1 ⟨hs1, hv, hvn⟩
  replace ht := ht.then hs1
  replace hT := hT.then hs1
  refine as_q rfl rfl (q_assign rfl) ?_
  refine as_nil (hK4 _ _ ?_)
  clear hK4 K4
  refine cw_ret ?_
  exact ⟨_, (res_tmp rfl res_nil), hT, hv, hvn⟩

theorem all_int {w : World} {M : Mem} {B b n : Nat} {sv : Value} {cs : List Value} {room : Int} (hs : Sat M w) (ht : Tbl 88 3 1 B w M b sv n cs room) (h1 : ∀ x ∈ cs, x.oneCell' = true) (hsz : n * 8 ≤ 140737488355328) :
    Does Try.prog 24 #[.pointer (some ⟨b, 0, none⟩)] w (fun v w' => Step Nope M w M w' ∧ Buf w' M 3 1 v n cs ∧ ∀ g, v.ownBlock = some g → w.heap.size ≤ g) := by
  obtain ⟨⟨hl, ⟨rfl, rfl⟩ | ⟨g, cap, cur, rfl, _⟩⟩, _⟩ := ht.buf
  · obtain rfl : cs = [] := List.eq_nil_of_length_eq_zero (by simpa using hl)
    exact all_int_nil hs ht
  · exact all_int_some hs ht h1 hsz

theorem all_int_none {w : World} {M : Mem} (hs : Sat M w) :
    Does Try.prog 24 #[.pointer none] w (fun v w' => v = .slice none 0 0 ∧ Step Nope M w M w') := by
  have hT := Step.refl Nope hs
  refine fn_enter Try.func24 rfl (rs := [.tmp 2]) rfl rfl rfl rfl ?_
  refine cw_rs fun K1 hK1 => ?_
  -- region 0
  refine as_q rfl rfl (q_assign rfl) ?_
  refine as_nil (hK1 _ _ ?_)
  clear hK1 K1
  refine cw_seq fun K2 hK2 => ?_
  refine cw_rs fun K3 hK3 => ?_
  -- region 1
  refine as_q rfl rfl (q_move rfl) ?_
  refine as_q rfl rfl (q_eqnil (by kernel_rfl) rfl) ?_
  refine as_nil (hK3 _ _ ?_)
  clear hK3 K3
  refine cw_true rfl ?_
  refine cw_rs fun K4 hK4 => ?_
  -- region 2
  refine as_q rfl rfl (q_assign rfl) ?_
  refine as_nil (hK4 _ _ ?_)
  clear hK4 K4
  refine cw_ret ?_
  exact ⟨_, (res_tmp rfl res_nil), rfl, hT⟩

theorem new_string {w : World} {M : Mem} {B : Nat} {room : Int} (hs : Sat M w) (hB : B ≤ w.heap.size) (h0 : 0 ≤ room) :
    Does Try.prog 13 #[.int .i64 room] w (fun v w' => ∃ b, v = .pointer (some ⟨b, 0, none⟩) ∧ Step Nope M w M w' ∧ Tbl 86 9 1 B w' M b (.slice none 0 0) 0 [] room) := by
  have hT := Step.refl Nope hs
  have hroom : (if 0 > room then 0 else room) = room := if_neg (by omega)
  refine fn_enter Try.func13 rfl (rs := [.tmp 2]) rfl rfl rfl rfl ?_
  refine cw_rs fun K1 hK1 => ?_
  -- region 0
  refine as_q rfl rfl (q_assign rfl) ?_
  refine as_nil (hK1 _ _ ?_)
  clear hK1 K1
  refine cw_rs fun K2 hK2 => ?_
  -- region 1
  refine as_q rfl rfl (q_move rfl) ?_
  refine as_q rfl rfl (q_max2 rfl rfl) ?_
  refine as_q rfl rfl (q_build (zs := [(.slice none 0 0), (.int .i64 0)]) (places := [(0, 1), (1, 1)]) (cs := [_, _]) (by kernel_rfl) (by kernel_rfl) rfl rfl) ?_
  refine as_h rfl (h_boxO hs rfl rfl fun b1 w1 hs1 ho1 e1 => ?_)
  replace hT := hT.then hs1
  refine as_q rfl rfl (q_assign rfl) ?_
  refine as_nil (hK2 _ _ ?_)
  clear hK2 K2
  refine cw_ret ?_
  rw [hroom] at ho1
  exact ⟨_, (res_tmp rfl res_nil), _, rfl, hT, ⟨ho1, Buf.nil _ _ _ _, by simp [Value.ownBlock], by omega, by intro g hg; cases hg⟩⟩

theorem len_string {w : World} {M : Mem} {B b n : Nat} {sv : Value} {cs : List Value} {room : Int} (hs : Sat M w) (ht : Tbl 86 9 1 B w M b sv n cs room) :
    Does Try.prog 16 #[.pointer (some ⟨b, 0, none⟩)] w (fun v w' => v = .int .i64 n ∧ Step Nope M w M w') := by
  obtain ⟨ho, hb, hne, hB, hsv⟩ := ht
  obtain ⟨a, c, rfl, hnc, hnil⟩ := hb.slice
  have hT := Step.refl Nope hs
  refine fn_enter Try.func16 rfl (rs := [.tmp 2]) rfl rfl rfl rfl ?_
  refine cw_rs fun K1 hK1 => ?_
  -- region 0
  refine as_q rfl rfl (q_assign rfl) ?_
  refine as_nil (hK1 _ _ ?_)
  clear hK1 K1
  refine cw_seq fun K2 hK2 => ?_
  refine cw_rs fun K3 hK3 => ?_
  -- region 1
  refine as_q rfl rfl (q_move rfl) ?_
  refine as_q rfl rfl (q_eqnil (by kernel_rfl) rfl) ?_
  refine as_nil (hK3 _ _ ?_)
  clear hK3 K3
  refine cw_false rfl ?_
  refine cw_skip ?_
  refine hK2 _ _ ?_
  clear hK2 K2
  refine cw_rs fun K4 hK4 => ?_
  -- region 3
  refine as_q rfl rfl (q_move rfl) ?_
  first | refine as_q rfl rfl (q_nilp rfl) ?_ | refine as_q rfl rfl (q_nili rfl) ?_ | refine as_q rfl rfl (q_nilf rfl) ?_ | refine as_q rfl rfl (q_nily rfl) ?_
  refine as_q rfl rfl (q_fieldAddr (off := 0) (by kernel_rfl) rfl) ?_
  refine as_q rfl rfl (q_load1 (by kernel_rfl) rfl (by first | exact Blk.cell ho.1 rfl | assumption)) ?_
  refine as_q rfl rfl (q_len (by kernel_rfl) rfl _) ?_
  refine as_q rfl rfl (q_assign rfl) ?_
  refine as_nil (hK4 _ _ ?_)
  clear hK4 K4
  refine cw_ret ?_
  exact ⟨_, (res_tmp rfl res_nil), rfl, hT⟩

theorem len_string_nil {w : World} {M : Mem} (hs : Sat M w) :
    Does Try.prog 16 #[.pointer none] w (fun v w' => v = .int .i64 0 ∧ Step Nope M w M w') := by
  have hT := Step.refl Nope hs
  refine fn_enter Try.func16 rfl (rs := [.tmp 2]) rfl rfl rfl rfl ?_
  refine cw_rs fun K1 hK1 => ?_
  -- region 0
  refine as_q rfl rfl (q_assign rfl) ?_
  refine as_nil (hK1 _ _ ?_)
  clear hK1 K1
  refine cw_seq fun K2 hK2 => ?_
  refine cw_rs fun K3 hK3 => ?_
  -- region 1
  refine as_q rfl rfl (q_move rfl) ?_
  refine as_q rfl rfl (q_eqnil (by kernel_rfl) rfl) ?_
  refine as_nil (hK3 _ _ ?_)
  clear hK3 K3
  refine cw_true rfl ?_
  refine cw_rs fun K4 hK4 => ?_
  -- region 2
  refine as_q rfl rfl (q_assign rfl) ?_
  refine as_nil (hK4 _ _ ?_)
  clear hK4 K4
  refine cw_ret ?_
  exact ⟨_, (res_tmp rfl res_nil), rfl, hT⟩

theorem room_string {w : World} {M : Mem} {B b n : Nat} {sv : Value} {cs : List Value} {room : Int} (hs : Sat M w) (ht : Tbl 86 9 1 B w M b sv n cs room) (h0 : 0 ≤ room) (h1 : room ≤ 1000) (h2 : n ≤ 1000) :
    Does Try.prog 17 #[.pointer (some ⟨b, 0, none⟩)] w (fun v w' => v = .int .i64 (room - n) ∧ Step Nope M w M w') := by
  obtain ⟨ho, hb, hne, hB, hsv⟩ := ht
  obtain ⟨a, c, rfl, hnc, hnil⟩ := hb.slice
  have hT := Step.refl Nope hs
  refine fn_enter Try.func17 rfl (rs := [.tmp 2]) rfl rfl rfl rfl ?_
  refine cw_rs fun K1 hK1 => ?_
  -- region 0
  refine as_q rfl rfl (q_assign rfl) ?_
  refine as_nil (hK1 _ _ ?_)
  clear hK1 K1
  refine cw_seq fun K2 hK2 => ?_
  refine cw_rs fun K3 hK3 => ?_
  -- region 1
  refine as_q rfl rfl (q_move rfl) ?_
  refine as_q rfl rfl (q_eqnil (by kernel_rfl) rfl) ?_
  refine as_nil (hK3 _ _ ?_)
  clear hK3 K3
  refine cw_false rfl ?_
  refine cw_skip ?_
  refine hK2 _ _ ?_
  clear hK2 K2
  refine cw_rd (by kernel_rfl) (by kernel_rfl) (by kernel_rfl) rfl rfl fun K4 hK4 => ?_
  -- region 3
  have hs1 := Step.drew hs
  replace ho := ho.then hs1
  replace hb := hb.then hs1
  replace hT := hT.then hs1
  refine at_q (i := 0) (li := #[true, false, false, false, false, false, false, false, false, false, false]) rfl (by kernel_rfl) rfl (fun _ => (q_move rfl)) (by kernel_rfl) ?_
  first | refine at_q (i := 1) (li := #[true, true, false, false, false, false, false, false, false, false, false]) rfl (by kernel_rfl) rfl (fun _ => (q_nilp rfl)) (by kernel_rfl) ?_ | refine at_q (i := 1) (li := #[true, true, false, false, false, false, false, false, false, false, false]) rfl (by kernel_rfl) rfl (fun _ => (q_nili rfl)) (by kernel_rfl) ?_ | refine at_q (i := 1) (li := #[true, true, false, false, false, false, false, false, false, false, false]) rfl (by kernel_rfl) rfl (fun _ => (q_nilf rfl)) (by kernel_rfl) ?_ | refine at_q (i := 1) (li := #[true, true, false, false, false, false, false, false, false, false, false]) rfl (by kernel_rfl) rfl (fun _ => (q_nily rfl)) (by kernel_rfl) ?_
  refine at_q (i := 2) (li := #[true, true, true, false, false, false, false, false, false, false, false]) rfl (by kernel_rfl) rfl (fun _ => (q_fieldAddr (off := 1) (by kernel_rfl) rfl)) (by kernel_rfl) ?_
  refine at_l (i := 3) (li := #[true, true, true, true, false, false, false, false, false, false, false]) (cellIs _ _ _) rfl (by kernel_rfl) rfl (fun _ h => q_load1 (by kernel_rfl) rfl h) (by first | exact Blk.cell ho.1 rfl | assumption) (by kernel_rfl) ?_
  refine at_q (i := 4) (li := #[true, true, true, true, true, false, false, false, false, false, false]) rfl (by kernel_rfl) rfl (fun _ => (q_move rfl)) (by kernel_rfl) ?_
  first | refine at_q (i := 5) (li := #[true, true, true, true, true, true, false, false, false, false, false]) rfl (by kernel_rfl) rfl (fun _ => (q_nilp rfl)) (by kernel_rfl) ?_ | refine at_q (i := 5) (li := #[true, true, true, true, true, true, false, false, false, false, false]) rfl (by kernel_rfl) rfl (fun _ => (q_nili rfl)) (by kernel_rfl) ?_ | refine at_q (i := 5) (li := #[true, true, true, true, true, true, false, false, false, false, false]) rfl (by kernel_rfl) rfl (fun _ => (q_nilf rfl)) (by kernel_rfl) ?_ | refine at_q (i := 5) (li := #[true, true, true, true, true, true, false, false, false, false, false]) rfl (by kernel_rfl) rfl (fun _ => (q_nily rfl)) (by kernel_rfl) ?_
  refine at_q (i := 6) (li := #[true, true, true, true, true, true, true, false, false, false, false]) rfl (by kernel_rfl) rfl (fun _ => (q_fieldAddr (off := 0) (by kernel_rfl) rfl)) (by kernel_rfl) ?_
  refine at_l (i := 7) (li := #[true, true, true, true, true, true, true, true, false, false, false]) (cellIs _ _ _) rfl (by kernel_rfl) rfl (fun _ h => q_load1 (by kernel_rfl) rfl h) (by first | exact Blk.cell ho.1 rfl | assumption) (by kernel_rfl) ?_
  refine at_q (i := 8) (li := #[true, true, true, true, true, true, true, true, true, false, false]) rfl (by kernel_rfl) rfl (fun _ => (q_len (by kernel_rfl) rfl _)) (by kernel_rfl) ?_
  refine at_q (i := 9) (li := #[true, true, true, true, true, true, true, true, true, true, false]) rfl (by kernel_rfl) rfl (fun _ => (q_subx rfl rfl (by omega) (by omega))) (by kernel_rfl) ?_
  refine at_q (i := 10) (li := #[true, true, true, true, true, true, true, true, true, true, true]) rfl (by kernel_rfl) rfl (fun _ => (q_assign rfl)) (by kernel_rfl) ?_
  refine at_done (by kernel_rfl) (hK4 _ _ ?_)
  clear hK4 K4
  refine cw_ret ?_
  exact ⟨_, (res_tmp rfl res_nil), rfl, hT⟩

theorem room_string_nil {w : World} {M : Mem} (hs : Sat M w) :
    Does Try.prog 17 #[.pointer none] w (fun v w' => v = .int .i64 0 ∧ Step Nope M w M w') := by
  have hT := Step.refl Nope hs
  refine fn_enter Try.func17 rfl (rs := [.tmp 2]) rfl rfl rfl rfl ?_
  refine cw_rs fun K1 hK1 => ?_
  -- region 0
  refine as_q rfl rfl (q_assign rfl) ?_
  refine as_nil (hK1 _ _ ?_)
  clear hK1 K1
  refine cw_seq fun K2 hK2 => ?_
  refine cw_rs fun K3 hK3 => ?_
  -- region 1
  refine as_q rfl rfl (q_move rfl) ?_
  refine as_q rfl rfl (q_eqnil (by kernel_rfl) rfl) ?_
  refine as_nil (hK3 _ _ ?_)
  clear hK3 K3
  refine cw_true rfl ?_
  refine cw_rs fun K4 hK4 => ?_
  -- region 2
  refine as_q rfl rfl (q_assign rfl) ?_
  refine as_nil (hK4 _ _ ?_)
  clear hK4 K4
  refine cw_ret ?_
  exact ⟨_, (res_tmp rfl res_nil), rfl, hT⟩

theorem add_string {w : World} {M : Mem} {B b n : Nat} {sv : Value} {cs : List Value} {room : Int} {q : ByteArray} (hs : Sat M w) (ht : Tbl 86 9 1 B w M b sv n cs room) (h0 : 0 ≤ room) (h1 : room ≤ 1000) (h2 : n ≤ 1000) (hlt : n < room) (hBw : B ≤ w.heap.size) :
    Does Try.prog 14 #[.pointer (some ⟨b, 0, none⟩), .string q] w (fun v w' => ∃ sv', v = .tuple #[.int .i64 n, .int .i64 0] ∧ Step (TS b sv) M w M w' ∧ Tbl 86 9 1 B w' M b sv' (n + 1) (cs ++ [.string q]) room ∧ (sv'.ownBlock = sv.ownBlock ∨ ∀ g, sv'.ownBlock = some g → w.heap.size ≤ g)) := by
  have hT := Step.refl (TS b sv) hs
  have hx1 : ∀ y ∈ [(.string q : Value)], y.oneCell' = true := by simp [Value.oneCell']
  have hblt := ht.own.1.lt
  refine fn_enter Try.func14 rfl (rs := [.tmp 4, .tmp 5]) rfl rfl rfl rfl ?_
  refine cw_rs fun K1 hK1 => ?_
  -- region 0
  refine as_q rfl rfl (q_assign rfl) ?_
  refine as_q rfl rfl (q_assign rfl) ?_
  refine as_nil (hK1 _ _ ?_)
  clear hK1 K1
  refine cw_seq fun K2 hK2 => ?_
  refine cw_rs fun K3 hK3 => ?_
  -- region 1
  refine as_q rfl rfl (q_move rfl) ?_
  refine as_h rfl (h_call (by kernel_rfl) rfl ?_)
  refine (room_string hs ht h0 h1 h2).mono ?_
  rintro _ w1 ⟨rfl, hs1⟩
  replace ht := ht.then hs1
  replace hT := (hT.then hs1)
  obtain ⟨ho, hb, hne, hB, hsv⟩ := ht
  first | refine as_q rfl rfl (q_eqT rfl rfl (by omega)) ?_ | refine as_q rfl rfl (q_eqF rfl rfl (by omega)) ?_ | refine as_q rfl rfl (q_eq rfl rfl) ?_
  refine as_nil (hK3 _ _ ?_)
  clear hK3 K3
  refine cw_false rfl ?_
  refine cw_skip ?_
  refine hK2 _ _ ?_
  clear hK2 K2
  refine cw_rs fun K4 hK4 => ?_
  -- region 3
  refine as_q rfl rfl (q_move rfl) ?_
  refine as_q rfl rfl (q_move rfl) ?_
  first | refine as_q rfl rfl (q_nilp rfl) ?_ | refine as_q rfl rfl (q_nili rfl) ?_ | refine as_q rfl rfl (q_nilf rfl) ?_ | refine as_q rfl rfl (q_nily rfl) ?_
  refine as_q rfl rfl (q_fieldAddr (off := 0) (by kernel_rfl) rfl) ?_
  refine as_q rfl rfl (q_load1 (by kernel_rfl) rfl (by first | exact Blk.cell ho.1 rfl | assumption)) ?_
  refine as_q rfl rfl (q_move rfl) ?_
  refine as_h rfl (h_buildO (e := 9) (size := 1) (zs := [(.string ⟨#[]⟩)]) (cs := [_]) (by kernel_rfl) (by kernel_rfl) (by kernel_rfl) rfl hs1.sat rfl rfl fun b2 w2 hs2 ho2 e2 => ?_)
  replace ho := ho.then hs2
  replace hb := hb.then hs2
  replace hT := hT.then hs2
  have hzz := hT.size
  refine as_h rfl (h_append (e := 9) (size := 1) (bytes := 16) (by kernel_rfl) hs2.sat hb ((Own.buf ho2 (n := 1) (size := 1) rfl (by decide))).rd rfl rfl hx1 (by omega) rfl fun sv3 w3 hs3 hb3 hor3 => ?_)
  replace ho := ho.step hs3 hne
  replace hT := hT.trans hs3 (fun k _ h => Or.inr h)
  have hz3 := hT.size
  have hsv2 : ∀ g, sv3.ownBlock = some g → B ≤ g := by
    rcases hor3 with h | h
    · rw [h]; exact hsv
    · rw [h]; intro g hg; cases hg; exact Nat.le_trans hBw (by omega)
  have hfr : sv3.ownBlock = sv.ownBlock ∨ ∀ g, sv3.ownBlock = some g → w.heap.size ≤ g := by
    rcases hor3 with h | h
    · exact .inl h
    · refine .inr fun g hg => ?_
      rw [h] at hg
      have h2 := Option.some.inj hg
      omega
  have hnbhb3 : sv3.ownBlock ≠ some b := by
    rcases hor3 with h | h
    · rw [h]; exact hne
    · rw [h]; intro h; cases h; omega
  obtain ⟨a3, c3, rfl, hnc3, hnil3⟩ := hb3.slice
  first | refine as_q rfl rfl (q_nilp rfl) ?_ | refine as_q rfl rfl (q_nili rfl) ?_ | refine as_q rfl rfl (q_nilf rfl) ?_ | refine as_q rfl rfl (q_nily rfl) ?_
  refine as_q rfl rfl (q_fieldAddr (off := 0) (by kernel_rfl) rfl) ?_
  refine as_h0 (h_store hs3.sat ho rfl rfl rfl (by kernel_rfl) rfl rfl rfl fun w4 hs4 ho4 => ?_)
  replace hb3 := hb3.step hs4 (fun g hg h => by cases h; exact hnbhb3 hg)
  replace hT := hT.trans hs4 (fun k _ h => Or.inl h)
  refine as_nil (hK4 _ _ ?_)
  clear hK4 K4
  refine cw_rs fun K5 hK5 => ?_
  -- region 4
  refine as_q rfl rfl (q_move rfl) ?_
  first | refine as_q rfl rfl (q_nilp rfl) ?_ | refine as_q rfl rfl (q_nili rfl) ?_ | refine as_q rfl rfl (q_nilf rfl) ?_ | refine as_q rfl rfl (q_nily rfl) ?_
  refine as_q rfl rfl (q_fieldAddr (off := 0) (by kernel_rfl) rfl) ?_
  refine as_q rfl rfl (q_load1 (by kernel_rfl) rfl (by first | exact Blk.cell ho4.1 rfl | assumption)) ?_
  refine as_q rfl rfl (q_len (by kernel_rfl) rfl _) ?_
  refine as_q rfl rfl (q_subx rfl rfl (by omega) (by omega)) ?_
  refine as_q rfl rfl (q_assign rfl) ?_
  refine as_q rfl rfl (q_assign rfl) ?_
  refine as_nil (hK5 _ _ ?_)
  clear hK5 K5
  refine cw_ret ?_
  exact ⟨_, (res_tmp rfl (res_tmp rfl res_nil)), _, (by rw [show ((n + 1 : Nat) : Int) - 1 = n from by omega]; rfl), hT, ⟨ho4, hb3, hnbhb3, hB, hsv2⟩, hfr⟩

theorem add_string_full {w : World} {M : Mem} {B b n : Nat} {sv : Value} {cs : List Value} {room : Int} {x : Value} (hs : Sat M w) (ht : Tbl 86 9 1 B w M b sv n cs room) (h0 : 0 ≤ room) (h1 : room ≤ 1000) (h2 : n ≤ 1000) (hlt : n = room) :
    Does Try.prog 14 #[.pointer (some ⟨b, 0, none⟩), x] w (fun v w' => v = .tuple #[.int .i64 0, .int .i64 25] ∧ Step Nope M w M w') := by
  have hT := Step.refl Nope hs
  refine fn_enter Try.func14 rfl (rs := [.tmp 4, .tmp 5]) rfl rfl rfl rfl ?_
  refine cw_rs fun K1 hK1 => ?_
  -- region 0
  refine as_q rfl rfl (q_assign rfl) ?_
  refine as_q rfl rfl (q_assign rfl) ?_
  refine as_nil (hK1 _ _ ?_)
  clear hK1 K1
  refine cw_seq fun K2 hK2 => ?_
  refine cw_rs fun K3 hK3 => ?_
  -- region 1
  refine as_q rfl rfl (q_move rfl) ?_
  refine as_h rfl (h_call (by kernel_rfl) rfl ?_)
  refine (room_string hs ht h0 h1 h2).mono ?_
  rintro _ w1 ⟨rfl, hs1⟩
  replace hT := hT.then hs1
  first | refine as_q rfl rfl (q_eqT rfl rfl (by omega)) ?_ | refine as_q rfl rfl (q_eqF rfl rfl (by omega)) ?_ | refine as_q rfl rfl (q_eq rfl rfl) ?_
  refine as_nil (hK3 _ _ ?_)
  clear hK3 K3
  refine cw_true rfl ?_
  refine cw_rs fun K4 hK4 => ?_
  -- region 2
  refine as_q rfl rfl (q_assign rfl) ?_
  refine as_q rfl rfl (q_assign rfl) ?_
  refine as_nil (hK4 _ _ ?_)
  clear hK4 K4
  refine cw_ret ?_
  exact ⟨_, (res_tmp rfl (res_tmp rfl res_nil)), rfl, hT⟩

theorem add_string_nil {w : World} {M : Mem} {x : Value} (hs : Sat M w) :
    Does Try.prog 14 #[.pointer none, x] w (fun v w' => v = .tuple #[.int .i64 0, .int .i64 25] ∧ Step Nope M w M w') := by
  have hT := Step.refl Nope hs
  refine fn_enter Try.func14 rfl (rs := [.tmp 4, .tmp 5]) rfl rfl rfl rfl ?_
  refine cw_rs fun K1 hK1 => ?_
  -- region 0
  refine as_q rfl rfl (q_assign rfl) ?_
  refine as_q rfl rfl (q_assign rfl) ?_
  refine as_nil (hK1 _ _ ?_)
  clear hK1 K1
  refine cw_seq fun K2 hK2 => ?_
  refine cw_rs fun K3 hK3 => ?_
  -- region 1
  refine as_q rfl rfl (q_move rfl) ?_
  refine as_h rfl (h_call (by kernel_rfl) rfl ?_)
  refine (room_string_nil hs).mono ?_
  rintro _ w1 ⟨rfl, hs1⟩
  replace hT := hT.then hs1
  first | refine as_q rfl rfl (q_eqT rfl rfl (by omega)) ?_ | refine as_q rfl rfl (q_eqF rfl rfl (by omega)) ?_ | refine as_q rfl rfl (q_eq rfl rfl) ?_
  refine as_nil (hK3 _ _ ?_)
  clear hK3 K3
  refine cw_true rfl ?_
  refine cw_rs fun K4 hK4 => ?_
  -- region 2
  refine as_q rfl rfl (q_assign rfl) ?_
  refine as_q rfl rfl (q_assign rfl) ?_
  refine as_nil (hK4 _ _ ?_)
  clear hK4 K4
  refine cw_ret ?_
  exact ⟨_, (res_tmp rfl (res_tmp rfl res_nil)), rfl, hT⟩

theorem at_string {w : World} {M : Mem} {B b n : Nat} {sv : Value} {cs : List Value} {room : Int} {i : Int} {u : Value} (hs : Sat M w) (ht : Tbl 86 9 1 B w M b sv n cs room) (h0 : 0 ≤ i) (h1 : i < n) (hi : cs[i.toNat]? = some u) :
    Does Try.prog 15 #[.pointer (some ⟨b, 0, none⟩), .int .i64 i] w (fun v w' => v = .tuple #[u, .int .i64 0] ∧ Step Nope M w M w') := by
  have hT := Step.refl Nope hs
  obtain ⟨hlen, ⟨rfl, _⟩ | ⟨g, o, cap, rfl, hcap, _⟩⟩ := ht.buf.rd
  · omega
  refine fn_enter Try.func15 rfl (rs := [.tmp 4, .tmp 5]) rfl rfl rfl rfl ?_
  refine cw_rs fun K1 hK1 => ?_
  -- region 0
  refine as_q rfl rfl (q_assign rfl) ?_
  refine as_q rfl rfl (q_assign rfl) ?_
  refine as_nil (hK1 _ _ ?_)
  clear hK1 K1
  refine cw_seq fun K2 hK2 => ?_
  refine cw_rs fun K3 hK3 => ?_
  -- region 1
  refine as_q rfl rfl (q_move rfl) ?_
  first | refine as_q rfl rfl (q_ltT rfl rfl (by omega)) ?_ | refine as_q rfl rfl (q_ltF rfl rfl (by omega)) ?_ | refine as_q rfl rfl (q_lt rfl rfl) ?_
  refine as_q rfl rfl (q_move rfl) ?_
  refine as_gh rfl rfl rfl rfl (h_q rfl (q_move rfl) ?_)
  refine as_gh rfl rfl rfl rfl (h_q rfl (q_move rfl) ?_)
  refine as_gh rfl rfl rfl rfl (h_call (by kernel_rfl) rfl ?_)
  refine (len_string hs ht).mono ?_
  rintro _ w1 ⟨rfl, hs1⟩
  replace ht := ht.then hs1
  replace hT := hT.then hs1
  first | refine as_gh rfl rfl rfl rfl (h_q rfl (q_geT rfl rfl (by omega)) ?_) | refine as_gh rfl rfl rfl rfl (h_q rfl (q_geF rfl rfl (by omega)) ?_) | refine as_gh rfl rfl rfl rfl (h_q rfl (q_ge rfl rfl) ?_)
  first | refine as_q rfl rfl (q_pick_t rfl rfl) ?_ | refine as_q rfl rfl (q_pick_f rfl rfl) ?_ | refine as_q rfl rfl (q_pick rfl rfl rfl) ?_
  refine as_nil (hK3 _ _ ?_)
  clear hK3 K3
  refine cw_false rfl ?_
  refine cw_skip ?_
  refine hK2 _ _ ?_
  clear hK2 K2
  refine cw_rs fun K4 hK4 => ?_
  -- region 4
  refine as_q rfl rfl (q_move rfl) ?_
  first | refine as_q rfl rfl (q_nilp rfl) ?_ | refine as_q rfl rfl (q_nili rfl) ?_ | refine as_q rfl rfl (q_nilf rfl) ?_ | refine as_q rfl rfl (q_nily rfl) ?_
  refine as_q rfl rfl (q_fieldAddr (off := 0) (by kernel_rfl) rfl) ?_
  refine as_q rfl rfl (q_load1 (by kernel_rfl) rfl (by first | exact Blk.cell ht.own.1 rfl | assumption)) ?_
  refine as_q rfl rfl (q_move rfl) ?_
  refine as_q rfl rfl (q_indexAddr (e := 9) (size := 1) (by kernel_rfl) (by kernel_rfl) rfl rfl (by omega) (by omega)) ?_
  refine as_q rfl rfl (q_load1 (by kernel_rfl) rfl (ht.buf.cell (by simpa using hi))) ?_
  refine as_q rfl rfl (q_assign rfl) ?_
  refine as_q rfl rfl (q_assign rfl) ?_
  refine as_nil (hK4 _ _ ?_)
  clear hK4 K4
  refine cw_ret ?_
  exact ⟨_, (res_tmp rfl (res_tmp rfl res_nil)), rfl, hT⟩

theorem at_string_ge {w : World} {M : Mem} {B b n : Nat} {sv : Value} {cs : List Value} {room : Int} {i : Int} (hs : Sat M w) (ht : Tbl 86 9 1 B w M b sv n cs room) (h0 : 0 ≤ i) (h1 : n ≤ i) :
    Does Try.prog 15 #[.pointer (some ⟨b, 0, none⟩), .int .i64 i] w (fun v w' => v = .tuple #[.string ⟨#[]⟩, .int .i64 21] ∧ Step Nope M w M w') := by
  have hT := Step.refl Nope hs
  refine fn_enter Try.func15 rfl (rs := [.tmp 4, .tmp 5]) rfl rfl rfl rfl ?_
  refine cw_rs fun K1 hK1 => ?_
  -- region 0
  refine as_q rfl rfl (q_assign rfl) ?_
  refine as_q rfl rfl (q_assign rfl) ?_
  refine as_nil (hK1 _ _ ?_)
  clear hK1 K1
  refine cw_seq fun K2 hK2 => ?_
  refine cw_rs fun K3 hK3 => ?_
  -- region 1
  refine as_q rfl rfl (q_move rfl) ?_
  first | refine as_q rfl rfl (q_ltT rfl rfl (by omega)) ?_ | refine as_q rfl rfl (q_ltF rfl rfl (by omega)) ?_ | refine as_q rfl rfl (q_lt rfl rfl) ?_
  refine as_q rfl rfl (q_move rfl) ?_
  refine as_gh rfl rfl rfl rfl (h_q rfl (q_move rfl) ?_)
  refine as_gh rfl rfl rfl rfl (h_q rfl (q_move rfl) ?_)
  refine as_gh rfl rfl rfl rfl (h_call (by kernel_rfl) rfl ?_)
  refine (len_string hs ht).mono ?_
  rintro _ w1 ⟨rfl, hs1⟩
  replace ht := ht.then hs1
  replace hT := hT.then hs1
  first | refine as_gh rfl rfl rfl rfl (h_q rfl (q_geT rfl rfl (by omega)) ?_) | refine as_gh rfl rfl rfl rfl (h_q rfl (q_geF rfl rfl (by omega)) ?_) | refine as_gh rfl rfl rfl rfl (h_q rfl (q_ge rfl rfl) ?_)
  first | refine as_q rfl rfl (q_pick_t rfl rfl) ?_ | refine as_q rfl rfl (q_pick_f rfl rfl) ?_ | refine as_q rfl rfl (q_pick rfl rfl rfl) ?_
  refine as_nil (hK3 _ _ ?_)
  clear hK3 K3
  refine cw_true rfl ?_
  refine cw_rs fun K4 hK4 => ?_
  -- region 2
  refine as_q rfl rfl (q_assign rfl) ?_
  refine as_nil (hK4 _ _ ?_)
  clear hK4 K4
  refine cw_rs fun K5 hK5 => ?_
  -- region 3
  refine as_q rfl rfl (q_move rfl) ?_
  refine as_q rfl rfl (q_assign rfl) ?_
  refine as_q rfl rfl (q_assign rfl) ?_
  refine as_nil (hK5 _ _ ?_)
  clear hK5 K5
  refine cw_ret ?_
  exact ⟨_, (res_tmp rfl (res_tmp rfl res_nil)), rfl, hT⟩

theorem at_string_neg {w : World} {M : Mem} {p : Value} {i : Int} (hs : Sat M w) (h0 : i < 0) :
    Does Try.prog 15 #[p, .int .i64 i] w (fun v w' => v = .tuple #[.string ⟨#[]⟩, .int .i64 21] ∧ Step Nope M w M w') := by
  have hT := Step.refl Nope hs
  refine fn_enter Try.func15 rfl (rs := [.tmp 4, .tmp 5]) rfl rfl rfl rfl ?_
  refine cw_rs fun K1 hK1 => ?_
  -- region 0
  refine as_q rfl rfl (q_assign rfl) ?_
  refine as_q rfl rfl (q_assign rfl) ?_
  refine as_nil (hK1 _ _ ?_)
  clear hK1 K1
  refine cw_seq fun K2 hK2 => ?_
  refine cw_rs fun K3 hK3 => ?_
  -- region 1
  refine as_q rfl rfl (q_move rfl) ?_
  first | refine as_q rfl rfl (q_ltT rfl rfl (by omega)) ?_ | refine as_q rfl rfl (q_ltF rfl rfl (by omega)) ?_ | refine as_q rfl rfl (q_lt rfl rfl) ?_
  refine as_q rfl rfl (q_move rfl) ?_
  first | refine as_gskip rfl rfl rfl rfl rfl ?_ | refine as_gskipU rfl rfl rfl rfl ?_
  first | refine as_gskip rfl rfl rfl rfl rfl ?_ | refine as_gskipU rfl rfl rfl rfl ?_
  first | refine as_gskip rfl rfl rfl rfl rfl ?_ | refine as_gskipU rfl rfl rfl rfl ?_
  first | refine as_gskip rfl rfl rfl rfl rfl ?_ | refine as_gskipU rfl rfl rfl rfl ?_
  first | refine as_q rfl rfl (q_pick_t rfl rfl) ?_ | refine as_q rfl rfl (q_pick_f rfl rfl) ?_ | refine as_q rfl rfl (q_pick rfl rfl rfl) ?_
  refine as_nil (hK3 _ _ ?_)
  clear hK3 K3
  refine cw_true rfl ?_
  refine cw_rs fun K4 hK4 => ?_
  -- region 2
  refine as_q rfl rfl (q_assign rfl) ?_
  refine as_nil (hK4 _ _ ?_)
  clear hK4 K4
  refine cw_rs fun K5 hK5 => ?_
  -- region 3
  refine as_q rfl rfl (q_move rfl) ?_
  refine as_q rfl rfl (q_assign rfl) ?_
  refine as_q rfl rfl (q_assign rfl) ?_
  refine as_nil (hK5 _ _ ?_)
  clear hK5 K5
  refine cw_ret ?_
  exact ⟨_, (res_tmp rfl (res_tmp rfl res_nil)), rfl, hT⟩

theorem at_string_nil {w : World} {M : Mem} {i : Int} (hs : Sat M w) (h0 : 0 ≤ i) :
    Does Try.prog 15 #[.pointer none, .int .i64 i] w (fun v w' => v = .tuple #[.string ⟨#[]⟩, .int .i64 21] ∧ Step Nope M w M w') := by
  have hT := Step.refl Nope hs
  refine fn_enter Try.func15 rfl (rs := [.tmp 4, .tmp 5]) rfl rfl rfl rfl ?_
  refine cw_rs fun K1 hK1 => ?_
  -- region 0
  refine as_q rfl rfl (q_assign rfl) ?_
  refine as_q rfl rfl (q_assign rfl) ?_
  refine as_nil (hK1 _ _ ?_)
  clear hK1 K1
  refine cw_seq fun K2 hK2 => ?_
  refine cw_rs fun K3 hK3 => ?_
  -- region 1
  refine as_q rfl rfl (q_move rfl) ?_
  first | refine as_q rfl rfl (q_ltT rfl rfl (by omega)) ?_ | refine as_q rfl rfl (q_ltF rfl rfl (by omega)) ?_ | refine as_q rfl rfl (q_lt rfl rfl) ?_
  refine as_q rfl rfl (q_move rfl) ?_
  refine as_gh rfl rfl rfl rfl (h_q rfl (q_move rfl) ?_)
  refine as_gh rfl rfl rfl rfl (h_q rfl (q_move rfl) ?_)
  refine as_gh rfl rfl rfl rfl (h_call (by kernel_rfl) rfl ?_)
  refine (len_string_nil hs).mono ?_
  rintro _ w1 ⟨rfl, hs1⟩
  replace hT := hT.then hs1
  first | refine as_gh rfl rfl rfl rfl (h_q rfl (q_geT rfl rfl (by omega)) ?_) | refine as_gh rfl rfl rfl rfl (h_q rfl (q_geF rfl rfl (by omega)) ?_) | refine as_gh rfl rfl rfl rfl (h_q rfl (q_ge rfl rfl) ?_)
  first | refine as_q rfl rfl (q_pick_t rfl rfl) ?_ | refine as_q rfl rfl (q_pick_f rfl rfl) ?_ | refine as_q rfl rfl (q_pick rfl rfl rfl) ?_
  refine as_nil (hK3 _ _ ?_)
  clear hK3 K3
  refine cw_true rfl ?_
  refine cw_rs fun K4 hK4 => ?_
  -- region 2
  refine as_q rfl rfl (q_assign rfl) ?_
  refine as_nil (hK4 _ _ ?_)
  clear hK4 K4
  refine cw_rs fun K5 hK5 => ?_
  -- region 3
  refine as_q rfl rfl (q_move rfl) ?_
  refine as_q rfl rfl (q_assign rfl) ?_
  refine as_q rfl rfl (q_assign rfl) ?_
  refine as_nil (hK5 _ _ ?_)
  clear hK5 K5
  refine cw_ret ?_
  exact ⟨_, (res_tmp rfl (res_tmp rfl res_nil)), rfl, hT⟩

theorem clone_string {w : World} {M : Mem} {n c : Nat} {p : Addr} {cs : List Value} (hs : Sat M w) (hr : ∀ w', Step Nope M w M w' → Rd w' 1 (.slice (some p) n c) n cs) (h1 : ∀ x ∈ cs, x.oneCell' = true) (hsz : n * 16 ≤ 140737488355328) :
    Does Try.prog 47 #[.slice (some p) n c] w (fun v w' => Step Nope M w M w' ∧ Buf w' M 9 1 v n cs ∧ ∀ g, v.ownBlock = some g → w.heap.size ≤ g) := by
  have hT := Step.refl Nope hs
  have hsrc := hr
  refine fn_enter Try.func47 rfl (rs := [.tmp 2]) rfl rfl rfl rfl ?_
  refine cw_rs fun K1 hK1 => ?_
  -- region 0
  refine as_q rfl rfl (q_assign rfl) ?_
  refine as_nil (hK1 _ _ ?_)
  clear hK1 K1
  refine cw_seq fun K2 hK2 => ?_
  refine cw_rs fun K3 hK3 => ?_
  -- region 1
  refine as_q rfl rfl (q_move rfl) ?_
  refine as_q rfl rfl (q_eqsl (by kernel_rfl) rfl) ?_
  refine as_nil (hK3 _ _ ?_)
  clear hK3 K3
  refine cw_false rfl ?_
  refine cw_skip ?_
  refine hK2 _ _ ?_
  clear hK2 K2
  refine cw_rs fun K4 hK4 => ?_
  -- region 3
  refine as_h rfl (h_buildO (e := 9) (size := 1) (zs := []) (cs := []) (by kernel_rfl) (by kernel_rfl) (by kernel_rfl) rfl hs rfl rfl fun b1 w1 hs1 ho1 e1 => ?_)
  replace hT := hT.then hs1
  refine as_q rfl rfl (q_move rfl) ?_
  have hbb := Own.buf ho1 (n := 0) (size := 1) rfl (by decide)
  refine as_h rfl (h_append (e := 9) (size := 1) (bytes := 16) (by kernel_rfl) hs1.sat hbb (hsrc w1 hs1) rfl rfl h1 (by omega) rfl fun sv2 w2 hs2 hb2 hor2 => ?_)
  replace hT := hT.trans hs2 (fun k hk h => by have h2 : b1 = k := Option.some.inj h; omega)
  rw [Nat.zero_add, List.nil_append] at hb2
  refine as_q rfl rfl (q_assign rfl) ?_
  refine as_nil (hK4 _ _ ?_)
  clear hK4 K4
  refine cw_ret ?_
  exact ⟨_, (res_tmp rfl res_nil), hT, hb2, fun g hg => by
    replace hg : sv2.ownBlock = some g := hg
    rcases hor2 with h | h
    · rw [h] at hg; have h2 : b1 = g := Option.some.inj hg; omega
    · rw [h] at hg; have h2 : w1.heap.size = g := Option.some.inj hg; have := hs1.size; omega⟩

theorem clone_string_nil {w : World} {M : Mem} (hs : Sat M w) :
    Does Try.prog 47 #[.slice none 0 0] w (fun v w' => v = .slice none 0 0 ∧ Step Nope M w M w') := by
  have hT := Step.refl Nope hs
  refine fn_enter Try.func47 rfl (rs := [.tmp 2]) rfl rfl rfl rfl ?_
  refine cw_rs fun K1 hK1 => ?_
  -- region 0
  refine as_q rfl rfl (q_assign rfl) ?_
  refine as_nil (hK1 _ _ ?_)
  clear hK1 K1
  refine cw_seq fun K2 hK2 => ?_
  refine cw_rs fun K3 hK3 => ?_
  -- region 1
  refine as_q rfl rfl (q_move rfl) ?_
  refine as_q rfl rfl (q_eqsl (by kernel_rfl) rfl) ?_
  refine as_nil (hK3 _ _ ?_)
  clear hK3 K3
  refine cw_true rfl ?_
  refine cw_rs fun K4 hK4 => ?_
  -- region 2
  refine as_q rfl rfl (q_assign rfl) ?_
  refine as_nil (hK4 _ _ ?_)
  clear hK4 K4
  refine cw_ret ?_
  exact ⟨_, (res_tmp rfl res_nil), rfl, hT⟩

theorem all_string_nil {w : World} {M : Mem} {B b : Nat} {room : Int} (hs : Sat M w) (ht : Tbl 86 9 1 B w M b (.slice none 0 0) 0 [] room) :
    Does Try.prog 26 #[.pointer (some ⟨b, 0, none⟩)] w (fun v w' => Step Nope M w M w' ∧ Buf w' M 9 1 v 0 [] ∧ ∀ g, v.ownBlock = some g → w.heap.size ≤ g) := by
  have hT := Step.refl Nope hs
  refine fn_enter Try.func26 rfl (rs := [.tmp 2]) rfl rfl rfl rfl ?_
  refine cw_rs fun K1 hK1 => ?_
  -- region 0
  refine as_q rfl rfl (q_assign rfl) ?_
  refine as_nil (hK1 _ _ ?_)
  clear hK1 K1
  refine cw_seq fun K2 hK2 => ?_
  refine cw_rs fun K3 hK3 => ?_
  -- region 1
  refine as_q rfl rfl (q_move rfl) ?_
  refine as_q rfl rfl (q_eqnil (by kernel_rfl) rfl) ?_
  refine as_nil (hK3 _ _ ?_)
  clear hK3 K3
  refine cw_false rfl ?_
  refine cw_skip ?_
  refine hK2 _ _ ?_
  clear hK2 K2
  refine cw_rs fun K4 hK4 => ?_
  -- region 3
  refine as_q rfl rfl (q_move rfl) ?_
  first | refine as_q rfl rfl (q_nilp rfl) ?_ | refine as_q rfl rfl (q_nili rfl) ?_ | refine as_q rfl rfl (q_nilf rfl) ?_ | refine as_q rfl rfl (q_nily rfl) ?_
  refine as_q rfl rfl (q_fieldAddr (off := 0) (by kernel_rfl) rfl) ?_
  refine as_q rfl rfl (q_load1 (by kernel_rfl) rfl (by first | exact Blk.cell ht.own.1 rfl | assumption)) ?_
  refine as_h rfl (h_call (by kernel_rfl) rfl ?_)
  refine (clone_string_nil hs).mono ?_
  rintro _ w1 ⟨rfl, hs1⟩
  replace ht := ht.then hs1
  replace hT := hT.then hs1
  refine as_q rfl rfl (q_assign rfl) ?_
  refine as_nil (hK4 _ _ ?_)
  clear hK4 K4
  refine cw_ret ?_
  exact ⟨_, (res_tmp rfl res_nil), hT, Buf.nil _ _ _ _, fun g hg => (by cases hg)⟩

theorem all_string_some {w : World} {M : Mem} {B b n c : Nat} {p : Addr} {cs : List Value} {room : Int} (hs : Sat M w) (ht : Tbl 86 9 1 B w M b (.slice (some p) n c) n cs room) (h1 : ∀ x ∈ cs, x.oneCell' = true) (hsz : n * 16 ≤ 140737488355328) :
    Does Try.prog 26 #[.pointer (some ⟨b, 0, none⟩)] w (fun v w' => Step Nope M w M w' ∧ Buf w' M 9 1 v n cs ∧ ∀ g, v.ownBlock = some g → w.heap.size ≤ g) := by
  have hT := Step.refl Nope hs
  refine fn_enter Try.func26 rfl (rs := [.tmp 2]) rfl rfl rfl rfl ?_
  refine cw_rs fun K1 hK1 => ?_
  -- region 0
  refine as_q rfl rfl (q_assign rfl) ?_
  refine as_nil (hK1 _ _ ?_)
  clear hK1 K1
  refine cw_seq fun K2 hK2 => ?_
  refine cw_rs fun K3 hK3 => ?_
  -- region 1
  refine as_q rfl rfl (q_move rfl) ?_
  refine as_q rfl rfl (q_eqnil (by kernel_rfl) rfl) ?_
  refine as_nil (hK3 _ _ ?_)
  clear hK3 K3
  refine cw_false rfl ?_
  refine cw_skip ?_
  refine hK2 _ _ ?_
  clear hK2 K2
  refine cw_rs fun K4 hK4 => ?_
  -- region 3
  refine as_q rfl rfl (q_move rfl) ?_
  first | refine as_q rfl rfl (q_nilp rfl) ?_ | refine as_q rfl rfl (q_nili rfl) ?_ | refine as_q rfl rfl (q_nilf rfl) ?_ | refine as_q rfl rfl (q_nily rfl) ?_
  refine as_q rfl rfl (q_fieldAddr (off := 0) (by kernel_rfl) rfl) ?_
  refine as_q rfl rfl (q_load1 (by kernel_rfl) rfl (by first | exact Blk.cell ht.own.1 rfl | assumption)) ?_
  refine as_h rfl (h_call (by kernel_rfl) rfl ?_)
  refine (clone_string hs (fun w' h => (ht.then h).buf.rd) h1 hsz).mono ?_
  rintro v1 w1 ⟨hs1, hv, hvn⟩
  replace ht := ht.then hs1
  replace hT := hT.then hs1
  refine as_q rfl rfl (q_assign rfl) ?_
  refine as_nil (hK4 _ _ ?_)
  clear hK4 K4
  refine cw_ret ?_
  exact ⟨_, (res_tmp rfl res_nil), hT, hv, hvn⟩

theorem all_string {w : World} {M : Mem} {B b n : Nat} {sv : Value} {cs : List Value} {room : Int} (hs : Sat M w) (ht : Tbl 86 9 1 B w M b sv n cs room) (h1 : ∀ x ∈ cs, x.oneCell' = true) (hsz : n * 16 ≤ 140737488355328) :
    Does Try.prog 26 #[.pointer (some ⟨b, 0, none⟩)] w (fun v w' => Step Nope M w M w' ∧ Buf w' M 9 1 v n cs ∧ ∀ g, v.ownBlock = some g → w.heap.size ≤ g) := by
  obtain ⟨⟨hl, ⟨rfl, rfl⟩ | ⟨g, cap, cur, rfl, _⟩⟩, _⟩ := ht.buf
  · obtain rfl : cs = [] := List.eq_nil_of_length_eq_zero (by simpa using hl)
    exact all_string_nil hs ht
  · exact all_string_some hs ht h1 hsz

theorem all_string_none {w : World} {M : Mem} (hs : Sat M w) :
    Does Try.prog 26 #[.pointer none] w (fun v w' => v = .slice none 0 0 ∧ Step Nope M w M w') := by
  have hT := Step.refl Nope hs
  refine fn_enter Try.func26 rfl (rs := [.tmp 2]) rfl rfl rfl rfl ?_
  refine cw_rs fun K1 hK1 => ?_
  -- region 0
  refine as_q rfl rfl (q_assign rfl) ?_
  refine as_nil (hK1 _ _ ?_)
  clear hK1 K1
  refine cw_seq fun K2 hK2 => ?_
  refine cw_rs fun K3 hK3 => ?_
  -- region 1
  refine as_q rfl rfl (q_move rfl) ?_
  refine as_q rfl rfl (q_eqnil (by kernel_rfl) rfl) ?_
  refine as_nil (hK3 _ _ ?_)
  clear hK3 K3
  refine cw_true rfl ?_
  refine cw_rs fun K4 hK4 => ?_
  -- region 2
  refine as_q rfl rfl (q_assign rfl) ?_
  refine as_nil (hK4 _ _ ?_)
  clear hK4 K4
  refine cw_ret ?_
  exact ⟨_, (res_tmp rfl res_nil), rfl, hT⟩

end Go.Proofs.Ytcnocefclcoiiaa
