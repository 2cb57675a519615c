/- A row that is put in order when it is asked for, once, part 2. -/
import Derived.Test.YtcnocefclcoiiaaLateA
namespace Go.Proofs.Ytcnocefclcoiiaa
open Go Go.Eng
/-- A row that is put in order when it is asked for: it lies at q; whether it was asked for. -/
def LateOf (w : World) (M : Mem) (q : Nat) (sv : Value) (n : Nat) (xs : List El) (done : Bool) : Prop :=
  Own w M q [sv, .int .u32 (if done then 1 else 0), .int .i32 0, .int .u32 0, .int .i64 (if done then 1 else 0)] 108 ∧ Buf w M 76 2 sv n (els (if done then srtE xs else xs)) ∧ sv.ownBlock ≠ some q
theorem LateOf.then {w w' : World} {M M' : Mem} {q n : Nat} {sv : Value} {xs : List El} {done : Bool} (h : LateOf w M q sv n xs done) (k : Step Nope M w M' w') : LateOf w' M' q sv n xs done := ⟨h.1.then k, h.2.1.then k, h.2.2⟩
theorem LateOf.step {S : Nat → Prop} {w w' : World} {M M' : Mem} {q n : Nat} {sv : Value} {xs : List El} {done : Bool} (h : LateOf w M q sv n xs done) (k : Step S M w M' w') (h1 : ¬ S q) (h2 : ∀ g, sv.ownBlock = some g → ¬ S g) : LateOf w' M' q sv n xs done := ⟨h.1.step k h1, h.2.1.step k h2, h.2.2⟩

theorem late_of {w : World} {M : Mem} {n : Nat} {u : Value} {xs : List El} (hs : Sat M w) (hr : Rds M w 2 u n (els xs)) (hn : n ≤ 1000000) :
    Does Try.prog 39 #[u] w (fun v w' => ∃ q sv, v = .pointer (some ⟨q, 0, none⟩) ∧ Step Nope M w M w' ∧ LateOf w' M q sv n xs false ∧ w.heap.size ≤ q ∧ ∀ g, sv.ownBlock = some g → w.heap.size ≤ g) := by
  have hT := Step.refl Nope hs
  refine fn_enter Try.func39 rfl (rs := [.tmp 2]) rfl rfl rfl rfl ?_
  refine cw_rs fun K1 hK1 => ?_
  -- region 0
  refine as_q rfl rfl (q_assign rfl) ?_
  refine as_nil (hK1 _ _ ?_)
  clear hK1 K1
  refine cw_rs fun K2 hK2 => ?_
  -- region 1
  refine as_q rfl rfl (q_move rfl) ?_
  refine as_h rfl (h_call (by kernel_rfl) rfl ?_)
  refine (clone_els hs hr (by omega)).mono ?_
  rintro cv w1 ⟨hs1, hcv, hcf⟩
  replace hT := hT.then hs1
  obtain ⟨ca, cc, rfl, _, _⟩ := hcv.slice
  refine as_q rfl rfl (q_build (zs := [(.slice none 0 0), (.int .u32 0), (.int .i32 0), (.int .u32 0), (.int .i64 0)]) (places := [(0, 1), (1, 3), (4, 1)]) (cs := [_, _, _, _, _]) (by kernel_rfl) (by kernel_rfl) rfl rfl) ?_
  have hcl := hcv.lt
  have hqaq := hT.size
  refine as_h rfl (h_boxO hs1.sat rfl rfl fun bq w2 hs2 hoq eq => ?_)
  replace hcv := hcv.then hs2
  replace hT := hT.then hs2
  have hlq := hoq.1.lt
  refine as_q rfl rfl (q_assign rfl) ?_
  refine as_nil (hK2 _ _ ?_)
  clear hK2 K2
  refine cw_ret ?_
  exact ⟨_, (res_tmp rfl res_nil), bq, _, rfl, hT, ⟨hoq, hcv, fun h => by have := hcl _ h; omega⟩, by omega, hcf⟩

theorem late_done {w : World} {M : Mem} {q n : Nat} {sv : Value} {xs : List El} {done : Bool} (hs : Sat M w) (hl : LateOf w M q sv n xs done) :
    Does Try.prog 40 #[.pointer (some ⟨q, 0, none⟩)] w (fun v w' => v = .int .i64 (if done then 1 else 0) ∧ Step Nope M w M w') := by
  have hT := Step.refl Nope hs
  obtain ⟨ho, _, _⟩ := hl
  refine fn_enter Try.func40 rfl (rs := [.tmp 2]) rfl rfl rfl rfl ?_
  refine cw_rs fun K1 hK1 => ?_
  -- region 0
  refine as_q rfl rfl (q_assign rfl) ?_
  refine as_nil (hK1 _ _ ?_)
  clear hK1 K1
  refine cw_seq fun K2 hK2 => ?_
  refine cw_rs fun K3 hK3 => ?_
  -- region 1
  refine as_q rfl rfl (q_move rfl) ?_
  refine as_q rfl rfl (q_eqnil (by kernel_rfl) rfl) ?_
  refine as_nil (hK3 _ _ ?_)
  clear hK3 K3
  refine cw_false rfl ?_
  refine cw_skip ?_
  refine hK2 _ _ ?_
  clear hK2 K2
  refine cw_rs fun K4 hK4 => ?_
  -- region 3
  refine as_q rfl rfl (q_move rfl) ?_
  first | refine as_q rfl rfl (q_nilp rfl) ?_ | refine as_q rfl rfl (q_nili rfl) ?_ | refine as_q rfl rfl (q_nilf rfl) ?_ | refine as_q rfl rfl (q_nily rfl) ?_
  refine as_q rfl rfl (q_fieldAddr (off := 4) (by kernel_rfl) rfl) ?_
  refine as_h rfl (h_call (by kernel_rfl) rfl ?_)
  refine (int_load hs (ho.at rfl)).mono ?_
  rintro _ w1 ⟨rfl, hs1⟩
  replace ho := ho.then hs1
  replace hT := hT.then hs1
  refine as_q rfl rfl (q_assign rfl) ?_
  refine as_nil (hK4 _ _ ?_)
  clear hK4 K4
  refine cw_ret ?_
  exact ⟨_, (res_tmp rfl res_nil), rfl, hT⟩

theorem late_done_nil {w : World} {M : Mem} (hs : Sat M w) :
    Does Try.prog 40 #[.pointer none] w (fun v w' => v = .int .i64 0 ∧ Step Nope M w M w') := by
  have hT := Step.refl Nope hs
  refine fn_enter Try.func40 rfl (rs := [.tmp 2]) rfl rfl rfl rfl ?_
  refine cw_rs fun K1 hK1 => ?_
  -- region 0
  refine as_q rfl rfl (q_assign rfl) ?_
  refine as_nil (hK1 _ _ ?_)
  clear hK1 K1
  refine cw_seq fun K2 hK2 => ?_
  refine cw_rs fun K3 hK3 => ?_
  -- region 1
  refine as_q rfl rfl (q_move rfl) ?_
  refine as_q rfl rfl (q_eqnil (by kernel_rfl) rfl) ?_
  refine as_nil (hK3 _ _ ?_)
  clear hK3 K3
  refine cw_true rfl ?_
  refine cw_rs fun K4 hK4 => ?_
  -- region 2
  refine as_q rfl rfl (q_assign rfl) ?_
  refine as_nil (hK4 _ _ ?_)
  clear hK4 K4
  refine cw_ret ?_
  exact ⟨_, (res_tmp rfl res_nil), rfl, hT⟩

theorem late_sort {w : World} {M : Mem} {q n : Nat} {sv : Value} {xs : List El} (hs : Sat M w) (hn : n ≤ 255) (ho : Own w M q [sv, .int .u32 0, .int .i32 1, .int .u32 0, .int .i64 0] 108) (hb : Buf w M 76 2 sv n (els xs)) :
    Does Try.prog 51 #[.pointer (some ⟨q, 0, none⟩)] w (fun _ w' => Step (Just q) M w M w' ∧ ∃ sv2, Own w' M q [sv2, .int .u32 0, .int .i32 1, .int .u32 0, .int .i64 1] 108 ∧ Buf w' M 76 2 sv2 n (els (srtE xs)) ∧ ∀ g, sv2.ownBlock = some g → w.heap.size ≤ g) := by
  have hT := Step.refl (Just q) hs
  have hql := ho.1.lt
  refine fn_enter Try.func51 rfl (rs := []) rfl rfl rfl rfl ?_
  refine cw_rs fun K1 hK1 => ?_
  -- region 0
  refine as_q rfl rfl (q_move rfl) ?_
  refine as_q rfl rfl (q_move rfl) ?_
  first | refine as_q rfl rfl (q_nilp rfl) ?_ | refine as_q rfl rfl (q_nili rfl) ?_ | refine as_q rfl rfl (q_nilf rfl) ?_ | refine as_q rfl rfl (q_nily rfl) ?_
  refine as_q rfl rfl (q_fieldAddr (off := 0) (by kernel_rfl) rfl) ?_
  refine as_q rfl rfl (q_load1 (by kernel_rfl) rfl (by first | exact Blk.cell ho.1 rfl | assumption)) ?_
  refine as_h rfl (h_call (by kernel_rfl) rfl ?_)
  refine (elem_sort hs hb.rds hn).mono ?_
  rintro sv2 w1 ⟨hs1, hb2, hf2⟩
  replace ho := ho.then hs1
  replace hb := hb.then hs1
  replace hT := hT.then hs1
  obtain ⟨a2, c2, rfl, _, _⟩ := hb2.slice
  first | refine as_q rfl rfl (q_nilp rfl) ?_ | refine as_q rfl rfl (q_nili rfl) ?_ | refine as_q rfl rfl (q_nilf rfl) ?_ | refine as_q rfl rfl (q_nily rfl) ?_
  refine as_q rfl rfl (q_fieldAddr (off := 0) (by kernel_rfl) rfl) ?_
  refine as_h0 (h_store hs1.sat ho rfl rfl rfl (by kernel_rfl) rfl rfl rfl fun w2 hs2 hn2 => ?_)
  replace hb2 := hb2.step hs2 (fun g hg h => by have h : g = q := h; have := hf2 g hg; omega)
  clear ho; have ho := hn2; clear hn2
  replace hT := hT.also hs2
  refine as_nil (hK1 _ _ ?_)
  clear hK1 K1
  refine cw_region fun K2 hK2 => ?_
  -- region 1
  refine as_q rfl rfl (q_move rfl) ?_
  first | refine as_q rfl rfl (q_nilp rfl) ?_ | refine as_q rfl rfl (q_nili rfl) ?_ | refine as_q rfl rfl (q_nilf rfl) ?_ | refine as_q rfl rfl (q_nily rfl) ?_
  refine as_q rfl rfl (q_fieldAddr (off := 4) (by kernel_rfl) rfl) ?_
  refine as_h rfl (h_call (by kernel_rfl) rfl ?_)
  refine (int_add hs2.sat ho rfl).mono ?_
  rintro _ w3 ⟨hs3, ho3⟩
  replace hb2 := hb2.step hs3 (fun g hg h => by have h : g = q := h; have := hf2 g hg; omega)
  replace hT := hT.also hs3
  clear ho; have ho := ho3; clear ho3
  refine as_nil (hK2 _ _ ?_)
  clear hK2 K2
  exact ⟨_, res_nil, hT, _, ho, hb2, hf2⟩

theorem once_slow {w : World} {M : Mem} {q n : Nat} {sv : Value} {xs : List El} (hs : Sat M w) (hn : n ≤ 255) (ho : Own w M q [sv, .int .u32 0, .int .i32 0, .int .u32 0, .int .i64 0] 108) (hb : Buf w M 76 2 sv n (els xs)) (hne : sv.ownBlock ≠ some q) :
    Does Try.prog 55 #[.pointer (some ⟨q, 1, none⟩), .func (.func 51) #[.pointer (some ⟨q, 0, none⟩)] #[]] w (fun _ w' => Step (Just q) M w M w' ∧ ∃ sv2, Own w' M q [sv2, .int .u32 1, .int .i32 0, .int .u32 0, .int .i64 1] 108 ∧ Buf w' M 76 2 sv2 n (els (srtE xs)) ∧ ∀ g, sv2.ownBlock = some g → w.heap.size ≤ g) := by
  have hT := Step.refl (Just q) hs
  have hql := ho.1.lt
  refine fn_enterD (J := fun _ w1 => Step (Just q) M w M w1 ∧ ∃ sv2, Own w1 M q [sv2, .int .u32 0, .int .i32 1, .int .u32 0, .int .i64 1] 108 ∧ Buf w1 M 76 2 sv2 n (els (srtE xs)) ∧ ∀ g, sv2.ownBlock = some g → w.heap.size ≤ g) [⟨.fn (.func 62) #[], [Value.pointer (some ⟨q, 1, none⟩), .bool true].toArray⟩, ⟨.fn (.func 61) #[], [Value.pointer (some ⟨q, 2, none⟩)].toArray⟩] Try.func55 rfl rfl rfl rfl ?_ ?_
  · skip
    refine cd_seqK (D := []) fun K1 hK1 => cd_cw (cw_region fun K2 hK2 => ?_)
    refine as_q rfl rfl (q_move rfl) ?_
    first | refine as_q rfl rfl (q_nilp rfl) ?_ | refine as_q rfl rfl (q_nili rfl) ?_ | refine as_q rfl rfl (q_nilf rfl) ?_ | refine as_q rfl rfl (q_nily rfl) ?_
    refine as_q rfl rfl (q_fieldAddr (off := 1) (by kernel_rfl) rfl) ?_
    refine as_h rfl (h_call (by kernel_rfl) rfl ?_)
    refine (lock hs ho rfl).mono ?_
    rintro _ w1 ⟨hs1, ho1⟩
    replace hb := hb.step hs1 (fun g hg h => hne (by have h : g = q := h; rw [← h]; exact hg))
    replace hT := hT.also hs1
    clear ho; have ho : Own w1 M q [sv, .int .u32 0, .int .i32 1, .int .u32 0, .int .i64 0] 108 := ho1; clear ho1
    refine as_nil (hK2 _ _ (hK1 _ _ ?_))
    refine cd_seqK (D := [⟨.fn (.func 61) #[], [Value.pointer (some ⟨q, 2, none⟩)].toArray⟩]) fun K3 hK3 => cd_region ?_
    refine asd_q rfl rfl (q_move rfl) ?_
    first | refine asd_q rfl rfl (q_nilp rfl) ?_ | refine asd_q rfl rfl (q_nili rfl) ?_ | refine asd_q rfl rfl (q_nilf rfl) ?_ | refine asd_q rfl rfl (q_nily rfl) ?_
    refine asd_q rfl rfl (q_fieldAddr (off := 1) (by kernel_rfl) rfl) ?_
    refine asd_defer rfl rfl rfl (hK3 _ _ ?_)
    refine cd_seqK (D := [⟨.fn (.func 61) #[], [Value.pointer (some ⟨q, 2, none⟩)].toArray⟩]) fun K4 hK4 => cd_cw (cw_region fun K5 hK5 => ?_)
    refine as_q rfl rfl (q_move rfl) ?_
    first | refine as_q rfl rfl (q_nilp rfl) ?_ | refine as_q rfl rfl (q_nili rfl) ?_ | refine as_q rfl rfl (q_nilf rfl) ?_ | refine as_q rfl rfl (q_nily rfl) ?_
    refine as_q rfl rfl (q_fieldAddr (off := 0) (by kernel_rfl) rfl) ?_
    refine as_h rfl (h_call (by kernel_rfl) rfl ?_)
    refine (bool_load0 hs1.sat (ho.at rfl)).mono ?_
    rintro _ w2 ⟨rfl, hs2⟩
    replace ho := ho.then hs2
    replace hb := hb.then hs2
    replace hT := hT.then hs2
    refine as_q rfl rfl (q_not rfl) ?_
    refine as_nil (hK5 _ _ (hK4 _ _ ?_))
    refine cd_true rfl ?_
    refine cd_seqK (D := [⟨.fn (.func 62) #[], [Value.pointer (some ⟨q, 1, none⟩), .bool true].toArray⟩, ⟨.fn (.func 61) #[], [Value.pointer (some ⟨q, 2, none⟩)].toArray⟩]) fun K6 hK6 => cd_region ?_
    refine asd_q rfl rfl (q_move rfl) ?_
    first | refine asd_q rfl rfl (q_nilp rfl) ?_ | refine asd_q rfl rfl (q_nili rfl) ?_ | refine asd_q rfl rfl (q_nilf rfl) ?_ | refine asd_q rfl rfl (q_nily rfl) ?_
    refine asd_q rfl rfl (q_fieldAddr (off := 0) (by kernel_rfl) rfl) ?_
    refine asd_defer rfl rfl rfl (hK6 _ _ ?_)
    refine cd_cw (cw_region fun K7 hK7 => ?_)
    refine as_q rfl rfl (q_move rfl) ?_
    have hsz := hT.size
    refine as_h rfl (h_callv (f := 51) (first := [.pointer (some ⟨q, 0, none⟩)]) (cap := []) (by kernel_rfl) rfl rfl rfl ?_)
    refine (late_sort hs2.sat hn ho hb).mono ?_
    rintro _ w3 ⟨hs3, sv2, ho3, hb2, hf2⟩
    replace hT := hT.also hs3
    clear ho; have ho := ho3; clear ho3
    refine as_nil (hK7 _ _ ⟨hT, sv2, ho, hb2, fun g hg => by have := hf2 g hg; omega⟩)
  · rintro l w1 tmps ⟨hT, sv2, ho, hb2, hf2⟩
    refine leave_one (by kernel_rfl) ((bool_store hT.sat ho rfl).mono ?_)
    rintro _ w2 ⟨hs2, ho2⟩
    replace hb2 := hb2.step hs2 (fun g hg h => by have h : g = q := h; have := hf2 g hg; omega)
    replace hT := hT.also hs2
    refine leave_one (by kernel_rfl) ((unlock hT.sat ho2 rfl).mono ?_)
    rintro _ w3 ⟨hs3, ho3⟩
    replace hb2 := hb2.step hs3 (fun g hg h => by have h : g = q := h; have := hf2 g hg; omega)
    replace hT := hT.also hs3
    exact ⟨_, results_none rfl _ _ _, hT, sv2, ho3, hb2, hf2⟩

theorem once_first {w : World} {M : Mem} {q n : Nat} {sv : Value} {xs : List El} (hs : Sat M w) (hn : n ≤ 255) (ho : Own w M q [sv, .int .u32 0, .int .i32 0, .int .u32 0, .int .i64 0] 108) (hb : Buf w M 76 2 sv n (els xs)) (hne : sv.ownBlock ≠ some q) :
    Does Try.prog 50 #[.pointer (some ⟨q, 1, none⟩), .func (.func 51) #[.pointer (some ⟨q, 0, none⟩)] #[]] w (fun _ w' => Step (Just q) M w M w' ∧ ∃ sv2, Own w' M q [sv2, .int .u32 1, .int .i32 0, .int .u32 0, .int .i64 1] 108 ∧ Buf w' M 76 2 sv2 n (els (srtE xs)) ∧ ∀ g, sv2.ownBlock = some g → w.heap.size ≤ g) := by
  have hT := Step.refl (Just q) hs
  refine fn_enter Try.func50 rfl (rs := []) rfl rfl rfl rfl ?_
  refine cw_rs fun K1 hK1 => ?_
  -- region 0
  refine as_q rfl rfl (q_move rfl) ?_
  first | refine as_q rfl rfl (q_nilp rfl) ?_ | refine as_q rfl rfl (q_nili rfl) ?_ | refine as_q rfl rfl (q_nilf rfl) ?_ | refine as_q rfl rfl (q_nily rfl) ?_
  refine as_q rfl rfl (q_fieldAddr (off := 0) (by kernel_rfl) rfl) ?_
  refine as_h rfl (h_call (by kernel_rfl) rfl ?_)
  refine (bool_load0 hs (ho.at rfl)).mono ?_
  rintro _ w1 ⟨rfl, hs1⟩
  replace ho := ho.then hs1
  replace hb := hb.then hs1
  replace hT := hT.then hs1
  refine as_q rfl rfl (q_not rfl) ?_
  refine as_nil (hK1 _ _ ?_)
  clear hK1 K1
  refine cw_true rfl ?_
  refine cw_region fun K2 hK2 => ?_
  -- region 1
  refine as_q rfl rfl (q_move rfl) ?_
  refine as_q rfl rfl (q_move rfl) ?_
  refine as_h rfl (h_call (by kernel_rfl) rfl ?_)
  have hsz := hT.size
  refine (once_slow hs1.sat hn ho hb hne).mono ?_
  rintro _ w2 ⟨hs2, sv2, ho2, hb2, hf2⟩
  replace hT := hT.also hs2
  clear ho; have ho := ho2; clear ho2
  refine as_nil (hK2 _ _ ?_)
  clear hK2 K2
  exact ⟨_, res_nil, hT, sv2, ho, hb2, fun g hg => by have := hf2 g hg; omega⟩

theorem once_again {w : World} {M : Mem} {q : Nat} {sv : Value} {fv : Value} (hs : Sat M w) (ho : Own w M q [sv, .int .u32 1, .int .i32 0, .int .u32 0, .int .i64 1] 108) :
    Does Try.prog 50 #[.pointer (some ⟨q, 1, none⟩), fv] w (fun _ w' => Step Nope M w M w') := by
  have hT := Step.refl Nope hs
  refine fn_enter Try.func50 rfl (rs := []) rfl rfl rfl rfl ?_
  refine cw_rs fun K1 hK1 => ?_
  -- region 0
  refine as_q rfl rfl (q_move rfl) ?_
  first | refine as_q rfl rfl (q_nilp rfl) ?_ | refine as_q rfl rfl (q_nili rfl) ?_ | refine as_q rfl rfl (q_nilf rfl) ?_ | refine as_q rfl rfl (q_nily rfl) ?_
  refine as_q rfl rfl (q_fieldAddr (off := 0) (by kernel_rfl) rfl) ?_
  refine as_h rfl (h_call (by kernel_rfl) rfl ?_)
  refine (bool_load1 hs (ho.at rfl)).mono ?_
  rintro _ w1 ⟨rfl, hs1⟩
  replace ho := ho.then hs1
  replace hT := hT.then hs1
  refine as_q rfl rfl (q_not rfl) ?_
  refine as_nil (hK1 _ _ ?_)
  clear hK1 K1
  refine cw_false rfl ?_
  refine cw_skip ?_
  exact ⟨_, res_nil, hT⟩

theorem late_all_first {w : World} {M : Mem} {q n : Nat} {sv : Value} {xs : List El} (hs : Sat M w) (hn : n ≤ 255) (hl : LateOf w M q sv n xs false) :
    Does Try.prog 41 #[.pointer (some ⟨q, 0, none⟩)] w (fun v w' => ∃ sv2, Step (Just q) M w M w' ∧ LateOf w' M q sv2 n xs true ∧ Buf w' M 76 2 v n (els (srtE xs)) ∧ (∀ g, v.ownBlock = some g → w.heap.size ≤ g) ∧ (∀ g, v.ownBlock = some g → sv2.ownBlock ≠ some g) ∧ (sv2 = sv ∨ ∀ g, sv2.ownBlock = some g → w.heap.size ≤ g)) := by
  have hT := Step.refl (Just q) hs
  obtain ⟨ho, hb, hne⟩ := hl
  have hql := ho.1.lt
  replace ho : Own w M q [sv, .int .u32 0, .int .i32 0, .int .u32 0, .int .i64 0] 108 := ho
  replace hb : Buf w M 76 2 sv n (els xs) := hb
  refine fn_enter Try.func41 rfl (rs := [.tmp 2]) rfl rfl rfl rfl ?_
  refine cw_rs fun K1 hK1 => ?_
  -- region 0
  refine as_q rfl rfl (q_assign rfl) ?_
  refine as_nil (hK1 _ _ ?_)
  clear hK1 K1
  refine cw_seq fun K2 hK2 => ?_
  refine cw_rs fun K3 hK3 => ?_
  -- region 1
  refine as_q rfl rfl (q_move rfl) ?_
  refine as_q rfl rfl (q_eqnil (by kernel_rfl) rfl) ?_
  refine as_nil (hK3 _ _ ?_)
  clear hK3 K3
  refine cw_false rfl ?_
  refine cw_skip ?_
  refine hK2 _ _ ?_
  clear hK2 K2
  refine cw_rs fun K4 hK4 => ?_
  -- region 3
  refine as_q rfl rfl (q_move rfl) ?_
  first | refine as_q rfl rfl (q_nilp rfl) ?_ | refine as_q rfl rfl (q_nili rfl) ?_ | refine as_q rfl rfl (q_nilf rfl) ?_ | refine as_q rfl rfl (q_nily rfl) ?_
  refine as_q rfl rfl (q_fieldAddr (off := 1) (by kernel_rfl) rfl) ?_
  refine as_q rfl rfl (q_move rfl) ?_
  refine as_q rfl rfl (q_func rfl rfl) ?_
  refine as_h rfl (h_call (by kernel_rfl) rfl ?_)
  have hsz := hT.size
  refine (once_first hs hn ho hb hne).mono ?_
  rintro _ w1 ⟨hs1, sv2, ho1, hb2, hf2⟩
  replace hT := hT.also hs1
  clear ho; have ho := ho1; clear ho1
  have hlt2 := hb2.lt
  have hql2 := ho.1.lt
  have hsz2 := hs1.size
  refine as_nil (hK4 _ _ ?_)
  clear hK4 K4
  refine cw_rs fun K5 hK5 => ?_
  -- region 4
  refine as_q rfl rfl (q_move rfl) ?_
  first | refine as_q rfl rfl (q_nilp rfl) ?_ | refine as_q rfl rfl (q_nili rfl) ?_ | refine as_q rfl rfl (q_nilf rfl) ?_ | refine as_q rfl rfl (q_nily rfl) ?_
  refine as_q rfl rfl (q_fieldAddr (off := 0) (by kernel_rfl) rfl) ?_
  refine as_q rfl rfl (q_load1 (by kernel_rfl) rfl (by first | exact Blk.cell ho.1 rfl | assumption)) ?_
  refine as_h rfl (h_call (by kernel_rfl) rfl ?_)
  refine (clone_els hs1.sat hb2.rds (by omega)).mono ?_
  rintro cv w2 ⟨hs2, hcv, hcf⟩
  replace ho := ho.then hs2
  replace hb2 := hb2.then hs2
  replace hT := hT.then hs2
  obtain ⟨ca, cc, rfl, _, _⟩ := hcv.slice
  refine as_q rfl rfl (q_assign rfl) ?_
  refine as_nil (hK5 _ _ ?_)
  clear hK5 K5
  refine cw_ret ?_
  exact ⟨_, (res_tmp rfl res_nil), sv2, hT, ⟨ho, hb2, fun h => by have := hf2 q h; omega⟩, hcv, fun g hg => by have h1 := hcf g hg; omega, fun g hg h => by have h1 := hcf g hg; have h2 := hlt2 g h; omega, Or.inr fun g hg => by have := hf2 g hg; omega⟩

theorem late_all_again {w : World} {M : Mem} {q n : Nat} {sv : Value} {xs : List El} (hs : Sat M w) (hn : n ≤ 255) (hl : LateOf w M q sv n xs true) :
    Does Try.prog 41 #[.pointer (some ⟨q, 0, none⟩)] w (fun v w' => ∃ sv2, Step (Just q) M w M w' ∧ LateOf w' M q sv2 n xs true ∧ Buf w' M 76 2 v n (els (srtE xs)) ∧ (∀ g, v.ownBlock = some g → w.heap.size ≤ g) ∧ (∀ g, v.ownBlock = some g → sv2.ownBlock ≠ some g) ∧ (sv2 = sv ∨ ∀ g, sv2.ownBlock = some g → w.heap.size ≤ g)) := by
  have hT := Step.refl Nope hs
  obtain ⟨ho, hb, hne⟩ := hl
  have hql := ho.1.lt
  replace ho : Own w M q [sv, .int .u32 1, .int .i32 0, .int .u32 0, .int .i64 1] 108 := ho
  replace hb : Buf w M 76 2 sv n (els (srtE xs)) := hb
  refine fn_enter Try.func41 rfl (rs := [.tmp 2]) rfl rfl rfl rfl ?_
  refine cw_rs fun K1 hK1 => ?_
  -- region 0
  refine as_q rfl rfl (q_assign rfl) ?_
  refine as_nil (hK1 _ _ ?_)
  clear hK1 K1
  refine cw_seq fun K2 hK2 => ?_
  refine cw_rs fun K3 hK3 => ?_
  -- region 1
  refine as_q rfl rfl (q_move rfl) ?_
  refine as_q rfl rfl (q_eqnil (by kernel_rfl) rfl) ?_
  refine as_nil (hK3 _ _ ?_)
  clear hK3 K3
  refine cw_false rfl ?_
  refine cw_skip ?_
  refine hK2 _ _ ?_
  clear hK2 K2
  refine cw_rs fun K4 hK4 => ?_
  -- region 3
  refine as_q rfl rfl (q_move rfl) ?_
  first | refine as_q rfl rfl (q_nilp rfl) ?_ | refine as_q rfl rfl (q_nili rfl) ?_ | refine as_q rfl rfl (q_nilf rfl) ?_ | refine as_q rfl rfl (q_nily rfl) ?_
  refine as_q rfl rfl (q_fieldAddr (off := 1) (by kernel_rfl) rfl) ?_
  refine as_q rfl rfl (q_move rfl) ?_
  refine as_q rfl rfl (q_func rfl rfl) ?_
  refine as_h rfl (h_call (by kernel_rfl) rfl ?_)
  refine (once_again hs ho).mono ?_
  rintro _ w1 hs1
  replace ho := ho.then hs1
  replace hb := hb.then hs1
  replace hT := hT.then hs1
  have hlt2 := hb.lt
  have hql2 := ho.1.lt
  have hsz2 := hT.size
  refine as_nil (hK4 _ _ ?_)
  clear hK4 K4
  refine cw_rs fun K5 hK5 => ?_
  -- region 4
  refine as_q rfl rfl (q_move rfl) ?_
  first | refine as_q rfl rfl (q_nilp rfl) ?_ | refine as_q rfl rfl (q_nili rfl) ?_ | refine as_q rfl rfl (q_nilf rfl) ?_ | refine as_q rfl rfl (q_nily rfl) ?_
  refine as_q rfl rfl (q_fieldAddr (off := 0) (by kernel_rfl) rfl) ?_
  refine as_q rfl rfl (q_load1 (by kernel_rfl) rfl (by first | exact Blk.cell ho.1 rfl | assumption)) ?_
  refine as_h rfl (h_call (by kernel_rfl) rfl ?_)
  refine (clone_els hs1.sat hb.rds (by omega)).mono ?_
  rintro cv w2 ⟨hs2, hcv, hcf⟩
  replace ho := ho.then hs2
  replace hb := hb.then hs2
  replace hT := hT.then hs2
  obtain ⟨ca, cc, rfl, _, _⟩ := hcv.slice
  refine as_q rfl rfl (q_assign rfl) ?_
  refine as_nil (hK5 _ _ ?_)
  clear hK5 K5
  refine cw_ret ?_
  exact ⟨_, (res_tmp rfl res_nil), sv, hT.any _, ⟨ho, hb, hne⟩, hcv, fun g hg => by have h1 := hcf g hg; omega, fun g hg h => by have h1 := hcf g hg; have h2 := hlt2 g h; omega, Or.inl rfl⟩

theorem late_all {w : World} {M : Mem} {q n : Nat} {sv : Value} {xs : List El} {done : Bool} (hs : Sat M w) (hn : n ≤ 255) (hl : LateOf w M q sv n xs done) :
    Does Try.prog 41 #[.pointer (some ⟨q, 0, none⟩)] w (fun v w' => ∃ sv2, Step (Just q) M w M w' ∧ LateOf w' M q sv2 n xs true ∧ Buf w' M 76 2 v n (els (srtE xs)) ∧ (∀ g, v.ownBlock = some g → w.heap.size ≤ g) ∧ (∀ g, v.ownBlock = some g → sv2.ownBlock ≠ some g) ∧ (sv2 = sv ∨ ∀ g, sv2.ownBlock = some g → w.heap.size ≤ g)) := by
  cases done
  · exact late_all_first hs hn hl
  · exact late_all_again hs hn hl

theorem late_all_nil {w : World} {M : Mem} (hs : Sat M w) :
    Does Try.prog 41 #[.pointer none] w (fun v w' => v = .slice none 0 0 ∧ Step Nope M w M w') := by
  have hT := Step.refl Nope hs
  refine fn_enter Try.func41 rfl (rs := [.tmp 2]) rfl rfl rfl rfl ?_
  refine cw_rs fun K1 hK1 => ?_
  -- region 0
  refine as_q rfl rfl (q_assign rfl) ?_
  refine as_nil (hK1 _ _ ?_)
  clear hK1 K1
  refine cw_seq fun K2 hK2 => ?_
  refine cw_rs fun K3 hK3 => ?_
  -- region 1
  refine as_q rfl rfl (q_move rfl) ?_
  refine as_q rfl rfl (q_eqnil (by kernel_rfl) rfl) ?_
  refine as_nil (hK3 _ _ ?_)
  clear hK3 K3
  refine cw_true rfl ?_
  refine cw_rs fun K4 hK4 => ?_
  -- region 2
  refine as_q rfl rfl (q_assign rfl) ?_
  refine as_nil (hK4 _ _ ?_)
  clear hK4 K4
  refine cw_ret ?_
  exact ⟨_, (res_tmp rfl res_nil), rfl, hT⟩

theorem late_front {w : World} {M : Mem} {q n : Nat} {sv : Value} {xs : List El} {done : Bool} {k : Int} (hs : Sat M w) (hn : n ≤ 255) (hl : LateOf w M q sv n xs done) :
    Does Try.prog 43 #[.pointer (some ⟨q, 0, none⟩), .int .i64 k] w (fun v w' => ∃ sv2, Step (Just q) M w M w' ∧ LateOf w' M q sv2 n xs true ∧ Buf w' M 76 2 v (min (max k 0) (n : Int)).toNat (els ((srtE xs).take (min (max k 0) (n : Int)).toNat)) ∧ (∀ g, v.ownBlock = some g → w.heap.size ≤ g) ∧ (∀ g, v.ownBlock = some g → sv2.ownBlock ≠ some g) ∧ (sv2 = sv ∨ ∀ g, sv2.ownBlock = some g → w.heap.size ≤ g)) := by
  have hT := Step.refl (Just q) hs
  refine fn_enter Try.func43 rfl (rs := [.tmp 4]) rfl rfl rfl rfl ?_
  refine cw_rs fun K1 hK1 => ?_
  -- region 0
  refine as_q rfl rfl (q_assign rfl) ?_
  refine as_nil (hK1 _ _ ?_)
  clear hK1 K1
  refine cw_rs fun K2 hK2 => ?_
  -- region 1
  refine as_q rfl rfl (q_move rfl) ?_
  refine as_h rfl (h_call (by kernel_rfl) rfl ?_)
  refine (late_all hs hn hl).mono ?_
  rintro av w1 ⟨sv2, hs1, hl2, hav, haf, had, hso⟩
  replace hT := hT.also hs1
  obtain ⟨aa, ac, rfl, hac, _⟩ := hav.slice
  refine as_q rfl rfl (q_assign rfl) ?_
  refine as_nil (hK2 _ _ ?_)
  clear hK2 K2
  refine cw_rs fun K3 hK3 => ?_
  -- region 2
  refine as_q rfl rfl (q_move rfl) ?_
  refine as_q rfl rfl (q_move rfl) ?_
  refine as_q rfl rfl (q_max2 rfl rfl) ?_
  refine as_q rfl rfl (q_move rfl) ?_
  refine as_q rfl rfl (q_len (by kernel_rfl) rfl _) ?_
  refine as_q rfl rfl (q_congr (q_min2 rfl rfl) (v' := .int .i64 (min (max k 0) (n : Int))) (congrArg (Value.int .i64) (by repeat' split <;> omega))) ?_
  refine as_q rfl rfl (q_slice (e := 76) (size := 2) (k := .i64) (by kernel_rfl) (by kernel_rfl) rfl rfl rfl (by omega) (by omega) (by omega)) ?_
  refine as_q rfl rfl (q_assign rfl) ?_
  refine as_nil (hK3 _ _ ?_)
  clear hK3 K3
  refine cw_ret ?_
  obtain ⟨hfv, hfo⟩ := hav.front (j := (min (max k 0) (n : Int))) (by omega) (by omega)
  exact ⟨_, (res_tmp rfl res_nil), sv2, hT, hl2, hfv, fun g hg => haf g (hfo ▸ hg), fun g hg => had g (hfo ▸ hg), hso⟩

theorem late_front_nil {w : World} {M : Mem} (hs : Sat M w) :
    Does Try.prog 43 #[.pointer none, .int .i64 3] w (fun v w' => (∃ a c, v = .slice a 0 c) ∧ Step Nope M w M w') := by
  have hT := Step.refl Nope hs
  refine fn_enter Try.func43 rfl (rs := [.tmp 4]) rfl rfl rfl rfl ?_
  refine cw_rs fun K1 hK1 => ?_
  -- region 0
  refine as_q rfl rfl (q_assign rfl) ?_
  refine as_nil (hK1 _ _ ?_)
  clear hK1 K1
  refine cw_rs fun K2 hK2 => ?_
  -- region 1
  refine as_q rfl rfl (q_move rfl) ?_
  refine as_h rfl (h_call (by kernel_rfl) rfl ?_)
  refine (late_all_nil hs).mono ?_
  rintro _ w1 ⟨rfl, hs1⟩
  replace hT := hT.then hs1
  refine as_q rfl rfl (q_assign rfl) ?_
  refine as_nil (hK2 _ _ ?_)
  clear hK2 K2
  refine cw_rs fun K3 hK3 => ?_
  -- region 2
  refine as_q rfl rfl (q_move rfl) ?_
  refine as_q rfl rfl (q_move rfl) ?_
  refine as_q rfl rfl (q_max2 rfl rfl) ?_
  refine as_q rfl rfl (q_move rfl) ?_
  refine as_q rfl rfl (q_len (by kernel_rfl) rfl _) ?_
  refine as_q rfl rfl (q_min2 rfl rfl) ?_
  refine as_q rfl rfl (q_slice (e := 76) (size := 2) (k := .i64) (by kernel_rfl) (by kernel_rfl) rfl rfl rfl (by omega) (by omega) (by omega)) ?_
  refine as_q rfl rfl (q_assign rfl) ?_
  refine as_nil (hK3 _ _ ?_)
  clear hK3 K3
  refine cw_ret ?_
  exact ⟨_, (res_tmp rfl res_nil), ⟨_, _, rfl⟩, hT⟩

end Go.Proofs.Ytcnocefclcoiiaa
