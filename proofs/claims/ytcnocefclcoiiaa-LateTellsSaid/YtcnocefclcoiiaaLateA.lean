/- A row that is put in order when it is asked for, once, part 1. -/
import Derived.Test.YtcnocefclcoiiaaElgB
import Derived.Test.YtcnocefclcoiiaaDef
namespace Go.Proofs.Ytcnocefclcoiiaa
open Go Go.Eng
theorem bool_load0 {w : World} {M : Mem} {b o : Nat} (hs : Sat M w) (hc : w.cell? ⟨b, o, none⟩ = some (.int .u32 0)) :
    Does Try.prog 54 #[.pointer (some ⟨b, o, none⟩)] w (fun v w' => v = .bool false ∧ Step Nope M w M w') := by
  have hT := Step.refl Nope hs
  refine fn_enter Try.func54 rfl (rs := [.tmp 2]) rfl rfl rfl rfl ?_
  refine cw_rs fun K1 hK1 => ?_
  -- region 0
  refine as_q rfl rfl (q_assign rfl) ?_
  refine as_nil (hK1 _ _ ?_)
  clear hK1 K1
  refine cw_rs fun K2 hK2 => ?_
  -- region 1
  refine as_q rfl rfl (q_move rfl) ?_
  first | refine as_q rfl rfl (q_nilp rfl) ?_ | refine as_q rfl rfl (q_nili rfl) ?_ | refine as_q rfl rfl (q_nilf rfl) ?_ | refine as_q rfl rfl (q_nily rfl) ?_
  refine as_q rfl rfl (q_fieldAddr (off := 0) (by kernel_rfl) rfl) ?_
  refine as_h rfl (h_extern rfl (run_call_load Try.func59 (by kernel_rfl) (by kernel_rfl) (by kernel_rfl) .u32 (by kernel_rfl) hc) ?_)
  first | refine as_q rfl rfl (q_neT rfl rfl (by omega)) ?_ | refine as_q rfl rfl (q_neF rfl rfl (by omega)) ?_ | refine as_q rfl rfl (q_ne rfl rfl) ?_
  refine as_q rfl rfl (q_assign rfl) ?_
  refine as_nil (hK2 _ _ ?_)
  clear hK2 K2
  refine cw_ret ?_
  exact ⟨_, (res_tmp rfl res_nil), rfl, hT⟩

theorem bool_load1 {w : World} {M : Mem} {b o : Nat} (hs : Sat M w) (hc : w.cell? ⟨b, o, none⟩ = some (.int .u32 1)) :
    Does Try.prog 54 #[.pointer (some ⟨b, o, none⟩)] w (fun v w' => v = .bool true ∧ Step Nope M w M w') := by
  have hT := Step.refl Nope hs
  refine fn_enter Try.func54 rfl (rs := [.tmp 2]) rfl rfl rfl rfl ?_
  refine cw_rs fun K1 hK1 => ?_
  -- region 0
  refine as_q rfl rfl (q_assign rfl) ?_
  refine as_nil (hK1 _ _ ?_)
  clear hK1 K1
  refine cw_rs fun K2 hK2 => ?_
  -- region 1
  refine as_q rfl rfl (q_move rfl) ?_
  first | refine as_q rfl rfl (q_nilp rfl) ?_ | refine as_q rfl rfl (q_nili rfl) ?_ | refine as_q rfl rfl (q_nilf rfl) ?_ | refine as_q rfl rfl (q_nily rfl) ?_
  refine as_q rfl rfl (q_fieldAddr (off := 0) (by kernel_rfl) rfl) ?_
  refine as_h rfl (h_extern rfl (run_call_load Try.func59 (by kernel_rfl) (by kernel_rfl) (by kernel_rfl) .u32 (by kernel_rfl) hc) ?_)
  first | refine as_q rfl rfl (q_neT rfl rfl (by omega)) ?_ | refine as_q rfl rfl (q_neF rfl rfl (by omega)) ?_ | refine as_q rfl rfl (q_ne rfl rfl) ?_
  refine as_q rfl rfl (q_assign rfl) ?_
  refine as_nil (hK2 _ _ ?_)
  clear hK2 K2
  refine cw_ret ?_
  exact ⟨_, (res_tmp rfl res_nil), rfl, hT⟩

theorem int_load {w : World} {M : Mem} {b o : Nat} {x : Int} (hs : Sat M w) (hc : w.cell? ⟨b, o, none⟩ = some (.int .i64 x)) :
    Does Try.prog 49 #[.pointer (some ⟨b, o, none⟩)] w (fun v w' => v = .int .i64 x ∧ Step Nope M w M w') := by
  have hT := Step.refl Nope hs
  refine fn_enter Try.func49 rfl (rs := [.tmp 2]) rfl rfl rfl rfl ?_
  refine cw_rs fun K1 hK1 => ?_
  -- region 0
  refine as_q rfl rfl (q_assign rfl) ?_
  refine as_nil (hK1 _ _ ?_)
  clear hK1 K1
  refine cw_rs fun K2 hK2 => ?_
  -- region 1
  refine as_q rfl rfl (q_move rfl) ?_
  first | refine as_q rfl rfl (q_nilp rfl) ?_ | refine as_q rfl rfl (q_nili rfl) ?_ | refine as_q rfl rfl (q_nilf rfl) ?_ | refine as_q rfl rfl (q_nily rfl) ?_
  refine as_q rfl rfl (q_fieldAddr (off := 0) (by kernel_rfl) rfl) ?_
  refine as_h rfl (h_extern rfl (run_call_load Try.func53 (by kernel_rfl) (by kernel_rfl) (by kernel_rfl) .i64 (by kernel_rfl) hc) ?_)
  refine as_q rfl rfl (q_assign rfl) ?_
  refine as_nil (hK2 _ _ ?_)
  clear hK2 K2
  refine cw_ret ?_
  exact ⟨_, (res_tmp rfl res_nil), rfl, hT⟩

theorem int_add {w : World} {M : Mem} {b o T : Nat} {cs : List Value} (hs : Sat M w) (ho : Own w M b cs T) (hc : cs[o]? = some (.int .i64 0)) :
    Does Try.prog 57 #[.pointer (some ⟨b, o, none⟩), .int .i64 1] w (fun _ w' => Step (Just b) M w M w' ∧ Own w' M b (cs.set o (.int .i64 1)) T) := by
  have hT := Step.refl (Just b) hs
  refine fn_enter Try.func57 rfl (rs := [.tmp 4]) rfl rfl rfl rfl ?_
  refine cw_rs fun K1 hK1 => ?_
  -- region 0
  refine as_q rfl rfl (q_assign rfl) ?_
  refine as_nil (hK1 _ _ ?_)
  clear hK1 K1
  refine cw_rs fun K2 hK2 => ?_
  -- region 1
  refine as_q rfl rfl (q_move rfl) ?_
  first | refine as_q rfl rfl (q_nilp rfl) ?_ | refine as_q rfl rfl (q_nili rfl) ?_ | refine as_q rfl rfl (q_nilf rfl) ?_ | refine as_q rfl rfl (q_nily rfl) ?_
  refine as_q rfl rfl (q_fieldAddr (off := 0) (by kernel_rfl) rfl) ?_
  refine as_q rfl rfl (q_move rfl) ?_
  refine as_h rfl (h_externO hs ho rfl (run_call_add Try.func65 (by kernel_rfl) (by kernel_rfl) (by kernel_rfl) .i64 (by kernel_rfl) (ho.at hc) (ho.1.free _) (s := 1) rfl) fun w1 hs1 ho1 => ?_)
  clear ho; have ho := ho1; clear ho1
  replace hT := hT.also hs1
  refine as_q rfl rfl (q_assign rfl) ?_
  refine as_nil (hK2 _ _ ?_)
  clear hK2 K2
  refine cw_ret ?_
  exact ⟨_, (res_tmp rfl res_nil), hT, ho⟩

theorem lock_in {w : World} {M : Mem} {b o T : Nat} {cs : List Value} (hs : Sat M w) (ho : Own w M b cs T) (hc : cs[o]? = some (.int .i32 0)) :
    Does Try.prog 66 #[.pointer (some ⟨b, o, none⟩)] w (fun _ w' => Step (Just b) M w M w' ∧ Own w' M b (cs.set o (.int .i32 1)) T) := by
  have hT := Step.refl (Just b) hs
  refine fn_enter Try.func66 rfl (rs := []) rfl rfl rfl rfl ?_
  refine cw_rs fun K1 hK1 => ?_
  -- region 0
  refine as_h rfl (h_extern rfl (run_call_mark0 Try.func74 (by kernel_rfl) (by kernel_rfl) (by kernel_rfl) .disable (by kernel_rfl) _) ?_)
  refine as_nil (hK1 _ _ ?_)
  clear hK1 K1
  refine cw_seq fun K2 hK2 => ?_
  refine cw_rs fun K3 hK3 => ?_
  -- region 1
  refine as_q rfl rfl (q_move rfl) ?_
  first | refine as_q rfl rfl (q_nilp rfl) ?_ | refine as_q rfl rfl (q_nili rfl) ?_ | refine as_q rfl rfl (q_nilf rfl) ?_ | refine as_q rfl rfl (q_nily rfl) ?_
  refine as_q rfl rfl (q_fieldAddr (off := 0) (by kernel_rfl) rfl) ?_
  refine as_h rfl (h_externO hs ho rfl (run_call_cas_hit Try.func75 (by kernel_rfl) (by kernel_rfl) (by kernel_rfl) .i32 (by kernel_rfl) (ho.at hc) (ho.1.free _)) fun w2 hs2 ho2 => ?_)
  clear ho; have ho := ho2; clear ho2
  replace hT := hT.also hs2
  refine as_nil (hK3 _ _ ?_)
  clear hK3 K3
  refine cw_true rfl ?_
  refine cw_seq fun K4 hK4 => ?_
  refine cw_true rfl ?_
  refine cw_rs fun K5 hK5 => ?_
  -- region 2
  refine as_h rfl (h_extern rfl (run_call_mark0 Try.func76 (by kernel_rfl) (by kernel_rfl) (by kernel_rfl) .enable (by kernel_rfl) _) ?_)
  refine as_nil (hK5 _ _ ?_)
  clear hK5 K5
  refine cw_region fun K6 hK6 => ?_
  have hlt : o < cs.length := (List.getElem?_eq_some_iff.1 hc).1
  have hcc : (cs.set o (.int .i32 1))[o]? = some (.int .i32 1) := List.getElem?_set_self hlt
  -- region 3
  refine as_q rfl rfl (q_move rfl) ?_
  refine as_q rfl rfl (q_unsafe (t := 99) Try.underlying133 Try.underlying137 (by kernel_rfl) rfl (ho.at hcc)) ?_
  refine as_h rfl (h_extern rfl (run_call_marked Try.func77 (by kernel_rfl) (by kernel_rfl) (by kernel_rfl) .acquire (by kernel_rfl) _ _) ?_)
  refine as_nil (hK6 _ _ ?_)
  clear hK6 K6
  refine hK4 _ _ ?_
  clear hK4 K4
  refine cw_ret ?_
  exact ⟨_, res_nil, hT, ho⟩

theorem lock {w : World} {M : Mem} {b o T : Nat} {cs : List Value} (hs : Sat M w) (ho : Own w M b cs T) (hc : cs[o]? = some (.int .i32 0)) :
    Does Try.prog 60 #[.pointer (some ⟨b, o, none⟩)] w (fun _ w' => Step (Just b) M w M w' ∧ Own w' M b (cs.set o (.int .i32 1)) T) := by
  have hT := Step.refl (Just b) hs
  refine fn_enter Try.func60 rfl (rs := []) rfl rfl rfl rfl ?_
  refine cw_region fun K1 hK1 => ?_
  -- region 0
  refine as_q rfl rfl (q_move rfl) ?_
  first | refine as_q rfl rfl (q_nilp rfl) ?_ | refine as_q rfl rfl (q_nili rfl) ?_ | refine as_q rfl rfl (q_nilf rfl) ?_ | refine as_q rfl rfl (q_nily rfl) ?_
  refine as_q rfl rfl (q_fieldAddr (off := 0) (by kernel_rfl) rfl) ?_
  refine as_h rfl (h_call (by kernel_rfl) rfl ?_)
  refine (lock_in hs ho hc).mono ?_
  rintro _ w1 ⟨hs1, ho1⟩
  clear ho; have ho := ho1; clear ho1
  replace hT := hT.also hs1
  refine as_nil (hK1 _ _ ?_)
  clear hK1 K1
  exact ⟨_, res_nil, hT, ho⟩

theorem unlock_in {w : World} {M : Mem} {b o T : Nat} {cs : List Value} (hs : Sat M w) (ho : Own w M b cs T) (hc : cs[o]? = some (.int .i32 1)) :
    Does Try.prog 67 #[.pointer (some ⟨b, o, none⟩)] w (fun _ w' => Step (Just b) M w M w' ∧ Own w' M b (cs.set o (.int .i32 0)) T) := by
  have hT := Step.refl (Just b) hs
  refine fn_enter Try.func67 rfl (rs := []) rfl rfl rfl rfl ?_
  refine cw_seq fun K1 hK1 => ?_
  refine cw_true rfl ?_
  refine cw_rs fun K2 hK2 => ?_
  -- region 0
  refine as_q rfl rfl (q_move rfl) ?_
  first | refine as_q rfl rfl (q_nilp rfl) ?_ | refine as_q rfl rfl (q_nili rfl) ?_ | refine as_q rfl rfl (q_nilf rfl) ?_ | refine as_q rfl rfl (q_nily rfl) ?_
  refine as_q rfl rfl (q_fieldAddr (off := 0) (by kernel_rfl) rfl) ?_
  refine as_q rfl rfl (q_load1 (by kernel_rfl) rfl (ho.at hc)) ?_
  refine as_nil (hK2 _ _ ?_)
  clear hK2 K2
  refine cw_rs fun K3 hK3 => ?_
  -- region 1
  refine as_q rfl rfl (q_move rfl) ?_
  refine as_q rfl rfl (q_unsafe (t := 99) Try.underlying133 Try.underlying137 (by kernel_rfl) rfl (ho.at hc)) ?_
  refine as_h rfl (h_extern rfl (run_call_marked Try.func79 (by kernel_rfl) (by kernel_rfl) (by kernel_rfl) .releaseMerge (by kernel_rfl) _ _) ?_)
  refine as_nil (hK3 _ _ ?_)
  clear hK3 K3
  refine cw_region fun K4 hK4 => ?_
  -- region 2
  refine as_h rfl (h_extern rfl (run_call_mark0 Try.func74 (by kernel_rfl) (by kernel_rfl) (by kernel_rfl) .disable (by kernel_rfl) _) ?_)
  refine as_nil (hK4 _ _ ?_)
  clear hK4 K4
  refine hK1 _ _ ?_
  clear hK1 K1
  refine cw_rs fun K5 hK5 => ?_
  -- region 3
  refine as_q rfl rfl (q_move rfl) ?_
  first | refine as_q rfl rfl (q_nilp rfl) ?_ | refine as_q rfl rfl (q_nili rfl) ?_ | refine as_q rfl rfl (q_nilf rfl) ?_ | refine as_q rfl rfl (q_nily rfl) ?_
  refine as_q rfl rfl (q_fieldAddr (off := 0) (by kernel_rfl) rfl) ?_
  refine as_h rfl (h_externO hs ho rfl (run_call_add Try.func80 (by kernel_rfl) (by kernel_rfl) (by kernel_rfl) .i32 (by kernel_rfl) (ho.at hc) (ho.1.free _) (s := 0) rfl) fun w3 hs3 ho3 => ?_)
  clear ho; have ho := ho3; clear ho3
  replace hT := hT.also hs3
  refine as_q rfl rfl (q_assign rfl) ?_
  refine as_nil (hK5 _ _ ?_)
  clear hK5 K5
  refine cw_seq fun K6 hK6 => ?_
  refine cw_rs fun K7 hK7 => ?_
  -- region 4
  refine as_q rfl rfl (q_move rfl) ?_
  first | refine as_q rfl rfl (q_neT rfl rfl (by omega)) ?_ | refine as_q rfl rfl (q_neF rfl rfl (by omega)) ?_ | refine as_q rfl rfl (q_ne rfl rfl) ?_
  refine as_nil (hK7 _ _ ?_)
  clear hK7 K7
  refine cw_false rfl ?_
  refine cw_skip ?_
  refine hK6 _ _ ?_
  clear hK6 K6
  refine cw_region fun K8 hK8 => ?_
  -- region 6
  refine as_h rfl (h_extern rfl (run_call_mark0 Try.func76 (by kernel_rfl) (by kernel_rfl) (by kernel_rfl) .enable (by kernel_rfl) _) ?_)
  refine as_nil (hK8 _ _ ?_)
  clear hK8 K8
  exact ⟨_, res_nil, hT, ho⟩

theorem unlock {w : World} {M : Mem} {b o T : Nat} {cs : List Value} (hs : Sat M w) (ho : Own w M b cs T) (hc : cs[o]? = some (.int .i32 1)) :
    DoesU Try.prog 61 #[.pointer (some ⟨b, o, none⟩)] w (fun _ w' => Step (Just b) M w M w' ∧ Own w' M b (cs.set o (.int .i32 0)) T) := by
  have hT := Step.refl (Just b) hs
  refine fn_enterU Try.func61 rfl (rs := []) rfl rfl rfl rfl ?_
  refine cw_region fun K1 hK1 => ?_
  -- region 0
  refine as_q rfl rfl (q_move rfl) ?_
  first | refine as_q rfl rfl (q_nilp rfl) ?_ | refine as_q rfl rfl (q_nili rfl) ?_ | refine as_q rfl rfl (q_nilf rfl) ?_ | refine as_q rfl rfl (q_nily rfl) ?_
  refine as_q rfl rfl (q_fieldAddr (off := 0) (by kernel_rfl) rfl) ?_
  refine as_h rfl (h_call (by kernel_rfl) rfl ?_)
  refine (unlock_in hs ho hc).mono ?_
  rintro _ w1 ⟨hs1, ho1⟩
  clear ho; have ho := ho1; clear ho1
  replace hT := hT.also hs1
  refine as_nil (hK1 _ _ ?_)
  clear hK1 K1
  exact ⟨_, res_nil, hT, ho⟩

theorem b32 {w : World} {M : Mem} (hs : Sat M w) :
    Does Try.prog 69 #[.bool true] w (fun v w' => v = .int .u32 1 ∧ Step Nope M w M w') := by
  have hT := Step.refl Nope hs
  refine fn_enter Try.func69 rfl (rs := [.tmp 2]) rfl rfl rfl rfl ?_
  refine cw_rs fun K1 hK1 => ?_
  -- region 0
  refine as_q rfl rfl (q_assign rfl) ?_
  refine as_nil (hK1 _ _ ?_)
  clear hK1 K1
  refine cw_seq fun K2 hK2 => ?_
  refine cw_rs fun K3 hK3 => ?_
  -- region 1
  refine as_q rfl rfl (q_move rfl) ?_
  refine as_nil (hK3 _ _ ?_)
  clear hK3 K3
  refine cw_true rfl ?_
  refine cw_rs fun K4 hK4 => ?_
  -- region 2
  refine as_q rfl rfl (q_assign rfl) ?_
  refine as_nil (hK4 _ _ ?_)
  clear hK4 K4
  refine cw_ret ?_
  exact ⟨_, (res_tmp rfl res_nil), rfl, hT⟩

theorem bool_store {w : World} {M : Mem} {b o T : Nat} {cs : List Value} (hs : Sat M w) (ho : Own w M b cs T) {u : Value} (hc : cs[o]? = some u) :
    DoesU Try.prog 62 #[.pointer (some ⟨b, o, none⟩), .bool true] w (fun _ w' => Step (Just b) M w M w' ∧ Own w' M b (cs.set o (.int .u32 1)) T) := by
  have hT := Step.refl (Just b) hs
  refine fn_enterU Try.func62 rfl (rs := []) rfl rfl rfl rfl ?_
  refine cw_drawn (by kernel_rfl) (by kernel_rfl) (by kernel_rfl) rfl rfl fun K1 hK1 => ?_
  -- region 0
  have hs1 := Step.drew hs
  replace ho := ho.then hs1
  replace hT := hT.then hs1
  refine at_q (i := 0) (li := #[true, false, false, false, false, false]) rfl (by kernel_rfl) rfl (fun _ => (q_move rfl)) (by kernel_rfl) ?_
  first | refine at_q (i := 1) (li := #[true, true, false, false, false, false]) rfl (by kernel_rfl) rfl (fun _ => (q_nilp rfl)) (by kernel_rfl) ?_ | refine at_q (i := 1) (li := #[true, true, false, false, false, false]) rfl (by kernel_rfl) rfl (fun _ => (q_nili rfl)) (by kernel_rfl) ?_ | refine at_q (i := 1) (li := #[true, true, false, false, false, false]) rfl (by kernel_rfl) rfl (fun _ => (q_nilf rfl)) (by kernel_rfl) ?_ | refine at_q (i := 1) (li := #[true, true, false, false, false, false]) rfl (by kernel_rfl) rfl (fun _ => (q_nily rfl)) (by kernel_rfl) ?_
  refine at_q (i := 2) (li := #[true, true, true, false, false, false]) rfl (by kernel_rfl) rfl (fun _ => (q_fieldAddr (off := 0) (by kernel_rfl) rfl)) (by kernel_rfl) ?_
  refine at_q (i := 3) (li := #[true, true, true, true, false, false]) rfl (by kernel_rfl) rfl (fun _ => (q_move rfl)) (by kernel_rfl) ?_
  refine at_h (i := 4) (li := #[true, true, true, true, true, false]) rfl (by kernel_rfl) rfl rfl (by kernel_rfl) (h_call (by kernel_rfl) rfl ?_)
  refine (b32 hs1.sat).mono ?_
  rintro _ w2 ⟨rfl, hs2⟩
  replace ho := ho.then hs2
  replace hT := hT.then hs2
  refine ⟨(by repeat' first | exact trivial | exact Blk.cell ho.1 rfl | exact Blk.cells ho.1 rfl | assumption | refine all_keep ?_ | refine And.intro ?_ ?_), ?_⟩
  refine at_h (i := 5) (li := #[true, true, true, true, true, true]) rfl (by kernel_rfl) rfl rfl (by kernel_rfl) (h_externO hs2.sat ho rfl (run_call_store Try.func68 (by kernel_rfl) (by kernel_rfl) (by kernel_rfl) (by kernel_rfl) (ho.at hc) (ho.1.free _)) fun w3 hs3 ho3 => ?_)
  clear ho; have ho := ho3; clear ho3
  replace hT := hT.also hs3
  refine ⟨(by repeat' first | exact trivial | exact Blk.cell ho.1 rfl | exact Blk.cells ho.1 rfl | assumption | refine all_keep ?_ | refine And.intro ?_ ?_), ?_⟩
  refine at_done (by kernel_rfl) (hK1 _ _ ?_)
  clear hK1 K1
  exact ⟨_, res_nil, hT, ho⟩

end Go.Proofs.Ytcnocefclcoiiaa
