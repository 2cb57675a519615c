/- Rows of elements: copies, rows in order, the rows of the document, part 1. -/
import Derived.Test.YtbfjkclijjhlhaaDoorSrtF
import Derived.Test.YtbfjkclijjhlhaaDoorEls
namespace Go.Proofs.YtbfjkclijjhlhaaDoor
open Go Go.Eng
theorem srt_pdq {w : World} {M : Mem} {g n cap : Nat} {d : Array El} {lim : Int} (hs : Sat M w) (hn : n ≤ 255) (hd : ElRow 23 w M g n cap d) (hl0 : 0 ≤ lim) (hl64 : lim ≤ 64) :
    Does Tryd.prog 34 #[.slice (some ⟨g, 0, none⟩) n cap, .int .i64 0, .int .i64 n, .int .i64 lim, (.func (.func 16) #[] #[])] w (fun _ w' => Step (Just g) M w M w' ∧ ElRow 23 w' M g n cap (srtE d.toList).toArray) :=
  (pdq_all (n - 0 + 1) (a := 0) (b := n) (by omega) hs hn hd (Nat.zero_le _) (Nat.le_refl _) hl0 hl64 (Or.inl rfl)).mono fun _ w' ⟨h1, R, h2, h3, h4⟩ => ⟨h1, by rw [← arr_srt hd.size h2 h3]; exact h4⟩

theorem srt_insertion_nil {w : World} {M : Mem} (hs : Sat M w) :
    Does Tryd.prog 41 #[.slice none 0 0, .int .i64 0, .int .i64 0, (.func (.func 16) #[] #[])] w (fun _ w' => Step Nope M w M w') := by
  have hT := Step.refl Nope hs
  refine fn_enter Tryd.func41 rfl (rs := []) rfl rfl rfl rfl ?_
  refine cw_rs fun K1 hK1 => ?_
  -- region 0
  refine as_q rfl rfl (q_move rfl) ?_
  refine as_q rfl rfl (q_congr (q_addx rfl rfl (by omega) (by omega)) (v' := .int .i64 1) rfl) ?_
  refine as_q rfl rfl (q_assign rfl) ?_
  refine as_nil (hK1 _ _ ?_)
  clear hK1 K1
  refine cw_block ?_
  refine cw_loop (fun mm l w1 => l = [(0, .slice none 0 0), (1, .int .i64 0), (2, .int .i64 0), (3, (.func (.func 16) #[] #[])), (8, .int .i64 1)] ∧ Step Nope M w M w1) (0) [(0, .slice none 0 0), (1, .int .i64 0), (2, .int .i64 0), (3, (.func (.func 16) #[] #[])), (8, .int .i64 1)] (.cons rfl (.cons rfl (.cons rfl (.cons rfl (.cons rfl (.nil _)))))) ?_ ?_
  · skip
    exact ⟨rfl, hT⟩
  clear hT
  rintro mm l w1 ⟨rfl, hT⟩
  refine cw_seq fun K2 hK2 => ?_
  refine cw_rs fun K3 hK3 => ?_
  -- region 1
  refine as_q rfl rfl (q_move rfl) ?_
  refine as_q rfl rfl (q_move rfl) ?_
  first | refine as_q rfl rfl (q_ltT rfl rfl (by omega)) ?_ | refine as_q rfl rfl (q_ltF rfl rfl (by omega)) ?_ | refine as_q rfl rfl (q_lt rfl rfl) ?_
  refine as_nil (hK3 _ _ ?_)
  clear hK3 K3
  refine cw_false rfl ?_
  refine cw_exit ?_
  exact ⟨_, res_nil, hT⟩

theorem srt_pdq_nil {w : World} {M : Mem} {lim : Int} (hs : Sat M w) :
    Does Tryd.prog 34 #[.slice none 0 0, .int .i64 0, .int .i64 0, .int .i64 lim, (.func (.func 16) #[] #[])] w (fun _ w' => Step Nope M w M w') := by
  have hT := Step.refl Nope hs
  refine fn_enter Tryd.func34 rfl (rs := []) rfl rfl rfl rfl ?_
  refine cw_rs fun K1 hK1 => ?_
  -- region 0
  refine as_q rfl rfl (q_assign rfl) ?_
  refine as_nil (hK1 _ _ ?_)
  clear hK1 K1
  refine cw_rs fun K2 hK2 => ?_
  -- region 1
  refine as_q rfl rfl (q_assign rfl) ?_
  refine as_nil (hK2 _ _ ?_)
  clear hK2 K2
  refine cw_block ?_
  refine cw_loop (fun mm l w1 => l = [(0, .slice none 0 0), (1, .int .i64 0), (2, .int .i64 0), (4, (.func (.func 16) #[] #[]))] ∧ Step Nope M w M w1) (0) [(0, .slice none 0 0), (1, .int .i64 0), (2, .int .i64 0), (4, (.func (.func 16) #[] #[]))] (.cons rfl (.cons rfl (.cons rfl (.cons rfl (.nil _))))) ?_ ?_
  · skip
    exact ⟨rfl, hT⟩
  clear hT
  rintro mm l w1 ⟨rfl, hT⟩
  refine cw_block ?_
  refine cw_rs fun K3 hK3 => ?_
  -- region 2
  refine as_q rfl rfl (q_move rfl) ?_
  refine as_q rfl rfl (q_move rfl) ?_
  refine as_q rfl rfl (q_subx rfl rfl (by omega) (by omega)) ?_
  refine as_q rfl rfl (q_assign rfl) ?_
  refine as_nil (hK3 _ _ ?_)
  clear hK3 K3
  refine cw_seq fun K4 hK4 => ?_
  refine cw_rs fun K5 hK5 => ?_
  -- region 3
  refine as_q rfl rfl (q_move rfl) ?_
  first | refine as_q rfl rfl (q_leT rfl rfl (by omega)) ?_ | refine as_q rfl rfl (q_leF rfl rfl (by omega)) ?_ | refine as_q rfl rfl (q_le rfl rfl) ?_
  refine as_nil (hK5 _ _ ?_)
  clear hK5 K5
  refine cw_true rfl ?_
  refine cw_rs fun K6 hK6 => ?_
  -- region 4
  refine as_q rfl rfl (q_move rfl) ?_
  refine as_q rfl rfl (q_move rfl) ?_
  refine as_q rfl rfl (q_move rfl) ?_
  refine as_q rfl rfl (q_move rfl) ?_
  refine as_h rfl (h_call (by kernel_rfl) rfl ?_)
  refine (srt_insertion_nil hT.sat).mono ?_
  rintro _ w1 hs1
  replace hT := hT.then hs1
  refine as_nil (hK6 _ _ ?_)
  clear hK6 K6
  refine cw_ret ?_
  exact ⟨_, res_nil, hT⟩

theorem srt_sf_nil {w : World} {M : Mem} (hs : Sat M w) :
    Does Tryd.prog 24 #[.slice none 0 0, (.func (.func 16) #[] #[])] w (fun _ w' => Step Nope M w M w') := by
  have hT := Step.refl Nope hs
  refine fn_enter Tryd.func24 rfl (rs := []) rfl rfl rfl rfl ?_
  refine cw_rs fun K1 hK1 => ?_
  -- region 0
  refine as_q rfl rfl (q_move rfl) ?_
  refine as_q rfl rfl (q_len (by kernel_rfl) rfl _) ?_
  refine as_q rfl rfl (q_assign rfl) ?_
  refine as_nil (hK1 _ _ ?_)
  clear hK1 K1
  refine cw_region fun K2 hK2 => ?_
  -- region 1
  refine as_q rfl rfl (q_move rfl) ?_
  refine as_q rfl rfl (q_move rfl) ?_
  refine as_q rfl rfl (q_move rfl) ?_
  refine as_q rfl rfl (q_convx (by kernel_rfl) (by kernel_rfl) rfl (by rw [IntKind.wrap_u64]; omega)) ?_
  refine as_h rfl (h_call (by kernel_rfl) rfl ?_)
  refine (srt_len (x := 0) hs (by omega)).mono ?_
  rintro _ w1 ⟨rfl, hs1⟩
  replace hT := hT.then hs1
  refine as_q rfl rfl (q_move rfl) ?_
  refine as_h rfl (h_call (by kernel_rfl) rfl ?_)
  refine (srt_pdq_nil hs1.sat).mono ?_
  rintro _ w2 hs2
  replace hT := hT.then hs2
  refine as_nil (hK2 _ _ ?_)
  clear hK2 K2
  exact ⟨_, res_nil, hT⟩

theorem srt_sf_some {w : World} {M : Mem} {g n cap : Nat} {d : Array El} (hs : Sat M w) (hn : n ≤ 255) (hd : ElRow 23 w M g n cap d) :
    Does Tryd.prog 24 #[.slice (some ⟨g, 0, none⟩) n cap, (.func (.func 16) #[] #[])] w (fun _ w' => Step (Just g) M w M w' ∧ ElRow 23 w' M g n cap (srtE d.toList).toArray) := by
  have hT := Step.refl (Just g) hs
  have hl8 := len8_all n (by omega)
  refine fn_enter Tryd.func24 rfl (rs := []) rfl rfl rfl rfl ?_
  refine cw_rs fun K1 hK1 => ?_
  -- region 0
  refine as_q rfl rfl (q_move rfl) ?_
  refine as_q rfl rfl (q_len (by kernel_rfl) rfl _) ?_
  refine as_q rfl rfl (q_assign rfl) ?_
  refine as_nil (hK1 _ _ ?_)
  clear hK1 K1
  refine cw_region fun K2 hK2 => ?_
  -- region 1
  refine as_q rfl rfl (q_move rfl) ?_
  refine as_q rfl rfl (q_move rfl) ?_
  refine as_q rfl rfl (q_move rfl) ?_
  refine as_q rfl rfl (q_convx (by kernel_rfl) (by kernel_rfl) rfl (by rw [IntKind.wrap_u64]; omega)) ?_
  refine as_h rfl (h_call (by kernel_rfl) rfl ?_)
  refine (srt_len (x := n) hs (by omega)).mono ?_
  rintro _ w1 ⟨rfl, hs1⟩
  replace hd := hd.then hs1
  replace hT := hT.then hs1
  refine as_q rfl rfl (q_move rfl) ?_
  refine as_h rfl (h_call (by kernel_rfl) rfl ?_)
  refine (srt_pdq hs1.sat hn hd hl8.1 (by omega)).mono ?_
  rintro _ w2 ⟨hs2, hd2⟩
  replace hT := hT.also hs2
  clear hd; have hd := hd2; clear hd2
  refine as_nil (hK2 _ _ ?_)
  clear hK2 K2
  exact ⟨_, res_nil, hT, hd⟩

theorem srt_sf {w : World} {M : Mem} {n : Nat} {v : Value} {xs : List El} (hs : Sat M w) (hn : n ≤ 255) (hb : Buf w M 23 2 v n (els xs)) :
    Does Tryd.prog 24 #[v, (.func (.func 16) #[] #[])] w (fun _ w' => Step (fun k => v.ownBlock = some k) M w M w' ∧ Buf w' M 23 2 v n (els (srtE xs))) := by
  rcases hb.cases with ⟨rfl, rfl, rfl⟩ | ⟨g, cap, rfl, hd⟩
  · exact (srt_sf_nil hs).mono fun _ w' h => ⟨h.any _, hb.then h⟩
  · exact (srt_sf_some hs hn hd).mono fun _ w' ⟨h1, h2⟩ => ⟨h1.wide fun k _ h => by cases h; rfl, h2⟩

theorem clone_some {w : World} {M : Mem} {n c : Nat} {p : Addr} {xs : List El} (hs : Sat M w) (hr : Rds M w 2 (.slice (some p) n c) n (els xs)) (hn : n ≤ 1000000) :
    Does Tryd.prog 23 #[.slice (some p) n c] w (fun v w' => Step Nope M w M w' ∧ Buf w' M 23 2 v n (els xs) ∧ ∀ g, v.ownBlock = some g → w.heap.size ≤ g) := by
  have hT := Step.refl Nope hs
  refine fn_enter Tryd.func23 rfl (rs := [.tmp 2]) rfl rfl rfl rfl ?_
  refine cw_rs fun K1 hK1 => ?_
  -- region 0
  refine as_q rfl rfl (q_assign rfl) ?_
  refine as_nil (hK1 _ _ ?_)
  clear hK1 K1
  refine cw_seq fun K2 hK2 => ?_
  refine cw_rs fun K3 hK3 => ?_
  -- region 1
  refine as_q rfl rfl (q_move rfl) ?_
  refine as_q rfl rfl (q_eqsl (by kernel_rfl) rfl) ?_
  refine as_nil (hK3 _ _ ?_)
  clear hK3 K3
  refine cw_false rfl ?_
  refine cw_skip ?_
  refine hK2 _ _ ?_
  clear hK2 K2
  refine cw_rs fun K4 hK4 => ?_
  -- region 3
  refine as_h rfl (h_buildO (e := 23) (size := 2) (zs := []) (cs := []) (by kernel_rfl) (by kernel_rfl) (by kernel_rfl) rfl hs rfl rfl fun b1 w1 hs1 ho1 e1 => ?_)
  replace hT := hT.then hs1
  refine as_q rfl rfl (q_move rfl) ?_
  have hbb := Own.buf ho1 (n := 0) (size := 2) rfl (by decide)
  refine as_h rfl (h_append (e := 23) (size := 2) (bytes := 16) (by kernel_rfl) hs1.sat hbb (hr _ _ hT) rfl rfl (els_one xs) (by omega) rfl fun sv2 w2 hs2 hb2 hor2 => ?_)
  replace hT := hT.trans hs2 (fun k hk h => by have h2 : b1 = k := Option.some.inj h; omega)
  rw [Nat.zero_add, List.nil_append] at hb2
  refine as_q rfl rfl (q_assign rfl) ?_
  refine as_nil (hK4 _ _ ?_)
  clear hK4 K4
  refine cw_ret ?_
  exact ⟨_, (res_tmp rfl res_nil), hT, hb2, fun g hg => by
    replace hg : sv2.ownBlock = some g := hg
    rcases hor2 with h | h
    · rw [h] at hg; have h2 : b1 = g := Option.some.inj hg; omega
    · rw [h] at hg; have h2 : w1.heap.size = g := Option.some.inj hg; have := hs1.size; omega⟩

theorem clone_nil {w : World} {M : Mem} (hs : Sat M w) :
    Does Tryd.prog 23 #[.slice none 0 0] w (fun v w' => v = .slice none 0 0 ∧ Step Nope M w M w') := by
  have hT := Step.refl Nope hs
  refine fn_enter Tryd.func23 rfl (rs := [.tmp 2]) rfl rfl rfl rfl ?_
  refine cw_rs fun K1 hK1 => ?_
  -- region 0
  refine as_q rfl rfl (q_assign rfl) ?_
  refine as_nil (hK1 _ _ ?_)
  clear hK1 K1
  refine cw_seq fun K2 hK2 => ?_
  refine cw_rs fun K3 hK3 => ?_
  -- region 1
  refine as_q rfl rfl (q_move rfl) ?_
  refine as_q rfl rfl (q_eqsl (by kernel_rfl) rfl) ?_
  refine as_nil (hK3 _ _ ?_)
  clear hK3 K3
  refine cw_true rfl ?_
  refine cw_rs fun K4 hK4 => ?_
  -- region 2
  refine as_q rfl rfl (q_assign rfl) ?_
  refine as_nil (hK4 _ _ ?_)
  clear hK4 K4
  refine cw_ret ?_
  exact ⟨_, (res_tmp rfl res_nil), rfl, hT⟩

theorem clone_els {w : World} {M : Mem} {n : Nat} {u : Value} {xs : List El} (hs : Sat M w) (hr : Rds M w 2 u n (els xs)) (hn : n ≤ 1000000) :
    Does Tryd.prog 23 #[u] w (fun v w' => Step Nope M w M w' ∧ Buf w' M 23 2 v n (els xs) ∧ ∀ g, v.ownBlock = some g → w.heap.size ≤ g) := by
  obtain ⟨a, c, rfl, _, hnil⟩ := hr.slice hs
  cases a with
  | none =>
    obtain ⟨rfl, rfl⟩ := hnil rfl
    obtain rfl : xs = [] := List.eq_nil_of_length_eq_zero (hr.els_len hs)
    exact (clone_nil hs).mono fun v w' ⟨h1, h2⟩ => by
      subst h1
      exact ⟨h2, Buf.nil _ _ _ _, fun g hg => (by cases hg)⟩
  | some p => exact clone_some hs hr hn

theorem elem_sort {w : World} {M : Mem} {n : Nat} {u : Value} {xs : List El} (hs : Sat M w) (hr : Rds M w 2 u n (els xs)) (hn : n ≤ 255) :
    Does Tryd.prog 10 #[u] w (fun v w' => Step Nope M w M w' ∧ Buf w' M 23 2 v n (els (srtE xs)) ∧ ∀ g, v.ownBlock = some g → w.heap.size ≤ g) := by
  have hT := Step.refl Nope hs
  refine fn_enter Tryd.func10 rfl (rs := [.tmp 2]) rfl rfl rfl rfl ?_
  refine cw_rs fun K1 hK1 => ?_
  -- region 0
  refine as_q rfl rfl (q_assign rfl) ?_
  refine as_nil (hK1 _ _ ?_)
  clear hK1 K1
  refine cw_rs fun K2 hK2 => ?_
  -- region 1
  refine as_q rfl rfl (q_move rfl) ?_
  refine as_h rfl (h_call (by kernel_rfl) rfl ?_)
  refine (clone_els hs hr (by omega)).mono ?_
  rintro cv w1 ⟨hs1, hb, hf⟩
  replace hT := hT.then hs1
  refine as_q rfl rfl (q_assign rfl) ?_
  refine as_nil (hK2 _ _ ?_)
  clear hK2 K2
  refine cw_rs fun K3 hK3 => ?_
  -- region 2
  refine as_q rfl rfl (q_move rfl) ?_
  refine as_h rfl (h_call (by kernel_rfl) rfl ?_)
  refine (srt_sf hs1.sat hn hb).mono ?_
  rintro _ w2 ⟨hs2, hb2⟩
  replace hT := hT.trans hs2 (fun k hk h => absurd (hf k h) (by omega))
  clear hb; have hb := hb2; clear hb2
  refine as_nil (hK3 _ _ ?_)
  clear hK3 K3
  refine cw_rs fun K4 hK4 => ?_
  -- region 3
  refine as_q rfl rfl (q_move rfl) ?_
  refine as_q rfl rfl (q_assign rfl) ?_
  refine as_nil (hK4 _ _ ?_)
  clear hK4 K4
  refine cw_ret ?_
  exact ⟨_, (res_tmp rfl res_nil), hT, hb, hf⟩

end Go.Proofs.YtbfjkclijjhlhaaDoor
