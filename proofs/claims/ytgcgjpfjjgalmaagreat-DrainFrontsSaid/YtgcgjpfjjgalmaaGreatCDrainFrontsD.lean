/- Steps of the proof that the law of this claim answers true, part 4. No conditions. -/
import Derived.Test.YtgcgjpfjjgalmaaGreatCDrainFrontsC
/- Skew binomial heaps of elements, part 1. -/
namespace Go.Proofs.YtgcgjpfjjgalmaaGreat
open Go Go.Eng
theorem se_size {w : World} {M : Mem} {ts : List (RT El)} {q : Option Addr} (hs : Sat M w) (h : FRep 197 220 2 EncE M ts q) (hz : RT.sizes ts ≤ 1000000000) :
  Does Tryz.prog 187 #[.agg #[.pointer q]] w (fun v w' => v = .int .i64 (RT.sizes ts : Nat) ∧ Step Nope M w M w') := by
 have hT := Step.refl Nope hs
 obtain ⟨l, hc, hk, hll, hlz⟩ := h.len
 refine fn_enter Tryz.func187 rfl (rs := [.tmp 2]) rfl rfl rfl rfl ?_
 refine cw_rs fun _ κ => ?_
 refine as_h rfl (h_boxM hs rfl rfl fun b1 M1 w1 hs1 hb1 e1 => ?_)
 have hc:=hc.mono hs1.le
 have hk:=hk.mono' EncE.mono hs1.le
 have hT:=hT.then hs1
 have hz1 := hs1.size
 refine Sa rfl rfl ?_
 refine as_nil (κ _ _ ?_)
 refine cw_rs fun _ κ => ?_
 refine Sa rfl rfl ?_
 refine as_nil (κ _ _ ?_)
 refine cw_seq fun _ hK3 => ?_
 refine cw_rs fun _ κ => ?_
 refine Sf 0 rfl (by kernel_rfl) rfl ?_
 refine Sc 1 rfl (by kernel_rfl) rfl (by exact BlkR.cells (hs1.sat _ _ _ hb1) rfl) ?_
 refine as_h rfl (h_call (by kernel_rfl) rfl ?_)
 refine (ce_all hs1.sat hc (by omega)).mono ?_
 rintro av w2 ⟨Ma, hs2, hba, hfa⟩
 have hk:=hk.mono' EncE.mono hs2.le
 have hT:=hT.then hs2
 have hz2 := hs2.size
 obtain ⟨aa, ac, rfl, _, _⟩ := hba.slice
 refine as_q rfl rfl (q_len (by kernel_rfl) rfl _) ?_
 refine Sm rfl rfl ?_
 refine as_nil (κ _ _ ?_)
 refine cw_block ?_
 refine cw_loop (fun mm l1 w1 => ∃ (i : Nat) (z : Int), mm = l.length - i ∧ i ≤ l.length ∧ z = (RT.sizes (ts.take i) : Nat) ∧ l1 = [(8, .slice aa l.length ac), (9, .int .i64 (l.length : Nat)), (10, .int .i64 i), (3, .int .i64 z)] ∧ Step Nope M w Ma w1 ∧ Buf w1 Ma 195 1 (.slice aa l.length ac) l.length (ptrs l)) (l.length) [(8, .slice aa l.length ac), (9, .int .i64 (l.length : Nat)), (10, .int .i64 (0 : Nat)), (3, .int .i64 (0 : Nat))] (.cons rfl (.cons rfl (.cons rfl (.cons rfl (.nil _))))) ?_ ?_
 ·
  exact ⟨0, _, rfl, Nat.zero_le _, rfl, rfl, hT, hba⟩
 clear hT hba
 rintro mm l1 w1 ⟨i, z, rfl, hi, rfl, rfl, hT, hba⟩
 refine cw_rs fun _ κ => ?_
 refine as_q rfl rfl (q_lt rfl rfl) ?_
 refine as_nil (κ _ _ ?_)
 refine cw_seq fun _ hK6 => ?_
 refine cw_cond rfl (fun hc0 => ?_) (fun hc0 => ?_)
 ·
  have hlt : i < l.length := by have := of_decide_eq_true hc0; omega
  obtain ⟨k, hkk⟩ : ∃ k, ts[i]? = some k := ⟨ts[i]'(by omega), by simp⟩
  obtain ⟨kq, hkq, hkr⟩ := hk.get hkk
  obtain ⟨g, o, rfl⟩ := hba.rd.there (by omega)
  have hks1 := RT.sizes_take hkk
  have hks2 := RT.sizes_take_le ts (i + 1)
  refine cw_skip ?_
  refine hK6 _ _ ?_
  refine cw_seq fun _ hK7 => ?_
  refine cw_block ?_
  refine cw_rs fun _ κ => ?_
  refine as_q rfl rfl (q_indexAddr (e := 195) (size := 1) (by kernel_rfl) (by kernel_rfl) rfl rfl (by omega) (by omega)) ?_
  refine S1 rfl (by kernel_rfl) rfl (Buf.cell hba (u := .pointer kq) (j := (i : Int).toNat * 1) (by rw [show (i : Int).toNat * 1 = i from by omega]; simp [ptrs, hkq])) ?_
  refine Sa rfl rfl ?_
  refine as_nil (κ _ _ ?_)
  refine cw_region fun _ κ => ?_
  refine Sm rfl rfl ?_
  refine Sm rfl rfl ?_
  refine as_h rfl (h_call (by kernel_rfl) rfl ?_)
  refine (te_size hT.sat hkr).mono ?_
  rintro _ w3 ⟨rfl, hs3⟩
  have hba:=hba.then hs3
  have hT:=hT.then hs3
  have hz3 := hs3.size
  refine as_q rfl rfl (q_addx rfl rfl (by omega) (by omega)) ?_
  refine Sa rfl rfl ?_
  refine as_nil (κ _ _ ?_)
  refine hK7 _ _ ?_
  refine cw_region fun _ κ => ?_
  refine as_q rfl rfl (q_addx rfl rfl (by omega) (by omega)) ?_
  refine Sm rfl rfl ?_
  refine as_nil (κ _ _ ?_)
  refine ⟨_, _, ?_, (.cons rfl (.cons rfl (.cons rfl (.cons rfl (.nil _))))), i + 1, _, rfl, by omega, ?_, rfl, hT, hba⟩
  · omega
  · omega
 ·
  have hge : i = l.length := by have := of_decide_eq_false hc0; omega
  refine cw_exit ?_
  refine hK3 _ _ ?_
  refine cw_rs fun _ κ => ?_
  refine Sm rfl rfl ?_
  refine Sa rfl rfl ?_
  refine as_nil (κ _ _ ?_)
  refine cw_ret ?_
  subst hge
  exact ⟨_, (res_tmp rfl res_nil), by rw [List.take_of_length_le (by omega)]; rfl, hT.forget⟩
theorem se_least1 {w : World} {M : Mem} {ts : List (RT El)} {l : List (Option Addr)} {sa : Option Addr} {sc : Nat} {b1 b2 b3 i j : Nat} {ki kb : RT El} (hs : Sat M w) (hl : M b1 = some ([.slice sa ts.length sc], 204)) (hm : M b3 = some ([.pointer none], 63)) (hob : Own w M b2 [.int .i64 j] 3) (hr : Rds M w 1 (.slice sa ts.length sc) ts.length (ptrs l)) (hk : TReps 220 2 EncE M ts l) (hi : ts[i]? = some ki) (hj : ts[j]? = some kb) :
  Does Tryz.prog 196 #[.int .i64 i, .pointer (some ⟨b1, 0, none⟩), .pointer (some ⟨b2, 0, none⟩), .pointer (some ⟨b3, 0, none⟩)] w (fun v w' => v = .bool (ltE ki.root kb.root) ∧ Step Nope M w M w') := by
 have hT := Step.refl Nope hs
 have hr0 := hr
 have hil : i < ts.length := (List.getElem?_eq_some_iff.1 hi).1
 have hjl : j < ts.length := (List.getElem?_eq_some_iff.1 hj).1
 obtain ⟨iq, hiq, hki⟩ := hk.get hi
 obtain ⟨bq, hbq, hkb⟩ := hk.get hj
 obtain ⟨g, o, rfl⟩ := (hr0 _ _ hT).there (by omega)
 have hbl2 := hob.1.lt
 refine fn_enter Tryz.func196 rfl (rs := [.tmp 5]) rfl rfl rfl rfl ?_
 refine cw_rs fun _ κ => ?_
 refine Sa rfl rfl ?_
 refine as_nil (κ _ _ ?_)
 refine cw_rs fun _ κ => ?_
 refine S1 rfl (by kernel_rfl) rfl (by exact BlkR.cell (hs _ _ _ hl) rfl) ?_
 refine Sm rfl rfl ?_
 refine as_q rfl rfl (q_indexAddr (e := 195) (size := 1) (by kernel_rfl) (by kernel_rfl) rfl rfl (by omega) (by omega)) ?_
 refine S1 rfl (by kernel_rfl) rfl ((hr0 _ _ hT).cell (u := .pointer iq) (j := ((i : Nat) : Int).toNat * 1) (by rw [show ((i : Nat) : Int).toNat * 1 = i from by omega]; simp [ptrs, hiq])) ?_
 refine as_h rfl (h_call (by kernel_rfl) rfl ?_)
 refine (te_root hs hki).mono ?_
 rintro _ w1 ⟨rfl, hs1⟩
 have hl:=hs1.le _ _ hl
 have hm:=hs1.le _ _ hm
 have hob:=hob.then hs1
 have hT:=hT.then hs1
 have hz1 := hs1.size
 refine Sm rfl rfl ?_
 refine Se rfl rfl rfl ?_
 refine Se rfl rfl rfl ?_
 have hqau := hT.size
 refine as_h rfl (h_allocO (z := (.agg #[(.int .i64 0), (.int .i64 0)])) hs1.sat (by kernel_rfl) rfl fun bu w2 hs2 hou eu => ?_)
 have hl:=hs2.le _ _ hl
 have hm:=hs2.le _ _ hm
 have hob:=hob.then hs2
 have hT:=hT.then hs2
 have hz2 := hs2.size
 have hlu := hou.1.lt
 refine as_h0 (h_store hs2.sat hou rfl rfl rfl (by kernel_rfl) rfl rfl rfl fun w3 hs3 hn3 => ?_)
 have hl:=hs3.le _ _ hl
 have hm:=hs3.le _ _ hm
 have hob:=hob.step hs3 (fun h => by have h : _ = _ := h; omega)
 clear hou; have hou := hn3; clear hn3
 have hT:=hT.own hs3 (by omega)
 have hz3 := hs3.size
 refine Sa rfl rfl ?_
 refine as_nil (κ _ _ ?_)
 refine cw_rs fun _ κ => ?_
 refine S1 rfl (by kernel_rfl) rfl (by exact BlkR.cell (hs3.sat _ _ _ hl) rfl) ?_
 refine S1 rfl (by kernel_rfl) rfl (by exact Blk.cell hob.1 rfl) ?_
 refine as_q rfl rfl (q_indexAddr (e := 195) (size := 1) (by kernel_rfl) (by kernel_rfl) rfl rfl (by omega) (by omega)) ?_
 refine S1 rfl (by kernel_rfl) rfl ((hr0 _ _ hT).cell (u := .pointer bq) (j := ((j : Nat) : Int).toNat * 1) (by rw [show ((j : Nat) : Int).toNat * 1 = j from by omega]; simp [ptrs, hbq])) ?_
 refine as_h rfl (h_call (by kernel_rfl) rfl ?_)
 refine (te_root hs3.sat hkb).mono ?_
 rintro _ w4 ⟨rfl, hs4⟩
 have hl:=hs4.le _ _ hl
 have hm:=hs4.le _ _ hm
 have hob:=hob.then hs4
 have hou:=hou.then hs4
 have hT:=hT.then hs4
 have hz4 := hs4.size
 refine Sm rfl rfl ?_
 refine Se rfl rfl rfl ?_
 refine Se rfl rfl rfl ?_
 have hqav := hT.size
 refine as_h rfl (h_allocO (z := (.agg #[(.int .i64 0), (.int .i64 0)])) hs4.sat (by kernel_rfl) rfl fun bv w5 hs5 hov ev => ?_)
 have hl:=hs5.le _ _ hl
 have hm:=hs5.le _ _ hm
 have hob:=hob.then hs5
 have hou:=hou.then hs5
 have hT:=hT.then hs5
 have hz5 := hs5.size
 have hlv := hov.1.lt
 refine as_h0 (h_store hs5.sat hov rfl rfl rfl (by kernel_rfl) rfl rfl rfl fun w6 hs6 hn6 => ?_)
 have hl:=hs6.le _ _ hl
 have hm:=hs6.le _ _ hm
 have hob:=hob.step hs6 (fun h => by have h : _ = _ := h; omega)
 have hou:=hou.step hs6 (fun h => by have h : _ = _ := h; omega)
 clear hov; have hov := hn6; clear hn6
 have hT:=hT.own hs6 (by omega)
 have hz6 := hs6.size
 refine Sa rfl rfl ?_
 refine as_nil (κ _ _ ?_)
 refine cw_dr (by kernel_rfl) fun _ κ => ?_
 have hs7 := Step.drew hs6.sat
 have hz7 := hs7.size
 have hl:=hs7.le _ _ hl
 have hm:=hs7.le _ _ hm
 have hob:=hob.then hs7
 have hou:=hou.then hs7
 have hov:=hov.then hs7
 have hT:=hT.then hs7
 refine Dl1 0 1 rfl (by kernel_rfl) (by kernel_rfl) rfl (by exact BlkR.cell (hs7.sat _ _ _ hm) rfl) ?_
 refine Dlc 1 3 2 rfl (by kernel_rfl) (by kernel_rfl) rfl (by exact Blk.cells hou.1 rfl) ?_
 refine Dq 2 7 rfl (by kernel_rfl) (fun _ => (q_iface (by kernel_rfl) rfl)) ?_
 refine Dlc 4 23 2 rfl (by kernel_rfl) (by kernel_rfl) rfl (by exact Blk.cells hov.1 rfl) ?_
 refine Dq 5 55 rfl (by kernel_rfl) (fun _ => (q_iface (by kernel_rfl) rfl)) ?_
 refine Dh 3 63 rfl (by kernel_rfl) (keep_sift (bs := [F,F,F]) (by kernel_rfl)) (h_invoke (f := 86) (r := .agg (elc ki.root).toArray) (by kernel_rfl) rfl rfl (by kernel_rfl) ?_)
 refine (el_key (x := ki.root) hs7.sat).mono ?_
 rintro _ w8 ⟨rfl, hs8⟩
 have hl:=hs8.le _ _ hl
 have hm:=hs8.le _ _ hm
 have hob:=hob.then hs8
 have hou:=hou.then hs8
 have hov:=hov.then hs8
 have hT:=hT.then hs8
 have hz8 := hs8.size
 refine ⟨(by repeat' first | exact trivial | exact BlkR.cell (hs8.sat _ _ _ hl) rfl | exact BlkR.cells (hs8.sat _ _ _ hl) rfl | exact BlkR.cell (hs8.sat _ _ _ hm) rfl | exact BlkR.cells (hs8.sat _ _ _ hm) rfl | exact Blk.cell hob.1 rfl | exact Blk.cells hob.1 rfl | exact Blk.cell hou.1 rfl | exact Blk.cells hou.1 rfl | exact Blk.cell hov.1 rfl | exact Blk.cells hov.1 rfl | assumption | refine all_keep ?_ | refine And.intro ?_ ?_), ?_⟩
 refine Dh 6 127 rfl (by kernel_rfl) (keep_sift (bs := [F,F,F]) (by kernel_rfl)) (h_invoke (f := 86) (r := .agg (elc kb.root).toArray) (by kernel_rfl) rfl rfl (by kernel_rfl) ?_)
 refine (el_key (x := kb.root) hs8.sat).mono ?_
 rintro _ w9 ⟨rfl, hs9⟩
 have hl:=hs9.le _ _ hl
 have hm:=hs9.le _ _ hm
 have hob:=hob.then hs9
 have hou:=hou.then hs9
 have hov:=hov.then hs9
 have hT:=hT.then hs9
 have hz9 := hs9.size
 refine ⟨(by repeat' first | exact trivial | exact BlkR.cell (hs9.sat _ _ _ hl) rfl | exact BlkR.cells (hs9.sat _ _ _ hl) rfl | exact BlkR.cell (hs9.sat _ _ _ hm) rfl | exact BlkR.cells (hs9.sat _ _ _ hm) rfl | exact Blk.cell hob.1 rfl | exact Blk.cells hob.1 rfl | exact Blk.cell hou.1 rfl | exact Blk.cells hou.1 rfl | exact Blk.cell hov.1 rfl | exact Blk.cells hov.1 rfl | assumption | refine all_keep ?_ | refine And.intro ?_ ?_), ?_⟩
 refine Dh 7 255 rfl (by kernel_rfl) (keep_sift (bs := [F,F,T]) (by kernel_rfl)) (h_call (by kernel_rfl) rfl ?_)
 refine (m_less (a := ki.root) (b := kb.root) hs9.sat).mono ?_
 rintro _ w10 ⟨rfl, hs10⟩
 have hl:=hs10.le _ _ hl
 have hm:=hs10.le _ _ hm
 have hob:=hob.then hs10
 have hou:=hou.then hs10
 have hov:=hov.then hs10
 have hT:=hT.then hs10
 have hz10 := hs10.size
 refine ⟨(by repeat' first | exact trivial | exact BlkR.cell (hs10.sat _ _ _ hl) rfl | exact BlkR.cells (hs10.sat _ _ _ hl) rfl | exact BlkR.cell (hs10.sat _ _ _ hm) rfl | exact BlkR.cells (hs10.sat _ _ _ hm) rfl | exact Blk.cell hob.1 rfl | exact Blk.cells hob.1 rfl | exact Blk.cell hou.1 rfl | exact Blk.cells hou.1 rfl | exact Blk.cell hov.1 rfl | exact Blk.cells hov.1 rfl | assumption | refine all_keep ?_ | refine And.intro ?_ ?_), ?_⟩
 refine Da 8 511 rfl (by kernel_rfl) rfl ?_
 refine Dd (by kernel_rfl) (κ _ _ ?_)
 refine cw_ret ?_
 exact ⟨_, (res_tmp rfl res_nil), rfl, hT.forget⟩
theorem se_least {w : World} {M : Mem} {ts : List (RT El)} {l : List (Option Addr)} {sa : Option Addr} {sc : Nat} (hs : Sat M w) (hr : Rds M w 1 (.slice sa ts.length sc) ts.length (ptrs l)) (hk : TReps 220 2 EncE M ts l) (hz : ts.length ≤ 1000000000) :
  Does Tryz.prog 192 #[.pointer none, .slice sa ts.length sc] w (fun v w' => v = .int .i64 (leastN ltE (ts.map RT.root) (ts.length - 1) : Nat) ∧ Step Nope M w M w') := by
 have hT := Step.refl Nope hs
 have hrts : ∀ (j : Nat) (t : RT El), ts[j]? = some t → (ts.map RT.root)[j]? = some t.root := fun j t h => by rw [List.getElem?_map, h]; rfl
 have hr0 := hr
 refine fn_enter Tryz.func192 rfl (rs := [.tmp 4]) rfl rfl rfl rfl ?_
 refine cw_rs fun _ κ => ?_
 refine as_h rfl (h_boxM hs rfl rfl fun b1 M1 w1 hs1 hb1 e1 => ?_)
 have hk:=hk.mono' EncE.mono hs1.le
 have hT:=hT.then hs1
 have hz1 := hs1.size
 refine as_h rfl (h_boxM hs1.sat rfl rfl fun b2 M2 w2 hs2 hb2 e2 => ?_)
 have hk:=hk.mono' EncE.mono hs2.le
 have hb1:=hs2.le _ _ hb1
 have hT:=hT.then hs2
 have hz2 := hs2.size
 refine Sa rfl rfl ?_
 refine as_nil (κ _ _ ?_)
 refine cw_rs fun _ κ => ?_
 have hqab := hT.size
 refine as_h rfl (h_allocO (z := (.int .i64 0)) hs2.sat (by kernel_rfl) rfl fun bb w3 hs3 hob eb => ?_)
 have hk:=hk.mono' EncE.mono hs3.le
 have hb1:=hs3.le _ _ hb1
 have hb2:=hs3.le _ _ hb2
 have hT:=hT.then hs3
 have hz3 := hs3.size
 have hlb := hob.1.lt
 refine as_h0 (h_store hs3.sat hob rfl rfl rfl (by kernel_rfl) rfl rfl rfl fun w4 hs4 hn4 => ?_)
 have hk:=hk.mono' EncE.mono hs4.le
 have hb1:=hs4.le _ _ hb1
 have hb2:=hs4.le _ _ hb2
 clear hob; have hob := hn4; clear hn4
 have hT:=hT.own hs4 (by omega)
 have hz4 := hs4.size
 refine as_nil (κ _ _ ?_)
 refine cw_rs fun _ κ => ?_
 refine as_q rfl rfl (q_func rfl rfl) ?_
 refine Sa rfl rfl ?_
 refine as_nil (κ _ _ ?_)
 refine cw_seq fun _ hK4 => ?_
 refine cw_rs fun _ κ => ?_
 refine Sa rfl rfl ?_
 refine as_nil (κ _ _ ?_)
 refine cw_block ?_
 refine cw_loop (fun mm l1 w1 => ∃ (i : Nat) (z : Int), mm = ts.length - i ∧ 1 ≤ i ∧ (i ≤ ts.length ∨ i = 1) ∧ z = (leastN ltE (ts.map RT.root) (i - 1) : Nat) ∧ l1 = [(3, .pointer (some ⟨b2, 0, none⟩)), (5, .pointer (some ⟨bb, 0, none⟩)), (6, .func (.func 196) #[] #[.pointer (some ⟨b2, 0, none⟩), .pointer (some ⟨bb, 0, none⟩), .pointer (some ⟨b1, 0, none⟩)]), (7, .int .i64 i)] ∧ Step Nope M w M2 w1 ∧ Own w1 M2 bb [.int .i64 z] 3) (ts.length - 1) [(3, .pointer (some ⟨b2, 0, none⟩)), (5, .pointer (some ⟨bb, 0, none⟩)), (6, .func (.func 196) #[] #[.pointer (some ⟨b2, 0, none⟩), .pointer (some ⟨bb, 0, none⟩), .pointer (some ⟨b1, 0, none⟩)]), (7, .int .i64 (1 : Nat))] (.cons rfl (.cons rfl (.cons rfl (.cons rfl (.nil _))))) ?_ ?_
 ·
  exact ⟨1, _, by omega, by omega, by omega, rfl, rfl, hT, hob⟩
 have hbw0 : w.heap.size ≤ bb := by omega
 clear hT hob
 rintro mm l1 w1 ⟨i, z, rfl, hi1, hi, rfl, rfl, hT, hob⟩
 refine cw_seq fun _ hK6 => ?_
 refine cw_rs fun _ κ => ?_
 refine Sm rfl rfl ?_
 refine S1 rfl (by kernel_rfl) rfl (by exact BlkR.cell (hT.sat _ _ _ hb2) rfl) ?_
 refine as_q rfl rfl (q_len (by kernel_rfl) rfl _) ?_
 refine as_q rfl rfl (q_lt rfl rfl) ?_
 refine as_nil (κ _ _ ?_)
 refine cw_cond rfl (fun hc0 => ?_) (fun hc0 => ?_)
 ·
  have hlt : i < ts.length := by have := of_decide_eq_true hc0; omega
  obtain ⟨k, hkk⟩ : ∃ k, ts[i]? = some k := ⟨ts[i], by simp⟩
  have hbl := leastN_le ltE (ts.map RT.root) (i - 1)
  obtain ⟨kb, hkb0⟩ : ∃ k, ts[leastN ltE (ts.map RT.root) (i - 1)]? = some k := ⟨ts[leastN ltE (ts.map RT.root) (i - 1)]'(by omega), by simp⟩
  have hstep := leastN_step (lt := ltE) (i := i - 1) (hrts _ k (by rw [show i - 1 + 1 = i by omega]; exact hkk)) (hrts _ kb hkb0)
  rw [show i - 1 + 1 = i by omega] at hstep
  refine cw_skip ?_
  refine hK6 _ _ ?_
  refine cw_seq fun _ hK8 => ?_
  refine cw_block ?_
  refine cw_rs fun _ κ => ?_
  refine Sm rfl rfl ?_
  refine Sm rfl rfl ?_
  refine as_h rfl (h_callv (f := 196) (first := []) (cap := [.pointer (some ⟨b2, 0, none⟩), .pointer (some ⟨bb, 0, none⟩), .pointer (some ⟨b1, 0, none⟩)]) (by kernel_rfl) rfl rfl rfl ?_)
  refine (se_least1 hT.sat hb2 hb1 hob (hr0.step hT) hk hkk hkb0).mono ?_
  rintro _ w5 ⟨rfl, hs5⟩
  have hob:=hob.then hs5
  have hT:=hT.then hs5
  have hz5 := hs5.size
  refine as_nil (κ _ _ ?_)
  refine cw_cond rfl (fun hc1 => ?_) (fun hc1 => ?_)
  ·
   rw [if_pos hc1] at hstep
   refine cw_region fun _ κ => ?_
   refine Sm rfl rfl ?_
   refine as_h0 (h_store hs5.sat hob rfl rfl rfl (by kernel_rfl) rfl rfl rfl fun w6 hs6 hn6 => ?_)
   clear hob; have hob := hn6; clear hn6
   have hT:=hT.own hs6 (by omega)
   have hz6 := hs6.size
   refine as_nil (κ _ _ ?_)
   refine hK8 _ _ ?_
   refine cw_region fun _ κ => ?_
   refine Sm rfl rfl ?_
   refine as_q rfl rfl (q_addx rfl rfl (by omega) (by omega)) ?_
   refine Sa rfl rfl ?_
   refine as_nil (κ _ _ ?_)
   refine ⟨_, _, ?_, (.cons rfl (.cons rfl (.cons rfl (.cons rfl (.nil _))))), i + 1, _, rfl, by omega, by omega, ?_, rfl, hT, hob⟩
   · omega
   · rw [show i + 1 - 1 = i by omega, hstep]
  ·
   rw [if_neg (by rw [hc1]; decide)] at hstep
   refine cw_skip ?_
   refine hK8 _ _ ?_
   refine cw_region fun _ κ => ?_
   refine Sm rfl rfl ?_
   refine as_q rfl rfl (q_addx rfl rfl (by omega) (by omega)) ?_
   refine Sa rfl rfl ?_
   refine as_nil (κ _ _ ?_)
   refine ⟨_, _, ?_, (.cons rfl (.cons rfl (.cons rfl (.cons rfl (.nil _))))), i + 1, _, rfl, by omega, by omega, ?_, rfl, hT, hob⟩
   · omega
   · rw [show i + 1 - 1 = i by omega, hstep]
 ·
  have hge : i - 1 = ts.length - 1 := by have := of_decide_eq_false hc0; omega
  refine cw_exit ?_
  refine hK4 _ _ ?_
  refine cw_rs fun _ κ => ?_
  refine S1 rfl (by kernel_rfl) rfl (by exact Blk.cell hob.1 rfl) ?_
  refine Sa rfl rfl ?_
  refine as_nil (κ _ _ ?_)
  refine cw_ret ?_
  exact ⟨_, (res_tmp rfl res_nil), by rw [hge]; rfl, hT.forget⟩
theorem se_insert_n {w : World} {M : Mem} {x : El} (hs : Sat M w) :
  Does Tryz.prog 182 #[.agg #[.pointer none], .pointer none, .agg (elc x).toArray] w (fun v w' => ∃ q M', v = .agg #[.pointer q] ∧ Step Nope M w M' w' ∧ FRep 197 220 2 EncE M' (sinsert ltE x []) q) := by
 have hT := Step.refl Nope hs
 refine fn_enter Tryz.func182 rfl (rs := [.cell 6 83]) rfl rfl rfl rfl ?_
 refine cw_rs fun _ κ => ?_
 refine as_h rfl (h_boxM hs rfl rfl fun b1 M1 w1 hs1 hb1 e1 => ?_)
 have hT:=hT.then hs1
 have hz1 := hs1.size
 refine as_h rfl (h_boxM hs1.sat rfl rfl fun b2 M2 w2 hs2 hb2 e2 => ?_)
 have hb1:=hs2.le _ _ hb1
 have hT:=hT.then hs2
 have hz2 := hs2.size
 have hqar := hT.size
 refine as_h rfl (h_allocO (z := (.agg #[(.pointer none)])) hs2.sat (by kernel_rfl) rfl fun br w3 hs3 hor er => ?_)
 have hb1:=hs3.le _ _ hb1
 have hb2:=hs3.le _ _ hb2
 have hT:=hT.then hs3
 have hz3 := hs3.size
 have hlr := hor.1.lt
 refine as_nil (κ _ _ ?_)
 refine cw_rs fun _ κ => ?_
 refine Sf 0 rfl (by kernel_rfl) rfl ?_
 refine Sc 1 rfl (by kernel_rfl) rfl (by exact BlkR.cells (hs3.sat _ _ _ hb1) rfl) ?_
 refine as_h rfl (h_call (by kernel_rfl) rfl ?_)
 refine (ce_first_n hs3.sat).mono ?_
 rintro _ w4 ⟨rfl, hs4⟩
 have hb1:=hs4.le _ _ hb1
 have hb2:=hs4.le _ _ hb2
 have hor:=hor.then hs4
 have hT:=hT.then hs4
 have hz4 := hs4.size
 refine Sm rfl rfl ?_
 refine Se rfl rfl rfl ?_
 refine Se rfl rfl rfl ?_
 refine Sa rfl rfl ?_
 refine Sa rfl rfl ?_
 refine as_nil (κ _ _ ?_)
 refine cw_rs fun _ κ => ?_
 refine Sf 0 rfl (by kernel_rfl) rfl ?_
 refine Sc 1 rfl (by kernel_rfl) rfl (by exact BlkR.cells (hs4.sat _ _ _ hb1) rfl) ?_
 refine as_h rfl (h_call (by kernel_rfl) rfl ?_)
 refine (ce_rest_n hs4.sat).mono ?_
 rintro _ w5 ⟨rfl, hs5⟩
 have hb1:=hs5.le _ _ hb1
 have hb2:=hs5.le _ _ hb2
 have hor:=hor.then hs5
 have hT:=hT.then hs5
 have hz5 := hs5.size
 refine as_h rfl (h_call (by kernel_rfl) rfl ?_)
 refine (ce_first_n hs5.sat).mono ?_
 rintro _ w6 ⟨rfl, hs6⟩
 have hb1:=hs6.le _ _ hb1
 have hb2:=hs6.le _ _ hb2
 have hor:=hor.then hs6
 have hT:=hT.then hs6
 have hz6 := hs6.size
 refine Sm rfl rfl ?_
 refine Se rfl rfl rfl ?_
 refine Se rfl rfl rfl ?_
 refine Sa rfl rfl ?_
 refine Sa rfl rfl ?_
 refine as_nil (κ _ _ ?_)
 refine cw_seq fun _ hK4 => ?_
 refine cw_rs fun _ κ => ?_
 refine Sm rfl rfl ?_
 refine Sm rfl rfl ?_
 refine as_gskip rfl rfl rfl rfl rfl ?_
 refine as_gskip rfl rfl rfl rfl rfl ?_
 refine as_gskip rfl rfl rfl rfl rfl ?_
 refine as_gskip rfl rfl rfl rfl rfl ?_
 refine as_gskip rfl rfl rfl rfl rfl ?_
 refine as_q rfl rfl (q_pick_f rfl rfl) ?_
 refine as_nil (κ _ _ ?_)
 refine cw_false rfl ?_
 refine cw_skip ?_
 refine hK4 _ _ ?_
 refine cw_dr (by kernel_rfl) fun _ κ => ?_
 have hs7 := Step.drew hs6.sat
 have hz7 := hs7.size
 have hb1:=hs7.le _ _ hb1
 have hb2:=hs7.le _ _ hb2
 have hor:=hor.then hs7
 have hT:=hT.then hs7
 refine Df 0 1 0 rfl (by kernel_rfl) (by kernel_rfl) rfl ?_
 refine Dlc 1 3 1 rfl (by kernel_rfl) (by kernel_rfl) rfl (by exact BlkR.cells (hs7.sat _ _ _ hb1) rfl) ?_
 refine Dm 2 7 rfl (by kernel_rfl) rfl ?_
 refine Dlc 3 15 2 rfl (by kernel_rfl) (by kernel_rfl) rfl (by exact BlkR.cells (hs7.sat _ _ _ hb2) rfl) ?_
 refine Dh 4 31 rfl (by kernel_rfl) (keep_sift (bs := [T,F]) (by kernel_rfl)) (h_call (by kernel_rfl) rfl ?_)
 refine (te_leaf (x := x) hs7.sat).mono ?_
 rintro _ w8 ⟨qn, Mn, rfl, hs8, hn⟩
 have hb1:=hs8.le _ _ hb1
 have hb2:=hs8.le _ _ hb2
 have hor:=hor.then hs8
 have hT:=hT.then hs8
 have hz8 := hs8.size
 refine ⟨(by repeat' first | exact trivial | exact BlkR.cell (hs8.sat _ _ _ hb1) rfl | exact BlkR.cells (hs8.sat _ _ _ hb1) rfl | exact BlkR.cell (hs8.sat _ _ _ hb2) rfl | exact BlkR.cells (hs8.sat _ _ _ hb2) rfl | exact Blk.cell hor.1 rfl | exact Blk.cells hor.1 rfl | assumption | refine all_keep ?_ | refine And.intro ?_ ?_), ?_⟩
 refine Dh 5 63 rfl (by kernel_rfl) (keep_sift (bs := [T]) (by kernel_rfl)) (h_call (by kernel_rfl) rfl ?_)
 refine (ce_push hs8.sat (show CRep 197 _ [] (.pointer none) from rfl) (by simp)).mono ?_
 rintro _ w9 ⟨qp, Mp, rfl, hs9, hp⟩
 have hor:=hor.then hs9
 have hn:=hn.mono' EncE.mono hs9.le
 have hT:=hT.then hs9
 have hz9 := hs9.size
 refine ⟨trivial, ?_⟩
 refine Dq 6 127 rfl (by kernel_rfl) (fun _ => (q_build (zs := [(.pointer none)]) (places := [(0, 1)]) (cs := [_]) (by kernel_rfl) (by kernel_rfl) rfl rfl)) ?_
 refine Dh0 7 255 rfl (by kernel_rfl) rfl (h_store hs9.sat hor rfl rfl rfl (by kernel_rfl) rfl rfl rfl fun w10 hs10 hn10 => ?_)
 have hn:=hn.mono' EncE.mono hs10.le
 have hp:=hp.mono hs10.le
 clear hor; have hor := hn10; clear hn10
 have hT:=hT.own hs10 (by omega)
 have hz10 := hs10.size
 refine ⟨trivial, ?_⟩
 refine Dd (by kernel_rfl) (κ _ _ ?_)
 refine cw_ret ?_
 exact ⟨_, (res_cell rfl (loadVar_n (n := 1) (by kernel_rfl) (by exact Blk.cells hor.1 rfl)) res_nil), _, _, rfl, hT, _, hp, treps_cons.2 ⟨_, _, rfl, hn, treps_nil.2 rfl⟩⟩
theorem se_insert_1 {w : World} {M : Mem} {x : El} {ta : RT El} {q : Option Addr} (hs : Sat M w) (h : FRep 197 220 2 EncE M [ta] q) :
  Does Tryz.prog 182 #[.agg #[.pointer q], .pointer none, .agg (elc x).toArray] w (fun v w' => ∃ q M', v = .agg #[.pointer q] ∧ Step Nope M w M' w' ∧ FRep 197 220 2 EncE M' (sinsert ltE x [ta]) q) := by
 have hT := Step.refl Nope hs
 obtain ⟨l, hc, hk⟩ := h
 obtain ⟨qa, l2, rfl, hka, hk2⟩ := treps_cons.1 hk
 obtain rfl := treps_nil.1 hk2
 clear hk2
 refine fn_enter Tryz.func182 rfl (rs := [.cell 6 83]) rfl rfl rfl rfl ?_
 refine cw_rs fun _ κ => ?_
 refine as_h rfl (h_boxM hs rfl rfl fun b1 M1 w1 hs1 hb1 e1 => ?_)
 have hc:=hc.mono hs1.le
 have hk:=hk.mono' EncE.mono hs1.le
 have hT:=hT.then hs1
 have hz1 := hs1.size
 refine as_h rfl (h_boxM hs1.sat rfl rfl fun b2 M2 w2 hs2 hb2 e2 => ?_)
 have hc:=hc.mono hs2.le
 have hk:=hk.mono' EncE.mono hs2.le
 have hb1:=hs2.le _ _ hb1
 have hT:=hT.then hs2
 have hz2 := hs2.size
 have hqar := hT.size
 refine as_h rfl (h_allocO (z := (.agg #[(.pointer none)])) hs2.sat (by kernel_rfl) rfl fun br w3 hs3 hor er => ?_)
 have hc:=hc.mono hs3.le
 have hk:=hk.mono' EncE.mono hs3.le
 have hb1:=hs3.le _ _ hb1
 have hb2:=hs3.le _ _ hb2
 have hT:=hT.then hs3
 have hz3 := hs3.size
 have hlr := hor.1.lt
 refine as_nil (κ _ _ ?_)
 refine cw_rs fun _ κ => ?_
 refine Sf 0 rfl (by kernel_rfl) rfl ?_
 refine Sc 1 rfl (by kernel_rfl) rfl (by exact BlkR.cells (hs3.sat _ _ _ hb1) rfl) ?_
 refine as_h rfl (h_call (by kernel_rfl) rfl ?_)
 refine (ce_first hs3.sat hc).mono ?_
 rintro _ w4 ⟨rfl, hs4⟩
 have hc:=hc.mono hs4.le
 have hk:=hk.mono' EncE.mono hs4.le
 have hb1:=hs4.le _ _ hb1
 have hb2:=hs4.le _ _ hb2
 have hor:=hor.then hs4
 have hT:=hT.then hs4
 have hz4 := hs4.size
 refine Sm rfl rfl ?_
 refine Se rfl rfl rfl ?_
 refine Se rfl rfl rfl ?_
 refine Sa rfl rfl ?_
 refine Sa rfl rfl ?_
 refine as_nil (κ _ _ ?_)
 refine cw_rs fun _ κ => ?_
 refine Sf 0 rfl (by kernel_rfl) rfl ?_
 refine Sc 1 rfl (by kernel_rfl) rfl (by exact BlkR.cells (hs4.sat _ _ _ hb1) rfl) ?_
 refine as_h rfl (h_call (by kernel_rfl) rfl ?_)
 refine (ce_rest hs4.sat hc).mono ?_
 rintro _ w5 ⟨qr, rfl, hs5, hcr⟩
 have hc:=hc.mono hs5.le
 have hk:=hk.mono' EncE.mono hs5.le
 have hb1:=hs5.le _ _ hb1
 have hb2:=hs5.le _ _ hb2
 have hor:=hor.then hs5
 have hT:=hT.then hs5
 have hz5 := hs5.size
 have hqr : qr = none := by
  have h : Value.pointer qr = .pointer none := hcr
  cases h; rfl
 subst hqr
 refine as_h rfl (h_call (by kernel_rfl) rfl ?_)
 refine (ce_first_n hs5.sat).mono ?_
 rintro _ w6 ⟨rfl, hs6⟩
 have hc:=hc.mono hs6.le
 have hk:=hk.mono' EncE.mono hs6.le
 have hb1:=hs6.le _ _ hb1
 have hb2:=hs6.le _ _ hb2
 have hor:=hor.then hs6
 have hT:=hT.then hs6
 have hz6 := hs6.size
 refine Sm rfl rfl ?_
 refine Se rfl rfl rfl ?_
 refine Se rfl rfl rfl ?_
 refine Sa rfl rfl ?_
 refine Sa rfl rfl ?_
 refine as_nil (κ _ _ ?_)
 refine cw_seq fun _ hK4 => ?_
 refine cw_rs fun _ κ => ?_
 refine Sm rfl rfl ?_
 refine Sm rfl rfl ?_
 refine as_gskip rfl rfl rfl rfl rfl ?_
 refine as_gskip rfl rfl rfl rfl rfl ?_
 refine as_gskip rfl rfl rfl rfl rfl ?_
 refine as_gskip rfl rfl rfl rfl rfl ?_
 refine as_gskip rfl rfl rfl rfl rfl ?_
 refine as_q rfl rfl (q_pick_f rfl rfl) ?_
 refine as_nil (κ _ _ ?_)
 refine cw_false rfl ?_
 refine cw_skip ?_
 refine hK4 _ _ ?_
 refine cw_dr (by kernel_rfl) fun _ κ => ?_
 have hs7 := Step.drew hs6.sat
 have hz7 := hs7.size
 have hc:=hc.mono hs7.le
 have hk:=hk.mono' EncE.mono hs7.le
 have hb1:=hs7.le _ _ hb1
 have hb2:=hs7.le _ _ hb2
 have hor:=hor.then hs7
 have hT:=hT.then hs7
 refine Df 0 1 0 rfl (by kernel_rfl) (by kernel_rfl) rfl ?_
 refine Dlc 1 3 1 rfl (by kernel_rfl) (by kernel_rfl) rfl (by exact BlkR.cells (hs7.sat _ _ _ hb1) rfl) ?_
 refine Dm 2 7 rfl (by kernel_rfl) rfl ?_
 refine Dlc 3 15 2 rfl (by kernel_rfl) (by kernel_rfl) rfl (by exact BlkR.cells (hs7.sat _ _ _ hb2) rfl) ?_
 refine Dh 4 31 rfl (by kernel_rfl) (keep_sift (bs := [T,F]) (by kernel_rfl)) (h_call (by kernel_rfl) rfl ?_)
 refine (te_leaf (x := x) hs7.sat).mono ?_
 rintro _ w8 ⟨qn, Mn, rfl, hs8, hn⟩
 have hc:=hc.mono hs8.le
 have hk:=hk.mono' EncE.mono hs8.le
 have hb1:=hs8.le _ _ hb1
 have hb2:=hs8.le _ _ hb2
 have hor:=hor.then hs8
 have hT:=hT.then hs8
 have hz8 := hs8.size
 refine ⟨(by repeat' first | exact trivial | exact BlkR.cell (hs8.sat _ _ _ hb1) rfl | exact BlkR.cells (hs8.sat _ _ _ hb1) rfl | exact BlkR.cell (hs8.sat _ _ _ hb2) rfl | exact BlkR.cells (hs8.sat _ _ _ hb2) rfl | exact Blk.cell hor.1 rfl | exact Blk.cells hor.1 rfl | assumption | refine all_keep ?_ | refine And.intro ?_ ?_), ?_⟩
 refine Dh 5 63 rfl (by kernel_rfl) (keep_sift (bs := [T]) (by kernel_rfl)) (h_call (by kernel_rfl) rfl ?_)
 refine (ce_push hs8.sat hc (by simp)).mono ?_
 rintro _ w9 ⟨qp, Mp, rfl, hs9, hp⟩
 have hk:=hk.mono' EncE.mono hs9.le
 have hor:=hor.then hs9
 have hn:=hn.mono' EncE.mono hs9.le
 have hT:=hT.then hs9
 have hz9 := hs9.size
 refine ⟨trivial, ?_⟩
 refine Dq 6 127 rfl (by kernel_rfl) (fun _ => (q_build (zs := [(.pointer none)]) (places := [(0, 1)]) (cs := [_]) (by kernel_rfl) (by kernel_rfl) rfl rfl)) ?_
 refine Dh0 7 255 rfl (by kernel_rfl) rfl (h_store hs9.sat hor rfl rfl rfl (by kernel_rfl) rfl rfl rfl fun w10 hs10 hn10 => ?_)
 have hk:=hk.mono' EncE.mono hs10.le
 have hn:=hn.mono' EncE.mono hs10.le
 have hp:=hp.mono hs10.le
 clear hor; have hor := hn10; clear hn10
 have hT:=hT.own hs10 (by omega)
 have hz10 := hs10.size
 refine ⟨trivial, ?_⟩
 refine Dd (by kernel_rfl) (κ _ _ ?_)
 refine cw_ret ?_
 exact ⟨_, (res_cell rfl (loadVar_n (n := 1) (by kernel_rfl) (by exact Blk.cells hor.1 rfl)) res_nil), _, _, rfl, hT, _, hp, treps_cons.2 ⟨_, _, rfl, hn, hk⟩⟩
theorem se_insert_2 {w : World} {M : Mem} {x : El} {ta tb : RT El} {ts : List (RT El)} {q : Option Addr} (hs : Sat M w) (h : FRep 197 220 2 EncE M (ta :: tb :: ts) q) (hz : RT.sizes (ta :: tb :: ts) < 1000000000) :
  Does Tryz.prog 182 #[.agg #[.pointer q], .pointer none, .agg (elc x).toArray] w (fun v w' => ∃ q M', v = .agg #[.pointer q] ∧ Step Nope M w M' w' ∧ FRep 197 220 2 EncE M' (sinsert ltE x (ta :: tb :: ts)) q) := by
 have hT := Step.refl Nope hs
 obtain ⟨l, hc, hk⟩ := h
 obtain ⟨qa, l2, rfl, hka, hk2⟩ := treps_cons.1 hk
 obtain ⟨qb, lt, rfl, hkb, hkt⟩ := treps_cons.1 hk2
 clear hk2
 refine fn_enter Tryz.func182 rfl (rs := [.cell 6 83]) rfl rfl rfl rfl ?_
 refine cw_rs fun _ κ => ?_
 refine as_h rfl (h_boxM hs rfl rfl fun b1 M1 w1 hs1 hb1 e1 => ?_)
 have hc:=hc.mono hs1.le
 have hk:=hk.mono' EncE.mono hs1.le
 have hka:=hka.mono' EncE.mono hs1.le
 have hkb:=hkb.mono' EncE.mono hs1.le
 have hkt:=hkt.mono' EncE.mono hs1.le
 have hT:=hT.then hs1
 have hz1 := hs1.size
 refine as_h rfl (h_boxM hs1.sat rfl rfl fun b2 M2 w2 hs2 hb2 e2 => ?_)
 have hc:=hc.mono hs2.le
 have hk:=hk.mono' EncE.mono hs2.le
 have hka:=hka.mono' EncE.mono hs2.le
 have hkb:=hkb.mono' EncE.mono hs2.le
 have hkt:=hkt.mono' EncE.mono hs2.le
 have hb1:=hs2.le _ _ hb1
 have hT:=hT.then hs2
 have hz2 := hs2.size
 have hqar := hT.size
 refine as_h rfl (h_allocO (z := (.agg #[(.pointer none)])) hs2.sat (by kernel_rfl) rfl fun br w3 hs3 hor er => ?_)
 have hc:=hc.mono hs3.le
 have hk:=hk.mono' EncE.mono hs3.le
 have hka:=hka.mono' EncE.mono hs3.le
 have hkb:=hkb.mono' EncE.mono hs3.le
 have hkt:=hkt.mono' EncE.mono hs3.le
 have hb1:=hs3.le _ _ hb1
 have hb2:=hs3.le _ _ hb2
 have hT:=hT.then hs3
 have hz3 := hs3.size
 have hlr := hor.1.lt
 refine as_nil (κ _ _ ?_)
 refine cw_rs fun _ κ => ?_
 refine Sf 0 rfl (by kernel_rfl) rfl ?_
 refine Sc 1 rfl (by kernel_rfl) rfl (by exact BlkR.cells (hs3.sat _ _ _ hb1) rfl) ?_
 refine as_h rfl (h_call (by kernel_rfl) rfl ?_)
 refine (ce_first hs3.sat hc).mono ?_
 rintro _ w4 ⟨rfl, hs4⟩
 have hc:=hc.mono hs4.le
 have hk:=hk.mono' EncE.mono hs4.le
 have hka:=hka.mono' EncE.mono hs4.le
 have hkb:=hkb.mono' EncE.mono hs4.le
 have hkt:=hkt.mono' EncE.mono hs4.le
 have hb1:=hs4.le _ _ hb1
 have hb2:=hs4.le _ _ hb2
 have hor:=hor.then hs4
 have hT:=hT.then hs4
 have hz4 := hs4.size
 refine Sm rfl rfl ?_
 refine Se rfl rfl rfl ?_
 refine Se rfl rfl rfl ?_
 refine Sa rfl rfl ?_
 refine Sa rfl rfl ?_
 refine as_nil (κ _ _ ?_)
 refine cw_rs fun _ κ => ?_
 refine Sf 0 rfl (by kernel_rfl) rfl ?_
 refine Sc 1 rfl (by kernel_rfl) rfl (by exact BlkR.cells (hs4.sat _ _ _ hb1) rfl) ?_
 refine as_h rfl (h_call (by kernel_rfl) rfl ?_)
 refine (ce_rest hs4.sat hc).mono ?_
 rintro _ w5 ⟨qr, rfl, hs5, hcr⟩
 have hc:=hc.mono hs5.le
 have hk:=hk.mono' EncE.mono hs5.le
 have hka:=hka.mono' EncE.mono hs5.le
 have hkb:=hkb.mono' EncE.mono hs5.le
 have hkt:=hkt.mono' EncE.mono hs5.le
 have hb1:=hs5.le _ _ hb1
 have hb2:=hs5.le _ _ hb2
 have hor:=hor.then hs5
 have hT:=hT.then hs5
 have hz5 := hs5.size
 refine as_h rfl (h_call (by kernel_rfl) rfl ?_)
 refine (ce_first hs5.sat hcr).mono ?_
 rintro _ w6 ⟨rfl, hs6⟩
 have hc:=hc.mono hs6.le
 have hk:=hk.mono' EncE.mono hs6.le
 have hka:=hka.mono' EncE.mono hs6.le
 have hkb:=hkb.mono' EncE.mono hs6.le
 have hkt:=hkt.mono' EncE.mono hs6.le
 have hb1:=hs6.le _ _ hb1
 have hb2:=hs6.le _ _ hb2
 have hor:=hor.then hs6
 have hT:=hT.then hs6
 have hz6 := hs6.size
 refine Sm rfl rfl ?_
 refine Se rfl rfl rfl ?_
 refine Se rfl rfl rfl ?_
 refine Sa rfl rfl ?_
 refine Sa rfl rfl ?_
 refine as_nil (κ _ _ ?_)
 refine cw_seq fun _ hK4 => ?_
 refine cw_rs fun _ κ => ?_
 refine Sm rfl rfl ?_
 refine Sm rfl rfl ?_
 refine as_gh rfl rfl rfl rfl (h_q rfl (q_move rfl) ?_)
 refine as_gh rfl rfl rfl rfl (h_call (by kernel_rfl) rfl ?_)
 refine (te_rank hs6.sat hka).mono ?_
 rintro _ w7 ⟨rfl, hs7⟩
 have hc:=hc.mono hs7.le
 have hk:=hk.mono' EncE.mono hs7.le
 have hka:=hka.mono' EncE.mono hs7.le
 have hkb:=hkb.mono' EncE.mono hs7.le
 have hkt:=hkt.mono' EncE.mono hs7.le
 have hb1:=hs7.le _ _ hb1
 have hb2:=hs7.le _ _ hb2
 have hor:=hor.then hs7
 have hT:=hT.then hs7
 have hz7 := hs7.size
 refine as_gh rfl rfl rfl rfl (h_q rfl (q_move rfl) ?_)
 refine as_gh rfl rfl rfl rfl (h_call (by kernel_rfl) rfl ?_)
 refine (te_rank hs7.sat hkb).mono ?_
 rintro _ w8 ⟨rfl, hs8⟩
 have hc:=hc.mono hs8.le
 have hk:=hk.mono' EncE.mono hs8.le
 have hka:=hka.mono' EncE.mono hs8.le
 have hkb:=hkb.mono' EncE.mono hs8.le
 have hkt:=hkt.mono' EncE.mono hs8.le
 have hb1:=hs8.le _ _ hb1
 have hb2:=hs8.le _ _ hb2
 have hor:=hor.then hs8
 have hT:=hT.then hs8
 have hz8 := hs8.size
 refine as_gh rfl rfl rfl rfl (h_q rfl (q_eq rfl rfl) ?_)
 refine as_q rfl rfl (q_pick_t rfl rfl) ?_
 refine as_nil (κ _ _ ?_)
 refine cw_cond rfl (fun hc0 => ?_) (fun hc0 => ?_)
 ·
  replace hc0 : ta.rank = tb.rank := by have := of_decide_eq_true hc0; omega
  refine cw_dr (by kernel_rfl) fun _ κ => ?_
  have hs9 := Step.drew hs8.sat
  have hz9 := hs9.size
  have hc:=hc.mono hs9.le
  have hk:=hk.mono' EncE.mono hs9.le
  have hka:=hka.mono' EncE.mono hs9.le
  have hkb:=hkb.mono' EncE.mono hs9.le
  have hkt:=hkt.mono' EncE.mono hs9.le
  have hb1:=hs9.le _ _ hb1
  have hb2:=hs9.le _ _ hb2
  have hor:=hor.then hs9
  have hT:=hT.then hs9
  refine Df 0 1 0 rfl (by kernel_rfl) (by kernel_rfl) rfl ?_
  refine Dlc 1 3 1 rfl (by kernel_rfl) (by kernel_rfl) rfl (by exact BlkR.cells (hs9.sat _ _ _ hb1) rfl) ?_
  refine Dm 3 11 rfl (by kernel_rfl) rfl ?_
  refine Dlc 4 27 2 rfl (by kernel_rfl) (by kernel_rfl) rfl (by exact BlkR.cells (hs9.sat _ _ _ hb2) rfl) ?_
  refine Dm 5 59 rfl (by kernel_rfl) rfl ?_
  refine Dm 6 123 rfl (by kernel_rfl) rfl ?_
  refine Dh 2 127 rfl (by kernel_rfl) (keep_sift (bs := [F,T]) (by kernel_rfl)) (h_call (by kernel_rfl) rfl ?_)
  refine (ce_drop (n := 2) hs9.sat hc (by decide)).mono ?_
  rintro _ w10 ⟨qd, rfl, hs10, hcd⟩
  replace hcd : CRep 197 _ lt (.pointer qd) := hcd
  have hc:=hc.mono hs10.le
  have hk:=hk.mono' EncE.mono hs10.le
  have hka:=hka.mono' EncE.mono hs10.le
  have hkb:=hkb.mono' EncE.mono hs10.le
  have hkt:=hkt.mono' EncE.mono hs10.le
  have hb1:=hs10.le _ _ hb1
  have hb2:=hs10.le _ _ hb2
  have hor:=hor.then hs10
  have hT:=hT.then hs10
  have hz10 := hs10.size
  refine ⟨(by repeat' first | exact trivial | exact BlkR.cell (hs10.sat _ _ _ hb1) rfl | exact BlkR.cells (hs10.sat _ _ _ hb1) rfl | exact BlkR.cell (hs10.sat _ _ _ hb2) rfl | exact BlkR.cells (hs10.sat _ _ _ hb2) rfl | exact Blk.cell hor.1 rfl | exact Blk.cells hor.1 rfl | assumption | refine all_keep ?_ | refine And.intro ?_ ?_), ?_⟩
  refine Dh 7 255 rfl (by kernel_rfl) (keep_sift (bs := [T]) (by kernel_rfl)) (h_call (by kernel_rfl) rfl ?_)
  refine (te_skew (x := x) hs10.sat hka hkb (by simp only [RT.sizes] at hz; omega)).mono ?_
  rintro _ w11 ⟨qn, Mn, rfl, hs11, hn⟩
  have hc:=hc.mono hs11.le
  have hk:=hk.mono' EncE.mono hs11.le
  have hkt:=hkt.mono' EncE.mono hs11.le
  have hb1:=hs11.le _ _ hb1
  have hb2:=hs11.le _ _ hb2
  have hor:=hor.then hs11
  have hcd:=hcd.mono hs11.le
  have hT:=hT.then hs11
  have hz11 := hs11.size
  refine ⟨trivial, ?_⟩
  refine Dh 8 511 rfl (by kernel_rfl) rfl (h_call (by kernel_rfl) rfl ?_)
  refine (ce_push hs11.sat hcd (by have := RT.sizes_length ts; have := hkt.length; simp only [RT.sizes] at hz; simp; omega)).mono ?_
  rintro _ w12 ⟨qp, Mp, rfl, hs12, hp⟩
  have hc:=hc.mono hs12.le
  have hk:=hk.mono' EncE.mono hs12.le
  have hkt:=hkt.mono' EncE.mono hs12.le
  have hb1:=hs12.le _ _ hb1
  have hb2:=hs12.le _ _ hb2
  have hor:=hor.then hs12
  have hn:=hn.mono' EncE.mono hs12.le
  have hT:=hT.then hs12
  have hz12 := hs12.size
  refine ⟨trivial, ?_⟩
  refine Dq 9 1023 rfl (by kernel_rfl) (fun _ => (q_build (zs := [(.pointer none)]) (places := [(0, 1)]) (cs := [_]) (by kernel_rfl) (by kernel_rfl) rfl rfl)) ?_
  refine Dh0 10 2047 rfl (by kernel_rfl) rfl (h_store hs12.sat hor rfl rfl rfl (by kernel_rfl) rfl rfl rfl fun w13 hs13 hn13 => ?_)
  have hc:=hc.mono hs13.le
  have hk:=hk.mono' EncE.mono hs13.le
  have hkt:=hkt.mono' EncE.mono hs13.le
  have hb1:=hs13.le _ _ hb1
  have hb2:=hs13.le _ _ hb2
  have hn:=hn.mono' EncE.mono hs13.le
  have hp:=hp.mono hs13.le
  clear hor; have hor := hn13; clear hn13
  have hT:=hT.own hs13 (by omega)
  have hz13 := hs13.size
  refine ⟨trivial, ?_⟩
  refine Dd (by kernel_rfl) (κ _ _ ?_)
  refine cw_ret ?_
  rw [show sinsert ltE x (ta :: tb :: ts) = RT.skew ltE x ta tb :: ts from if_pos hc0]
  exact ⟨_, (res_cell rfl (loadVar_n (n := 1) (by kernel_rfl) (by exact Blk.cells hor.1 rfl)) res_nil), _, _, rfl, hT, _, hp, treps_cons.2 ⟨_, _, rfl, hn, hkt⟩⟩
 ·
  replace hc0 : ¬ ta.rank = tb.rank := by have := of_decide_eq_false hc0; omega
  refine cw_skip ?_
  refine hK4 _ _ ?_
  refine cw_dr (by kernel_rfl) fun _ κ => ?_
  have hs14 := Step.drew hs8.sat
  have hz14 := hs14.size
  have hc:=hc.mono hs14.le
  have hk:=hk.mono' EncE.mono hs14.le
  have hkt:=hkt.mono' EncE.mono hs14.le
  have hb1:=hs14.le _ _ hb1
  have hb2:=hs14.le _ _ hb2
  have hor:=hor.then hs14
  have hT:=hT.then hs14
  refine Df 0 1 0 rfl (by kernel_rfl) (by kernel_rfl) rfl ?_
  refine Dlc 1 3 1 rfl (by kernel_rfl) (by kernel_rfl) rfl (by exact BlkR.cells (hs14.sat _ _ _ hb1) rfl) ?_
  refine Dm 2 7 rfl (by kernel_rfl) rfl ?_
  refine Dlc 3 15 2 rfl (by kernel_rfl) (by kernel_rfl) rfl (by exact BlkR.cells (hs14.sat _ _ _ hb2) rfl) ?_
  refine Dh 4 31 rfl (by kernel_rfl) (keep_sift (bs := [T,F]) (by kernel_rfl)) (h_call (by kernel_rfl) rfl ?_)
  refine (te_leaf (x := x) hs14.sat).mono ?_
  rintro _ w15 ⟨qn, Mn, rfl, hs15, hn⟩
  have hc:=hc.mono hs15.le
  have hk:=hk.mono' EncE.mono hs15.le
  have hkt:=hkt.mono' EncE.mono hs15.le
  have hb1:=hs15.le _ _ hb1
  have hb2:=hs15.le _ _ hb2
  have hor:=hor.then hs15
  have hT:=hT.then hs15
  have hz15 := hs15.size
  refine ⟨(by repeat' first | exact trivial | exact BlkR.cell (hs15.sat _ _ _ hb1) rfl | exact BlkR.cells (hs15.sat _ _ _ hb1) rfl | exact BlkR.cell (hs15.sat _ _ _ hb2) rfl | exact BlkR.cells (hs15.sat _ _ _ hb2) rfl | exact Blk.cell hor.1 rfl | exact Blk.cells hor.1 rfl | assumption | refine all_keep ?_ | refine And.intro ?_ ?_), ?_⟩
  refine Dh 5 63 rfl (by kernel_rfl) (keep_sift (bs := [T]) (by kernel_rfl)) (h_call (by kernel_rfl) rfl ?_)
  refine (ce_push hs15.sat hc (by simp; have := RT.sizes_length ts; have := ta.size_pos; have := tb.size_pos; have := hkt.length; simp only [RT.sizes] at hz; omega)).mono ?_
  rintro _ w16 ⟨qp, Mp, rfl, hs16, hp⟩
  have hk:=hk.mono' EncE.mono hs16.le
  have hor:=hor.then hs16
  have hn:=hn.mono' EncE.mono hs16.le
  have hT:=hT.then hs16
  have hz16 := hs16.size
  refine ⟨trivial, ?_⟩
  refine Dq 6 127 rfl (by kernel_rfl) (fun _ => (q_build (zs := [(.pointer none)]) (places := [(0, 1)]) (cs := [_]) (by kernel_rfl) (by kernel_rfl) rfl rfl)) ?_
  refine Dh0 7 255 rfl (by kernel_rfl) rfl (h_store hs16.sat hor rfl rfl rfl (by kernel_rfl) rfl rfl rfl fun w17 hs17 hn17 => ?_)
  have hk:=hk.mono' EncE.mono hs17.le
  have hn:=hn.mono' EncE.mono hs17.le
  have hp:=hp.mono hs17.le
  clear hor; have hor := hn17; clear hn17
  have hT:=hT.own hs17 (by omega)
  have hz17 := hs17.size
  refine ⟨trivial, ?_⟩
  refine Dd (by kernel_rfl) (κ _ _ ?_)
  refine cw_ret ?_
  rw [show sinsert ltE x (ta :: tb :: ts) = RT.leaf x :: ta :: tb :: ts from if_neg hc0]
  exact ⟨_, (res_cell rfl (loadVar_n (n := 1) (by kernel_rfl) (by exact Blk.cells hor.1 rfl)) res_nil), _, _, rfl, hT, _, hp, treps_cons.2 ⟨_, _, rfl, hn, hk⟩⟩
theorem se_insert {w : World} {M : Mem} {x : El} {ts : List (RT El)} {q : Option Addr} (hs : Sat M w) (h : FRep 197 220 2 EncE M ts q) (hz : RT.sizes ts < 1000000000) :
  Does Tryz.prog 182 #[.agg #[.pointer q], .pointer none, .agg (elc x).toArray] w (fun v w' => ∃ q M', v = .agg #[.pointer q] ∧ Step Nope M w M' w' ∧ FRep 197 220 2 EncE M' (sinsert ltE x ts) q) := by
 match ts, h, hz with
 | [], h, _ => obtain rfl := frep_nil.1 h; exact se_insert_n hs
 | [ta], h, _ => exact se_insert_1 hs h
 | ta :: tb :: ts, h, hz => exact se_insert_2 hs h hz
theorem se_min {w : World} {M : Mem} {ts : List (RT El)} {t : RT El} {q : Option Addr} (hs : Sat M w) (h : FRep 197 220 2 EncE M ts q) (ht : ts[leastN ltE (ts.map RT.root) (ts.length - 1)]? = some t) (hz : RT.sizes ts ≤ 1000000000) :
  Does Tryz.prog 184 #[.agg #[.pointer q], .pointer none] w (fun v w' => v = .tuple #[.agg (elc t.root).toArray, .bool true] ∧ Step Nope M w M w') := by
 have hT := Step.refl Nope hs
 obtain ⟨l, hc, hk, hll, hlz⟩ := h.len
 obtain ⟨kq, hkq, hkr⟩ := hk.get ht
 have hpos : 0 < ts.length := Nat.lt_of_le_of_lt (Nat.zero_le _) (List.getElem?_eq_some_iff.1 ht).1
 have hbl := leastN_le ltE (ts.map RT.root) (ts.length - 1)
 refine fn_enter Tryz.func184 rfl (rs := [.cell 4 24, .tmp 5]) rfl rfl rfl rfl ?_
 refine cw_rs fun _ κ => ?_
 refine as_h rfl (h_boxM hs rfl rfl fun b1 M1 w1 hs1 hb1 e1 => ?_)
 have hc:=hc.mono hs1.le
 have hk:=hk.mono' EncE.mono hs1.le
 have hkr:=hkr.mono' EncE.mono hs1.le
 have hT:=hT.then hs1
 have hz1 := hs1.size
 have hqar := hT.size
 refine as_h rfl (h_allocO (z := (.agg #[(.int .i64 0), (.int .i64 0)])) hs1.sat (by kernel_rfl) rfl fun br w2 hs2 hor er => ?_)
 have hc:=hc.mono hs2.le
 have hk:=hk.mono' EncE.mono hs2.le
 have hkr:=hkr.mono' EncE.mono hs2.le
 have hb1:=hs2.le _ _ hb1
 have hT:=hT.then hs2
 have hz2 := hs2.size
 have hlr := hor.1.lt
 refine Sa rfl rfl ?_
 refine as_nil (κ _ _ ?_)
 refine cw_rs fun _ κ => ?_
 refine Sf 0 rfl (by kernel_rfl) rfl ?_
 refine Sc 1 rfl (by kernel_rfl) rfl (by exact BlkR.cells (hs2.sat _ _ _ hb1) rfl) ?_
 refine as_h rfl (h_call (by kernel_rfl) rfl ?_)
 refine (ce_all hs2.sat hc (by omega)).mono ?_
 rintro av w3 ⟨Ma, hs3, hba, hfa⟩
 have hk:=hk.mono' EncE.mono hs3.le
 have hkr:=hkr.mono' EncE.mono hs3.le
 have hor:=hor.then hs3
 have hT:=hT.then hs3
 have hz3 := hs3.size
 rw [hll] at hba
 obtain ⟨aa, ac, rfl, _, _⟩ := hba.slice
 obtain ⟨g, o, rfl⟩ := hba.rd.there (by omega)
 refine Sa rfl rfl ?_
 refine as_nil (κ _ _ ?_)
 refine cw_seq fun _ hK3 => ?_
 refine cw_rs fun _ κ => ?_
 refine Sm rfl rfl ?_
 refine as_q rfl rfl (q_len (by kernel_rfl) rfl _) ?_
 refine as_q rfl rfl (q_eqF rfl rfl (by omega)) ?_
 refine as_nil (κ _ _ ?_)
 refine cw_false rfl ?_
 refine cw_skip ?_
 refine hK3 _ _ ?_
 refine cw_rs fun _ κ => ?_
 refine Sm rfl rfl ?_
 refine Sm rfl rfl ?_
 refine Sm rfl rfl ?_
 refine as_h rfl (h_call (by kernel_rfl) rfl ?_)
 refine (se_least hs3.sat hba.rds hk (by omega)).mono ?_
 rintro _ w4 ⟨rfl, hs4⟩
 have hkr:=hkr.mono' EncE.mono hs4.le
 have hor:=hor.then hs4
 have hba:=hba.then hs4
 have hT:=hT.then hs4
 have hz4 := hs4.size
 refine as_q rfl rfl (q_indexAddr (e := 195) (size := 1) (by kernel_rfl) (by kernel_rfl) rfl rfl (by omega) (by omega)) ?_
 refine S1 rfl (by kernel_rfl) rfl (Buf.cell hba (u := .pointer kq) (j := ((leastN ltE (ts.map RT.root) (ts.length - 1) : Nat) : Int).toNat * 1) (by rw [show ((leastN ltE (ts.map RT.root) (ts.length - 1) : Nat) : Int).toNat * 1 = leastN ltE (ts.map RT.root) (ts.length - 1) from by omega]; simp [ptrs, hkq])) ?_
 refine as_h rfl (h_call (by kernel_rfl) rfl ?_)
 refine (te_root hs4.sat hkr).mono ?_
 rintro _ w5 ⟨rfl, hs5⟩
 have hor:=hor.then hs5
 have hT:=hT.then hs5
 have hz5 := hs5.size
 refine Se rfl rfl rfl ?_
 refine Se rfl rfl rfl ?_
 refine as_h0 (h_store hs5.sat hor rfl rfl rfl (by kernel_rfl) rfl rfl rfl fun w6 hs6 hn6 => ?_)
 clear hor; have hor := hn6; clear hn6
 have hT:=hT.own hs6 (by omega)
 have hz6 := hs6.size
 refine Sa rfl rfl ?_
 refine as_nil (κ _ _ ?_)
 refine cw_ret ?_
 exact ⟨_, (res_cell rfl (loadVar_n (n := 2) (by kernel_rfl) (by exact Blk.cells hor.1 rfl)) (res_tmp rfl res_nil)), rfl, hT.forget⟩
end Go.Proofs.YtgcgjpfjjgalmaaGreat
/- Skew binomial heaps of elements, part 2. -/
namespace Go.Proofs.YtgcgjpfjjgalmaaGreat
open Go Go.Eng
theorem se_put {w : World} {M : Mem} {t0 : RT El} {ts0 : List (RT El)} {qt0 : Option Addr} {v0 : Value} (hs : Sat M w) (ht : TRep 220 2 EncE M t0 qt0) (h : SRow 220 2 EncE M w ts0 v0) (hz : t0.size + RT.sizes ts0 ≤ 1000000000) :
  Does Tryz.prog 195 #[.pointer none, .pointer qt0, v0] w (fun v w' => ∃ M', Step Nope M w M' w' ∧ SRow 220 2 EncE M' w' (bput ltE t0 ts0) v) := by
 have hT := Step.refl Nope hs
 obtain ⟨sa, sc, l, rfl, hr, hk⟩ := h
 refine fn_enter Tryz.func195 rfl (rs := [.tmp 6]) rfl rfl rfl rfl ?_
 refine cw_rs fun _ κ => ?_
 refine Sa rfl rfl ?_
 refine as_nil (κ _ _ ?_)
 refine cw_seq fun _ hK2 => ?_
 refine cw_block ?_
 refine cw_loop (fun mm l1 w1 => ∃ (t : RT El) (ts : List (RT El)) (l : List (Option Addr)) (qt sa : Option Addr) (sc : Nat) (M1 : Mem), mm = ts.length ∧ bput ltE t ts = bput ltE t0 ts0 ∧ t.size + RT.sizes ts ≤ 1000000000 ∧ l1 = [(0, .pointer none), (1, .pointer qt), (2, .slice sa ts.length sc)] ∧ Step Nope M w M1 w1 ∧ Rds M1 w1 1 (.slice sa ts.length sc) ts.length (ptrs l) ∧ TReps 220 2 EncE M1 ts l ∧ TRep 220 2 EncE M1 t qt) (ts0.length) [(0, .pointer none), (1, .pointer qt0), (2, .slice sa ts0.length sc)] (.cons rfl (.cons rfl (.cons rfl (.nil _)))) ?_ ?_
 ·
  exact ⟨t0, ts0, l, qt0, sa, sc, M, rfl, rfl, hz, rfl, hT, hr, hk, ht⟩
 clear hT hr hk ht hz
 rintro mm l1 w1 ⟨t, ts, l, qt, sa, sc, M1, rfl, hmod, hz, rfl, hT, hr, hk, ht⟩
 have hln := hk.length
 have hlz := RT.sizes_length ts
 have hcap : ts.length ≤ sc := by
  obtain ⟨_, _, h, h2, _⟩ := hr.slice hT.sat
  cases h; exact h2
 refine cw_seq fun _ hK3 => ?_
 rcases ts with _ | ⟨f, r⟩
 ·
  obtain rfl := treps_nil.1 hk
  have hlc : ([] : List (RT El)).length = 0 := rfl
  refine cw_dr (by kernel_rfl) fun _ κ => ?_
  have hs1 := Step.drew hT.sat
  have hz1 := hs1.size
  have hr:=hr.step hs1
  have hk:=hk.mono' EncE.mono hs1.le
  have ht:=ht.mono' EncE.mono hs1.le
  have hT:=hT.then hs1
  refine Dm 0 1 rfl (by kernel_rfl) rfl ?_
  refine Dq 1 3 rfl (by kernel_rfl) (fun _ => (q_len (by kernel_rfl) rfl _)) ?_
  refine Dq 2 7 rfl (by kernel_rfl) (fun _ => (q_gtF rfl rfl (by omega))) ?_
  refine Dm 3 15 rfl (by kernel_rfl) rfl ?_
  refine Dgs 4 31 rfl (by kernel_rfl) rfl rfl ?_
  refine Dgs 5 63 rfl (by kernel_rfl) rfl rfl ?_
  refine Dgs 6 127 rfl (by kernel_rfl) rfl rfl ?_
  refine Dgs 7 255 rfl (by kernel_rfl) rfl rfl ?_
  refine Dgs 8 511 rfl (by kernel_rfl) rfl rfl ?_
  refine Dgs 9 1023 rfl (by kernel_rfl) rfl rfl ?_
  refine Dgs 10 2047 rfl (by kernel_rfl) rfl rfl ?_
  refine Dq 11 4095 rfl (by kernel_rfl) (fun _ => (q_pick_f rfl rfl)) ?_
  refine Dd (by kernel_rfl) (κ _ _ ?_)
  refine cw_false rfl ?_
  refine cw_exit ?_
  refine hK2 _ _ ?_
  refine cw_rs fun _ κ => ?_
  refine Sm rfl rfl ?_
  have hTz := hT.size
  refine as_h rfl (h_buildO (e := 195) (size := 1) (zs := [(.pointer none)]) (cs := [_]) (by kernel_rfl) (by kernel_rfl) (by kernel_rfl) rfl hs1.sat rfl rfl fun bB w2 hs2 hoB eB => ?_)
  have hr:=hr.step hs2
  have hk:=hk.mono' EncE.mono hs2.le
  have ht:=ht.mono' EncE.mono hs2.le
  have hT:=hT.then hs2
  have hz2 := hs2.size
  refine Sm rfl rfl ?_
  have hbb := Own.buf hoB (n := 1) (size := 1) rfl (by decide)
  refine as_h rfl (h_append (e := 195) (size := 1) (bytes := 8) (by kernel_rfl) hs2.sat hbb (hr.now hs2.sat) rfl rfl (ptrs_one _) (by omega) rfl fun sv w3 hs3 hbu hor => ?_)
  have hT:=hT.trans hs3 (fun k hk h => by have h2 : bB = k := Option.some.inj h; omega)
  have hbs := hbu.rds
  have hk:=hk.mono' EncE.mono hs3.le
  have ht:=ht.mono' EncE.mono hs3.le
  obtain ⟨sva, svc, rfl, _, _⟩ := hbu.slice
  refine Sa rfl rfl ?_
  refine as_nil (κ _ _ ?_)
  refine cw_ret ?_
  rw [show bput ltE t0 ts0 = [t] from by rw [← hmod]; rfl]
  exact ⟨_, (res_tmp rfl res_nil), _, hT, sva, svc, _, congrArg (fun k => Value.slice sva k svc) (by simp <;> omega), hbs.cast (congrArg (fun k => Value.slice sva k svc) (by simp <;> omega)) (by simp <;> omega) rfl, treps_cons.2 ⟨_, _, rfl, ht, hk⟩⟩
 ·
  obtain ⟨fq, lr, rfl, hf, hk2⟩ := treps_cons.1 hk
  obtain ⟨g, o, rfl⟩ := (hr.now hT.sat).there (by simp)
  have hlc : (f :: r).length = r.length + 1 := rfl
  refine cw_dr (by kernel_rfl) fun _ κ => ?_
  have hs4 := Step.drew hT.sat
  have hz4 := hs4.size
  have hr:=hr.step hs4
  have hk:=hk.mono' EncE.mono hs4.le
  have ht:=ht.mono' EncE.mono hs4.le
  have hf:=hf.mono' EncE.mono hs4.le
  have hk2:=hk2.mono' EncE.mono hs4.le
  have hT:=hT.then hs4
  refine Dm 0 1 rfl (by kernel_rfl) rfl ?_
  refine Dq 1 3 rfl (by kernel_rfl) (fun _ => (q_len (by kernel_rfl) rfl _)) ?_
  refine Dq 2 7 rfl (by kernel_rfl) (fun _ => (q_gtT rfl rfl (by omega))) ?_
  refine Dm 3 15 rfl (by kernel_rfl) rfl ?_
  refine Dgq 4 31 rfl (by kernel_rfl) rfl rfl (fun _ => (q_move rfl)) ?_
  refine Dgq 6 95 rfl (by kernel_rfl) rfl rfl (fun _ => (q_move rfl)) ?_
  refine Dgq 7 223 rfl (by kernel_rfl) rfl rfl (fun _ => (q_indexAddr (e := 195) (size := 1) (by kernel_rfl) (by kernel_rfl) rfl rfl (by omega) (by omega))) ?_
  refine at_gq (i := 8) (li := lb 12 479) (cellIs _ _ _) rfl (by kernel_rfl) rfl rfl rfl rfl (fun _ h => q_load1 (by kernel_rfl) rfl h) ((hr _ _ (Step.refl _ hT.sat)).cell (u := .pointer fq) (j := (0 : Int).toNat * 1) rfl) (by kernel_rfl) ?_
  refine Dgh 5 511 rfl (by kernel_rfl) rfl rfl (keep_sift (bs := [F]) (by kernel_rfl)) (h_call (by kernel_rfl) rfl ?_)
  refine (te_rank hs4.sat ht).mono ?_
  rintro _ w5 ⟨rfl, hs5⟩
  have hr:=hr.step hs5
  have hk:=hk.mono' EncE.mono hs5.le
  have ht:=ht.mono' EncE.mono hs5.le
  have hf:=hf.mono' EncE.mono hs5.le
  have hk2:=hk2.mono' EncE.mono hs5.le
  have hT:=hT.then hs5
  have hz5 := hs5.size
  refine ⟨(by repeat' first | exact trivial | exact ((hr _ _ (Step.refl _ hT.sat)).cell (u := .pointer fq) (j := (0 : Int).toNat * 1) rfl) | assumption | refine all_keep ?_ | refine And.intro ?_ ?_), ?_⟩
  refine Dgh 9 1023 rfl (by kernel_rfl) rfl rfl (keep_sift (bs := [T]) (by kernel_rfl)) (h_call (by kernel_rfl) rfl ?_)
  refine (te_rank hs5.sat hf).mono ?_
  rintro _ w6 ⟨rfl, hs6⟩
  have hr:=hr.step hs6
  have hk:=hk.mono' EncE.mono hs6.le
  have ht:=ht.mono' EncE.mono hs6.le
  have hf:=hf.mono' EncE.mono hs6.le
  have hk2:=hk2.mono' EncE.mono hs6.le
  have hT:=hT.then hs6
  have hz6 := hs6.size
  refine ⟨trivial, ?_⟩
  refine Dgq 10 2047 rfl (by kernel_rfl) rfl rfl (fun _ => (q_ge rfl rfl)) ?_
  refine Dq 11 4095 rfl (by kernel_rfl) (fun _ => (q_pick_t rfl rfl)) ?_
  refine Dd (by kernel_rfl) (κ _ _ ?_)
  refine cw_cond rfl (fun hc0 => ?_) (fun hc0 => ?_)
  ·
   skip
   refine cw_skip ?_
   refine hK3 _ _ ?_
   refine cw_block ?_
   refine cw_drawn (by kernel_rfl) (by kernel_rfl) (by kernel_rfl) rfl rfl fun K7 hK7 => ?_
   have hs7 := Step.drew hs6.sat
   have hz7 := hs7.size
   have hr:=hr.step hs7
   have hk:=hk.mono' EncE.mono hs7.le
   have ht:=ht.mono' EncE.mono hs7.le
   have hf:=hf.mono' EncE.mono hs7.le
   have hk2:=hk2.mono' EncE.mono hs7.le
   have hT:=hT.then hs7
   refine Dm 0 1 rfl (by kernel_rfl) rfl ?_
   refine Dm 1 3 rfl (by kernel_rfl) rfl ?_
   refine Dm 2 7 rfl (by kernel_rfl) rfl ?_
   refine Dq 3 15 rfl (by kernel_rfl) (fun _ => (q_indexAddr (e := 195) (size := 1) (by kernel_rfl) (by kernel_rfl) rfl rfl (by omega) (by omega))) ?_
   refine Dl1 4 31 rfl (by kernel_rfl) (by kernel_rfl) rfl ((hr _ _ (Step.refl _ hT.sat)).cell (u := .pointer fq) (j := (0 : Int).toNat * 1) rfl) ?_
   refine Dm 6 95 rfl (by kernel_rfl) rfl ?_
   refine Dq 7 223 rfl (by kernel_rfl) (fun _ => (q_slice (e := 195) (size := 1) (k' := .i64) (by kernel_rfl) (by kernel_rfl) rfl rfl rfl (by omega) (by omega) (by omega))) ?_
   refine Dh 5 255 rfl (by kernel_rfl) (keep_sift (bs := [T]) (by kernel_rfl)) (h_call (by kernel_rfl) rfl ?_)
   refine (te_link hs7.sat ht hf (by simp only [RT.sizes] at hz; omega)).mono ?_
   rintro _ w8 ⟨qn, Mn, rfl, hs8, hn⟩
   have hr:=hr.step hs8
   have hk:=hk.mono' EncE.mono hs8.le
   have ht:=ht.mono' EncE.mono hs8.le
   have hk2:=hk2.mono' EncE.mono hs8.le
   have hT:=hT.then hs8
   have hz8 := hs8.size
   refine ⟨trivial, ?_⟩
   refine Da 8 511 rfl (by kernel_rfl) rfl ?_
   refine Da 9 1023 rfl (by kernel_rfl) rfl ?_
   refine Dd (by kernel_rfl) (hK7 _ _ ?_)
   refine ⟨_, _, ?_, (.cons rfl (.cons rfl (.cons rfl (.nil _)))), _, r, lr, _, _, _, _, rfl, ?_, ?_, rfl, hT, hr.tail (by simpa using hln), hk2, hn⟩
   · simp
   ·
    rw [← hmod]
    conv => rhs; unfold bput
    rw [if_neg (by simpa using hc0)]
   · rw [RT.link_size]; simp only [RT.sizes] at hz; omega
  ·
   skip
   refine cw_exit ?_
   refine hK2 _ _ ?_
   refine cw_rs fun _ κ => ?_
   refine Sm rfl rfl ?_
   have hTz := hT.size
   refine as_h rfl (h_buildO (e := 195) (size := 1) (zs := [(.pointer none)]) (cs := [_]) (by kernel_rfl) (by kernel_rfl) (by kernel_rfl) rfl hs6.sat rfl rfl fun bB w9 hs9 hoB eB => ?_)
   have hr:=hr.step hs9
   have hk:=hk.mono' EncE.mono hs9.le
   have ht:=ht.mono' EncE.mono hs9.le
   have hT:=hT.then hs9
   have hz9 := hs9.size
   refine Sm rfl rfl ?_
   have hbb := Own.buf hoB (n := 1) (size := 1) rfl (by decide)
   refine as_h rfl (h_append (e := 195) (size := 1) (bytes := 8) (by kernel_rfl) hs9.sat hbb (hr.now hs9.sat) rfl rfl (ptrs_one _) (by omega) rfl fun sv w10 hs10 hbu hor => ?_)
   have hT:=hT.trans hs10 (fun k hk h => by have h2 : bB = k := Option.some.inj h; omega)
   have hbs := hbu.rds
   have hk:=hk.mono' EncE.mono hs10.le
   have ht:=ht.mono' EncE.mono hs10.le
   obtain ⟨sva, svc, rfl, _, _⟩ := hbu.slice
   refine Sa rfl rfl ?_
   refine as_nil (κ _ _ ?_)
   refine cw_ret ?_
   rw [show bput ltE t0 ts0 = t :: f :: r from by rw [← hmod]; unfold bput; rw [if_pos (by simpa using hc0)]]
   exact ⟨_, (res_tmp rfl res_nil), _, hT, sva, svc, _, congrArg (fun k => Value.slice sva k svc) (by simp <;> omega), hbs.cast (congrArg (fun k => Value.slice sva k svc) (by simp <;> omega)) (by simp <;> omega) rfl, treps_cons.2 ⟨_, _, rfl, ht, hk⟩⟩
theorem se_level_n {w : World} {M : Mem} {sa : Option Addr} {sc : Nat} (hs : Sat M w) :
  Does Tryz.prog 190 #[.pointer none, .slice sa (0 : Nat) sc] w (fun v w' => ∃ M', Step Nope M w M' w' ∧ SRow 220 2 EncE M' w' ([] : List (RT El)) v) := by
 have hT := Step.refl Nope hs
 refine fn_enter Tryz.func190 rfl (rs := [.tmp 4]) rfl rfl rfl rfl ?_
 refine cw_rs fun _ κ => ?_
 refine Sa rfl rfl ?_
 refine as_nil (κ _ _ ?_)
 refine cw_seq fun _ hK2 => ?_
 refine cw_rs fun _ κ => ?_
 refine Sm rfl rfl ?_
 refine as_q rfl rfl (q_len (by kernel_rfl) rfl _) ?_
 refine as_q rfl rfl (q_eqT rfl rfl (by simp)) ?_
 refine as_nil (κ _ _ ?_)
 refine cw_true rfl ?_
 refine cw_rs fun _ κ => ?_
 refine Sa rfl rfl ?_
 refine as_nil (κ _ _ ?_)
 refine cw_ret ?_
 exact ⟨_, (res_tmp rfl res_nil), M, hT, srow_nil _ _ _ _ (fun _ => rfl)⟩
theorem se_level_c {w : World} {M : Mem} {f : RT El} {r : List (RT El)} {v0 : Value} (hs : Sat M w) (h : SRow 220 2 EncE M w (f :: r) v0) (hz : RT.sizes (f :: r) ≤ 1000000000) :
  Does Tryz.prog 190 #[.pointer none, v0] w (fun v w' => ∃ M', Step Nope M w M' w' ∧ SRow 220 2 EncE M' w' (bput ltE f r) v) := by
 have hT := Step.refl Nope hs
 obtain ⟨sa, sc, l, rfl, hr, hk⟩ := h
 have hln := hk.length
 have hlz := RT.sizes_length (f :: r)
 have hcaphr : (f :: r).length ≤ sc := by
  obtain ⟨_, _, h, h2, _⟩ := hr.slice hs
  cases h; exact h2
 obtain ⟨fq, lr, rfl, hf, hk2⟩ := treps_cons.1 hk
 obtain ⟨g, o, rfl⟩ := (hr.now hs).there (by simp)
 have hlc : (f :: r).length = r.length + 1 := rfl
 refine fn_enter Tryz.func190 rfl (rs := [.tmp 4]) rfl rfl rfl rfl ?_
 refine cw_rs fun _ κ => ?_
 refine Sa rfl rfl ?_
 refine as_nil (κ _ _ ?_)
 refine cw_seq fun _ hK2 => ?_
 refine cw_rs fun _ κ => ?_
 refine Sm rfl rfl ?_
 refine as_q rfl rfl (q_len (by kernel_rfl) rfl _) ?_
 refine as_q rfl rfl (q_eqF rfl rfl (by omega)) ?_
 refine as_nil (κ _ _ ?_)
 refine cw_false rfl ?_
 refine cw_skip ?_
 refine hK2 _ _ ?_
 refine cw_dr (by kernel_rfl) fun _ κ => ?_
 have hs1 := Step.drew hs
 have hz1 := hs1.size
 have hr:=hr.step hs1
 have hk2:=hk2.mono' EncE.mono hs1.le
 have hf:=hf.mono' EncE.mono hs1.le
 have hT:=hT.then hs1
 refine Dm 0 1 rfl (by kernel_rfl) rfl ?_
 refine Dm 1 3 rfl (by kernel_rfl) rfl ?_
 refine Dq 2 7 rfl (by kernel_rfl) (fun _ => (q_indexAddr (e := 195) (size := 1) (by kernel_rfl) (by kernel_rfl) rfl rfl (by omega) (by omega))) ?_
 refine Dl1 3 15 rfl (by kernel_rfl) (by kernel_rfl) rfl ((hr _ _ (Step.refl _ hT.sat)).cell (u := .pointer fq) (j := (0 : Int).toNat * 1) rfl) ?_
 refine Dm 4 31 rfl (by kernel_rfl) rfl ?_
 refine Dq 5 63 rfl (by kernel_rfl) (fun _ => (q_slice (e := 195) (size := 1) (k' := .i64) (by kernel_rfl) (by kernel_rfl) rfl rfl rfl (by omega) (by omega) (by omega))) ?_
 refine Dh 6 127 rfl (by kernel_rfl) (keep_sift (bs := [T]) (by kernel_rfl)) (h_call (by kernel_rfl) rfl ?_)
 refine (se_put hs1.sat hf ⟨_, _, _, rfl, hr.tail (by simpa using hln), hk2⟩ (by simp only [RT.sizes] at hz; omega)).mono ?_
 rintro v w2 ⟨Mn, hs2, hn⟩
 obtain ⟨va, vc, vl, rfl, hv1, hv2⟩ := hn
 have hT:=hT.then hs2
 have hz2 := hs2.size
 refine ⟨trivial, ?_⟩
 refine Da 7 255 rfl (by kernel_rfl) rfl ?_
 refine Dd (by kernel_rfl) (κ _ _ ?_)
 refine cw_ret ?_
 exact ⟨_, (res_tmp rfl res_nil), _, hT, _, _, _, rfl, hv1, hv2⟩
theorem se_level {w : World} {M : Mem} {ts : List (RT El)} {v0 : Value} (hs : Sat M w) (h : SRow 220 2 EncE M w ts v0) (hz : RT.sizes ts ≤ 1000000000) : Does Tryz.prog 190 #[.pointer none, v0] w (fun v w' => ∃ M', Step Nope M w M' w' ∧ SRow 220 2 EncE M' w' (slevel ltE ts) v) := by
 cases ts with
 | nil => obtain ⟨sa, sc, l, rfl, _, _⟩ := h; exact se_level_n hs
 | cons f r => exact se_level_c hs h hz
theorem ce_of {w : World} {M : Mem} {l : List (Option Addr)} {sa : Option Addr} {sc : Nat} (hs : Sat M w) (hr : Rds M w 1 (.slice sa l.length sc) l.length (ptrs l)) (hz : l.length ≤ 1000000000) :
  Does Tryz.prog 125 #[.slice sa l.length sc] w (fun v w' => ∃ q M', v = .agg #[.pointer q] ∧ Step Nope M w M' w' ∧ CRep 197 M' l (.pointer q)) := by
 have hT := Step.refl Nope hs
 have hr0 := hr
 refine fn_enter Tryz.func125 rfl (rs := [.cell 2 72]) rfl rfl rfl rfl ?_
 refine cw_rs fun _ κ => ?_
 have hqar := hT.size
 refine as_h rfl (h_allocO (z := (.agg #[(.pointer none)])) hs (by kernel_rfl) rfl fun br w1 hs1 hor er => ?_)
 have hT:=hT.then hs1
 have hz1 := hs1.size
 have hlr := hor.1.lt
 refine as_nil (κ _ _ ?_)
 refine cw_rs fun _ κ => ?_
 refine as_q rfl rfl (q_build (zs := [(.pointer none)]) (places := [(0, 1)]) (cs := [_]) (by kernel_rfl) (by kernel_rfl) rfl rfl) ?_
 have hqao := hT.size
 refine as_h rfl (h_allocO (z := (.agg #[(.pointer none)])) hs1.sat (by kernel_rfl) rfl fun bo w2 hs2 hoo eo => ?_)
 have hor:=hor.then hs2
 have hT:=hT.then hs2
 have hz2 := hs2.size
 have hlo := hoo.1.lt
 refine as_h0 (h_store hs2.sat hoo rfl rfl rfl (by kernel_rfl) rfl rfl rfl fun w3 hs3 hn3 => ?_)
 have hor:=hor.step hs3 (fun h => by have h : _ = _ := h; omega)
 clear hoo; have hoo := hn3; clear hn3
 have hT:=hT.own hs3 (by omega)
 have hz3 := hs3.size
 refine as_nil (κ _ _ ?_)
 refine cw_seq fun _ hK3 => ?_
 refine cw_rs fun _ κ => ?_
 refine Sm rfl rfl ?_
 refine as_q rfl rfl (q_len (by kernel_rfl) rfl _) ?_
 refine as_q rfl rfl (q_subx rfl rfl (by omega) (by omega)) ?_
 refine Sa rfl rfl ?_
 refine as_nil (κ _ _ ?_)
 refine cw_block ?_
 refine cw_loop (fun mm l1 w1 => ∃ (z : Int) (q : Option Addr) (M1 : Mem), mm = (z + 1).toNat ∧ -1 ≤ z ∧ z < l.length ∧ l1 = [(0, .slice sa l.length sc), (2, .pointer (some ⟨br, 0, none⟩)), (3, .pointer (some ⟨bo, 0, none⟩)), (4, .int .i64 z)] ∧ Step Nope M w M1 w1 ∧ CRep 197 M1 (l.drop (z + 1).toNat) (.pointer q) ∧ Own w1 M1 bo [.pointer q] 72 ∧ Own w1 M1 br [.pointer none] 72) (l.length) [(0, .slice sa l.length sc), (2, .pointer (some ⟨br, 0, none⟩)), (3, .pointer (some ⟨bo, 0, none⟩)), (4, .int .i64 ((l.length : Int) - 1))] (.cons rfl (.cons rfl (.cons rfl (.cons rfl (.nil _))))) ?_ ?_
 ·
  refine ⟨(l.length : Int) - 1, none, M, by omega, by omega, by omega, rfl, hT, ?_, hoo, hor⟩
  rw [List.drop_eq_nil_of_le (by omega)]
  rfl
 have hbw : w.heap.size ≤ bo ∧ w.heap.size ≤ br ∧ br ≠ bo := by omega
 clear hT hoo hor
 rintro mm l1 w1 ⟨z, q, M1, rfl, hz1, hz2, rfl, hT, hcc, hoo, hor⟩
 refine cw_seq fun _ hK5 => ?_
 refine cw_rs fun _ κ => ?_
 refine Sm rfl rfl ?_
 refine as_q rfl rfl (q_ge rfl rfl) ?_
 refine as_nil (κ _ _ ?_)
 refine cw_cond rfl (fun hc0 => ?_) (fun hc0 => ?_)
 ·
  have hc0:=of_decide_eq_true hc0
  obtain ⟨x, hx⟩ : ∃ x, l[z.toNat]? = some x := ⟨l[z.toNat]'(by omega), by simp⟩
  obtain ⟨g, o, rfl⟩ := (hr0 _ _ hT).there (by omega)
  refine cw_skip ?_
  refine hK5 _ _ ?_
  refine cw_seq fun _ hK7 => ?_
  refine cw_block ?_
  refine cw_drawn (by kernel_rfl) (by kernel_rfl) (by kernel_rfl) rfl rfl fun K8 hK8 => ?_
  have hs4 := Step.drew hT.sat
  have hz4 := hs4.size
  have hcc:=hcc.mono hs4.le
  have hoo:=hoo.then hs4
  have hor:=hor.then hs4
  have hT:=hT.then hs4
  refine Dlc 0 1 1 rfl (by kernel_rfl) (by kernel_rfl) rfl (by exact Blk.cells hoo.1 rfl) ?_
  refine Dm 1 3 rfl (by kernel_rfl) rfl ?_
  refine Dm 2 7 rfl (by kernel_rfl) rfl ?_
  refine Dq 3 15 rfl (by kernel_rfl) (fun _ => (q_indexAddr (e := 195) (size := 1) (by kernel_rfl) (by kernel_rfl) rfl rfl (by omega) (by omega))) ?_
  refine Dl1 4 31 rfl (by kernel_rfl) (by kernel_rfl) rfl ((hr0 _ _ hT).cell (u := .pointer x) (j := z.toNat * 1) (by simp [ptrs, hx])) ?_
  refine Dh 5 63 rfl (by kernel_rfl) (keep_sift (bs := [T,T]) (by kernel_rfl)) (h_call (by kernel_rfl) rfl ?_)
  refine (ce_push hs4.sat hcc (by rw [List.length_drop]; omega)).mono ?_
  rintro _ w5 ⟨qp, Mp, rfl, hs5, hp⟩
  have hcc:=hcc.mono hs5.le
  have hoo:=hoo.then hs5
  have hor:=hor.then hs5
  have hT:=hT.then hs5
  have hz5 := hs5.size
  refine ⟨trivial, ?_⟩
  refine Dh0 6 127 rfl (by kernel_rfl) rfl (h_store hs5.sat hoo rfl rfl rfl (by kernel_rfl) rfl rfl rfl fun w6 hs6 hn6 => ?_)
  have hcc:=hcc.mono hs6.le
  have hor:=hor.step hs6 (fun h => by have h : _ = _ := h; omega)
  have hp:=hp.mono hs6.le
  clear hoo; have hoo := hn6; clear hn6
  have hT:=hT.own hs6 (by omega)
  have hz6 := hs6.size
  refine ⟨trivial, ?_⟩
  refine Dd (by kernel_rfl) (hK8 _ _ ?_)
  refine hK7 _ _ ?_
  refine cw_region fun _ κ => ?_
  refine Sm rfl rfl ?_
  refine as_q rfl rfl (q_subx rfl rfl (by omega) (by omega)) ?_
  refine Sa rfl rfl ?_
  refine as_nil (κ _ _ ?_)
  refine ⟨_, _, ?_, (.cons rfl (.cons rfl (.cons rfl (.cons rfl (.nil _))))), _, _, _, rfl, ?_, ?_, rfl, hT, ?_, hoo, hor⟩
  · omega
  · omega
  · omega
  ·
   rw [show (z - 1 + 1).toNat = z.toNat by omega, List.drop_eq_getElem_cons (i := z.toNat) (by omega), show l[z.toNat] = x from by rw [List.getElem?_eq_getElem (by omega)] at hx; exact Option.some.inj hx, show z.toNat + 1 = (z + 1).toNat by omega]
   exact hp
 ·
  have hc0:=of_decide_eq_false hc0
  refine cw_exit ?_
  refine hK3 _ _ ?_
  refine cw_rs fun _ κ => ?_
  refine Sc 1 rfl (by kernel_rfl) rfl (by exact Blk.cells hoo.1 rfl) ?_
  refine as_h0 (h_store hT.sat hor rfl rfl rfl (by kernel_rfl) rfl rfl rfl fun w7 hs7 hn7 => ?_)
  have hcc:=hcc.mono hs7.le
  clear hor; have hor := hn7; clear hn7
  have hT:=hT.own hs7 (by omega)
  have hz7 := hs7.size
  refine as_nil (κ _ _ ?_)
  refine cw_ret ?_
  rw [show (z + 1).toNat = 0 by omega, List.drop_zero] at hcc
  exact ⟨_, (res_cell rfl (loadVar_n (n := 1) (by kernel_rfl) (by exact Blk.cells hor.1 rfl)) res_nil), _, _, rfl, hT, hcc⟩
def SMelde (k : Nat) : Prop := ∀ (w : World) (M : Mem) (a b : List (RT El)) (va vb : Value), Sat M w → SRow 220 2 EncE M w a va → SRow 220 2 EncE M w b vb → a.length + b.length < k → RT.sizes a + RT.sizes b ≤ 1000000000 →
  Does Tryz.prog 191 #[.pointer none, va, vb] w (fun v w' => ∃ M', Step Nope M w M' w' ∧ SRow 220 2 EncE M' w' (bmeld ltE a b) v)
theorem se_meld_a {w : World} {M : Mem} {b : List (RT El)} {vb : Value} {sa : Option Addr} {sc : Nat} (hs : Sat M w) (hb : SRow 220 2 EncE M w b vb) :
  Does Tryz.prog 191 #[.pointer none, .slice sa (0 : Nat) sc, vb] w (fun v w' => ∃ M', Step Nope M w M' w' ∧ SRow 220 2 EncE M' w' b v) := by
 have hT := Step.refl Nope hs
 obtain ⟨ba, bc, lb, rfl, h1, h2⟩ := hb
 have hb : SRow 220 2 EncE M w b (.slice ba b.length bc) := ⟨ba, bc, lb, rfl, h1, h2⟩
 refine fn_enter Tryz.func191 rfl (rs := [.tmp 6]) rfl rfl rfl rfl ?_
 refine cw_rs fun _ κ => ?_
 refine Sa rfl rfl ?_
 refine as_nil (κ _ _ ?_)
 refine cw_seq fun _ hK2 => ?_
 refine cw_block ?_
 refine cw_rs fun _ κ => ?_
 refine Sm rfl rfl ?_
 refine as_q rfl rfl (q_len (by kernel_rfl) rfl _) ?_
 refine as_q rfl rfl (q_eqT rfl rfl (by omega)) ?_
 refine Sa rfl rfl ?_
 refine as_nil (κ _ _ ?_)
 refine cw_true rfl ?_
 refine cw_rs fun _ κ => ?_
 refine Sm rfl rfl ?_
 refine Sa rfl rfl ?_
 refine as_nil (κ _ _ ?_)
 refine cw_ret ?_
 exact ⟨_, (res_tmp rfl res_nil), _, hT, hb⟩
theorem se_meld_b {w : World} {M : Mem} {f : RT El} {a : List (RT El)} {va : Value} {sb : Option Addr} {sc : Nat} (hs : Sat M w) (ha : SRow 220 2 EncE M w (f :: a) va) :
  Does Tryz.prog 191 #[.pointer none, va, .slice sb (0 : Nat) sc] w (fun v w' => ∃ M', Step Nope M w M' w' ∧ SRow 220 2 EncE M' w' (f :: a) v) := by
 have hT := Step.refl Nope hs
 obtain ⟨ba, bc, lb, rfl, h1, h2⟩ := ha
 have ha : SRow 220 2 EncE M w (f :: a) (.slice ba (f :: a).length bc) := ⟨ba, bc, lb, rfl, h1, h2⟩
 have hlc : (f :: a).length = a.length + 1 := rfl
 refine fn_enter Tryz.func191 rfl (rs := [.tmp 6]) rfl rfl rfl rfl ?_
 refine cw_rs fun _ κ => ?_
 refine Sa rfl rfl ?_
 refine as_nil (κ _ _ ?_)
 refine cw_seq fun _ hK2 => ?_
 refine cw_block ?_
 refine cw_rs fun _ κ => ?_
 refine Sm rfl rfl ?_
 refine as_q rfl rfl (q_len (by kernel_rfl) rfl _) ?_
 refine as_q rfl rfl (q_eqF rfl rfl (by omega)) ?_
 refine Sa rfl rfl ?_
 refine as_nil (κ _ _ ?_)
 refine cw_false rfl ?_
 refine cw_rs fun _ κ => ?_
 refine Sm rfl rfl ?_
 refine as_q rfl rfl (q_len (by kernel_rfl) rfl _) ?_
 refine as_q rfl rfl (q_eqT rfl rfl (by omega)) ?_
 refine Sa rfl rfl ?_
 refine as_nil (κ _ _ ?_)
 refine cw_true rfl ?_
 refine cw_rs fun _ κ => ?_
 refine Sm rfl rfl ?_
 refine Sa rfl rfl ?_
 refine as_nil (κ _ _ ?_)
 refine cw_ret ?_
 exact ⟨_, (res_tmp rfl res_nil), _, hT, ha⟩
theorem se_meld_c {w : World} {M : Mem} {f g : RT El} {a b : List (RT El)} {va vb : Value} {k : Nat} (ih : SMelde k) (hs : Sat M w) (ha : SRow 220 2 EncE M w (f :: a) va) (hb : SRow 220 2 EncE M w (g :: b) vb) (hk : (f :: a).length + (g :: b).length < k + 1) (hz : RT.sizes (f :: a) + RT.sizes (g :: b) ≤ 1000000000) :
  Does Tryz.prog 191 #[.pointer none, va, vb] w (fun v w' => ∃ M', Step Nope M w M' w' ∧ SRow 220 2 EncE M' w' (bmeld ltE (f :: a) (g :: b)) v) := by
 have hT := Step.refl Nope hs
 obtain ⟨sa, sc, l, rfl, hr, hka⟩ := ha
 obtain ⟨sb, sd, lb, rfl, hrb, hkb⟩ := hb
 have hln := hka.length
 have hlnb := hkb.length
 have hcaphr : (f :: a).length ≤ sc := by
  obtain ⟨_, _, h, h2, _⟩ := hr.slice hs
  cases h; exact h2
 have hcaphrb : (g :: b).length ≤ sd := by
  obtain ⟨_, _, h, h2, _⟩ := hrb.slice hs
  cases h; exact h2
 obtain ⟨fq, lr, rfl, hf, hk2⟩ := treps_cons.1 hka
 obtain ⟨gq, lbr, rfl, hg, hkb2⟩ := treps_cons.1 hkb
 obtain ⟨g1, o, rfl⟩ := (hr.now hs).there (by simp)
 obtain ⟨g2, o2, rfl⟩ := (hrb.now hs).there (by simp)
 have hlc : (f :: a).length = a.length + 1 := rfl
 have hlcb : (g :: b).length = b.length + 1 := rfl
 have hfp := f.size_pos
 have hgp := g.size_pos
 have hmf := RT.sizes_cons f a
 have hmg := RT.sizes_cons g b
 refine fn_enter Tryz.func191 rfl (rs := [.tmp 6]) rfl rfl rfl rfl ?_
 refine cw_rs fun _ κ => ?_
 refine Sa rfl rfl ?_
 refine as_nil (κ _ _ ?_)
 refine cw_seq fun _ hK2 => ?_
 refine cw_block ?_
 refine cw_rs fun _ κ => ?_
 refine Sm rfl rfl ?_
 refine as_q rfl rfl (q_len (by kernel_rfl) rfl _) ?_
 refine as_q rfl rfl (q_eqF rfl rfl (by omega)) ?_
 refine Sa rfl rfl ?_
 refine as_nil (κ _ _ ?_)
 refine cw_false rfl ?_
 refine cw_rs fun _ κ => ?_
 refine Sm rfl rfl ?_
 refine as_q rfl rfl (q_len (by kernel_rfl) rfl _) ?_
 refine as_q rfl rfl (q_eqF rfl rfl (by omega)) ?_
 refine Sa rfl rfl ?_
 refine as_nil (κ _ _ ?_)
 refine cw_false rfl ?_
 refine cw_dr (by kernel_rfl) fun _ κ => ?_
 have hs1 := Step.drew hs
 have hz1 := hs1.size
 have hr:=hr.step hs1
 have hka:=hka.mono' EncE.mono hs1.le
 have hk2:=hk2.mono' EncE.mono hs1.le
 have hf:=hf.mono' EncE.mono hs1.le
 have hrb:=hrb.step hs1
 have hkb:=hkb.mono' EncE.mono hs1.le
 have hkb2:=hkb2.mono' EncE.mono hs1.le
 have hg:=hg.mono' EncE.mono hs1.le
 have hT:=hT.then hs1
 refine Dm 0 1 rfl (by kernel_rfl) rfl ?_
 refine Dq 1 3 rfl (by kernel_rfl) (fun _ => (q_indexAddr (e := 195) (size := 1) (by kernel_rfl) (by kernel_rfl) rfl rfl (by omega) (by omega))) ?_
 refine Dl1 2 7 rfl (by kernel_rfl) (by kernel_rfl) rfl ((hr _ _ (Step.refl _ hT.sat)).cell (u := .pointer fq) (j := (0 : Int).toNat * 1) rfl) ?_
 refine Dm 4 23 rfl (by kernel_rfl) rfl ?_
 refine Dq 5 55 rfl (by kernel_rfl) (fun _ => (q_indexAddr (e := 195) (size := 1) (by kernel_rfl) (by kernel_rfl) rfl rfl (by omega) (by omega))) ?_
 refine Dl1 6 119 rfl (by kernel_rfl) (by kernel_rfl) rfl ((hrb _ _ (Step.refl _ hT.sat)).cell (u := .pointer gq) (j := (0 : Int).toNat * 1) rfl) ?_
 refine Dh 3 127 rfl (by kernel_rfl) (keep_sift (bs := [F,T]) (by kernel_rfl)) (h_call (by kernel_rfl) rfl ?_)
 refine (te_rank hs1.sat hf).mono ?_
 rintro _ w2 ⟨rfl, hs2⟩
 have hr:=hr.step hs2
 have hka:=hka.mono' EncE.mono hs2.le
 have hk2:=hk2.mono' EncE.mono hs2.le
 have hf:=hf.mono' EncE.mono hs2.le
 have hrb:=hrb.step hs2
 have hkb:=hkb.mono' EncE.mono hs2.le
 have hkb2:=hkb2.mono' EncE.mono hs2.le
 have hg:=hg.mono' EncE.mono hs2.le
 have hT:=hT.then hs2
 have hz2 := hs2.size
 refine ⟨(by repeat' first | exact trivial | exact ((hr _ _ (Step.refl _ hT.sat)).cell (u := .pointer fq) (j := (0 : Int).toNat * 1) rfl) | exact ((hrb _ _ (Step.refl _ hT.sat)).cell (u := .pointer gq) (j := (0 : Int).toNat * 1) rfl) | assumption | refine all_keep ?_ | refine And.intro ?_ ?_), ?_⟩
 refine Dh 7 255 rfl (by kernel_rfl) (keep_sift (bs := [T]) (by kernel_rfl)) (h_call (by kernel_rfl) rfl ?_)
 refine (te_rank hs2.sat hg).mono ?_
 rintro _ w3 ⟨rfl, hs3⟩
 have hr:=hr.step hs3
 have hka:=hka.mono' EncE.mono hs3.le
 have hk2:=hk2.mono' EncE.mono hs3.le
 have hf:=hf.mono' EncE.mono hs3.le
 have hrb:=hrb.step hs3
 have hkb:=hkb.mono' EncE.mono hs3.le
 have hkb2:=hkb2.mono' EncE.mono hs3.le
 have hg:=hg.mono' EncE.mono hs3.le
 have hT:=hT.then hs3
 have hz3 := hs3.size
 refine ⟨trivial, ?_⟩
 refine Dq 8 511 rfl (by kernel_rfl) (fun _ => (q_lt rfl rfl)) ?_
 refine Da 9 1023 rfl (by kernel_rfl) rfl ?_
 refine Dd (by kernel_rfl) (κ _ _ ?_)
 refine cw_cond rfl (fun hc2 => ?_) (fun hc2 => ?_)
 ·
  replace hc2 : f.rank < g.rank := by have := of_decide_eq_true hc2; omega
  refine cw_rdS (fun l2 w2 => ∃ v, l2 = [(6, v)] ∧ ∃ M2, Step Nope M w M2 w2 ∧ SRow 220 2 EncE M2 w2 (bmeld ltE (f :: a) (g :: b)) v) (by kernel_rfl) (by kernel_rfl) (by kernel_rfl) rfl rfl ?_ ?_
  ·
   have hs4 := Step.drew hs3.sat
   have hz4 := hs4.size
   have hr:=hr.step hs4
   have hka:=hka.mono' EncE.mono hs4.le
   have hk2:=hk2.mono' EncE.mono hs4.le
   have hf:=hf.mono' EncE.mono hs4.le
   have hrb:=hrb.step hs4
   have hkb:=hkb.mono' EncE.mono hs4.le
   have hkb2:=hkb2.mono' EncE.mono hs4.le
   have hg:=hg.mono' EncE.mono hs4.le
   have hT:=hT.then hs4
   refine Dm 0 1 rfl (by kernel_rfl) rfl ?_
   refine Dq 1 3 rfl (by kernel_rfl) (fun _ => (q_indexAddr (e := 195) (size := 1) (by kernel_rfl) (by kernel_rfl) rfl rfl (by omega) (by omega))) ?_
   refine Dl1 2 7 rfl (by kernel_rfl) (by kernel_rfl) rfl ((hr _ _ (Step.refl _ hT.sat)).cell (u := .pointer fq) (j := (0 : Int).toNat * 1) rfl) ?_
   refine Dm 4 23 rfl (by kernel_rfl) rfl ?_
   refine Dm 5 55 rfl (by kernel_rfl) rfl ?_
   refine Dq 6 119 rfl (by kernel_rfl) (fun _ => (q_slice (e := 195) (size := 1) (k' := .i64) (by kernel_rfl) (by kernel_rfl) rfl rfl rfl (by omega) (by omega) (by omega))) ?_
   refine Dm 7 247 rfl (by kernel_rfl) rfl ?_
   refine at_two (i := 3) (j := 8) (by kernel_rfl) ?_ ?_
   ·
    have hTz := hT.size
    refine Dah 3 255 rfl (by kernel_rfl) (keep_sift (bs := [T]) (by kernel_rfl)) (h_buildO (e := 195) (size := 1) (zs := [(.pointer none)]) (cs := [_]) (by kernel_rfl) (by kernel_rfl) (by kernel_rfl) rfl hs4.sat rfl rfl fun bB w5 hs5 hoB eB => ?_)
    have hr:=hr.step hs5
    have hka:=hka.mono' EncE.mono hs5.le
    have hk2:=hk2.mono' EncE.mono hs5.le
    have hf:=hf.mono' EncE.mono hs5.le
    have hrb:=hrb.step hs5
    have hkb:=hkb.mono' EncE.mono hs5.le
    have hkb2:=hkb2.mono' EncE.mono hs5.le
    have hg:=hg.mono' EncE.mono hs5.le
    have hT:=hT.then hs5
    have hz5 := hs5.size
    refine ⟨trivial, ?_⟩
    refine Dh 8 511 rfl (by kernel_rfl) rfl (h_call (by kernel_rfl) rfl ?_)
    have hml := RT.sizes_length (bmeld ltE a (g :: b))
    have hms := bmeld_size ltE a (g :: b)
    have hmf := RT.sizes_cons f a
    have hmg := RT.sizes_cons g b
    refine (ih _ _ a (g :: b) _ _ hs5.sat ⟨_, _, _, rfl, hr.tail (by simpa using hln), hk2⟩ ⟨_, _, _, rfl, hrb, hkb⟩ (by omega) (by omega)).mono ?_
    rintro v w6 ⟨Mn, hs6, hn⟩
    obtain ⟨va, vc, vl, rfl, hv1, hv2⟩ := hn
    have hr:=hr.step hs6
    have hka:=hka.mono' EncE.mono hs6.le
    have hk2:=hk2.mono' EncE.mono hs6.le
    have hf:=hf.mono' EncE.mono hs6.le
    have hrb:=hrb.step hs6
    have hkb:=hkb.mono' EncE.mono hs6.le
    have hkb2:=hkb2.mono' EncE.mono hs6.le
    have hg:=hg.mono' EncE.mono hs6.le
    have hoB:=hoB.then hs6
    have hT:=hT.then hs6
    have hz6 := hs6.size
    refine ⟨trivial, ?_⟩
    have hbb := Own.buf hoB (n := 1) (size := 1) rfl (by decide)
    refine Dh 9 1023 rfl (by kernel_rfl) rfl (h_append (e := 195) (size := 1) (bytes := 8) (by kernel_rfl) hs6.sat hbb (hv1.now hs6.sat) rfl rfl (ptrs_one _) (by omega) rfl fun sv w7 hs7 hbu hor => ?_)
    have hT:=hT.trans hs7 (fun k hk h => by have h2 : bB = k := Option.some.inj h; omega)
    have hbs := hbu.rds
    have hka:=hka.mono' EncE.mono hs7.le
    have hk2:=hk2.mono' EncE.mono hs7.le
    have hf:=hf.mono' EncE.mono hs7.le
    have hkb:=hkb.mono' EncE.mono hs7.le
    have hkb2:=hkb2.mono' EncE.mono hs7.le
    have hg:=hg.mono' EncE.mono hs7.le
    have hv2:=hv2.mono' EncE.mono hs7.le
    obtain ⟨sva, svc, rfl, _, _⟩ := hbu.slice
    refine ⟨trivial, ?_⟩
    refine Da 10 2047 rfl (by kernel_rfl) rfl ?_
    refine Dd (by kernel_rfl) ?_
    refine ⟨_, (.cons rfl (.nil _)), _, rfl, _, hT, ?_⟩
    rw [show bmeld ltE (f :: a) (g :: b) = f :: bmeld ltE a (g :: b) from by rw [bmeld, if_pos hc2]]
    exact ⟨sva, svc, _, congrArg (fun k => Value.slice sva k svc) (by simp <;> omega), hbs.cast (congrArg (fun k => Value.slice sva k svc) (by simp <;> omega)) (by simp <;> omega) rfl, treps_cons.2 ⟨_, _, rfl, hf, hv2⟩⟩
   ·
    refine Dah 8 503 rfl (by kernel_rfl) (keep_sift (bs := [F]) (by kernel_rfl)) (h_call (by kernel_rfl) rfl ?_)
    have hml := RT.sizes_length (bmeld ltE a (g :: b))
    have hms := bmeld_size ltE a (g :: b)
    have hmf := RT.sizes_cons f a
    have hmg := RT.sizes_cons g b
    refine (ih _ _ a (g :: b) _ _ hs4.sat ⟨_, _, _, rfl, hr.tail (by simpa using hln), hk2⟩ ⟨_, _, _, rfl, hrb, hkb⟩ (by omega) (by omega)).mono ?_
    rintro v w8 ⟨Mn, hs8, hn⟩
    obtain ⟨va, vc, vl, rfl, hv1, hv2⟩ := hn
    have hr:=hr.step hs8
    have hka:=hka.mono' EncE.mono hs8.le
    have hk2:=hk2.mono' EncE.mono hs8.le
    have hf:=hf.mono' EncE.mono hs8.le
    have hrb:=hrb.step hs8
    have hkb2:=hkb2.mono' EncE.mono hs8.le
    have hg:=hg.mono' EncE.mono hs8.le
    have hT:=hT.then hs8
    have hz8 := hs8.size
    refine ⟨(by repeat' first | exact trivial | exact ((hr _ _ (Step.refl _ hT.sat)).cell (u := .pointer fq) (j := (0 : Int).toNat * 1) rfl) | assumption | refine all_keep ?_ | refine And.intro ?_ ?_), ?_⟩
    have hTz := hT.size
    refine Dh 3 511 rfl (by kernel_rfl) (keep_sift (bs := [T]) (by kernel_rfl)) (h_buildO (e := 195) (size := 1) (zs := [(.pointer none)]) (cs := [_]) (by kernel_rfl) (by kernel_rfl) (by kernel_rfl) rfl hs8.sat rfl rfl fun bB w9 hs9 hoB eB => ?_)
    have hr:=hr.step hs9
    have hka:=hka.mono' EncE.mono hs9.le
    have hk2:=hk2.mono' EncE.mono hs9.le
    have hf:=hf.mono' EncE.mono hs9.le
    have hrb:=hrb.step hs9
    have hkb2:=hkb2.mono' EncE.mono hs9.le
    have hg:=hg.mono' EncE.mono hs9.le
    have hv1:=hv1.step hs9
    have hv2:=hv2.mono' EncE.mono hs9.le
    have hT:=hT.then hs9
    have hz9 := hs9.size
    refine ⟨trivial, ?_⟩
    have hbb := Own.buf hoB (n := 1) (size := 1) rfl (by decide)
    refine Dh 9 1023 rfl (by kernel_rfl) rfl (h_append (e := 195) (size := 1) (bytes := 8) (by kernel_rfl) hs9.sat hbb (hv1.now hs9.sat) rfl rfl (ptrs_one _) (by omega) rfl fun sv w10 hs10 hbu hor => ?_)
    have hT:=hT.trans hs10 (fun k hk h => by have h2 : bB = k := Option.some.inj h; omega)
    have hbs := hbu.rds
    have hka:=hka.mono' EncE.mono hs10.le
    have hk2:=hk2.mono' EncE.mono hs10.le
    have hf:=hf.mono' EncE.mono hs10.le
    have hkb2:=hkb2.mono' EncE.mono hs10.le
    have hg:=hg.mono' EncE.mono hs10.le
    have hv2:=hv2.mono' EncE.mono hs10.le
    obtain ⟨sva, svc, rfl, _, _⟩ := hbu.slice
    refine ⟨trivial, ?_⟩
    refine Da 10 2047 rfl (by kernel_rfl) rfl ?_
    refine Dd (by kernel_rfl) ?_
    refine ⟨_, (.cons rfl (.nil _)), _, rfl, _, hT, ?_⟩
    rw [show bmeld ltE (f :: a) (g :: b) = f :: bmeld ltE a (g :: b) from by rw [bmeld, if_pos hc2]]
    exact ⟨sva, svc, _, congrArg (fun k => Value.slice sva k svc) (by simp <;> omega), hbs.cast (congrArg (fun k => Value.slice sva k svc) (by simp <;> omega)) (by simp <;> omega) rfl, treps_cons.2 ⟨_, _, rfl, hf, hv2⟩⟩
  rintro l2 w2 ⟨v, rfl, M2, hT2, hsr⟩
  refine cw_ret ?_
  exact ⟨_, (res_tmp rfl res_nil), M2, hT2, hsr⟩
 ·
  replace hc2 : ¬ f.rank < g.rank := by have := of_decide_eq_false hc2; omega
  refine cw_dr (by kernel_rfl) fun _ κ => ?_
  have hs11 := Step.drew hs3.sat
  have hz11 := hs11.size
  have hr:=hr.step hs11
  have hka:=hka.mono' EncE.mono hs11.le
  have hk2:=hk2.mono' EncE.mono hs11.le
  have hf:=hf.mono' EncE.mono hs11.le
  have hrb:=hrb.step hs11
  have hkb2:=hkb2.mono' EncE.mono hs11.le
  have hg:=hg.mono' EncE.mono hs11.le
  have hT:=hT.then hs11
  refine Dm 0 1 rfl (by kernel_rfl) rfl ?_
  refine Dq 1 3 rfl (by kernel_rfl) (fun _ => (q_indexAddr (e := 195) (size := 1) (by kernel_rfl) (by kernel_rfl) rfl rfl (by omega) (by omega))) ?_
  refine Dl1 2 7 rfl (by kernel_rfl) (by kernel_rfl) rfl ((hrb _ _ (Step.refl _ hT.sat)).cell (u := .pointer gq) (j := (0 : Int).toNat * 1) rfl) ?_
  refine Dm 4 23 rfl (by kernel_rfl) rfl ?_
  refine Dq 5 55 rfl (by kernel_rfl) (fun _ => (q_indexAddr (e := 195) (size := 1) (by kernel_rfl) (by kernel_rfl) rfl rfl (by omega) (by omega))) ?_
  refine Dl1 6 119 rfl (by kernel_rfl) (by kernel_rfl) rfl ((hr _ _ (Step.refl _ hT.sat)).cell (u := .pointer fq) (j := (0 : Int).toNat * 1) rfl) ?_
  refine Dh 3 127 rfl (by kernel_rfl) (keep_sift (bs := [F,T]) (by kernel_rfl)) (h_call (by kernel_rfl) rfl ?_)
  refine (te_rank hs11.sat hg).mono ?_
  rintro _ w12 ⟨rfl, hs12⟩
  have hr:=hr.step hs12
  have hka:=hka.mono' EncE.mono hs12.le
  have hk2:=hk2.mono' EncE.mono hs12.le
  have hf:=hf.mono' EncE.mono hs12.le
  have hrb:=hrb.step hs12
  have hkb2:=hkb2.mono' EncE.mono hs12.le
  have hg:=hg.mono' EncE.mono hs12.le
  have hT:=hT.then hs12
  have hz12 := hs12.size
  refine ⟨(by repeat' first | exact trivial | exact ((hrb _ _ (Step.refl _ hT.sat)).cell (u := .pointer gq) (j := (0 : Int).toNat * 1) rfl) | exact ((hr _ _ (Step.refl _ hT.sat)).cell (u := .pointer fq) (j := (0 : Int).toNat * 1) rfl) | assumption | refine all_keep ?_ | refine And.intro ?_ ?_), ?_⟩
  refine Dh 7 255 rfl (by kernel_rfl) (keep_sift (bs := [T]) (by kernel_rfl)) (h_call (by kernel_rfl) rfl ?_)
  refine (te_rank hs12.sat hf).mono ?_
  rintro _ w13 ⟨rfl, hs13⟩
  have hr:=hr.step hs13
  have hka:=hka.mono' EncE.mono hs13.le
  have hk2:=hk2.mono' EncE.mono hs13.le
  have hf:=hf.mono' EncE.mono hs13.le
  have hrb:=hrb.step hs13
  have hkb2:=hkb2.mono' EncE.mono hs13.le
  have hg:=hg.mono' EncE.mono hs13.le
  have hT:=hT.then hs13
  have hz13 := hs13.size
  refine ⟨trivial, ?_⟩
  refine Dq 8 511 rfl (by kernel_rfl) (fun _ => (q_lt rfl rfl)) ?_
  refine Da 9 1023 rfl (by kernel_rfl) rfl ?_
  refine Dd (by kernel_rfl) (κ _ _ ?_)
  refine cw_cond rfl (fun hc3 => ?_) (fun hc3 => ?_)
  ·
   replace hc3 : g.rank < f.rank := by have := of_decide_eq_true hc3; omega
   refine cw_rdS (fun l2 w2 => ∃ v, l2 = [(6, v)] ∧ ∃ M2, Step Nope M w M2 w2 ∧ SRow 220 2 EncE M2 w2 (bmeld ltE (f :: a) (g :: b)) v) (by kernel_rfl) (by kernel_rfl) (by kernel_rfl) rfl rfl ?_ ?_
   ·
    have hs14 := Step.drew hs13.sat
    have hz14 := hs14.size
    have hr:=hr.step hs14
    have hka:=hka.mono' EncE.mono hs14.le
    have hk2:=hk2.mono' EncE.mono hs14.le
    have hf:=hf.mono' EncE.mono hs14.le
    have hrb:=hrb.step hs14
    have hkb2:=hkb2.mono' EncE.mono hs14.le
    have hg:=hg.mono' EncE.mono hs14.le
    have hT:=hT.then hs14
    refine Dm 0 1 rfl (by kernel_rfl) rfl ?_
    refine Dq 1 3 rfl (by kernel_rfl) (fun _ => (q_indexAddr (e := 195) (size := 1) (by kernel_rfl) (by kernel_rfl) rfl rfl (by omega) (by omega))) ?_
    refine Dl1 2 7 rfl (by kernel_rfl) (by kernel_rfl) rfl ((hrb _ _ (Step.refl _ hT.sat)).cell (u := .pointer gq) (j := (0 : Int).toNat * 1) rfl) ?_
    refine Dm 4 23 rfl (by kernel_rfl) rfl ?_
    refine Dm 5 55 rfl (by kernel_rfl) rfl ?_
    refine Dm 6 119 rfl (by kernel_rfl) rfl ?_
    refine Dq 7 247 rfl (by kernel_rfl) (fun _ => (q_slice (e := 195) (size := 1) (k' := .i64) (by kernel_rfl) (by kernel_rfl) rfl rfl rfl (by omega) (by omega) (by omega))) ?_
    refine at_two (i := 3) (j := 8) (by kernel_rfl) ?_ ?_
    ·
     have hTz := hT.size
     refine Dah 3 255 rfl (by kernel_rfl) (keep_sift (bs := [T]) (by kernel_rfl)) (h_buildO (e := 195) (size := 1) (zs := [(.pointer none)]) (cs := [_]) (by kernel_rfl) (by kernel_rfl) (by kernel_rfl) rfl hs14.sat rfl rfl fun bB w15 hs15 hoB eB => ?_)
     have hr:=hr.step hs15
     have hka:=hka.mono' EncE.mono hs15.le
     have hk2:=hk2.mono' EncE.mono hs15.le
     have hf:=hf.mono' EncE.mono hs15.le
     have hrb:=hrb.step hs15
     have hkb2:=hkb2.mono' EncE.mono hs15.le
     have hg:=hg.mono' EncE.mono hs15.le
     have hT:=hT.then hs15
     have hz15 := hs15.size
     refine ⟨trivial, ?_⟩
     refine Dh 8 511 rfl (by kernel_rfl) rfl (h_call (by kernel_rfl) rfl ?_)
     have hml := RT.sizes_length (bmeld ltE (f :: a) b)
     have hms := bmeld_size ltE (f :: a) b
     have hmf := RT.sizes_cons f a
     have hmg := RT.sizes_cons g b
     refine (ih _ _ (f :: a) b _ _ hs15.sat ⟨_, _, _, rfl, hr, hka⟩ ⟨_, _, _, rfl, hrb.tail (by simpa using hlnb), hkb2⟩ (by omega) (by omega)).mono ?_
     rintro v w16 ⟨Mn, hs16, hn⟩
     obtain ⟨va, vc, vl, rfl, hv1, hv2⟩ := hn
     have hr:=hr.step hs16
     have hka:=hka.mono' EncE.mono hs16.le
     have hk2:=hk2.mono' EncE.mono hs16.le
     have hf:=hf.mono' EncE.mono hs16.le
     have hrb:=hrb.step hs16
     have hkb2:=hkb2.mono' EncE.mono hs16.le
     have hg:=hg.mono' EncE.mono hs16.le
     have hoB:=hoB.then hs16
     have hT:=hT.then hs16
     have hz16 := hs16.size
     refine ⟨trivial, ?_⟩
     have hbb := Own.buf hoB (n := 1) (size := 1) rfl (by decide)
     refine Dh 9 1023 rfl (by kernel_rfl) rfl (h_append (e := 195) (size := 1) (bytes := 8) (by kernel_rfl) hs16.sat hbb (hv1.now hs16.sat) rfl rfl (ptrs_one _) (by omega) rfl fun sv w17 hs17 hbu hor => ?_)
     have hT:=hT.trans hs17 (fun k hk h => by have h2 : bB = k := Option.some.inj h; omega)
     have hbs := hbu.rds
     have hka:=hka.mono' EncE.mono hs17.le
     have hk2:=hk2.mono' EncE.mono hs17.le
     have hf:=hf.mono' EncE.mono hs17.le
     have hkb2:=hkb2.mono' EncE.mono hs17.le
     have hg:=hg.mono' EncE.mono hs17.le
     have hv2:=hv2.mono' EncE.mono hs17.le
     obtain ⟨sva, svc, rfl, _, _⟩ := hbu.slice
     refine ⟨trivial, ?_⟩
     refine Da 10 2047 rfl (by kernel_rfl) rfl ?_
     refine Dd (by kernel_rfl) ?_
     refine ⟨_, (.cons rfl (.nil _)), _, rfl, _, hT, ?_⟩
     rw [show bmeld ltE (f :: a) (g :: b) = g :: bmeld ltE (f :: a) b from by rw [bmeld, if_neg hc2, if_pos hc3]]
     exact ⟨sva, svc, _, congrArg (fun k => Value.slice sva k svc) (by simp <;> omega), hbs.cast (congrArg (fun k => Value.slice sva k svc) (by simp <;> omega)) (by simp <;> omega) rfl, treps_cons.2 ⟨_, _, rfl, hg, hv2⟩⟩
    ·
     refine Dah 8 503 rfl (by kernel_rfl) (keep_sift (bs := [F]) (by kernel_rfl)) (h_call (by kernel_rfl) rfl ?_)
     have hml := RT.sizes_length (bmeld ltE (f :: a) b)
     have hms := bmeld_size ltE (f :: a) b
     have hmf := RT.sizes_cons f a
     have hmg := RT.sizes_cons g b
     refine (ih _ _ (f :: a) b _ _ hs14.sat ⟨_, _, _, rfl, hr, hka⟩ ⟨_, _, _, rfl, hrb.tail (by simpa using hlnb), hkb2⟩ (by omega) (by omega)).mono ?_
     rintro v w18 ⟨Mn, hs18, hn⟩
     obtain ⟨va, vc, vl, rfl, hv1, hv2⟩ := hn
     have hr:=hr.step hs18
     have hk2:=hk2.mono' EncE.mono hs18.le
     have hf:=hf.mono' EncE.mono hs18.le
     have hrb:=hrb.step hs18
     have hkb2:=hkb2.mono' EncE.mono hs18.le
     have hg:=hg.mono' EncE.mono hs18.le
     have hT:=hT.then hs18
     have hz18 := hs18.size
     refine ⟨(by repeat' first | exact trivial | exact ((hrb _ _ (Step.refl _ hT.sat)).cell (u := .pointer gq) (j := (0 : Int).toNat * 1) rfl) | assumption | refine all_keep ?_ | refine And.intro ?_ ?_), ?_⟩
     have hTz := hT.size
     refine Dh 3 511 rfl (by kernel_rfl) (keep_sift (bs := [T]) (by kernel_rfl)) (h_buildO (e := 195) (size := 1) (zs := [(.pointer none)]) (cs := [_]) (by kernel_rfl) (by kernel_rfl) (by kernel_rfl) rfl hs18.sat rfl rfl fun bB w19 hs19 hoB eB => ?_)
     have hr:=hr.step hs19
     have hk2:=hk2.mono' EncE.mono hs19.le
     have hf:=hf.mono' EncE.mono hs19.le
     have hrb:=hrb.step hs19
     have hkb2:=hkb2.mono' EncE.mono hs19.le
     have hg:=hg.mono' EncE.mono hs19.le
     have hv1:=hv1.step hs19
     have hv2:=hv2.mono' EncE.mono hs19.le
     have hT:=hT.then hs19
     have hz19 := hs19.size
     refine ⟨trivial, ?_⟩
     have hbb := Own.buf hoB (n := 1) (size := 1) rfl (by decide)
     refine Dh 9 1023 rfl (by kernel_rfl) rfl (h_append (e := 195) (size := 1) (bytes := 8) (by kernel_rfl) hs19.sat hbb (hv1.now hs19.sat) rfl rfl (ptrs_one _) (by omega) rfl fun sv w20 hs20 hbu hor => ?_)
     have hT:=hT.trans hs20 (fun k hk h => by have h2 : bB = k := Option.some.inj h; omega)
     have hbs := hbu.rds
     have hk2:=hk2.mono' EncE.mono hs20.le
     have hf:=hf.mono' EncE.mono hs20.le
     have hkb2:=hkb2.mono' EncE.mono hs20.le
     have hg:=hg.mono' EncE.mono hs20.le
     have hv2:=hv2.mono' EncE.mono hs20.le
     obtain ⟨sva, svc, rfl, _, _⟩ := hbu.slice
     refine ⟨trivial, ?_⟩
     refine Da 10 2047 rfl (by kernel_rfl) rfl ?_
     refine Dd (by kernel_rfl) ?_
     refine ⟨_, (.cons rfl (.nil _)), _, rfl, _, hT, ?_⟩
     rw [show bmeld ltE (f :: a) (g :: b) = g :: bmeld ltE (f :: a) b from by rw [bmeld, if_neg hc2, if_pos hc3]]
     exact ⟨sva, svc, _, congrArg (fun k => Value.slice sva k svc) (by simp <;> omega), hbs.cast (congrArg (fun k => Value.slice sva k svc) (by simp <;> omega)) (by simp <;> omega) rfl, treps_cons.2 ⟨_, _, rfl, hg, hv2⟩⟩
   rintro l2 w2 ⟨v, rfl, M2, hT2, hsr⟩
   refine cw_ret ?_
   exact ⟨_, (res_tmp rfl res_nil), M2, hT2, hsr⟩
  ·
   replace hc3 : ¬ g.rank < f.rank := by have := of_decide_eq_false hc3; omega
   refine cw_skip ?_
   refine hK2 _ _ ?_
   refine cw_dr (by kernel_rfl) fun _ κ => ?_
   have hs21 := Step.drew hs13.sat
   have hz21 := hs21.size
   have hr:=hr.step hs21
   have hk2:=hk2.mono' EncE.mono hs21.le
   have hf:=hf.mono' EncE.mono hs21.le
   have hrb:=hrb.step hs21
   have hkb2:=hkb2.mono' EncE.mono hs21.le
   have hg:=hg.mono' EncE.mono hs21.le
   have hT:=hT.then hs21
   refine Dm 0 1 rfl (by kernel_rfl) rfl ?_
   refine Dm 1 3 rfl (by kernel_rfl) rfl ?_
   refine Dq 2 7 rfl (by kernel_rfl) (fun _ => (q_slice (e := 195) (size := 1) (k' := .i64) (by kernel_rfl) (by kernel_rfl) rfl rfl rfl (by omega) (by omega) (by omega))) ?_
   refine Dm 3 15 rfl (by kernel_rfl) rfl ?_
   refine Dq 4 31 rfl (by kernel_rfl) (fun _ => (q_slice (e := 195) (size := 1) (k' := .i64) (by kernel_rfl) (by kernel_rfl) rfl rfl rfl (by omega) (by omega) (by omega))) ?_
   refine Dh 5 63 rfl (by kernel_rfl) rfl (h_call (by kernel_rfl) rfl ?_)
   have hml := RT.sizes_length (bmeld ltE a b)
   have hms := bmeld_size ltE a b
   have hmf := RT.sizes_cons f a
   have hmg := RT.sizes_cons g b
   refine (ih _ _ a b _ _ hs21.sat ⟨_, _, _, rfl, hr.tail (by simpa using hln), hk2⟩ ⟨_, _, _, rfl, hrb.tail (by simpa using hlnb), hkb2⟩ (by omega) (by omega)).mono ?_
   rintro v w22 ⟨Mn, hs22, hn⟩
   obtain ⟨va, vc, vl, rfl, hv1, hv2⟩ := hn
   have hr:=hr.step hs22
   have hf:=hf.mono' EncE.mono hs22.le
   have hrb:=hrb.step hs22
   have hg:=hg.mono' EncE.mono hs22.le
   have hT:=hT.then hs22
   have hz22 := hs22.size
   refine ⟨trivial, ?_⟩
   refine Da 6 127 rfl (by kernel_rfl) rfl ?_
   refine Dd (by kernel_rfl) (κ _ _ ?_)
   refine cw_dr (by kernel_rfl) fun _ κ => ?_
   have hs23 := Step.drew hs22.sat
   have hz23 := hs23.size
   have hr:=hr.step hs23
   have hf:=hf.mono' EncE.mono hs23.le
   have hrb:=hrb.step hs23
   have hg:=hg.mono' EncE.mono hs23.le
   have hv1:=hv1.step hs23
   have hv2:=hv2.mono' EncE.mono hs23.le
   have hT:=hT.then hs23
   refine Dm 0 1 rfl (by kernel_rfl) rfl ?_
   refine Dm 1 3 rfl (by kernel_rfl) rfl ?_
   refine Dm 2 7 rfl (by kernel_rfl) rfl ?_
   refine Dq 3 15 rfl (by kernel_rfl) (fun _ => (q_indexAddr (e := 195) (size := 1) (by kernel_rfl) (by kernel_rfl) rfl rfl (by omega) (by omega))) ?_
   refine Dl1 4 31 rfl (by kernel_rfl) (by kernel_rfl) rfl ((hr _ _ (Step.refl _ hT.sat)).cell (u := .pointer fq) (j := (0 : Int).toNat * 1) rfl) ?_
   refine Dm 5 63 rfl (by kernel_rfl) rfl ?_
   refine Dq 6 127 rfl (by kernel_rfl) (fun _ => (q_indexAddr (e := 195) (size := 1) (by kernel_rfl) (by kernel_rfl) rfl rfl (by omega) (by omega))) ?_
   refine Dl1 7 255 rfl (by kernel_rfl) (by kernel_rfl) rfl ((hrb _ _ (Step.refl _ hT.sat)).cell (u := .pointer gq) (j := (0 : Int).toNat * 1) rfl) ?_
   refine Dm 9 767 rfl (by kernel_rfl) rfl ?_
   refine Dh 8 1023 rfl (by kernel_rfl) (keep_sift (bs := [T,T]) (by kernel_rfl)) (h_call (by kernel_rfl) rfl ?_)
   refine (te_link hs23.sat hf hg (by omega)).mono ?_
   rintro _ w24 ⟨qn, Mn, rfl, hs24, hn⟩
   have hv1:=hv1.step hs24
   have hv2:=hv2.mono' EncE.mono hs24.le
   have hT:=hT.then hs24
   have hz24 := hs24.size
   refine ⟨trivial, ?_⟩
   refine Dh 10 2047 rfl (by kernel_rfl) rfl (h_call (by kernel_rfl) rfl ?_)
   refine (se_put hs24.sat hn ⟨_, _, _, rfl, hv1, hv2⟩ (by rw [RT.link_size]; omega)).mono ?_
   rintro v w25 ⟨Mp, hs25, hp⟩
   obtain ⟨pa, pc, pl, rfl, hp1, hp2⟩ := hp
   have hT:=hT.then hs25
   have hz25 := hs25.size
   refine ⟨trivial, ?_⟩
   refine Da 11 4095 rfl (by kernel_rfl) rfl ?_
   refine Dd (by kernel_rfl) (κ _ _ ?_)
   refine cw_ret ?_
   rw [show bmeld ltE (f :: a) (g :: b) = bput ltE (RT.link ltE f g) (bmeld ltE a b) from by rw [bmeld, if_neg hc2, if_neg hc3]]
   exact ⟨_, (res_tmp rfl res_nil), _, hT, _, _, _, rfl, hp1, hp2⟩
theorem se_meld_all : ∀ k, SMelde k
 | 0 => fun _ _ _ _ _ _ _ _ _ h _ => absurd h (Nat.not_lt_zero _)
 | k + 1 => fun w M a b va vb hs ha hb hk hz => by
  cases a with
  | nil => obtain ⟨_, _, _, rfl, _, _⟩ := ha; rw [show bmeld ltE [] b = b by rw [bmeld]]; exact se_meld_a hs hb
  | cons f a =>
   cases b with
   | nil => obtain ⟨_, _, _, rfl, _, _⟩ := hb; rw [show bmeld ltE (f :: a) [] = f :: a by rw [bmeld]]; exact se_meld_b hs ha
   | cons g b => exact se_meld_c (se_meld_all k) hs ha hb hk hz
theorem se_rmeld {w : World} {M : Mem} {a b : List (RT El)} {va vb : Value} (hs : Sat M w) (ha : SRow 220 2 EncE M w a va) (hb : SRow 220 2 EncE M w b vb) (hz : RT.sizes a + RT.sizes b ≤ 1000000000) :
  Does Tryz.prog 191 #[.pointer none, va, vb] w (fun v w' => ∃ M', Step Nope M w M' w' ∧ SRow 220 2 EncE M' w' (bmeld ltE a b) v) := se_meld_all _ _ _ _ _ _ _ hs ha hb (Nat.lt_succ_self _) hz
theorem ce_ofn {w : World} {M : Mem} {l : List (Option Addr)} {sa : Option Addr} {n sc : Nat} (hs : Sat M w) (hn : l.length = n) (hr : Rds M w 1 (.slice sa n sc) n (ptrs l)) (hz : n ≤ 1000000000) :
  Does Tryz.prog 125 #[.slice sa n sc] w (fun v w' => ∃ q M', v = .agg #[.pointer q] ∧ Step Nope M w M' w' ∧ CRep 197 M' l (.pointer q)) := by
 subst hn; exact ce_of hs hr hz
end Go.Proofs.YtgcgjpfjjgalmaaGreat
/- Heaps with their least element apart, part 1. -/
namespace Go.Proofs.YtgcgjpfjjgalmaaGreat
open Go Go.Eng
theorem r_made {w : World} {M : Mem} {x : El} {ts : List (RT El)} {q : Option Addr} (hs : Sat M w) (ht : FRep 197 220 2 EncE M ts q) :
  Does Tryz.prog 209 #[.pointer none, .agg (elc x).toArray, .agg #[.pointer q]] w (fun v w' => ∃ q M', v = .agg #[.pointer q] ∧ Step Nope M w M' w' ∧ RoRep 283 197 220 M' (.node x ts) q) := by
 have hT := Step.refl Nope hs
 refine fn_enter Tryz.func209 rfl (rs := [.cell 6 88]) rfl rfl rfl rfl ?_
 refine cw_rs fun _ κ => ?_
 refine as_h rfl (h_boxM hs rfl rfl fun b1 M1 w1 hs1 hb1 e1 => ?_)
 have ht:=ht.mono' EncE.mono hs1.le
 have hT:=hT.then hs1
 have hz1 := hs1.size
 refine as_h rfl (h_boxM hs1.sat rfl rfl fun b2 M2 w2 hs2 hb2 e2 => ?_)
 have ht:=ht.mono' EncE.mono hs2.le
 have hb1:=hs2.le _ _ hb1
 have hT:=hT.then hs2
 have hz2 := hs2.size
 have hqar := hT.size
 refine as_h rfl (h_allocO (z := (.agg #[(.pointer none)])) hs2.sat (by kernel_rfl) rfl fun br w3 hs3 hor er => ?_)
 have ht:=ht.mono' EncE.mono hs3.le
 have hb1:=hs3.le _ _ hb1
 have hb2:=hs3.le _ _ hb2
 have hT:=hT.then hs3
 have hz3 := hs3.size
 have hlr := hor.1.lt
 refine as_nil (κ _ _ ?_)
 refine cw_rs fun _ κ => ?_
 refine Sm rfl rfl ?_
 refine as_h rfl (h_call (by kernel_rfl) rfl ?_)
 refine (m_made hs3.sat).mono ?_
 rintro _ w4 hs4
 have ht:=ht.mono' EncE.mono hs4.le
 have hb1:=hs4.le _ _ hb1
 have hb2:=hs4.le _ _ hb2
 have hor:=hor.then hs4
 have hT:=hT.then hs4
 have hz4 := hs4.size
 refine as_nil (κ _ _ ?_)
 refine cw_rs fun _ κ => ?_
 refine Sc 1 rfl (by kernel_rfl) rfl (by exact BlkR.cells (hs4.sat _ _ _ hb2) rfl) ?_
 refine Sc 2 rfl (by kernel_rfl) rfl (by exact BlkR.cells (hs4.sat _ _ _ hb1) rfl) ?_
 refine as_q rfl rfl (q_build (zs := [(.pointer none), (.int .i64 0), (.int .i64 0)]) (places := [(0, 1), (1, 2)]) (cs := [_, _, _]) (by kernel_rfl) (by kernel_rfl) rfl rfl) ?_
 refine as_h rfl (h_boxM hs4.sat rfl rfl fun b5 M5 w5 hs5 hb5 e5 => ?_)
 have ht:=ht.mono' EncE.mono hs5.le
 have hor:=hor.then hs5
 have hT:=hT.then hs5
 have hz5 := hs5.size
 refine as_q rfl rfl (q_build (zs := [(.pointer none)]) (places := [(0, 1)]) (cs := [_]) (by kernel_rfl) (by kernel_rfl) rfl rfl) ?_
 refine as_h0 (h_store hs5.sat hor rfl rfl rfl (by kernel_rfl) rfl rfl rfl fun w6 hs6 hn6 => ?_)
 have ht:=ht.mono' EncE.mono hs6.le
 have hb5:=hs6.le _ _ hb5
 clear hor; have hor := hn6; clear hn6
 have hT:=hT.own hs6 (by omega)
 have hz6 := hs6.size
 refine as_nil (κ _ _ ?_)
 refine cw_ret ?_
 exact ⟨_, (res_cell rfl (loadVar_n (n := 1) (by kernel_rfl) (by exact Blk.cells hor.1 rfl)) res_nil), _, _, rfl, hT, _, _, rfl, hb5, ht⟩
theorem r_size_n {w : World} {M : Mem} (hs : Sat M w) :
  Does Tryz.prog 208 #[.agg #[.pointer none]] w (fun v w' => v = .int .i64 (Ro.nil.size : Nat) ∧ Step Nope M w M w') := by
 have hT := Step.refl Nope hs
 refine fn_enter Tryz.func208 rfl (rs := [.tmp 2]) rfl rfl rfl rfl ?_
 refine cw_rs fun _ κ => ?_
 refine as_h rfl (h_boxM hs rfl rfl fun b1 M1 w1 hs1 hb1 e1 => ?_)
 have hT:=hT.then hs1
 refine Sa rfl rfl ?_
 refine as_nil (κ _ _ ?_)
 refine cw_seq fun _ hK2 => ?_
 refine cw_rs fun _ κ => ?_
 refine Sf 0 rfl (by kernel_rfl) rfl ?_
 refine S1 rfl (by kernel_rfl) rfl (by exact BlkR.cell (hs1.sat _ _ _ hb1) rfl) ?_
 refine as_q rfl rfl (q_eqnil (by kernel_rfl) rfl) ?_
 refine as_nil (κ _ _ ?_)
 refine cw_true rfl ?_
 refine cw_rs fun _ κ => ?_
 refine Sa rfl rfl ?_
 refine as_nil (κ _ _ ?_)
 refine cw_ret ?_
 exact ⟨_, (res_tmp rfl res_nil), rfl, hT.forget⟩
theorem r_size_c {w : World} {M : Mem} {x : El} {ts : List (RT El)} {q : Option Addr} (hs : Sat M w) (h : RoRep 283 197 220 M (.node x ts) q) (hz : (Ro.node x ts).size ≤ 1000000000) :
  Does Tryz.prog 208 #[.agg #[.pointer q]] w (fun v w' => v = .int .i64 ((Ro.node x ts).size : Nat) ∧ Step Nope M w M w') := by
 have hT := Step.refl Nope hs
 obtain ⟨b, qs, rfl, hb, ht⟩ := h
 have hz1 : 1 + RT.sizes ts ≤ 1000000000 := hz
 refine fn_enter Tryz.func208 rfl (rs := [.tmp 2]) rfl rfl rfl rfl ?_
 refine cw_rs fun _ κ => ?_
 refine as_h rfl (h_boxM hs rfl rfl fun b1 M1 w1 hs1 hb1 e1 => ?_)
 have hb:=hs1.le _ _ hb
 have ht:=ht.mono' EncE.mono hs1.le
 have hT:=hT.then hs1
 refine Sa rfl rfl ?_
 refine as_nil (κ _ _ ?_)
 refine cw_seq fun _ hK2 => ?_
 refine cw_rs fun _ κ => ?_
 refine Sf 0 rfl (by kernel_rfl) rfl ?_
 refine S1 rfl (by kernel_rfl) rfl (by exact BlkR.cell (hs1.sat _ _ _ hb1) rfl) ?_
 refine as_q rfl rfl (q_eqnil (by kernel_rfl) rfl) ?_
 refine as_nil (κ _ _ ?_)
 refine cw_false rfl ?_
 refine cw_skip ?_
 refine hK2 _ _ ?_
 refine cw_rs fun _ κ => ?_
 refine Sf 0 rfl (by kernel_rfl) rfl ?_
 refine S1 rfl (by kernel_rfl) rfl (by exact BlkR.cell (hs1.sat _ _ _ hb1) rfl) ?_
 refine as_q rfl rfl (q_nilp rfl) ?_
 refine Sf 0 rfl (by kernel_rfl) rfl ?_
 refine Sc 1 rfl (by kernel_rfl) rfl (by exact BlkR.cells (hs1.sat _ _ _ hb) rfl) ?_
 refine as_h rfl (h_call (by kernel_rfl) rfl ?_)
 refine (se_size hs1.sat ht (by simp only [Ro.size] at hz; omega)).mono ?_
 rintro _ w2 ⟨rfl, hs2⟩
 have hT:=hT.then hs2
 refine as_q rfl rfl (q_addx rfl rfl (by omega) (by omega)) ?_
 refine Sa rfl rfl ?_
 refine as_nil (κ _ _ ?_)
 refine cw_ret ?_
 exact ⟨_, (res_tmp rfl res_nil), congrArg (Value.int .i64) (by simp only [Ro.size]; omega), hT.forget⟩
theorem r_size {w : World} {M : Mem} {t : Ro} {q : Option Addr} (hs : Sat M w) (h : RoRep 283 197 220 M t q) (hz : t.size ≤ 1000000000) : Does Tryz.prog 208 #[.agg #[.pointer q]] w (fun v w' => v = .int .i64 (t.size : Nat) ∧ Step Nope M w M w') := by
 cases t with
 | nil => cases h; exact r_size_n hs
 | node x ts => exact r_size_c hs h hz
theorem r_min {w : World} {M : Mem} {x : El} {ts : List (RT El)} {q : Option Addr} (hs : Sat M w) (h : RoRep 283 197 220 M (.node x ts) q) :
  Does Tryz.prog 205 #[.agg #[.pointer q], .pointer none] w (fun v w' => v = .tuple #[.agg (elc x).toArray, .bool true] ∧ Step Nope M w M w') := by
 have hT := Step.refl Nope hs
 obtain ⟨b, qs, rfl, hb, ht⟩ := h
 refine fn_enter Tryz.func205 rfl (rs := [.cell 4 24, .tmp 5]) rfl rfl rfl rfl ?_
 refine cw_rs fun _ κ => ?_
 refine as_h rfl (h_boxM hs rfl rfl fun b1 M1 w1 hs1 hb1 e1 => ?_)
 have hb:=hs1.le _ _ hb
 have hT:=hT.then hs1
 have hz1 := hs1.size
 have hqar := hT.size
 refine as_h rfl (h_allocO (z := (.agg #[(.int .i64 0), (.int .i64 0)])) hs1.sat (by kernel_rfl) rfl fun br w2 hs2 hor er => ?_)
 have hb:=hs2.le _ _ hb
 have hb1:=hs2.le _ _ hb1
 have hT:=hT.then hs2
 have hz2 := hs2.size
 have hlr := hor.1.lt
 refine Sa rfl rfl ?_
 refine as_nil (κ _ _ ?_)
 refine cw_seq fun _ hK2 => ?_
 refine cw_rs fun _ κ => ?_
 refine Sf 0 rfl (by kernel_rfl) rfl ?_
 refine S1 rfl (by kernel_rfl) rfl (by exact BlkR.cell (hs2.sat _ _ _ hb1) rfl) ?_
 refine as_q rfl rfl (q_eqnil (by kernel_rfl) rfl) ?_
 refine as_nil (κ _ _ ?_)
 refine cw_false rfl ?_
 refine cw_skip ?_
 refine hK2 _ _ ?_
 refine cw_rs fun _ κ => ?_
 refine Sf 0 rfl (by kernel_rfl) rfl ?_
 refine S1 rfl (by kernel_rfl) rfl (by exact BlkR.cell (hs2.sat _ _ _ hb1) rfl) ?_
 refine as_q rfl rfl (q_nilp rfl) ?_
 refine Sf 1 rfl (by kernel_rfl) rfl ?_
 refine Sc 2 rfl (by kernel_rfl) rfl (by exact BlkR.cells (hs2.sat _ _ _ hb) rfl) ?_
 refine as_h0 (h_store hs2.sat hor rfl rfl rfl (by kernel_rfl) rfl rfl rfl fun w3 hs3 hn3 => ?_)
 clear hor; have hor := hn3; clear hn3
 have hT:=hT.own hs3 (by omega)
 have hz3 := hs3.size
 refine Sa rfl rfl ?_
 refine as_nil (κ _ _ ?_)
 refine cw_ret ?_
 exact ⟨_, (res_cell rfl (loadVar_n (n := 2) (by kernel_rfl) (by exact Blk.cells hor.1 rfl)) (res_tmp rfl res_nil)), rfl, hT.forget⟩
theorem r_insert_n {w : World} {M : Mem} {x : El} (hs : Sat M w) :
  Does Tryz.prog 203 #[.agg #[.pointer none], .pointer none, .agg (elc x).toArray] w (fun v w' => ∃ q M', v = .agg #[.pointer q] ∧ Step Nope M w M' w' ∧ RoRep 283 197 220 M' (Ro.insert x .nil) q) := by
 have hT := Step.refl Nope hs
 refine fn_enter Tryz.func203 rfl (rs := [.cell 6 88]) rfl rfl rfl rfl ?_
 refine cw_rs fun _ κ => ?_
 refine as_h rfl (h_boxM hs rfl rfl fun b1 M1 w1 hs1 hb1 e1 => ?_)
 have hT:=hT.then hs1
 have hz1 := hs1.size
 refine as_h rfl (h_boxM hs1.sat rfl rfl fun b2 M2 w2 hs2 hb2 e2 => ?_)
 have hb1:=hs2.le _ _ hb1
 have hT:=hT.then hs2
 have hz2 := hs2.size
 have hqar := hT.size
 refine as_h rfl (h_allocO (z := (.agg #[(.pointer none)])) hs2.sat (by kernel_rfl) rfl fun br w3 hs3 hor er => ?_)
 have hb1:=hs3.le _ _ hb1
 have hb2:=hs3.le _ _ hb2
 have hT:=hT.then hs3
 have hz3 := hs3.size
 have hlr := hor.1.lt
 refine as_nil (κ _ _ ?_)
 refine cw_seq fun _ hK2 => ?_
 refine cw_rs fun _ κ => ?_
 refine Sf 0 rfl (by kernel_rfl) rfl ?_
 refine S1 rfl (by kernel_rfl) rfl (by exact BlkR.cell (hs3.sat _ _ _ hb1) rfl) ?_
 refine as_q rfl rfl (q_eqnil (by kernel_rfl) rfl) ?_
 refine as_nil (κ _ _ ?_)
 refine cw_true rfl ?_
 refine cw_rs fun _ κ => ?_
 refine Sm rfl rfl ?_
 refine Sc 2 rfl (by kernel_rfl) rfl (by exact BlkR.cells (hs3.sat _ _ _ hb2) rfl) ?_
 refine as_q rfl rfl (q_build (zs := [(.pointer none)]) (places := [(0, 1)]) (cs := [_]) (by kernel_rfl) (by kernel_rfl) rfl rfl) ?_
 refine as_h rfl (h_call (by kernel_rfl) rfl ?_)
 refine (r_made (x := x) (ts := []) hs3.sat (frep_nil.2 rfl)).mono ?_
 rintro _ w4 ⟨qm, Mm, rfl, hs4, hm⟩
 have hor:=hor.then hs4
 have hT:=hT.then hs4
 have hz4 := hs4.size
 refine as_h0 (h_store hs4.sat hor rfl rfl rfl (by kernel_rfl) rfl rfl rfl fun w5 hs5 hn5 => ?_)
 have hm:=hm.mono hs5.le
 clear hor; have hor := hn5; clear hn5
 have hT:=hT.own hs5 (by omega)
 have hz5 := hs5.size
 refine as_nil (κ _ _ ?_)
 refine cw_ret ?_
 exact ⟨_, (res_cell rfl (loadVar_n (n := 1) (by kernel_rfl) (by exact Blk.cells hor.1 rfl)) res_nil), _, _, rfl, hT, hm⟩
theorem r_insert_c {w : World} {M : Mem} {x r : El} {ts : List (RT El)} {q : Option Addr} (hs : Sat M w) (h : RoRep 283 197 220 M (.node r ts) q) (hz : (Ro.node r ts).size < 1000000000) :
  Does Tryz.prog 203 #[.agg #[.pointer q], .pointer none, .agg (elc x).toArray] w (fun v w' => ∃ q M', v = .agg #[.pointer q] ∧ Step Nope M w M' w' ∧ RoRep 283 197 220 M' (Ro.insert x (.node r ts)) q) := by
 have hT := Step.refl Nope hs
 obtain ⟨b, qs, rfl, hb, ht⟩ := h
 have hz1 : 1 + RT.sizes ts < 1000000000 := hz
 refine fn_enter Tryz.func203 rfl (rs := [.cell 6 88]) rfl rfl rfl rfl ?_
 refine cw_rs fun _ κ => ?_
 refine as_h rfl (h_boxM hs rfl rfl fun b1 M1 w1 hs1 hb1 e1 => ?_)
 have hb:=hs1.le _ _ hb
 have ht:=ht.mono' EncE.mono hs1.le
 have hT:=hT.then hs1
 have hz1 := hs1.size
 have hqax := hT.size
 refine as_h rfl (h_boxO hs1.sat rfl rfl fun bx w2 hs2 hox ex => ?_)
 have hb:=hs2.le _ _ hb
 have ht:=ht.mono' EncE.mono hs2.le
 have hb1:=hs2.le _ _ hb1
 have hT:=hT.then hs2
 have hz2 := hs2.size
 have hlx := hox.1.lt
 have hqar := hT.size
 refine as_h rfl (h_allocO (z := (.agg #[(.pointer none)])) hs2.sat (by kernel_rfl) rfl fun br w3 hs3 hor er => ?_)
 have hb:=hs3.le _ _ hb
 have ht:=ht.mono' EncE.mono hs3.le
 have hb1:=hs3.le _ _ hb1
 have hox:=hox.then hs3
 have hT:=hT.then hs3
 have hz3 := hs3.size
 have hlr := hor.1.lt
 refine as_nil (κ _ _ ?_)
 refine cw_seq fun _ hK2 => ?_
 refine cw_rs fun _ κ => ?_
 refine Sf 0 rfl (by kernel_rfl) rfl ?_
 refine S1 rfl (by kernel_rfl) rfl (by exact BlkR.cell (hs3.sat _ _ _ hb1) rfl) ?_
 refine as_q rfl rfl (q_eqnil (by kernel_rfl) rfl) ?_
 refine as_nil (κ _ _ ?_)
 refine cw_false rfl ?_
 refine cw_skip ?_
 refine hK2 _ _ ?_
 refine cw_rs fun _ κ => ?_
 refine Sf 0 rfl (by kernel_rfl) rfl ?_
 refine S1 rfl (by kernel_rfl) rfl (by exact BlkR.cell (hs3.sat _ _ _ hb1) rfl) ?_
 refine as_q rfl rfl (q_nilp rfl) ?_
 refine Sf 1 rfl (by kernel_rfl) rfl ?_
 refine Sc 2 rfl (by kernel_rfl) rfl (by exact BlkR.cells (hs3.sat _ _ _ hb) rfl) ?_
 have hqat := hT.size
 refine as_h rfl (h_allocO (z := (.agg #[(.int .i64 0), (.int .i64 0)])) hs3.sat (by kernel_rfl) rfl fun bt w4 hs4 hot et => ?_)
 have hb:=hs4.le _ _ hb
 have ht:=ht.mono' EncE.mono hs4.le
 have hb1:=hs4.le _ _ hb1
 have hox:=hox.then hs4
 have hor:=hor.then hs4
 have hT:=hT.then hs4
 have hz4 := hs4.size
 have hlt := hot.1.lt
 refine as_h0 (h_store hs4.sat hot rfl rfl rfl (by kernel_rfl) rfl rfl rfl fun w5 hs5 hn5 => ?_)
 have hb:=hs5.le _ _ hb
 have ht:=ht.mono' EncE.mono hs5.le
 have hb1:=hs5.le _ _ hb1
 have hox:=hox.step hs5 (fun h => by have h : _ = _ := h; omega)
 have hor:=hor.step hs5 (fun h => by have h : _ = _ := h; omega)
 clear hot; have hot := hn5; clear hn5
 have hT:=hT.own hs5 (by omega)
 have hz5 := hs5.size
 refine as_nil (κ _ _ ?_)
 refine cw_seq fun _ hK5 => ?_
 refine cw_rs fun _ κ => ?_
 refine Sm rfl rfl ?_
 refine Sc 2 rfl (by kernel_rfl) rfl (by exact Blk.cells hox.1 rfl) ?_
 refine Sc 2 rfl (by kernel_rfl) rfl (by exact Blk.cells hot.1 rfl) ?_
 refine as_h rfl (h_call (by kernel_rfl) rfl ?_)
 refine (m_less (a := x) (b := r) hs5.sat).mono ?_
 rintro _ w6 ⟨rfl, hs6⟩
 have hb:=hs6.le _ _ hb
 have ht:=ht.mono' EncE.mono hs6.le
 have hb1:=hs6.le _ _ hb1
 have hox:=hox.then hs6
 have hor:=hor.then hs6
 have hot:=hot.then hs6
 have hT:=hT.then hs6
 have hz6 := hs6.size
 refine as_nil (κ _ _ ?_)
 refine cw_cond rfl (fun hc1 => ?_) (fun hc1 => ?_)
 ·
  skip
  refine cw_region fun _ κ => ?_
  refine Sc 2 rfl (by kernel_rfl) rfl (by exact Blk.cells hox.1 rfl) ?_
  refine Sc 2 rfl (by kernel_rfl) rfl (by exact Blk.cells hot.1 rfl) ?_
  refine as_h0 (h_store hs6.sat hot rfl rfl rfl (by kernel_rfl) rfl rfl rfl fun w7 hs7 hn7 => ?_)
  have hb:=hs7.le _ _ hb
  have ht:=ht.mono' EncE.mono hs7.le
  have hb1:=hs7.le _ _ hb1
  have hox:=hox.step hs7 (fun h => by have h : _ = _ := h; omega)
  have hor:=hor.step hs7 (fun h => by have h : _ = _ := h; omega)
  clear hot; have hot := hn7; clear hn7
  have hT:=hT.own hs7 (by omega)
  have hz7 := hs7.size
  refine as_h0 (h_store hs7.sat hox rfl rfl rfl (by kernel_rfl) rfl rfl rfl fun w8 hs8 hn8 => ?_)
  have hb:=hs8.le _ _ hb
  have ht:=ht.mono' EncE.mono hs8.le
  have hb1:=hs8.le _ _ hb1
  have hor:=hor.step hs8 (fun h => by have h : _ = _ := h; omega)
  have hot:=hot.step hs8 (fun h => by have h : _ = _ := h; omega)
  clear hox; have hox := hn8; clear hn8
  have hT:=hT.own hs8 (by omega)
  have hz8 := hs8.size
  refine as_nil (κ _ _ ?_)
  refine hK5 _ _ ?_
  refine cw_dr (by kernel_rfl) fun _ κ => ?_
  have hs9 := Step.drew hs8.sat
  have hz9 := hs9.size
  have hb:=hs9.le _ _ hb
  have ht:=ht.mono' EncE.mono hs9.le
  have hb1:=hs9.le _ _ hb1
  have hox:=hox.then hs9
  have hor:=hor.then hs9
  have hot:=hot.then hs9
  have hT:=hT.then hs9
  refine Dm 0 1 rfl (by kernel_rfl) rfl ?_
  refine Dlc 1 3 2 rfl (by kernel_rfl) (by kernel_rfl) rfl (by exact Blk.cells hot.1 rfl) ?_
  refine Df 2 7 0 rfl (by kernel_rfl) (by kernel_rfl) rfl ?_
  refine Dl1 3 15 rfl (by kernel_rfl) (by kernel_rfl) rfl (by exact BlkR.cell (hs9.sat _ _ _ hb1) rfl) ?_
  refine Dq 4 31 rfl (by kernel_rfl) (fun _ => (q_nilp rfl)) ?_
  refine Df 5 63 0 rfl (by kernel_rfl) (by kernel_rfl) rfl ?_
  refine Dlc 6 127 1 rfl (by kernel_rfl) (by kernel_rfl) rfl (by exact BlkR.cells (hs9.sat _ _ _ hb) rfl) ?_
  refine Dm 7 255 rfl (by kernel_rfl) rfl ?_
  refine Dlc 8 511 2 rfl (by kernel_rfl) (by kernel_rfl) rfl (by exact Blk.cells hox.1 rfl) ?_
  refine Dh 9 1023 rfl (by kernel_rfl) (keep_sift (bs := [T,T,F,F]) (by kernel_rfl)) (h_call (by kernel_rfl) rfl ?_)
  refine (se_insert (x := r) hs9.sat ht (by omega)).mono ?_
  rintro _ w10 ⟨qi, Mi, rfl, hs10, hi⟩
  have hb:=hs10.le _ _ hb
  have ht:=ht.mono' EncE.mono hs10.le
  have hb1:=hs10.le _ _ hb1
  have hox:=hox.then hs10
  have hor:=hor.then hs10
  have hot:=hot.then hs10
  have hT:=hT.then hs10
  have hz10 := hs10.size
  refine ⟨(by repeat' first | exact trivial | exact BlkR.cell (hs10.sat _ _ _ hb) rfl | exact BlkR.cells (hs10.sat _ _ _ hb) rfl | exact BlkR.cell (hs10.sat _ _ _ hb1) rfl | exact BlkR.cells (hs10.sat _ _ _ hb1) rfl | exact Blk.cell hox.1 rfl | exact Blk.cells hox.1 rfl | exact Blk.cell hor.1 rfl | exact Blk.cells hor.1 rfl | exact Blk.cell hot.1 rfl | exact Blk.cells hot.1 rfl | assumption | refine all_keep ?_ | refine And.intro ?_ ?_), ?_⟩
  refine Dh 10 2047 rfl (by kernel_rfl) (keep_sift (bs := [F,T]) (by kernel_rfl)) (h_call (by kernel_rfl) rfl ?_)
  refine (r_made (x := x) (ts := sinsert ltE r ts) hs10.sat hi).mono ?_
  rintro _ w11 ⟨qm, Mm, rfl, hs11, hm⟩
  have hb:=hs11.le _ _ hb
  have ht:=ht.mono' EncE.mono hs11.le
  have hb1:=hs11.le _ _ hb1
  have hox:=hox.then hs11
  have hor:=hor.then hs11
  have hot:=hot.then hs11
  have hi:=hi.mono' EncE.mono hs11.le
  have hT:=hT.then hs11
  have hz11 := hs11.size
  refine ⟨(by repeat' first | exact trivial | exact BlkR.cell (hs11.sat _ _ _ hb) rfl | exact BlkR.cells (hs11.sat _ _ _ hb) rfl | exact BlkR.cell (hs11.sat _ _ _ hb1) rfl | exact BlkR.cells (hs11.sat _ _ _ hb1) rfl | exact Blk.cell hox.1 rfl | exact Blk.cells hox.1 rfl | exact Blk.cell hor.1 rfl | exact Blk.cells hor.1 rfl | exact Blk.cell hot.1 rfl | exact Blk.cells hot.1 rfl | assumption | refine all_keep ?_ | refine And.intro ?_ ?_), ?_⟩
  refine Dh0 11 4095 rfl (by kernel_rfl) (keep_sift (bs := [T]) (by kernel_rfl)) (h_store hs11.sat hor rfl rfl rfl (by kernel_rfl) rfl rfl rfl fun w12 hs12 hn12 => ?_)
  have hb:=hs12.le _ _ hb
  have ht:=ht.mono' EncE.mono hs12.le
  have hb1:=hs12.le _ _ hb1
  have hox:=hox.step hs12 (fun h => by have h : _ = _ := h; omega)
  have hot:=hot.step hs12 (fun h => by have h : _ = _ := h; omega)
  have hi:=hi.mono' EncE.mono hs12.le
  have hm:=hm.mono hs12.le
  clear hor; have hor := hn12; clear hn12
  have hT:=hT.own hs12 (by omega)
  have hz12 := hs12.size
  refine ⟨trivial, ?_⟩
  refine Dd (by kernel_rfl) (κ _ _ ?_)
  refine cw_ret ?_
  rw [Ro.insert, if_pos hc1]
  exact ⟨_, (res_cell rfl (loadVar_n (n := 1) (by kernel_rfl) (by exact Blk.cells hor.1 rfl)) res_nil), _, _, rfl, hT, hm⟩
 ·
  skip
  refine cw_skip ?_
  refine hK5 _ _ ?_
  refine cw_dr (by kernel_rfl) fun _ κ => ?_
  have hs13 := Step.drew hs6.sat
  have hz13 := hs13.size
  have hb:=hs13.le _ _ hb
  have ht:=ht.mono' EncE.mono hs13.le
  have hb1:=hs13.le _ _ hb1
  have hox:=hox.then hs13
  have hor:=hor.then hs13
  have hot:=hot.then hs13
  have hT:=hT.then hs13
  refine Dm 0 1 rfl (by kernel_rfl) rfl ?_
  refine Dlc 1 3 2 rfl (by kernel_rfl) (by kernel_rfl) rfl (by exact Blk.cells hot.1 rfl) ?_
  refine Df 2 7 0 rfl (by kernel_rfl) (by kernel_rfl) rfl ?_
  refine Dl1 3 15 rfl (by kernel_rfl) (by kernel_rfl) rfl (by exact BlkR.cell (hs13.sat _ _ _ hb1) rfl) ?_
  refine Dq 4 31 rfl (by kernel_rfl) (fun _ => (q_nilp rfl)) ?_
  refine Df 5 63 0 rfl (by kernel_rfl) (by kernel_rfl) rfl ?_
  refine Dlc 6 127 1 rfl (by kernel_rfl) (by kernel_rfl) rfl (by exact BlkR.cells (hs13.sat _ _ _ hb) rfl) ?_
  refine Dm 7 255 rfl (by kernel_rfl) rfl ?_
  refine Dlc 8 511 2 rfl (by kernel_rfl) (by kernel_rfl) rfl (by exact Blk.cells hox.1 rfl) ?_
  refine Dh 9 1023 rfl (by kernel_rfl) (keep_sift (bs := [T,T,F,F]) (by kernel_rfl)) (h_call (by kernel_rfl) rfl ?_)
  refine (se_insert (x := x) hs13.sat ht (by omega)).mono ?_
  rintro _ w14 ⟨qi, Mi, rfl, hs14, hi⟩
  have hb:=hs14.le _ _ hb
  have hb1:=hs14.le _ _ hb1
  have hox:=hox.then hs14
  have hor:=hor.then hs14
  have hot:=hot.then hs14
  have hT:=hT.then hs14
  have hz14 := hs14.size
  refine ⟨(by repeat' first | exact trivial | exact BlkR.cell (hs14.sat _ _ _ hb) rfl | exact BlkR.cells (hs14.sat _ _ _ hb) rfl | exact BlkR.cell (hs14.sat _ _ _ hb1) rfl | exact BlkR.cells (hs14.sat _ _ _ hb1) rfl | exact Blk.cell hox.1 rfl | exact Blk.cells hox.1 rfl | exact Blk.cell hor.1 rfl | exact Blk.cells hor.1 rfl | exact Blk.cell hot.1 rfl | exact Blk.cells hot.1 rfl | assumption | refine all_keep ?_ | refine And.intro ?_ ?_), ?_⟩
  refine Dh 10 2047 rfl (by kernel_rfl) (keep_sift (bs := [F,T]) (by kernel_rfl)) (h_call (by kernel_rfl) rfl ?_)
  refine (r_made (x := r) (ts := sinsert ltE x ts) hs14.sat hi).mono ?_
  rintro _ w15 ⟨qm, Mm, rfl, hs15, hm⟩
  have hb:=hs15.le _ _ hb
  have hb1:=hs15.le _ _ hb1
  have hox:=hox.then hs15
  have hor:=hor.then hs15
  have hot:=hot.then hs15
  have hT:=hT.then hs15
  have hz15 := hs15.size
  refine ⟨(by repeat' first | exact trivial | exact BlkR.cell (hs15.sat _ _ _ hb) rfl | exact BlkR.cells (hs15.sat _ _ _ hb) rfl | exact BlkR.cell (hs15.sat _ _ _ hb1) rfl | exact BlkR.cells (hs15.sat _ _ _ hb1) rfl | exact Blk.cell hox.1 rfl | exact Blk.cells hox.1 rfl | exact Blk.cell hor.1 rfl | exact Blk.cells hor.1 rfl | exact Blk.cell hot.1 rfl | exact Blk.cells hot.1 rfl | assumption | refine all_keep ?_ | refine And.intro ?_ ?_), ?_⟩
  refine Dh0 11 4095 rfl (by kernel_rfl) (keep_sift (bs := [T]) (by kernel_rfl)) (h_store hs15.sat hor rfl rfl rfl (by kernel_rfl) rfl rfl rfl fun w16 hs16 hn16 => ?_)
  have hm:=hm.mono hs16.le
  clear hor; have hor := hn16; clear hn16
  have hT:=hT.own hs16 (by omega)
  have hz16 := hs16.size
  refine ⟨trivial, ?_⟩
  refine Dd (by kernel_rfl) (κ _ _ ?_)
  refine cw_ret ?_
  rw [Ro.insert, if_neg (by rw [hc1]; decide)]
  exact ⟨_, (res_cell rfl (loadVar_n (n := 1) (by kernel_rfl) (by exact Blk.cells hor.1 rfl)) res_nil), _, _, rfl, hT, hm⟩
theorem r_insert {w : World} {M : Mem} {x : El} {t : Ro} {q : Option Addr} (hs : Sat M w) (h : RoRep 283 197 220 M t q) (hz : t.size < 1000000000) : Does Tryz.prog 203 #[.agg #[.pointer q], .pointer none, .agg (elc x).toArray] w (fun v w' => ∃ q M', v = .agg #[.pointer q] ∧ Step Nope M w M' w' ∧ RoRep 283 197 220 M' (Ro.insert x t) q) := by
 cases t with
 | nil => cases h; exact r_insert_n hs
 | node r ts => exact r_insert_c hs h hz
end Go.Proofs.YtgcgjpfjjgalmaaGreat
/- Trees of heaps, part 1. -/
namespace Go.Proofs.YtgcgjpfjjgalmaaGreat
open Go Go.Eng
abbrev EncB : Enc Bt := encB 296 330 332
theorem EncB.mono : EncB.Mono := encB_mono
theorem b_key_n {w : World} {M : Mem} (hs : Sat M w) :
  Does Tryz.prog 217 #[.agg #[.pointer none]] w (fun v w' => v = .agg (elc Bt.nil.key).toArray ∧ Step Nope M w M w') := by
 have hT := Step.refl Nope hs
 refine fn_enter Tryz.func217 rfl (rs := [.cell 2 24]) rfl rfl rfl rfl ?_
 refine cw_rs fun _ κ => ?_
 refine as_h rfl (h_boxM hs rfl rfl fun b1 M1 w1 hs1 hb1 e1 => ?_)
 have hT:=hT.then hs1
 have hz1 := hs1.size
 have hqar := hT.size
 refine as_h rfl (h_allocO (z := (.agg #[(.int .i64 0), (.int .i64 0)])) hs1.sat (by kernel_rfl) rfl fun br w2 hs2 hor er => ?_)
 have hb1:=hs2.le _ _ hb1
 have hT:=hT.then hs2
 have hz2 := hs2.size
 have hlr := hor.1.lt
 refine as_nil (κ _ _ ?_)
 refine cw_seq fun _ hK2 => ?_
 refine cw_rs fun _ κ => ?_
 refine Sf 0 rfl (by kernel_rfl) rfl ?_
 refine S1 rfl (by kernel_rfl) rfl (by exact BlkR.cell (hs2.sat _ _ _ hb1) rfl) ?_
 refine as_q rfl rfl (q_eqnil (by kernel_rfl) rfl) ?_
 refine as_nil (κ _ _ ?_)
 refine cw_true rfl ?_
 refine cw_rs fun _ κ => ?_
 refine as_q rfl rfl (q_build (zs := [(.int .i64 0), (.int .i64 0)]) (places := [(0, 1), (1, 1)]) (cs := [_, _]) (by kernel_rfl) (by kernel_rfl) rfl rfl) ?_
 refine as_h0 (h_store hs2.sat hor rfl rfl rfl (by kernel_rfl) rfl rfl rfl fun w3 hs3 hn3 => ?_)
 clear hor; have hor := hn3; clear hn3
 have hT:=hT.own hs3 (by omega)
 have hz3 := hs3.size
 refine as_nil (κ _ _ ?_)
 refine cw_ret ?_
 exact ⟨_, (res_cell rfl (loadVar_n (n := 2) (by kernel_rfl) (by exact Blk.cells hor.1 rfl)) res_nil), rfl, hT.forget⟩
theorem b_key_c {w : World} {M : Mem} {x : El} {ts : List (RT Bt)} {q : Option Addr} (hs : Sat M w) (h : BRep 296 330 332 M (.node x ts) q) :
  Does Tryz.prog 217 #[.agg #[.pointer q]] w (fun v w' => v = .agg (elc (Bt.node x ts).key).toArray ∧ Step Nope M w M w') := by
 have hT := Step.refl Nope hs
 obtain ⟨b, qs, rfl, hb, _⟩ := brep_node.1 h
 refine fn_enter Tryz.func217 rfl (rs := [.cell 2 24]) rfl rfl rfl rfl ?_
 refine cw_rs fun _ κ => ?_
 refine as_h rfl (h_boxM hs rfl rfl fun b1 M1 w1 hs1 hb1 e1 => ?_)
 have hb:=hs1.le _ _ hb
 have hT:=hT.then hs1
 have hz1 := hs1.size
 have hqar := hT.size
 refine as_h rfl (h_allocO (z := (.agg #[(.int .i64 0), (.int .i64 0)])) hs1.sat (by kernel_rfl) rfl fun br w2 hs2 hor er => ?_)
 have hb:=hs2.le _ _ hb
 have hb1:=hs2.le _ _ hb1
 have hT:=hT.then hs2
 have hz2 := hs2.size
 have hlr := hor.1.lt
 refine as_nil (κ _ _ ?_)
 refine cw_seq fun _ hK2 => ?_
 refine cw_rs fun _ κ => ?_
 refine Sf 0 rfl (by kernel_rfl) rfl ?_
 refine S1 rfl (by kernel_rfl) rfl (by exact BlkR.cell (hs2.sat _ _ _ hb1) rfl) ?_
 refine as_q rfl rfl (q_eqnil (by kernel_rfl) rfl) ?_
 refine as_nil (κ _ _ ?_)
 refine cw_false rfl ?_
 refine cw_skip ?_
 refine hK2 _ _ ?_
 refine cw_rs fun _ κ => ?_
 refine Sf 0 rfl (by kernel_rfl) rfl ?_
 refine S1 rfl (by kernel_rfl) rfl (by exact BlkR.cell (hs2.sat _ _ _ hb1) rfl) ?_
 refine as_q rfl rfl (q_nilp rfl) ?_
 refine Sf 0 rfl (by kernel_rfl) rfl ?_
 refine Sc 2 rfl (by kernel_rfl) rfl (by exact BlkR.cells (hs2.sat _ _ _ hb) rfl) ?_
 refine as_h0 (h_store hs2.sat hor rfl rfl rfl (by kernel_rfl) rfl rfl rfl fun w3 hs3 hn3 => ?_)
 clear hor; have hor := hn3; clear hn3
 have hT:=hT.own hs3 (by omega)
 have hz3 := hs3.size
 refine as_nil (κ _ _ ?_)
 refine cw_ret ?_
 exact ⟨_, (res_cell rfl (loadVar_n (n := 2) (by kernel_rfl) (by exact Blk.cells hor.1 rfl)) res_nil), rfl, hT.forget⟩
theorem b_key {w : World} {M : Mem} {t : Bt} {q : Option Addr} (hs : Sat M w) (h : EncB M t [.pointer q]) : Does Tryz.prog 217 #[.agg #[.pointer q]] w (fun v w' => v = .agg (elc t.key).toArray ∧ Step Nope M w M w') := by
 obtain ⟨q', hq, h⟩ := encB_iff.1 h
 cases hq
 cases t with
 | nil => obtain rfl := brep_nil.1 h; exact b_key_n hs
 | node x ts => exact b_key_c hs h
theorem th_rank_n {w : World} {M : Mem} {x : Bt} {bs : List Bt} {ks : List (RT Bt)} {q : Option Addr} (hs : Sat M w) (h : TRep 332 1 EncB M (.node x bs ks) q) :
  Does Tryz.prog 233 #[.pointer q] w (fun v w' => v = .int .i64 (ks.length : Int) ∧ Step Nope M w M w') := by
 have hT := Step.refl Nope hs
 obtain ⟨b, xc, bv, bcs, kv, ka, rfl, hb, hx, hxl, hbs, hbl, hks, hkl⟩ := trep_node.1 h
 obtain ⟨qx, rfl, _⟩ := encB_iff.1 hx
 obtain ⟨ba, bk, rfl, _, _⟩ := hbs.slice
 obtain ⟨kp, kk, rfl, _, _⟩ := hks.slice
 refine fn_enter Tryz.func233 rfl (rs := [.tmp 2]) rfl rfl rfl rfl ?_
 refine cw_rs fun _ κ => ?_
 refine Sa rfl rfl ?_
 refine as_nil (κ _ _ ?_)
 refine cw_seq fun _ hK2 => ?_
 refine cw_rs fun _ κ => ?_
 refine Sm rfl rfl ?_
 refine as_q rfl rfl (q_eqnil (by kernel_rfl) rfl) ?_
 refine as_nil (κ _ _ ?_)
 refine cw_false rfl ?_
 refine cw_skip ?_
 refine hK2 _ _ ?_
 refine cw_rs fun _ κ => ?_
 refine Sm rfl rfl ?_
 refine as_q rfl rfl (q_nilp rfl) ?_
 refine Sf 0 rfl (by kernel_rfl) rfl ?_
 refine S1 rfl (by kernel_rfl) rfl (by exact BlkR.cell (hs _ _ _ hb) rfl) ?_
 refine Sa rfl rfl ?_
 refine as_nil (κ _ _ ?_)
 refine cw_ret ?_
 exact ⟨_, (res_tmp rfl res_nil), rfl, hT.forget⟩
theorem th_rank {w : World} {M : Mem} {t : RT Bt} {q : Option Addr} (hs : Sat M w) (h : TRep 332 1 EncB M t q) : Does Tryz.prog 233 #[.pointer q] w (fun v w' => v = .int .i64 (t.rank : Nat) ∧ Step Nope M w M w') := by
 cases t with
 | node x bs ks => exact th_rank_n hs h
theorem th_root_n {w : World} {M : Mem} {x : Bt} {bs : List Bt} {ks : List (RT Bt)} {q : Option Addr} (hs : Sat M w) (h : TRep 332 1 EncB M (.node x bs ks) q) :
  Does Tryz.prog 240 #[.pointer q] w (fun v w' => ∃ qx, v = .tuple #[.agg #[.pointer qx], .bool true] ∧ Step Nope M w M w' ∧ EncB M x [.pointer qx]) := by
 have hT := Step.refl Nope hs
 obtain ⟨b, xc, bv, bcs, kv, ka, rfl, hb, hx, hxl, hbs, hbl, hks, hkl⟩ := trep_node.1 h
 obtain ⟨qx, rfl, _⟩ := encB_iff.1 hx
 obtain ⟨ba, bk, rfl, _, _⟩ := hbs.slice
 obtain ⟨kp, kk, rfl, _, _⟩ := hks.slice
 refine fn_enter Tryz.func240 rfl (rs := [.cell 2 93, .tmp 3]) rfl rfl rfl rfl ?_
 refine cw_rs fun _ κ => ?_
 have hqar := hT.size
 refine as_h rfl (h_allocO (z := (.agg #[(.pointer none)])) hs (by kernel_rfl) rfl fun br w1 hs1 hor er => ?_)
 have hb:=hs1.le _ _ hb
 have hT:=hT.then hs1
 have hz1 := hs1.size
 have hlr := hor.1.lt
 refine Sa rfl rfl ?_
 refine as_nil (κ _ _ ?_)
 refine cw_seq fun _ hK2 => ?_
 refine cw_rs fun _ κ => ?_
 refine Sm rfl rfl ?_
 refine as_q rfl rfl (q_eqnil (by kernel_rfl) rfl) ?_
 refine as_nil (κ _ _ ?_)
 refine cw_false rfl ?_
 refine cw_skip ?_
 refine hK2 _ _ ?_
 refine cw_rs fun _ κ => ?_
 refine Sm rfl rfl ?_
 refine as_q rfl rfl (q_nilp rfl) ?_
 refine Sf 1 rfl (by kernel_rfl) rfl ?_
 refine Sc 1 rfl (by kernel_rfl) rfl (by exact BlkR.cells (hs1.sat _ _ _ hb) rfl) ?_
 refine as_h0 (h_store hs1.sat hor rfl rfl rfl (by kernel_rfl) rfl rfl rfl fun w2 hs2 hn2 => ?_)
 clear hor; have hor := hn2; clear hn2
 have hT:=hT.own hs2 (by omega)
 have hz2 := hs2.size
 refine Sa rfl rfl ?_
 refine as_nil (κ _ _ ?_)
 refine cw_ret ?_
 exact ⟨_, (res_cell rfl (loadVar_n (n := 1) (by kernel_rfl) (by exact Blk.cells hor.1 rfl)) (res_tmp rfl res_nil)), qx, rfl, hT.forget, hx⟩
theorem th_root {w : World} {M : Mem} {t : RT Bt} {q : Option Addr} (hs : Sat M w) (h : TRep 332 1 EncB M t q) : Does Tryz.prog 240 #[.pointer q] w (fun v w' => ∃ qx, v = .tuple #[.agg #[.pointer qx], .bool true] ∧ Step Nope M w M w' ∧ EncB M t.root [.pointer qx]) := by
 cases t with
 | node x bs ks => exact th_root_n hs h
theorem th_made {w : World} {M : Mem} {x : Bt} {qx : Option Addr} {bs : List Bt} {ks : List (RT Bt)} {ba kp : Option Addr} {bk kk : Nat} {bcs : List Value} {ka : List (Option Addr)} {s0 : Int} (hs : Sat M w) (hx : EncB M x [.pointer qx]) (hbs : RdM M 1 (.slice ba bs.length bk) bs.length bcs) (hbl : EncL EncB 1 M bs bcs) (hks : RdM M 1 (.slice kp ks.length kk) ks.length (ptrs ka)) (hkl : TReps 332 1 EncB M ks ka) (hz : 1 + bs.length + RT.sizes ks ≤ 1000000000) :
  Does Tryz.prog 252 #[.pointer none, .agg (.int .i64 (ks.length : Int) :: ([.pointer qx] ++ [.slice ba bs.length bk, .slice kp ks.length kk, .int .i64 s0])).toArray] w (fun v w' => ∃ q M', v = .pointer q ∧ Step Nope M w M' w' ∧ TRep 332 1 EncB M' (.node x bs ks) q) := by
 have hT := Step.refl Nope hs
 have hzk := fun i => RT.sizes_take_le ks i
 refine fn_enter Tryz.func252 rfl (rs := [.tmp 4]) rfl rfl rfl rfl ?_
 refine cw_rs fun _ κ => ?_
 have hqat := hT.size
 refine as_h rfl (h_boxO hs rfl rfl fun bt w1 hs1 hot et => ?_)
 have hT:=hT.then hs1
 have hz1 := hs1.size
 have hlt := hot.1.lt
 refine Sa rfl rfl ?_
 refine as_nil (κ _ _ ?_)
 refine cw_rs fun _ κ => ?_
 refine Sm rfl rfl ?_
 refine as_h rfl (h_call (by kernel_rfl) rfl ?_)
 refine (m_made hs1.sat).mono ?_
 rintro _ w2 hs2
 have hot:=hot.then hs2
 have hT:=hT.then hs2
 have hz2 := hs2.size
 refine as_nil (κ _ _ ?_)
 refine cw_rs fun _ κ => ?_
 refine Sf 2 rfl (by kernel_rfl) rfl ?_
 refine S1 rfl (by kernel_rfl) rfl (by exact Blk.cell hot.1 rfl) ?_
 refine as_q rfl rfl (q_len (by kernel_rfl) rfl _) ?_
 refine as_q rfl rfl (q_addx rfl rfl (by omega) (by omega)) ?_
 refine Sf 4 rfl (by kernel_rfl) rfl ?_
 refine as_h0 (h_store hs2.sat hot rfl rfl rfl (by kernel_rfl) rfl rfl rfl fun w3 hs3 hn3 => ?_)
 clear hot; have hot := hn3; clear hn3
 have hT:=hT.own hs3 (by omega)
 have hz3 := hs3.size
 refine as_nil (κ _ _ ?_)
 refine cw_seq fun _ hK4 => ?_
 refine cw_rs fun _ κ => ?_
 refine Sf 3 rfl (by kernel_rfl) rfl ?_
 refine S1 rfl (by kernel_rfl) rfl (by exact Blk.cell hot.1 rfl) ?_
 refine as_q rfl rfl (q_len (by kernel_rfl) rfl _) ?_
 refine Sm rfl rfl ?_
 refine as_nil (κ _ _ ?_)
 refine cw_block ?_
 refine cw_loop (fun mm l w1 => ∃ i : Nat, mm = ks.length - i ∧ i ≤ ks.length ∧ l = [(0, .pointer none), (3, .pointer (some ⟨bt, 0, none⟩)), (15, .slice kp ks.length kk), (16, .int .i64 (ks.length : Nat)), (17, .int .i64 i)] ∧ Step Nope M w M w1 ∧ Own w1 M bt (.int .i64 (ks.length : Int) :: ([.pointer qx] ++ [.slice ba bs.length bk, .slice kp ks.length kk, .int .i64 ((1 + bs.length + RT.sizes (ks.take i) : Nat) : Int)])) 332) (ks.length) [(0, .pointer none), (3, .pointer (some ⟨bt, 0, none⟩)), (15, .slice kp ks.length kk), (16, .int .i64 (ks.length : Nat)), (17, .int .i64 (0 : Nat))] (.cons rfl (.cons rfl (.cons rfl (.cons rfl (.cons rfl (.nil _)))))) ?_ ?_
 ·
  refine ⟨0, rfl, Nat.zero_le _, rfl, hT, ?_⟩
  exact hot
 have hbtw : w.heap.size ≤ bt := by omega
 clear hT hot
 rintro mm l w1 ⟨i, rfl, hi, rfl, hT, hot⟩
 refine cw_rs fun _ κ => ?_
 refine as_q rfl rfl (q_lt rfl rfl) ?_
 refine as_nil (κ _ _ ?_)
 refine cw_seq fun _ hK7 => ?_
 refine cw_cond rfl (fun hc0 => ?_) (fun hc0 => ?_)
 ·
  have hlt : i < ks.length := by have := of_decide_eq_true hc0; omega
  obtain ⟨k, hk⟩ : ∃ k, ks[i]? = some k := ⟨ks[i], by simp [hlt]⟩
  obtain ⟨kq, hkq, hkr⟩ := hkl.get hk
  obtain ⟨kb, ko, hkp⟩ := hks.there (by omega)
  subst hkp
  obtain ⟨c, rfl, hksz⟩ := trep_size hkr
  have hks1 := RT.sizes_take hk
  have hks2 := RT.sizes_take_le ks (i + 1)
  have hksl := RT.sizes_length ks
  refine cw_skip ?_
  refine hK7 _ _ ?_
  refine cw_seq fun _ hK8 => ?_
  refine cw_block ?_
  refine cw_rs fun _ κ => ?_
  refine as_q rfl rfl (q_indexAddr (e := 311) (size := 1) (by kernel_rfl) (by kernel_rfl) rfl rfl (by omega) (by omega)) ?_
  refine S1 rfl (by kernel_rfl) rfl (hks.cell hT.sat (u := .pointer (some ⟨c, 0, none⟩)) (by rw [show (i : Int).toNat * 1 = i from by omega]; simp [ptrs, hkq])) ?_
  refine Sa rfl rfl ?_
  refine as_nil (κ _ _ ?_)
  refine cw_drawn (by kernel_rfl) (by kernel_rfl) (by kernel_rfl) rfl rfl fun K10 hK10 => ?_
  have hs4 := Step.drew hT.sat
  have hz4 := hs4.size
  have hot:=hot.then hs4
  have hT:=hT.then hs4
  refine Df 0 1 4 rfl (by kernel_rfl) (by kernel_rfl) rfl ?_
  refine Dl1 1 3 rfl (by kernel_rfl) (by kernel_rfl) rfl (by exact Blk.cell hot.1 rfl) ?_
  refine Dm 2 7 rfl (by kernel_rfl) rfl ?_
  refine Dq 3 15 rfl (by kernel_rfl) (fun _ => (q_nilp rfl)) ?_
  refine Df 4 31 4 rfl (by kernel_rfl) (by kernel_rfl) rfl ?_
  refine Dl1 5 63 rfl (by kernel_rfl) (by kernel_rfl) rfl (cellM_cell hT.sat hksz) ?_
  refine Dq 6 127 rfl (by kernel_rfl) (fun _ => (q_addx rfl rfl (by omega) (by omega))) ?_
  refine Df 7 255 4 rfl (by kernel_rfl) (by kernel_rfl) rfl ?_
  refine Dh0 8 511 rfl (by kernel_rfl) (keep_sift (bs := [T,T]) (by kernel_rfl)) (h_store hs4.sat hot rfl rfl rfl (by kernel_rfl) rfl rfl rfl fun w5 hs5 hn5 => ?_)
  clear hot; have hot := hn5; clear hn5
  have hT:=hT.own hs5 (by omega)
  have hz5 := hs5.size
  refine ⟨trivial, ?_⟩
  refine Dd (by kernel_rfl) (hK10 _ _ ?_)
  refine hK8 _ _ ?_
  refine cw_region fun _ κ => ?_
  refine as_q rfl rfl (q_addx rfl rfl (by omega) (by omega)) ?_
  refine Sm rfl rfl ?_
  refine as_nil (κ _ _ ?_)
  refine ⟨_, _, ?_, (.cons rfl (.cons rfl (.cons rfl (.cons rfl (.cons rfl (.nil _)))))), i + 1, rfl, by omega, rfl, hT, ?_⟩
  · omega
  · rw [show ((1 + bs.length + RT.sizes (ks.take (i + 1)) : Nat) : Int) = ((1 + bs.length + RT.sizes (ks.take i) : Nat) : Int) + (k.size : Int) by omega]; exact hot
 ·
  have hge : i = ks.length := by have := of_decide_eq_false hc0; omega
  refine cw_exit ?_
  refine hK4 _ _ ?_
  refine cw_rs fun _ κ => ?_
  refine Sa rfl rfl ?_
  refine as_nil (κ _ _ ?_)
  refine cw_ret ?_
  subst hge
  rw [List.take_length] at hot
  obtain ⟨hbx, hTx⟩ := own_freeze hT hot hbtw
  exact ⟨_, (res_tmp rfl res_nil), _, _, rfl, hTx, trep_node.2 ⟨_, _, _, _, _, _, rfl, hbx, (EncB.mono _ _ _ _ hTx.le hx), rfl, hbs.mono hTx.le, hbl.mono EncB.mono hTx.le, hks.mono hTx.le, hkl.mono' EncB.mono hTx.le⟩⟩
theorem th_aheadk {w : World} {M : Mem} {a : Option Addr} {l : Value} {n : Nat} {ka : List (Option Addr)} (hs : Sat M w) (hl : RdM M 1 l n (ptrs ka)) (hz : n ≤ 1000000000) :
  Does Tryz.prog 259 #[.pointer a, l] w (fun v w' => ∃ sa sc M', v = .slice sa (n + 1) sc ∧ Step Nope M w M' w' ∧ RdM M' 1 (.slice sa (n + 1) sc) (n + 1) (ptrs (a :: ka))) := by
 have hT := Step.refl Nope hs
 obtain ⟨la, lc, rfl, _, _⟩ := hl.slice
 refine fn_enter Tryz.func259 rfl (rs := [.tmp 4]) rfl rfl rfl rfl ?_
 refine cw_rs fun _ κ => ?_
 refine Sa rfl rfl ?_
 refine as_nil (κ _ _ ?_)
 refine cw_rs fun _ κ => ?_
 refine Sm rfl rfl ?_
 refine as_h rfl (h_buildO (e := 311) (size := 1) (zs := [(.pointer none)]) (cs := [_]) (by kernel_rfl) (by kernel_rfl) (by kernel_rfl) rfl hs rfl rfl fun bB w1 hs1 hoB eB => ?_)
 have hl:=hl.mono hs1.le
 have hT:=hT.then hs1
 have hz1 := hs1.size
 refine Sm rfl rfl ?_
 have hbb := Own.buf hoB (n := 1) (size := 1) rfl (by decide)
 refine as_h rfl (h_append (e := 311) (size := 1) (bytes := 8) (by kernel_rfl) hs1.sat hbb (hl.rd hs1.sat) rfl rfl (ptrs_one _) (by omega) rfl fun sv w2 hs2 hbu hor => ?_)
 have hqb := hT.size
 have hz_ := hs2.size
 have hT:=hT.trans hs2 (fun k hk h => by have h2 : bB = k := Option.some.inj h; omega)
 obtain ⟨M2, hT2, hle, hrd, _⟩ := hT.freezeB hbu (fun g hg => by
  rcases hor with h | h
  · rw [h] at hg; have h2 : bB = g := Option.some.inj hg; omega
  · rw [h] at hg; have h2 := Option.some.inj hg; omega)
 obtain ⟨sa, sc, rfl, _, _⟩ := hrd.slice
 refine Sa rfl rfl ?_
 refine as_nil (κ _ _ ?_)
 refine cw_ret ?_
 rw [show 1 + n = n + 1 by omega] at hrd
 exact ⟨_, (res_tmp rfl res_nil), _, _, _, congrArg (fun k => Value.slice sa k sc) (Nat.add_comm 1 n), hT2, hrd⟩
theorem th_aheadx {w : World} {M : Mem} {qx : Option Addr} {l : Value} {n : Nat} {bcs : List Value} (hs : Sat M w) (hl : RdM M 1 l n bcs) (h1 : ∀ x ∈ bcs, x.oneCell' = true) (hz : n ≤ 1000000000) :
  Does Tryz.prog 253 #[.agg #[.pointer qx], l] w (fun v w' => ∃ sa sc M', v = .slice sa (n + 1) sc ∧ Step Nope M w M' w' ∧ RdM M' 1 (.slice sa (n + 1) sc) (n + 1) ([.pointer qx] ++ bcs)) := by
 have hT := Step.refl Nope hs
 obtain ⟨la, lc, rfl, _, _⟩ := hl.slice
 refine fn_enter Tryz.func253 rfl (rs := [.tmp 4]) rfl rfl rfl rfl ?_
 refine cw_rs fun _ κ => ?_
 refine as_h rfl (h_boxM hs rfl rfl fun b1 M1 w1 hs1 hb1 e1 => ?_)
 have hl:=hl.mono hs1.le
 have hT:=hT.then hs1
 have hz1 := hs1.size
 refine Sa rfl rfl ?_
 refine as_nil (κ _ _ ?_)
 refine cw_rs fun _ κ => ?_
 refine Sc 1 rfl (by kernel_rfl) rfl (by exact BlkR.cells (hs1.sat _ _ _ hb1) rfl) ?_
 refine as_h rfl (h_buildO (e := 93) (size := 1) (zs := [(.pointer none)]) (cs := [_]) (by kernel_rfl) (by kernel_rfl) (by kernel_rfl) rfl hs1.sat rfl rfl fun bB w2 hs2 hoB eB => ?_)
 have hl:=hl.mono hs2.le
 have hT:=hT.then hs2
 have hz2 := hs2.size
 refine Sm rfl rfl ?_
 have hbb := Own.buf hoB (n := 1) (size := 1) rfl (by decide)
 refine as_h rfl (h_append (e := 93) (size := 1) (bytes := 8) (by kernel_rfl) hs2.sat hbb (hl.rd hs2.sat) rfl rfl h1 (by omega) rfl fun sv w3 hs3 hbu hor => ?_)
 have hqb := hT.size
 have hz_ := hs3.size
 have hT:=hT.trans hs3 (fun k hk h => by have h2 : bB = k := Option.some.inj h; omega)
 obtain ⟨M2, hT2, hle, hrd, _⟩ := hT.freezeB hbu (fun g hg => by
  rcases hor with h | h
  · rw [h] at hg; have h2 : bB = g := Option.some.inj hg; omega
  · rw [h] at hg; have h2 := Option.some.inj hg; omega)
 obtain ⟨sa, sc, rfl, _, _⟩ := hrd.slice
 refine Sa rfl rfl ?_
 refine as_nil (κ _ _ ?_)
 refine cw_ret ?_
 rw [show 1 + n = n + 1 by omega] at hrd
 exact ⟨_, (res_tmp rfl res_nil), _, _, _, congrArg (fun k => Value.slice sa k sc) (Nat.add_comm 1 n), hT2, hrd⟩
theorem th_leaf {w : World} {M : Mem} {x : Bt} {qx : Option Addr} (hs : Sat M w) (hx : EncB M x [.pointer qx]) :
  Does Tryz.prog 237 #[.pointer none, .agg #[.pointer qx]] w (fun v w' => ∃ q M', v = .pointer q ∧ Step Nope M w M' w' ∧ TRep 332 1 EncB M' (RT.leaf x) q) := by
 have hT := Step.refl Nope hs
 refine fn_enter Tryz.func237 rfl (rs := [.tmp 4]) rfl rfl rfl rfl ?_
 refine cw_rs fun _ κ => ?_
 refine as_h rfl (h_boxM hs rfl rfl fun b1 M1 w1 hs1 hb1 e1 => ?_)
 have hx:=EncB.mono _ _ _ _ hs1.le hx
 have hT:=hT.then hs1
 have hz1 := hs1.size
 refine Sa rfl rfl ?_
 refine as_nil (κ _ _ ?_)
 refine cw_rs fun _ κ => ?_
 refine Sm rfl rfl ?_
 refine Sc 1 rfl (by kernel_rfl) rfl (by exact BlkR.cells (hs1.sat _ _ _ hb1) rfl) ?_
 refine as_q rfl rfl (q_build (zs := [(.int .i64 0), (.pointer none), (.slice none 0 0), (.slice none 0 0), (.int .i64 0)]) (places := [(0, 1), (1, 1), (2, 1), (3, 1), (4, 1)]) (cs := [_, _, _, _, _]) (by kernel_rfl) (by kernel_rfl) rfl rfl) ?_
 refine as_h rfl (h_call (by kernel_rfl) rfl ?_)
 refine (th_made (x := x) (qx := qx) (bs := []) (ks := []) (ba := none) (kp := none) (bk := 0) (kk := 0) (bcs := []) (ka := []) hs1.sat hx (rdm_nil _ _) rfl (rdm_nil _ _) (treps_nil.2 rfl) (by simp [RT.sizes])).mono ?_
 rintro _ w2 ⟨qn, Mn, rfl, hs2, hn⟩
 have hT:=hT.then hs2
 have hz2 := hs2.size
 refine Sa rfl rfl ?_
 refine as_nil (κ _ _ ?_)
 refine cw_ret ?_
 exact ⟨_, (res_tmp rfl res_nil), _, _, rfl, hT, hn⟩
theorem th_link_n {w : World} {M : Mem} {x y : Bt} {bs ls : List Bt} {ks ms : List (RT Bt)} {q q2 : Option Addr} (hs : Sat M w) (h : TRep 332 1 EncB M (.node x bs ks) q) (h2 : TRep 332 1 EncB M (.node y ls ms) q2) (hz : (RT.node x bs ks).size + (RT.node y ls ms).size ≤ 1000000000) :
  Does Tryz.prog 251 #[.pointer none, .pointer q, .pointer q2] w (fun v w' => ∃ q M', v = .pointer q ∧ Step Nope M w M' w' ∧ TRep 332 1 EncB M' (RT.link ltB (.node x bs ks) (.node y ls ms)) q) := by
 have hT := Step.refl Nope hs
 obtain ⟨b, xc, bv, bcs, kv, ka, rfl, hb, hx, hxl, hbs, hbl, hks, hkl⟩ := trep_node.1 h
 obtain ⟨qx, rfl, _⟩ := encB_iff.1 hx
 obtain ⟨ba, bk, rfl, _, _⟩ := hbs.slice
 obtain ⟨kp, kk, rfl, _, _⟩ := hks.slice
 obtain ⟨b2, xc2, bv2, bcs2, kv2, ka2, rfl, hb2, hx2, hxl2, hbs2, hbl2, hks2, hkl2⟩ := trep_node.1 h2
 obtain ⟨qx2, rfl, _⟩ := encB_iff.1 hx2
 obtain ⟨ba2, bk2, rfl, _, _⟩ := hbs2.slice
 obtain ⟨kp2, kk2, rfl, _, _⟩ := hks2.slice
 simp only [RT.size] at hz
 have hl1 := RT.sizes_length ks
 have hl2 := RT.sizes_length ms
 refine fn_enter Tryz.func251 rfl (rs := [.tmp 6]) rfl rfl rfl rfl ?_
 refine cw_rs fun _ κ => ?_
 refine Sa rfl rfl ?_
 refine as_nil (κ _ _ ?_)
 refine cw_seq fun _ hK2 => ?_
 refine cw_block ?_
 refine cw_rs fun _ κ => ?_
 refine Sm rfl rfl ?_
 refine as_q rfl rfl (q_eqnil (by kernel_rfl) rfl) ?_
 refine Sa rfl rfl ?_
 refine as_nil (κ _ _ ?_)
 refine cw_false rfl ?_
 refine cw_rs fun _ κ => ?_
 refine Sm rfl rfl ?_
 refine as_q rfl rfl (q_eqnil (by kernel_rfl) rfl) ?_
 refine Sa rfl rfl ?_
 refine as_nil (κ _ _ ?_)
 refine cw_false rfl ?_
 refine cw_skip ?_
 refine hK2 _ _ ?_
 refine cw_seq fun _ hK5 => ?_
 refine cw_dr (by kernel_rfl) fun _ κ => ?_
 have hs1 := Step.drew hs
 have hz1 := hs1.size
 have hb:=hs1.le _ _ hb
 have hbs:=hbs.mono hs1.le
 have hbl:=hbl.mono EncB.mono hs1.le
 have hks:=hks.mono hs1.le
 have hkl:=hkl.mono' EncB.mono hs1.le
 have hx:=EncB.mono _ _ _ _ hs1.le hx
 have hb2:=hs1.le _ _ hb2
 have hbs2:=hbs2.mono hs1.le
 have hbl2:=hbl2.mono EncB.mono hs1.le
 have hks2:=hks2.mono hs1.le
 have hkl2:=hkl2.mono' EncB.mono hs1.le
 have hx2:=EncB.mono _ _ _ _ hs1.le hx2
 have h:=h.mono' EncB.mono hs1.le
 have h2:=h2.mono' EncB.mono hs1.le
 have hT:=hT.then hs1
 refine Dm 0 1 rfl (by kernel_rfl) rfl ?_
 refine Dm 1 3 rfl (by kernel_rfl) rfl ?_
 refine Dq 2 7 rfl (by kernel_rfl) (fun _ => (q_nilp rfl)) ?_
 refine Df 3 15 1 rfl (by kernel_rfl) (by kernel_rfl) rfl ?_
 refine Dlc 4 31 1 rfl (by kernel_rfl) (by kernel_rfl) rfl (by exact BlkR.cells (hs1.sat _ _ _ hb2) rfl) ?_
 refine Dq 5 63 rfl (by kernel_rfl) (fun _ => (q_iface (by kernel_rfl) rfl)) ?_
 refine Dm 7 191 rfl (by kernel_rfl) rfl ?_
 refine Dq 8 447 rfl (by kernel_rfl) (fun _ => (q_nilp rfl)) ?_
 refine Df 9 959 1 rfl (by kernel_rfl) (by kernel_rfl) rfl ?_
 refine Dlc 10 1983 1 rfl (by kernel_rfl) (by kernel_rfl) rfl (by exact BlkR.cells (hs1.sat _ _ _ hb) rfl) ?_
 refine Dq 11 4031 rfl (by kernel_rfl) (fun _ => (q_iface (by kernel_rfl) rfl)) ?_
 refine Dh 6 4095 rfl (by kernel_rfl) (keep_sift (bs := [F,F]) (by kernel_rfl)) (h_invoke (f := 217) (r := .agg #[.pointer qx2]) (by kernel_rfl) rfl rfl (by kernel_rfl) ?_)
 refine (b_key (t := y) hs1.sat hx2).mono ?_
 rintro _ w2 ⟨rfl, hs2⟩
 have hb:=hs2.le _ _ hb
 have hbs:=hbs.mono hs2.le
 have hbl:=hbl.mono EncB.mono hs2.le
 have hks:=hks.mono hs2.le
 have hkl:=hkl.mono' EncB.mono hs2.le
 have hx:=EncB.mono _ _ _ _ hs2.le hx
 have hb2:=hs2.le _ _ hb2
 have hbs2:=hbs2.mono hs2.le
 have hbl2:=hbl2.mono EncB.mono hs2.le
 have hks2:=hks2.mono hs2.le
 have hkl2:=hkl2.mono' EncB.mono hs2.le
 have hx2:=EncB.mono _ _ _ _ hs2.le hx2
 have h:=h.mono' EncB.mono hs2.le
 have h2:=h2.mono' EncB.mono hs2.le
 have hT:=hT.then hs2
 have hz2 := hs2.size
 refine ⟨(by repeat' first | exact trivial | exact BlkR.cell (hs2.sat _ _ _ hb) rfl | exact BlkR.cells (hs2.sat _ _ _ hb) rfl | exact BlkR.cell (hs2.sat _ _ _ hb2) rfl | exact BlkR.cells (hs2.sat _ _ _ hb2) rfl | assumption | refine all_keep ?_ | refine And.intro ?_ ?_), ?_⟩
 refine Dh 12 8191 rfl (by kernel_rfl) (keep_sift (bs := [F,F]) (by kernel_rfl)) (h_invoke (f := 217) (r := .agg #[.pointer qx]) (by kernel_rfl) rfl rfl (by kernel_rfl) ?_)
 refine (b_key (t := x) hs2.sat hx).mono ?_
 rintro _ w3 ⟨rfl, hs3⟩
 have hb:=hs3.le _ _ hb
 have hbs:=hbs.mono hs3.le
 have hbl:=hbl.mono EncB.mono hs3.le
 have hks:=hks.mono hs3.le
 have hkl:=hkl.mono' EncB.mono hs3.le
 have hx:=EncB.mono _ _ _ _ hs3.le hx
 have hb2:=hs3.le _ _ hb2
 have hbs2:=hbs2.mono hs3.le
 have hbl2:=hbl2.mono EncB.mono hs3.le
 have hks2:=hks2.mono hs3.le
 have hkl2:=hkl2.mono' EncB.mono hs3.le
 have hx2:=EncB.mono _ _ _ _ hs3.le hx2
 have h:=h.mono' EncB.mono hs3.le
 have h2:=h2.mono' EncB.mono hs3.le
 have hT:=hT.then hs3
 have hz3 := hs3.size
 refine ⟨(by repeat' first | exact trivial | exact BlkR.cell (hs3.sat _ _ _ hb) rfl | exact BlkR.cells (hs3.sat _ _ _ hb) rfl | exact BlkR.cell (hs3.sat _ _ _ hb2) rfl | exact BlkR.cells (hs3.sat _ _ _ hb2) rfl | assumption | refine all_keep ?_ | refine And.intro ?_ ?_), ?_⟩
 refine Dh 13 16383 rfl (by kernel_rfl) (keep_sift (bs := [F,F]) (by kernel_rfl)) (h_call (by kernel_rfl) rfl ?_)
 refine (m_less (a := y.key) (b := x.key) hs3.sat).mono ?_
 rintro _ w4 ⟨rfl, hs4⟩
 have hb:=hs4.le _ _ hb
 have hbs:=hbs.mono hs4.le
 have hbl:=hbl.mono EncB.mono hs4.le
 have hks:=hks.mono hs4.le
 have hkl:=hkl.mono' EncB.mono hs4.le
 have hx:=EncB.mono _ _ _ _ hs4.le hx
 have hb2:=hs4.le _ _ hb2
 have hbs2:=hbs2.mono hs4.le
 have hbl2:=hbl2.mono EncB.mono hs4.le
 have hks2:=hks2.mono hs4.le
 have hkl2:=hkl2.mono' EncB.mono hs4.le
 have hx2:=EncB.mono _ _ _ _ hs4.le hx2
 have h:=h.mono' EncB.mono hs4.le
 have h2:=h2.mono' EncB.mono hs4.le
 have hT:=hT.then hs4
 have hz4 := hs4.size
 refine ⟨(by repeat' first | exact trivial | exact BlkR.cell (hs4.sat _ _ _ hb) rfl | exact BlkR.cells (hs4.sat _ _ _ hb) rfl | exact BlkR.cell (hs4.sat _ _ _ hb2) rfl | exact BlkR.cells (hs4.sat _ _ _ hb2) rfl | assumption | refine all_keep ?_ | refine And.intro ?_ ?_), ?_⟩
 refine Dd (by kernel_rfl) (κ _ _ ?_)
 refine cw_cond rfl (fun hc2 => ?_) (fun hc2 => ?_)
 ·
  skip
  refine cw_region fun _ κ => ?_
  refine Sm rfl rfl ?_
  refine Sm rfl rfl ?_
  refine Sa rfl rfl ?_
  refine Sa rfl rfl ?_
  refine as_nil (κ _ _ ?_)
  refine hK5 _ _ ?_
  refine cw_dr (by kernel_rfl) fun _ κ => ?_
  have hs5 := Step.drew hs4.sat
  have hz5 := hs5.size
  have hb:=hs5.le _ _ hb
  have hbs:=hbs.mono hs5.le
  have hbl:=hbl.mono EncB.mono hs5.le
  have hks:=hks.mono hs5.le
  have hkl:=hkl.mono' EncB.mono hs5.le
  have hx:=EncB.mono _ _ _ _ hs5.le hx
  have hb2:=hs5.le _ _ hb2
  have hbs2:=hbs2.mono hs5.le
  have hbl2:=hbl2.mono EncB.mono hs5.le
  have hks2:=hks2.mono hs5.le
  have hkl2:=hkl2.mono' EncB.mono hs5.le
  have hx2:=EncB.mono _ _ _ _ hs5.le hx2
  have h:=h.mono' EncB.mono hs5.le
  have h2:=h2.mono' EncB.mono hs5.le
  have hT:=hT.then hs5
  refine Dm 0 1 rfl (by kernel_rfl) rfl ?_
  refine Dm 1 3 rfl (by kernel_rfl) rfl ?_
  refine Dq 2 7 rfl (by kernel_rfl) (fun _ => (q_nilp rfl)) ?_
  refine Df 3 15 0 rfl (by kernel_rfl) (by kernel_rfl) rfl ?_
  refine Dl1 4 31 rfl (by kernel_rfl) (by kernel_rfl) rfl (by exact BlkR.cell (hs5.sat _ _ _ hb2) rfl) ?_
  refine Dq 5 63 rfl (by kernel_rfl) (fun _ => (q_addx rfl rfl (by omega) (by omega))) ?_
  refine Dm 6 127 rfl (by kernel_rfl) rfl ?_
  refine Dq 7 255 rfl (by kernel_rfl) (fun _ => (q_nilp rfl)) ?_
  refine Df 8 511 1 rfl (by kernel_rfl) (by kernel_rfl) rfl ?_
  refine Dlc 9 1023 1 rfl (by kernel_rfl) (by kernel_rfl) rfl (by exact BlkR.cells (hs5.sat _ _ _ hb2) rfl) ?_
  refine Dm 10 2047 rfl (by kernel_rfl) rfl ?_
  refine Dq 11 4095 rfl (by kernel_rfl) (fun _ => (q_nilp rfl)) ?_
  refine Df 12 8191 2 rfl (by kernel_rfl) (by kernel_rfl) rfl ?_
  refine Dl1 13 16383 rfl (by kernel_rfl) (by kernel_rfl) rfl (by exact BlkR.cell (hs5.sat _ _ _ hb2) rfl) ?_
  refine Dm 14 32767 rfl (by kernel_rfl) rfl ?_
  refine Dm 15 65535 rfl (by kernel_rfl) rfl ?_
  refine Dq 16 131071 rfl (by kernel_rfl) (fun _ => (q_nilp rfl)) ?_
  refine Df 17 262143 3 rfl (by kernel_rfl) (by kernel_rfl) rfl ?_
  refine Dl1 18 524287 rfl (by kernel_rfl) (by kernel_rfl) rfl (by exact BlkR.cell (hs5.sat _ _ _ hb2) rfl) ?_
  refine Dh 19 1048575 rfl (by kernel_rfl) (keep_sift (bs := [T,F,F,F]) (by kernel_rfl)) (h_call (by kernel_rfl) rfl ?_)
  refine (th_aheadk hs5.sat hks2 (by omega)).mono ?_
  rintro _ w6 ⟨sa, sc, Mn, rfl, hs6, hn⟩
  have hb:=hs6.le _ _ hb
  have hbs:=hbs.mono hs6.le
  have hbl:=hbl.mono EncB.mono hs6.le
  have hks:=hks.mono hs6.le
  have hkl:=hkl.mono' EncB.mono hs6.le
  have hx:=EncB.mono _ _ _ _ hs6.le hx
  have hb2:=hs6.le _ _ hb2
  have hbs2:=hbs2.mono hs6.le
  have hbl2:=hbl2.mono EncB.mono hs6.le
  have hkl2:=hkl2.mono' EncB.mono hs6.le
  have hx2:=EncB.mono _ _ _ _ hs6.le hx2
  have h:=h.mono' EncB.mono hs6.le
  have h2:=h2.mono' EncB.mono hs6.le
  have hT:=hT.then hs6
  have hz6 := hs6.size
  refine ⟨(by repeat' first | exact trivial | exact BlkR.cell (hs6.sat _ _ _ hb) rfl | exact BlkR.cells (hs6.sat _ _ _ hb) rfl | exact BlkR.cell (hs6.sat _ _ _ hb2) rfl | exact BlkR.cells (hs6.sat _ _ _ hb2) rfl | assumption | refine all_keep ?_ | refine And.intro ?_ ?_), ?_⟩
  refine Dq 20 2097151 rfl (by kernel_rfl) (fun _ => (q_build (zs := [(.int .i64 0), (.pointer none), (.slice none 0 0), (.slice none 0 0), (.int .i64 0)]) (places := [(0, 1), (1, 1), (2, 1), (3, 1), (4, 1)]) (cs := [_, _, _, _, _]) (by kernel_rfl) (by kernel_rfl) rfl rfl)) ?_
  refine Dh 21 4194303 rfl (by kernel_rfl) (keep_sift (bs := [F,F,F]) (by kernel_rfl)) (h_call (by kernel_rfl) rfl ?_)
  refine (th_made (x := y) (qx := qx2) (bs := ls) (ks := (.node x bs ks) :: ms) hs6.sat hx2 hbs2 hbl2 hn (treps_cons.2 ⟨_, _, rfl, h, hkl2⟩) (by simp only [RT.sizes, RT.size]; omega)).mono ?_
  rintro _ w7 ⟨qn, Mn2, rfl, hs7, hm⟩
  have hb:=hs7.le _ _ hb
  have hbs:=hbs.mono hs7.le
  have hbl:=hbl.mono EncB.mono hs7.le
  have hks:=hks.mono hs7.le
  have hkl:=hkl.mono' EncB.mono hs7.le
  have hx:=EncB.mono _ _ _ _ hs7.le hx
  have hb2:=hs7.le _ _ hb2
  have h:=h.mono' EncB.mono hs7.le
  have h2:=h2.mono' EncB.mono hs7.le
  have hn:=hn.mono hs7.le
  have hT:=hT.then hs7
  have hz7 := hs7.size
  refine ⟨(by repeat' first | exact trivial | exact BlkR.cell (hs7.sat _ _ _ hb) rfl | exact BlkR.cells (hs7.sat _ _ _ hb) rfl | exact BlkR.cell (hs7.sat _ _ _ hb2) rfl | exact BlkR.cells (hs7.sat _ _ _ hb2) rfl | assumption | refine all_keep ?_ | refine And.intro ?_ ?_), ?_⟩
  refine Da 22 8388607 rfl (by kernel_rfl) rfl ?_
  refine Dd (by kernel_rfl) (κ _ _ ?_)
  refine cw_ret ?_
  refine ⟨_, (res_tmp rfl res_nil), _, _, rfl, hT, ?_⟩
  rw [RT.link, if_pos (show ltB (RT.node y ls ms).root (RT.node x bs ks).root = true from hc2)]
  exact hm
 ·
  skip
  refine cw_skip ?_
  refine hK5 _ _ ?_
  refine cw_dr (by kernel_rfl) fun _ κ => ?_
  have hs8 := Step.drew hs4.sat
  have hz8 := hs8.size
  have hb:=hs8.le _ _ hb
  have hbs:=hbs.mono hs8.le
  have hbl:=hbl.mono EncB.mono hs8.le
  have hks:=hks.mono hs8.le
  have hkl:=hkl.mono' EncB.mono hs8.le
  have hx:=EncB.mono _ _ _ _ hs8.le hx
  have hb2:=hs8.le _ _ hb2
  have h:=h.mono' EncB.mono hs8.le
  have h2:=h2.mono' EncB.mono hs8.le
  have hT:=hT.then hs8
  refine Dm 0 1 rfl (by kernel_rfl) rfl ?_
  refine Dm 1 3 rfl (by kernel_rfl) rfl ?_
  refine Dq 2 7 rfl (by kernel_rfl) (fun _ => (q_nilp rfl)) ?_
  refine Df 3 15 0 rfl (by kernel_rfl) (by kernel_rfl) rfl ?_
  refine Dl1 4 31 rfl (by kernel_rfl) (by kernel_rfl) rfl (by exact BlkR.cell (hs8.sat _ _ _ hb) rfl) ?_
  refine Dq 5 63 rfl (by kernel_rfl) (fun _ => (q_addx rfl rfl (by omega) (by omega))) ?_
  refine Dm 6 127 rfl (by kernel_rfl) rfl ?_
  refine Dq 7 255 rfl (by kernel_rfl) (fun _ => (q_nilp rfl)) ?_
  refine Df 8 511 1 rfl (by kernel_rfl) (by kernel_rfl) rfl ?_
  refine Dlc 9 1023 1 rfl (by kernel_rfl) (by kernel_rfl) rfl (by exact BlkR.cells (hs8.sat _ _ _ hb) rfl) ?_
  refine Dm 10 2047 rfl (by kernel_rfl) rfl ?_
  refine Dq 11 4095 rfl (by kernel_rfl) (fun _ => (q_nilp rfl)) ?_
  refine Df 12 8191 2 rfl (by kernel_rfl) (by kernel_rfl) rfl ?_
  refine Dl1 13 16383 rfl (by kernel_rfl) (by kernel_rfl) rfl (by exact BlkR.cell (hs8.sat _ _ _ hb) rfl) ?_
  refine Dm 14 32767 rfl (by kernel_rfl) rfl ?_
  refine Dm 15 65535 rfl (by kernel_rfl) rfl ?_
  refine Dq 16 131071 rfl (by kernel_rfl) (fun _ => (q_nilp rfl)) ?_
  refine Df 17 262143 3 rfl (by kernel_rfl) (by kernel_rfl) rfl ?_
  refine Dl1 18 524287 rfl (by kernel_rfl) (by kernel_rfl) rfl (by exact BlkR.cell (hs8.sat _ _ _ hb) rfl) ?_
  refine Dh 19 1048575 rfl (by kernel_rfl) (keep_sift (bs := [T,F,F,F]) (by kernel_rfl)) (h_call (by kernel_rfl) rfl ?_)
  refine (th_aheadk hs8.sat hks (by omega)).mono ?_
  rintro _ w9 ⟨sa, sc, Mn, rfl, hs9, hn⟩
  have hb:=hs9.le _ _ hb
  have hbs:=hbs.mono hs9.le
  have hbl:=hbl.mono EncB.mono hs9.le
  have hkl:=hkl.mono' EncB.mono hs9.le
  have hx:=EncB.mono _ _ _ _ hs9.le hx
  have hb2:=hs9.le _ _ hb2
  have h:=h.mono' EncB.mono hs9.le
  have h2:=h2.mono' EncB.mono hs9.le
  have hT:=hT.then hs9
  have hz9 := hs9.size
  refine ⟨(by repeat' first | exact trivial | exact BlkR.cell (hs9.sat _ _ _ hb) rfl | exact BlkR.cells (hs9.sat _ _ _ hb) rfl | exact BlkR.cell (hs9.sat _ _ _ hb2) rfl | exact BlkR.cells (hs9.sat _ _ _ hb2) rfl | assumption | refine all_keep ?_ | refine And.intro ?_ ?_), ?_⟩
  refine Dq 20 2097151 rfl (by kernel_rfl) (fun _ => (q_build (zs := [(.int .i64 0), (.pointer none), (.slice none 0 0), (.slice none 0 0), (.int .i64 0)]) (places := [(0, 1), (1, 1), (2, 1), (3, 1), (4, 1)]) (cs := [_, _, _, _, _]) (by kernel_rfl) (by kernel_rfl) rfl rfl)) ?_
  refine Dh 21 4194303 rfl (by kernel_rfl) (keep_sift (bs := [F,F,F]) (by kernel_rfl)) (h_call (by kernel_rfl) rfl ?_)
  refine (th_made (x := x) (qx := qx) (bs := bs) (ks := (.node y ls ms) :: ks) hs9.sat hx hbs hbl hn (treps_cons.2 ⟨_, _, rfl, h2, hkl⟩) (by simp only [RT.sizes, RT.size]; omega)).mono ?_
  rintro _ w10 ⟨qn, Mn2, rfl, hs10, hm⟩
  have hb:=hs10.le _ _ hb
  have hb2:=hs10.le _ _ hb2
  have h:=h.mono' EncB.mono hs10.le
  have hT:=hT.then hs10
  have hz10 := hs10.size
  refine ⟨(by repeat' first | exact trivial | exact BlkR.cell (hs10.sat _ _ _ hb) rfl | exact BlkR.cells (hs10.sat _ _ _ hb) rfl | exact BlkR.cell (hs10.sat _ _ _ hb2) rfl | exact BlkR.cells (hs10.sat _ _ _ hb2) rfl | assumption | refine all_keep ?_ | refine And.intro ?_ ?_), ?_⟩
  refine Da 22 8388607 rfl (by kernel_rfl) rfl ?_
  refine Dd (by kernel_rfl) (κ _ _ ?_)
  refine cw_ret ?_
  refine ⟨_, (res_tmp rfl res_nil), _, _, rfl, hT, ?_⟩
  rw [RT.link, if_neg (show ¬ ltB (RT.node y ls ms).root (RT.node x bs ks).root = true by rw [show ltB (RT.node y ls ms).root (RT.node x bs ks).root = false from hc2]; decide)]
  exact hm
theorem th_link {w : World} {M : Mem} {a b : RT Bt} {q q2 : Option Addr} (hs : Sat M w) (h : TRep 332 1 EncB M a q) (h2 : TRep 332 1 EncB M b q2) (hz : a.size + b.size ≤ 1000000000) :
  Does Tryz.prog 251 #[.pointer none, .pointer q, .pointer q2] w (fun v w' => ∃ q M', v = .pointer q ∧ Step Nope M w M' w' ∧ TRep 332 1 EncB M' (RT.link ltB a b) q) := by
 cases a; cases b; exact th_link_n hs h h2 hz
theorem th_skew {w : World} {M : Mem} {x : Bt} {qx : Option Addr} {t u : RT Bt} {q q2 : Option Addr} (hs : Sat M w) (hx : EncB M x [.pointer qx]) (h : TRep 332 1 EncB M t q) (h2 : TRep 332 1 EncB M u q2) (hz : t.size + u.size < 1000000000) :
  Does Tryz.prog 236 #[.pointer none, .agg #[.pointer qx], .pointer q, .pointer q2] w (fun v w' => ∃ q M', v = .pointer q ∧ Step Nope M w M' w' ∧ TRep 332 1 EncB M' (RT.skew ltB x t u) q) := by
 have hT := Step.refl Nope hs
 obtain ⟨qa, rfl⟩ := h.some
 obtain ⟨qb, rfl⟩ := h2.some
 refine fn_enter Tryz.func236 rfl (rs := [.tmp 8]) rfl rfl rfl rfl ?_
 refine cw_rs fun _ κ => ?_
 have hqax := hT.size
 refine as_h rfl (h_boxO hs rfl rfl fun bx w1 hs1 hox ex => ?_)
 have h:=h.mono' EncB.mono hs1.le
 have h2:=h2.mono' EncB.mono hs1.le
 have hx:=EncB.mono _ _ _ _ hs1.le hx
 have hT:=hT.then hs1
 have hz1 := hs1.size
 have hlx := hox.1.lt
 refine Sa rfl rfl ?_
 refine as_nil (κ _ _ ?_)
 refine cw_rs fun _ κ => ?_
 refine Sm rfl rfl ?_
 refine Sm rfl rfl ?_
 refine Sm rfl rfl ?_
 refine as_h rfl (h_call (by kernel_rfl) rfl ?_)
 refine (th_link hs1.sat h h2 (by omega)).mono ?_
 rintro _ w2 ⟨qn, Mn, rfl, hs2, hn⟩
 have h:=h.mono' EncB.mono hs2.le
 have h2:=h2.mono' EncB.mono hs2.le
 have hx:=EncB.mono _ _ _ _ hs2.le hx
 have hox:=hox.then hs2
 have hT:=hT.then hs2
 have hz2 := hs2.size
 have hls := RT.link_size ltB t u
 obtain ⟨v, hv⟩ : ∃ v, RT.link ltB t u = v := ⟨_, rfl⟩
 rw [hv] at hn hls
 obtain ⟨y, cs, ls⟩ := v
 obtain ⟨b3, xc3, bv3, bcs3, kv3, ka3, rfl, hb3, hx3, hxl3, hbs3, hbl3, hks3, hkl3⟩ := trep_node.1 hn
 obtain ⟨qx3, rfl, _⟩ := encB_iff.1 hx3
 obtain ⟨ba3, bk3, rfl, _, _⟩ := hbs3.slice
 obtain ⟨kp3, kk3, rfl, _, _⟩ := hks3.slice
 simp only [RT.size] at hls
 have hl3 := RT.sizes_length ls
 clear h h2
 refine Sa rfl rfl ?_
 refine as_nil (κ _ _ ?_)
 refine cw_seq fun _ hK3 => ?_
 refine cw_rs fun _ κ => ?_
 refine Sm rfl rfl ?_
 refine as_q rfl rfl (q_eqnil (by kernel_rfl) rfl) ?_
 refine as_nil (κ _ _ ?_)
 refine cw_false rfl ?_
 refine cw_skip ?_
 refine hK3 _ _ ?_
 refine cw_rs fun _ κ => ?_
 refine Sm rfl rfl ?_
 refine as_q rfl rfl (q_nilp rfl) ?_
 refine Sf 1 rfl (by kernel_rfl) rfl ?_
 refine Sc 1 rfl (by kernel_rfl) rfl (by exact BlkR.cells (hs2.sat _ _ _ hb3) rfl) ?_
 have hqar := hT.size
 refine as_h rfl (h_allocO (z := (.agg #[(.pointer none)])) hs2.sat (by kernel_rfl) rfl fun br w3 hs3 hor er => ?_)
 have hx:=EncB.mono _ _ _ _ hs3.le hx
 have hox:=hox.then hs3
 have hb3:=hs3.le _ _ hb3
 have hbs3:=hbs3.mono hs3.le
 have hbl3:=hbl3.mono EncB.mono hs3.le
 have hks3:=hks3.mono hs3.le
 have hkl3:=hkl3.mono' EncB.mono hs3.le
 have hx3:=EncB.mono _ _ _ _ hs3.le hx3
 have hT:=hT.then hs3
 have hz3 := hs3.size
 have hlr := hor.1.lt
 refine as_h0 (h_store hs3.sat hor rfl rfl rfl (by kernel_rfl) rfl rfl rfl fun w4 hs4 hn4 => ?_)
 have hx:=EncB.mono _ _ _ _ hs4.le hx
 have hox:=hox.step hs4 (fun h => by have h : _ = _ := h; omega)
 have hb3:=hs4.le _ _ hb3
 have hbs3:=hbs3.mono hs4.le
 have hbl3:=hbl3.mono EncB.mono hs4.le
 have hks3:=hks3.mono hs4.le
 have hkl3:=hkl3.mono' EncB.mono hs4.le
 have hx3:=EncB.mono _ _ _ _ hs4.le hx3
 clear hor; have hor := hn4; clear hn4
 have hT:=hT.own hs4 (by omega)
 have hz4 := hs4.size
 refine as_nil (κ _ _ ?_)
 refine cw_seq fun _ hK6 => ?_
 refine cw_dr (by kernel_rfl) fun _ κ => ?_
 have hs5 := Step.drew hs4.sat
 have hz5 := hs5.size
 have hx:=EncB.mono _ _ _ _ hs5.le hx
 have hox:=hox.then hs5
 have hb3:=hs5.le _ _ hb3
 have hbs3:=hbs3.mono hs5.le
 have hbl3:=hbl3.mono EncB.mono hs5.le
 have hks3:=hks3.mono hs5.le
 have hkl3:=hkl3.mono' EncB.mono hs5.le
 have hx3:=EncB.mono _ _ _ _ hs5.le hx3
 have hor:=hor.then hs5
 have hT:=hT.then hs5
 refine Dm 0 1 rfl (by kernel_rfl) rfl ?_
 refine Dm 1 3 rfl (by kernel_rfl) rfl ?_
 refine Dq 2 7 rfl (by kernel_rfl) (fun _ => (q_nilp rfl)) ?_
 refine Df 3 15 1 rfl (by kernel_rfl) (by kernel_rfl) rfl ?_
 refine Dlc 4 31 1 rfl (by kernel_rfl) (by kernel_rfl) rfl (by exact BlkR.cells (hs5.sat _ _ _ hb3) rfl) ?_
 refine Dq 5 63 rfl (by kernel_rfl) (fun _ => (q_iface (by kernel_rfl) rfl)) ?_
 refine Dlc 7 191 1 rfl (by kernel_rfl) (by kernel_rfl) rfl (by exact Blk.cells hox.1 rfl) ?_
 refine Dq 8 447 rfl (by kernel_rfl) (fun _ => (q_iface (by kernel_rfl) rfl)) ?_
 refine Dh 6 511 rfl (by kernel_rfl) (keep_sift (bs := [F,F]) (by kernel_rfl)) (h_invoke (f := 217) (r := .agg #[.pointer qx3]) (by kernel_rfl) rfl rfl (by kernel_rfl) ?_)
 refine (b_key (t := y) hs5.sat hx3).mono ?_
 rintro _ w6 ⟨rfl, hs6⟩
 have hx:=EncB.mono _ _ _ _ hs6.le hx
 have hox:=hox.then hs6
 have hb3:=hs6.le _ _ hb3
 have hbs3:=hbs3.mono hs6.le
 have hbl3:=hbl3.mono EncB.mono hs6.le
 have hks3:=hks3.mono hs6.le
 have hkl3:=hkl3.mono' EncB.mono hs6.le
 have hx3:=EncB.mono _ _ _ _ hs6.le hx3
 have hor:=hor.then hs6
 have hT:=hT.then hs6
 have hz6 := hs6.size
 refine ⟨(by repeat' first | exact trivial | exact Blk.cell hox.1 rfl | exact Blk.cells hox.1 rfl | exact BlkR.cell (hs6.sat _ _ _ hb3) rfl | exact BlkR.cells (hs6.sat _ _ _ hb3) rfl | exact Blk.cell hor.1 rfl | exact Blk.cells hor.1 rfl | assumption | refine all_keep ?_ | refine And.intro ?_ ?_), ?_⟩
 refine Dh 9 1023 rfl (by kernel_rfl) (keep_sift (bs := [F,F]) (by kernel_rfl)) (h_invoke (f := 217) (r := .agg #[.pointer qx]) (by kernel_rfl) rfl rfl (by kernel_rfl) ?_)
 refine (b_key (t := x) hs6.sat hx).mono ?_
 rintro _ w7 ⟨rfl, hs7⟩
 have hx:=EncB.mono _ _ _ _ hs7.le hx
 have hox:=hox.then hs7
 have hb3:=hs7.le _ _ hb3
 have hbs3:=hbs3.mono hs7.le
 have hbl3:=hbl3.mono EncB.mono hs7.le
 have hks3:=hks3.mono hs7.le
 have hkl3:=hkl3.mono' EncB.mono hs7.le
 have hx3:=EncB.mono _ _ _ _ hs7.le hx3
 have hor:=hor.then hs7
 have hT:=hT.then hs7
 have hz7 := hs7.size
 refine ⟨(by repeat' first | exact trivial | exact Blk.cell hox.1 rfl | exact Blk.cells hox.1 rfl | exact BlkR.cell (hs7.sat _ _ _ hb3) rfl | exact BlkR.cells (hs7.sat _ _ _ hb3) rfl | exact Blk.cell hor.1 rfl | exact Blk.cells hor.1 rfl | assumption | refine all_keep ?_ | refine And.intro ?_ ?_), ?_⟩
 refine Dh 10 2047 rfl (by kernel_rfl) (keep_sift (bs := [F,F]) (by kernel_rfl)) (h_call (by kernel_rfl) rfl ?_)
 refine (m_less (a := y.key) (b := x.key) hs7.sat).mono ?_
 rintro _ w8 ⟨rfl, hs8⟩
 have hx:=EncB.mono _ _ _ _ hs8.le hx
 have hox:=hox.then hs8
 have hb3:=hs8.le _ _ hb3
 have hbs3:=hbs3.mono hs8.le
 have hbl3:=hbl3.mono EncB.mono hs8.le
 have hks3:=hks3.mono hs8.le
 have hkl3:=hkl3.mono' EncB.mono hs8.le
 have hx3:=EncB.mono _ _ _ _ hs8.le hx3
 have hor:=hor.then hs8
 have hT:=hT.then hs8
 have hz8 := hs8.size
 refine ⟨(by repeat' first | exact trivial | exact Blk.cell hox.1 rfl | exact Blk.cells hox.1 rfl | exact BlkR.cell (hs8.sat _ _ _ hb3) rfl | exact BlkR.cells (hs8.sat _ _ _ hb3) rfl | exact Blk.cell hor.1 rfl | exact Blk.cells hor.1 rfl | assumption | refine all_keep ?_ | refine And.intro ?_ ?_), ?_⟩
 refine Dq 11 4095 rfl (by kernel_rfl) (fun _ => (q_not rfl)) ?_
 refine Dd (by kernel_rfl) (κ _ _ ?_)
 refine cw_cond rfl (fun hc1 => ?_) (fun hc1 => ?_)
 ·
  skip
  refine cw_region fun _ κ => ?_
  refine Sc 1 rfl (by kernel_rfl) rfl (by exact Blk.cells hox.1 rfl) ?_
  refine Sc 1 rfl (by kernel_rfl) rfl (by exact Blk.cells hor.1 rfl) ?_
  refine as_h0 (h_store hs8.sat hor rfl rfl rfl (by kernel_rfl) rfl rfl rfl fun w9 hs9 hn9 => ?_)
  have hx:=EncB.mono _ _ _ _ hs9.le hx
  have hox:=hox.step hs9 (fun h => by have h : _ = _ := h; omega)
  have hb3:=hs9.le _ _ hb3
  have hbs3:=hbs3.mono hs9.le
  have hbl3:=hbl3.mono EncB.mono hs9.le
  have hks3:=hks3.mono hs9.le
  have hkl3:=hkl3.mono' EncB.mono hs9.le
  have hx3:=EncB.mono _ _ _ _ hs9.le hx3
  clear hor; have hor := hn9; clear hn9
  have hT:=hT.own hs9 (by omega)
  have hz9 := hs9.size
  refine as_h0 (h_store hs9.sat hox rfl rfl rfl (by kernel_rfl) rfl rfl rfl fun w10 hs10 hn10 => ?_)
  have hx:=EncB.mono _ _ _ _ hs10.le hx
  have hb3:=hs10.le _ _ hb3
  have hbs3:=hbs3.mono hs10.le
  have hbl3:=hbl3.mono EncB.mono hs10.le
  have hks3:=hks3.mono hs10.le
  have hkl3:=hkl3.mono' EncB.mono hs10.le
  have hx3:=EncB.mono _ _ _ _ hs10.le hx3
  have hor:=hor.step hs10 (fun h => by have h : _ = _ := h; omega)
  clear hox; have hox := hn10; clear hn10
  have hT:=hT.own hs10 (by omega)
  have hz10 := hs10.size
  refine as_nil (κ _ _ ?_)
  refine hK6 _ _ ?_
  refine cw_dr (by kernel_rfl) fun _ κ => ?_
  have hs11 := Step.drew hs10.sat
  have hz11 := hs11.size
  have hx:=EncB.mono _ _ _ _ hs11.le hx
  have hox:=hox.then hs11
  have hb3:=hs11.le _ _ hb3
  have hbs3:=hbs3.mono hs11.le
  have hbl3:=hbl3.mono EncB.mono hs11.le
  have hks3:=hks3.mono hs11.le
  have hkl3:=hkl3.mono' EncB.mono hs11.le
  have hx3:=EncB.mono _ _ _ _ hs11.le hx3
  have hor:=hor.then hs11
  have hT:=hT.then hs11
  refine Dm 0 1 rfl (by kernel_rfl) rfl ?_
  refine Dm 1 3 rfl (by kernel_rfl) rfl ?_
  refine Dq 2 7 rfl (by kernel_rfl) (fun _ => (q_nilp rfl)) ?_
  refine Df 3 15 0 rfl (by kernel_rfl) (by kernel_rfl) rfl ?_
  refine Dl1 4 31 rfl (by kernel_rfl) (by kernel_rfl) rfl (by exact BlkR.cell (hs11.sat _ _ _ hb3) rfl) ?_
  refine Dlc 5 63 1 rfl (by kernel_rfl) (by kernel_rfl) rfl (by exact Blk.cells hor.1 rfl) ?_
  refine Dlc 6 127 1 rfl (by kernel_rfl) (by kernel_rfl) rfl (by exact Blk.cells hox.1 rfl) ?_
  refine Dm 7 255 rfl (by kernel_rfl) rfl ?_
  refine Dq 8 511 rfl (by kernel_rfl) (fun _ => (q_nilp rfl)) ?_
  refine Df 9 1023 2 rfl (by kernel_rfl) (by kernel_rfl) rfl ?_
  refine Dl1 10 2047 rfl (by kernel_rfl) (by kernel_rfl) rfl (by exact BlkR.cell (hs11.sat _ _ _ hb3) rfl) ?_
  refine Dm 12 6143 rfl (by kernel_rfl) rfl ?_
  refine Dq 13 14335 rfl (by kernel_rfl) (fun _ => (q_nilp rfl)) ?_
  refine Df 14 30719 3 rfl (by kernel_rfl) (by kernel_rfl) rfl ?_
  refine Dl1 15 63487 rfl (by kernel_rfl) (by kernel_rfl) rfl (by exact BlkR.cell (hs11.sat _ _ _ hb3) rfl) ?_
  refine Dh 11 65535 rfl (by kernel_rfl) (keep_sift (bs := [F,T,T,F,F]) (by kernel_rfl)) (h_call (by kernel_rfl) rfl ?_)
  refine (th_aheadx (qx := qx3) hs11.sat hbs3 (encB_one hbl3) (by omega)).mono ?_
  rintro _ w12 ⟨sa, sc, Mn3, rfl, hs12, hn⟩
  have hx:=EncB.mono _ _ _ _ hs12.le hx
  have hox:=hox.then hs12
  have hb3:=hs12.le _ _ hb3
  have hbs3:=hbs3.mono hs12.le
  have hbl3:=hbl3.mono EncB.mono hs12.le
  have hks3:=hks3.mono hs12.le
  have hkl3:=hkl3.mono' EncB.mono hs12.le
  have hx3:=EncB.mono _ _ _ _ hs12.le hx3
  have hor:=hor.then hs12
  have hT:=hT.then hs12
  have hz12 := hs12.size
  refine ⟨(by repeat' first | exact trivial | exact Blk.cell hox.1 rfl | exact Blk.cells hox.1 rfl | exact BlkR.cell (hs12.sat _ _ _ hb3) rfl | exact BlkR.cells (hs12.sat _ _ _ hb3) rfl | exact Blk.cell hor.1 rfl | exact Blk.cells hor.1 rfl | assumption | refine all_keep ?_ | refine And.intro ?_ ?_), ?_⟩
  refine Dq 16 131071 rfl (by kernel_rfl) (fun _ => (q_build (zs := [(.int .i64 0), (.pointer none), (.slice none 0 0), (.slice none 0 0), (.int .i64 0)]) (places := [(0, 1), (1, 1), (2, 1), (3, 1), (4, 1)]) (cs := [_, _, _, _, _]) (by kernel_rfl) (by kernel_rfl) rfl rfl)) ?_
  refine Dh 17 262143 rfl (by kernel_rfl) (keep_sift (bs := [F,F,F]) (by kernel_rfl)) (h_call (by kernel_rfl) rfl ?_)
  refine (th_made (x := x) (qx := qx) (bs := y :: cs) (ks := ls) hs12.sat hx hn ⟨_, _, rfl, rfl, hx3, hbl3⟩ hks3 hkl3 (by simp only [List.length_cons]; omega)).mono ?_
  rintro _ w13 ⟨qn2, Mn4, rfl, hs13, hm⟩
  have hx:=EncB.mono _ _ _ _ hs13.le hx
  have hox:=hox.then hs13
  have hb3:=hs13.le _ _ hb3
  have hbs3:=hbs3.mono hs13.le
  have hbl3:=hbl3.mono EncB.mono hs13.le
  have hks3:=hks3.mono hs13.le
  have hkl3:=hkl3.mono' EncB.mono hs13.le
  have hx3:=EncB.mono _ _ _ _ hs13.le hx3
  have hor:=hor.then hs13
  have hn:=hn.mono hs13.le
  have hT:=hT.then hs13
  have hz13 := hs13.size
  refine ⟨(by repeat' first | exact trivial | exact Blk.cell hox.1 rfl | exact Blk.cells hox.1 rfl | exact BlkR.cell (hs13.sat _ _ _ hb3) rfl | exact BlkR.cells (hs13.sat _ _ _ hb3) rfl | exact Blk.cell hor.1 rfl | exact Blk.cells hor.1 rfl | assumption | refine all_keep ?_ | refine And.intro ?_ ?_), ?_⟩
  refine Da 18 524287 rfl (by kernel_rfl) rfl ?_
  refine Dd (by kernel_rfl) (κ _ _ ?_)
  refine cw_ret ?_
  refine ⟨_, (res_tmp rfl res_nil), _, _, rfl, hT, ?_⟩
  unfold RT.skew
  rw [hv, if_neg (show ¬ (ltB (RT.node y cs ls).root x = true) from fun h6 => by have h5 : (ltB y x) = false := (by simpa [ltB] using hc1); have h6 : (ltB y x) = true := h6; rw [h5] at h6; cases h6)]
  exact hm
 ·
  skip
  refine cw_skip ?_
  refine hK6 _ _ ?_
  refine cw_dr (by kernel_rfl) fun _ κ => ?_
  have hs14 := Step.drew hs8.sat
  have hz14 := hs14.size
  have hx:=EncB.mono _ _ _ _ hs14.le hx
  have hox:=hox.then hs14
  have hb3:=hs14.le _ _ hb3
  have hbs3:=hbs3.mono hs14.le
  have hbl3:=hbl3.mono EncB.mono hs14.le
  have hks3:=hks3.mono hs14.le
  have hkl3:=hkl3.mono' EncB.mono hs14.le
  have hx3:=EncB.mono _ _ _ _ hs14.le hx3
  have hor:=hor.then hs14
  have hT:=hT.then hs14
  refine Dm 0 1 rfl (by kernel_rfl) rfl ?_
  refine Dm 1 3 rfl (by kernel_rfl) rfl ?_
  refine Dq 2 7 rfl (by kernel_rfl) (fun _ => (q_nilp rfl)) ?_
  refine Df 3 15 0 rfl (by kernel_rfl) (by kernel_rfl) rfl ?_
  refine Dl1 4 31 rfl (by kernel_rfl) (by kernel_rfl) rfl (by exact BlkR.cell (hs14.sat _ _ _ hb3) rfl) ?_
  refine Dlc 5 63 1 rfl (by kernel_rfl) (by kernel_rfl) rfl (by exact Blk.cells hor.1 rfl) ?_
  refine Dlc 6 127 1 rfl (by kernel_rfl) (by kernel_rfl) rfl (by exact Blk.cells hox.1 rfl) ?_
  refine Dm 7 255 rfl (by kernel_rfl) rfl ?_
  refine Dq 8 511 rfl (by kernel_rfl) (fun _ => (q_nilp rfl)) ?_
  refine Df 9 1023 2 rfl (by kernel_rfl) (by kernel_rfl) rfl ?_
  refine Dl1 10 2047 rfl (by kernel_rfl) (by kernel_rfl) rfl (by exact BlkR.cell (hs14.sat _ _ _ hb3) rfl) ?_
  refine Dm 12 6143 rfl (by kernel_rfl) rfl ?_
  refine Dq 13 14335 rfl (by kernel_rfl) (fun _ => (q_nilp rfl)) ?_
  refine Df 14 30719 3 rfl (by kernel_rfl) (by kernel_rfl) rfl ?_
  refine Dl1 15 63487 rfl (by kernel_rfl) (by kernel_rfl) rfl (by exact BlkR.cell (hs14.sat _ _ _ hb3) rfl) ?_
  refine Dh 11 65535 rfl (by kernel_rfl) (keep_sift (bs := [F,T,T,F,F]) (by kernel_rfl)) (h_call (by kernel_rfl) rfl ?_)
  refine (th_aheadx (qx := qx) hs14.sat hbs3 (encB_one hbl3) (by omega)).mono ?_
  rintro _ w15 ⟨sa, sc, Mn3, rfl, hs15, hn⟩
  have hx:=EncB.mono _ _ _ _ hs15.le hx
  have hox:=hox.then hs15
  have hb3:=hs15.le _ _ hb3
  have hbl3:=hbl3.mono EncB.mono hs15.le
  have hks3:=hks3.mono hs15.le
  have hkl3:=hkl3.mono' EncB.mono hs15.le
  have hx3:=EncB.mono _ _ _ _ hs15.le hx3
  have hor:=hor.then hs15
  have hT:=hT.then hs15
  have hz15 := hs15.size
  refine ⟨(by repeat' first | exact trivial | exact Blk.cell hox.1 rfl | exact Blk.cells hox.1 rfl | exact BlkR.cell (hs15.sat _ _ _ hb3) rfl | exact BlkR.cells (hs15.sat _ _ _ hb3) rfl | exact Blk.cell hor.1 rfl | exact Blk.cells hor.1 rfl | assumption | refine all_keep ?_ | refine And.intro ?_ ?_), ?_⟩
  refine Dq 16 131071 rfl (by kernel_rfl) (fun _ => (q_build (zs := [(.int .i64 0), (.pointer none), (.slice none 0 0), (.slice none 0 0), (.int .i64 0)]) (places := [(0, 1), (1, 1), (2, 1), (3, 1), (4, 1)]) (cs := [_, _, _, _, _]) (by kernel_rfl) (by kernel_rfl) rfl rfl)) ?_
  refine Dh 17 262143 rfl (by kernel_rfl) (keep_sift (bs := [F,F,F]) (by kernel_rfl)) (h_call (by kernel_rfl) rfl ?_)
  refine (th_made (x := y) (qx := qx3) (bs := x :: cs) (ks := ls) hs15.sat hx3 hn ⟨_, _, rfl, rfl, hx, hbl3⟩ hks3 hkl3 (by simp only [List.length_cons]; omega)).mono ?_
  rintro _ w16 ⟨qn2, Mn4, rfl, hs16, hm⟩
  have hox:=hox.then hs16
  have hb3:=hs16.le _ _ hb3
  have hor:=hor.then hs16
  have hT:=hT.then hs16
  have hz16 := hs16.size
  refine ⟨(by repeat' first | exact trivial | exact Blk.cell hox.1 rfl | exact Blk.cells hox.1 rfl | exact BlkR.cell (hs16.sat _ _ _ hb3) rfl | exact BlkR.cells (hs16.sat _ _ _ hb3) rfl | exact Blk.cell hor.1 rfl | exact Blk.cells hor.1 rfl | assumption | refine all_keep ?_ | refine And.intro ?_ ?_), ?_⟩
  refine Da 18 524287 rfl (by kernel_rfl) rfl ?_
  refine Dd (by kernel_rfl) (κ _ _ ?_)
  refine cw_ret ?_
  refine ⟨_, (res_tmp rfl res_nil), _, _, rfl, hT, ?_⟩
  unfold RT.skew
  rw [hv, if_pos (show (ltB (RT.node y cs ls).root x = true) from (show (ltB y x) = true by simpa [ltB] using hc1))]
  exact hm
end Go.Proofs.YtgcgjpfjjgalmaaGreat
/- Skew binomial heaps of heaps, part 1. -/
namespace Go.Proofs.YtgcgjpfjjgalmaaGreat
open Go Go.Eng
theorem sh_least1 {w : World} {M : Mem} {ts : List (RT Bt)} {l : List (Option Addr)} {sa : Option Addr} {sc : Nat} {b1 b2 b3 i j : Nat} {ki kb : RT Bt} (hs : Sat M w) (hl : M b1 = some ([.slice sa ts.length sc], 319)) (hm : M b3 = some ([.pointer none], 63)) (hob : Own w M b2 [.int .i64 j] 3) (hr : Rds M w 1 (.slice sa ts.length sc) ts.length (ptrs l)) (hk : TReps 332 1 EncB M ts l) (hi : ts[i]? = some ki) (hj : ts[j]? = some kb) :
  Does Tryz.prog 255 #[.int .i64 i, .pointer (some ⟨b1, 0, none⟩), .pointer (some ⟨b2, 0, none⟩), .pointer (some ⟨b3, 0, none⟩)] w (fun v w' => v = .bool (ltB ki.root kb.root) ∧ Step Nope M w M w') := by
 have hT := Step.refl Nope hs
 have hr0 := hr
 have hil : i < ts.length := (List.getElem?_eq_some_iff.1 hi).1
 have hjl : j < ts.length := (List.getElem?_eq_some_iff.1 hj).1
 obtain ⟨iq, hiq, hki⟩ := hk.get hi
 obtain ⟨bq, hbq, hkb⟩ := hk.get hj
 obtain ⟨g, o, rfl⟩ := (hr0 _ _ hT).there (by omega)
 have hbl2 := hob.1.lt
 refine fn_enter Tryz.func255 rfl (rs := [.tmp 5]) rfl rfl rfl rfl ?_
 refine cw_rs fun _ κ => ?_
 refine Sa rfl rfl ?_
 refine as_nil (κ _ _ ?_)
 refine cw_rs fun _ κ => ?_
 refine S1 rfl (by kernel_rfl) rfl (by exact BlkR.cell (hs _ _ _ hl) rfl) ?_
 refine Sm rfl rfl ?_
 refine as_q rfl rfl (q_indexAddr (e := 311) (size := 1) (by kernel_rfl) (by kernel_rfl) rfl rfl (by omega) (by omega)) ?_
 refine S1 rfl (by kernel_rfl) rfl ((hr0 _ _ hT).cell (u := .pointer iq) (j := ((i : Nat) : Int).toNat * 1) (by rw [show ((i : Nat) : Int).toNat * 1 = i from by omega]; simp [ptrs, hiq])) ?_
 refine as_h rfl (h_call (by kernel_rfl) rfl ?_)
 refine (th_root hs hki).mono ?_
 rintro _ w1 ⟨qhki, rfl, hs1, hhki⟩
 have hl:=hs1.le _ _ hl
 have hm:=hs1.le _ _ hm
 have hob:=hob.then hs1
 have hT:=hT.then hs1
 have hz1 := hs1.size
 refine Sm rfl rfl ?_
 refine Se rfl rfl rfl ?_
 refine Se rfl rfl rfl ?_
 have hqau := hT.size
 refine as_h rfl (h_allocO (z := (.agg #[(.pointer none)])) hs1.sat (by kernel_rfl) rfl fun bu w2 hs2 hou eu => ?_)
 have hl:=hs2.le _ _ hl
 have hm:=hs2.le _ _ hm
 have hob:=hob.then hs2
 have hhki:=EncB.mono _ _ _ _ hs2.le hhki
 have hT:=hT.then hs2
 have hz2 := hs2.size
 have hlu := hou.1.lt
 refine as_h0 (h_store hs2.sat hou rfl rfl rfl (by kernel_rfl) rfl rfl rfl fun w3 hs3 hn3 => ?_)
 have hl:=hs3.le _ _ hl
 have hm:=hs3.le _ _ hm
 have hob:=hob.step hs3 (fun h => by have h : _ = _ := h; omega)
 have hhki:=EncB.mono _ _ _ _ hs3.le hhki
 clear hou; have hou := hn3; clear hn3
 have hT:=hT.own hs3 (by omega)
 have hz3 := hs3.size
 refine Sa rfl rfl ?_
 refine as_nil (κ _ _ ?_)
 refine cw_rs fun _ κ => ?_
 refine S1 rfl (by kernel_rfl) rfl (by exact BlkR.cell (hs3.sat _ _ _ hl) rfl) ?_
 refine S1 rfl (by kernel_rfl) rfl (by exact Blk.cell hob.1 rfl) ?_
 refine as_q rfl rfl (q_indexAddr (e := 311) (size := 1) (by kernel_rfl) (by kernel_rfl) rfl rfl (by omega) (by omega)) ?_
 refine S1 rfl (by kernel_rfl) rfl ((hr0 _ _ hT).cell (u := .pointer bq) (j := ((j : Nat) : Int).toNat * 1) (by rw [show ((j : Nat) : Int).toNat * 1 = j from by omega]; simp [ptrs, hbq])) ?_
 refine as_h rfl (h_call (by kernel_rfl) rfl ?_)
 refine (th_root hs3.sat hkb).mono ?_
 rintro _ w4 ⟨qhkb, rfl, hs4, hhkb⟩
 have hl:=hs4.le _ _ hl
 have hm:=hs4.le _ _ hm
 have hob:=hob.then hs4
 have hhki:=EncB.mono _ _ _ _ hs4.le hhki
 have hou:=hou.then hs4
 have hT:=hT.then hs4
 have hz4 := hs4.size
 refine Sm rfl rfl ?_
 refine Se rfl rfl rfl ?_
 refine Se rfl rfl rfl ?_
 have hqav := hT.size
 refine as_h rfl (h_allocO (z := (.agg #[(.pointer none)])) hs4.sat (by kernel_rfl) rfl fun bv w5 hs5 hov ev => ?_)
 have hl:=hs5.le _ _ hl
 have hm:=hs5.le _ _ hm
 have hob:=hob.then hs5
 have hhki:=EncB.mono _ _ _ _ hs5.le hhki
 have hou:=hou.then hs5
 have hhkb:=EncB.mono _ _ _ _ hs5.le hhkb
 have hT:=hT.then hs5
 have hz5 := hs5.size
 have hlv := hov.1.lt
 refine as_h0 (h_store hs5.sat hov rfl rfl rfl (by kernel_rfl) rfl rfl rfl fun w6 hs6 hn6 => ?_)
 have hl:=hs6.le _ _ hl
 have hm:=hs6.le _ _ hm
 have hob:=hob.step hs6 (fun h => by have h : _ = _ := h; omega)
 have hhki:=EncB.mono _ _ _ _ hs6.le hhki
 have hou:=hou.step hs6 (fun h => by have h : _ = _ := h; omega)
 have hhkb:=EncB.mono _ _ _ _ hs6.le hhkb
 clear hov; have hov := hn6; clear hn6
 have hT:=hT.own hs6 (by omega)
 have hz6 := hs6.size
 refine Sa rfl rfl ?_
 refine as_nil (κ _ _ ?_)
 refine cw_dr (by kernel_rfl) fun _ κ => ?_
 have hs7 := Step.drew hs6.sat
 have hz7 := hs7.size
 have hl:=hs7.le _ _ hl
 have hm:=hs7.le _ _ hm
 have hob:=hob.then hs7
 have hhki:=EncB.mono _ _ _ _ hs7.le hhki
 have hou:=hou.then hs7
 have hhkb:=EncB.mono _ _ _ _ hs7.le hhkb
 have hov:=hov.then hs7
 have hT:=hT.then hs7
 refine Dl1 0 1 rfl (by kernel_rfl) (by kernel_rfl) rfl (by exact BlkR.cell (hs7.sat _ _ _ hm) rfl) ?_
 refine Dlc 1 3 1 rfl (by kernel_rfl) (by kernel_rfl) rfl (by exact Blk.cells hou.1 rfl) ?_
 refine Dq 2 7 rfl (by kernel_rfl) (fun _ => (q_iface (by kernel_rfl) rfl)) ?_
 refine Dlc 4 23 1 rfl (by kernel_rfl) (by kernel_rfl) rfl (by exact Blk.cells hov.1 rfl) ?_
 refine Dq 5 55 rfl (by kernel_rfl) (fun _ => (q_iface (by kernel_rfl) rfl)) ?_
 refine Dh 3 63 rfl (by kernel_rfl) (keep_sift (bs := [F,F,F]) (by kernel_rfl)) (h_invoke (f := 217) (r := .agg #[.pointer qhki]) (by kernel_rfl) rfl rfl (by kernel_rfl) ?_)
 refine (b_key (t := ki.root) hs7.sat hhki).mono ?_
 rintro _ w8 ⟨rfl, hs8⟩
 have hl:=hs8.le _ _ hl
 have hm:=hs8.le _ _ hm
 have hob:=hob.then hs8
 have hou:=hou.then hs8
 have hhkb:=EncB.mono _ _ _ _ hs8.le hhkb
 have hov:=hov.then hs8
 have hT:=hT.then hs8
 have hz8 := hs8.size
 refine ⟨(by repeat' first | exact trivial | exact BlkR.cell (hs8.sat _ _ _ hl) rfl | exact BlkR.cells (hs8.sat _ _ _ hl) rfl | exact BlkR.cell (hs8.sat _ _ _ hm) rfl | exact BlkR.cells (hs8.sat _ _ _ hm) rfl | exact Blk.cell hob.1 rfl | exact Blk.cells hob.1 rfl | exact Blk.cell hou.1 rfl | exact Blk.cells hou.1 rfl | exact Blk.cell hov.1 rfl | exact Blk.cells hov.1 rfl | assumption | refine all_keep ?_ | refine And.intro ?_ ?_), ?_⟩
 refine Dh 6 127 rfl (by kernel_rfl) (keep_sift (bs := [F,F,F]) (by kernel_rfl)) (h_invoke (f := 217) (r := .agg #[.pointer qhkb]) (by kernel_rfl) rfl rfl (by kernel_rfl) ?_)
 refine (b_key (t := kb.root) hs8.sat hhkb).mono ?_
 rintro _ w9 ⟨rfl, hs9⟩
 have hl:=hs9.le _ _ hl
 have hm:=hs9.le _ _ hm
 have hob:=hob.then hs9
 have hou:=hou.then hs9
 have hov:=hov.then hs9
 have hT:=hT.then hs9
 have hz9 := hs9.size
 refine ⟨(by repeat' first | exact trivial | exact BlkR.cell (hs9.sat _ _ _ hl) rfl | exact BlkR.cells (hs9.sat _ _ _ hl) rfl | exact BlkR.cell (hs9.sat _ _ _ hm) rfl | exact BlkR.cells (hs9.sat _ _ _ hm) rfl | exact Blk.cell hob.1 rfl | exact Blk.cells hob.1 rfl | exact Blk.cell hou.1 rfl | exact Blk.cells hou.1 rfl | exact Blk.cell hov.1 rfl | exact Blk.cells hov.1 rfl | assumption | refine all_keep ?_ | refine And.intro ?_ ?_), ?_⟩
 refine Dh 7 255 rfl (by kernel_rfl) (keep_sift (bs := [F,F,T]) (by kernel_rfl)) (h_call (by kernel_rfl) rfl ?_)
 refine (m_less (a := ki.root.key) (b := kb.root.key) hs9.sat).mono ?_
 rintro _ w10 ⟨rfl, hs10⟩
 have hl:=hs10.le _ _ hl
 have hm:=hs10.le _ _ hm
 have hob:=hob.then hs10
 have hou:=hou.then hs10
 have hov:=hov.then hs10
 have hT:=hT.then hs10
 have hz10 := hs10.size
 refine ⟨(by repeat' first | exact trivial | exact BlkR.cell (hs10.sat _ _ _ hl) rfl | exact BlkR.cells (hs10.sat _ _ _ hl) rfl | exact BlkR.cell (hs10.sat _ _ _ hm) rfl | exact BlkR.cells (hs10.sat _ _ _ hm) rfl | exact Blk.cell hob.1 rfl | exact Blk.cells hob.1 rfl | exact Blk.cell hou.1 rfl | exact Blk.cells hou.1 rfl | exact Blk.cell hov.1 rfl | exact Blk.cells hov.1 rfl | assumption | refine all_keep ?_ | refine And.intro ?_ ?_), ?_⟩
 refine Da 8 511 rfl (by kernel_rfl) rfl ?_
 refine Dd (by kernel_rfl) (κ _ _ ?_)
 refine cw_ret ?_
 exact ⟨_, (res_tmp rfl res_nil), rfl, hT.forget⟩
theorem sh_least {w : World} {M : Mem} {ts : List (RT Bt)} {l : List (Option Addr)} {sa : Option Addr} {sc : Nat} (hs : Sat M w) (hr : Rds M w 1 (.slice sa ts.length sc) ts.length (ptrs l)) (hk : TReps 332 1 EncB M ts l) (hz : ts.length ≤ 1000000000) :
  Does Tryz.prog 239 #[.pointer none, .slice sa ts.length sc] w (fun v w' => v = .int .i64 (leastN ltB (ts.map RT.root) (ts.length - 1) : Nat) ∧ Step Nope M w M w') := by
 have hT := Step.refl Nope hs
 have hrts : ∀ (j : Nat) (t : RT Bt), ts[j]? = some t → (ts.map RT.root)[j]? = some t.root := fun j t h => by rw [List.getElem?_map, h]; rfl
 have hr0 := hr
 refine fn_enter Tryz.func239 rfl (rs := [.tmp 4]) rfl rfl rfl rfl ?_
 refine cw_rs fun _ κ => ?_
 refine as_h rfl (h_boxM hs rfl rfl fun b1 M1 w1 hs1 hb1 e1 => ?_)
 have hk:=hk.mono' EncB.mono hs1.le
 have hT:=hT.then hs1
 have hz1 := hs1.size
 refine as_h rfl (h_boxM hs1.sat rfl rfl fun b2 M2 w2 hs2 hb2 e2 => ?_)
 have hk:=hk.mono' EncB.mono hs2.le
 have hb1:=hs2.le _ _ hb1
 have hT:=hT.then hs2
 have hz2 := hs2.size
 refine Sa rfl rfl ?_
 refine as_nil (κ _ _ ?_)
 refine cw_rs fun _ κ => ?_
 have hqab := hT.size
 refine as_h rfl (h_allocO (z := (.int .i64 0)) hs2.sat (by kernel_rfl) rfl fun bb w3 hs3 hob eb => ?_)
 have hk:=hk.mono' EncB.mono hs3.le
 have hb1:=hs3.le _ _ hb1
 have hb2:=hs3.le _ _ hb2
 have hT:=hT.then hs3
 have hz3 := hs3.size
 have hlb := hob.1.lt
 refine as_h0 (h_store hs3.sat hob rfl rfl rfl (by kernel_rfl) rfl rfl rfl fun w4 hs4 hn4 => ?_)
 have hk:=hk.mono' EncB.mono hs4.le
 have hb1:=hs4.le _ _ hb1
 have hb2:=hs4.le _ _ hb2
 clear hob; have hob := hn4; clear hn4
 have hT:=hT.own hs4 (by omega)
 have hz4 := hs4.size
 refine as_nil (κ _ _ ?_)
 refine cw_rs fun _ κ => ?_
 refine as_q rfl rfl (q_func rfl rfl) ?_
 refine Sa rfl rfl ?_
 refine as_nil (κ _ _ ?_)
 refine cw_seq fun _ hK4 => ?_
 refine cw_rs fun _ κ => ?_
 refine Sa rfl rfl ?_
 refine as_nil (κ _ _ ?_)
 refine cw_block ?_
 refine cw_loop (fun mm l1 w1 => ∃ (i : Nat) (z : Int), mm = ts.length - i ∧ 1 ≤ i ∧ (i ≤ ts.length ∨ i = 1) ∧ z = (leastN ltB (ts.map RT.root) (i - 1) : Nat) ∧ l1 = [(3, .pointer (some ⟨b2, 0, none⟩)), (5, .pointer (some ⟨bb, 0, none⟩)), (6, .func (.func 255) #[] #[.pointer (some ⟨b2, 0, none⟩), .pointer (some ⟨bb, 0, none⟩), .pointer (some ⟨b1, 0, none⟩)]), (7, .int .i64 i)] ∧ Step Nope M w M2 w1 ∧ Own w1 M2 bb [.int .i64 z] 3) (ts.length - 1) [(3, .pointer (some ⟨b2, 0, none⟩)), (5, .pointer (some ⟨bb, 0, none⟩)), (6, .func (.func 255) #[] #[.pointer (some ⟨b2, 0, none⟩), .pointer (some ⟨bb, 0, none⟩), .pointer (some ⟨b1, 0, none⟩)]), (7, .int .i64 (1 : Nat))] (.cons rfl (.cons rfl (.cons rfl (.cons rfl (.nil _))))) ?_ ?_
 ·
  exact ⟨1, _, by omega, by omega, by omega, rfl, rfl, hT, hob⟩
 have hbw0 : w.heap.size ≤ bb := by omega
 clear hT hob
 rintro mm l1 w1 ⟨i, z, rfl, hi1, hi, rfl, rfl, hT, hob⟩
 refine cw_seq fun _ hK6 => ?_
 refine cw_rs fun _ κ => ?_
 refine Sm rfl rfl ?_
 refine S1 rfl (by kernel_rfl) rfl (by exact BlkR.cell (hT.sat _ _ _ hb2) rfl) ?_
 refine as_q rfl rfl (q_len (by kernel_rfl) rfl _) ?_
 refine as_q rfl rfl (q_lt rfl rfl) ?_
 refine as_nil (κ _ _ ?_)
 refine cw_cond rfl (fun hc0 => ?_) (fun hc0 => ?_)
 ·
  have hlt : i < ts.length := by have := of_decide_eq_true hc0; omega
  obtain ⟨k, hkk⟩ : ∃ k, ts[i]? = some k := ⟨ts[i], by simp⟩
  have hbl := leastN_le ltB (ts.map RT.root) (i - 1)
  obtain ⟨kb, hkb0⟩ : ∃ k, ts[leastN ltB (ts.map RT.root) (i - 1)]? = some k := ⟨ts[leastN ltB (ts.map RT.root) (i - 1)]'(by omega), by simp⟩
  have hstep := leastN_step (lt := ltB) (i := i - 1) (hrts _ k (by rw [show i - 1 + 1 = i by omega]; exact hkk)) (hrts _ kb hkb0)
  rw [show i - 1 + 1 = i by omega] at hstep
  refine cw_skip ?_
  refine hK6 _ _ ?_
  refine cw_seq fun _ hK8 => ?_
  refine cw_block ?_
  refine cw_rs fun _ κ => ?_
  refine Sm rfl rfl ?_
  refine Sm rfl rfl ?_
  refine as_h rfl (h_callv (f := 255) (first := []) (cap := [.pointer (some ⟨b2, 0, none⟩), .pointer (some ⟨bb, 0, none⟩), .pointer (some ⟨b1, 0, none⟩)]) (by kernel_rfl) rfl rfl rfl ?_)
  refine (sh_least1 hT.sat hb2 hb1 hob (hr0.step hT) hk hkk hkb0).mono ?_
  rintro _ w5 ⟨rfl, hs5⟩
  have hob:=hob.then hs5
  have hT:=hT.then hs5
  have hz5 := hs5.size
  refine as_nil (κ _ _ ?_)
  refine cw_cond rfl (fun hc1 => ?_) (fun hc1 => ?_)
  ·
   rw [if_pos hc1] at hstep
   refine cw_region fun _ κ => ?_
   refine Sm rfl rfl ?_
   refine as_h0 (h_store hs5.sat hob rfl rfl rfl (by kernel_rfl) rfl rfl rfl fun w6 hs6 hn6 => ?_)
   clear hob; have hob := hn6; clear hn6
   have hT:=hT.own hs6 (by omega)
   have hz6 := hs6.size
   refine as_nil (κ _ _ ?_)
   refine hK8 _ _ ?_
   refine cw_region fun _ κ => ?_
   refine Sm rfl rfl ?_
   refine as_q rfl rfl (q_addx rfl rfl (by omega) (by omega)) ?_
   refine Sa rfl rfl ?_
   refine as_nil (κ _ _ ?_)
   refine ⟨_, _, ?_, (.cons rfl (.cons rfl (.cons rfl (.cons rfl (.nil _))))), i + 1, _, rfl, by omega, by omega, ?_, rfl, hT, hob⟩
   · omega
   · rw [show i + 1 - 1 = i by omega, hstep]
  ·
   rw [if_neg (by rw [hc1]; decide)] at hstep
   refine cw_skip ?_
   refine hK8 _ _ ?_
   refine cw_region fun _ κ => ?_
   refine Sm rfl rfl ?_
   refine as_q rfl rfl (q_addx rfl rfl (by omega) (by omega)) ?_
   refine Sa rfl rfl ?_
   refine as_nil (κ _ _ ?_)
   refine ⟨_, _, ?_, (.cons rfl (.cons rfl (.cons rfl (.cons rfl (.nil _))))), i + 1, _, rfl, by omega, by omega, ?_, rfl, hT, hob⟩
   · omega
   · rw [show i + 1 - 1 = i by omega, hstep]
 ·
  have hge : i - 1 = ts.length - 1 := by have := of_decide_eq_false hc0; omega
  refine cw_exit ?_
  refine hK4 _ _ ?_
  refine cw_rs fun _ κ => ?_
  refine S1 rfl (by kernel_rfl) rfl (by exact Blk.cell hob.1 rfl) ?_
  refine Sa rfl rfl ?_
  refine as_nil (κ _ _ ?_)
  refine cw_ret ?_
  exact ⟨_, (res_tmp rfl res_nil), by rw [hge]; rfl, hT.forget⟩
theorem sh_insert_n {w : World} {M : Mem} {x : Bt} {qx : Option Addr} (hs : Sat M w) (hx : EncB M x [.pointer qx]) :
  Does Tryz.prog 224 #[.agg #[.pointer none], .pointer none, .agg #[.pointer qx]] w (fun v w' => ∃ q M', v = .agg #[.pointer q] ∧ Step Nope M w M' w' ∧ FRep 330 332 1 EncB M' (sinsert ltB x []) q) := by
 have hT := Step.refl Nope hs
 refine fn_enter Tryz.func224 rfl (rs := [.cell 6 294]) rfl rfl rfl rfl ?_
 refine cw_rs fun _ κ => ?_
 refine as_h rfl (h_boxM hs rfl rfl fun b1 M1 w1 hs1 hb1 e1 => ?_)
 have hx:=EncB.mono _ _ _ _ hs1.le hx
 have hT:=hT.then hs1
 have hz1 := hs1.size
 refine as_h rfl (h_boxM hs1.sat rfl rfl fun b2 M2 w2 hs2 hb2 e2 => ?_)
 have hx:=EncB.mono _ _ _ _ hs2.le hx
 have hb1:=hs2.le _ _ hb1
 have hT:=hT.then hs2
 have hz2 := hs2.size
 have hqar := hT.size
 refine as_h rfl (h_allocO (z := (.agg #[(.pointer none)])) hs2.sat (by kernel_rfl) rfl fun br w3 hs3 hor er => ?_)
 have hx:=EncB.mono _ _ _ _ hs3.le hx
 have hb1:=hs3.le _ _ hb1
 have hb2:=hs3.le _ _ hb2
 have hT:=hT.then hs3
 have hz3 := hs3.size
 have hlr := hor.1.lt
 refine as_nil (κ _ _ ?_)
 refine cw_rs fun _ κ => ?_
 refine Sf 0 rfl (by kernel_rfl) rfl ?_
 refine Sc 1 rfl (by kernel_rfl) rfl (by exact BlkR.cells (hs3.sat _ _ _ hb1) rfl) ?_
 refine as_h rfl (h_call (by kernel_rfl) rfl ?_)
 refine (ch_first_n hs3.sat).mono ?_
 rintro _ w4 ⟨rfl, hs4⟩
 have hx:=EncB.mono _ _ _ _ hs4.le hx
 have hb1:=hs4.le _ _ hb1
 have hb2:=hs4.le _ _ hb2
 have hor:=hor.then hs4
 have hT:=hT.then hs4
 have hz4 := hs4.size
 refine Sm rfl rfl ?_
 refine Se rfl rfl rfl ?_
 refine Se rfl rfl rfl ?_
 refine Sa rfl rfl ?_
 refine Sa rfl rfl ?_
 refine as_nil (κ _ _ ?_)
 refine cw_rs fun _ κ => ?_
 refine Sf 0 rfl (by kernel_rfl) rfl ?_
 refine Sc 1 rfl (by kernel_rfl) rfl (by exact BlkR.cells (hs4.sat _ _ _ hb1) rfl) ?_
 refine as_h rfl (h_call (by kernel_rfl) rfl ?_)
 refine (ch_rest_n hs4.sat).mono ?_
 rintro _ w5 ⟨rfl, hs5⟩
 have hx:=EncB.mono _ _ _ _ hs5.le hx
 have hb1:=hs5.le _ _ hb1
 have hb2:=hs5.le _ _ hb2
 have hor:=hor.then hs5
 have hT:=hT.then hs5
 have hz5 := hs5.size
 refine as_h rfl (h_call (by kernel_rfl) rfl ?_)
 refine (ch_first_n hs5.sat).mono ?_
 rintro _ w6 ⟨rfl, hs6⟩
 have hx:=EncB.mono _ _ _ _ hs6.le hx
 have hb1:=hs6.le _ _ hb1
 have hb2:=hs6.le _ _ hb2
 have hor:=hor.then hs6
 have hT:=hT.then hs6
 have hz6 := hs6.size
 refine Sm rfl rfl ?_
 refine Se rfl rfl rfl ?_
 refine Se rfl rfl rfl ?_
 refine Sa rfl rfl ?_
 refine Sa rfl rfl ?_
 refine as_nil (κ _ _ ?_)
 refine cw_seq fun _ hK4 => ?_
 refine cw_rs fun _ κ => ?_
 refine Sm rfl rfl ?_
 refine Sm rfl rfl ?_
 refine as_gskip rfl rfl rfl rfl rfl ?_
 refine as_gskip rfl rfl rfl rfl rfl ?_
 refine as_gskip rfl rfl rfl rfl rfl ?_
 refine as_gskip rfl rfl rfl rfl rfl ?_
 refine as_gskip rfl rfl rfl rfl rfl ?_
 refine as_q rfl rfl (q_pick_f rfl rfl) ?_
 refine as_nil (κ _ _ ?_)
 refine cw_false rfl ?_
 refine cw_skip ?_
 refine hK4 _ _ ?_
 refine cw_dr (by kernel_rfl) fun _ κ => ?_
 have hs7 := Step.drew hs6.sat
 have hz7 := hs7.size
 have hx:=EncB.mono _ _ _ _ hs7.le hx
 have hb1:=hs7.le _ _ hb1
 have hb2:=hs7.le _ _ hb2
 have hor:=hor.then hs7
 have hT:=hT.then hs7
 refine Df 0 1 0 rfl (by kernel_rfl) (by kernel_rfl) rfl ?_
 refine Dlc 1 3 1 rfl (by kernel_rfl) (by kernel_rfl) rfl (by exact BlkR.cells (hs7.sat _ _ _ hb1) rfl) ?_
 refine Dm 2 7 rfl (by kernel_rfl) rfl ?_
 refine Dlc 3 15 1 rfl (by kernel_rfl) (by kernel_rfl) rfl (by exact BlkR.cells (hs7.sat _ _ _ hb2) rfl) ?_
 refine Dh 4 31 rfl (by kernel_rfl) (keep_sift (bs := [T,F]) (by kernel_rfl)) (h_call (by kernel_rfl) rfl ?_)
 refine (th_leaf (x := x) hs7.sat hx).mono ?_
 rintro _ w8 ⟨qn, Mn, rfl, hs8, hn⟩
 have hb1:=hs8.le _ _ hb1
 have hb2:=hs8.le _ _ hb2
 have hor:=hor.then hs8
 have hT:=hT.then hs8
 have hz8 := hs8.size
 refine ⟨(by repeat' first | exact trivial | exact BlkR.cell (hs8.sat _ _ _ hb1) rfl | exact BlkR.cells (hs8.sat _ _ _ hb1) rfl | exact BlkR.cell (hs8.sat _ _ _ hb2) rfl | exact BlkR.cells (hs8.sat _ _ _ hb2) rfl | exact Blk.cell hor.1 rfl | exact Blk.cells hor.1 rfl | assumption | refine all_keep ?_ | refine And.intro ?_ ?_), ?_⟩
 refine Dh 5 63 rfl (by kernel_rfl) (keep_sift (bs := [T]) (by kernel_rfl)) (h_call (by kernel_rfl) rfl ?_)
 refine (ch_push hs8.sat (show CRep 330 _ [] (.pointer none) from rfl) (by simp)).mono ?_
 rintro _ w9 ⟨qp, Mp, rfl, hs9, hp⟩
 have hor:=hor.then hs9
 have hn:=hn.mono' EncB.mono hs9.le
 have hT:=hT.then hs9
 have hz9 := hs9.size
 refine ⟨trivial, ?_⟩
 refine Dq 6 127 rfl (by kernel_rfl) (fun _ => (q_build (zs := [(.pointer none)]) (places := [(0, 1)]) (cs := [_]) (by kernel_rfl) (by kernel_rfl) rfl rfl)) ?_
 refine Dh0 7 255 rfl (by kernel_rfl) rfl (h_store hs9.sat hor rfl rfl rfl (by kernel_rfl) rfl rfl rfl fun w10 hs10 hn10 => ?_)
 have hn:=hn.mono' EncB.mono hs10.le
 have hp:=hp.mono hs10.le
 clear hor; have hor := hn10; clear hn10
 have hT:=hT.own hs10 (by omega)
 have hz10 := hs10.size
 refine ⟨trivial, ?_⟩
 refine Dd (by kernel_rfl) (κ _ _ ?_)
 refine cw_ret ?_
 exact ⟨_, (res_cell rfl (loadVar_n (n := 1) (by kernel_rfl) (by exact Blk.cells hor.1 rfl)) res_nil), _, _, rfl, hT, _, hp, treps_cons.2 ⟨_, _, rfl, hn, treps_nil.2 rfl⟩⟩
theorem sh_insert_1 {w : World} {M : Mem} {x : Bt} {qx : Option Addr} {ta : RT Bt} {q : Option Addr} (hs : Sat M w) (hx : EncB M x [.pointer qx]) (h : FRep 330 332 1 EncB M [ta] q) :
  Does Tryz.prog 224 #[.agg #[.pointer q], .pointer none, .agg #[.pointer qx]] w (fun v w' => ∃ q M', v = .agg #[.pointer q] ∧ Step Nope M w M' w' ∧ FRep 330 332 1 EncB M' (sinsert ltB x [ta]) q) := by
 have hT := Step.refl Nope hs
 obtain ⟨l, hc, hk⟩ := h
 obtain ⟨qa, l2, rfl, hka, hk2⟩ := treps_cons.1 hk
 obtain rfl := treps_nil.1 hk2
 clear hk2
 refine fn_enter Tryz.func224 rfl (rs := [.cell 6 294]) rfl rfl rfl rfl ?_
 refine cw_rs fun _ κ => ?_
 refine as_h rfl (h_boxM hs rfl rfl fun b1 M1 w1 hs1 hb1 e1 => ?_)
 have hc:=hc.mono hs1.le
 have hk:=hk.mono' EncB.mono hs1.le
 have hx:=EncB.mono _ _ _ _ hs1.le hx
 have hT:=hT.then hs1
 have hz1 := hs1.size
 refine as_h rfl (h_boxM hs1.sat rfl rfl fun b2 M2 w2 hs2 hb2 e2 => ?_)
 have hc:=hc.mono hs2.le
 have hk:=hk.mono' EncB.mono hs2.le
 have hx:=EncB.mono _ _ _ _ hs2.le hx
 have hb1:=hs2.le _ _ hb1
 have hT:=hT.then hs2
 have hz2 := hs2.size
 have hqar := hT.size
 refine as_h rfl (h_allocO (z := (.agg #[(.pointer none)])) hs2.sat (by kernel_rfl) rfl fun br w3 hs3 hor er => ?_)
 have hc:=hc.mono hs3.le
 have hk:=hk.mono' EncB.mono hs3.le
 have hx:=EncB.mono _ _ _ _ hs3.le hx
 have hb1:=hs3.le _ _ hb1
 have hb2:=hs3.le _ _ hb2
 have hT:=hT.then hs3
 have hz3 := hs3.size
 have hlr := hor.1.lt
 refine as_nil (κ _ _ ?_)
 refine cw_rs fun _ κ => ?_
 refine Sf 0 rfl (by kernel_rfl) rfl ?_
 refine Sc 1 rfl (by kernel_rfl) rfl (by exact BlkR.cells (hs3.sat _ _ _ hb1) rfl) ?_
 refine as_h rfl (h_call (by kernel_rfl) rfl ?_)
 refine (ch_first hs3.sat hc).mono ?_
 rintro _ w4 ⟨rfl, hs4⟩
 have hc:=hc.mono hs4.le
 have hk:=hk.mono' EncB.mono hs4.le
 have hx:=EncB.mono _ _ _ _ hs4.le hx
 have hb1:=hs4.le _ _ hb1
 have hb2:=hs4.le _ _ hb2
 have hor:=hor.then hs4
 have hT:=hT.then hs4
 have hz4 := hs4.size
 refine Sm rfl rfl ?_
 refine Se rfl rfl rfl ?_
 refine Se rfl rfl rfl ?_
 refine Sa rfl rfl ?_
 refine Sa rfl rfl ?_
 refine as_nil (κ _ _ ?_)
 refine cw_rs fun _ κ => ?_
 refine Sf 0 rfl (by kernel_rfl) rfl ?_
 refine Sc 1 rfl (by kernel_rfl) rfl (by exact BlkR.cells (hs4.sat _ _ _ hb1) rfl) ?_
 refine as_h rfl (h_call (by kernel_rfl) rfl ?_)
 refine (ch_rest hs4.sat hc).mono ?_
 rintro _ w5 ⟨qr, rfl, hs5, hcr⟩
 have hc:=hc.mono hs5.le
 have hk:=hk.mono' EncB.mono hs5.le
 have hx:=EncB.mono _ _ _ _ hs5.le hx
 have hb1:=hs5.le _ _ hb1
 have hb2:=hs5.le _ _ hb2
 have hor:=hor.then hs5
 have hT:=hT.then hs5
 have hz5 := hs5.size
 have hqr : qr = none := by
  have h : Value.pointer qr = .pointer none := hcr
  cases h; rfl
 subst hqr
 refine as_h rfl (h_call (by kernel_rfl) rfl ?_)
 refine (ch_first_n hs5.sat).mono ?_
 rintro _ w6 ⟨rfl, hs6⟩
 have hc:=hc.mono hs6.le
 have hk:=hk.mono' EncB.mono hs6.le
 have hx:=EncB.mono _ _ _ _ hs6.le hx
 have hb1:=hs6.le _ _ hb1
 have hb2:=hs6.le _ _ hb2
 have hor:=hor.then hs6
 have hT:=hT.then hs6
 have hz6 := hs6.size
 refine Sm rfl rfl ?_
 refine Se rfl rfl rfl ?_
 refine Se rfl rfl rfl ?_
 refine Sa rfl rfl ?_
 refine Sa rfl rfl ?_
 refine as_nil (κ _ _ ?_)
 refine cw_seq fun _ hK4 => ?_
 refine cw_rs fun _ κ => ?_
 refine Sm rfl rfl ?_
 refine Sm rfl rfl ?_
 refine as_gskip rfl rfl rfl rfl rfl ?_
 refine as_gskip rfl rfl rfl rfl rfl ?_
 refine as_gskip rfl rfl rfl rfl rfl ?_
 refine as_gskip rfl rfl rfl rfl rfl ?_
 refine as_gskip rfl rfl rfl rfl rfl ?_
 refine as_q rfl rfl (q_pick_f rfl rfl) ?_
 refine as_nil (κ _ _ ?_)
 refine cw_false rfl ?_
 refine cw_skip ?_
 refine hK4 _ _ ?_
 refine cw_dr (by kernel_rfl) fun _ κ => ?_
 have hs7 := Step.drew hs6.sat
 have hz7 := hs7.size
 have hc:=hc.mono hs7.le
 have hk:=hk.mono' EncB.mono hs7.le
 have hx:=EncB.mono _ _ _ _ hs7.le hx
 have hb1:=hs7.le _ _ hb1
 have hb2:=hs7.le _ _ hb2
 have hor:=hor.then hs7
 have hT:=hT.then hs7
 refine Df 0 1 0 rfl (by kernel_rfl) (by kernel_rfl) rfl ?_
 refine Dlc 1 3 1 rfl (by kernel_rfl) (by kernel_rfl) rfl (by exact BlkR.cells (hs7.sat _ _ _ hb1) rfl) ?_
 refine Dm 2 7 rfl (by kernel_rfl) rfl ?_
 refine Dlc 3 15 1 rfl (by kernel_rfl) (by kernel_rfl) rfl (by exact BlkR.cells (hs7.sat _ _ _ hb2) rfl) ?_
 refine Dh 4 31 rfl (by kernel_rfl) (keep_sift (bs := [T,F]) (by kernel_rfl)) (h_call (by kernel_rfl) rfl ?_)
 refine (th_leaf (x := x) hs7.sat hx).mono ?_
 rintro _ w8 ⟨qn, Mn, rfl, hs8, hn⟩
 have hc:=hc.mono hs8.le
 have hk:=hk.mono' EncB.mono hs8.le
 have hb1:=hs8.le _ _ hb1
 have hb2:=hs8.le _ _ hb2
 have hor:=hor.then hs8
 have hT:=hT.then hs8
 have hz8 := hs8.size
 refine ⟨(by repeat' first | exact trivial | exact BlkR.cell (hs8.sat _ _ _ hb1) rfl | exact BlkR.cells (hs8.sat _ _ _ hb1) rfl | exact BlkR.cell (hs8.sat _ _ _ hb2) rfl | exact BlkR.cells (hs8.sat _ _ _ hb2) rfl | exact Blk.cell hor.1 rfl | exact Blk.cells hor.1 rfl | assumption | refine all_keep ?_ | refine And.intro ?_ ?_), ?_⟩
 refine Dh 5 63 rfl (by kernel_rfl) (keep_sift (bs := [T]) (by kernel_rfl)) (h_call (by kernel_rfl) rfl ?_)
 refine (ch_push hs8.sat hc (by simp)).mono ?_
 rintro _ w9 ⟨qp, Mp, rfl, hs9, hp⟩
 have hk:=hk.mono' EncB.mono hs9.le
 have hor:=hor.then hs9
 have hn:=hn.mono' EncB.mono hs9.le
 have hT:=hT.then hs9
 have hz9 := hs9.size
 refine ⟨trivial, ?_⟩
 refine Dq 6 127 rfl (by kernel_rfl) (fun _ => (q_build (zs := [(.pointer none)]) (places := [(0, 1)]) (cs := [_]) (by kernel_rfl) (by kernel_rfl) rfl rfl)) ?_
 refine Dh0 7 255 rfl (by kernel_rfl) rfl (h_store hs9.sat hor rfl rfl rfl (by kernel_rfl) rfl rfl rfl fun w10 hs10 hn10 => ?_)
 have hk:=hk.mono' EncB.mono hs10.le
 have hn:=hn.mono' EncB.mono hs10.le
 have hp:=hp.mono hs10.le
 clear hor; have hor := hn10; clear hn10
 have hT:=hT.own hs10 (by omega)
 have hz10 := hs10.size
 refine ⟨trivial, ?_⟩
 refine Dd (by kernel_rfl) (κ _ _ ?_)
 refine cw_ret ?_
 exact ⟨_, (res_cell rfl (loadVar_n (n := 1) (by kernel_rfl) (by exact Blk.cells hor.1 rfl)) res_nil), _, _, rfl, hT, _, hp, treps_cons.2 ⟨_, _, rfl, hn, hk⟩⟩
theorem sh_insert_2 {w : World} {M : Mem} {x : Bt} {qx : Option Addr} {ta tb : RT Bt} {ts : List (RT Bt)} {q : Option Addr} (hs : Sat M w) (hx : EncB M x [.pointer qx]) (h : FRep 330 332 1 EncB M (ta :: tb :: ts) q) (hz : RT.sizes (ta :: tb :: ts) < 1000000000) :
  Does Tryz.prog 224 #[.agg #[.pointer q], .pointer none, .agg #[.pointer qx]] w (fun v w' => ∃ q M', v = .agg #[.pointer q] ∧ Step Nope M w M' w' ∧ FRep 330 332 1 EncB M' (sinsert ltB x (ta :: tb :: ts)) q) := by
 have hT := Step.refl Nope hs
 obtain ⟨l, hc, hk⟩ := h
 obtain ⟨qa, l2, rfl, hka, hk2⟩ := treps_cons.1 hk
 obtain ⟨qb, lt, rfl, hkb, hkt⟩ := treps_cons.1 hk2
 clear hk2
 refine fn_enter Tryz.func224 rfl (rs := [.cell 6 294]) rfl rfl rfl rfl ?_
 refine cw_rs fun _ κ => ?_
 refine as_h rfl (h_boxM hs rfl rfl fun b1 M1 w1 hs1 hb1 e1 => ?_)
 have hc:=hc.mono hs1.le
 have hk:=hk.mono' EncB.mono hs1.le
 have hx:=EncB.mono _ _ _ _ hs1.le hx
 have hka:=hka.mono' EncB.mono hs1.le
 have hkb:=hkb.mono' EncB.mono hs1.le
 have hkt:=hkt.mono' EncB.mono hs1.le
 have hT:=hT.then hs1
 have hz1 := hs1.size
 refine as_h rfl (h_boxM hs1.sat rfl rfl fun b2 M2 w2 hs2 hb2 e2 => ?_)
 have hc:=hc.mono hs2.le
 have hk:=hk.mono' EncB.mono hs2.le
 have hx:=EncB.mono _ _ _ _ hs2.le hx
 have hka:=hka.mono' EncB.mono hs2.le
 have hkb:=hkb.mono' EncB.mono hs2.le
 have hkt:=hkt.mono' EncB.mono hs2.le
 have hb1:=hs2.le _ _ hb1
 have hT:=hT.then hs2
 have hz2 := hs2.size
 have hqar := hT.size
 refine as_h rfl (h_allocO (z := (.agg #[(.pointer none)])) hs2.sat (by kernel_rfl) rfl fun br w3 hs3 hor er => ?_)
 have hc:=hc.mono hs3.le
 have hk:=hk.mono' EncB.mono hs3.le
 have hx:=EncB.mono _ _ _ _ hs3.le hx
 have hka:=hka.mono' EncB.mono hs3.le
 have hkb:=hkb.mono' EncB.mono hs3.le
 have hkt:=hkt.mono' EncB.mono hs3.le
 have hb1:=hs3.le _ _ hb1
 have hb2:=hs3.le _ _ hb2
 have hT:=hT.then hs3
 have hz3 := hs3.size
 have hlr := hor.1.lt
 refine as_nil (κ _ _ ?_)
 refine cw_rs fun _ κ => ?_
 refine Sf 0 rfl (by kernel_rfl) rfl ?_
 refine Sc 1 rfl (by kernel_rfl) rfl (by exact BlkR.cells (hs3.sat _ _ _ hb1) rfl) ?_
 refine as_h rfl (h_call (by kernel_rfl) rfl ?_)
 refine (ch_first hs3.sat hc).mono ?_
 rintro _ w4 ⟨rfl, hs4⟩
 have hc:=hc.mono hs4.le
 have hk:=hk.mono' EncB.mono hs4.le
 have hx:=EncB.mono _ _ _ _ hs4.le hx
 have hka:=hka.mono' EncB.mono hs4.le
 have hkb:=hkb.mono' EncB.mono hs4.le
 have hkt:=hkt.mono' EncB.mono hs4.le
 have hb1:=hs4.le _ _ hb1
 have hb2:=hs4.le _ _ hb2
 have hor:=hor.then hs4
 have hT:=hT.then hs4
 have hz4 := hs4.size
 refine Sm rfl rfl ?_
 refine Se rfl rfl rfl ?_
 refine Se rfl rfl rfl ?_
 refine Sa rfl rfl ?_
 refine Sa rfl rfl ?_
 refine as_nil (κ _ _ ?_)
 refine cw_rs fun _ κ => ?_
 refine Sf 0 rfl (by kernel_rfl) rfl ?_
 refine Sc 1 rfl (by kernel_rfl) rfl (by exact BlkR.cells (hs4.sat _ _ _ hb1) rfl) ?_
 refine as_h rfl (h_call (by kernel_rfl) rfl ?_)
 refine (ch_rest hs4.sat hc).mono ?_
 rintro _ w5 ⟨qr, rfl, hs5, hcr⟩
 have hc:=hc.mono hs5.le
 have hk:=hk.mono' EncB.mono hs5.le
 have hx:=EncB.mono _ _ _ _ hs5.le hx
 have hka:=hka.mono' EncB.mono hs5.le
 have hkb:=hkb.mono' EncB.mono hs5.le
 have hkt:=hkt.mono' EncB.mono hs5.le
 have hb1:=hs5.le _ _ hb1
 have hb2:=hs5.le _ _ hb2
 have hor:=hor.then hs5
 have hT:=hT.then hs5
 have hz5 := hs5.size
 refine as_h rfl (h_call (by kernel_rfl) rfl ?_)
 refine (ch_first hs5.sat hcr).mono ?_
 rintro _ w6 ⟨rfl, hs6⟩
 have hc:=hc.mono hs6.le
 have hk:=hk.mono' EncB.mono hs6.le
 have hx:=EncB.mono _ _ _ _ hs6.le hx
 have hka:=hka.mono' EncB.mono hs6.le
 have hkb:=hkb.mono' EncB.mono hs6.le
 have hkt:=hkt.mono' EncB.mono hs6.le
 have hb1:=hs6.le _ _ hb1
 have hb2:=hs6.le _ _ hb2
 have hor:=hor.then hs6
 have hT:=hT.then hs6
 have hz6 := hs6.size
 refine Sm rfl rfl ?_
 refine Se rfl rfl rfl ?_
 refine Se rfl rfl rfl ?_
 refine Sa rfl rfl ?_
 refine Sa rfl rfl ?_
 refine as_nil (κ _ _ ?_)
 refine cw_seq fun _ hK4 => ?_
 refine cw_rs fun _ κ => ?_
 refine Sm rfl rfl ?_
 refine Sm rfl rfl ?_
 refine as_gh rfl rfl rfl rfl (h_q rfl (q_move rfl) ?_)
 refine as_gh rfl rfl rfl rfl (h_call (by kernel_rfl) rfl ?_)
 refine (th_rank hs6.sat hka).mono ?_
 rintro _ w7 ⟨rfl, hs7⟩
 have hc:=hc.mono hs7.le
 have hk:=hk.mono' EncB.mono hs7.le
 have hx:=EncB.mono _ _ _ _ hs7.le hx
 have hka:=hka.mono' EncB.mono hs7.le
 have hkb:=hkb.mono' EncB.mono hs7.le
 have hkt:=hkt.mono' EncB.mono hs7.le
 have hb1:=hs7.le _ _ hb1
 have hb2:=hs7.le _ _ hb2
 have hor:=hor.then hs7
 have hT:=hT.then hs7
 have hz7 := hs7.size
 refine as_gh rfl rfl rfl rfl (h_q rfl (q_move rfl) ?_)
 refine as_gh rfl rfl rfl rfl (h_call (by kernel_rfl) rfl ?_)
 refine (th_rank hs7.sat hkb).mono ?_
 rintro _ w8 ⟨rfl, hs8⟩
 have hc:=hc.mono hs8.le
 have hk:=hk.mono' EncB.mono hs8.le
 have hx:=EncB.mono _ _ _ _ hs8.le hx
 have hka:=hka.mono' EncB.mono hs8.le
 have hkb:=hkb.mono' EncB.mono hs8.le
 have hkt:=hkt.mono' EncB.mono hs8.le
 have hb1:=hs8.le _ _ hb1
 have hb2:=hs8.le _ _ hb2
 have hor:=hor.then hs8
 have hT:=hT.then hs8
 have hz8 := hs8.size
 refine as_gh rfl rfl rfl rfl (h_q rfl (q_eq rfl rfl) ?_)
 refine as_q rfl rfl (q_pick_t rfl rfl) ?_
 refine as_nil (κ _ _ ?_)
 refine cw_cond rfl (fun hc0 => ?_) (fun hc0 => ?_)
 ·
  replace hc0 : ta.rank = tb.rank := by have := of_decide_eq_true hc0; omega
  refine cw_dr (by kernel_rfl) fun _ κ => ?_
  have hs9 := Step.drew hs8.sat
  have hz9 := hs9.size
  have hc:=hc.mono hs9.le
  have hk:=hk.mono' EncB.mono hs9.le
  have hx:=EncB.mono _ _ _ _ hs9.le hx
  have hka:=hka.mono' EncB.mono hs9.le
  have hkb:=hkb.mono' EncB.mono hs9.le
  have hkt:=hkt.mono' EncB.mono hs9.le
  have hb1:=hs9.le _ _ hb1
  have hb2:=hs9.le _ _ hb2
  have hor:=hor.then hs9
  have hT:=hT.then hs9
  refine Df 0 1 0 rfl (by kernel_rfl) (by kernel_rfl) rfl ?_
  refine Dlc 1 3 1 rfl (by kernel_rfl) (by kernel_rfl) rfl (by exact BlkR.cells (hs9.sat _ _ _ hb1) rfl) ?_
  refine Dm 3 11 rfl (by kernel_rfl) rfl ?_
  refine Dlc 4 27 1 rfl (by kernel_rfl) (by kernel_rfl) rfl (by exact BlkR.cells (hs9.sat _ _ _ hb2) rfl) ?_
  refine Dm 5 59 rfl (by kernel_rfl) rfl ?_
  refine Dm 6 123 rfl (by kernel_rfl) rfl ?_
  refine Dh 2 127 rfl (by kernel_rfl) (keep_sift (bs := [F,T]) (by kernel_rfl)) (h_call (by kernel_rfl) rfl ?_)
  refine (ch_drop (n := 2) hs9.sat hc (by decide)).mono ?_
  rintro _ w10 ⟨qd, rfl, hs10, hcd⟩
  replace hcd : CRep 330 _ lt (.pointer qd) := hcd
  have hc:=hc.mono hs10.le
  have hk:=hk.mono' EncB.mono hs10.le
  have hx:=EncB.mono _ _ _ _ hs10.le hx
  have hka:=hka.mono' EncB.mono hs10.le
  have hkb:=hkb.mono' EncB.mono hs10.le
  have hkt:=hkt.mono' EncB.mono hs10.le
  have hb1:=hs10.le _ _ hb1
  have hb2:=hs10.le _ _ hb2
  have hor:=hor.then hs10
  have hT:=hT.then hs10
  have hz10 := hs10.size
  refine ⟨(by repeat' first | exact trivial | exact BlkR.cell (hs10.sat _ _ _ hb1) rfl | exact BlkR.cells (hs10.sat _ _ _ hb1) rfl | exact BlkR.cell (hs10.sat _ _ _ hb2) rfl | exact BlkR.cells (hs10.sat _ _ _ hb2) rfl | exact Blk.cell hor.1 rfl | exact Blk.cells hor.1 rfl | assumption | refine all_keep ?_ | refine And.intro ?_ ?_), ?_⟩
  refine Dh 7 255 rfl (by kernel_rfl) (keep_sift (bs := [T]) (by kernel_rfl)) (h_call (by kernel_rfl) rfl ?_)
  refine (th_skew (x := x) hs10.sat hx hka hkb (by simp only [RT.sizes] at hz; omega)).mono ?_
  rintro _ w11 ⟨qn, Mn, rfl, hs11, hn⟩
  have hc:=hc.mono hs11.le
  have hk:=hk.mono' EncB.mono hs11.le
  have hx:=EncB.mono _ _ _ _ hs11.le hx
  have hkt:=hkt.mono' EncB.mono hs11.le
  have hb1:=hs11.le _ _ hb1
  have hb2:=hs11.le _ _ hb2
  have hor:=hor.then hs11
  have hcd:=hcd.mono hs11.le
  have hT:=hT.then hs11
  have hz11 := hs11.size
  refine ⟨trivial, ?_⟩
  refine Dh 8 511 rfl (by kernel_rfl) rfl (h_call (by kernel_rfl) rfl ?_)
  refine (ch_push hs11.sat hcd (by have := RT.sizes_length ts; have := hkt.length; simp only [RT.sizes] at hz; simp; omega)).mono ?_
  rintro _ w12 ⟨qp, Mp, rfl, hs12, hp⟩
  have hc:=hc.mono hs12.le
  have hk:=hk.mono' EncB.mono hs12.le
  have hx:=EncB.mono _ _ _ _ hs12.le hx
  have hkt:=hkt.mono' EncB.mono hs12.le
  have hb1:=hs12.le _ _ hb1
  have hb2:=hs12.le _ _ hb2
  have hor:=hor.then hs12
  have hn:=hn.mono' EncB.mono hs12.le
  have hT:=hT.then hs12
  have hz12 := hs12.size
  refine ⟨trivial, ?_⟩
  refine Dq 9 1023 rfl (by kernel_rfl) (fun _ => (q_build (zs := [(.pointer none)]) (places := [(0, 1)]) (cs := [_]) (by kernel_rfl) (by kernel_rfl) rfl rfl)) ?_
  refine Dh0 10 2047 rfl (by kernel_rfl) rfl (h_store hs12.sat hor rfl rfl rfl (by kernel_rfl) rfl rfl rfl fun w13 hs13 hn13 => ?_)
  have hc:=hc.mono hs13.le
  have hk:=hk.mono' EncB.mono hs13.le
  have hx:=EncB.mono _ _ _ _ hs13.le hx
  have hkt:=hkt.mono' EncB.mono hs13.le
  have hb1:=hs13.le _ _ hb1
  have hb2:=hs13.le _ _ hb2
  have hn:=hn.mono' EncB.mono hs13.le
  have hp:=hp.mono hs13.le
  clear hor; have hor := hn13; clear hn13
  have hT:=hT.own hs13 (by omega)
  have hz13 := hs13.size
  refine ⟨trivial, ?_⟩
  refine Dd (by kernel_rfl) (κ _ _ ?_)
  refine cw_ret ?_
  rw [show sinsert ltB x (ta :: tb :: ts) = RT.skew ltB x ta tb :: ts from if_pos hc0]
  exact ⟨_, (res_cell rfl (loadVar_n (n := 1) (by kernel_rfl) (by exact Blk.cells hor.1 rfl)) res_nil), _, _, rfl, hT, _, hp, treps_cons.2 ⟨_, _, rfl, hn, hkt⟩⟩
 ·
  replace hc0 : ¬ ta.rank = tb.rank := by have := of_decide_eq_false hc0; omega
  refine cw_skip ?_
  refine hK4 _ _ ?_
  refine cw_dr (by kernel_rfl) fun _ κ => ?_
  have hs14 := Step.drew hs8.sat
  have hz14 := hs14.size
  have hc:=hc.mono hs14.le
  have hk:=hk.mono' EncB.mono hs14.le
  have hx:=EncB.mono _ _ _ _ hs14.le hx
  have hkt:=hkt.mono' EncB.mono hs14.le
  have hb1:=hs14.le _ _ hb1
  have hb2:=hs14.le _ _ hb2
  have hor:=hor.then hs14
  have hT:=hT.then hs14
  refine Df 0 1 0 rfl (by kernel_rfl) (by kernel_rfl) rfl ?_
  refine Dlc 1 3 1 rfl (by kernel_rfl) (by kernel_rfl) rfl (by exact BlkR.cells (hs14.sat _ _ _ hb1) rfl) ?_
  refine Dm 2 7 rfl (by kernel_rfl) rfl ?_
  refine Dlc 3 15 1 rfl (by kernel_rfl) (by kernel_rfl) rfl (by exact BlkR.cells (hs14.sat _ _ _ hb2) rfl) ?_
  refine Dh 4 31 rfl (by kernel_rfl) (keep_sift (bs := [T,F]) (by kernel_rfl)) (h_call (by kernel_rfl) rfl ?_)
  refine (th_leaf (x := x) hs14.sat hx).mono ?_
  rintro _ w15 ⟨qn, Mn, rfl, hs15, hn⟩
  have hc:=hc.mono hs15.le
  have hk:=hk.mono' EncB.mono hs15.le
  have hkt:=hkt.mono' EncB.mono hs15.le
  have hb1:=hs15.le _ _ hb1
  have hb2:=hs15.le _ _ hb2
  have hor:=hor.then hs15
  have hT:=hT.then hs15
  have hz15 := hs15.size
  refine ⟨(by repeat' first | exact trivial | exact BlkR.cell (hs15.sat _ _ _ hb1) rfl | exact BlkR.cells (hs15.sat _ _ _ hb1) rfl | exact BlkR.cell (hs15.sat _ _ _ hb2) rfl | exact BlkR.cells (hs15.sat _ _ _ hb2) rfl | exact Blk.cell hor.1 rfl | exact Blk.cells hor.1 rfl | assumption | refine all_keep ?_ | refine And.intro ?_ ?_), ?_⟩
  refine Dh 5 63 rfl (by kernel_rfl) (keep_sift (bs := [T]) (by kernel_rfl)) (h_call (by kernel_rfl) rfl ?_)
  refine (ch_push hs15.sat hc (by simp; have := RT.sizes_length ts; have := ta.size_pos; have := tb.size_pos; have := hkt.length; simp only [RT.sizes] at hz; omega)).mono ?_
  rintro _ w16 ⟨qp, Mp, rfl, hs16, hp⟩
  have hk:=hk.mono' EncB.mono hs16.le
  have hor:=hor.then hs16
  have hn:=hn.mono' EncB.mono hs16.le
  have hT:=hT.then hs16
  have hz16 := hs16.size
  refine ⟨trivial, ?_⟩
  refine Dq 6 127 rfl (by kernel_rfl) (fun _ => (q_build (zs := [(.pointer none)]) (places := [(0, 1)]) (cs := [_]) (by kernel_rfl) (by kernel_rfl) rfl rfl)) ?_
  refine Dh0 7 255 rfl (by kernel_rfl) rfl (h_store hs16.sat hor rfl rfl rfl (by kernel_rfl) rfl rfl rfl fun w17 hs17 hn17 => ?_)
  have hk:=hk.mono' EncB.mono hs17.le
  have hn:=hn.mono' EncB.mono hs17.le
  have hp:=hp.mono hs17.le
  clear hor; have hor := hn17; clear hn17
  have hT:=hT.own hs17 (by omega)
  have hz17 := hs17.size
  refine ⟨trivial, ?_⟩
  refine Dd (by kernel_rfl) (κ _ _ ?_)
  refine cw_ret ?_
  rw [show sinsert ltB x (ta :: tb :: ts) = RT.leaf x :: ta :: tb :: ts from if_neg hc0]
  exact ⟨_, (res_cell rfl (loadVar_n (n := 1) (by kernel_rfl) (by exact Blk.cells hor.1 rfl)) res_nil), _, _, rfl, hT, _, hp, treps_cons.2 ⟨_, _, rfl, hn, hk⟩⟩
theorem sh_insert {w : World} {M : Mem} {x : Bt} {qx : Option Addr} {ts : List (RT Bt)} {q : Option Addr} (hs : Sat M w) (hx : EncB M x [.pointer qx]) (h : FRep 330 332 1 EncB M ts q) (hz : RT.sizes ts < 1000000000) :
  Does Tryz.prog 224 #[.agg #[.pointer q], .pointer none, .agg #[.pointer qx]] w (fun v w' => ∃ q M', v = .agg #[.pointer q] ∧ Step Nope M w M' w' ∧ FRep 330 332 1 EncB M' (sinsert ltB x ts) q) := by
 match ts, h, hz with
 | [], h, _ => obtain rfl := frep_nil.1 h; exact sh_insert_n hs hx
 | [ta], h, _ => exact sh_insert_1 hs hx h
 | ta :: tb :: ts, h, hz => exact sh_insert_2 hs hx h hz
theorem sh_min {w : World} {M : Mem} {ts : List (RT Bt)} {t : RT Bt} {q : Option Addr} (hs : Sat M w) (h : FRep 330 332 1 EncB M ts q) (ht : ts[leastN ltB (ts.map RT.root) (ts.length - 1)]? = some t) (hz : RT.sizes ts ≤ 1000000000) :
  Does Tryz.prog 225 #[.agg #[.pointer q], .pointer none] w (fun v w' => ∃ qx M', v = .tuple #[.agg #[.pointer qx], .bool true] ∧ Step Nope M w M' w' ∧ EncB M' t.root [.pointer qx]) := by
 have hT := Step.refl Nope hs
 obtain ⟨l, hc, hk, hll, hlz⟩ := h.len
 obtain ⟨kq, hkq, hkr⟩ := hk.get ht
 have hpos : 0 < ts.length := Nat.lt_of_le_of_lt (Nat.zero_le _) (List.getElem?_eq_some_iff.1 ht).1
 have hbl := leastN_le ltB (ts.map RT.root) (ts.length - 1)
 refine fn_enter Tryz.func225 rfl (rs := [.cell 4 93, .tmp 5]) rfl rfl rfl rfl ?_
 refine cw_rs fun _ κ => ?_
 refine as_h rfl (h_boxM hs rfl rfl fun b1 M1 w1 hs1 hb1 e1 => ?_)
 have hc:=hc.mono hs1.le
 have hk:=hk.mono' EncB.mono hs1.le
 have hkr:=hkr.mono' EncB.mono hs1.le
 have hT:=hT.then hs1
 have hz1 := hs1.size
 have hqar := hT.size
 refine as_h rfl (h_allocO (z := (.agg #[(.pointer none)])) hs1.sat (by kernel_rfl) rfl fun br w2 hs2 hor er => ?_)
 have hc:=hc.mono hs2.le
 have hk:=hk.mono' EncB.mono hs2.le
 have hkr:=hkr.mono' EncB.mono hs2.le
 have hb1:=hs2.le _ _ hb1
 have hT:=hT.then hs2
 have hz2 := hs2.size
 have hlr := hor.1.lt
 refine Sa rfl rfl ?_
 refine as_nil (κ _ _ ?_)
 refine cw_rs fun _ κ => ?_
 refine Sf 0 rfl (by kernel_rfl) rfl ?_
 refine Sc 1 rfl (by kernel_rfl) rfl (by exact BlkR.cells (hs2.sat _ _ _ hb1) rfl) ?_
 refine as_h rfl (h_call (by kernel_rfl) rfl ?_)
 refine (ch_all hs2.sat hc (by omega)).mono ?_
 rintro av w3 ⟨Ma, hs3, hba, hfa⟩
 have hk:=hk.mono' EncB.mono hs3.le
 have hkr:=hkr.mono' EncB.mono hs3.le
 have hor:=hor.then hs3
 have hT:=hT.then hs3
 have hz3 := hs3.size
 rw [hll] at hba
 obtain ⟨aa, ac, rfl, _, _⟩ := hba.slice
 obtain ⟨g, o, rfl⟩ := hba.rd.there (by omega)
 refine Sa rfl rfl ?_
 refine as_nil (κ _ _ ?_)
 refine cw_seq fun _ hK3 => ?_
 refine cw_rs fun _ κ => ?_
 refine Sm rfl rfl ?_
 refine as_q rfl rfl (q_len (by kernel_rfl) rfl _) ?_
 refine as_q rfl rfl (q_eqF rfl rfl (by omega)) ?_
 refine as_nil (κ _ _ ?_)
 refine cw_false rfl ?_
 refine cw_skip ?_
 refine hK3 _ _ ?_
 refine cw_rs fun _ κ => ?_
 refine Sm rfl rfl ?_
 refine Sm rfl rfl ?_
 refine Sm rfl rfl ?_
 refine as_h rfl (h_call (by kernel_rfl) rfl ?_)
 refine (sh_least hs3.sat hba.rds hk (by omega)).mono ?_
 rintro _ w4 ⟨rfl, hs4⟩
 have hkr:=hkr.mono' EncB.mono hs4.le
 have hor:=hor.then hs4
 have hba:=hba.then hs4
 have hT:=hT.then hs4
 have hz4 := hs4.size
 refine as_q rfl rfl (q_indexAddr (e := 311) (size := 1) (by kernel_rfl) (by kernel_rfl) rfl rfl (by omega) (by omega)) ?_
 refine S1 rfl (by kernel_rfl) rfl (Buf.cell hba (u := .pointer kq) (j := ((leastN ltB (ts.map RT.root) (ts.length - 1) : Nat) : Int).toNat * 1) (by rw [show ((leastN ltB (ts.map RT.root) (ts.length - 1) : Nat) : Int).toNat * 1 = leastN ltB (ts.map RT.root) (ts.length - 1) from by omega]; simp [ptrs, hkq])) ?_
 refine as_h rfl (h_call (by kernel_rfl) rfl ?_)
 refine (th_root hs4.sat hkr).mono ?_
 rintro _ w5 ⟨qx, rfl, hs5, hxr⟩
 have hor:=hor.then hs5
 have hT:=hT.then hs5
 have hz5 := hs5.size
 refine Se rfl rfl rfl ?_
 refine Se rfl rfl rfl ?_
 refine as_h0 (h_store hs5.sat hor rfl rfl rfl (by kernel_rfl) rfl rfl rfl fun w6 hs6 hn6 => ?_)
 have hxr:=EncB.mono _ _ _ _ hs6.le hxr
 clear hor; have hor := hn6; clear hn6
 have hT:=hT.own hs6 (by omega)
 have hz6 := hs6.size
 refine Sa rfl rfl ?_
 refine as_nil (κ _ _ ?_)
 refine cw_ret ?_
 exact ⟨_, (res_cell rfl (loadVar_n (n := 1) (by kernel_rfl) (by exact Blk.cells hor.1 rfl)) (res_tmp rfl res_nil)), qx, _, rfl, hT, hxr⟩
end Go.Proofs.YtgcgjpfjjgalmaaGreat
/- Skew binomial heaps of heaps, part 2. -/
namespace Go.Proofs.YtgcgjpfjjgalmaaGreat
open Go Go.Eng
theorem sh_put {w : World} {M : Mem} {t0 : RT Bt} {ts0 : List (RT Bt)} {qt0 : Option Addr} {v0 : Value} (hs : Sat M w) (ht : TRep 332 1 EncB M t0 qt0) (h : SRow 332 1 EncB M w ts0 v0) (hz : t0.size + RT.sizes ts0 ≤ 1000000000) :
  Does Tryz.prog 257 #[.pointer none, .pointer qt0, v0] w (fun v w' => ∃ M', Step Nope M w M' w' ∧ SRow 332 1 EncB M' w' (bput ltB t0 ts0) v) := by
 have hT := Step.refl Nope hs
 obtain ⟨sa, sc, l, rfl, hr, hk⟩ := h
 refine fn_enter Tryz.func257 rfl (rs := [.tmp 6]) rfl rfl rfl rfl ?_
 refine cw_rs fun _ κ => ?_
 refine Sa rfl rfl ?_
 refine as_nil (κ _ _ ?_)
 refine cw_seq fun _ hK2 => ?_
 refine cw_block ?_
 refine cw_loop (fun mm l1 w1 => ∃ (t : RT Bt) (ts : List (RT Bt)) (l : List (Option Addr)) (qt sa : Option Addr) (sc : Nat) (M1 : Mem), mm = ts.length ∧ bput ltB t ts = bput ltB t0 ts0 ∧ t.size + RT.sizes ts ≤ 1000000000 ∧ l1 = [(0, .pointer none), (1, .pointer qt), (2, .slice sa ts.length sc)] ∧ Step Nope M w M1 w1 ∧ Rds M1 w1 1 (.slice sa ts.length sc) ts.length (ptrs l) ∧ TReps 332 1 EncB M1 ts l ∧ TRep 332 1 EncB M1 t qt) (ts0.length) [(0, .pointer none), (1, .pointer qt0), (2, .slice sa ts0.length sc)] (.cons rfl (.cons rfl (.cons rfl (.nil _)))) ?_ ?_
 ·
  exact ⟨t0, ts0, l, qt0, sa, sc, M, rfl, rfl, hz, rfl, hT, hr, hk, ht⟩
 clear hT hr hk ht hz
 rintro mm l1 w1 ⟨t, ts, l, qt, sa, sc, M1, rfl, hmod, hz, rfl, hT, hr, hk, ht⟩
 have hln := hk.length
 have hlz := RT.sizes_length ts
 have hcap : ts.length ≤ sc := by
  obtain ⟨_, _, h, h2, _⟩ := hr.slice hT.sat
  cases h; exact h2
 refine cw_seq fun _ hK3 => ?_
 rcases ts with _ | ⟨f, r⟩
 ·
  obtain rfl := treps_nil.1 hk
  have hlc : ([] : List (RT Bt)).length = 0 := rfl
  refine cw_dr (by kernel_rfl) fun _ κ => ?_
  have hs1 := Step.drew hT.sat
  have hz1 := hs1.size
  have hr:=hr.step hs1
  have hk:=hk.mono' EncB.mono hs1.le
  have ht:=ht.mono' EncB.mono hs1.le
  have hT:=hT.then hs1
  refine Dm 0 1 rfl (by kernel_rfl) rfl ?_
  refine Dq 1 3 rfl (by kernel_rfl) (fun _ => (q_len (by kernel_rfl) rfl _)) ?_
  refine Dq 2 7 rfl (by kernel_rfl) (fun _ => (q_gtF rfl rfl (by omega))) ?_
  refine Dm 3 15 rfl (by kernel_rfl) rfl ?_
  refine Dgs 4 31 rfl (by kernel_rfl) rfl rfl ?_
  refine Dgs 5 63 rfl (by kernel_rfl) rfl rfl ?_
  refine Dgs 6 127 rfl (by kernel_rfl) rfl rfl ?_
  refine Dgs 7 255 rfl (by kernel_rfl) rfl rfl ?_
  refine Dgs 8 511 rfl (by kernel_rfl) rfl rfl ?_
  refine Dgs 9 1023 rfl (by kernel_rfl) rfl rfl ?_
  refine Dgs 10 2047 rfl (by kernel_rfl) rfl rfl ?_
  refine Dq 11 4095 rfl (by kernel_rfl) (fun _ => (q_pick_f rfl rfl)) ?_
  refine Dd (by kernel_rfl) (κ _ _ ?_)
  refine cw_false rfl ?_
  refine cw_exit ?_
  refine hK2 _ _ ?_
  refine cw_rs fun _ κ => ?_
  refine Sm rfl rfl ?_
  have hTz := hT.size
  refine as_h rfl (h_buildO (e := 311) (size := 1) (zs := [(.pointer none)]) (cs := [_]) (by kernel_rfl) (by kernel_rfl) (by kernel_rfl) rfl hs1.sat rfl rfl fun bB w2 hs2 hoB eB => ?_)
  have hr:=hr.step hs2
  have hk:=hk.mono' EncB.mono hs2.le
  have ht:=ht.mono' EncB.mono hs2.le
  have hT:=hT.then hs2
  have hz2 := hs2.size
  refine Sm rfl rfl ?_
  have hbb := Own.buf hoB (n := 1) (size := 1) rfl (by decide)
  refine as_h rfl (h_append (e := 311) (size := 1) (bytes := 8) (by kernel_rfl) hs2.sat hbb (hr.now hs2.sat) rfl rfl (ptrs_one _) (by omega) rfl fun sv w3 hs3 hbu hor => ?_)
  have hT:=hT.trans hs3 (fun k hk h => by have h2 : bB = k := Option.some.inj h; omega)
  have hbs := hbu.rds
  have hk:=hk.mono' EncB.mono hs3.le
  have ht:=ht.mono' EncB.mono hs3.le
  obtain ⟨sva, svc, rfl, _, _⟩ := hbu.slice
  refine Sa rfl rfl ?_
  refine as_nil (κ _ _ ?_)
  refine cw_ret ?_
  rw [show bput ltB t0 ts0 = [t] from by rw [← hmod]; rfl]
  exact ⟨_, (res_tmp rfl res_nil), _, hT, sva, svc, _, congrArg (fun k => Value.slice sva k svc) (by simp <;> omega), hbs.cast (congrArg (fun k => Value.slice sva k svc) (by simp <;> omega)) (by simp <;> omega) rfl, treps_cons.2 ⟨_, _, rfl, ht, hk⟩⟩
 ·
  obtain ⟨fq, lr, rfl, hf, hk2⟩ := treps_cons.1 hk
  obtain ⟨g, o, rfl⟩ := (hr.now hT.sat).there (by simp)
  have hlc : (f :: r).length = r.length + 1 := rfl
  refine cw_dr (by kernel_rfl) fun _ κ => ?_
  have hs4 := Step.drew hT.sat
  have hz4 := hs4.size
  have hr:=hr.step hs4
  have hk:=hk.mono' EncB.mono hs4.le
  have ht:=ht.mono' EncB.mono hs4.le
  have hf:=hf.mono' EncB.mono hs4.le
  have hk2:=hk2.mono' EncB.mono hs4.le
  have hT:=hT.then hs4
  refine Dm 0 1 rfl (by kernel_rfl) rfl ?_
  refine Dq 1 3 rfl (by kernel_rfl) (fun _ => (q_len (by kernel_rfl) rfl _)) ?_
  refine Dq 2 7 rfl (by kernel_rfl) (fun _ => (q_gtT rfl rfl (by omega))) ?_
  refine Dm 3 15 rfl (by kernel_rfl) rfl ?_
  refine Dgq 4 31 rfl (by kernel_rfl) rfl rfl (fun _ => (q_move rfl)) ?_
  refine Dgq 6 95 rfl (by kernel_rfl) rfl rfl (fun _ => (q_move rfl)) ?_
  refine Dgq 7 223 rfl (by kernel_rfl) rfl rfl (fun _ => (q_indexAddr (e := 311) (size := 1) (by kernel_rfl) (by kernel_rfl) rfl rfl (by omega) (by omega))) ?_
  refine at_gq (i := 8) (li := lb 12 479) (cellIs _ _ _) rfl (by kernel_rfl) rfl rfl rfl rfl (fun _ h => q_load1 (by kernel_rfl) rfl h) ((hr _ _ (Step.refl _ hT.sat)).cell (u := .pointer fq) (j := (0 : Int).toNat * 1) rfl) (by kernel_rfl) ?_
  refine Dgh 5 511 rfl (by kernel_rfl) rfl rfl (keep_sift (bs := [F]) (by kernel_rfl)) (h_call (by kernel_rfl) rfl ?_)
  refine (th_rank hs4.sat ht).mono ?_
  rintro _ w5 ⟨rfl, hs5⟩
  have hr:=hr.step hs5
  have hk:=hk.mono' EncB.mono hs5.le
  have ht:=ht.mono' EncB.mono hs5.le
  have hf:=hf.mono' EncB.mono hs5.le
  have hk2:=hk2.mono' EncB.mono hs5.le
  have hT:=hT.then hs5
  have hz5 := hs5.size
  refine ⟨(by repeat' first | exact trivial | exact ((hr _ _ (Step.refl _ hT.sat)).cell (u := .pointer fq) (j := (0 : Int).toNat * 1) rfl) | assumption | refine all_keep ?_ | refine And.intro ?_ ?_), ?_⟩
  refine Dgh 9 1023 rfl (by kernel_rfl) rfl rfl (keep_sift (bs := [T]) (by kernel_rfl)) (h_call (by kernel_rfl) rfl ?_)
  refine (th_rank hs5.sat hf).mono ?_
  rintro _ w6 ⟨rfl, hs6⟩
  have hr:=hr.step hs6
  have hk:=hk.mono' EncB.mono hs6.le
  have ht:=ht.mono' EncB.mono hs6.le
  have hf:=hf.mono' EncB.mono hs6.le
  have hk2:=hk2.mono' EncB.mono hs6.le
  have hT:=hT.then hs6
  have hz6 := hs6.size
  refine ⟨trivial, ?_⟩
  refine Dgq 10 2047 rfl (by kernel_rfl) rfl rfl (fun _ => (q_ge rfl rfl)) ?_
  refine Dq 11 4095 rfl (by kernel_rfl) (fun _ => (q_pick_t rfl rfl)) ?_
  refine Dd (by kernel_rfl) (κ _ _ ?_)
  refine cw_cond rfl (fun hc0 => ?_) (fun hc0 => ?_)
  ·
   skip
   refine cw_skip ?_
   refine hK3 _ _ ?_
   refine cw_block ?_
   refine cw_drawn (by kernel_rfl) (by kernel_rfl) (by kernel_rfl) rfl rfl fun K7 hK7 => ?_
   have hs7 := Step.drew hs6.sat
   have hz7 := hs7.size
   have hr:=hr.step hs7
   have hk:=hk.mono' EncB.mono hs7.le
   have ht:=ht.mono' EncB.mono hs7.le
   have hf:=hf.mono' EncB.mono hs7.le
   have hk2:=hk2.mono' EncB.mono hs7.le
   have hT:=hT.then hs7
   refine Dm 0 1 rfl (by kernel_rfl) rfl ?_
   refine Dm 1 3 rfl (by kernel_rfl) rfl ?_
   refine Dm 2 7 rfl (by kernel_rfl) rfl ?_
   refine Dq 3 15 rfl (by kernel_rfl) (fun _ => (q_indexAddr (e := 311) (size := 1) (by kernel_rfl) (by kernel_rfl) rfl rfl (by omega) (by omega))) ?_
   refine Dl1 4 31 rfl (by kernel_rfl) (by kernel_rfl) rfl ((hr _ _ (Step.refl _ hT.sat)).cell (u := .pointer fq) (j := (0 : Int).toNat * 1) rfl) ?_
   refine Dm 6 95 rfl (by kernel_rfl) rfl ?_
   refine Dq 7 223 rfl (by kernel_rfl) (fun _ => (q_slice (e := 311) (size := 1) (k' := .i64) (by kernel_rfl) (by kernel_rfl) rfl rfl rfl (by omega) (by omega) (by omega))) ?_
   refine Dh 5 255 rfl (by kernel_rfl) (keep_sift (bs := [T]) (by kernel_rfl)) (h_call (by kernel_rfl) rfl ?_)
   refine (th_link hs7.sat ht hf (by simp only [RT.sizes] at hz; omega)).mono ?_
   rintro _ w8 ⟨qn, Mn, rfl, hs8, hn⟩
   have hr:=hr.step hs8
   have hk:=hk.mono' EncB.mono hs8.le
   have ht:=ht.mono' EncB.mono hs8.le
   have hk2:=hk2.mono' EncB.mono hs8.le
   have hT:=hT.then hs8
   have hz8 := hs8.size
   refine ⟨trivial, ?_⟩
   refine Da 8 511 rfl (by kernel_rfl) rfl ?_
   refine Da 9 1023 rfl (by kernel_rfl) rfl ?_
   refine Dd (by kernel_rfl) (hK7 _ _ ?_)
   refine ⟨_, _, ?_, (.cons rfl (.cons rfl (.cons rfl (.nil _)))), _, r, lr, _, _, _, _, rfl, ?_, ?_, rfl, hT, hr.tail (by simpa using hln), hk2, hn⟩
   · simp
   ·
    rw [← hmod]
    conv => rhs; unfold bput
    rw [if_neg (by simpa using hc0)]
   · rw [RT.link_size]; simp only [RT.sizes] at hz; omega
  ·
   skip
   refine cw_exit ?_
   refine hK2 _ _ ?_
   refine cw_rs fun _ κ => ?_
   refine Sm rfl rfl ?_
   have hTz := hT.size
   refine as_h rfl (h_buildO (e := 311) (size := 1) (zs := [(.pointer none)]) (cs := [_]) (by kernel_rfl) (by kernel_rfl) (by kernel_rfl) rfl hs6.sat rfl rfl fun bB w9 hs9 hoB eB => ?_)
   have hr:=hr.step hs9
   have hk:=hk.mono' EncB.mono hs9.le
   have ht:=ht.mono' EncB.mono hs9.le
   have hT:=hT.then hs9
   have hz9 := hs9.size
   refine Sm rfl rfl ?_
   have hbb := Own.buf hoB (n := 1) (size := 1) rfl (by decide)
   refine as_h rfl (h_append (e := 311) (size := 1) (bytes := 8) (by kernel_rfl) hs9.sat hbb (hr.now hs9.sat) rfl rfl (ptrs_one _) (by omega) rfl fun sv w10 hs10 hbu hor => ?_)
   have hT:=hT.trans hs10 (fun k hk h => by have h2 : bB = k := Option.some.inj h; omega)
   have hbs := hbu.rds
   have hk:=hk.mono' EncB.mono hs10.le
   have ht:=ht.mono' EncB.mono hs10.le
   obtain ⟨sva, svc, rfl, _, _⟩ := hbu.slice
   refine Sa rfl rfl ?_
   refine as_nil (κ _ _ ?_)
   refine cw_ret ?_
   rw [show bput ltB t0 ts0 = t :: f :: r from by rw [← hmod]; unfold bput; rw [if_pos (by simpa using hc0)]]
   exact ⟨_, (res_tmp rfl res_nil), _, hT, sva, svc, _, congrArg (fun k => Value.slice sva k svc) (by simp <;> omega), hbs.cast (congrArg (fun k => Value.slice sva k svc) (by simp <;> omega)) (by simp <;> omega) rfl, treps_cons.2 ⟨_, _, rfl, ht, hk⟩⟩
theorem sh_level_n {w : World} {M : Mem} {sa : Option Addr} {sc : Nat} (hs : Sat M w) :
  Does Tryz.prog 243 #[.pointer none, .slice sa (0 : Nat) sc] w (fun v w' => ∃ M', Step Nope M w M' w' ∧ SRow 332 1 EncB M' w' ([] : List (RT Bt)) v) := by
 have hT := Step.refl Nope hs
 refine fn_enter Tryz.func243 rfl (rs := [.tmp 4]) rfl rfl rfl rfl ?_
 refine cw_rs fun _ κ => ?_
 refine Sa rfl rfl ?_
 refine as_nil (κ _ _ ?_)
 refine cw_seq fun _ hK2 => ?_
 refine cw_rs fun _ κ => ?_
 refine Sm rfl rfl ?_
 refine as_q rfl rfl (q_len (by kernel_rfl) rfl _) ?_
 refine as_q rfl rfl (q_eqT rfl rfl (by simp)) ?_
 refine as_nil (κ _ _ ?_)
 refine cw_true rfl ?_
 refine cw_rs fun _ κ => ?_
 refine Sa rfl rfl ?_
 refine as_nil (κ _ _ ?_)
 refine cw_ret ?_
 exact ⟨_, (res_tmp rfl res_nil), M, hT, srow_nil _ _ _ _ (fun _ => rfl)⟩
theorem sh_level_c {w : World} {M : Mem} {f : RT Bt} {r : List (RT Bt)} {v0 : Value} (hs : Sat M w) (h : SRow 332 1 EncB M w (f :: r) v0) (hz : RT.sizes (f :: r) ≤ 1000000000) :
  Does Tryz.prog 243 #[.pointer none, v0] w (fun v w' => ∃ M', Step Nope M w M' w' ∧ SRow 332 1 EncB M' w' (bput ltB f r) v) := by
 have hT := Step.refl Nope hs
 obtain ⟨sa, sc, l, rfl, hr, hk⟩ := h
 have hln := hk.length
 have hlz := RT.sizes_length (f :: r)
 have hcaphr : (f :: r).length ≤ sc := by
  obtain ⟨_, _, h, h2, _⟩ := hr.slice hs
  cases h; exact h2
 obtain ⟨fq, lr, rfl, hf, hk2⟩ := treps_cons.1 hk
 obtain ⟨g, o, rfl⟩ := (hr.now hs).there (by simp)
 have hlc : (f :: r).length = r.length + 1 := rfl
 refine fn_enter Tryz.func243 rfl (rs := [.tmp 4]) rfl rfl rfl rfl ?_
 refine cw_rs fun _ κ => ?_
 refine Sa rfl rfl ?_
 refine as_nil (κ _ _ ?_)
 refine cw_seq fun _ hK2 => ?_
 refine cw_rs fun _ κ => ?_
 refine Sm rfl rfl ?_
 refine as_q rfl rfl (q_len (by kernel_rfl) rfl _) ?_
 refine as_q rfl rfl (q_eqF rfl rfl (by omega)) ?_
 refine as_nil (κ _ _ ?_)
 refine cw_false rfl ?_
 refine cw_skip ?_
 refine hK2 _ _ ?_
 refine cw_dr (by kernel_rfl) fun _ κ => ?_
 have hs1 := Step.drew hs
 have hz1 := hs1.size
 have hr:=hr.step hs1
 have hk2:=hk2.mono' EncB.mono hs1.le
 have hf:=hf.mono' EncB.mono hs1.le
 have hT:=hT.then hs1
 refine Dm 0 1 rfl (by kernel_rfl) rfl ?_
 refine Dm 1 3 rfl (by kernel_rfl) rfl ?_
 refine Dq 2 7 rfl (by kernel_rfl) (fun _ => (q_indexAddr (e := 311) (size := 1) (by kernel_rfl) (by kernel_rfl) rfl rfl (by omega) (by omega))) ?_
 refine Dl1 3 15 rfl (by kernel_rfl) (by kernel_rfl) rfl ((hr _ _ (Step.refl _ hT.sat)).cell (u := .pointer fq) (j := (0 : Int).toNat * 1) rfl) ?_
 refine Dm 4 31 rfl (by kernel_rfl) rfl ?_
 refine Dq 5 63 rfl (by kernel_rfl) (fun _ => (q_slice (e := 311) (size := 1) (k' := .i64) (by kernel_rfl) (by kernel_rfl) rfl rfl rfl (by omega) (by omega) (by omega))) ?_
 refine Dh 6 127 rfl (by kernel_rfl) (keep_sift (bs := [T]) (by kernel_rfl)) (h_call (by kernel_rfl) rfl ?_)
 refine (sh_put hs1.sat hf ⟨_, _, _, rfl, hr.tail (by simpa using hln), hk2⟩ (by simp only [RT.sizes] at hz; omega)).mono ?_
 rintro v w2 ⟨Mn, hs2, hn⟩
 obtain ⟨va, vc, vl, rfl, hv1, hv2⟩ := hn
 have hT:=hT.then hs2
 have hz2 := hs2.size
 refine ⟨trivial, ?_⟩
 refine Da 7 255 rfl (by kernel_rfl) rfl ?_
 refine Dd (by kernel_rfl) (κ _ _ ?_)
 refine cw_ret ?_
 exact ⟨_, (res_tmp rfl res_nil), _, hT, _, _, _, rfl, hv1, hv2⟩
theorem sh_level {w : World} {M : Mem} {ts : List (RT Bt)} {v0 : Value} (hs : Sat M w) (h : SRow 332 1 EncB M w ts v0) (hz : RT.sizes ts ≤ 1000000000) : Does Tryz.prog 243 #[.pointer none, v0] w (fun v w' => ∃ M', Step Nope M w M' w' ∧ SRow 332 1 EncB M' w' (slevel ltB ts) v) := by
 cases ts with
 | nil => obtain ⟨sa, sc, l, rfl, _, _⟩ := h; exact sh_level_n hs
 | cons f r => exact sh_level_c hs h hz
theorem ch_of {w : World} {M : Mem} {l : List (Option Addr)} {sa : Option Addr} {sc : Nat} (hs : Sat M w) (hr : Rds M w 1 (.slice sa l.length sc) l.length (ptrs l)) (hz : l.length ≤ 1000000000) :
  Does Tryz.prog 245 #[.slice sa l.length sc] w (fun v w' => ∃ q M', v = .agg #[.pointer q] ∧ Step Nope M w M' w' ∧ CRep 330 M' l (.pointer q)) := by
 have hT := Step.refl Nope hs
 have hr0 := hr
 refine fn_enter Tryz.func245 rfl (rs := [.cell 2 292]) rfl rfl rfl rfl ?_
 refine cw_rs fun _ κ => ?_
 have hqar := hT.size
 refine as_h rfl (h_allocO (z := (.agg #[(.pointer none)])) hs (by kernel_rfl) rfl fun br w1 hs1 hor er => ?_)
 have hT:=hT.then hs1
 have hz1 := hs1.size
 have hlr := hor.1.lt
 refine as_nil (κ _ _ ?_)
 refine cw_rs fun _ κ => ?_
 refine as_q rfl rfl (q_build (zs := [(.pointer none)]) (places := [(0, 1)]) (cs := [_]) (by kernel_rfl) (by kernel_rfl) rfl rfl) ?_
 have hqao := hT.size
 refine as_h rfl (h_allocO (z := (.agg #[(.pointer none)])) hs1.sat (by kernel_rfl) rfl fun bo w2 hs2 hoo eo => ?_)
 have hor:=hor.then hs2
 have hT:=hT.then hs2
 have hz2 := hs2.size
 have hlo := hoo.1.lt
 refine as_h0 (h_store hs2.sat hoo rfl rfl rfl (by kernel_rfl) rfl rfl rfl fun w3 hs3 hn3 => ?_)
 have hor:=hor.step hs3 (fun h => by have h : _ = _ := h; omega)
 clear hoo; have hoo := hn3; clear hn3
 have hT:=hT.own hs3 (by omega)
 have hz3 := hs3.size
 refine as_nil (κ _ _ ?_)
 refine cw_seq fun _ hK3 => ?_
 refine cw_rs fun _ κ => ?_
 refine Sm rfl rfl ?_
 refine as_q rfl rfl (q_len (by kernel_rfl) rfl _) ?_
 refine as_q rfl rfl (q_subx rfl rfl (by omega) (by omega)) ?_
 refine Sa rfl rfl ?_
 refine as_nil (κ _ _ ?_)
 refine cw_block ?_
 refine cw_loop (fun mm l1 w1 => ∃ (z : Int) (q : Option Addr) (M1 : Mem), mm = (z + 1).toNat ∧ -1 ≤ z ∧ z < l.length ∧ l1 = [(0, .slice sa l.length sc), (2, .pointer (some ⟨br, 0, none⟩)), (3, .pointer (some ⟨bo, 0, none⟩)), (4, .int .i64 z)] ∧ Step Nope M w M1 w1 ∧ CRep 330 M1 (l.drop (z + 1).toNat) (.pointer q) ∧ Own w1 M1 bo [.pointer q] 292 ∧ Own w1 M1 br [.pointer none] 292) (l.length) [(0, .slice sa l.length sc), (2, .pointer (some ⟨br, 0, none⟩)), (3, .pointer (some ⟨bo, 0, none⟩)), (4, .int .i64 ((l.length : Int) - 1))] (.cons rfl (.cons rfl (.cons rfl (.cons rfl (.nil _))))) ?_ ?_
 ·
  refine ⟨(l.length : Int) - 1, none, M, by omega, by omega, by omega, rfl, hT, ?_, hoo, hor⟩
  rw [List.drop_eq_nil_of_le (by omega)]
  rfl
 have hbw : w.heap.size ≤ bo ∧ w.heap.size ≤ br ∧ br ≠ bo := by omega
 clear hT hoo hor
 rintro mm l1 w1 ⟨z, q, M1, rfl, hz1, hz2, rfl, hT, hcc, hoo, hor⟩
 refine cw_seq fun _ hK5 => ?_
 refine cw_rs fun _ κ => ?_
 refine Sm rfl rfl ?_
 refine as_q rfl rfl (q_ge rfl rfl) ?_
 refine as_nil (κ _ _ ?_)
 refine cw_cond rfl (fun hc0 => ?_) (fun hc0 => ?_)
 ·
  have hc0:=of_decide_eq_true hc0
  obtain ⟨x, hx⟩ : ∃ x, l[z.toNat]? = some x := ⟨l[z.toNat]'(by omega), by simp⟩
  obtain ⟨g, o, rfl⟩ := (hr0 _ _ hT).there (by omega)
  refine cw_skip ?_
  refine hK5 _ _ ?_
  refine cw_seq fun _ hK7 => ?_
  refine cw_block ?_
  refine cw_drawn (by kernel_rfl) (by kernel_rfl) (by kernel_rfl) rfl rfl fun K8 hK8 => ?_
  have hs4 := Step.drew hT.sat
  have hz4 := hs4.size
  have hcc:=hcc.mono hs4.le
  have hoo:=hoo.then hs4
  have hor:=hor.then hs4
  have hT:=hT.then hs4
  refine Dlc 0 1 1 rfl (by kernel_rfl) (by kernel_rfl) rfl (by exact Blk.cells hoo.1 rfl) ?_
  refine Dm 1 3 rfl (by kernel_rfl) rfl ?_
  refine Dm 2 7 rfl (by kernel_rfl) rfl ?_
  refine Dq 3 15 rfl (by kernel_rfl) (fun _ => (q_indexAddr (e := 311) (size := 1) (by kernel_rfl) (by kernel_rfl) rfl rfl (by omega) (by omega))) ?_
  refine Dl1 4 31 rfl (by kernel_rfl) (by kernel_rfl) rfl ((hr0 _ _ hT).cell (u := .pointer x) (j := z.toNat * 1) (by simp [ptrs, hx])) ?_
  refine Dh 5 63 rfl (by kernel_rfl) (keep_sift (bs := [T,T]) (by kernel_rfl)) (h_call (by kernel_rfl) rfl ?_)
  refine (ch_push hs4.sat hcc (by rw [List.length_drop]; omega)).mono ?_
  rintro _ w5 ⟨qp, Mp, rfl, hs5, hp⟩
  have hcc:=hcc.mono hs5.le
  have hoo:=hoo.then hs5
  have hor:=hor.then hs5
  have hT:=hT.then hs5
  have hz5 := hs5.size
  refine ⟨trivial, ?_⟩
  refine Dh0 6 127 rfl (by kernel_rfl) rfl (h_store hs5.sat hoo rfl rfl rfl (by kernel_rfl) rfl rfl rfl fun w6 hs6 hn6 => ?_)
  have hcc:=hcc.mono hs6.le
  have hor:=hor.step hs6 (fun h => by have h : _ = _ := h; omega)
  have hp:=hp.mono hs6.le
  clear hoo; have hoo := hn6; clear hn6
  have hT:=hT.own hs6 (by omega)
  have hz6 := hs6.size
  refine ⟨trivial, ?_⟩
  refine Dd (by kernel_rfl) (hK8 _ _ ?_)
  refine hK7 _ _ ?_
  refine cw_region fun _ κ => ?_
  refine Sm rfl rfl ?_
  refine as_q rfl rfl (q_subx rfl rfl (by omega) (by omega)) ?_
  refine Sa rfl rfl ?_
  refine as_nil (κ _ _ ?_)
  refine ⟨_, _, ?_, (.cons rfl (.cons rfl (.cons rfl (.cons rfl (.nil _))))), _, _, _, rfl, ?_, ?_, rfl, hT, ?_, hoo, hor⟩
  · omega
  · omega
  · omega
  ·
   rw [show (z - 1 + 1).toNat = z.toNat by omega, List.drop_eq_getElem_cons (i := z.toNat) (by omega), show l[z.toNat] = x from by rw [List.getElem?_eq_getElem (by omega)] at hx; exact Option.some.inj hx, show z.toNat + 1 = (z + 1).toNat by omega]
   exact hp
 ·
  have hc0:=of_decide_eq_false hc0
  refine cw_exit ?_
  refine hK3 _ _ ?_
  refine cw_rs fun _ κ => ?_
  refine Sc 1 rfl (by kernel_rfl) rfl (by exact Blk.cells hoo.1 rfl) ?_
  refine as_h0 (h_store hT.sat hor rfl rfl rfl (by kernel_rfl) rfl rfl rfl fun w7 hs7 hn7 => ?_)
  have hcc:=hcc.mono hs7.le
  clear hor; have hor := hn7; clear hn7
  have hT:=hT.own hs7 (by omega)
  have hz7 := hs7.size
  refine as_nil (κ _ _ ?_)
  refine cw_ret ?_
  rw [show (z + 1).toNat = 0 by omega, List.drop_zero] at hcc
  exact ⟨_, (res_cell rfl (loadVar_n (n := 1) (by kernel_rfl) (by exact Blk.cells hor.1 rfl)) res_nil), _, _, rfl, hT, hcc⟩
def SMeldh (k : Nat) : Prop := ∀ (w : World) (M : Mem) (a b : List (RT Bt)) (va vb : Value), Sat M w → SRow 332 1 EncB M w a va → SRow 332 1 EncB M w b vb → a.length + b.length < k → RT.sizes a + RT.sizes b ≤ 1000000000 →
  Does Tryz.prog 246 #[.pointer none, va, vb] w (fun v w' => ∃ M', Step Nope M w M' w' ∧ SRow 332 1 EncB M' w' (bmeld ltB a b) v)
theorem sh_meld_a {w : World} {M : Mem} {b : List (RT Bt)} {vb : Value} {sa : Option Addr} {sc : Nat} (hs : Sat M w) (hb : SRow 332 1 EncB M w b vb) :
  Does Tryz.prog 246 #[.pointer none, .slice sa (0 : Nat) sc, vb] w (fun v w' => ∃ M', Step Nope M w M' w' ∧ SRow 332 1 EncB M' w' b v) := by
 have hT := Step.refl Nope hs
 obtain ⟨ba, bc, lb, rfl, h1, h2⟩ := hb
 have hb : SRow 332 1 EncB M w b (.slice ba b.length bc) := ⟨ba, bc, lb, rfl, h1, h2⟩
 refine fn_enter Tryz.func246 rfl (rs := [.tmp 6]) rfl rfl rfl rfl ?_
 refine cw_rs fun _ κ => ?_
 refine Sa rfl rfl ?_
 refine as_nil (κ _ _ ?_)
 refine cw_seq fun _ hK2 => ?_
 refine cw_block ?_
 refine cw_rs fun _ κ => ?_
 refine Sm rfl rfl ?_
 refine as_q rfl rfl (q_len (by kernel_rfl) rfl _) ?_
 refine as_q rfl rfl (q_eqT rfl rfl (by omega)) ?_
 refine Sa rfl rfl ?_
 refine as_nil (κ _ _ ?_)
 refine cw_true rfl ?_
 refine cw_rs fun _ κ => ?_
 refine Sm rfl rfl ?_
 refine Sa rfl rfl ?_
 refine as_nil (κ _ _ ?_)
 refine cw_ret ?_
 exact ⟨_, (res_tmp rfl res_nil), _, hT, hb⟩
theorem sh_meld_b {w : World} {M : Mem} {f : RT Bt} {a : List (RT Bt)} {va : Value} {sb : Option Addr} {sc : Nat} (hs : Sat M w) (ha : SRow 332 1 EncB M w (f :: a) va) :
  Does Tryz.prog 246 #[.pointer none, va, .slice sb (0 : Nat) sc] w (fun v w' => ∃ M', Step Nope M w M' w' ∧ SRow 332 1 EncB M' w' (f :: a) v) := by
 have hT := Step.refl Nope hs
 obtain ⟨ba, bc, lb, rfl, h1, h2⟩ := ha
 have ha : SRow 332 1 EncB M w (f :: a) (.slice ba (f :: a).length bc) := ⟨ba, bc, lb, rfl, h1, h2⟩
 have hlc : (f :: a).length = a.length + 1 := rfl
 refine fn_enter Tryz.func246 rfl (rs := [.tmp 6]) rfl rfl rfl rfl ?_
 refine cw_rs fun _ κ => ?_
 refine Sa rfl rfl ?_
 refine as_nil (κ _ _ ?_)
 refine cw_seq fun _ hK2 => ?_
 refine cw_block ?_
 refine cw_rs fun _ κ => ?_
 refine Sm rfl rfl ?_
 refine as_q rfl rfl (q_len (by kernel_rfl) rfl _) ?_
 refine as_q rfl rfl (q_eqF rfl rfl (by omega)) ?_
 refine Sa rfl rfl ?_
 refine as_nil (κ _ _ ?_)
 refine cw_false rfl ?_
 refine cw_rs fun _ κ => ?_
 refine Sm rfl rfl ?_
 refine as_q rfl rfl (q_len (by kernel_rfl) rfl _) ?_
 refine as_q rfl rfl (q_eqT rfl rfl (by omega)) ?_
 refine Sa rfl rfl ?_
 refine as_nil (κ _ _ ?_)
 refine cw_true rfl ?_
 refine cw_rs fun _ κ => ?_
 refine Sm rfl rfl ?_
 refine Sa rfl rfl ?_
 refine as_nil (κ _ _ ?_)
 refine cw_ret ?_
 exact ⟨_, (res_tmp rfl res_nil), _, hT, ha⟩
theorem sh_meld_c {w : World} {M : Mem} {f g : RT Bt} {a b : List (RT Bt)} {va vb : Value} {k : Nat} (ih : SMeldh k) (hs : Sat M w) (ha : SRow 332 1 EncB M w (f :: a) va) (hb : SRow 332 1 EncB M w (g :: b) vb) (hk : (f :: a).length + (g :: b).length < k + 1) (hz : RT.sizes (f :: a) + RT.sizes (g :: b) ≤ 1000000000) :
  Does Tryz.prog 246 #[.pointer none, va, vb] w (fun v w' => ∃ M', Step Nope M w M' w' ∧ SRow 332 1 EncB M' w' (bmeld ltB (f :: a) (g :: b)) v) := by
 have hT := Step.refl Nope hs
 obtain ⟨sa, sc, l, rfl, hr, hka⟩ := ha
 obtain ⟨sb, sd, lb, rfl, hrb, hkb⟩ := hb
 have hln := hka.length
 have hlnb := hkb.length
 have hcaphr : (f :: a).length ≤ sc := by
  obtain ⟨_, _, h, h2, _⟩ := hr.slice hs
  cases h; exact h2
 have hcaphrb : (g :: b).length ≤ sd := by
  obtain ⟨_, _, h, h2, _⟩ := hrb.slice hs
  cases h; exact h2
 obtain ⟨fq, lr, rfl, hf, hk2⟩ := treps_cons.1 hka
 obtain ⟨gq, lbr, rfl, hg, hkb2⟩ := treps_cons.1 hkb
 obtain ⟨g1, o, rfl⟩ := (hr.now hs).there (by simp)
 obtain ⟨g2, o2, rfl⟩ := (hrb.now hs).there (by simp)
 have hlc : (f :: a).length = a.length + 1 := rfl
 have hlcb : (g :: b).length = b.length + 1 := rfl
 have hfp := f.size_pos
 have hgp := g.size_pos
 have hmf := RT.sizes_cons f a
 have hmg := RT.sizes_cons g b
 refine fn_enter Tryz.func246 rfl (rs := [.tmp 6]) rfl rfl rfl rfl ?_
 refine cw_rs fun _ κ => ?_
 refine Sa rfl rfl ?_
 refine as_nil (κ _ _ ?_)
 refine cw_seq fun _ hK2 => ?_
 refine cw_block ?_
 refine cw_rs fun _ κ => ?_
 refine Sm rfl rfl ?_
 refine as_q rfl rfl (q_len (by kernel_rfl) rfl _) ?_
 refine as_q rfl rfl (q_eqF rfl rfl (by omega)) ?_
 refine Sa rfl rfl ?_
 refine as_nil (κ _ _ ?_)
 refine cw_false rfl ?_
 refine cw_rs fun _ κ => ?_
 refine Sm rfl rfl ?_
 refine as_q rfl rfl (q_len (by kernel_rfl) rfl _) ?_
 refine as_q rfl rfl (q_eqF rfl rfl (by omega)) ?_
 refine Sa rfl rfl ?_
 refine as_nil (κ _ _ ?_)
 refine cw_false rfl ?_
 refine cw_dr (by kernel_rfl) fun _ κ => ?_
 have hs1 := Step.drew hs
 have hz1 := hs1.size
 have hr:=hr.step hs1
 have hka:=hka.mono' EncB.mono hs1.le
 have hk2:=hk2.mono' EncB.mono hs1.le
 have hf:=hf.mono' EncB.mono hs1.le
 have hrb:=hrb.step hs1
 have hkb:=hkb.mono' EncB.mono hs1.le
 have hkb2:=hkb2.mono' EncB.mono hs1.le
 have hg:=hg.mono' EncB.mono hs1.le
 have hT:=hT.then hs1
 refine Dm 0 1 rfl (by kernel_rfl) rfl ?_
 refine Dq 1 3 rfl (by kernel_rfl) (fun _ => (q_indexAddr (e := 311) (size := 1) (by kernel_rfl) (by kernel_rfl) rfl rfl (by omega) (by omega))) ?_
 refine Dl1 2 7 rfl (by kernel_rfl) (by kernel_rfl) rfl ((hr _ _ (Step.refl _ hT.sat)).cell (u := .pointer fq) (j := (0 : Int).toNat * 1) rfl) ?_
 refine Dm 4 23 rfl (by kernel_rfl) rfl ?_
 refine Dq 5 55 rfl (by kernel_rfl) (fun _ => (q_indexAddr (e := 311) (size := 1) (by kernel_rfl) (by kernel_rfl) rfl rfl (by omega) (by omega))) ?_
 refine Dl1 6 119 rfl (by kernel_rfl) (by kernel_rfl) rfl ((hrb _ _ (Step.refl _ hT.sat)).cell (u := .pointer gq) (j := (0 : Int).toNat * 1) rfl) ?_
 refine Dh 3 127 rfl (by kernel_rfl) (keep_sift (bs := [F,T]) (by kernel_rfl)) (h_call (by kernel_rfl) rfl ?_)
 refine (th_rank hs1.sat hf).mono ?_
 rintro _ w2 ⟨rfl, hs2⟩
 have hr:=hr.step hs2
 have hka:=hka.mono' EncB.mono hs2.le
 have hk2:=hk2.mono' EncB.mono hs2.le
 have hf:=hf.mono' EncB.mono hs2.le
 have hrb:=hrb.step hs2
 have hkb:=hkb.mono' EncB.mono hs2.le
 have hkb2:=hkb2.mono' EncB.mono hs2.le
 have hg:=hg.mono' EncB.mono hs2.le
 have hT:=hT.then hs2
 have hz2 := hs2.size
 refine ⟨(by repeat' first | exact trivial | exact ((hr _ _ (Step.refl _ hT.sat)).cell (u := .pointer fq) (j := (0 : Int).toNat * 1) rfl) | exact ((hrb _ _ (Step.refl _ hT.sat)).cell (u := .pointer gq) (j := (0 : Int).toNat * 1) rfl) | assumption | refine all_keep ?_ | refine And.intro ?_ ?_), ?_⟩
 refine Dh 7 255 rfl (by kernel_rfl) (keep_sift (bs := [T]) (by kernel_rfl)) (h_call (by kernel_rfl) rfl ?_)
 refine (th_rank hs2.sat hg).mono ?_
 rintro _ w3 ⟨rfl, hs3⟩
 have hr:=hr.step hs3
 have hka:=hka.mono' EncB.mono hs3.le
 have hk2:=hk2.mono' EncB.mono hs3.le
 have hf:=hf.mono' EncB.mono hs3.le
 have hrb:=hrb.step hs3
 have hkb:=hkb.mono' EncB.mono hs3.le
 have hkb2:=hkb2.mono' EncB.mono hs3.le
 have hg:=hg.mono' EncB.mono hs3.le
 have hT:=hT.then hs3
 have hz3 := hs3.size
 refine ⟨trivial, ?_⟩
 refine Dq 8 511 rfl (by kernel_rfl) (fun _ => (q_lt rfl rfl)) ?_
 refine Da 9 1023 rfl (by kernel_rfl) rfl ?_
 refine Dd (by kernel_rfl) (κ _ _ ?_)
 refine cw_cond rfl (fun hc2 => ?_) (fun hc2 => ?_)
 ·
  replace hc2 : f.rank < g.rank := by have := of_decide_eq_true hc2; omega
  refine cw_rdS (fun l2 w2 => ∃ v, l2 = [(6, v)] ∧ ∃ M2, Step Nope M w M2 w2 ∧ SRow 332 1 EncB M2 w2 (bmeld ltB (f :: a) (g :: b)) v) (by kernel_rfl) (by kernel_rfl) (by kernel_rfl) rfl rfl ?_ ?_
  ·
   have hs4 := Step.drew hs3.sat
   have hz4 := hs4.size
   have hr:=hr.step hs4
   have hka:=hka.mono' EncB.mono hs4.le
   have hk2:=hk2.mono' EncB.mono hs4.le
   have hf:=hf.mono' EncB.mono hs4.le
   have hrb:=hrb.step hs4
   have hkb:=hkb.mono' EncB.mono hs4.le
   have hkb2:=hkb2.mono' EncB.mono hs4.le
   have hg:=hg.mono' EncB.mono hs4.le
   have hT:=hT.then hs4
   refine Dm 0 1 rfl (by kernel_rfl) rfl ?_
   refine Dq 1 3 rfl (by kernel_rfl) (fun _ => (q_indexAddr (e := 311) (size := 1) (by kernel_rfl) (by kernel_rfl) rfl rfl (by omega) (by omega))) ?_
   refine Dl1 2 7 rfl (by kernel_rfl) (by kernel_rfl) rfl ((hr _ _ (Step.refl _ hT.sat)).cell (u := .pointer fq) (j := (0 : Int).toNat * 1) rfl) ?_
   refine Dm 4 23 rfl (by kernel_rfl) rfl ?_
   refine Dm 5 55 rfl (by kernel_rfl) rfl ?_
   refine Dq 6 119 rfl (by kernel_rfl) (fun _ => (q_slice (e := 311) (size := 1) (k' := .i64) (by kernel_rfl) (by kernel_rfl) rfl rfl rfl (by omega) (by omega) (by omega))) ?_
   refine Dm 7 247 rfl (by kernel_rfl) rfl ?_
   refine at_two (i := 3) (j := 8) (by kernel_rfl) ?_ ?_
   ·
    have hTz := hT.size
    refine Dah 3 255 rfl (by kernel_rfl) (keep_sift (bs := [T]) (by kernel_rfl)) (h_buildO (e := 311) (size := 1) (zs := [(.pointer none)]) (cs := [_]) (by kernel_rfl) (by kernel_rfl) (by kernel_rfl) rfl hs4.sat rfl rfl fun bB w5 hs5 hoB eB => ?_)
    have hr:=hr.step hs5
    have hka:=hka.mono' EncB.mono hs5.le
    have hk2:=hk2.mono' EncB.mono hs5.le
    have hf:=hf.mono' EncB.mono hs5.le
    have hrb:=hrb.step hs5
    have hkb:=hkb.mono' EncB.mono hs5.le
    have hkb2:=hkb2.mono' EncB.mono hs5.le
    have hg:=hg.mono' EncB.mono hs5.le
    have hT:=hT.then hs5
    have hz5 := hs5.size
    refine ⟨trivial, ?_⟩
    refine Dh 8 511 rfl (by kernel_rfl) rfl (h_call (by kernel_rfl) rfl ?_)
    have hml := RT.sizes_length (bmeld ltB a (g :: b))
    have hms := bmeld_size ltB a (g :: b)
    have hmf := RT.sizes_cons f a
    have hmg := RT.sizes_cons g b
    refine (ih _ _ a (g :: b) _ _ hs5.sat ⟨_, _, _, rfl, hr.tail (by simpa using hln), hk2⟩ ⟨_, _, _, rfl, hrb, hkb⟩ (by omega) (by omega)).mono ?_
    rintro v w6 ⟨Mn, hs6, hn⟩
    obtain ⟨va, vc, vl, rfl, hv1, hv2⟩ := hn
    have hr:=hr.step hs6
    have hka:=hka.mono' EncB.mono hs6.le
    have hk2:=hk2.mono' EncB.mono hs6.le
    have hf:=hf.mono' EncB.mono hs6.le
    have hrb:=hrb.step hs6
    have hkb:=hkb.mono' EncB.mono hs6.le
    have hkb2:=hkb2.mono' EncB.mono hs6.le
    have hg:=hg.mono' EncB.mono hs6.le
    have hoB:=hoB.then hs6
    have hT:=hT.then hs6
    have hz6 := hs6.size
    refine ⟨trivial, ?_⟩
    have hbb := Own.buf hoB (n := 1) (size := 1) rfl (by decide)
    refine Dh 9 1023 rfl (by kernel_rfl) rfl (h_append (e := 311) (size := 1) (bytes := 8) (by kernel_rfl) hs6.sat hbb (hv1.now hs6.sat) rfl rfl (ptrs_one _) (by omega) rfl fun sv w7 hs7 hbu hor => ?_)
    have hT:=hT.trans hs7 (fun k hk h => by have h2 : bB = k := Option.some.inj h; omega)
    have hbs := hbu.rds
    have hka:=hka.mono' EncB.mono hs7.le
    have hk2:=hk2.mono' EncB.mono hs7.le
    have hf:=hf.mono' EncB.mono hs7.le
    have hkb:=hkb.mono' EncB.mono hs7.le
    have hkb2:=hkb2.mono' EncB.mono hs7.le
    have hg:=hg.mono' EncB.mono hs7.le
    have hv2:=hv2.mono' EncB.mono hs7.le
    obtain ⟨sva, svc, rfl, _, _⟩ := hbu.slice
    refine ⟨trivial, ?_⟩
    refine Da 10 2047 rfl (by kernel_rfl) rfl ?_
    refine Dd (by kernel_rfl) ?_
    refine ⟨_, (.cons rfl (.nil _)), _, rfl, _, hT, ?_⟩
    rw [show bmeld ltB (f :: a) (g :: b) = f :: bmeld ltB a (g :: b) from by rw [bmeld, if_pos hc2]]
    exact ⟨sva, svc, _, congrArg (fun k => Value.slice sva k svc) (by simp <;> omega), hbs.cast (congrArg (fun k => Value.slice sva k svc) (by simp <;> omega)) (by simp <;> omega) rfl, treps_cons.2 ⟨_, _, rfl, hf, hv2⟩⟩
   ·
    refine Dah 8 503 rfl (by kernel_rfl) (keep_sift (bs := [F]) (by kernel_rfl)) (h_call (by kernel_rfl) rfl ?_)
    have hml := RT.sizes_length (bmeld ltB a (g :: b))
    have hms := bmeld_size ltB a (g :: b)
    have hmf := RT.sizes_cons f a
    have hmg := RT.sizes_cons g b
    refine (ih _ _ a (g :: b) _ _ hs4.sat ⟨_, _, _, rfl, hr.tail (by simpa using hln), hk2⟩ ⟨_, _, _, rfl, hrb, hkb⟩ (by omega) (by omega)).mono ?_
    rintro v w8 ⟨Mn, hs8, hn⟩
    obtain ⟨va, vc, vl, rfl, hv1, hv2⟩ := hn
    have hr:=hr.step hs8
    have hka:=hka.mono' EncB.mono hs8.le
    have hk2:=hk2.mono' EncB.mono hs8.le
    have hf:=hf.mono' EncB.mono hs8.le
    have hrb:=hrb.step hs8
    have hkb2:=hkb2.mono' EncB.mono hs8.le
    have hg:=hg.mono' EncB.mono hs8.le
    have hT:=hT.then hs8
    have hz8 := hs8.size
    refine ⟨(by repeat' first | exact trivial | exact ((hr _ _ (Step.refl _ hT.sat)).cell (u := .pointer fq) (j := (0 : Int).toNat * 1) rfl) | assumption | refine all_keep ?_ | refine And.intro ?_ ?_), ?_⟩
    have hTz := hT.size
    refine Dh 3 511 rfl (by kernel_rfl) (keep_sift (bs := [T]) (by kernel_rfl)) (h_buildO (e := 311) (size := 1) (zs := [(.pointer none)]) (cs := [_]) (by kernel_rfl) (by kernel_rfl) (by kernel_rfl) rfl hs8.sat rfl rfl fun bB w9 hs9 hoB eB => ?_)
    have hr:=hr.step hs9
    have hka:=hka.mono' EncB.mono hs9.le
    have hk2:=hk2.mono' EncB.mono hs9.le
    have hf:=hf.mono' EncB.mono hs9.le
    have hrb:=hrb.step hs9
    have hkb2:=hkb2.mono' EncB.mono hs9.le
    have hg:=hg.mono' EncB.mono hs9.le
    have hv1:=hv1.step hs9
    have hv2:=hv2.mono' EncB.mono hs9.le
    have hT:=hT.then hs9
    have hz9 := hs9.size
    refine ⟨trivial, ?_⟩
    have hbb := Own.buf hoB (n := 1) (size := 1) rfl (by decide)
    refine Dh 9 1023 rfl (by kernel_rfl) rfl (h_append (e := 311) (size := 1) (bytes := 8) (by kernel_rfl) hs9.sat hbb (hv1.now hs9.sat) rfl rfl (ptrs_one _) (by omega) rfl fun sv w10 hs10 hbu hor => ?_)
    have hT:=hT.trans hs10 (fun k hk h => by have h2 : bB = k := Option.some.inj h; omega)
    have hbs := hbu.rds
    have hka:=hka.mono' EncB.mono hs10.le
    have hk2:=hk2.mono' EncB.mono hs10.le
    have hf:=hf.mono' EncB.mono hs10.le
    have hkb2:=hkb2.mono' EncB.mono hs10.le
    have hg:=hg.mono' EncB.mono hs10.le
    have hv2:=hv2.mono' EncB.mono hs10.le
    obtain ⟨sva, svc, rfl, _, _⟩ := hbu.slice
    refine ⟨trivial, ?_⟩
    refine Da 10 2047 rfl (by kernel_rfl) rfl ?_
    refine Dd (by kernel_rfl) ?_
    refine ⟨_, (.cons rfl (.nil _)), _, rfl, _, hT, ?_⟩
    rw [show bmeld ltB (f :: a) (g :: b) = f :: bmeld ltB a (g :: b) from by rw [bmeld, if_pos hc2]]
    exact ⟨sva, svc, _, congrArg (fun k => Value.slice sva k svc) (by simp <;> omega), hbs.cast (congrArg (fun k => Value.slice sva k svc) (by simp <;> omega)) (by simp <;> omega) rfl, treps_cons.2 ⟨_, _, rfl, hf, hv2⟩⟩
  rintro l2 w2 ⟨v, rfl, M2, hT2, hsr⟩
  refine cw_ret ?_
  exact ⟨_, (res_tmp rfl res_nil), M2, hT2, hsr⟩
 ·
  replace hc2 : ¬ f.rank < g.rank := by have := of_decide_eq_false hc2; omega
  refine cw_dr (by kernel_rfl) fun _ κ => ?_
  have hs11 := Step.drew hs3.sat
  have hz11 := hs11.size
  have hr:=hr.step hs11
  have hka:=hka.mono' EncB.mono hs11.le
  have hk2:=hk2.mono' EncB.mono hs11.le
  have hf:=hf.mono' EncB.mono hs11.le
  have hrb:=hrb.step hs11
  have hkb2:=hkb2.mono' EncB.mono hs11.le
  have hg:=hg.mono' EncB.mono hs11.le
  have hT:=hT.then hs11
  refine Dm 0 1 rfl (by kernel_rfl) rfl ?_
  refine Dq 1 3 rfl (by kernel_rfl) (fun _ => (q_indexAddr (e := 311) (size := 1) (by kernel_rfl) (by kernel_rfl) rfl rfl (by omega) (by omega))) ?_
  refine Dl1 2 7 rfl (by kernel_rfl) (by kernel_rfl) rfl ((hrb _ _ (Step.refl _ hT.sat)).cell (u := .pointer gq) (j := (0 : Int).toNat * 1) rfl) ?_
  refine Dm 4 23 rfl (by kernel_rfl) rfl ?_
  refine Dq 5 55 rfl (by kernel_rfl) (fun _ => (q_indexAddr (e := 311) (size := 1) (by kernel_rfl) (by kernel_rfl) rfl rfl (by omega) (by omega))) ?_
  refine Dl1 6 119 rfl (by kernel_rfl) (by kernel_rfl) rfl ((hr _ _ (Step.refl _ hT.sat)).cell (u := .pointer fq) (j := (0 : Int).toNat * 1) rfl) ?_
  refine Dh 3 127 rfl (by kernel_rfl) (keep_sift (bs := [F,T]) (by kernel_rfl)) (h_call (by kernel_rfl) rfl ?_)
  refine (th_rank hs11.sat hg).mono ?_
  rintro _ w12 ⟨rfl, hs12⟩
  have hr:=hr.step hs12
  have hka:=hka.mono' EncB.mono hs12.le
  have hk2:=hk2.mono' EncB.mono hs12.le
  have hf:=hf.mono' EncB.mono hs12.le
  have hrb:=hrb.step hs12
  have hkb2:=hkb2.mono' EncB.mono hs12.le
  have hg:=hg.mono' EncB.mono hs12.le
  have hT:=hT.then hs12
  have hz12 := hs12.size
  refine ⟨(by repeat' first | exact trivial | exact ((hrb _ _ (Step.refl _ hT.sat)).cell (u := .pointer gq) (j := (0 : Int).toNat * 1) rfl) | exact ((hr _ _ (Step.refl _ hT.sat)).cell (u := .pointer fq) (j := (0 : Int).toNat * 1) rfl) | assumption | refine all_keep ?_ | refine And.intro ?_ ?_), ?_⟩
  refine Dh 7 255 rfl (by kernel_rfl) (keep_sift (bs := [T]) (by kernel_rfl)) (h_call (by kernel_rfl) rfl ?_)
  refine (th_rank hs12.sat hf).mono ?_
  rintro _ w13 ⟨rfl, hs13⟩
  have hr:=hr.step hs13
  have hka:=hka.mono' EncB.mono hs13.le
  have hk2:=hk2.mono' EncB.mono hs13.le
  have hf:=hf.mono' EncB.mono hs13.le
  have hrb:=hrb.step hs13
  have hkb2:=hkb2.mono' EncB.mono hs13.le
  have hg:=hg.mono' EncB.mono hs13.le
  have hT:=hT.then hs13
  have hz13 := hs13.size
  refine ⟨trivial, ?_⟩
  refine Dq 8 511 rfl (by kernel_rfl) (fun _ => (q_lt rfl rfl)) ?_
  refine Da 9 1023 rfl (by kernel_rfl) rfl ?_
  refine Dd (by kernel_rfl) (κ _ _ ?_)
  refine cw_cond rfl (fun hc3 => ?_) (fun hc3 => ?_)
  ·
   replace hc3 : g.rank < f.rank := by have := of_decide_eq_true hc3; omega
   refine cw_rdS (fun l2 w2 => ∃ v, l2 = [(6, v)] ∧ ∃ M2, Step Nope M w M2 w2 ∧ SRow 332 1 EncB M2 w2 (bmeld ltB (f :: a) (g :: b)) v) (by kernel_rfl) (by kernel_rfl) (by kernel_rfl) rfl rfl ?_ ?_
   ·
    have hs14 := Step.drew hs13.sat
    have hz14 := hs14.size
    have hr:=hr.step hs14
    have hka:=hka.mono' EncB.mono hs14.le
    have hk2:=hk2.mono' EncB.mono hs14.le
    have hf:=hf.mono' EncB.mono hs14.le
    have hrb:=hrb.step hs14
    have hkb2:=hkb2.mono' EncB.mono hs14.le
    have hg:=hg.mono' EncB.mono hs14.le
    have hT:=hT.then hs14
    refine Dm 0 1 rfl (by kernel_rfl) rfl ?_
    refine Dq 1 3 rfl (by kernel_rfl) (fun _ => (q_indexAddr (e := 311) (size := 1) (by kernel_rfl) (by kernel_rfl) rfl rfl (by omega) (by omega))) ?_
    refine Dl1 2 7 rfl (by kernel_rfl) (by kernel_rfl) rfl ((hrb _ _ (Step.refl _ hT.sat)).cell (u := .pointer gq) (j := (0 : Int).toNat * 1) rfl) ?_
    refine Dm 4 23 rfl (by kernel_rfl) rfl ?_
    refine Dm 5 55 rfl (by kernel_rfl) rfl ?_
    refine Dm 6 119 rfl (by kernel_rfl) rfl ?_
    refine Dq 7 247 rfl (by kernel_rfl) (fun _ => (q_slice (e := 311) (size := 1) (k' := .i64) (by kernel_rfl) (by kernel_rfl) rfl rfl rfl (by omega) (by omega) (by omega))) ?_
    refine at_two (i := 3) (j := 8) (by kernel_rfl) ?_ ?_
    ·
     have hTz := hT.size
     refine Dah 3 255 rfl (by kernel_rfl) (keep_sift (bs := [T]) (by kernel_rfl)) (h_buildO (e := 311) (size := 1) (zs := [(.pointer none)]) (cs := [_]) (by kernel_rfl) (by kernel_rfl) (by kernel_rfl) rfl hs14.sat rfl rfl fun bB w15 hs15 hoB eB => ?_)
     have hr:=hr.step hs15
     have hka:=hka.mono' EncB.mono hs15.le
     have hk2:=hk2.mono' EncB.mono hs15.le
     have hf:=hf.mono' EncB.mono hs15.le
     have hrb:=hrb.step hs15
     have hkb2:=hkb2.mono' EncB.mono hs15.le
     have hg:=hg.mono' EncB.mono hs15.le
     have hT:=hT.then hs15
     have hz15 := hs15.size
     refine ⟨trivial, ?_⟩
     refine Dh 8 511 rfl (by kernel_rfl) rfl (h_call (by kernel_rfl) rfl ?_)
     have hml := RT.sizes_length (bmeld ltB (f :: a) b)
     have hms := bmeld_size ltB (f :: a) b
     have hmf := RT.sizes_cons f a
     have hmg := RT.sizes_cons g b
     refine (ih _ _ (f :: a) b _ _ hs15.sat ⟨_, _, _, rfl, hr, hka⟩ ⟨_, _, _, rfl, hrb.tail (by simpa using hlnb), hkb2⟩ (by omega) (by omega)).mono ?_
     rintro v w16 ⟨Mn, hs16, hn⟩
     obtain ⟨va, vc, vl, rfl, hv1, hv2⟩ := hn
     have hr:=hr.step hs16
     have hka:=hka.mono' EncB.mono hs16.le
     have hk2:=hk2.mono' EncB.mono hs16.le
     have hf:=hf.mono' EncB.mono hs16.le
     have hrb:=hrb.step hs16
     have hkb2:=hkb2.mono' EncB.mono hs16.le
     have hg:=hg.mono' EncB.mono hs16.le
     have hoB:=hoB.then hs16
     have hT:=hT.then hs16
     have hz16 := hs16.size
     refine ⟨trivial, ?_⟩
     have hbb := Own.buf hoB (n := 1) (size := 1) rfl (by decide)
     refine Dh 9 1023 rfl (by kernel_rfl) rfl (h_append (e := 311) (size := 1) (bytes := 8) (by kernel_rfl) hs16.sat hbb (hv1.now hs16.sat) rfl rfl (ptrs_one _) (by omega) rfl fun sv w17 hs17 hbu hor => ?_)
     have hT:=hT.trans hs17 (fun k hk h => by have h2 : bB = k := Option.some.inj h; omega)
     have hbs := hbu.rds
     have hka:=hka.mono' EncB.mono hs17.le
     have hk2:=hk2.mono' EncB.mono hs17.le
     have hf:=hf.mono' EncB.mono hs17.le
     have hkb2:=hkb2.mono' EncB.mono hs17.le
     have hg:=hg.mono' EncB.mono hs17.le
     have hv2:=hv2.mono' EncB.mono hs17.le
     obtain ⟨sva, svc, rfl, _, _⟩ := hbu.slice
     refine ⟨trivial, ?_⟩
     refine Da 10 2047 rfl (by kernel_rfl) rfl ?_
     refine Dd (by kernel_rfl) ?_
     refine ⟨_, (.cons rfl (.nil _)), _, rfl, _, hT, ?_⟩
     rw [show bmeld ltB (f :: a) (g :: b) = g :: bmeld ltB (f :: a) b from by rw [bmeld, if_neg hc2, if_pos hc3]]
     exact ⟨sva, svc, _, congrArg (fun k => Value.slice sva k svc) (by simp <;> omega), hbs.cast (congrArg (fun k => Value.slice sva k svc) (by simp <;> omega)) (by simp <;> omega) rfl, treps_cons.2 ⟨_, _, rfl, hg, hv2⟩⟩
    ·
     refine Dah 8 503 rfl (by kernel_rfl) (keep_sift (bs := [F]) (by kernel_rfl)) (h_call (by kernel_rfl) rfl ?_)
     have hml := RT.sizes_length (bmeld ltB (f :: a) b)
     have hms := bmeld_size ltB (f :: a) b
     have hmf := RT.sizes_cons f a
     have hmg := RT.sizes_cons g b
     refine (ih _ _ (f :: a) b _ _ hs14.sat ⟨_, _, _, rfl, hr, hka⟩ ⟨_, _, _, rfl, hrb.tail (by simpa using hlnb), hkb2⟩ (by omega) (by omega)).mono ?_
     rintro v w18 ⟨Mn, hs18, hn⟩
     obtain ⟨va, vc, vl, rfl, hv1, hv2⟩ := hn
     have hr:=hr.step hs18
     have hk2:=hk2.mono' EncB.mono hs18.le
     have hf:=hf.mono' EncB.mono hs18.le
     have hrb:=hrb.step hs18
     have hkb2:=hkb2.mono' EncB.mono hs18.le
     have hg:=hg.mono' EncB.mono hs18.le
     have hT:=hT.then hs18
     have hz18 := hs18.size
     refine ⟨(by repeat' first | exact trivial | exact ((hrb _ _ (Step.refl _ hT.sat)).cell (u := .pointer gq) (j := (0 : Int).toNat * 1) rfl) | assumption | refine all_keep ?_ | refine And.intro ?_ ?_), ?_⟩
     have hTz := hT.size
     refine Dh 3 511 rfl (by kernel_rfl) (keep_sift (bs := [T]) (by kernel_rfl)) (h_buildO (e := 311) (size := 1) (zs := [(.pointer none)]) (cs := [_]) (by kernel_rfl) (by kernel_rfl) (by kernel_rfl) rfl hs18.sat rfl rfl fun bB w19 hs19 hoB eB => ?_)
     have hr:=hr.step hs19
     have hk2:=hk2.mono' EncB.mono hs19.le
     have hf:=hf.mono' EncB.mono hs19.le
     have hrb:=hrb.step hs19
     have hkb2:=hkb2.mono' EncB.mono hs19.le
     have hg:=hg.mono' EncB.mono hs19.le
     have hv1:=hv1.step hs19
     have hv2:=hv2.mono' EncB.mono hs19.le
     have hT:=hT.then hs19
     have hz19 := hs19.size
     refine ⟨trivial, ?_⟩
     have hbb := Own.buf hoB (n := 1) (size := 1) rfl (by decide)
     refine Dh 9 1023 rfl (by kernel_rfl) rfl (h_append (e := 311) (size := 1) (bytes := 8) (by kernel_rfl) hs19.sat hbb (hv1.now hs19.sat) rfl rfl (ptrs_one _) (by omega) rfl fun sv w20 hs20 hbu hor => ?_)
     have hT:=hT.trans hs20 (fun k hk h => by have h2 : bB = k := Option.some.inj h; omega)
     have hbs := hbu.rds
     have hk2:=hk2.mono' EncB.mono hs20.le
     have hf:=hf.mono' EncB.mono hs20.le
     have hkb2:=hkb2.mono' EncB.mono hs20.le
     have hg:=hg.mono' EncB.mono hs20.le
     have hv2:=hv2.mono' EncB.mono hs20.le
     obtain ⟨sva, svc, rfl, _, _⟩ := hbu.slice
     refine ⟨trivial, ?_⟩
     refine Da 10 2047 rfl (by kernel_rfl) rfl ?_
     refine Dd (by kernel_rfl) ?_
     refine ⟨_, (.cons rfl (.nil _)), _, rfl, _, hT, ?_⟩
     rw [show bmeld ltB (f :: a) (g :: b) = g :: bmeld ltB (f :: a) b from by rw [bmeld, if_neg hc2, if_pos hc3]]
     exact ⟨sva, svc, _, congrArg (fun k => Value.slice sva k svc) (by simp <;> omega), hbs.cast (congrArg (fun k => Value.slice sva k svc) (by simp <;> omega)) (by simp <;> omega) rfl, treps_cons.2 ⟨_, _, rfl, hg, hv2⟩⟩
   rintro l2 w2 ⟨v, rfl, M2, hT2, hsr⟩
   refine cw_ret ?_
   exact ⟨_, (res_tmp rfl res_nil), M2, hT2, hsr⟩
  ·
   replace hc3 : ¬ g.rank < f.rank := by have := of_decide_eq_false hc3; omega
   refine cw_skip ?_
   refine hK2 _ _ ?_
   refine cw_dr (by kernel_rfl) fun _ κ => ?_
   have hs21 := Step.drew hs13.sat
   have hz21 := hs21.size
   have hr:=hr.step hs21
   have hk2:=hk2.mono' EncB.mono hs21.le
   have hf:=hf.mono' EncB.mono hs21.le
   have hrb:=hrb.step hs21
   have hkb2:=hkb2.mono' EncB.mono hs21.le
   have hg:=hg.mono' EncB.mono hs21.le
   have hT:=hT.then hs21
   refine Dm 0 1 rfl (by kernel_rfl) rfl ?_
   refine Dm 1 3 rfl (by kernel_rfl) rfl ?_
   refine Dq 2 7 rfl (by kernel_rfl) (fun _ => (q_slice (e := 311) (size := 1) (k' := .i64) (by kernel_rfl) (by kernel_rfl) rfl rfl rfl (by omega) (by omega) (by omega))) ?_
   refine Dm 3 15 rfl (by kernel_rfl) rfl ?_
   refine Dq 4 31 rfl (by kernel_rfl) (fun _ => (q_slice (e := 311) (size := 1) (k' := .i64) (by kernel_rfl) (by kernel_rfl) rfl rfl rfl (by omega) (by omega) (by omega))) ?_
   refine Dh 5 63 rfl (by kernel_rfl) rfl (h_call (by kernel_rfl) rfl ?_)
   have hml := RT.sizes_length (bmeld ltB a b)
   have hms := bmeld_size ltB a b
   have hmf := RT.sizes_cons f a
   have hmg := RT.sizes_cons g b
   refine (ih _ _ a b _ _ hs21.sat ⟨_, _, _, rfl, hr.tail (by simpa using hln), hk2⟩ ⟨_, _, _, rfl, hrb.tail (by simpa using hlnb), hkb2⟩ (by omega) (by omega)).mono ?_
   rintro v w22 ⟨Mn, hs22, hn⟩
   obtain ⟨va, vc, vl, rfl, hv1, hv2⟩ := hn
   have hr:=hr.step hs22
   have hf:=hf.mono' EncB.mono hs22.le
   have hrb:=hrb.step hs22
   have hg:=hg.mono' EncB.mono hs22.le
   have hT:=hT.then hs22
   have hz22 := hs22.size
   refine ⟨trivial, ?_⟩
   refine Da 6 127 rfl (by kernel_rfl) rfl ?_
   refine Dd (by kernel_rfl) (κ _ _ ?_)
   refine cw_dr (by kernel_rfl) fun _ κ => ?_
   have hs23 := Step.drew hs22.sat
   have hz23 := hs23.size
   have hr:=hr.step hs23
   have hf:=hf.mono' EncB.mono hs23.le
   have hrb:=hrb.step hs23
   have hg:=hg.mono' EncB.mono hs23.le
   have hv1:=hv1.step hs23
   have hv2:=hv2.mono' EncB.mono hs23.le
   have hT:=hT.then hs23
   refine Dm 0 1 rfl (by kernel_rfl) rfl ?_
   refine Dm 1 3 rfl (by kernel_rfl) rfl ?_
   refine Dm 2 7 rfl (by kernel_rfl) rfl ?_
   refine Dq 3 15 rfl (by kernel_rfl) (fun _ => (q_indexAddr (e := 311) (size := 1) (by kernel_rfl) (by kernel_rfl) rfl rfl (by omega) (by omega))) ?_
   refine Dl1 4 31 rfl (by kernel_rfl) (by kernel_rfl) rfl ((hr _ _ (Step.refl _ hT.sat)).cell (u := .pointer fq) (j := (0 : Int).toNat * 1) rfl) ?_
   refine Dm 5 63 rfl (by kernel_rfl) rfl ?_
   refine Dq 6 127 rfl (by kernel_rfl) (fun _ => (q_indexAddr (e := 311) (size := 1) (by kernel_rfl) (by kernel_rfl) rfl rfl (by omega) (by omega))) ?_
   refine Dl1 7 255 rfl (by kernel_rfl) (by kernel_rfl) rfl ((hrb _ _ (Step.refl _ hT.sat)).cell (u := .pointer gq) (j := (0 : Int).toNat * 1) rfl) ?_
   refine Dm 9 767 rfl (by kernel_rfl) rfl ?_
   refine Dh 8 1023 rfl (by kernel_rfl) (keep_sift (bs := [T,T]) (by kernel_rfl)) (h_call (by kernel_rfl) rfl ?_)
   refine (th_link hs23.sat hf hg (by omega)).mono ?_
   rintro _ w24 ⟨qn, Mn, rfl, hs24, hn⟩
   have hv1:=hv1.step hs24
   have hv2:=hv2.mono' EncB.mono hs24.le
   have hT:=hT.then hs24
   have hz24 := hs24.size
   refine ⟨trivial, ?_⟩
   refine Dh 10 2047 rfl (by kernel_rfl) rfl (h_call (by kernel_rfl) rfl ?_)
   refine (sh_put hs24.sat hn ⟨_, _, _, rfl, hv1, hv2⟩ (by rw [RT.link_size]; omega)).mono ?_
   rintro v w25 ⟨Mp, hs25, hp⟩
   obtain ⟨pa, pc, pl, rfl, hp1, hp2⟩ := hp
   have hT:=hT.then hs25
   have hz25 := hs25.size
   refine ⟨trivial, ?_⟩
   refine Da 11 4095 rfl (by kernel_rfl) rfl ?_
   refine Dd (by kernel_rfl) (κ _ _ ?_)
   refine cw_ret ?_
   rw [show bmeld ltB (f :: a) (g :: b) = bput ltB (RT.link ltB f g) (bmeld ltB a b) from by rw [bmeld, if_neg hc2, if_neg hc3]]
   exact ⟨_, (res_tmp rfl res_nil), _, hT, _, _, _, rfl, hp1, hp2⟩
theorem sh_meld_all : ∀ k, SMeldh k
 | 0 => fun _ _ _ _ _ _ _ _ _ h _ => absurd h (Nat.not_lt_zero _)
 | k + 1 => fun w M a b va vb hs ha hb hk hz => by
  cases a with
  | nil => obtain ⟨_, _, _, rfl, _, _⟩ := ha; rw [show bmeld ltB [] b = b by rw [bmeld]]; exact sh_meld_a hs hb
  | cons f a =>
   cases b with
   | nil => obtain ⟨_, _, _, rfl, _, _⟩ := hb; rw [show bmeld ltB (f :: a) [] = f :: a by rw [bmeld]]; exact sh_meld_b hs ha
   | cons g b => exact sh_meld_c (sh_meld_all k) hs ha hb hk hz
theorem sh_rmeld {w : World} {M : Mem} {a b : List (RT Bt)} {va vb : Value} (hs : Sat M w) (ha : SRow 332 1 EncB M w a va) (hb : SRow 332 1 EncB M w b vb) (hz : RT.sizes a + RT.sizes b ≤ 1000000000) :
  Does Tryz.prog 246 #[.pointer none, va, vb] w (fun v w' => ∃ M', Step Nope M w M' w' ∧ SRow 332 1 EncB M' w' (bmeld ltB a b) v) := sh_meld_all _ _ _ _ _ _ _ hs ha hb (Nat.lt_succ_self _) hz
theorem ch_ofn {w : World} {M : Mem} {l : List (Option Addr)} {sa : Option Addr} {n sc : Nat} (hs : Sat M w) (hn : l.length = n) (hr : Rds M w 1 (.slice sa n sc) n (ptrs l)) (hz : n ≤ 1000000000) :
  Does Tryz.prog 245 #[.slice sa n sc] w (fun v w' => ∃ q M', v = .agg #[.pointer q] ∧ Step Nope M w M' w' ∧ CRep 330 M' l (.pointer q)) := by
 subst hn; exact ch_of hs hr hz
theorem sh_meld {w : World} {M : Mem} {ts us : List (RT Bt)} {q q2 : Option Addr} (hs : Sat M w) (h : FRep 330 332 1 EncB M ts q) (h2 : FRep 330 332 1 EncB M us q2) (hz : RT.sizes ts + RT.sizes us ≤ 1000000000) :
  Does Tryz.prog 227 #[.agg #[.pointer q], .pointer none, .agg #[.pointer q2]] w (fun v w' => ∃ q M', v = .agg #[.pointer q] ∧ Step Nope M w M' w' ∧ FRep 330 332 1 EncB M' (smeld ltB ts us) q) := by
 have hT := Step.refl Nope hs
 refine fn_enter Tryz.func227 rfl (rs := [.cell 6 294]) rfl rfl rfl rfl ?_
 refine cw_rs fun _ κ => ?_
 refine as_h rfl (h_boxM hs rfl rfl fun b1 M1 w1 hs1 hb1 e1 => ?_)
 have h:=h.mono' EncB.mono hs1.le
 have h2:=h2.mono' EncB.mono hs1.le
 have hT:=hT.then hs1
 have hz1 := hs1.size
 refine as_h rfl (h_boxM hs1.sat rfl rfl fun b2 M2 w2 hs2 hb2 e2 => ?_)
 have h:=h.mono' EncB.mono hs2.le
 have h2:=h2.mono' EncB.mono hs2.le
 have hb1:=hs2.le _ _ hb1
 have hT:=hT.then hs2
 have hz2 := hs2.size
 have hqar := hT.size
 refine as_h rfl (h_allocO (z := (.agg #[(.pointer none)])) hs2.sat (by kernel_rfl) rfl fun br w3 hs3 hor er => ?_)
 have h:=h.mono' EncB.mono hs3.le
 have h2:=h2.mono' EncB.mono hs3.le
 have hb1:=hs3.le _ _ hb1
 have hb2:=hs3.le _ _ hb2
 have hT:=hT.then hs3
 have hz3 := hs3.size
 have hlr := hor.1.lt
 refine as_nil (κ _ _ ?_)
 refine cw_rs fun _ κ => ?_
 refine Sm rfl rfl ?_
 refine Sf 0 rfl (by kernel_rfl) rfl ?_
 refine Sc 1 rfl (by kernel_rfl) rfl (by exact BlkR.cells (hs3.sat _ _ _ hb1) rfl) ?_
 refine as_h rfl (h_call (by kernel_rfl) rfl ?_)
 obtain ⟨l0, hc0, hk0, hll0, hlz0⟩ := h.len
 refine (ch_all hs3.sat hc0 (by omega)).mono ?_
 rintro av w4 ⟨Ma0, hs4, hba, hfa⟩
 have h:=h.mono' EncB.mono hs4.le
 have h2:=h2.mono' EncB.mono hs4.le
 have hb2:=hs4.le _ _ hb2
 have hor:=hor.then hs4
 have hk0:=hk0.mono' EncB.mono hs4.le
 have hT:=hT.then hs4
 have hz4 := hs4.size
 rw [hll0] at hba
 obtain ⟨aa, ac, rfl, _, _⟩ := hba.slice
 have hrr := hba.rds
 refine as_h rfl (h_call (by kernel_rfl) rfl ?_)
 refine (sh_level hs4.sat ⟨_, _, _, rfl, hrr, hk0⟩ (by omega)).mono ?_
 rintro v0 w5 ⟨Ml0, hs5, hlv⟩
 obtain ⟨xa0, xc0, xl0, rfl, hx0, hy0⟩ := hlv
 have h:=h.mono' EncB.mono hs5.le
 have h2:=h2.mono' EncB.mono hs5.le
 have hb2:=hs5.le _ _ hb2
 have hor:=hor.then hs5
 have hrr:=hrr.step hs5
 have hT:=hT.then hs5
 have hz5 := hs5.size
 refine Sa rfl rfl ?_
 refine as_nil (κ _ _ ?_)
 refine cw_rs fun _ κ => ?_
 refine Sm rfl rfl ?_
 refine Sf 0 rfl (by kernel_rfl) rfl ?_
 refine Sc 1 rfl (by kernel_rfl) rfl (by exact BlkR.cells (hs5.sat _ _ _ hb2) rfl) ?_
 refine as_h rfl (h_call (by kernel_rfl) rfl ?_)
 obtain ⟨l1, hc1, hk1, hll1, hlz1⟩ := h2.len
 refine (ch_all hs5.sat hc1 (by omega)).mono ?_
 rintro av w6 ⟨Ma1, hs6, hba, hfa⟩
 have h:=h.mono' EncB.mono hs6.le
 have hor:=hor.then hs6
 have hrr:=hrr.step hs6
 have hx0:=hx0.step hs6
 have hy0:=hy0.mono' EncB.mono hs6.le
 have hk1:=hk1.mono' EncB.mono hs6.le
 have hT:=hT.then hs6
 have hz6 := hs6.size
 rw [hll1] at hba
 obtain ⟨aa, ac, rfl, _, _⟩ := hba.slice
 have hrr := hba.rds
 refine as_h rfl (h_call (by kernel_rfl) rfl ?_)
 refine (sh_level hs6.sat ⟨_, _, _, rfl, hrr, hk1⟩ (by omega)).mono ?_
 rintro v1 w7 ⟨Ml1, hs7, hlv⟩
 obtain ⟨xa1, xc1, xl1, rfl, hx1, hy1⟩ := hlv
 have h:=h.mono' EncB.mono hs7.le
 have hor:=hor.then hs7
 have hx0:=hx0.step hs7
 have hy0:=hy0.mono' EncB.mono hs7.le
 have hT:=hT.then hs7
 have hz7 := hs7.size
 refine Sa rfl rfl ?_
 refine as_nil (κ _ _ ?_)
 refine cw_rs fun _ κ => ?_
 refine Sm rfl rfl ?_
 refine Sm rfl rfl ?_
 refine Sm rfl rfl ?_
 refine as_h rfl (h_call (by kernel_rfl) rfl ?_)
 have hs1_ := slevel_size ltB ts
 have hs2_ := slevel_size ltB us
 refine (sh_rmeld hs7.sat ⟨_, _, _, rfl, hx0, hy0⟩ ⟨_, _, _, rfl, hx1, hy1⟩ (by omega)).mono ?_
 rintro vm w8 ⟨Mm, hs8, hm⟩
 obtain ⟨ma, mc, ml, rfl, hm1, hm2⟩ := hm
 have h:=h.mono' EncB.mono hs8.le
 have hor:=hor.then hs8
 have hT:=hT.then hs8
 have hz8 := hs8.size
 refine as_h rfl (h_call (by kernel_rfl) rfl ?_)
 have hml := hm2.length
 have hmz := RT.sizes_length (bmeld ltB (slevel ltB ts) (slevel ltB us))
 have hms := bmeld_size ltB (slevel ltB ts) (slevel ltB us)
 refine (ch_ofn hs8.sat hml hm1 (by omega)).mono ?_
 rintro _ w9 ⟨qf, Mf, rfl, hs9, hf⟩
 have h:=h.mono' EncB.mono hs9.le
 have hor:=hor.then hs9
 have hm2:=hm2.mono' EncB.mono hs9.le
 have hT:=hT.then hs9
 have hz9 := hs9.size
 refine as_q rfl rfl (q_build (zs := [(.pointer none)]) (places := [(0, 1)]) (cs := [_]) (by kernel_rfl) (by kernel_rfl) rfl rfl) ?_
 refine as_h0 (h_store hs9.sat hor rfl rfl rfl (by kernel_rfl) rfl rfl rfl fun w10 hs10 hn10 => ?_)
 have h:=h.mono' EncB.mono hs10.le
 have hm2:=hm2.mono' EncB.mono hs10.le
 have hf:=hf.mono hs10.le
 clear hor; have hor := hn10; clear hn10
 have hT:=hT.own hs10 (by omega)
 have hz10 := hs10.size
 refine as_nil (κ _ _ ?_)
 refine cw_ret ?_
 exact ⟨_, (res_cell rfl (loadVar_n (n := 1) (by kernel_rfl) (by exact Blk.cells hor.1 rfl)) res_nil), _, _, rfl, hT, _, hf, hm2⟩
end Go.Proofs.YtgcgjpfjjgalmaaGreat
