/- Steps of the proof that the law of this claim answers true, part 5. No conditions. -/
import Derived.Test.YtgcgjpfjjgalmaaGreatRows
import Derived.KernelRfl
import Derived.Test.YtgcgjpfjjgalmaaGreatCHeapNoneD
/- Pairing heaps of two elements as texts, part 1. -/
namespace Go.Proofs.YtgcgjpfjjgalmaaGreat
open Go Go.Eng
theorem fmt_0 {w : World} {M : Mem} (hs : Sat M w) : Does Tryz.prog 97 #[.int .i64 0, .int .i64 10] w (fun v w' => v = .string ⟨[48].toArray⟩ ∧ Step Nope M w M w') :=
  Does.of_calls (Tryz.strconv_FormatInt_10_small 0 (by decide) w) fun e w' ⟨he, hw⟩ => ⟨_, he, by rw [dec_small (by decide)]; rfl, by subst hw; exact Step.refl _ hs⟩
theorem fmt_1 {w : World} {M : Mem} (hs : Sat M w) : Does Tryz.prog 97 #[.int .i64 1, .int .i64 10] w (fun v w' => v = .string ⟨[49].toArray⟩ ∧ Step Nope M w M w') :=
  Does.of_calls (Tryz.strconv_FormatInt_10_small 1 (by decide) w) fun e w' ⟨he, hw⟩ => ⟨_, he, by rw [dec_small (by decide)]; rfl, by subst hw; exact Step.refl _ hs⟩
theorem fmt_2 {w : World} {M : Mem} (hs : Sat M w) : Does Tryz.prog 97 #[.int .i64 2, .int .i64 10] w (fun v w' => v = .string ⟨[50].toArray⟩ ∧ Step Nope M w M w') :=
  Does.of_calls (Tryz.strconv_FormatInt_10_small 2 (by decide) w) fun e w' ⟨he, hw⟩ => ⟨_, he, by rw [dec_small (by decide)]; rfl, by subst hw; exact Step.refl _ hs⟩
theorem txt_1 {w : World} {M : Mem} (hs : Sat M w) :
    Does Tryz.prog 96 #[.agg (elc (1, 0)).toArray] w (fun v w' => v = .string ⟨[49, 58, 48].toArray⟩ ∧ Step Nope M w M w') := by
  have hT := Step.refl Nope hs
  refine fn_enter Tryz.func96 rfl (rs := [.tmp 2]) rfl rfl rfl rfl ?_
  refine cw_rs fun _ κ => ?_
  refine as_h rfl (h_boxM hs rfl rfl fun b1 M1 w1 hs1 hb1 e1 => ?_)
  replace hT := hT.then hs1
  refine Sa rfl rfl ?_
  refine as_nil (κ _ _ ?_)
  refine cw_dr (by kernel_rfl) fun _ κ => ?_
  have hs2 := Step.drew hs1.sat
  replace hb1 := hs2.le _ _ hb1
  replace hT := hT.then hs2
  refine Df 0 1 0 rfl (by kernel_rfl) (by kernel_rfl) rfl ?_
  refine Dl1 1 3 rfl (by kernel_rfl) (by kernel_rfl) rfl (by exact BlkR.cell (hs2.sat _ _ _ hb1) rfl) ?_
  refine Df 4 19 1 rfl (by kernel_rfl) (by kernel_rfl) rfl ?_
  refine Dl1 5 51 rfl (by kernel_rfl) (by kernel_rfl) rfl (by exact BlkR.cell (hs2.sat _ _ _ hb1) rfl) ?_
  refine Dh 2 55 rfl (by kernel_rfl) (keep_sift (bs := [F,T]) (by kernel_rfl)) (h_call (by kernel_rfl) rfl ?_)
  refine (fmt_1 hs2.sat).mono ?_
  rintro _ w3 ⟨rfl, hs3⟩
  replace hb1 := hs3.le _ _ hb1
  replace hT := hT.then hs3
  refine ⟨(by repeat' first | exact trivial | exact BlkR.cell (hs3.sat _ _ _ hb1) rfl | exact BlkR.cells (hs3.sat _ _ _ hb1) rfl | assumption | refine all_keep ?_ | refine And.intro ?_ ?_), ?_⟩
  refine Dq 3 63 rfl (by kernel_rfl) (fun _ => (q_catL rfl (show _ = some (Value.string ⟨[58].toArray⟩) from rfl) (by decide))) ?_
  refine Dh 6 127 rfl (by kernel_rfl) (keep_sift (bs := [T]) (by kernel_rfl)) (h_call (by kernel_rfl) rfl ?_)
  refine (fmt_0 hs3.sat).mono ?_
  rintro _ w4 ⟨rfl, hs4⟩
  replace hT := hT.then hs4
  refine ⟨trivial, ?_⟩
  refine Dq 7 255 rfl (by kernel_rfl) (fun _ => (q_catL rfl rfl (by decide))) ?_
  refine Da 8 511 rfl (by kernel_rfl) rfl ?_
  refine Dd (by kernel_rfl) (κ _ _ ?_)
  refine cw_ret ?_
  exact ⟨_, (res_tmp rfl res_nil), rfl, hT.forget⟩
theorem txt_2 {w : World} {M : Mem} (hs : Sat M w) :
    Does Tryz.prog 96 #[.agg (elc (2, 0)).toArray] w (fun v w' => v = .string ⟨[50, 58, 48].toArray⟩ ∧ Step Nope M w M w') := by
  have hT := Step.refl Nope hs
  refine fn_enter Tryz.func96 rfl (rs := [.tmp 2]) rfl rfl rfl rfl ?_
  refine cw_rs fun _ κ => ?_
  refine as_h rfl (h_boxM hs rfl rfl fun b1 M1 w1 hs1 hb1 e1 => ?_)
  replace hT := hT.then hs1
  refine Sa rfl rfl ?_
  refine as_nil (κ _ _ ?_)
  refine cw_dr (by kernel_rfl) fun _ κ => ?_
  have hs2 := Step.drew hs1.sat
  replace hb1 := hs2.le _ _ hb1
  replace hT := hT.then hs2
  refine Df 0 1 0 rfl (by kernel_rfl) (by kernel_rfl) rfl ?_
  refine Dl1 1 3 rfl (by kernel_rfl) (by kernel_rfl) rfl (by exact BlkR.cell (hs2.sat _ _ _ hb1) rfl) ?_
  refine Df 4 19 1 rfl (by kernel_rfl) (by kernel_rfl) rfl ?_
  refine Dl1 5 51 rfl (by kernel_rfl) (by kernel_rfl) rfl (by exact BlkR.cell (hs2.sat _ _ _ hb1) rfl) ?_
  refine Dh 2 55 rfl (by kernel_rfl) (keep_sift (bs := [F,T]) (by kernel_rfl)) (h_call (by kernel_rfl) rfl ?_)
  refine (fmt_2 hs2.sat).mono ?_
  rintro _ w3 ⟨rfl, hs3⟩
  replace hb1 := hs3.le _ _ hb1
  replace hT := hT.then hs3
  refine ⟨(by repeat' first | exact trivial | exact BlkR.cell (hs3.sat _ _ _ hb1) rfl | exact BlkR.cells (hs3.sat _ _ _ hb1) rfl | assumption | refine all_keep ?_ | refine And.intro ?_ ?_), ?_⟩
  refine Dq 3 63 rfl (by kernel_rfl) (fun _ => (q_catL rfl (show _ = some (Value.string ⟨[58].toArray⟩) from rfl) (by decide))) ?_
  refine Dh 6 127 rfl (by kernel_rfl) (keep_sift (bs := [T]) (by kernel_rfl)) (h_call (by kernel_rfl) rfl ?_)
  refine (fmt_0 hs3.sat).mono ?_
  rintro _ w4 ⟨rfl, hs4⟩
  replace hT := hT.then hs4
  refine ⟨trivial, ?_⟩
  refine Dq 7 255 rfl (by kernel_rfl) (fun _ => (q_catL rfl rfl (by decide))) ?_
  refine Da 8 511 rfl (by kernel_rfl) rfl ?_
  refine Dd (by kernel_rfl) (κ _ _ ?_)
  refine cw_ret ?_
  exact ⟨_, (res_tmp rfl res_nil), rfl, hT.forget⟩
theorem join_1 {w : World} {M : Mem} {s : ByteArray} {g c : Nat} {sep : Value} (hs : Sat M w) (hb : Buf w M 9 1 (.slice (some ⟨g, 0, none⟩) 1 c) 1 [.string s]) :
    Does Tryz.prog 128 #[.slice (some ⟨g, 0, none⟩) 1 c, sep] w (fun v w' => v = .string s ∧ Step Nope M w M w') := by
  have hT := Step.refl Nope hs
  refine fn_enter Tryz.func128 rfl (rs := [.tmp 4]) rfl rfl rfl rfl ?_
  refine cw_rs fun _ κ => ?_
  refine Sa rfl rfl ?_
  refine as_nil (κ _ _ ?_)
  refine cw_seq fun _ hK2 => ?_
  refine cw_rs fun _ κ => ?_
  refine Sm rfl rfl ?_
  refine as_q rfl rfl (q_len (by kernel_rfl) rfl _) ?_
  refine as_nil (κ _ _ ?_)
  refine cw_block ?_
  refine cw_rs fun _ κ => ?_
  refine as_q rfl rfl (q_eqF rfl rfl (by decide)) ?_
  refine Sa rfl rfl ?_
  refine as_nil (κ _ _ ?_)
  refine cw_false rfl ?_
  refine cw_rs fun _ κ => ?_
  refine as_q rfl rfl (q_eqT rfl rfl (by decide)) ?_
  refine Sa rfl rfl ?_
  refine as_nil (κ _ _ ?_)
  refine cw_true rfl ?_
  refine cw_rs fun _ κ => ?_
  refine Sm rfl rfl ?_
  refine as_q rfl rfl (q_indexAddr (e := 9) (size := 1) (by kernel_rfl) (by kernel_rfl) rfl rfl (by omega) (by omega)) ?_
  refine S1 rfl (by kernel_rfl) rfl (Buf.cell hb (u := .string s) (j := (0 : Int).toNat * 1) rfl) ?_
  refine Sa rfl rfl ?_
  refine as_nil (κ _ _ ?_)
  refine cw_ret ?_
  exact ⟨_, (res_tmp rfl res_nil), rfl, hT.forget⟩
theorem join_2 {w : World} {M : Mem} {a b : List UInt8} {g c : Nat} (hs : Sat M w) (hb : Buf w M 9 1 (.slice (some ⟨g, 0, none⟩) 2 c) 2 [.string ⟨a.toArray⟩, .string ⟨b.toArray⟩]) (hl : a.length + b.length ≤ 1000) :
    Does Tryz.prog 128 #[.slice (some ⟨g, 0, none⟩) 2 c, .string ⟨[32].toArray⟩] w (fun v w' => v = .string ⟨(a ++ 32 :: b).toArray⟩ ∧ Step Nope M w M w') := by
  have hj : Lib.join ([(⟨a.toArray⟩ : ByteArray), ⟨b.toArray⟩].map (·.data.toList)) (⟨[32].toArray⟩ : ByteArray).data.toList = a ++ 32 :: b := by simp [Lib.join, List.intercalate]
  have hc : 2 ≤ c := by
    obtain ⟨_, _, h, h2, _⟩ := hb.slice
    cases h; exact h2
  refine Does.of_calls (Tryz.strings_Join g 0 c [⟨a.toArray⟩, ⟨b.toArray⟩] ⟨[32].toArray⟩ w (fun j x hj => ?_) (hb.lt g rfl) (by simp) hc (by rw [hj]; simp; omega)) fun e w' ⟨he, hw⟩ => ⟨_, he, by rw [hj], Step.of_below hs hw⟩
  match j, hj with
  | 0, hj => cases hj; exact Buf.cell hb (j := 0) rfl
  | 1, hj => cases hj; exact Buf.cell hb (j := 1) rfl
  | n + 2, hj => simp at hj
theorem p_show_leaf {w : World} {M : Mem} {q : Option Addr} (hs : Sat M w) (h : PRep 251 260 M (.node (2, 0) []) q) :
    Does Tryz.prog 165 #[.agg #[.pointer q]] w (fun v w' => v = .string ⟨[40, 50, 58, 48, 41].toArray⟩ ∧ Step Nope M w M w') := by
  have hT := Step.refl Nope hs
  obtain ⟨b, kq, al, rfl, hb, hc, hk⟩ := prep_node.1 h
  obtain rfl := preps_nil.1 hk
  refine fn_enter Tryz.func165 rfl (rs := [.tmp 2]) rfl rfl rfl rfl ?_
  refine cw_rs fun _ κ => ?_
  refine as_h rfl (h_boxM hs rfl rfl fun b1 M1 w1 hs1 hb1 e1 => ?_)
  replace hb := hs1.le _ _ hb
  replace hc := hc.mono hs1.le
  replace hT := hT.then hs1
  have hz1 := hs1.size
  refine Sa rfl rfl ?_
  refine as_nil (κ _ _ ?_)
  refine cw_seq fun _ hK2 => ?_
  refine cw_rs fun _ κ => ?_
  refine Sf 0 rfl (by kernel_rfl) rfl ?_
  refine S1 rfl (by kernel_rfl) rfl (by exact BlkR.cell (hs1.sat _ _ _ hb1) rfl) ?_
  refine as_q rfl rfl (q_eqnil (by kernel_rfl) rfl) ?_
  refine as_nil (κ _ _ ?_)
  refine cw_false rfl ?_
  refine cw_skip ?_
  refine hK2 _ _ ?_
  refine cw_rs fun _ κ => ?_
  refine Sf 0 rfl (by kernel_rfl) rfl ?_
  refine S1 rfl (by kernel_rfl) rfl (by exact BlkR.cell (hs1.sat _ _ _ hb1) rfl) ?_
  refine as_q rfl rfl (q_nilp rfl) ?_
  refine Sf 0 rfl (by kernel_rfl) rfl ?_
  refine Sc 2 rfl (by kernel_rfl) rfl (by exact BlkR.cells (hs1.sat _ _ _ hb) rfl) ?_
  refine as_h rfl (h_call (by kernel_rfl) rfl ?_)
  refine (txt_2 hs1.sat).mono ?_
  rintro _ w2 ⟨rfl, hs2⟩
  replace hb := hs2.le _ _ hb
  replace hc := hc.mono hs2.le
  replace hb1 := hs2.le _ _ hb1
  replace hT := hT.then hs2
  have hz2 := hs2.size
  refine as_h rfl (h_buildO (e := 9) (size := 1) (zs := [.string ⟨#[]⟩]) (cs := [_]) (by kernel_rfl) (by kernel_rfl) (by kernel_rfl) rfl hs2.sat rfl rfl fun bo w3 hs3 hoo eo => ?_)
  replace hb := hs3.le _ _ hb
  replace hc := hc.mono hs3.le
  replace hb1 := hs3.le _ _ hb1
  replace hT := hT.then hs3
  have hz3 := hs3.size
  have hlo := hoo.1.lt
  refine Sa rfl rfl ?_
  refine as_nil (κ _ _ ?_)
  refine cw_seq fun _ hK5 => ?_
  refine cw_rs fun _ κ => ?_
  refine Sf 0 rfl (by kernel_rfl) rfl ?_
  refine S1 rfl (by kernel_rfl) rfl (by exact BlkR.cell (hs3.sat _ _ _ hb1) rfl) ?_
  refine as_q rfl rfl (q_nilp rfl) ?_
  refine Sf 2 rfl (by kernel_rfl) rfl ?_
  refine Sc 1 rfl (by kernel_rfl) rfl (by exact BlkR.cells (hs3.sat _ _ _ hb) rfl) ?_
  refine as_h rfl (h_call (by kernel_rfl) rfl ?_)
  have hloo := hoo.1.lt
  refine (cp_all (vs := []) hs3.sat hc (by simp)).mono ?_
  rintro av w4 ⟨Ma, hs4, hba, hfa⟩
  replace hoo := hoo.then hs4
  replace hT := hT.then hs4
  have hz4 := hs4.size
  obtain ⟨aa, ac, rfl, _, _⟩ := hba.slice
  refine as_q rfl rfl (q_len (by kernel_rfl) rfl _) ?_
  refine Sm rfl rfl ?_
  refine as_nil (κ _ _ ?_)
  refine cw_block ?_
  refine cw_loop (fun mm l1 w1 => l1 = [(1, .pointer (some ⟨b1, 0, none⟩)), (3, .slice (some ⟨bo, 0, none⟩) 1 1), (21, .slice aa 0 ac), (22, .int .i64 ((0 : Nat) : Int)), (23, .int .i64 0)] ∧ Step Nope M w Ma w1 ∧ Own w1 Ma bo [.string ⟨[50, 58, 48].toArray⟩] 9) (0) [(1, .pointer (some ⟨b1, 0, none⟩)), (3, .slice (some ⟨bo, 0, none⟩) 1 1), (21, .slice aa 0 ac), (22, .int .i64 ((0 : Nat) : Int)), (23, .int .i64 0)] (.cons rfl (.cons rfl (.cons rfl (.cons rfl (.cons rfl (.nil _)))))) ?_ ?_
  · skip
    exact ⟨rfl, hT, hoo⟩
  clear hT hoo hba
  rintro mm l1 w1 ⟨rfl, hT, hoo⟩
  refine cw_rs fun _ κ => ?_
  refine as_q rfl rfl (q_ltF rfl rfl (by omega)) ?_
  refine as_nil (κ _ _ ?_)
  refine cw_seq fun _ hK8 => ?_
  refine cw_false rfl ?_
  refine cw_exit ?_
  refine hK5 _ _ ?_
  refine cw_rs fun _ κ => ?_
  refine Sm rfl rfl ?_
  refine as_h rfl (h_call (by kernel_rfl) rfl ?_)
  have hbb1 := Own.buf hoo (n := 1) (size := 1) rfl (by decide)
  refine (join_1 hT.sat hbb1).mono ?_
  rintro _ w5 ⟨rfl, hs5⟩
  replace hT := hT.then hs5
  have hz5 := hs5.size
  refine as_q rfl rfl (q_catL (show _ = some (Value.string ⟨[40].toArray⟩) from rfl) rfl (by decide)) ?_
  refine as_q rfl rfl (q_catL rfl (show _ = some (Value.string ⟨[41].toArray⟩) from rfl) (by decide)) ?_
  refine Sa rfl rfl ?_
  refine as_nil (κ _ _ ?_)
  refine cw_ret ?_
  exact ⟨_, (res_tmp rfl res_nil), rfl, hT.forget⟩
theorem p_show_one {w : World} {M : Mem} {q : Option Addr} (hs : Sat M w) (h : PRep 251 260 M (.node (1, 0) [.node (2, 0) []]) q) :
    Does Tryz.prog 165 #[.agg #[.pointer q]] w (fun v w' => v = .string ⟨[40, 49, 58, 48, 32, 40, 50, 58, 48, 41, 41].toArray⟩ ∧ Step Nope M w M w') := by
  have hT := Step.refl Nope hs
  obtain ⟨b, kq, al, rfl, hb, hc, hk⟩ := prep_node.1 h
  obtain ⟨_, qy, s, rfl, hky, hk2⟩ := preps_cons.1 hk
  obtain rfl := preps_nil.1 hk2
  refine fn_enter Tryz.func165 rfl (rs := [.tmp 2]) rfl rfl rfl rfl ?_
  refine cw_rs fun _ κ => ?_
  refine as_h rfl (h_boxM hs rfl rfl fun b1 M1 w1 hs1 hb1 e1 => ?_)
  replace hb := hs1.le _ _ hb
  replace hc := hc.mono hs1.le
  replace hky := hky.mono hs1.le
  replace hT := hT.then hs1
  have hz1 := hs1.size
  refine Sa rfl rfl ?_
  refine as_nil (κ _ _ ?_)
  refine cw_seq fun _ hK2 => ?_
  refine cw_rs fun _ κ => ?_
  refine Sf 0 rfl (by kernel_rfl) rfl ?_
  refine S1 rfl (by kernel_rfl) rfl (by exact BlkR.cell (hs1.sat _ _ _ hb1) rfl) ?_
  refine as_q rfl rfl (q_eqnil (by kernel_rfl) rfl) ?_
  refine as_nil (κ _ _ ?_)
  refine cw_false rfl ?_
  refine cw_skip ?_
  refine hK2 _ _ ?_
  refine cw_rs fun _ κ => ?_
  refine Sf 0 rfl (by kernel_rfl) rfl ?_
  refine S1 rfl (by kernel_rfl) rfl (by exact BlkR.cell (hs1.sat _ _ _ hb1) rfl) ?_
  refine as_q rfl rfl (q_nilp rfl) ?_
  refine Sf 0 rfl (by kernel_rfl) rfl ?_
  refine Sc 2 rfl (by kernel_rfl) rfl (by exact BlkR.cells (hs1.sat _ _ _ hb) rfl) ?_
  refine as_h rfl (h_call (by kernel_rfl) rfl ?_)
  refine (txt_1 hs1.sat).mono ?_
  rintro _ w2 ⟨rfl, hs2⟩
  replace hb := hs2.le _ _ hb
  replace hc := hc.mono hs2.le
  replace hky := hky.mono hs2.le
  replace hb1 := hs2.le _ _ hb1
  replace hT := hT.then hs2
  have hz2 := hs2.size
  refine as_h rfl (h_buildO (e := 9) (size := 1) (zs := [.string ⟨#[]⟩]) (cs := [_]) (by kernel_rfl) (by kernel_rfl) (by kernel_rfl) rfl hs2.sat rfl rfl fun bo w3 hs3 hoo eo => ?_)
  replace hb := hs3.le _ _ hb
  replace hc := hc.mono hs3.le
  replace hky := hky.mono hs3.le
  replace hb1 := hs3.le _ _ hb1
  replace hT := hT.then hs3
  have hz3 := hs3.size
  have hlo := hoo.1.lt
  refine Sa rfl rfl ?_
  refine as_nil (κ _ _ ?_)
  refine cw_seq fun _ hK5 => ?_
  refine cw_rs fun _ κ => ?_
  refine Sf 0 rfl (by kernel_rfl) rfl ?_
  refine S1 rfl (by kernel_rfl) rfl (by exact BlkR.cell (hs3.sat _ _ _ hb1) rfl) ?_
  refine as_q rfl rfl (q_nilp rfl) ?_
  refine Sf 2 rfl (by kernel_rfl) rfl ?_
  refine Sc 1 rfl (by kernel_rfl) rfl (by exact BlkR.cells (hs3.sat _ _ _ hb) rfl) ?_
  refine as_h rfl (h_call (by kernel_rfl) rfl ?_)
  have hloo := hoo.1.lt
  refine (cp_all (vs := [qy]) hs3.sat hc (by simp)).mono ?_
  rintro av w4 ⟨Ma, hs4, hba, hfa⟩
  replace hky := hky.mono hs4.le
  replace hoo := hoo.then hs4
  replace hT := hT.then hs4
  have hz4 := hs4.size
  obtain ⟨aa, ac, rfl, _, _⟩ := hba.slice
  refine as_q rfl rfl (q_len (by kernel_rfl) rfl _) ?_
  refine Sm rfl rfl ?_
  refine as_nil (κ _ _ ?_)
  refine cw_block ?_
  refine cw_loop (fun mm l1 w1 => (mm = 1 ∧ l1 = [(1, .pointer (some ⟨b1, 0, none⟩)), (3, .slice (some ⟨bo, 0, none⟩) 1 1), (21, .slice aa 1 ac), (22, .int .i64 ((1 : Nat) : Int)), (23, .int .i64 0)] ∧ Step Nope M w Ma w1 ∧ PRep 251 260 Ma (.node (2, 0) []) qy ∧ Buf w1 Ma 79 1 (.slice aa 1 ac) 1 (ptrs [qy]) ∧ Own w1 Ma bo [.string ⟨[49, 58, 48].toArray⟩] 9) ∨ (mm = 0 ∧ ∃ (g sc : Nat), l1 = [(1, .pointer (some ⟨b1, 0, none⟩)), (3, .slice (some ⟨g, 0, none⟩) 2 sc), (21, .slice aa 1 ac), (22, .int .i64 ((1 : Nat) : Int)), (23, .int .i64 1)] ∧ Step Nope M w Ma w1 ∧ Buf w1 Ma 9 1 (.slice (some ⟨g, 0, none⟩) 2 sc) 2 [.string ⟨[49, 58, 48].toArray⟩, .string ⟨[40, 50, 58, 48, 41].toArray⟩])) (1) [(1, .pointer (some ⟨b1, 0, none⟩)), (3, .slice (some ⟨bo, 0, none⟩) 1 1), (21, .slice aa 1 ac), (22, .int .i64 ((1 : Nat) : Int)), (23, .int .i64 0)] (.cons rfl (.cons rfl (.cons rfl (.cons rfl (.cons rfl (.nil _)))))) ?_ ?_
  · skip
    exact .inl ⟨rfl, rfl, hT, hky, hba, hoo⟩
  have hbow : w.heap.size ≤ bo := by omega
  have hfa2 : ∀ g, (Value.slice aa 1 ac).ownBlock = some g → g ≠ bo := fun g hg => by have := hfa g hg; omega
  clear hT hoo hba hky
  rintro mm l1 w1 (⟨rfl, rfl, hT, hky, hba, hoo⟩ | ⟨rfl, g, sc, rfl, hT, hbb⟩)
  · skip
    obtain ⟨ga, ca, hqa⟩ := hba.head0 (by decide)
    cases hqa
    have hlo1 := hoo.1.lt
    refine cw_rs fun _ κ => ?_
    refine as_q rfl rfl (q_lt rfl rfl) ?_
    refine as_nil (κ _ _ ?_)
    refine cw_seq fun _ hK8 => ?_
    refine cw_true rfl ?_
    refine cw_skip ?_
    refine hK8 _ _ ?_
    refine cw_seq fun _ hK9 => ?_
    refine cw_block ?_
    refine cw_rs fun _ κ => ?_
    refine as_q rfl rfl (q_indexAddr (e := 79) (size := 1) (by kernel_rfl) (by kernel_rfl) rfl rfl (by omega) (by omega)) ?_
    refine Sc 1 rfl (by kernel_rfl) rfl (cells_one (Buf.cell hba (u := .pointer qy) (j := (0 : Int).toNat * 1) rfl)) ?_
    have hbal := hba.lt
    have hqax := hT.size
    refine as_h rfl (h_allocO (z := (.agg #[(.pointer none)])) hT.sat (by kernel_rfl) rfl fun bx w5 hs5 hox ex => ?_)
    replace hky := hky.mono hs5.le
    replace hoo := hoo.then hs5
    replace hT := hT.then hs5
    have hz5 := hs5.size
    have hlx := hox.1.lt
    refine as_h0 (h_store hs5.sat hox rfl rfl rfl (by kernel_rfl) rfl rfl rfl fun w6 hs6 hn6 => ?_)
    replace hky := hky.mono hs6.le
    replace hoo := hoo.step hs6 (fun h => by have h : _ = _ := h; omega)
    clear hox; have hox := hn6; clear hn6
    replace hT := hT.own hs6 (by omega)
    have hz6 := hs6.size
    refine as_nil (κ _ _ ?_)
    refine cw_region fun _ κ => ?_
    refine Sm rfl rfl ?_
    refine Sc 1 rfl (by kernel_rfl) rfl (by exact Blk.cells hox.1 rfl) ?_
    refine as_h rfl (h_call (by kernel_rfl) rfl ?_)
    refine (p_show_leaf hs6.sat hky).mono ?_
    rintro _ w7 ⟨rfl, hs7⟩
    replace hoo := hoo.then hs7
    replace hT := hT.then hs7
    have hz7 := hs7.size
    refine as_h rfl (h_buildO (e := 9) (size := 1) (zs := [.string ⟨#[]⟩]) (cs := [_]) (by kernel_rfl) (by kernel_rfl) (by kernel_rfl) rfl hs7.sat rfl rfl fun bn w8 hs8 hon en => ?_)
    replace hoo := hoo.then hs8
    replace hT := hT.then hs8
    have hz8 := hs8.size
    have hln := hon.1.lt
    have hbb0 := Own.buf hoo (n := 1) (size := 1) rfl (by decide)
    have hrn := Buf.rd (Own.buf hon (n := 1) (size := 1) rfl (by decide))
    have hTq := hT.size
    refine as_h rfl (h_append (e := 9) (size := 1) (bytes := 16) (by kernel_rfl) hs8.sat hbb0 hrn rfl rfl (fun y hy => by obtain rfl := List.mem_singleton.1 hy; rfl) (by omega) rfl fun sv w9 hs9 hbb hor => ?_)
    replace hT := hT.trans hs9 (fun k hk h => by have h2 : bo = k := Option.some.inj h; omega)
    obtain ⟨g, sc, rfl⟩ := hbb.head0 (by decide)
    have hz_ := hs9.size
    refine Sa rfl rfl ?_
    refine as_nil (κ _ _ ?_)
    refine hK9 _ _ ?_
    refine cw_region fun _ κ => ?_
    refine as_q rfl rfl (q_addx rfl rfl (by omega) (by omega)) ?_
    refine Sm rfl rfl ?_
    refine as_nil (κ _ _ ?_)
    refine ⟨_, _, ?_, (.cons rfl (.cons rfl (.cons rfl (.cons rfl (.cons rfl (.nil _)))))), .inr ⟨rfl, g, _, rfl, hT, hbb⟩⟩
    omega
  · skip
    refine cw_rs fun _ κ => ?_
    refine as_q rfl rfl (q_lt rfl rfl) ?_
    refine as_nil (κ _ _ ?_)
    refine cw_seq fun _ hK14 => ?_
    refine cw_false rfl ?_
    refine cw_exit ?_
    refine hK5 _ _ ?_
    refine cw_rs fun _ κ => ?_
    refine Sm rfl rfl ?_
    refine as_h rfl (h_call (by kernel_rfl) rfl ?_)
    refine (join_2 hT.sat hbb (by decide)).mono ?_
    rintro _ w10 ⟨rfl, hs10⟩
    replace hT := hT.then hs10
    have hz10 := hs10.size
    refine as_q rfl rfl (q_catL (show _ = some (Value.string ⟨[40].toArray⟩) from rfl) rfl (by decide)) ?_
    refine as_q rfl rfl (q_catL rfl (show _ = some (Value.string ⟨[41].toArray⟩) from rfl) (by decide)) ?_
    refine Sa rfl rfl ?_
    refine as_nil (κ _ _ ?_)
    refine cw_ret ?_
    exact ⟨_, (res_tmp rfl res_nil), rfl, hT.forget⟩
theorem wc_show {w : World} {M : Mem} {q : Option Addr} (hs : Sat M w) (h : PRep 251 260 M (.node (1, 0) [.node (2, 0) []]) q) :
    Does Tryz.prog 180 #[.agg #[.pointer q]] w (fun v w' => v = .string ⟨[40, 49, 58, 48, 32, 40, 50, 58, 48, 41, 41].toArray⟩ ∧ Step Nope M w M w') := by
  have hT := Step.refl Nope hs
  refine fn_enter Tryz.func180 rfl (rs := [.tmp 2]) rfl rfl rfl rfl ?_
  refine cw_rs fun _ κ => ?_
  refine as_h rfl (h_boxM hs rfl rfl fun b1 M1 w1 hs1 hb1 e1 => ?_)
  replace h := h.mono hs1.le
  replace hT := hT.then hs1
  refine Sa rfl rfl ?_
  refine as_nil (κ _ _ ?_)
  refine cw_rs fun _ κ => ?_
  refine Sf 0 rfl (by kernel_rfl) rfl ?_
  refine Sc 1 rfl (by kernel_rfl) rfl (by exact BlkR.cells (hs1.sat _ _ _ hb1) rfl) ?_
  refine as_q rfl rfl (q_iface (by kernel_rfl) rfl) ?_
  refine as_h rfl (h_invoke (f := 165) (r := .agg #[.pointer q]) (by kernel_rfl) rfl rfl (by kernel_rfl) ?_)
  refine (p_show_one hs1.sat h).mono ?_
  rintro _ w2 ⟨rfl, hs2⟩
  replace h := h.mono hs2.le
  replace hT := hT.then hs2
  refine Sa rfl rfl ?_
  refine as_nil (κ _ _ ?_)
  refine cw_ret ?_
  exact ⟨_, (res_tmp rfl res_nil), rfl, hT.forget⟩
theorem hp_show_c {w : World} {M : Mem} {q : Option Addr} (hs : Sat M w) (h : PRep 251 260 M (.node (1, 0) [.node (2, 0) []]) q) :
    Does Tryz.prog 31 #[.agg #[.iface 81 (.agg #[.pointer q])]] w (fun v w' => v = .string ⟨[40, 49, 58, 48, 32, 40, 50, 58, 48, 41, 41].toArray⟩ ∧ Step Nope M w M w') := by
  have hT := Step.refl Nope hs
  refine fn_enter Tryz.func31 rfl (rs := [.tmp 2]) rfl rfl rfl rfl ?_
  refine cw_rs fun _ κ => ?_
  refine as_h rfl (h_boxM hs rfl rfl fun b1 M1 w1 hs1 hb1 e1 => ?_)
  replace h := h.mono hs1.le
  replace hT := hT.then hs1
  refine Sa rfl rfl ?_
  refine as_nil (κ _ _ ?_)
  refine cw_seq fun _ hK2 => ?_
  refine cw_rs fun _ κ => ?_
  refine Sf 0 rfl (by kernel_rfl) rfl ?_
  refine S1 rfl (by kernel_rfl) rfl (by exact BlkR.cell (hs1.sat _ _ _ hb1) rfl) ?_
  refine as_q rfl rfl (q_ifSome (by kernel_rfl) rfl) ?_
  refine as_nil (κ _ _ ?_)
  refine cw_false rfl ?_
  refine cw_skip ?_
  refine hK2 _ _ ?_
  refine cw_rs fun _ κ => ?_
  refine Sf 0 rfl (by kernel_rfl) rfl ?_
  refine S1 rfl (by kernel_rfl) rfl (by exact BlkR.cell (hs1.sat _ _ _ hb1) rfl) ?_
  refine as_h rfl (h_invoke (f := 180) (r := .agg #[.pointer q]) (by kernel_rfl) rfl rfl (by kernel_rfl) ?_)
  refine (wc_show hs1.sat h).mono ?_
  rintro _ w2 ⟨rfl, hs2⟩
  replace h := h.mono hs2.le
  replace hT := hT.then hs2
  refine Sa rfl rfl ?_
  refine as_nil (κ _ _ ?_)
  refine cw_ret ?_
  exact ⟨_, (res_tmp rfl res_nil), rfl, hT.forget⟩
theorem hp_show_0 {w : World} {M : Mem} (hs : Sat M w) :
    Does Tryz.prog 31 #[.agg #[.nilIface]] w (fun v w' => v = .string ⟨#[]⟩ ∧ Step Nope M w M w') := by
  have hT := Step.refl Nope hs
  refine fn_enter Tryz.func31 rfl (rs := [.tmp 2]) rfl rfl rfl rfl ?_
  refine cw_rs fun _ κ => ?_
  refine as_h rfl (h_boxM hs rfl rfl fun b1 M1 w1 hs1 hb1 e1 => ?_)
  replace hT := hT.then hs1
  refine Sa rfl rfl ?_
  refine as_nil (κ _ _ ?_)
  refine cw_seq fun _ hK2 => ?_
  refine cw_rs fun _ κ => ?_
  refine Sf 0 rfl (by kernel_rfl) rfl ?_
  refine S1 rfl (by kernel_rfl) rfl (by exact BlkR.cell (hs1.sat _ _ _ hb1) rfl) ?_
  refine as_q rfl rfl (q_ifNil (by kernel_rfl) rfl) ?_
  refine as_nil (κ _ _ ?_)
  refine cw_true rfl ?_
  refine cw_rs fun _ κ => ?_
  refine Sa rfl rfl ?_
  refine as_nil (κ _ _ ?_)
  refine cw_ret ?_
  exact ⟨_, (res_tmp rfl res_nil), rfl, hT.forget⟩
theorem two_shape {M : Mem} {t : Pr} {q : Option Addr} (h : PRep 251 260 M t q) (hok : t.ok) (hl : [((1, 0) : El), (2, 0)] = srtE t.els) : t = (.node (1, 0) [.node (2, 0) []]) := by
  cases t with
  | nil => simp only [Pr.els] at hl; cases hl
  | node x ks =>
    have hok' : AllGe x (Pr.elsL ks) ∧ Pr.okL ks := by simpa only [Pr.ok] using hok
    have he := els_pop hl (by simp only [Pr.els]; exact .refl _) hok'.1
    obtain ⟨b, kq, al, rfl, hb, hc, hk⟩ := prep_node.1 h
    cases ks with
    | nil => simp only [Pr.elsL] at he; cases he.2
    | cons k r =>
      obtain ⟨hk0, a, s, rfl, hka, hkr⟩ := preps_cons.1 hk
      cases k with
      | nil => exact absurd rfl hk0
      | node y ls =>
        have hln := congrArg List.length he.2
        rw [srtE_length] at hln
        simp only [Pr.elsL, Pr.els, List.length_append, List.length_cons, List.length_nil] at hln
        obtain ⟨_, _, l2, _, _, _, hkl⟩ := prep_node.1 hka
        have h1 := hkl.small
        have h2 := hkr.small
        have h3 := hkl.length
        have h4 := hkr.length
        rw [← Pr.elsL_size] at h1 h2
        obtain rfl : ls = [] := List.eq_nil_of_length_eq_zero (by omega)
        obtain rfl : r = [] := List.eq_nil_of_length_eq_zero (by omega)
        have h5 : [((2, 0) : El)] = srtE [y] := by simpa only [Pr.elsL, Pr.els, List.append_nil] using he.2
        have h6 : srtE [y] = [y] := srtE_sorted (List.pairwise_singleton _ _)
        rw [h6] at h5
        obtain rfl := (List.cons.inj h5).1
        obtain rfl := he.1
        rfl
theorem hp_show_two {w : World} {M : Mem} {v : Value} (hs : Sat M w) (h : HVal M 3 [(1, 0), (2, 0)] v) :
    Does Tryz.prog 31 #[.agg #[v]] w (fun v w' => v = .string ⟨[40, 49, 58, 48, 32, 40, 50, 58, 48, 41, 41].toArray⟩ ∧ Step Nope M w M w') := by
  cases h with
  | c h hok hl => obtain rfl := two_shape h hok hl; exact hp_show_c hs h
end Go.Proofs.YtgcgjpfjjgalmaaGreat
/- The document s example of layer 15, part 1. -/
namespace Go.Proofs.YtgcgjpfjjgalmaaGreat
open Go Go.Eng
theorem of_two {w : World} {M : Mem} {z : Int} {b : Nat} (hs : Sat M w) (ho : Own w M b [.int .i64 2, .int .i64 0, .int .i64 1, .int .i64 0] 24) (hz : 1 ≤ z ∧ z ≤ 6) :
    Does Tryz.prog 11 #[.pointer none, .int .i64 z, .slice (some ⟨b, 0, none⟩) 2 2] w (fun r w' => ∃ v' M', r = .tuple #[.agg #[v'], .int .i64 0] ∧ Step Nope M w M' w' ∧ HVal M' z.toNat [((1, 0) : El), (2, 0)] v') := by
  have hb : Buf w M 24 2 (.slice (some ⟨b, 0, none⟩) 2 2) 2 (els [((2, 0) : El), (1, 0)]) := Own.buf ho (n := 2) rfl (by decide)
  refine (hp_of (z := z) hs hb.rds (by decide)).mono ?_
  rintro r w' ⟨v, M', h1, h2, h3⟩
  refine ⟨v, M', by rw [h1, emE, if_pos hz], h2, ?_⟩
  rw [emK, if_pos hz, ofL, if_pos hz, show srtE [((2, 0) : El), (1, 0)] = [((1, 0) : El), (2, 0)] by decide] at h3
  exact h3
theorem awake15 {w : World} {M : Mem} (hs : Sat M w) :
    Does Tryz.prog 24 #[] w (fun v w' => v = .bool true ∧ Step Nope M w M w') := by
  have hT := Step.refl Nope hs
  refine fn_enter Tryz.func24 rfl (rs := [.tmp 0]) rfl rfl rfl rfl ?_
  refine cw_rs fun _ κ => ?_
  refine Sa rfl rfl ?_
  refine as_nil (κ _ _ ?_)
  refine cw_rs fun _ κ => ?_
  refine as_q rfl rfl (q_build (zs := [(.int .i64 0), (.int .i64 0)]) (places := [(0, 1), (1, 1)]) (cs := [_, _]) (by kernel_rfl) (by kernel_rfl) rfl rfl) ?_
  refine as_q rfl rfl (q_build (zs := [(.int .i64 0), (.int .i64 0)]) (places := [(0, 1), (1, 1)]) (cs := [_, _]) (by kernel_rfl) (by kernel_rfl) rfl rfl) ?_
  refine as_h rfl (h_buildO (e := 24) (size := 2) (zs := [.int .i64 0, .int .i64 0, .int .i64 0, .int .i64 0]) (cs := [_, _, _, _]) (by kernel_rfl) (by kernel_rfl) (by kernel_rfl) rfl hs rfl rfl fun bp w1 hs1 hop ep => ?_)
  replace hT := hT.then hs1
  have hz1 := hs1.size
  refine as_h rfl (h_call (by kernel_rfl) rfl ?_)
  refine (of_two (z := 1) hs1.sat hop (by decide)).mono ?_
  rintro _ w2 ⟨va, Ma, rfl, hs2, ha⟩
  replace hT := hT.then hs2
  have hz2 := hs2.size
  obtain ⟨da, ua, rfl⟩ := ha.iface (by decide)
  refine Sm rfl rfl ?_
  refine Se rfl rfl rfl ?_
  refine Se rfl rfl rfl ?_
  have hqaa := hT.size
  refine as_h rfl (h_allocO (z := (.agg #[.nilIface])) hs2.sat (by kernel_rfl) rfl fun ba w3 hs3 hoa ea => ?_)
  replace ha := ha.mono hs3.le
  replace hT := hT.then hs3
  have hz3 := hs3.size
  have hla := hoa.1.lt
  refine as_h0 (h_store hs3.sat hoa rfl rfl rfl (by kernel_rfl) rfl rfl rfl fun w4 hs4 hn4 => ?_)
  replace ha := ha.mono hs4.le
  clear hoa; have hoa := hn4; clear hn4
  replace hT := hT.own hs4 (by omega)
  have hz4 := hs4.size
  refine Sa rfl rfl ?_
  refine as_nil (κ _ _ ?_)
  refine cw_rs fun _ κ => ?_
  refine as_q rfl rfl (q_build (zs := [(.int .i64 0), (.int .i64 0)]) (places := [(0, 1), (1, 1)]) (cs := [_, _]) (by kernel_rfl) (by kernel_rfl) rfl rfl) ?_
  refine as_q rfl rfl (q_build (zs := [(.int .i64 0), (.int .i64 0)]) (places := [(0, 1), (1, 1)]) (cs := [_, _]) (by kernel_rfl) (by kernel_rfl) rfl rfl) ?_
  refine as_h rfl (h_buildO (e := 24) (size := 2) (zs := [.int .i64 0, .int .i64 0, .int .i64 0, .int .i64 0]) (cs := [_, _, _, _]) (by kernel_rfl) (by kernel_rfl) (by kernel_rfl) rfl hs4.sat rfl rfl fun bq w5 hs5 hoq eq => ?_)
  replace ha := ha.mono hs5.le
  replace hoa := hoa.then hs5
  replace hT := hT.then hs5
  have hz5 := hs5.size
  refine as_h rfl (h_call (by kernel_rfl) rfl ?_)
  refine (of_two (z := 3) hs5.sat hoq (by decide)).mono ?_
  rintro _ w6 ⟨vb, Mb, rfl, hs6, hb⟩
  replace ha := ha.mono hs6.le
  replace hoa := hoa.then hs6
  replace hT := hT.then hs6
  have hz6 := hs6.size
  obtain ⟨db, ub, rfl⟩ := hb.iface (by decide)
  refine Sm rfl rfl ?_
  refine Se rfl rfl rfl ?_
  refine Se rfl rfl rfl ?_
  have hqab := hT.size
  refine as_h rfl (h_allocO (z := (.agg #[.nilIface])) hs6.sat (by kernel_rfl) rfl fun bb w7 hs7 hob eb => ?_)
  replace ha := ha.mono hs7.le
  replace hoa := hoa.then hs7
  replace hb := hb.mono hs7.le
  replace hT := hT.then hs7
  have hz7 := hs7.size
  have hlb := hob.1.lt
  refine as_h0 (h_store hs7.sat hob rfl rfl rfl (by kernel_rfl) rfl rfl rfl fun w8 hs8 hn8 => ?_)
  replace ha := ha.mono hs8.le
  replace hoa := hoa.step hs8 (fun h => by have h : _ = _ := h; omega)
  replace hb := hb.mono hs8.le
  clear hob; have hob := hn8; clear hn8
  replace hT := hT.own hs8 (by omega)
  have hz8 := hs8.size
  refine Sa rfl rfl ?_
  refine as_nil (κ _ _ ?_)
  refine cw_rs fun _ κ => ?_
  refine Sc 1 rfl (by kernel_rfl) rfl (by exact Blk.cells hoa.1 rfl) ?_
  refine Sc 1 rfl (by kernel_rfl) rfl (by exact Blk.cells hob.1 rfl) ?_
  refine as_h rfl (h_call (by kernel_rfl) rfl ?_)
  refine (hp_meld hs8.sat ha hb (by decide)).mono ?_
  rintro _ w9 ⟨vg, Mg, hrg, hs9, hg⟩
  rw [show melE (Int.toNat 1) (Int.toNat 3) = 22 by decide] at hrg
  subst hrg
  replace ha := ha.mono hs9.le
  replace hoa := hoa.then hs9
  replace hb := hb.mono hs9.le
  replace hob := hob.then hs9
  replace hT := hT.then hs9
  have hz9 := hs9.size
  obtain ⟨_, rfl⟩ := hg.zero
  refine Sm rfl rfl ?_
  refine Se rfl rfl rfl ?_
  refine Se rfl rfl rfl ?_
  have hqag := hT.size
  refine as_h rfl (h_allocO (z := (.agg #[.nilIface])) hs9.sat (by kernel_rfl) rfl fun bg w10 hs10 hog eg => ?_)
  replace ha := ha.mono hs10.le
  replace hoa := hoa.then hs10
  replace hb := hb.mono hs10.le
  replace hob := hob.then hs10
  replace hT := hT.then hs10
  have hz10 := hs10.size
  have hlg := hog.1.lt
  refine as_h0 (h_store hs10.sat hog rfl rfl rfl (by kernel_rfl) rfl rfl rfl fun w11 hs11 hn11 => ?_)
  replace ha := ha.mono hs11.le
  replace hoa := hoa.step hs11 (fun h => by have h : _ = _ := h; omega)
  replace hb := hb.mono hs11.le
  replace hob := hob.step hs11 (fun h => by have h : _ = _ := h; omega)
  clear hog; have hog := hn11; clear hn11
  replace hT := hT.own hs11 (by omega)
  have hz11 := hs11.size
  refine Sa rfl rfl ?_
  refine as_nil (κ _ _ ?_)
  refine cw_rs fun _ κ => ?_
  refine Sc 1 rfl (by kernel_rfl) rfl (by exact Blk.cells hoa.1 rfl) ?_
  refine as_h rfl (h_call (by kernel_rfl) rfl ?_)
  refine (hp_min hs11.sat ha (by decide)).mono ?_
  rintro _ w12 ⟨hrm, hs12⟩
  rw [show fullE (Int.toNat 1) [((1, 0) : El), (2, 0)] = 0 by decide] at hrm
  subst hrm
  replace ha := ha.mono hs12.le
  replace hoa := hoa.then hs12
  replace hb := hb.mono hs12.le
  replace hob := hob.then hs12
  replace hT := hT.then hs12
  have hz12 := hs12.size
  refine Sm rfl rfl ?_
  refine Se rfl rfl rfl ?_
  refine Se rfl rfl rfl ?_
  have hqax := hT.size
  refine as_h rfl (h_allocO (z := (.agg #[(.int .i64 0), (.int .i64 0)])) hs12.sat (by kernel_rfl) rfl fun bx w13 hs13 hox ex => ?_)
  replace ha := ha.mono hs13.le
  replace hoa := hoa.then hs13
  replace hb := hb.mono hs13.le
  replace hob := hob.then hs13
  replace hT := hT.then hs13
  have hz13 := hs13.size
  have hlx := hox.1.lt
  refine as_h0 (h_store hs13.sat hox rfl rfl rfl (by kernel_rfl) rfl rfl rfl fun w14 hs14 hn14 => ?_)
  replace ha := ha.mono hs14.le
  replace hoa := hoa.step hs14 (fun h => by have h : _ = _ := h; omega)
  replace hb := hb.mono hs14.le
  replace hob := hob.step hs14 (fun h => by have h : _ = _ := h; omega)
  clear hox; have hox := hn14; clear hn14
  replace hT := hT.own hs14 (by omega)
  have hz14 := hs14.size
  refine Sa rfl rfl ?_
  refine as_nil (κ _ _ ?_)
  refine cw_rs fun _ κ => ?_
  refine as_h rfl (h_call (by kernel_rfl) rfl ?_)
  refine (hp_empty (z := 6) hs14.sat).mono ?_
  rintro _ w15 ⟨vc, Mc, hrc, hs15, hc⟩
  rw [show emE 6 = 0 by decide] at hrc
  rw [show emK 6 = 6 by decide] at hc
  subst hrc
  replace ha := ha.mono hs15.le
  replace hoa := hoa.then hs15
  replace hb := hb.mono hs15.le
  replace hob := hob.then hs15
  replace hox := hox.then hs15
  replace hT := hT.then hs15
  have hz15 := hs15.size
  obtain ⟨dc, uc, rfl⟩ := hc.iface (by decide)
  refine Sm rfl rfl ?_
  refine Se rfl rfl rfl ?_
  refine Se rfl rfl rfl ?_
  have hqac := hT.size
  refine as_h rfl (h_allocO (z := (.agg #[.nilIface])) hs15.sat (by kernel_rfl) rfl fun bc w16 hs16 hoc ec => ?_)
  replace ha := ha.mono hs16.le
  replace hoa := hoa.then hs16
  replace hb := hb.mono hs16.le
  replace hob := hob.then hs16
  replace hox := hox.then hs16
  replace hc := hc.mono hs16.le
  replace hT := hT.then hs16
  have hz16 := hs16.size
  have hlc := hoc.1.lt
  refine as_h0 (h_store hs16.sat hoc rfl rfl rfl (by kernel_rfl) rfl rfl rfl fun w17 hs17 hn17 => ?_)
  replace ha := ha.mono hs17.le
  replace hoa := hoa.step hs17 (fun h => by have h : _ = _ := h; omega)
  replace hb := hb.mono hs17.le
  replace hob := hob.step hs17 (fun h => by have h : _ = _ := h; omega)
  replace hox := hox.step hs17 (fun h => by have h : _ = _ := h; omega)
  replace hc := hc.mono hs17.le
  clear hoc; have hoc := hn17; clear hn17
  replace hT := hT.own hs17 (by omega)
  have hz17 := hs17.size
  refine Sa rfl rfl ?_
  refine as_nil (κ _ _ ?_)
  refine cw_rs fun _ κ => ?_
  refine Sc 1 rfl (by kernel_rfl) rfl (by exact Blk.cells hoc.1 rfl) ?_
  refine as_h rfl (h_call (by kernel_rfl) rfl ?_)
  refine (hp_pop_0 hs17.sat hc).mono ?_
  rintro _ w18 ⟨vj, Mj, hrj, hs18, hj⟩
  rw [show fullE 6 [] = 23 by decide] at hrj
  subst hrj
  replace ha := ha.mono hs18.le
  replace hoa := hoa.then hs18
  replace hb := hb.mono hs18.le
  replace hob := hob.then hs18
  replace hox := hox.then hs18
  replace hc := hc.mono hs18.le
  replace hoc := hoc.then hs18
  replace hT := hT.then hs18
  have hz18 := hs18.size
  obtain ⟨_, rfl⟩ := hj.zero
  refine Sm rfl rfl ?_
  refine Se rfl rfl rfl ?_
  refine Se rfl rfl rfl ?_
  have hqaj := hT.size
  refine as_h rfl (h_allocO (z := (.agg #[.nilIface])) hs18.sat (by kernel_rfl) rfl fun bj w19 hs19 hoj ej => ?_)
  replace ha := ha.mono hs19.le
  replace hoa := hoa.then hs19
  replace hb := hb.mono hs19.le
  replace hob := hob.then hs19
  replace hox := hox.then hs19
  replace hc := hc.mono hs19.le
  replace hoc := hoc.then hs19
  replace hT := hT.then hs19
  have hz19 := hs19.size
  have hlj := hoj.1.lt
  refine as_h0 (h_store hs19.sat hoj rfl rfl rfl (by kernel_rfl) rfl rfl rfl fun w20 hs20 hn20 => ?_)
  replace ha := ha.mono hs20.le
  replace hoa := hoa.step hs20 (fun h => by have h : _ = _ := h; omega)
  replace hb := hb.mono hs20.le
  replace hob := hob.step hs20 (fun h => by have h : _ = _ := h; omega)
  replace hox := hox.step hs20 (fun h => by have h : _ = _ := h; omega)
  replace hc := hc.mono hs20.le
  replace hoc := hoc.step hs20 (fun h => by have h : _ = _ := h; omega)
  clear hoj; have hoj := hn20; clear hn20
  replace hT := hT.own hs20 (by omega)
  have hz20 := hs20.size
  refine Sa rfl rfl ?_
  refine as_nil (κ _ _ ?_)
  refine cw_rs fun _ κ => ?_
  refine as_h rfl (h_call (by kernel_rfl) rfl ?_)
  refine (hp_empty (z := 7) hs20.sat).mono ?_
  rintro _ w21 ⟨vk, Mk, hrk, hs21, hk⟩
  rw [show emE 7 = 22 by decide] at hrk
  rw [show emK 7 = 0 by decide] at hk
  subst hrk
  replace ha := ha.mono hs21.le
  replace hoa := hoa.then hs21
  replace hb := hb.mono hs21.le
  replace hob := hob.then hs21
  replace hox := hox.then hs21
  replace hc := hc.mono hs21.le
  replace hoc := hoc.then hs21
  replace hT := hT.then hs21
  have hz21 := hs21.size
  obtain ⟨_, rfl⟩ := hk.zero
  refine Sm rfl rfl ?_
  refine Se rfl rfl rfl ?_
  refine Se rfl rfl rfl ?_
  have hqak := hT.size
  refine as_h rfl (h_allocO (z := (.agg #[.nilIface])) hs21.sat (by kernel_rfl) rfl fun bk w22 hs22 hok ek => ?_)
  replace ha := ha.mono hs22.le
  replace hoa := hoa.then hs22
  replace hb := hb.mono hs22.le
  replace hob := hob.then hs22
  replace hox := hox.then hs22
  replace hc := hc.mono hs22.le
  replace hoc := hoc.then hs22
  replace hT := hT.then hs22
  have hz22 := hs22.size
  have hlk := hok.1.lt
  refine as_h0 (h_store hs22.sat hok rfl rfl rfl (by kernel_rfl) rfl rfl rfl fun w23 hs23 hn23 => ?_)
  replace ha := ha.mono hs23.le
  replace hoa := hoa.step hs23 (fun h => by have h : _ = _ := h; omega)
  replace hb := hb.mono hs23.le
  replace hob := hob.step hs23 (fun h => by have h : _ = _ := h; omega)
  replace hox := hox.step hs23 (fun h => by have h : _ = _ := h; omega)
  replace hc := hc.mono hs23.le
  replace hoc := hoc.step hs23 (fun h => by have h : _ = _ := h; omega)
  clear hok; have hok := hn23; clear hn23
  replace hT := hT.own hs23 (by omega)
  have hz23 := hs23.size
  refine Sa rfl rfl ?_
  refine as_nil (κ _ _ ?_)
  refine cw_rs fun _ κ => ?_
  refine Sm rfl rfl ?_
  refine as_q rfl rfl (q_eqT rfl rfl (by omega)) ?_
  refine Sm rfl rfl ?_
  refine as_gh rfl rfl rfl rfl (h_q rfl (q_move rfl) ?_)
  refine as_gh rfl rfl rfl rfl (h_q rfl (q_eqT rfl rfl (by omega)) ?_)
  refine as_q rfl rfl (q_pick_t rfl rfl) ?_
  refine Sm rfl rfl ?_
  refine as_gh rfl rfl rfl rfl (h_q rfl (q_move rfl) ?_)
  refine as_gh rfl rfl rfl rfl (h_q rfl (q_eqT rfl rfl (by omega)) ?_)
  refine as_q rfl rfl (q_pick_t rfl rfl) ?_
  refine Sm rfl rfl ?_
  refine as_gh rfl rfl rfl rfl (h_q rfl (q_move rfl) ?_)
  refine as_gh rfl rfl rfl rfl (h_q rfl (q_eqT rfl rfl (by omega)) ?_)
  refine as_q rfl rfl (q_pick_t rfl rfl) ?_
  refine Sm rfl rfl ?_
  refine as_gh rfl rfl rfl rfl (h_q rfl (q_fieldAddr (off := 0) (by kernel_rfl) rfl) ?_)
  refine as_gh rfl rfl rfl rfl (h_q rfl (q_load1 (by kernel_rfl) rfl (by exact Blk.cell hox.1 rfl)) ?_)
  refine as_gh rfl rfl rfl rfl (h_q rfl (q_eq rfl rfl) ?_)
  refine as_q rfl rfl (q_pick_t rfl rfl) ?_
  refine Sm rfl rfl ?_
  refine as_gh rfl rfl rfl rfl (h_q rfl (q_move rfl) ?_)
  refine as_gh rfl rfl rfl rfl (h_q rfl (q_eqT rfl rfl (by omega)) ?_)
  refine as_q rfl rfl (q_pick_t rfl rfl) ?_
  refine Sm rfl rfl ?_
  refine as_gh rfl rfl rfl rfl (h_q rfl (q_move rfl) ?_)
  refine as_gh rfl rfl rfl rfl (h_q rfl (q_eqT rfl rfl (by omega)) ?_)
  refine as_q rfl rfl (q_pick_t rfl rfl) ?_
  refine Sm rfl rfl ?_
  refine as_gh rfl rfl rfl rfl (h_q rfl (q_move rfl) ?_)
  refine as_gh rfl rfl rfl rfl (h_q rfl (q_eqT rfl rfl (by omega)) ?_)
  refine as_q rfl rfl (q_pick_t rfl rfl) ?_
  refine Sm rfl rfl ?_
  refine as_gh rfl rfl rfl rfl (h_q rfl (q_loadc (n := 1) (by kernel_rfl) rfl (by exact Blk.cells hoc.1 rfl)) ?_)
  refine as_gh rfl rfl rfl rfl (h_call (by kernel_rfl) rfl ?_)
  refine (hp_kind hs23.sat hc).mono ?_
  rintro _ w24 ⟨rfl, hs24⟩
  replace ha := ha.mono hs24.le
  replace hoa := hoa.then hs24
  replace hb := hb.mono hs24.le
  replace hob := hob.then hs24
  replace hT := hT.then hs24
  have hz24 := hs24.size
  refine as_gh rfl rfl rfl rfl (h_q rfl (q_eqT rfl rfl (by omega)) ?_)
  refine as_q rfl rfl (q_pick_t rfl rfl) ?_
  refine Sm rfl rfl ?_
  refine as_gh rfl rfl rfl rfl (h_q rfl (q_loadc (n := 1) (by kernel_rfl) rfl (by exact Blk.cells hoa.1 rfl)) ?_)
  refine as_gh rfl rfl rfl rfl (h_call (by kernel_rfl) rfl ?_)
  refine (hp_size hs24.sat ha (by decide)).mono ?_
  rintro _ w25 ⟨rfl, hs25⟩
  replace hb := hb.mono hs25.le
  replace hob := hob.then hs25
  replace hT := hT.then hs25
  have hz25 := hs25.size
  refine as_gh rfl rfl rfl rfl (h_q rfl (q_eq rfl rfl) ?_)
  refine as_q rfl rfl (q_pick_t rfl rfl) ?_
  refine Sm rfl rfl ?_
  refine as_gh rfl rfl rfl rfl (h_q rfl (q_loadc (n := 1) (by kernel_rfl) rfl (by exact Blk.cells hob.1 rfl)) ?_)
  refine as_gh rfl rfl rfl rfl (h_call (by kernel_rfl) rfl ?_)
  refine (hp_show_two hs25.sat hb).mono ?_
  rintro _ w26 ⟨rfl, hs26⟩
  replace hT := hT.then hs26
  have hz26 := hs26.size
  refine as_gh rfl rfl rfl rfl (h_q rfl (q_congr (q_eqL rfl (show _ = some (Value.string ⟨[40, 49, 58, 48, 32, 40, 50, 58, 48, 41, 41].toArray⟩) from rfl)) (v' := .bool true) (congrArg Value.bool (by decide))) ?_)
  refine as_q rfl rfl (q_pick_t rfl rfl) ?_
  refine Sa rfl rfl ?_
  refine as_nil (κ _ _ ?_)
  refine cw_ret ?_
  exact ⟨_, (res_tmp rfl res_nil), rfl, hT.forget⟩
end Go.Proofs.YtgcgjpfjjgalmaaGreat
/- A heap without a kind can nothing, part 1. -/
namespace Go.Proofs.YtgcgjpfjjgalmaaGreat
open Go Go.Eng
theorem of_one {w : World} {M : Mem} {z : Int} {b : Nat} {x : El} (hs : Sat M w) (ho : Own w M b [.int .i64 x.1, .int .i64 x.2] 24) :
    Does Tryz.prog 11 #[.pointer none, .int .i64 z, .slice (some ⟨b, 0, none⟩) 1 1] w (fun r w' => ∃ v' M', r = .tuple #[.agg #[v'], .int .i64 (emE z)] ∧ Step Nope M w M' w' ∧ HVal M' (emK z) (ofL z [x]) v') :=
  hp_of (z := z) hs (show Buf w M 24 2 (.slice (some ⟨b, 0, none⟩) 1 1) 1 (els [x]) from Own.buf ho (n := 1) rfl (by decide)).rds (by decide)
set_option maxRecDepth 4000 in
theorem heapNone_1 {w : World} {M : Mem} {z : Int} {x : El} (hs : Sat M w) (hz : (1 ≤ z ∧ z ≤ 6)) :
    Does Tryz.prog 8 #[.int .i64 z, .agg (elc x).toArray] w (fun v w' => v = .bool true ∧ Step Nope M w M w') := by
  have hT := Step.refl Nope hs
  obtain ⟨k, hkz⟩ : ∃ k : Nat, (k : Int) = z := ⟨z.toNat, by omega⟩
  have hem : emE z = 0 := by unfold emE; rw [if_pos hz]
  have hekz : emK z = k := by unfold emK; rw [if_pos hz]; omega
  have hk0 : k ≠ 0 := by omega
  have hofl : ofL z [x] = [x] := by unfold ofL; rw [if_pos hz]; exact srtE_sorted (List.pairwise_singleton _ _)
  have hbad : ¬ badM k k := by unfold badM; omega
  have hfe0 : fullE k [] = 23 := by unfold fullE; rw [if_neg hk0]; rfl
  have hfe1 : fullE k [x] = 0 := by unfold fullE; rw [if_neg hk0]; rfl
  refine fn_enter Tryz.func8 rfl (rs := [.tmp 4]) rfl rfl rfl rfl ?_
  refine cw_rs fun _ κ => ?_
  refine as_h rfl (h_boxM hs rfl rfl fun b1 M1 w1 hs1 hb1 e1 => ?_)
  replace hT := hT.then hs1
  have hz1 := hs1.size
  refine Sa rfl rfl ?_
  refine as_nil (κ _ _ ?_)
  refine cw_rs fun _ κ => ?_
  refine as_h rfl (h_call (by kernel_rfl) rfl ?_)
  refine (awake15 hs1.sat).mono ?_
  rintro _ w2 ⟨rfl, hs2⟩
  replace hb1 := hs2.le _ _ hb1
  replace hT := hT.then hs2
  have hz2 := hs2.size
  refine Sa rfl rfl ?_
  refine as_nil (κ _ _ ?_)
  refine cw_seq fun _ hK3 => ?_
  refine cw_rs fun _ κ => ?_
  refine Sm rfl rfl ?_
  refine as_q rfl rfl (q_not rfl) ?_
  refine as_nil (κ _ _ ?_)
  refine cw_false rfl ?_
  refine cw_skip ?_
  refine hK3 _ _ ?_
  refine cw_rs fun _ κ => ?_
  refine Sm rfl rfl ?_
  refine as_h rfl (h_call (by kernel_rfl) rfl ?_)
  refine (hp_empty (z := z) hs2.sat).mono ?_
  rintro _ w3 ⟨vh, Mh, hrh, hs3, hh⟩
  rw [hem] at hrh
  subst hrh
  rw [hekz] at hh
  replace hb1 := hs3.le _ _ hb1
  replace hT := hT.then hs3
  have hz3 := hs3.size
  obtain ⟨dh, uh, rfl⟩ := hh.iface hk0
  refine Sm rfl rfl ?_
  refine Se rfl rfl rfl ?_
  refine Se rfl rfl rfl ?_
  have hqah := hT.size
  refine as_h rfl (h_allocO (z := (.agg #[.nilIface])) hs3.sat (by kernel_rfl) rfl fun bh w4 hs4 hoh eh => ?_)
  replace hb1 := hs4.le _ _ hb1
  replace hh := hh.mono hs4.le
  replace hT := hT.then hs4
  have hz4 := hs4.size
  have hlh := hoh.1.lt
  refine as_h0 (h_store hs4.sat hoh rfl rfl rfl (by kernel_rfl) rfl rfl rfl fun w5 hs5 hn5 => ?_)
  replace hb1 := hs5.le _ _ hb1
  replace hh := hh.mono hs5.le
  clear hoh; have hoh := hn5; clear hn5
  replace hT := hT.own hs5 (by omega)
  have hz5 := hs5.size
  refine Sa rfl rfl ?_
  refine as_nil (κ _ _ ?_)
  refine cw_rs fun _ κ => ?_
  refine Sm rfl rfl ?_
  refine Sc 2 rfl (by kernel_rfl) rfl (by exact BlkR.cells (hs5.sat _ _ _ hb1) rfl) ?_
  refine as_h rfl (h_buildO (e := 24) (size := 2) (zs := [.int .i64 0, .int .i64 0]) (cs := [_, _]) (by kernel_rfl) (by kernel_rfl) (by kernel_rfl) rfl hs5.sat rfl rfl fun bp w6 hs6 hop ep => ?_)
  replace hb1 := hs6.le _ _ hb1
  replace hh := hh.mono hs6.le
  replace hoh := hoh.then hs6
  replace hT := hT.then hs6
  have hz6 := hs6.size
  refine as_h rfl (h_call (by kernel_rfl) rfl ?_)
  refine (of_one (z := z) (x := x) hs6.sat hop).mono ?_
  rintro _ w7 ⟨vg, Mg, hrg, hs7, hg⟩
  rw [hem] at hrg
  subst hrg
  rw [hekz, hofl] at hg
  replace hb1 := hs7.le _ _ hb1
  replace hh := hh.mono hs7.le
  replace hoh := hoh.then hs7
  replace hT := hT.then hs7
  have hz7 := hs7.size
  obtain ⟨dg, ug, rfl⟩ := hg.iface hk0
  refine Sm rfl rfl ?_
  refine Se rfl rfl rfl ?_
  refine Se rfl rfl rfl ?_
  have hqag := hT.size
  refine as_h rfl (h_allocO (z := (.agg #[.nilIface])) hs7.sat (by kernel_rfl) rfl fun bg w8 hs8 hog eg => ?_)
  replace hb1 := hs8.le _ _ hb1
  replace hh := hh.mono hs8.le
  replace hoh := hoh.then hs8
  replace hg := hg.mono hs8.le
  replace hT := hT.then hs8
  have hz8 := hs8.size
  have hlg := hog.1.lt
  refine as_h0 (h_store hs8.sat hog rfl rfl rfl (by kernel_rfl) rfl rfl rfl fun w9 hs9 hn9 => ?_)
  replace hb1 := hs9.le _ _ hb1
  replace hh := hh.mono hs9.le
  replace hoh := hoh.step hs9 (fun h => by have h : _ = _ := h; omega)
  replace hg := hg.mono hs9.le
  clear hog; have hog := hn9; clear hn9
  replace hT := hT.own hs9 (by omega)
  have hz9 := hs9.size
  refine Sa rfl rfl ?_
  refine as_nil (κ _ _ ?_)
  refine cw_rs fun _ κ => ?_
  refine as_q rfl rfl (q_build (zs := [.nilIface]) (places := [(0, 1)]) (cs := [_]) (by kernel_rfl) (by kernel_rfl) rfl rfl) ?_
  have hqaz := hT.size
  refine as_h rfl (h_allocO (z := (.agg #[.nilIface])) hs9.sat (by kernel_rfl) rfl fun bz w10 hs10 hoz ez => ?_)
  replace hb1 := hs10.le _ _ hb1
  replace hh := hh.mono hs10.le
  replace hoh := hoh.then hs10
  replace hg := hg.mono hs10.le
  replace hog := hog.then hs10
  replace hT := hT.then hs10
  have hz10 := hs10.size
  have hlz := hoz.1.lt
  refine as_h0 (h_store hs10.sat hoz rfl rfl rfl (by kernel_rfl) rfl rfl rfl fun w11 hs11 hn11 => ?_)
  replace hb1 := hs11.le _ _ hb1
  replace hh := hh.mono hs11.le
  replace hoh := hoh.step hs11 (fun h => by have h : _ = _ := h; omega)
  replace hg := hg.mono hs11.le
  replace hog := hog.step hs11 (fun h => by have h : _ = _ := h; omega)
  clear hoz; have hoz := hn11; clear hn11
  replace hT := hT.own hs11 (by omega)
  have hz11 := hs11.size
  refine as_nil (κ _ _ ?_)
  refine cw_rs fun _ κ => ?_
  refine Sc 1 rfl (by kernel_rfl) rfl (by exact Blk.cells hoz.1 rfl) ?_
  refine Sc 2 rfl (by kernel_rfl) rfl (by exact BlkR.cells (hs11.sat _ _ _ hb1) rfl) ?_
  refine as_h rfl (h_call (by kernel_rfl) rfl ?_)
  refine (hp_insert (x := x) (l := []) hs11.sat HVal.z (by decide)).mono ?_
  rintro _ w12 ⟨va, Ma, hra, hs12, ha⟩
  rw [show insE 0 = 22 by decide] at hra
  subst hra
  replace hb1 := hs12.le _ _ hb1
  replace hh := hh.mono hs12.le
  replace hoh := hoh.then hs12
  replace hg := hg.mono hs12.le
  replace hog := hog.then hs12
  replace hoz := hoz.then hs12
  replace hT := hT.then hs12
  have hz12 := hs12.size
  obtain ⟨_, rfl⟩ := ha.zero
  refine Sm rfl rfl ?_
  refine Se rfl rfl rfl ?_
  refine Se rfl rfl rfl ?_
  have hqaa := hT.size
  refine as_h rfl (h_allocO (z := (.agg #[.nilIface])) hs12.sat (by kernel_rfl) rfl fun ba w13 hs13 hoa ea => ?_)
  replace hb1 := hs13.le _ _ hb1
  replace hh := hh.mono hs13.le
  replace hoh := hoh.then hs13
  replace hg := hg.mono hs13.le
  replace hog := hog.then hs13
  replace hoz := hoz.then hs13
  replace hT := hT.then hs13
  have hz13 := hs13.size
  have hla := hoa.1.lt
  refine as_h0 (h_store hs13.sat hoa rfl rfl rfl (by kernel_rfl) rfl rfl rfl fun w14 hs14 hn14 => ?_)
  replace hb1 := hs14.le _ _ hb1
  replace hh := hh.mono hs14.le
  replace hoh := hoh.step hs14 (fun h => by have h : _ = _ := h; omega)
  replace hg := hg.mono hs14.le
  replace hog := hog.step hs14 (fun h => by have h : _ = _ := h; omega)
  replace hoz := hoz.step hs14 (fun h => by have h : _ = _ := h; omega)
  clear hoa; have hoa := hn14; clear hn14
  replace hT := hT.own hs14 (by omega)
  have hz14 := hs14.size
  refine Sa rfl rfl ?_
  refine as_nil (κ _ _ ?_)
  refine cw_rs fun _ κ => ?_
  refine Sc 1 rfl (by kernel_rfl) rfl (by exact Blk.cells hoz.1 rfl) ?_
  refine Sc 1 rfl (by kernel_rfl) rfl (by exact Blk.cells hoz.1 rfl) ?_
  refine as_h rfl (h_call (by kernel_rfl) rfl ?_)
  refine (hp_meld hs14.sat HVal.z HVal.z (by decide)).mono ?_
  rintro _ w15 ⟨vb, Mb, hrb, hs15, hb⟩
  rw [show melE 0 0 = 22 by decide] at hrb
  rw [show melK 0 0 = 0 by decide] at hb
  subst hrb
  replace hb1 := hs15.le _ _ hb1
  replace hh := hh.mono hs15.le
  replace hoh := hoh.then hs15
  replace hg := hg.mono hs15.le
  replace hog := hog.then hs15
  replace hoz := hoz.then hs15
  replace hoa := hoa.then hs15
  replace hT := hT.then hs15
  have hz15 := hs15.size
  obtain ⟨_, rfl⟩ := hb.zero
  refine Sm rfl rfl ?_
  refine Se rfl rfl rfl ?_
  refine Se rfl rfl rfl ?_
  have hqab := hT.size
  refine as_h rfl (h_allocO (z := (.agg #[.nilIface])) hs15.sat (by kernel_rfl) rfl fun bb w16 hs16 hob eb => ?_)
  replace hb1 := hs16.le _ _ hb1
  replace hh := hh.mono hs16.le
  replace hoh := hoh.then hs16
  replace hg := hg.mono hs16.le
  replace hog := hog.then hs16
  replace hoz := hoz.then hs16
  replace hoa := hoa.then hs16
  replace hT := hT.then hs16
  have hz16 := hs16.size
  have hlb := hob.1.lt
  refine as_h0 (h_store hs16.sat hob rfl rfl rfl (by kernel_rfl) rfl rfl rfl fun w17 hs17 hn17 => ?_)
  replace hb1 := hs17.le _ _ hb1
  replace hh := hh.mono hs17.le
  replace hoh := hoh.step hs17 (fun h => by have h : _ = _ := h; omega)
  replace hg := hg.mono hs17.le
  replace hog := hog.step hs17 (fun h => by have h : _ = _ := h; omega)
  replace hoz := hoz.step hs17 (fun h => by have h : _ = _ := h; omega)
  replace hoa := hoa.step hs17 (fun h => by have h : _ = _ := h; omega)
  clear hob; have hob := hn17; clear hn17
  replace hT := hT.own hs17 (by omega)
  have hz17 := hs17.size
  refine Sa rfl rfl ?_
  refine as_nil (κ _ _ ?_)
  refine cw_rs fun _ κ => ?_
  refine Sc 1 rfl (by kernel_rfl) rfl (by exact Blk.cells hoz.1 rfl) ?_
  refine as_h rfl (h_call (by kernel_rfl) rfl ?_)
  refine (hp_min hs17.sat HVal.z (by decide)).mono ?_
  rintro _ w18 ⟨hrm, hs18⟩
  rw [show fullE 0 [] = 22 by decide] at hrm
  subst hrm
  replace hb1 := hs18.le _ _ hb1
  replace hh := hh.mono hs18.le
  replace hoh := hoh.then hs18
  replace hg := hg.mono hs18.le
  replace hog := hog.then hs18
  replace hoz := hoz.then hs18
  replace hoa := hoa.then hs18
  replace hob := hob.then hs18
  replace hT := hT.then hs18
  have hz18 := hs18.size
  refine Sm rfl rfl ?_
  refine Se rfl rfl rfl ?_
  refine Se rfl rfl rfl ?_
  have hqac := hT.size
  refine as_h rfl (h_allocO (z := (.agg #[(.int .i64 0), (.int .i64 0)])) hs18.sat (by kernel_rfl) rfl fun bc w19 hs19 hoc ec => ?_)
  replace hb1 := hs19.le _ _ hb1
  replace hh := hh.mono hs19.le
  replace hoh := hoh.then hs19
  replace hg := hg.mono hs19.le
  replace hog := hog.then hs19
  replace hoz := hoz.then hs19
  replace hoa := hoa.then hs19
  replace hob := hob.then hs19
  replace hT := hT.then hs19
  have hz19 := hs19.size
  have hlc := hoc.1.lt
  refine as_h0 (h_store hs19.sat hoc rfl rfl rfl (by kernel_rfl) rfl rfl rfl fun w20 hs20 hn20 => ?_)
  replace hb1 := hs20.le _ _ hb1
  replace hh := hh.mono hs20.le
  replace hoh := hoh.step hs20 (fun h => by have h : _ = _ := h; omega)
  replace hg := hg.mono hs20.le
  replace hog := hog.step hs20 (fun h => by have h : _ = _ := h; omega)
  replace hoz := hoz.step hs20 (fun h => by have h : _ = _ := h; omega)
  replace hoa := hoa.step hs20 (fun h => by have h : _ = _ := h; omega)
  replace hob := hob.step hs20 (fun h => by have h : _ = _ := h; omega)
  clear hoc; have hoc := hn20; clear hn20
  replace hT := hT.own hs20 (by omega)
  have hz20 := hs20.size
  refine Sa rfl rfl ?_
  refine as_nil (κ _ _ ?_)
  refine cw_rs fun _ κ => ?_
  refine Sc 1 rfl (by kernel_rfl) rfl (by exact Blk.cells hoz.1 rfl) ?_
  refine as_h rfl (h_call (by kernel_rfl) rfl ?_)
  refine (hp_pop_0 hs20.sat HVal.z).mono ?_
  rintro _ w21 ⟨vd, Md, hrd, hs21, hd⟩
  rw [show fullE 0 [] = 22 by decide] at hrd
  subst hrd
  replace hb1 := hs21.le _ _ hb1
  replace hh := hh.mono hs21.le
  replace hoh := hoh.then hs21
  replace hg := hg.mono hs21.le
  replace hog := hog.then hs21
  replace hoz := hoz.then hs21
  replace hoa := hoa.then hs21
  replace hob := hob.then hs21
  replace hoc := hoc.then hs21
  replace hT := hT.then hs21
  have hz21 := hs21.size
  obtain ⟨_, rfl⟩ := hd.zero
  refine Sm rfl rfl ?_
  refine Se rfl rfl rfl ?_
  refine Se rfl rfl rfl ?_
  have hqad := hT.size
  refine as_h rfl (h_allocO (z := (.agg #[.nilIface])) hs21.sat (by kernel_rfl) rfl fun bd w22 hs22 hod ed => ?_)
  replace hb1 := hs22.le _ _ hb1
  replace hh := hh.mono hs22.le
  replace hoh := hoh.then hs22
  replace hg := hg.mono hs22.le
  replace hog := hog.then hs22
  replace hoz := hoz.then hs22
  replace hoa := hoa.then hs22
  replace hob := hob.then hs22
  replace hoc := hoc.then hs22
  replace hT := hT.then hs22
  have hz22 := hs22.size
  have hld := hod.1.lt
  refine as_h0 (h_store hs22.sat hod rfl rfl rfl (by kernel_rfl) rfl rfl rfl fun w23 hs23 hn23 => ?_)
  replace hb1 := hs23.le _ _ hb1
  replace hh := hh.mono hs23.le
  replace hoh := hoh.step hs23 (fun h => by have h : _ = _ := h; omega)
  replace hg := hg.mono hs23.le
  replace hog := hog.step hs23 (fun h => by have h : _ = _ := h; omega)
  replace hoz := hoz.step hs23 (fun h => by have h : _ = _ := h; omega)
  replace hoa := hoa.step hs23 (fun h => by have h : _ = _ := h; omega)
  replace hob := hob.step hs23 (fun h => by have h : _ = _ := h; omega)
  replace hoc := hoc.step hs23 (fun h => by have h : _ = _ := h; omega)
  clear hod; have hod := hn23; clear hn23
  replace hT := hT.own hs23 (by omega)
  have hz23 := hs23.size
  refine Sa rfl rfl ?_
  refine as_nil (κ _ _ ?_)
  refine cw_seq fun _ hK12 => ?_
  refine cw_dr (by kernel_rfl) fun _ κ => ?_
  have hs24 := Step.drew hs23.sat
  have hz24 := hs24.size
  replace hb1 := hs24.le _ _ hb1
  replace hh := hh.mono hs24.le
  replace hoh := hoh.then hs24
  replace hg := hg.mono hs24.le
  replace hog := hog.then hs24
  replace hoz := hoz.then hs24
  replace hoa := hoa.then hs24
  replace hob := hob.then hs24
  replace hoc := hoc.then hs24
  replace hod := hod.then hs24
  replace hT := hT.then hs24
  refine Dm 0 1 rfl (by kernel_rfl) rfl ?_
  refine Dq 1 3 rfl (by kernel_rfl) (fun _ => (q_neF rfl rfl (by omega))) ?_
  refine Dm 2 7 rfl (by kernel_rfl) rfl ?_
  refine Dgq 3 15 rfl (by kernel_rfl) rfl rfl (fun _ => (q_move rfl)) ?_
  refine Dgq 4 31 rfl (by kernel_rfl) rfl rfl (fun _ => (q_neF rfl rfl (by omega))) ?_
  refine Dq 5 63 rfl (by kernel_rfl) (fun _ => (q_pick_f rfl rfl)) ?_
  refine Dm 6 127 rfl (by kernel_rfl) rfl ?_
  refine Dgq 7 255 rfl (by kernel_rfl) rfl rfl (fun _ => (q_move rfl)) ?_
  refine Dgq 8 511 rfl (by kernel_rfl) rfl rfl (fun _ => (q_neF rfl rfl (by omega))) ?_
  refine Dq 9 1023 rfl (by kernel_rfl) (fun _ => (q_pick_f rfl rfl)) ?_
  refine Dm 10 2047 rfl (by kernel_rfl) rfl ?_
  refine Dgq 11 4095 rfl (by kernel_rfl) rfl rfl (fun _ => (q_move rfl)) ?_
  refine Dgq 12 8191 rfl (by kernel_rfl) rfl rfl (fun _ => (q_neF rfl rfl (by omega))) ?_
  refine Dq 13 16383 rfl (by kernel_rfl) (fun _ => (q_pick_f rfl rfl)) ?_
  refine Dm 14 32767 rfl (by kernel_rfl) rfl ?_
  refine at_gq (i := 15) (li := lb 27 65535) (cellsAre _ _ 1 _) rfl (by kernel_rfl) rfl rfl rfl rfl (fun _ h => q_loadc (n := 1) (by kernel_rfl) rfl h) (by exact Blk.cells hoz.1 rfl) (by kernel_rfl) ?_
  refine at_gq (i := 17) (li := lb 27 196607) (cellsAre _ _ 1 _) rfl (by kernel_rfl) rfl rfl rfl rfl (fun _ h => q_loadc (n := 1) (by kernel_rfl) rfl h) (by exact Blk.cells hoz.1 rfl) (by kernel_rfl) ?_
  refine Dgh 16 262143 rfl (by kernel_rfl) rfl rfl rfl (h_call (by kernel_rfl) rfl ?_)
  refine (hp_kind hs24.sat HVal.z).mono ?_
  rintro _ w25 ⟨rfl, hs25⟩
  replace hb1 := hs25.le _ _ hb1
  replace hh := hh.mono hs25.le
  replace hoh := hoh.then hs25
  replace hg := hg.mono hs25.le
  replace hog := hog.then hs25
  replace hoz := hoz.then hs25
  replace hoa := hoa.then hs25
  replace hob := hob.then hs25
  replace hoc := hoc.then hs25
  replace hod := hod.then hs25
  replace hT := hT.then hs25
  have hz25 := hs25.size
  refine ⟨(by repeat' first | exact trivial | exact BlkR.cell (hs25.sat _ _ _ hb1) rfl | exact BlkR.cells (hs25.sat _ _ _ hb1) rfl | exact Blk.cell hoh.1 rfl | exact Blk.cells hoh.1 rfl | exact Blk.cell hog.1 rfl | exact Blk.cells hog.1 rfl | exact Blk.cell hoz.1 rfl | exact Blk.cells hoz.1 rfl | exact Blk.cell hoa.1 rfl | exact Blk.cells hoa.1 rfl | exact Blk.cell hob.1 rfl | exact Blk.cells hob.1 rfl | exact Blk.cell hoc.1 rfl | exact Blk.cells hoc.1 rfl | exact Blk.cell hod.1 rfl | exact Blk.cells hod.1 rfl | assumption | refine all_keep ?_ | refine And.intro ?_ ?_), ?_⟩
  refine Dgh 18 524287 rfl (by kernel_rfl) rfl rfl rfl (h_call (by kernel_rfl) rfl ?_)
  refine (hp_size hs25.sat HVal.z (by decide)).mono ?_
  rintro _ w26 ⟨hq26, hs26⟩
  simp only [List.length_cons, List.length_nil] at hq26
  subst hq26
  replace hb1 := hs26.le _ _ hb1
  replace hh := hh.mono hs26.le
  replace hoh := hoh.then hs26
  replace hg := hg.mono hs26.le
  replace hog := hog.then hs26
  replace hoz := hoz.then hs26
  replace hoa := hoa.then hs26
  replace hob := hob.then hs26
  replace hoc := hoc.then hs26
  replace hod := hod.then hs26
  replace hT := hT.then hs26
  have hz26 := hs26.size
  refine ⟨(by repeat' first | exact trivial | exact BlkR.cell (hs26.sat _ _ _ hb1) rfl | exact BlkR.cells (hs26.sat _ _ _ hb1) rfl | exact Blk.cell hoh.1 rfl | exact Blk.cells hoh.1 rfl | exact Blk.cell hog.1 rfl | exact Blk.cells hog.1 rfl | exact Blk.cell hoz.1 rfl | exact Blk.cells hoz.1 rfl | exact Blk.cell hoa.1 rfl | exact Blk.cells hoa.1 rfl | exact Blk.cell hob.1 rfl | exact Blk.cells hob.1 rfl | exact Blk.cell hoc.1 rfl | exact Blk.cells hoc.1 rfl | exact Blk.cell hod.1 rfl | exact Blk.cells hod.1 rfl | assumption | refine all_keep ?_ | refine And.intro ?_ ?_), ?_⟩
  refine Dgq 19 1048575 rfl (by kernel_rfl) rfl rfl (fun _ => (q_addx rfl rfl (by omega) (by omega))) ?_
  refine Dgq 20 2097151 rfl (by kernel_rfl) rfl rfl (fun _ => (q_neF rfl rfl (by omega))) ?_
  refine Dq 21 4194303 rfl (by kernel_rfl) (fun _ => (q_pick_f rfl rfl)) ?_
  refine Dm 22 8388607 rfl (by kernel_rfl) rfl ?_
  refine at_gq (i := 23) (li := lb 27 16777215) (cellsAre _ _ 1 _) rfl (by kernel_rfl) rfl rfl rfl rfl (fun _ h => q_loadc (n := 1) (by kernel_rfl) rfl h) (by exact Blk.cells hoz.1 rfl) (by kernel_rfl) ?_
  refine Dgh 24 33554431 rfl (by kernel_rfl) rfl rfl rfl (h_call (by kernel_rfl) rfl ?_)
  refine (hp_show_0 hs26.sat).mono ?_
  rintro _ w27 ⟨rfl, hs27⟩
  replace hb1 := hs27.le _ _ hb1
  replace hh := hh.mono hs27.le
  replace hoh := hoh.then hs27
  replace hg := hg.mono hs27.le
  replace hog := hog.then hs27
  replace hoz := hoz.then hs27
  replace hoa := hoa.then hs27
  replace hob := hob.then hs27
  replace hoc := hoc.then hs27
  replace hod := hod.then hs27
  replace hT := hT.then hs27
  have hz27 := hs27.size
  refine ⟨(by repeat' first | exact trivial | exact BlkR.cell (hs27.sat _ _ _ hb1) rfl | exact BlkR.cells (hs27.sat _ _ _ hb1) rfl | exact Blk.cell hoh.1 rfl | exact Blk.cells hoh.1 rfl | exact Blk.cell hog.1 rfl | exact Blk.cells hog.1 rfl | exact Blk.cell hoz.1 rfl | exact Blk.cells hoz.1 rfl | exact Blk.cell hoa.1 rfl | exact Blk.cells hoa.1 rfl | exact Blk.cell hob.1 rfl | exact Blk.cells hob.1 rfl | exact Blk.cell hoc.1 rfl | exact Blk.cells hoc.1 rfl | exact Blk.cell hod.1 rfl | exact Blk.cells hod.1 rfl | assumption | refine all_keep ?_ | refine And.intro ?_ ?_), ?_⟩
  refine Dgq 25 67108863 rfl (by kernel_rfl) rfl rfl (fun _ => (q_neL rfl (show _ = some (Value.string ⟨[].toArray⟩) from rfl))) ?_
  refine Dq 26 134217727 rfl (by kernel_rfl) (fun _ => (q_pick_f rfl rfl)) ?_
  refine Dd (by kernel_rfl) (κ _ _ ?_)
  refine cw_false rfl ?_
  refine cw_skip ?_
  refine hK12 _ _ ?_
  refine cw_seq fun _ hK14 => ?_
  refine cw_rs fun _ κ => ?_
  refine Sm rfl rfl ?_
  refine as_q rfl rfl (q_ltF rfl rfl (by omega)) ?_
  refine Sm rfl rfl ?_
  refine as_gh rfl rfl rfl rfl (h_q rfl (q_move rfl) ?_)
  refine as_gh rfl rfl rfl rfl (h_q rfl (q_gtF rfl rfl (by omega)) ?_)
  refine as_q rfl rfl (q_pick_f rfl rfl) ?_
  refine as_nil (κ _ _ ?_)
  refine cw_false rfl ?_
  refine cw_skip ?_
  refine hK14 _ _ ?_
  refine cw_rs fun _ κ => ?_
  refine Sc 1 rfl (by kernel_rfl) rfl (by exact Blk.cells hoh.1 rfl) ?_
  refine Sc 1 rfl (by kernel_rfl) rfl (by exact Blk.cells hoh.1 rfl) ?_
  refine as_h rfl (h_call (by kernel_rfl) rfl ?_)
  refine (hp_meld hs27.sat hh hh (by decide)).mono ?_
  rintro _ w28 ⟨vm, Mm, hrm, hs28, hm⟩
  rw [melE, if_neg hbad] at hrm
  rw [melK, melL, if_neg hbad, if_neg hbad, show srtE ([] ++ []) = [] by decide] at hm
  subst hrm
  replace hb1 := hs28.le _ _ hb1
  replace hh := hh.mono hs28.le
  replace hoh := hoh.then hs28
  replace hg := hg.mono hs28.le
  replace hog := hog.then hs28
  replace hoz := hoz.then hs28
  replace hT := hT.then hs28
  have hz28 := hs28.size
  obtain ⟨dm, um, rfl⟩ := hm.iface hk0
  refine Sm rfl rfl ?_
  refine Se rfl rfl rfl ?_
  refine Se rfl rfl rfl ?_
  have hqam := hT.size
  refine as_h rfl (h_allocO (z := (.agg #[.nilIface])) hs28.sat (by kernel_rfl) rfl fun bm w29 hs29 hom em => ?_)
  replace hb1 := hs29.le _ _ hb1
  replace hh := hh.mono hs29.le
  replace hoh := hoh.then hs29
  replace hg := hg.mono hs29.le
  replace hog := hog.then hs29
  replace hoz := hoz.then hs29
  replace hm := hm.mono hs29.le
  replace hT := hT.then hs29
  have hz29 := hs29.size
  have hlm := hom.1.lt
  refine as_h0 (h_store hs29.sat hom rfl rfl rfl (by kernel_rfl) rfl rfl rfl fun w30 hs30 hn30 => ?_)
  replace hb1 := hs30.le _ _ hb1
  replace hh := hh.mono hs30.le
  replace hoh := hoh.step hs30 (fun h => by have h : _ = _ := h; omega)
  replace hg := hg.mono hs30.le
  replace hog := hog.step hs30 (fun h => by have h : _ = _ := h; omega)
  replace hoz := hoz.step hs30 (fun h => by have h : _ = _ := h; omega)
  replace hm := hm.mono hs30.le
  clear hom; have hom := hn30; clear hn30
  replace hT := hT.own hs30 (by omega)
  have hz30 := hs30.size
  refine Sa rfl rfl ?_
  refine as_nil (κ _ _ ?_)
  refine cw_rs fun _ κ => ?_
  refine Sc 1 rfl (by kernel_rfl) rfl (by exact Blk.cells hoh.1 rfl) ?_
  refine as_h rfl (h_call (by kernel_rfl) rfl ?_)
  refine (hp_min hs30.sat hh (by decide)).mono ?_
  rintro _ w31 ⟨hrm, hs31⟩
  rw [hfe0] at hrm
  subst hrm
  replace hb1 := hs31.le _ _ hb1
  replace hh := hh.mono hs31.le
  replace hoh := hoh.then hs31
  replace hg := hg.mono hs31.le
  replace hog := hog.then hs31
  replace hoz := hoz.then hs31
  replace hm := hm.mono hs31.le
  replace hom := hom.then hs31
  replace hT := hT.then hs31
  have hz31 := hs31.size
  refine Sm rfl rfl ?_
  refine Se rfl rfl rfl ?_
  refine Se rfl rfl rfl ?_
  have hqaj := hT.size
  refine as_h rfl (h_allocO (z := (.agg #[(.int .i64 0), (.int .i64 0)])) hs31.sat (by kernel_rfl) rfl fun bj w32 hs32 hoj ej => ?_)
  replace hb1 := hs32.le _ _ hb1
  replace hh := hh.mono hs32.le
  replace hoh := hoh.then hs32
  replace hg := hg.mono hs32.le
  replace hog := hog.then hs32
  replace hoz := hoz.then hs32
  replace hm := hm.mono hs32.le
  replace hom := hom.then hs32
  replace hT := hT.then hs32
  have hz32 := hs32.size
  have hlj := hoj.1.lt
  refine as_h0 (h_store hs32.sat hoj rfl rfl rfl (by kernel_rfl) rfl rfl rfl fun w33 hs33 hn33 => ?_)
  replace hb1 := hs33.le _ _ hb1
  replace hh := hh.mono hs33.le
  replace hoh := hoh.step hs33 (fun h => by have h : _ = _ := h; omega)
  replace hg := hg.mono hs33.le
  replace hog := hog.step hs33 (fun h => by have h : _ = _ := h; omega)
  replace hoz := hoz.step hs33 (fun h => by have h : _ = _ := h; omega)
  replace hm := hm.mono hs33.le
  replace hom := hom.step hs33 (fun h => by have h : _ = _ := h; omega)
  clear hoj; have hoj := hn33; clear hn33
  replace hT := hT.own hs33 (by omega)
  have hz33 := hs33.size
  refine Sa rfl rfl ?_
  refine as_nil (κ _ _ ?_)
  refine cw_rs fun _ κ => ?_
  refine Sc 1 rfl (by kernel_rfl) rfl (by exact Blk.cells hoh.1 rfl) ?_
  refine as_h rfl (h_call (by kernel_rfl) rfl ?_)
  refine (hp_pop_0 hs33.sat hh).mono ?_
  rintro _ w34 ⟨vk, Mk, hrk, hs34, hk⟩
  rw [hfe0] at hrk
  subst hrk
  replace hb1 := hs34.le _ _ hb1
  replace hh := hh.mono hs34.le
  replace hoh := hoh.then hs34
  replace hg := hg.mono hs34.le
  replace hog := hog.then hs34
  replace hoz := hoz.then hs34
  replace hm := hm.mono hs34.le
  replace hom := hom.then hs34
  replace hT := hT.then hs34
  have hz34 := hs34.size
  obtain ⟨_, rfl⟩ := hk.zero
  refine Sm rfl rfl ?_
  refine Se rfl rfl rfl ?_
  refine Se rfl rfl rfl ?_
  have hqak := hT.size
  refine as_h rfl (h_allocO (z := (.agg #[.nilIface])) hs34.sat (by kernel_rfl) rfl fun bk w35 hs35 hok ek => ?_)
  replace hb1 := hs35.le _ _ hb1
  replace hh := hh.mono hs35.le
  replace hoh := hoh.then hs35
  replace hg := hg.mono hs35.le
  replace hog := hog.then hs35
  replace hoz := hoz.then hs35
  replace hm := hm.mono hs35.le
  replace hom := hom.then hs35
  replace hT := hT.then hs35
  have hz35 := hs35.size
  have hlk := hok.1.lt
  refine as_h0 (h_store hs35.sat hok rfl rfl rfl (by kernel_rfl) rfl rfl rfl fun w36 hs36 hn36 => ?_)
  replace hb1 := hs36.le _ _ hb1
  replace hh := hh.mono hs36.le
  replace hoh := hoh.step hs36 (fun h => by have h : _ = _ := h; omega)
  replace hg := hg.mono hs36.le
  replace hog := hog.step hs36 (fun h => by have h : _ = _ := h; omega)
  replace hoz := hoz.step hs36 (fun h => by have h : _ = _ := h; omega)
  replace hm := hm.mono hs36.le
  replace hom := hom.step hs36 (fun h => by have h : _ = _ := h; omega)
  clear hok; have hok := hn36; clear hn36
  replace hT := hT.own hs36 (by omega)
  have hz36 := hs36.size
  refine Sa rfl rfl ?_
  refine as_nil (κ _ _ ?_)
  refine cw_rs fun _ κ => ?_
  refine Sc 1 rfl (by kernel_rfl) rfl (by exact Blk.cells hoh.1 rfl) ?_
  refine Sc 1 rfl (by kernel_rfl) rfl (by exact Blk.cells hoz.1 rfl) ?_
  refine as_h rfl (h_call (by kernel_rfl) rfl ?_)
  refine (hp_meld hs36.sat hh HVal.z (by decide)).mono ?_
  rintro _ w37 ⟨vn, Mn, hrn, hs37, hn⟩
  rw [melE, if_pos (show badM k 0 from .inr (.inl rfl))] at hrn
  rw [melK, if_pos (show badM k 0 from .inr (.inl rfl))] at hn
  subst hrn
  replace hb1 := hs37.le _ _ hb1
  replace hg := hg.mono hs37.le
  replace hog := hog.then hs37
  replace hm := hm.mono hs37.le
  replace hom := hom.then hs37
  replace hT := hT.then hs37
  have hz37 := hs37.size
  obtain ⟨_, rfl⟩ := hn.zero
  refine Sm rfl rfl ?_
  refine Se rfl rfl rfl ?_
  refine Se rfl rfl rfl ?_
  have hqan := hT.size
  refine as_h rfl (h_allocO (z := (.agg #[.nilIface])) hs37.sat (by kernel_rfl) rfl fun bn w38 hs38 hon en => ?_)
  replace hb1 := hs38.le _ _ hb1
  replace hg := hg.mono hs38.le
  replace hog := hog.then hs38
  replace hm := hm.mono hs38.le
  replace hom := hom.then hs38
  replace hT := hT.then hs38
  have hz38 := hs38.size
  have hln := hon.1.lt
  refine as_h0 (h_store hs38.sat hon rfl rfl rfl (by kernel_rfl) rfl rfl rfl fun w39 hs39 hn39 => ?_)
  replace hb1 := hs39.le _ _ hb1
  replace hg := hg.mono hs39.le
  replace hog := hog.step hs39 (fun h => by have h : _ = _ := h; omega)
  replace hm := hm.mono hs39.le
  replace hom := hom.step hs39 (fun h => by have h : _ = _ := h; omega)
  clear hon; have hon := hn39; clear hn39
  replace hT := hT.own hs39 (by omega)
  have hz39 := hs39.size
  refine Sa rfl rfl ?_
  refine as_nil (κ _ _ ?_)
  refine cw_rs fun _ κ => ?_
  refine Sc 1 rfl (by kernel_rfl) rfl (by exact Blk.cells hog.1 rfl) ?_
  refine as_h rfl (h_call (by kernel_rfl) rfl ?_)
  refine (hp_min hs39.sat hg (by simp)).mono ?_
  rintro _ w40 ⟨hrm, hs40⟩
  rw [hfe1] at hrm
  subst hrm
  replace hb1 := hs40.le _ _ hb1
  replace hg := hg.mono hs40.le
  replace hog := hog.then hs40
  replace hm := hm.mono hs40.le
  replace hom := hom.then hs40
  replace hT := hT.then hs40
  have hz40 := hs40.size
  refine Sm rfl rfl ?_
  refine Se rfl rfl rfl ?_
  refine Se rfl rfl rfl ?_
  have hqayy := hT.size
  refine as_h rfl (h_allocO (z := (.agg #[(.int .i64 0), (.int .i64 0)])) hs40.sat (by kernel_rfl) rfl fun byy w41 hs41 hoyy eyy => ?_)
  replace hb1 := hs41.le _ _ hb1
  replace hg := hg.mono hs41.le
  replace hog := hog.then hs41
  replace hm := hm.mono hs41.le
  replace hom := hom.then hs41
  replace hT := hT.then hs41
  have hz41 := hs41.size
  have hlyy := hoyy.1.lt
  refine as_h0 (h_store hs41.sat hoyy rfl rfl rfl (by kernel_rfl) rfl rfl rfl fun w42 hs42 hn42 => ?_)
  replace hb1 := hs42.le _ _ hb1
  replace hg := hg.mono hs42.le
  replace hog := hog.step hs42 (fun h => by have h : _ = _ := h; omega)
  replace hm := hm.mono hs42.le
  replace hom := hom.step hs42 (fun h => by have h : _ = _ := h; omega)
  clear hoyy; have hoyy := hn42; clear hn42
  replace hT := hT.own hs42 (by omega)
  have hz42 := hs42.size
  refine Sa rfl rfl ?_
  refine as_nil (κ _ _ ?_)
  refine cw_rs fun _ κ => ?_
  refine Sm rfl rfl ?_
  refine as_q rfl rfl (q_eqT rfl rfl (by omega)) ?_
  refine Sm rfl rfl ?_
  refine as_gh rfl rfl rfl rfl (h_q rfl (q_move rfl) ?_)
  refine as_gh rfl rfl rfl rfl (h_q rfl (q_eqT rfl rfl (by omega)) ?_)
  refine as_q rfl rfl (q_pick_t rfl rfl) ?_
  refine Sm rfl rfl ?_
  refine as_gh rfl rfl rfl rfl (h_q rfl (q_move rfl) ?_)
  refine as_gh rfl rfl rfl rfl (h_q rfl (q_eqT rfl rfl (by omega)) ?_)
  refine as_q rfl rfl (q_pick_t rfl rfl) ?_
  refine Sm rfl rfl ?_
  refine as_gh rfl rfl rfl rfl (h_q rfl (q_loadc (n := 1) (by kernel_rfl) rfl (by exact Blk.cells hom.1 rfl)) ?_)
  refine as_gh rfl rfl rfl rfl (h_call (by kernel_rfl) rfl ?_)
  refine (hp_size hs42.sat hm (by decide)).mono ?_
  rintro _ w43 ⟨hq43, hs43⟩
  simp only [List.length_cons, List.length_nil] at hq43
  subst hq43
  replace hb1 := hs43.le _ _ hb1
  replace hg := hg.mono hs43.le
  replace hog := hog.then hs43
  replace hm := hm.mono hs43.le
  replace hom := hom.then hs43
  replace hoyy := hoyy.then hs43
  replace hT := hT.then hs43
  have hz43 := hs43.size
  refine as_gh rfl rfl rfl rfl (h_q rfl (q_eqT rfl rfl (by omega)) ?_)
  refine as_q rfl rfl (q_pick_t rfl rfl) ?_
  refine Sm rfl rfl ?_
  refine as_gh rfl rfl rfl rfl (h_q rfl (q_loadc (n := 1) (by kernel_rfl) rfl (by exact Blk.cells hom.1 rfl)) ?_)
  refine as_gh rfl rfl rfl rfl (h_call (by kernel_rfl) rfl ?_)
  refine (hp_kind hs43.sat hm).mono ?_
  rintro _ w44 ⟨rfl, hs44⟩
  replace hb1 := hs44.le _ _ hb1
  replace hg := hg.mono hs44.le
  replace hog := hog.then hs44
  replace hoyy := hoyy.then hs44
  replace hT := hT.then hs44
  have hz44 := hs44.size
  refine as_gh rfl rfl rfl rfl (h_q rfl (q_move rfl) ?_)
  refine as_gh rfl rfl rfl rfl (h_q rfl (q_eqT rfl rfl (by omega)) ?_)
  refine as_q rfl rfl (q_pick_t rfl rfl) ?_
  refine Sm rfl rfl ?_
  refine as_gh rfl rfl rfl rfl (h_q rfl (q_move rfl) ?_)
  refine as_gh rfl rfl rfl rfl (h_q rfl (q_eqT rfl rfl (by omega)) ?_)
  refine as_q rfl rfl (q_pick_t rfl rfl) ?_
  refine Sm rfl rfl ?_
  refine as_gh rfl rfl rfl rfl (h_q rfl (q_move rfl) ?_)
  refine as_gh rfl rfl rfl rfl (h_q rfl (q_eqT rfl rfl (by omega)) ?_)
  refine as_q rfl rfl (q_pick_t rfl rfl) ?_
  refine Sm rfl rfl ?_
  refine as_gh rfl rfl rfl rfl (h_q rfl (q_move rfl) ?_)
  refine as_gh rfl rfl rfl rfl (h_q rfl (q_eqT rfl rfl (by omega)) ?_)
  refine as_q rfl rfl (q_pick_t rfl rfl) ?_
  refine Sm rfl rfl ?_
  refine as_gh rfl rfl rfl rfl (h_q rfl (q_move rfl) ?_)
  refine as_gh rfl rfl rfl rfl (h_q rfl (q_eqT rfl rfl (by omega)) ?_)
  refine as_q rfl rfl (q_pick_t rfl rfl) ?_
  refine Sm rfl rfl ?_
  refine as_gh rfl rfl rfl rfl (h_q rfl (q_loadc (n := 2) (by kernel_rfl) rfl (by exact Blk.cells hoyy.1 rfl)) ?_)
  refine as_gh rfl rfl rfl rfl (h_q rfl (q_loadc (n := 2) (by kernel_rfl) rfl (by exact BlkR.cells (hs44.sat _ _ _ hb1) rfl)) ?_)
  refine as_gh rfl rfl rfl rfl (h_q rfl (q_congr (q_eqE (a := x) (b := x) (e := 2) (by kernel_rfl) (by kernel_rfl) (by kernel_rfl) (by kernel_rfl) (by kernel_rfl) (by kernel_rfl) rfl rfl) (v' := .bool true) (by simp)) ?_)
  refine as_q rfl rfl (q_pick_t rfl rfl) ?_
  refine Sm rfl rfl ?_
  refine as_gh rfl rfl rfl rfl (h_q rfl (q_loadc (n := 1) (by kernel_rfl) rfl (by exact Blk.cells hog.1 rfl)) ?_)
  refine as_gh rfl rfl rfl rfl (h_call (by kernel_rfl) rfl ?_)
  refine (hp_size hs44.sat hg (by simp)).mono ?_
  rintro _ w45 ⟨hq45, hs45⟩
  simp only [List.length_cons, List.length_nil] at hq45
  subst hq45
  replace hT := hT.then hs45
  have hz45 := hs45.size
  refine as_gh rfl rfl rfl rfl (h_q rfl (q_eqT rfl rfl (by omega)) ?_)
  refine as_q rfl rfl (q_pick_t rfl rfl) ?_
  refine Sa rfl rfl ?_
  refine as_nil (κ _ _ ?_)
  refine cw_ret ?_
  exact ⟨_, (res_tmp rfl res_nil), rfl, hT.forget⟩
set_option maxRecDepth 4000 in
theorem heapNone_0 {w : World} {M : Mem} {z : Int} {x : El} (hs : Sat M w) (hz : ¬ (1 ≤ z ∧ z ≤ 6)) :
    Does Tryz.prog 8 #[.int .i64 z, .agg (elc x).toArray] w (fun v w' => v = .bool true ∧ Step Nope M w M w') := by
  have hT := Step.refl Nope hs
  have hem : emE z = 22 := by unfold emE; rw [if_neg hz]
  have hekz : emK z = 0 := by unfold emK; rw [if_neg hz]
  have hofl : ofL z [x] = [] := by unfold ofL; rw [if_neg hz]
  refine fn_enter Tryz.func8 rfl (rs := [.tmp 4]) rfl rfl rfl rfl ?_
  refine cw_rs fun _ κ => ?_
  refine as_h rfl (h_boxM hs rfl rfl fun b1 M1 w1 hs1 hb1 e1 => ?_)
  replace hT := hT.then hs1
  have hz1 := hs1.size
  refine Sa rfl rfl ?_
  refine as_nil (κ _ _ ?_)
  refine cw_rs fun _ κ => ?_
  refine as_h rfl (h_call (by kernel_rfl) rfl ?_)
  refine (awake15 hs1.sat).mono ?_
  rintro _ w2 ⟨rfl, hs2⟩
  replace hb1 := hs2.le _ _ hb1
  replace hT := hT.then hs2
  have hz2 := hs2.size
  refine Sa rfl rfl ?_
  refine as_nil (κ _ _ ?_)
  refine cw_seq fun _ hK3 => ?_
  refine cw_rs fun _ κ => ?_
  refine Sm rfl rfl ?_
  refine as_q rfl rfl (q_not rfl) ?_
  refine as_nil (κ _ _ ?_)
  refine cw_false rfl ?_
  refine cw_skip ?_
  refine hK3 _ _ ?_
  refine cw_rs fun _ κ => ?_
  refine Sm rfl rfl ?_
  refine as_h rfl (h_call (by kernel_rfl) rfl ?_)
  refine (hp_empty (z := z) hs2.sat).mono ?_
  rintro _ w3 ⟨vh, Mh, hrh, hs3, hh⟩
  rw [hem] at hrh
  subst hrh
  rw [hekz] at hh
  replace hb1 := hs3.le _ _ hb1
  replace hT := hT.then hs3
  have hz3 := hs3.size
  obtain ⟨_, rfl⟩ := hh.zero
  refine Sm rfl rfl ?_
  refine Se rfl rfl rfl ?_
  refine Se rfl rfl rfl ?_
  have hqah := hT.size
  refine as_h rfl (h_allocO (z := (.agg #[.nilIface])) hs3.sat (by kernel_rfl) rfl fun bh w4 hs4 hoh eh => ?_)
  replace hb1 := hs4.le _ _ hb1
  replace hh := hh.mono hs4.le
  replace hT := hT.then hs4
  have hz4 := hs4.size
  have hlh := hoh.1.lt
  refine as_h0 (h_store hs4.sat hoh rfl rfl rfl (by kernel_rfl) rfl rfl rfl fun w5 hs5 hn5 => ?_)
  replace hb1 := hs5.le _ _ hb1
  replace hh := hh.mono hs5.le
  clear hoh; have hoh := hn5; clear hn5
  replace hT := hT.own hs5 (by omega)
  have hz5 := hs5.size
  refine Sa rfl rfl ?_
  refine as_nil (κ _ _ ?_)
  refine cw_rs fun _ κ => ?_
  refine Sm rfl rfl ?_
  refine Sc 2 rfl (by kernel_rfl) rfl (by exact BlkR.cells (hs5.sat _ _ _ hb1) rfl) ?_
  refine as_h rfl (h_buildO (e := 24) (size := 2) (zs := [.int .i64 0, .int .i64 0]) (cs := [_, _]) (by kernel_rfl) (by kernel_rfl) (by kernel_rfl) rfl hs5.sat rfl rfl fun bp w6 hs6 hop ep => ?_)
  replace hb1 := hs6.le _ _ hb1
  replace hh := hh.mono hs6.le
  replace hoh := hoh.then hs6
  replace hT := hT.then hs6
  have hz6 := hs6.size
  refine as_h rfl (h_call (by kernel_rfl) rfl ?_)
  refine (of_one (z := z) (x := x) hs6.sat hop).mono ?_
  rintro _ w7 ⟨vg, Mg, hrg, hs7, hg⟩
  rw [hem] at hrg
  subst hrg
  rw [hekz, hofl] at hg
  replace hb1 := hs7.le _ _ hb1
  replace hh := hh.mono hs7.le
  replace hoh := hoh.then hs7
  replace hT := hT.then hs7
  have hz7 := hs7.size
  obtain ⟨_, rfl⟩ := hg.zero
  refine Sm rfl rfl ?_
  refine Se rfl rfl rfl ?_
  refine Se rfl rfl rfl ?_
  have hqag := hT.size
  refine as_h rfl (h_allocO (z := (.agg #[.nilIface])) hs7.sat (by kernel_rfl) rfl fun bg w8 hs8 hog eg => ?_)
  replace hb1 := hs8.le _ _ hb1
  replace hh := hh.mono hs8.le
  replace hoh := hoh.then hs8
  replace hg := hg.mono hs8.le
  replace hT := hT.then hs8
  have hz8 := hs8.size
  have hlg := hog.1.lt
  refine as_h0 (h_store hs8.sat hog rfl rfl rfl (by kernel_rfl) rfl rfl rfl fun w9 hs9 hn9 => ?_)
  replace hb1 := hs9.le _ _ hb1
  replace hh := hh.mono hs9.le
  replace hoh := hoh.step hs9 (fun h => by have h : _ = _ := h; omega)
  replace hg := hg.mono hs9.le
  clear hog; have hog := hn9; clear hn9
  replace hT := hT.own hs9 (by omega)
  have hz9 := hs9.size
  refine Sa rfl rfl ?_
  refine as_nil (κ _ _ ?_)
  refine cw_rs fun _ κ => ?_
  refine as_q rfl rfl (q_build (zs := [.nilIface]) (places := [(0, 1)]) (cs := [_]) (by kernel_rfl) (by kernel_rfl) rfl rfl) ?_
  have hqaz := hT.size
  refine as_h rfl (h_allocO (z := (.agg #[.nilIface])) hs9.sat (by kernel_rfl) rfl fun bz w10 hs10 hoz ez => ?_)
  replace hb1 := hs10.le _ _ hb1
  replace hh := hh.mono hs10.le
  replace hoh := hoh.then hs10
  replace hg := hg.mono hs10.le
  replace hog := hog.then hs10
  replace hT := hT.then hs10
  have hz10 := hs10.size
  have hlz := hoz.1.lt
  refine as_h0 (h_store hs10.sat hoz rfl rfl rfl (by kernel_rfl) rfl rfl rfl fun w11 hs11 hn11 => ?_)
  replace hb1 := hs11.le _ _ hb1
  replace hh := hh.mono hs11.le
  replace hoh := hoh.step hs11 (fun h => by have h : _ = _ := h; omega)
  replace hg := hg.mono hs11.le
  replace hog := hog.step hs11 (fun h => by have h : _ = _ := h; omega)
  clear hoz; have hoz := hn11; clear hn11
  replace hT := hT.own hs11 (by omega)
  have hz11 := hs11.size
  refine as_nil (κ _ _ ?_)
  refine cw_rs fun _ κ => ?_
  refine Sc 1 rfl (by kernel_rfl) rfl (by exact Blk.cells hoz.1 rfl) ?_
  refine Sc 2 rfl (by kernel_rfl) rfl (by exact BlkR.cells (hs11.sat _ _ _ hb1) rfl) ?_
  refine as_h rfl (h_call (by kernel_rfl) rfl ?_)
  refine (hp_insert (x := x) (l := []) hs11.sat HVal.z (by decide)).mono ?_
  rintro _ w12 ⟨va, Ma, hra, hs12, ha⟩
  rw [show insE 0 = 22 by decide] at hra
  subst hra
  replace hb1 := hs12.le _ _ hb1
  replace hh := hh.mono hs12.le
  replace hoh := hoh.then hs12
  replace hg := hg.mono hs12.le
  replace hog := hog.then hs12
  replace hoz := hoz.then hs12
  replace hT := hT.then hs12
  have hz12 := hs12.size
  obtain ⟨_, rfl⟩ := ha.zero
  refine Sm rfl rfl ?_
  refine Se rfl rfl rfl ?_
  refine Se rfl rfl rfl ?_
  have hqaa := hT.size
  refine as_h rfl (h_allocO (z := (.agg #[.nilIface])) hs12.sat (by kernel_rfl) rfl fun ba w13 hs13 hoa ea => ?_)
  replace hb1 := hs13.le _ _ hb1
  replace hh := hh.mono hs13.le
  replace hoh := hoh.then hs13
  replace hg := hg.mono hs13.le
  replace hog := hog.then hs13
  replace hoz := hoz.then hs13
  replace hT := hT.then hs13
  have hz13 := hs13.size
  have hla := hoa.1.lt
  refine as_h0 (h_store hs13.sat hoa rfl rfl rfl (by kernel_rfl) rfl rfl rfl fun w14 hs14 hn14 => ?_)
  replace hb1 := hs14.le _ _ hb1
  replace hh := hh.mono hs14.le
  replace hoh := hoh.step hs14 (fun h => by have h : _ = _ := h; omega)
  replace hg := hg.mono hs14.le
  replace hog := hog.step hs14 (fun h => by have h : _ = _ := h; omega)
  replace hoz := hoz.step hs14 (fun h => by have h : _ = _ := h; omega)
  clear hoa; have hoa := hn14; clear hn14
  replace hT := hT.own hs14 (by omega)
  have hz14 := hs14.size
  refine Sa rfl rfl ?_
  refine as_nil (κ _ _ ?_)
  refine cw_rs fun _ κ => ?_
  refine Sc 1 rfl (by kernel_rfl) rfl (by exact Blk.cells hoz.1 rfl) ?_
  refine Sc 1 rfl (by kernel_rfl) rfl (by exact Blk.cells hoz.1 rfl) ?_
  refine as_h rfl (h_call (by kernel_rfl) rfl ?_)
  refine (hp_meld hs14.sat HVal.z HVal.z (by decide)).mono ?_
  rintro _ w15 ⟨vb, Mb, hrb, hs15, hb⟩
  rw [show melE 0 0 = 22 by decide] at hrb
  rw [show melK 0 0 = 0 by decide] at hb
  subst hrb
  replace hb1 := hs15.le _ _ hb1
  replace hh := hh.mono hs15.le
  replace hoh := hoh.then hs15
  replace hg := hg.mono hs15.le
  replace hog := hog.then hs15
  replace hoz := hoz.then hs15
  replace hoa := hoa.then hs15
  replace hT := hT.then hs15
  have hz15 := hs15.size
  obtain ⟨_, rfl⟩ := hb.zero
  refine Sm rfl rfl ?_
  refine Se rfl rfl rfl ?_
  refine Se rfl rfl rfl ?_
  have hqab := hT.size
  refine as_h rfl (h_allocO (z := (.agg #[.nilIface])) hs15.sat (by kernel_rfl) rfl fun bb w16 hs16 hob eb => ?_)
  replace hb1 := hs16.le _ _ hb1
  replace hh := hh.mono hs16.le
  replace hoh := hoh.then hs16
  replace hg := hg.mono hs16.le
  replace hog := hog.then hs16
  replace hoz := hoz.then hs16
  replace hoa := hoa.then hs16
  replace hT := hT.then hs16
  have hz16 := hs16.size
  have hlb := hob.1.lt
  refine as_h0 (h_store hs16.sat hob rfl rfl rfl (by kernel_rfl) rfl rfl rfl fun w17 hs17 hn17 => ?_)
  replace hb1 := hs17.le _ _ hb1
  replace hh := hh.mono hs17.le
  replace hoh := hoh.step hs17 (fun h => by have h : _ = _ := h; omega)
  replace hg := hg.mono hs17.le
  replace hog := hog.step hs17 (fun h => by have h : _ = _ := h; omega)
  replace hoz := hoz.step hs17 (fun h => by have h : _ = _ := h; omega)
  replace hoa := hoa.step hs17 (fun h => by have h : _ = _ := h; omega)
  clear hob; have hob := hn17; clear hn17
  replace hT := hT.own hs17 (by omega)
  have hz17 := hs17.size
  refine Sa rfl rfl ?_
  refine as_nil (κ _ _ ?_)
  refine cw_rs fun _ κ => ?_
  refine Sc 1 rfl (by kernel_rfl) rfl (by exact Blk.cells hoz.1 rfl) ?_
  refine as_h rfl (h_call (by kernel_rfl) rfl ?_)
  refine (hp_min hs17.sat HVal.z (by decide)).mono ?_
  rintro _ w18 ⟨hrm, hs18⟩
  rw [show fullE 0 [] = 22 by decide] at hrm
  subst hrm
  replace hb1 := hs18.le _ _ hb1
  replace hh := hh.mono hs18.le
  replace hoh := hoh.then hs18
  replace hg := hg.mono hs18.le
  replace hog := hog.then hs18
  replace hoz := hoz.then hs18
  replace hoa := hoa.then hs18
  replace hob := hob.then hs18
  replace hT := hT.then hs18
  have hz18 := hs18.size
  refine Sm rfl rfl ?_
  refine Se rfl rfl rfl ?_
  refine Se rfl rfl rfl ?_
  have hqac := hT.size
  refine as_h rfl (h_allocO (z := (.agg #[(.int .i64 0), (.int .i64 0)])) hs18.sat (by kernel_rfl) rfl fun bc w19 hs19 hoc ec => ?_)
  replace hb1 := hs19.le _ _ hb1
  replace hh := hh.mono hs19.le
  replace hoh := hoh.then hs19
  replace hg := hg.mono hs19.le
  replace hog := hog.then hs19
  replace hoz := hoz.then hs19
  replace hoa := hoa.then hs19
  replace hob := hob.then hs19
  replace hT := hT.then hs19
  have hz19 := hs19.size
  have hlc := hoc.1.lt
  refine as_h0 (h_store hs19.sat hoc rfl rfl rfl (by kernel_rfl) rfl rfl rfl fun w20 hs20 hn20 => ?_)
  replace hb1 := hs20.le _ _ hb1
  replace hh := hh.mono hs20.le
  replace hoh := hoh.step hs20 (fun h => by have h : _ = _ := h; omega)
  replace hg := hg.mono hs20.le
  replace hog := hog.step hs20 (fun h => by have h : _ = _ := h; omega)
  replace hoz := hoz.step hs20 (fun h => by have h : _ = _ := h; omega)
  replace hoa := hoa.step hs20 (fun h => by have h : _ = _ := h; omega)
  replace hob := hob.step hs20 (fun h => by have h : _ = _ := h; omega)
  clear hoc; have hoc := hn20; clear hn20
  replace hT := hT.own hs20 (by omega)
  have hz20 := hs20.size
  refine Sa rfl rfl ?_
  refine as_nil (κ _ _ ?_)
  refine cw_rs fun _ κ => ?_
  refine Sc 1 rfl (by kernel_rfl) rfl (by exact Blk.cells hoz.1 rfl) ?_
  refine as_h rfl (h_call (by kernel_rfl) rfl ?_)
  refine (hp_pop_0 hs20.sat HVal.z).mono ?_
  rintro _ w21 ⟨vd, Md, hrd, hs21, hd⟩
  rw [show fullE 0 [] = 22 by decide] at hrd
  subst hrd
  replace hb1 := hs21.le _ _ hb1
  replace hh := hh.mono hs21.le
  replace hoh := hoh.then hs21
  replace hg := hg.mono hs21.le
  replace hog := hog.then hs21
  replace hoz := hoz.then hs21
  replace hoa := hoa.then hs21
  replace hob := hob.then hs21
  replace hoc := hoc.then hs21
  replace hT := hT.then hs21
  have hz21 := hs21.size
  obtain ⟨_, rfl⟩ := hd.zero
  refine Sm rfl rfl ?_
  refine Se rfl rfl rfl ?_
  refine Se rfl rfl rfl ?_
  have hqad := hT.size
  refine as_h rfl (h_allocO (z := (.agg #[.nilIface])) hs21.sat (by kernel_rfl) rfl fun bd w22 hs22 hod ed => ?_)
  replace hb1 := hs22.le _ _ hb1
  replace hh := hh.mono hs22.le
  replace hoh := hoh.then hs22
  replace hg := hg.mono hs22.le
  replace hog := hog.then hs22
  replace hoz := hoz.then hs22
  replace hoa := hoa.then hs22
  replace hob := hob.then hs22
  replace hoc := hoc.then hs22
  replace hT := hT.then hs22
  have hz22 := hs22.size
  have hld := hod.1.lt
  refine as_h0 (h_store hs22.sat hod rfl rfl rfl (by kernel_rfl) rfl rfl rfl fun w23 hs23 hn23 => ?_)
  replace hb1 := hs23.le _ _ hb1
  replace hh := hh.mono hs23.le
  replace hoh := hoh.step hs23 (fun h => by have h : _ = _ := h; omega)
  replace hg := hg.mono hs23.le
  replace hog := hog.step hs23 (fun h => by have h : _ = _ := h; omega)
  replace hoz := hoz.step hs23 (fun h => by have h : _ = _ := h; omega)
  replace hoa := hoa.step hs23 (fun h => by have h : _ = _ := h; omega)
  replace hob := hob.step hs23 (fun h => by have h : _ = _ := h; omega)
  replace hoc := hoc.step hs23 (fun h => by have h : _ = _ := h; omega)
  clear hod; have hod := hn23; clear hn23
  replace hT := hT.own hs23 (by omega)
  have hz23 := hs23.size
  refine Sa rfl rfl ?_
  refine as_nil (κ _ _ ?_)
  refine cw_seq fun _ hK12 => ?_
  refine cw_dr (by kernel_rfl) fun _ κ => ?_
  have hs24 := Step.drew hs23.sat
  have hz24 := hs24.size
  replace hb1 := hs24.le _ _ hb1
  replace hh := hh.mono hs24.le
  replace hoh := hoh.then hs24
  replace hg := hg.mono hs24.le
  replace hog := hog.then hs24
  replace hoz := hoz.then hs24
  replace hoa := hoa.then hs24
  replace hob := hob.then hs24
  replace hoc := hoc.then hs24
  replace hod := hod.then hs24
  replace hT := hT.then hs24
  refine Dm 0 1 rfl (by kernel_rfl) rfl ?_
  refine Dq 1 3 rfl (by kernel_rfl) (fun _ => (q_neF rfl rfl (by omega))) ?_
  refine Dm 2 7 rfl (by kernel_rfl) rfl ?_
  refine Dgq 3 15 rfl (by kernel_rfl) rfl rfl (fun _ => (q_move rfl)) ?_
  refine Dgq 4 31 rfl (by kernel_rfl) rfl rfl (fun _ => (q_neF rfl rfl (by omega))) ?_
  refine Dq 5 63 rfl (by kernel_rfl) (fun _ => (q_pick_f rfl rfl)) ?_
  refine Dm 6 127 rfl (by kernel_rfl) rfl ?_
  refine Dgq 7 255 rfl (by kernel_rfl) rfl rfl (fun _ => (q_move rfl)) ?_
  refine Dgq 8 511 rfl (by kernel_rfl) rfl rfl (fun _ => (q_neF rfl rfl (by omega))) ?_
  refine Dq 9 1023 rfl (by kernel_rfl) (fun _ => (q_pick_f rfl rfl)) ?_
  refine Dm 10 2047 rfl (by kernel_rfl) rfl ?_
  refine Dgq 11 4095 rfl (by kernel_rfl) rfl rfl (fun _ => (q_move rfl)) ?_
  refine Dgq 12 8191 rfl (by kernel_rfl) rfl rfl (fun _ => (q_neF rfl rfl (by omega))) ?_
  refine Dq 13 16383 rfl (by kernel_rfl) (fun _ => (q_pick_f rfl rfl)) ?_
  refine Dm 14 32767 rfl (by kernel_rfl) rfl ?_
  refine at_gq (i := 15) (li := lb 27 65535) (cellsAre _ _ 1 _) rfl (by kernel_rfl) rfl rfl rfl rfl (fun _ h => q_loadc (n := 1) (by kernel_rfl) rfl h) (by exact Blk.cells hoz.1 rfl) (by kernel_rfl) ?_
  refine at_gq (i := 17) (li := lb 27 196607) (cellsAre _ _ 1 _) rfl (by kernel_rfl) rfl rfl rfl rfl (fun _ h => q_loadc (n := 1) (by kernel_rfl) rfl h) (by exact Blk.cells hoz.1 rfl) (by kernel_rfl) ?_
  refine Dgh 16 262143 rfl (by kernel_rfl) rfl rfl rfl (h_call (by kernel_rfl) rfl ?_)
  refine (hp_kind hs24.sat HVal.z).mono ?_
  rintro _ w25 ⟨rfl, hs25⟩
  replace hb1 := hs25.le _ _ hb1
  replace hh := hh.mono hs25.le
  replace hoh := hoh.then hs25
  replace hg := hg.mono hs25.le
  replace hog := hog.then hs25
  replace hoz := hoz.then hs25
  replace hoa := hoa.then hs25
  replace hob := hob.then hs25
  replace hoc := hoc.then hs25
  replace hod := hod.then hs25
  replace hT := hT.then hs25
  have hz25 := hs25.size
  refine ⟨(by repeat' first | exact trivial | exact BlkR.cell (hs25.sat _ _ _ hb1) rfl | exact BlkR.cells (hs25.sat _ _ _ hb1) rfl | exact Blk.cell hoh.1 rfl | exact Blk.cells hoh.1 rfl | exact Blk.cell hog.1 rfl | exact Blk.cells hog.1 rfl | exact Blk.cell hoz.1 rfl | exact Blk.cells hoz.1 rfl | exact Blk.cell hoa.1 rfl | exact Blk.cells hoa.1 rfl | exact Blk.cell hob.1 rfl | exact Blk.cells hob.1 rfl | exact Blk.cell hoc.1 rfl | exact Blk.cells hoc.1 rfl | exact Blk.cell hod.1 rfl | exact Blk.cells hod.1 rfl | assumption | refine all_keep ?_ | refine And.intro ?_ ?_), ?_⟩
  refine Dgh 18 524287 rfl (by kernel_rfl) rfl rfl rfl (h_call (by kernel_rfl) rfl ?_)
  refine (hp_size hs25.sat HVal.z (by decide)).mono ?_
  rintro _ w26 ⟨hq26, hs26⟩
  simp only [List.length_cons, List.length_nil] at hq26
  subst hq26
  replace hb1 := hs26.le _ _ hb1
  replace hh := hh.mono hs26.le
  replace hoh := hoh.then hs26
  replace hg := hg.mono hs26.le
  replace hog := hog.then hs26
  replace hoz := hoz.then hs26
  replace hoa := hoa.then hs26
  replace hob := hob.then hs26
  replace hoc := hoc.then hs26
  replace hod := hod.then hs26
  replace hT := hT.then hs26
  have hz26 := hs26.size
  refine ⟨(by repeat' first | exact trivial | exact BlkR.cell (hs26.sat _ _ _ hb1) rfl | exact BlkR.cells (hs26.sat _ _ _ hb1) rfl | exact Blk.cell hoh.1 rfl | exact Blk.cells hoh.1 rfl | exact Blk.cell hog.1 rfl | exact Blk.cells hog.1 rfl | exact Blk.cell hoz.1 rfl | exact Blk.cells hoz.1 rfl | exact Blk.cell hoa.1 rfl | exact Blk.cells hoa.1 rfl | exact Blk.cell hob.1 rfl | exact Blk.cells hob.1 rfl | exact Blk.cell hoc.1 rfl | exact Blk.cells hoc.1 rfl | exact Blk.cell hod.1 rfl | exact Blk.cells hod.1 rfl | assumption | refine all_keep ?_ | refine And.intro ?_ ?_), ?_⟩
  refine Dgq 19 1048575 rfl (by kernel_rfl) rfl rfl (fun _ => (q_addx rfl rfl (by omega) (by omega))) ?_
  refine Dgq 20 2097151 rfl (by kernel_rfl) rfl rfl (fun _ => (q_neF rfl rfl (by omega))) ?_
  refine Dq 21 4194303 rfl (by kernel_rfl) (fun _ => (q_pick_f rfl rfl)) ?_
  refine Dm 22 8388607 rfl (by kernel_rfl) rfl ?_
  refine at_gq (i := 23) (li := lb 27 16777215) (cellsAre _ _ 1 _) rfl (by kernel_rfl) rfl rfl rfl rfl (fun _ h => q_loadc (n := 1) (by kernel_rfl) rfl h) (by exact Blk.cells hoz.1 rfl) (by kernel_rfl) ?_
  refine Dgh 24 33554431 rfl (by kernel_rfl) rfl rfl rfl (h_call (by kernel_rfl) rfl ?_)
  refine (hp_show_0 hs26.sat).mono ?_
  rintro _ w27 ⟨rfl, hs27⟩
  replace hb1 := hs27.le _ _ hb1
  replace hh := hh.mono hs27.le
  replace hoh := hoh.then hs27
  replace hg := hg.mono hs27.le
  replace hog := hog.then hs27
  replace hoz := hoz.then hs27
  replace hoa := hoa.then hs27
  replace hob := hob.then hs27
  replace hoc := hoc.then hs27
  replace hod := hod.then hs27
  replace hT := hT.then hs27
  have hz27 := hs27.size
  refine ⟨(by repeat' first | exact trivial | exact BlkR.cell (hs27.sat _ _ _ hb1) rfl | exact BlkR.cells (hs27.sat _ _ _ hb1) rfl | exact Blk.cell hoh.1 rfl | exact Blk.cells hoh.1 rfl | exact Blk.cell hog.1 rfl | exact Blk.cells hog.1 rfl | exact Blk.cell hoz.1 rfl | exact Blk.cells hoz.1 rfl | exact Blk.cell hoa.1 rfl | exact Blk.cells hoa.1 rfl | exact Blk.cell hob.1 rfl | exact Blk.cells hob.1 rfl | exact Blk.cell hoc.1 rfl | exact Blk.cells hoc.1 rfl | exact Blk.cell hod.1 rfl | exact Blk.cells hod.1 rfl | assumption | refine all_keep ?_ | refine And.intro ?_ ?_), ?_⟩
  refine Dgq 25 67108863 rfl (by kernel_rfl) rfl rfl (fun _ => (q_neL rfl (show _ = some (Value.string ⟨[].toArray⟩) from rfl))) ?_
  refine Dq 26 134217727 rfl (by kernel_rfl) (fun _ => (q_pick_f rfl rfl)) ?_
  refine Dd (by kernel_rfl) (κ _ _ ?_)
  refine cw_false rfl ?_
  refine cw_skip ?_
  refine hK12 _ _ ?_
  refine cw_seq fun _ hK14 => ?_
  rcases (show z < 1 ∨ ¬ z < 1 ∧ z > 6 by omega) with h1 | ⟨h1, h2⟩
  · skip
    refine cw_rs fun _ κ => ?_
    refine Sm rfl rfl ?_
    refine as_q rfl rfl (q_ltT rfl rfl (by omega)) ?_
    refine Sm rfl rfl ?_
    refine as_gskip rfl rfl rfl rfl rfl ?_
    refine as_gskip rfl rfl rfl rfl rfl ?_
    refine as_q rfl rfl (q_pick_t rfl rfl) ?_
    refine as_nil (κ _ _ ?_)
    refine cw_true rfl ?_
    refine cw_dr (by kernel_rfl) fun _ κ => ?_
    have hs28 := Step.drew hs27.sat
    have hz28 := hs28.size
    replace hb1 := hs28.le _ _ hb1
    replace hh := hh.mono hs28.le
    replace hoh := hoh.then hs28
    replace hg := hg.mono hs28.le
    replace hog := hog.then hs28
    replace hoz := hoz.then hs28
    replace hoa := hoa.then hs28
    replace hob := hob.then hs28
    replace hoc := hoc.then hs28
    replace hod := hod.then hs28
    replace hT := hT.then hs28
    refine Dm 0 1 rfl (by kernel_rfl) rfl ?_
    refine Dq 1 3 rfl (by kernel_rfl) (fun _ => (q_eqT rfl rfl (by omega))) ?_
    refine Dm 2 7 rfl (by kernel_rfl) rfl ?_
    refine Dgq 3 15 rfl (by kernel_rfl) rfl rfl (fun _ => (q_move rfl)) ?_
    refine Dgq 4 31 rfl (by kernel_rfl) rfl rfl (fun _ => (q_eqT rfl rfl (by omega))) ?_
    refine Dq 5 63 rfl (by kernel_rfl) (fun _ => (q_pick_t rfl rfl)) ?_
    refine Dm 6 127 rfl (by kernel_rfl) rfl ?_
    refine at_gq (i := 7) (li := lb 15 255) (cellsAre _ _ 1 _) rfl (by kernel_rfl) rfl rfl rfl rfl (fun _ h => q_loadc (n := 1) (by kernel_rfl) rfl h) (by exact Blk.cells hoh.1 rfl) (by kernel_rfl) ?_
    refine at_gq (i := 9) (li := lb 15 767) (cellsAre _ _ 1 _) rfl (by kernel_rfl) rfl rfl rfl rfl (fun _ h => q_loadc (n := 1) (by kernel_rfl) rfl h) (by exact Blk.cells hog.1 rfl) (by kernel_rfl) ?_
    refine Dgh 8 1023 rfl (by kernel_rfl) rfl rfl rfl (h_call (by kernel_rfl) rfl ?_)
    refine (hp_kind hs28.sat hh).mono ?_
    rintro _ w29 ⟨rfl, hs29⟩
    replace hb1 := hs29.le _ _ hb1
    replace hh := hh.mono hs29.le
    replace hoh := hoh.then hs29
    replace hg := hg.mono hs29.le
    replace hog := hog.then hs29
    replace hoz := hoz.then hs29
    replace hoa := hoa.then hs29
    replace hob := hob.then hs29
    replace hoc := hoc.then hs29
    replace hod := hod.then hs29
    replace hT := hT.then hs29
    have hz29 := hs29.size
    refine ⟨(by repeat' first | exact trivial | exact BlkR.cell (hs29.sat _ _ _ hb1) rfl | exact BlkR.cells (hs29.sat _ _ _ hb1) rfl | exact Blk.cell hoh.1 rfl | exact Blk.cells hoh.1 rfl | exact Blk.cell hog.1 rfl | exact Blk.cells hog.1 rfl | exact Blk.cell hoz.1 rfl | exact Blk.cells hoz.1 rfl | exact Blk.cell hoa.1 rfl | exact Blk.cells hoa.1 rfl | exact Blk.cell hob.1 rfl | exact Blk.cells hob.1 rfl | exact Blk.cell hoc.1 rfl | exact Blk.cells hoc.1 rfl | exact Blk.cell hod.1 rfl | exact Blk.cells hod.1 rfl | assumption | refine all_keep ?_ | refine And.intro ?_ ?_), ?_⟩
    refine Dgh 10 2047 rfl (by kernel_rfl) rfl rfl rfl (h_call (by kernel_rfl) rfl ?_)
    refine (hp_kind hs29.sat hg).mono ?_
    rintro _ w30 ⟨rfl, hs30⟩
    replace hb1 := hs30.le _ _ hb1
    replace hh := hh.mono hs30.le
    replace hoh := hoh.then hs30
    replace hg := hg.mono hs30.le
    replace hog := hog.then hs30
    replace hoz := hoz.then hs30
    replace hoa := hoa.then hs30
    replace hob := hob.then hs30
    replace hoc := hoc.then hs30
    replace hod := hod.then hs30
    replace hT := hT.then hs30
    have hz30 := hs30.size
    refine ⟨(by repeat' first | exact trivial | exact BlkR.cell (hs30.sat _ _ _ hb1) rfl | exact BlkR.cells (hs30.sat _ _ _ hb1) rfl | exact Blk.cell hoh.1 rfl | exact Blk.cells hoh.1 rfl | exact Blk.cell hog.1 rfl | exact Blk.cells hog.1 rfl | exact Blk.cell hoz.1 rfl | exact Blk.cells hoz.1 rfl | exact Blk.cell hoa.1 rfl | exact Blk.cells hoa.1 rfl | exact Blk.cell hob.1 rfl | exact Blk.cells hob.1 rfl | exact Blk.cell hoc.1 rfl | exact Blk.cells hoc.1 rfl | exact Blk.cell hod.1 rfl | exact Blk.cells hod.1 rfl | assumption | refine all_keep ?_ | refine And.intro ?_ ?_), ?_⟩
    refine Dgq 11 4095 rfl (by kernel_rfl) rfl rfl (fun _ => (q_addx rfl rfl (by omega) (by omega))) ?_
    refine Dgq 12 8191 rfl (by kernel_rfl) rfl rfl (fun _ => (q_eqT rfl rfl (by omega))) ?_
    refine Dq 13 16383 rfl (by kernel_rfl) (fun _ => (q_pick_t rfl rfl)) ?_
    refine Da 14 32767 rfl (by kernel_rfl) rfl ?_
    refine Dd (by kernel_rfl) (κ _ _ ?_)
    refine cw_ret ?_
    exact ⟨_, (res_tmp rfl res_nil), rfl, hT.forget⟩
  · skip
    refine cw_rs fun _ κ => ?_
    refine Sm rfl rfl ?_
    refine as_q rfl rfl (q_ltF rfl rfl (by omega)) ?_
    refine Sm rfl rfl ?_
    refine as_gh rfl rfl rfl rfl (h_q rfl (q_move rfl) ?_)
    refine as_gh rfl rfl rfl rfl (h_q rfl (q_gtT rfl rfl (by omega)) ?_)
    refine as_q rfl rfl (q_pick_f rfl rfl) ?_
    refine as_nil (κ _ _ ?_)
    refine cw_true rfl ?_
    refine cw_dr (by kernel_rfl) fun _ κ => ?_
    have hs31 := Step.drew hs27.sat
    have hz31 := hs31.size
    replace hb1 := hs31.le _ _ hb1
    replace hh := hh.mono hs31.le
    replace hoh := hoh.then hs31
    replace hg := hg.mono hs31.le
    replace hog := hog.then hs31
    replace hoz := hoz.then hs31
    replace hoa := hoa.then hs31
    replace hob := hob.then hs31
    replace hoc := hoc.then hs31
    replace hod := hod.then hs31
    replace hT := hT.then hs31
    refine Dm 0 1 rfl (by kernel_rfl) rfl ?_
    refine Dq 1 3 rfl (by kernel_rfl) (fun _ => (q_eqT rfl rfl (by omega))) ?_
    refine Dm 2 7 rfl (by kernel_rfl) rfl ?_
    refine Dgq 3 15 rfl (by kernel_rfl) rfl rfl (fun _ => (q_move rfl)) ?_
    refine Dgq 4 31 rfl (by kernel_rfl) rfl rfl (fun _ => (q_eqT rfl rfl (by omega))) ?_
    refine Dq 5 63 rfl (by kernel_rfl) (fun _ => (q_pick_t rfl rfl)) ?_
    refine Dm 6 127 rfl (by kernel_rfl) rfl ?_
    refine at_gq (i := 7) (li := lb 15 255) (cellsAre _ _ 1 _) rfl (by kernel_rfl) rfl rfl rfl rfl (fun _ h => q_loadc (n := 1) (by kernel_rfl) rfl h) (by exact Blk.cells hoh.1 rfl) (by kernel_rfl) ?_
    refine at_gq (i := 9) (li := lb 15 767) (cellsAre _ _ 1 _) rfl (by kernel_rfl) rfl rfl rfl rfl (fun _ h => q_loadc (n := 1) (by kernel_rfl) rfl h) (by exact Blk.cells hog.1 rfl) (by kernel_rfl) ?_
    refine Dgh 8 1023 rfl (by kernel_rfl) rfl rfl rfl (h_call (by kernel_rfl) rfl ?_)
    refine (hp_kind hs31.sat hh).mono ?_
    rintro _ w32 ⟨rfl, hs32⟩
    replace hb1 := hs32.le _ _ hb1
    replace hoh := hoh.then hs32
    replace hg := hg.mono hs32.le
    replace hog := hog.then hs32
    replace hoz := hoz.then hs32
    replace hoa := hoa.then hs32
    replace hob := hob.then hs32
    replace hoc := hoc.then hs32
    replace hod := hod.then hs32
    replace hT := hT.then hs32
    have hz32 := hs32.size
    refine ⟨(by repeat' first | exact trivial | exact BlkR.cell (hs32.sat _ _ _ hb1) rfl | exact BlkR.cells (hs32.sat _ _ _ hb1) rfl | exact Blk.cell hoh.1 rfl | exact Blk.cells hoh.1 rfl | exact Blk.cell hog.1 rfl | exact Blk.cells hog.1 rfl | exact Blk.cell hoz.1 rfl | exact Blk.cells hoz.1 rfl | exact Blk.cell hoa.1 rfl | exact Blk.cells hoa.1 rfl | exact Blk.cell hob.1 rfl | exact Blk.cells hob.1 rfl | exact Blk.cell hoc.1 rfl | exact Blk.cells hoc.1 rfl | exact Blk.cell hod.1 rfl | exact Blk.cells hod.1 rfl | assumption | refine all_keep ?_ | refine And.intro ?_ ?_), ?_⟩
    refine Dgh 10 2047 rfl (by kernel_rfl) rfl rfl rfl (h_call (by kernel_rfl) rfl ?_)
    refine (hp_kind hs32.sat hg).mono ?_
    rintro _ w33 ⟨rfl, hs33⟩
    replace hb1 := hs33.le _ _ hb1
    replace hoh := hoh.then hs33
    replace hog := hog.then hs33
    replace hoz := hoz.then hs33
    replace hoa := hoa.then hs33
    replace hob := hob.then hs33
    replace hoc := hoc.then hs33
    replace hod := hod.then hs33
    replace hT := hT.then hs33
    have hz33 := hs33.size
    refine ⟨(by repeat' first | exact trivial | exact BlkR.cell (hs33.sat _ _ _ hb1) rfl | exact BlkR.cells (hs33.sat _ _ _ hb1) rfl | exact Blk.cell hoh.1 rfl | exact Blk.cells hoh.1 rfl | exact Blk.cell hog.1 rfl | exact Blk.cells hog.1 rfl | exact Blk.cell hoz.1 rfl | exact Blk.cells hoz.1 rfl | exact Blk.cell hoa.1 rfl | exact Blk.cells hoa.1 rfl | exact Blk.cell hob.1 rfl | exact Blk.cells hob.1 rfl | exact Blk.cell hoc.1 rfl | exact Blk.cells hoc.1 rfl | exact Blk.cell hod.1 rfl | exact Blk.cells hod.1 rfl | assumption | refine all_keep ?_ | refine And.intro ?_ ?_), ?_⟩
    refine Dgq 11 4095 rfl (by kernel_rfl) rfl rfl (fun _ => (q_addx rfl rfl (by omega) (by omega))) ?_
    refine Dgq 12 8191 rfl (by kernel_rfl) rfl rfl (fun _ => (q_eqT rfl rfl (by omega))) ?_
    refine Dq 13 16383 rfl (by kernel_rfl) (fun _ => (q_pick_t rfl rfl)) ?_
    refine Da 14 32767 rfl (by kernel_rfl) rfl ?_
    refine Dd (by kernel_rfl) (κ _ _ ?_)
    refine cw_ret ?_
    exact ⟨_, (res_tmp rfl res_nil), rfl, hT.forget⟩
theorem heapNone_walk {w : World} {M : Mem} {z : Int} {x : El} (hs : Sat M w) : Does Tryz.prog 8 #[.int .i64 z, .agg (elc x).toArray] w (fun v w' => v = .bool true ∧ Step Nope M w M w') := by
  by_cases hz : 1 ≤ z ∧ z ≤ 6
  · exact heapNone_1 hs hz
  · exact heapNone_0 hs hz
end Go.Proofs.YtgcgjpfjjgalmaaGreat
/- Elements, and rows of them, among a law s arguments. -/
namespace Go.Proofs.YtgcgjpfjjgalmaaGreat
open Go Go.Eng Go.ChangeShapes Go.WideShapes Go.RowKit
theorem two_cells {α : Type} : ∀ {cs : List α}, cs.length = 2 → ∃ a b, cs = [a, b]
  | [a, b], _ => ⟨a, b, rfl⟩
/-- Numbers of the kind. -/
def ElOk (e : El) : Prop := (-9223372036854775808 ≤ e.1 ∧ e.1 ≤ 9223372036854775807) ∧ (-9223372036854775808 ≤ e.2 ∧ e.2 ≤ 9223372036854775807)
section
variable {H : Type} {enc : TypeId × Value → H} {W : World} {spare : Nat → Bool} {held : Bool} {v : Value} {x : DataW H × List MemPlace} {fuel : Nat} {d : DataW H} {p : List MemPlace}
theorem read_el {cs : List Value} (h : DataW.trod enc Tryz.prog W 0 spare held fuel 24 cs = some x) : ∃ e : El, cs = elc e ∧ ElOk e := by
  obtain ⟨xs, n, _, _, hl, hx, hf⟩ := DataW.trod_struct Tryz.underlying24 h
  rw [show Tryz.prog.cellsOf 24 = 2 by kernel_rfl] at hl
  obtain ⟨a, b, rfl⟩ := two_cells hl
  have h0 := hf 0 _ rfl
  have h1 := hf 1 _ rfl
  rw [show Tryz.prog.cellsOf _ = 1 by kernel_rfl] at h0 h1
  rw [List.getElem?_eq_getElem (by rw [hx]; decide)] at h0 h1
  obtain ⟨m, hm, wm⟩ := DataW.trod_int Tryz.underlying2 h0
  obtain ⟨k, hk, wk⟩ := DataW.trod_int Tryz.underlying2 h1
  cases hm
  cases hk
  exact ⟨(m, k), rfl, by simpa [Lit.wf, IntKind.min, IntKind.max, IntKind.signed, IntKind.bits] using wm.2, by simpa [Lit.wf, IntKind.min, IntKind.max, IntKind.signed, IntKind.bits] using wk.2⟩
theorem read_el1 (hv : ∃ cs, v = .agg cs ∧ cs.size = Tryz.prog.cellsOf 24) (h : DataW.Trod enc Tryz.prog W 0 spare held 24 v d p) : ∃ e : El, v = .agg (elc e).toArray ∧ ElOk e := by
  obtain ⟨cs, rfl, _⟩ := hv
  obtain ⟨fuel, h⟩ := h
  obtain ⟨e, h1, h2⟩ := read_el h
  have : cs.toList = elc e := h1
  exact ⟨e, by rw [← Array.toArray_toList (xs := cs), this], h2⟩
end
end Go.Proofs.YtgcgjpfjjgalmaaGreat
