/- The law that holds the table against the document's. -/
import Derived.Test.YtcnocefclcoiiaaL19
namespace Go.Proofs.Ytcnocefclcoiiaa
open Go Go.Eng

theorem refNew {w : World} {M : Mem} {room rm : Int} (hs : Sat M w) (hroom : (if 0 > room then 0 else room) = rm) :
    Does Try.prog 19 #[.int .i64 room] w (fun v w' => v = .agg #[.slice none 0 0, .int .i64 rm] ∧ Step Nope M w M w') := by
  have hT := Step.refl Nope hs
  refine fn_enter Try.func19 rfl (rs := [.cell 2 38]) rfl rfl rfl rfl ?_
  refine cw_rs fun K1 hK1 => ?_
  -- region 0
  refine as_h rfl (h_allocO (z := (.agg #[(.slice none 0 0), (.int .i64 0)])) hs (by kernel_rfl) rfl fun b1 w1 hs1 ho1 e1 => ?_)
  replace hT := hT.then hs1
  refine as_nil (hK1 _ _ ?_)
  clear hK1 K1
  refine cw_rs fun K2 hK2 => ?_
  -- region 1
  refine as_q rfl rfl (q_move rfl) ?_
  refine as_q rfl rfl (q_max2 rfl rfl) ?_
  refine as_q rfl rfl (q_build (zs := [(.slice none 0 0), (.int .i64 0)]) (places := [(0, 1), (1, 1)]) (cs := [_, _]) (by kernel_rfl) (by kernel_rfl) rfl rfl) ?_
  refine as_h0 (h_store hs1.sat ho1 rfl rfl rfl (by kernel_rfl) rfl rfl rfl fun w2 hs2 hn2 => ?_)
  clear ho1; have ho1 := hn2; clear hn2
  replace hT := hT.own hs2 (by omega)
  refine as_nil (hK2 _ _ ?_)
  clear hK2 K2
  refine cw_ret ?_
  exact ⟨_, (res_cell rfl (loadVar_n (n := 2) (by kernel_rfl) (by first | exact Blk.cells ho1.1 rfl | assumption)) res_nil), by rw [hroom]; rfl, hT⟩

theorem refAdd_full {w : World} {M : Mem} {n c : Nat} {a : Option Addr} {rm q : Int} (hs : Sat M w) (h : rm ≤ n) :
    Does Try.prog 21 #[.agg #[.slice a n c, .int .i64 rm], .int .i64 q] w (fun v w' => v = .tuple #[.agg #[.slice a n c, .int .i64 rm], .bool false] ∧ Step Nope M w M w') := by
  have hT := Step.refl Nope hs
  refine fn_enter Try.func21 rfl (rs := [.cell 4 38, .tmp 5]) rfl rfl rfl rfl ?_
  refine cw_rs fun K1 hK1 => ?_
  -- region 0
  refine as_h rfl (h_boxO hs rfl rfl fun b1 w1 hs1 ho1 e1 => ?_)
  replace hT := hT.then hs1
  have hz1 := hs1.size
  have hl1 := ho1.1.lt
  refine as_h rfl (h_allocO (z := (.agg #[(.slice none 0 0), (.int .i64 0)])) hs1.sat (by kernel_rfl) rfl fun b2 w2 hs2 ho2 e2 => ?_)
  replace ho1 := ho1.then hs2
  replace hT := hT.then hs2
  have hz2 := hs2.size
  have hl2 := ho2.1.lt
  refine as_q rfl rfl (q_assign rfl) ?_
  refine as_nil (hK1 _ _ ?_)
  clear hK1 K1
  refine cw_seq fun K2 hK2 => ?_
  refine cw_rs fun K3 hK3 => ?_
  -- region 1
  refine as_q rfl rfl (q_fieldAddr (off := 0) (by kernel_rfl) rfl) ?_
  refine as_q rfl rfl (q_load1 (by kernel_rfl) rfl (by first | exact Blk.cell ho1.1 rfl | exact Blk.cell ho2.1 rfl | assumption)) ?_
  refine as_q rfl rfl (q_len (by kernel_rfl) rfl _) ?_
  refine as_q rfl rfl (q_fieldAddr (off := 1) (by kernel_rfl) rfl) ?_
  refine as_q rfl rfl (q_load1 (by kernel_rfl) rfl (by first | exact Blk.cell ho1.1 rfl | exact Blk.cell ho2.1 rfl | assumption)) ?_
  first | refine as_q rfl rfl (q_geT rfl rfl (by omega)) ?_ | refine as_q rfl rfl (q_geF rfl rfl (by omega)) ?_ | refine as_q rfl rfl (q_ge rfl rfl) ?_
  refine as_nil (hK3 _ _ ?_)
  clear hK3 K3
  refine cw_true rfl ?_
  refine cw_rs fun K4 hK4 => ?_
  -- region 2
  refine as_q rfl rfl (q_loadc (n := 2) (by kernel_rfl) rfl (by first | exact Blk.cells ho1.1 rfl | exact Blk.cells ho2.1 rfl | assumption)) ?_
  refine as_h0 (h_store hs2.sat ho2 rfl rfl rfl (by kernel_rfl) rfl rfl rfl fun w3 hs3 hn3 => ?_)
  replace ho1 := ho1.step hs3 (fun h => by have h : _ = _ := h; omega)
  clear ho2; have ho2 := hn3; clear hn3
  replace hT := hT.own hs3 (by omega)
  have hz3 := hs3.size
  refine as_q rfl rfl (q_assign rfl) ?_
  refine as_nil (hK4 _ _ ?_)
  clear hK4 K4
  refine cw_ret ?_
  exact ⟨_, (res_cell rfl (loadVar_n (n := 2) (by kernel_rfl) (by first | exact Blk.cells ho1.1 rfl | exact Blk.cells ho2.1 rfl | assumption)) (res_tmp rfl res_nil)), rfl, hT⟩

theorem refAdd_room {w : World} {M : Mem} {n : Nat} {lv : Value} {cs : List Value} {rm q : Int}  (hs : Sat M w) (hr : ∀ w', Step Nope M w M w' → Rd w' 1 lv n cs) (h1 : ∀ x ∈ cs, x.oneCell' = true) (h : n < rm) (hn : n ≤ 1000) :
    Does Try.prog 21 #[.agg #[lv, .int .i64 rm], .int .i64 q] w (fun v w' => ∃ l2, v = .tuple #[.agg #[l2, .int .i64 rm], .bool true] ∧ Step Nope M w M w' ∧ Buf w' M 3 1 l2 (n + 1) (cs ++ [.int .i64 q]) ∧ ∀ g, l2.ownBlock = some g → w.heap.size ≤ g) := by
  have hT := Step.refl Nope hs
  obtain ⟨a, c, rfl⟩ : ∃ a c, lv = .slice a n c := by
    rcases (hr w hT).2 with ⟨rfl, a, c, rfl, _⟩ | ⟨b, o, c, rfl, _⟩ <;> exact ⟨_, _, rfl⟩
  refine fn_enter Try.func21 rfl (rs := [.cell 4 38, .tmp 5]) rfl rfl rfl rfl ?_
  refine cw_rs fun K1 hK1 => ?_
  -- region 0
  refine as_h rfl (h_boxO hs rfl rfl fun b1 w1 hs1 ho1 e1 => ?_)
  replace hT := hT.then hs1
  have hz1 := hs1.size
  have hl1 := ho1.1.lt
  refine as_h rfl (h_allocO (z := (.agg #[(.slice none 0 0), (.int .i64 0)])) hs1.sat (by kernel_rfl) rfl fun b2 w2 hs2 ho2 e2 => ?_)
  replace ho1 := ho1.then hs2
  replace hT := hT.then hs2
  have hz2 := hs2.size
  have hl2 := ho2.1.lt
  refine as_q rfl rfl (q_assign rfl) ?_
  refine as_nil (hK1 _ _ ?_)
  clear hK1 K1
  refine cw_seq fun K2 hK2 => ?_
  refine cw_rs fun K3 hK3 => ?_
  -- region 1
  refine as_q rfl rfl (q_fieldAddr (off := 0) (by kernel_rfl) rfl) ?_
  refine as_q rfl rfl (q_load1 (by kernel_rfl) rfl (by first | exact Blk.cell ho1.1 rfl | exact Blk.cell ho2.1 rfl | assumption)) ?_
  refine as_q rfl rfl (q_len (by kernel_rfl) rfl _) ?_
  refine as_q rfl rfl (q_fieldAddr (off := 1) (by kernel_rfl) rfl) ?_
  refine as_q rfl rfl (q_load1 (by kernel_rfl) rfl (by first | exact Blk.cell ho1.1 rfl | exact Blk.cell ho2.1 rfl | assumption)) ?_
  first | refine as_q rfl rfl (q_geT rfl rfl (by omega)) ?_ | refine as_q rfl rfl (q_geF rfl rfl (by omega)) ?_ | refine as_q rfl rfl (q_ge rfl rfl) ?_
  refine as_nil (hK3 _ _ ?_)
  clear hK3 K3
  refine cw_false rfl ?_
  refine cw_skip ?_
  refine hK2 _ _ ?_
  clear hK2 K2
  refine cw_rs fun K4 hK4 => ?_
  -- region 3
  refine as_q rfl rfl (q_assign rfl) ?_
  refine as_nil (hK4 _ _ ?_)
  clear hK4 K4
  refine cw_rs fun K5 hK5 => ?_
  -- region 4
  refine as_q rfl rfl (q_move rfl) ?_
  refine as_q rfl rfl (q_fieldAddr (off := 0) (by kernel_rfl) rfl) ?_
  refine as_q rfl rfl (q_load1 (by kernel_rfl) rfl (by first | exact Blk.cell ho1.1 rfl | exact Blk.cell ho2.1 rfl | assumption)) ?_
  refine as_h rfl (h_append (e := 3) (size := 1) (bytes := 8) (by kernel_rfl) hs2.sat (Buf.nil _ _ 3 1) (hr _ hT) rfl rfl h1 (by omega) rfl fun hbv w3 hs3 hb hbo => ?_)
  replace ho1 := ho1.step hs3 (by intro h; cases h)
  replace ho2 := ho2.step hs3 (by intro h; cases h)
  replace hT := hT.trans hs3 (fun k hk h => by cases h)
  have hz3 := hs3.size
  rw [Nat.zero_add, List.nil_append] at hb
  refine as_q rfl rfl (q_assign rfl) ?_
  refine as_nil (hK5 _ _ ?_)
  clear hK5 K5
  refine cw_rs fun K6 hK6 => ?_
  have hbo2 : ∀ k, k < w2.heap.size → hbv.ownBlock ≠ some k := by
    intro k hk h
    rcases hbo with h2 | h2
    · rw [h2] at h; cases h
    · rw [h2] at h; have := Option.some.inj h; omega
  -- region 5
  refine as_q rfl rfl (q_move rfl) ?_
  refine as_q rfl rfl (q_move rfl) ?_
  refine as_h rfl (h_buildO (e := 3) (size := 1) (zs := [(.int .i64 0)]) (cs := [_]) (by kernel_rfl) (by kernel_rfl) (by kernel_rfl) rfl hs3.sat rfl rfl fun b4 w4 hs4 ho4 e4 => ?_)
  replace ho1 := ho1.then hs4
  replace ho2 := ho2.then hs4
  replace hb := hb.then hs4
  replace hT := hT.then hs4
  have hz4 := hs4.size
  have hl4 := ho4.1.lt
  refine as_h rfl (h_append (e := 3) (size := 1) (bytes := 8) (by kernel_rfl) hs4.sat hb ((Own.buf ho4 (n := 1) (size := 1) rfl (by decide)).rd) rfl rfl (by simp [Value.oneCell']) (by omega) rfl fun hcv w5 hs5 hc hco => ?_)
  replace ho1 := ho1.step hs5 (hbo2 _ (by omega))
  replace ho2 := ho2.step hs5 (hbo2 _ (by omega))
  clear ho4
  replace hT := hT.trans hs5 (fun k hk h => absurd h (hbo2 _ (by have := hs1.size; have := hs2.size; omega)))
  have hz5 := hs5.size
  have hcf : ∀ g, hcv.ownBlock = some g → w2.heap.size ≤ g := by
    intro g hg
    rcases hco with h | h
    · rw [h] at hg
      rcases Nat.lt_or_ge g w2.heap.size with h2 | h2
      · exact absurd hg (hbo2 g h2)
      · exact h2
    · rw [h] at hg; have := Option.some.inj hg; omega
  obtain ⟨ca, cc, rfl, hcc, _⟩ := hc.slice
  refine as_q rfl rfl (q_assign rfl) ?_
  refine as_nil (hK6 _ _ ?_)
  clear hK6 K6
  refine cw_rs fun K7 hK7 => ?_
  -- region 6
  refine as_q rfl rfl (q_move rfl) ?_
  refine as_q rfl rfl (q_fieldAddr (off := 1) (by kernel_rfl) rfl) ?_
  refine as_q rfl rfl (q_load1 (by kernel_rfl) rfl (by first | exact Blk.cell ho1.1 rfl | exact Blk.cell ho2.1 rfl | assumption)) ?_
  refine as_q rfl rfl (q_build (zs := [(.slice none 0 0), (.int .i64 0)]) (places := [(0, 1), (1, 1)]) (cs := [_, _]) (by kernel_rfl) (by kernel_rfl) rfl rfl) ?_
  refine as_h0 (h_store hs5.sat ho2 rfl rfl rfl (by kernel_rfl) rfl rfl rfl fun w6 hs6 hn6 => ?_)
  replace ho1 := ho1.step hs6 (fun h => by have h : _ = _ := h; omega)
  replace hc := hc.step hs6 (fun g hg h => by
        have h : g = b2 := h
        have := hcf g hg
        omega)
  clear ho2; have ho2 := hn6; clear hn6
  replace hT := hT.own hs6 (by omega)
  have hz6 := hs6.size
  refine as_q rfl rfl (q_assign rfl) ?_
  refine as_nil (hK7 _ _ ?_)
  clear hK7 K7
  refine cw_ret ?_
  exact ⟨_, (res_cell rfl (loadVar_n (n := 2) (by kernel_rfl) (by first | exact Blk.cells ho1.1 rfl | exact Blk.cells ho2.1 rfl | assumption)) (res_tmp rfl res_nil)), _, rfl, hT, hc, fun g hg => Nat.le_trans (by have := hs1.size; have := hs2.size; omega) (hcf g hg)⟩

theorem new_int2 {w : World} {M : Mem} {B : Nat} {room rm : Int} (hs : Sat M w) (hB : B ≤ w.heap.size) (hroom : (if 0 > room then 0 else room) = rm) :
    Does Try.prog 18 #[.int .i64 room] w (fun v w' => ∃ b, v = .pointer (some ⟨b, 0, none⟩) ∧ Step Nope M w M w' ∧ Tbl 88 3 1 B w' M b (.slice none 0 0) 0 [] rm) := by
  have hT := Step.refl Nope hs
  refine fn_enter Try.func18 rfl (rs := [.tmp 2]) rfl rfl rfl rfl ?_
  refine cw_rs fun K1 hK1 => ?_
  -- region 0
  refine as_q rfl rfl (q_assign rfl) ?_
  refine as_nil (hK1 _ _ ?_)
  clear hK1 K1
  refine cw_rs fun K2 hK2 => ?_
  -- region 1
  refine as_q rfl rfl (q_move rfl) ?_
  refine as_q rfl rfl (q_max2 rfl rfl) ?_
  refine as_q rfl rfl (q_build (zs := [(.slice none 0 0), (.int .i64 0)]) (places := [(0, 1), (1, 1)]) (cs := [_, _]) (by kernel_rfl) (by kernel_rfl) rfl rfl) ?_
  refine as_h rfl (h_boxO hs rfl rfl fun b1 w1 hs1 ho1 e1 => ?_)
  replace hT := hT.then hs1
  refine as_q rfl rfl (q_assign rfl) ?_
  refine as_nil (hK2 _ _ ?_)
  clear hK2 K2
  refine cw_ret ?_
  rw [hroom] at ho1
  exact ⟨_, (res_tmp rfl res_nil), _, rfl, hT, ⟨ho1, Buf.nil _ _ _ _, by simp [Value.ownBlock], by omega, by intro g hg; cases hg⟩⟩

end Go.Proofs.Ytcnocefclcoiiaa
