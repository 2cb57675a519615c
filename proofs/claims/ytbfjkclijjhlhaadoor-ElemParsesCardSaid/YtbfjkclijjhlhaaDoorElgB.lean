/- Rows of elements: copies, rows in order, the rows of the document, part 2. -/
import Derived.Test.YtbfjkclijjhlhaaDoorElgA
namespace Go.Proofs.YtbfjkclijjhlhaaDoor
open Go Go.Eng
theorem ref_less {w : World} {M : Mem} {a b : El} (hs : Sat M w) :
    Does Tryd.prog 15 #[.agg (elc a).toArray, .agg (elc b).toArray] w (fun v w' => v = .bool (ltE a b) ∧ Step Nope M w M w') := by
  have hT := Step.refl Nope hs
  refine fn_enter Tryd.func15 rfl (rs := [.tmp 4]) rfl rfl rfl rfl ?_
  refine cw_rs fun K1 hK1 => ?_
  -- region 0
  have hqa1 := hT.size
  refine as_h rfl (h_boxO hs rfl rfl fun b1 w1 hs1 ho1 e1 => ?_)
  replace hT := hT.then hs1
  have hz1 := hs1.size
  have hl1 := ho1.1.lt
  have hqa2 := hT.size
  refine as_h rfl (h_boxO hs1.sat rfl rfl fun b2 w2 hs2 ho2 e2 => ?_)
  replace ho1 := ho1.then hs2
  replace hT := hT.then hs2
  have hz2 := hs2.size
  have hl2 := ho2.1.lt
  refine as_q rfl rfl (q_assign rfl) ?_
  refine as_nil (hK1 _ _ ?_)
  clear hK1 K1
  have hc3 : a.1 < b.1 ∨ (¬ a.1 < b.1 ∧ a.1 = b.1 ∧ a.2 < b.2) ∨ (¬ a.1 < b.1 ∧ a.1 = b.1 ∧ ¬ a.2 < b.2) ∨ (¬ a.1 < b.1 ∧ a.1 ≠ b.1) := by omega
  rcases hc3 with h1 | ⟨h1, h2, h3⟩ | ⟨h1, h2, h3⟩ | ⟨h1, h2⟩
  · skip
    refine cw_rs fun K2 hK2 => ?_
    -- region 1
    refine as_q rfl rfl (q_fieldAddr (off := 0) (by kernel_rfl) rfl) ?_
    refine as_q rfl rfl (q_load1 (by kernel_rfl) rfl (by first | exact Blk.cell ho1.1 rfl | exact Blk.cell ho2.1 rfl | assumption)) ?_
    refine as_q rfl rfl (q_fieldAddr (off := 0) (by kernel_rfl) rfl) ?_
    refine as_q rfl rfl (q_load1 (by kernel_rfl) rfl (by first | exact Blk.cell ho1.1 rfl | exact Blk.cell ho2.1 rfl | assumption)) ?_
    first | refine as_q rfl rfl (q_ltT rfl rfl (by omega)) ?_ | refine as_q rfl rfl (q_ltF rfl rfl (by omega)) ?_ | refine as_q rfl rfl (q_lt rfl rfl) ?_
    refine as_q rfl rfl (q_move rfl) ?_
    first | refine as_gskip rfl rfl rfl rfl rfl ?_ | refine as_gskipU rfl rfl rfl rfl ?_ | refine as_gh rfl rfl rfl rfl (h_q rfl (q_fieldAddr (off := 0) (by kernel_rfl) rfl) ?_)
    first | refine as_gskip rfl rfl rfl rfl rfl ?_ | refine as_gskipU rfl rfl rfl rfl ?_ | refine as_gh rfl rfl rfl rfl (h_q rfl (q_load1 (by kernel_rfl) rfl (by first | exact Blk.cell ho1.1 rfl | exact Blk.cell ho2.1 rfl | assumption)) ?_)
    first | refine as_gskip rfl rfl rfl rfl rfl ?_ | refine as_gskipU rfl rfl rfl rfl ?_ | refine as_gh rfl rfl rfl rfl (h_q rfl (q_fieldAddr (off := 0) (by kernel_rfl) rfl) ?_)
    first | refine as_gskip rfl rfl rfl rfl rfl ?_ | refine as_gskipU rfl rfl rfl rfl ?_ | refine as_gh rfl rfl rfl rfl (h_q rfl (q_load1 (by kernel_rfl) rfl (by first | exact Blk.cell ho1.1 rfl | exact Blk.cell ho2.1 rfl | assumption)) ?_)
    first | refine as_gskip rfl rfl rfl rfl rfl ?_ | refine as_gskipU rfl rfl rfl rfl ?_ | refine as_gh rfl rfl rfl rfl (h_q rfl (q_eqT rfl rfl (by omega)) ?_) | refine as_gh rfl rfl rfl rfl (h_q rfl (q_eqF rfl rfl (by omega)) ?_) | refine as_gh rfl rfl rfl rfl (h_q rfl (q_eq rfl rfl) ?_)
    first | refine as_gskip rfl rfl rfl rfl rfl ?_ | refine as_gskipU rfl rfl rfl rfl ?_ | refine as_gh rfl rfl rfl rfl (h_q rfl (q_move rfl) ?_)
    first | refine as_gskip rfl rfl rfl rfl rfl ?_ | refine as_gskipU rfl rfl rfl rfl ?_ | refine as_gh rfl rfl rfl rfl (h_q rfl (q_fieldAddr (off := 1) (by kernel_rfl) rfl) ?_)
    first | refine as_gskip rfl rfl rfl rfl rfl ?_ | refine as_gskipU rfl rfl rfl rfl ?_ | refine as_gh rfl rfl rfl rfl (h_q rfl (q_load1 (by kernel_rfl) rfl (by first | exact Blk.cell ho1.1 rfl | exact Blk.cell ho2.1 rfl | assumption)) ?_)
    first | refine as_gskip rfl rfl rfl rfl rfl ?_ | refine as_gskipU rfl rfl rfl rfl ?_ | refine as_gh rfl rfl rfl rfl (h_q rfl (q_fieldAddr (off := 1) (by kernel_rfl) rfl) ?_)
    first | refine as_gskip rfl rfl rfl rfl rfl ?_ | refine as_gskipU rfl rfl rfl rfl ?_ | refine as_gh rfl rfl rfl rfl (h_q rfl (q_load1 (by kernel_rfl) rfl (by first | exact Blk.cell ho1.1 rfl | exact Blk.cell ho2.1 rfl | assumption)) ?_)
    first | refine as_gskip rfl rfl rfl rfl rfl ?_ | refine as_gskipU rfl rfl rfl rfl ?_ | refine as_gh rfl rfl rfl rfl (h_q rfl (q_ltT rfl rfl (by omega)) ?_) | refine as_gh rfl rfl rfl rfl (h_q rfl (q_ltF rfl rfl (by omega)) ?_) | refine as_gh rfl rfl rfl rfl (h_q rfl (q_lt rfl rfl) ?_)
    first | refine as_gskip rfl rfl rfl rfl rfl ?_ | refine as_gskipU rfl rfl rfl rfl ?_ | refine as_gh rfl rfl rfl rfl (h_q rfl (q_pick_t rfl rfl) ?_) | refine as_gh rfl rfl rfl rfl (h_q rfl (q_pick_f rfl rfl) ?_) | refine as_gh rfl rfl rfl rfl (h_q rfl (q_pick rfl rfl rfl) ?_)
    first | refine as_q rfl rfl (q_pick_t rfl rfl) ?_ | refine as_q rfl rfl (q_pick_f rfl rfl) ?_ | refine as_q rfl rfl (q_pick rfl rfl rfl) ?_
    refine as_q rfl rfl (q_assign rfl) ?_
    refine as_nil (hK2 _ _ ?_)
    clear hK2 K2
    refine cw_ret ?_
    exact ⟨_, (res_tmp rfl res_nil), by rw [ltE_iff.2 (by omega)]; rfl, hT.forget⟩
  · skip
    refine cw_rs fun K3 hK3 => ?_
    -- region 1
    refine as_q rfl rfl (q_fieldAddr (off := 0) (by kernel_rfl) rfl) ?_
    refine as_q rfl rfl (q_load1 (by kernel_rfl) rfl (by first | exact Blk.cell ho1.1 rfl | exact Blk.cell ho2.1 rfl | assumption)) ?_
    refine as_q rfl rfl (q_fieldAddr (off := 0) (by kernel_rfl) rfl) ?_
    refine as_q rfl rfl (q_load1 (by kernel_rfl) rfl (by first | exact Blk.cell ho1.1 rfl | exact Blk.cell ho2.1 rfl | assumption)) ?_
    first | refine as_q rfl rfl (q_ltT rfl rfl (by omega)) ?_ | refine as_q rfl rfl (q_ltF rfl rfl (by omega)) ?_ | refine as_q rfl rfl (q_lt rfl rfl) ?_
    refine as_q rfl rfl (q_move rfl) ?_
    first | refine as_gskip rfl rfl rfl rfl rfl ?_ | refine as_gskipU rfl rfl rfl rfl ?_ | refine as_gh rfl rfl rfl rfl (h_q rfl (q_fieldAddr (off := 0) (by kernel_rfl) rfl) ?_)
    first | refine as_gskip rfl rfl rfl rfl rfl ?_ | refine as_gskipU rfl rfl rfl rfl ?_ | refine as_gh rfl rfl rfl rfl (h_q rfl (q_load1 (by kernel_rfl) rfl (by first | exact Blk.cell ho1.1 rfl | exact Blk.cell ho2.1 rfl | assumption)) ?_)
    first | refine as_gskip rfl rfl rfl rfl rfl ?_ | refine as_gskipU rfl rfl rfl rfl ?_ | refine as_gh rfl rfl rfl rfl (h_q rfl (q_fieldAddr (off := 0) (by kernel_rfl) rfl) ?_)
    first | refine as_gskip rfl rfl rfl rfl rfl ?_ | refine as_gskipU rfl rfl rfl rfl ?_ | refine as_gh rfl rfl rfl rfl (h_q rfl (q_load1 (by kernel_rfl) rfl (by first | exact Blk.cell ho1.1 rfl | exact Blk.cell ho2.1 rfl | assumption)) ?_)
    first | refine as_gskip rfl rfl rfl rfl rfl ?_ | refine as_gskipU rfl rfl rfl rfl ?_ | refine as_gh rfl rfl rfl rfl (h_q rfl (q_eqT rfl rfl (by omega)) ?_) | refine as_gh rfl rfl rfl rfl (h_q rfl (q_eqF rfl rfl (by omega)) ?_) | refine as_gh rfl rfl rfl rfl (h_q rfl (q_eq rfl rfl) ?_)
    first | refine as_gskip rfl rfl rfl rfl rfl ?_ | refine as_gskipU rfl rfl rfl rfl ?_ | refine as_gh rfl rfl rfl rfl (h_q rfl (q_move rfl) ?_)
    first | refine as_gskip rfl rfl rfl rfl rfl ?_ | refine as_gskipU rfl rfl rfl rfl ?_ | refine as_gh rfl rfl rfl rfl (h_q rfl (q_fieldAddr (off := 1) (by kernel_rfl) rfl) ?_)
    first | refine as_gskip rfl rfl rfl rfl rfl ?_ | refine as_gskipU rfl rfl rfl rfl ?_ | refine as_gh rfl rfl rfl rfl (h_q rfl (q_load1 (by kernel_rfl) rfl (by first | exact Blk.cell ho1.1 rfl | exact Blk.cell ho2.1 rfl | assumption)) ?_)
    first | refine as_gskip rfl rfl rfl rfl rfl ?_ | refine as_gskipU rfl rfl rfl rfl ?_ | refine as_gh rfl rfl rfl rfl (h_q rfl (q_fieldAddr (off := 1) (by kernel_rfl) rfl) ?_)
    first | refine as_gskip rfl rfl rfl rfl rfl ?_ | refine as_gskipU rfl rfl rfl rfl ?_ | refine as_gh rfl rfl rfl rfl (h_q rfl (q_load1 (by kernel_rfl) rfl (by first | exact Blk.cell ho1.1 rfl | exact Blk.cell ho2.1 rfl | assumption)) ?_)
    first | refine as_gskip rfl rfl rfl rfl rfl ?_ | refine as_gskipU rfl rfl rfl rfl ?_ | refine as_gh rfl rfl rfl rfl (h_q rfl (q_ltT rfl rfl (by omega)) ?_) | refine as_gh rfl rfl rfl rfl (h_q rfl (q_ltF rfl rfl (by omega)) ?_) | refine as_gh rfl rfl rfl rfl (h_q rfl (q_lt rfl rfl) ?_)
    first | refine as_gskip rfl rfl rfl rfl rfl ?_ | refine as_gskipU rfl rfl rfl rfl ?_ | refine as_gh rfl rfl rfl rfl (h_q rfl (q_pick_t rfl rfl) ?_) | refine as_gh rfl rfl rfl rfl (h_q rfl (q_pick_f rfl rfl) ?_) | refine as_gh rfl rfl rfl rfl (h_q rfl (q_pick rfl rfl rfl) ?_)
    first | refine as_q rfl rfl (q_pick_t rfl rfl) ?_ | refine as_q rfl rfl (q_pick_f rfl rfl) ?_ | refine as_q rfl rfl (q_pick rfl rfl rfl) ?_
    refine as_q rfl rfl (q_assign rfl) ?_
    refine as_nil (hK3 _ _ ?_)
    clear hK3 K3
    refine cw_ret ?_
    exact ⟨_, (res_tmp rfl res_nil), by rw [ltE_iff.2 (by omega)]; rfl, hT.forget⟩
  · skip
    refine cw_rs fun K4 hK4 => ?_
    -- region 1
    refine as_q rfl rfl (q_fieldAddr (off := 0) (by kernel_rfl) rfl) ?_
    refine as_q rfl rfl (q_load1 (by kernel_rfl) rfl (by first | exact Blk.cell ho1.1 rfl | exact Blk.cell ho2.1 rfl | assumption)) ?_
    refine as_q rfl rfl (q_fieldAddr (off := 0) (by kernel_rfl) rfl) ?_
    refine as_q rfl rfl (q_load1 (by kernel_rfl) rfl (by first | exact Blk.cell ho1.1 rfl | exact Blk.cell ho2.1 rfl | assumption)) ?_
    first | refine as_q rfl rfl (q_ltT rfl rfl (by omega)) ?_ | refine as_q rfl rfl (q_ltF rfl rfl (by omega)) ?_ | refine as_q rfl rfl (q_lt rfl rfl) ?_
    refine as_q rfl rfl (q_move rfl) ?_
    first | refine as_gskip rfl rfl rfl rfl rfl ?_ | refine as_gskipU rfl rfl rfl rfl ?_ | refine as_gh rfl rfl rfl rfl (h_q rfl (q_fieldAddr (off := 0) (by kernel_rfl) rfl) ?_)
    first | refine as_gskip rfl rfl rfl rfl rfl ?_ | refine as_gskipU rfl rfl rfl rfl ?_ | refine as_gh rfl rfl rfl rfl (h_q rfl (q_load1 (by kernel_rfl) rfl (by first | exact Blk.cell ho1.1 rfl | exact Blk.cell ho2.1 rfl | assumption)) ?_)
    first | refine as_gskip rfl rfl rfl rfl rfl ?_ | refine as_gskipU rfl rfl rfl rfl ?_ | refine as_gh rfl rfl rfl rfl (h_q rfl (q_fieldAddr (off := 0) (by kernel_rfl) rfl) ?_)
    first | refine as_gskip rfl rfl rfl rfl rfl ?_ | refine as_gskipU rfl rfl rfl rfl ?_ | refine as_gh rfl rfl rfl rfl (h_q rfl (q_load1 (by kernel_rfl) rfl (by first | exact Blk.cell ho1.1 rfl | exact Blk.cell ho2.1 rfl | assumption)) ?_)
    first | refine as_gskip rfl rfl rfl rfl rfl ?_ | refine as_gskipU rfl rfl rfl rfl ?_ | refine as_gh rfl rfl rfl rfl (h_q rfl (q_eqT rfl rfl (by omega)) ?_) | refine as_gh rfl rfl rfl rfl (h_q rfl (q_eqF rfl rfl (by omega)) ?_) | refine as_gh rfl rfl rfl rfl (h_q rfl (q_eq rfl rfl) ?_)
    first | refine as_gskip rfl rfl rfl rfl rfl ?_ | refine as_gskipU rfl rfl rfl rfl ?_ | refine as_gh rfl rfl rfl rfl (h_q rfl (q_move rfl) ?_)
    first | refine as_gskip rfl rfl rfl rfl rfl ?_ | refine as_gskipU rfl rfl rfl rfl ?_ | refine as_gh rfl rfl rfl rfl (h_q rfl (q_fieldAddr (off := 1) (by kernel_rfl) rfl) ?_)
    first | refine as_gskip rfl rfl rfl rfl rfl ?_ | refine as_gskipU rfl rfl rfl rfl ?_ | refine as_gh rfl rfl rfl rfl (h_q rfl (q_load1 (by kernel_rfl) rfl (by first | exact Blk.cell ho1.1 rfl | exact Blk.cell ho2.1 rfl | assumption)) ?_)
    first | refine as_gskip rfl rfl rfl rfl rfl ?_ | refine as_gskipU rfl rfl rfl rfl ?_ | refine as_gh rfl rfl rfl rfl (h_q rfl (q_fieldAddr (off := 1) (by kernel_rfl) rfl) ?_)
    first | refine as_gskip rfl rfl rfl rfl rfl ?_ | refine as_gskipU rfl rfl rfl rfl ?_ | refine as_gh rfl rfl rfl rfl (h_q rfl (q_load1 (by kernel_rfl) rfl (by first | exact Blk.cell ho1.1 rfl | exact Blk.cell ho2.1 rfl | assumption)) ?_)
    first | refine as_gskip rfl rfl rfl rfl rfl ?_ | refine as_gskipU rfl rfl rfl rfl ?_ | refine as_gh rfl rfl rfl rfl (h_q rfl (q_ltT rfl rfl (by omega)) ?_) | refine as_gh rfl rfl rfl rfl (h_q rfl (q_ltF rfl rfl (by omega)) ?_) | refine as_gh rfl rfl rfl rfl (h_q rfl (q_lt rfl rfl) ?_)
    first | refine as_gskip rfl rfl rfl rfl rfl ?_ | refine as_gskipU rfl rfl rfl rfl ?_ | refine as_gh rfl rfl rfl rfl (h_q rfl (q_pick_t rfl rfl) ?_) | refine as_gh rfl rfl rfl rfl (h_q rfl (q_pick_f rfl rfl) ?_) | refine as_gh rfl rfl rfl rfl (h_q rfl (q_pick rfl rfl rfl) ?_)
    first | refine as_q rfl rfl (q_pick_t rfl rfl) ?_ | refine as_q rfl rfl (q_pick_f rfl rfl) ?_ | refine as_q rfl rfl (q_pick rfl rfl rfl) ?_
    refine as_q rfl rfl (q_assign rfl) ?_
    refine as_nil (hK4 _ _ ?_)
    clear hK4 K4
    refine cw_ret ?_
    exact ⟨_, (res_tmp rfl res_nil), by rw [ltE_not.2 (by omega)]; rfl, hT.forget⟩
  · skip
    refine cw_rs fun K5 hK5 => ?_
    -- region 1
    refine as_q rfl rfl (q_fieldAddr (off := 0) (by kernel_rfl) rfl) ?_
    refine as_q rfl rfl (q_load1 (by kernel_rfl) rfl (by first | exact Blk.cell ho1.1 rfl | exact Blk.cell ho2.1 rfl | assumption)) ?_
    refine as_q rfl rfl (q_fieldAddr (off := 0) (by kernel_rfl) rfl) ?_
    refine as_q rfl rfl (q_load1 (by kernel_rfl) rfl (by first | exact Blk.cell ho1.1 rfl | exact Blk.cell ho2.1 rfl | assumption)) ?_
    first | refine as_q rfl rfl (q_ltT rfl rfl (by omega)) ?_ | refine as_q rfl rfl (q_ltF rfl rfl (by omega)) ?_ | refine as_q rfl rfl (q_lt rfl rfl) ?_
    refine as_q rfl rfl (q_move rfl) ?_
    first | refine as_gskip rfl rfl rfl rfl rfl ?_ | refine as_gskipU rfl rfl rfl rfl ?_ | refine as_gh rfl rfl rfl rfl (h_q rfl (q_fieldAddr (off := 0) (by kernel_rfl) rfl) ?_)
    first | refine as_gskip rfl rfl rfl rfl rfl ?_ | refine as_gskipU rfl rfl rfl rfl ?_ | refine as_gh rfl rfl rfl rfl (h_q rfl (q_load1 (by kernel_rfl) rfl (by first | exact Blk.cell ho1.1 rfl | exact Blk.cell ho2.1 rfl | assumption)) ?_)
    first | refine as_gskip rfl rfl rfl rfl rfl ?_ | refine as_gskipU rfl rfl rfl rfl ?_ | refine as_gh rfl rfl rfl rfl (h_q rfl (q_fieldAddr (off := 0) (by kernel_rfl) rfl) ?_)
    first | refine as_gskip rfl rfl rfl rfl rfl ?_ | refine as_gskipU rfl rfl rfl rfl ?_ | refine as_gh rfl rfl rfl rfl (h_q rfl (q_load1 (by kernel_rfl) rfl (by first | exact Blk.cell ho1.1 rfl | exact Blk.cell ho2.1 rfl | assumption)) ?_)
    first | refine as_gskip rfl rfl rfl rfl rfl ?_ | refine as_gskipU rfl rfl rfl rfl ?_ | refine as_gh rfl rfl rfl rfl (h_q rfl (q_eqT rfl rfl (by omega)) ?_) | refine as_gh rfl rfl rfl rfl (h_q rfl (q_eqF rfl rfl (by omega)) ?_) | refine as_gh rfl rfl rfl rfl (h_q rfl (q_eq rfl rfl) ?_)
    first | refine as_gskip rfl rfl rfl rfl rfl ?_ | refine as_gskipU rfl rfl rfl rfl ?_ | refine as_gh rfl rfl rfl rfl (h_q rfl (q_move rfl) ?_)
    first | refine as_gskip rfl rfl rfl rfl rfl ?_ | refine as_gskipU rfl rfl rfl rfl ?_ | refine as_gh rfl rfl rfl rfl (h_q rfl (q_fieldAddr (off := 1) (by kernel_rfl) rfl) ?_)
    first | refine as_gskip rfl rfl rfl rfl rfl ?_ | refine as_gskipU rfl rfl rfl rfl ?_ | refine as_gh rfl rfl rfl rfl (h_q rfl (q_load1 (by kernel_rfl) rfl (by first | exact Blk.cell ho1.1 rfl | exact Blk.cell ho2.1 rfl | assumption)) ?_)
    first | refine as_gskip rfl rfl rfl rfl rfl ?_ | refine as_gskipU rfl rfl rfl rfl ?_ | refine as_gh rfl rfl rfl rfl (h_q rfl (q_fieldAddr (off := 1) (by kernel_rfl) rfl) ?_)
    first | refine as_gskip rfl rfl rfl rfl rfl ?_ | refine as_gskipU rfl rfl rfl rfl ?_ | refine as_gh rfl rfl rfl rfl (h_q rfl (q_load1 (by kernel_rfl) rfl (by first | exact Blk.cell ho1.1 rfl | exact Blk.cell ho2.1 rfl | assumption)) ?_)
    first | refine as_gskip rfl rfl rfl rfl rfl ?_ | refine as_gskipU rfl rfl rfl rfl ?_ | refine as_gh rfl rfl rfl rfl (h_q rfl (q_ltT rfl rfl (by omega)) ?_) | refine as_gh rfl rfl rfl rfl (h_q rfl (q_ltF rfl rfl (by omega)) ?_) | refine as_gh rfl rfl rfl rfl (h_q rfl (q_lt rfl rfl) ?_)
    first | refine as_gskip rfl rfl rfl rfl rfl ?_ | refine as_gskipU rfl rfl rfl rfl ?_ | refine as_gh rfl rfl rfl rfl (h_q rfl (q_pick_t rfl rfl) ?_) | refine as_gh rfl rfl rfl rfl (h_q rfl (q_pick_f rfl rfl) ?_) | refine as_gh rfl rfl rfl rfl (h_q rfl (q_pick rfl rfl rfl) ?_)
    first | refine as_q rfl rfl (q_pick_t rfl rfl) ?_ | refine as_q rfl rfl (q_pick_f rfl rfl) ?_ | refine as_q rfl rfl (q_pick rfl rfl rfl) ?_
    refine as_q rfl rfl (q_assign rfl) ?_
    refine as_nil (hK5 _ _ ?_)
    clear hK5 K5
    refine cw_ret ?_
    exact ⟨_, (res_tmp rfl res_nil), by rw [ltE_not.2 (by omega)]; rfl, hT.forget⟩

theorem ref_put {w : World} {M : Mem} {u : Value} {n : Nat} {xs : List El} {x : El} (hs : Sat M w) (hr : RdM M 2 u n (els xs)) (hn : n ≤ 1000000) :
    Does Tryd.prog 25 #[u, .agg (elc x).toArray] w (fun v w' => ∃ M', Step Nope M w M' w' ∧ RdM M' 2 v (n + 1) (els (putE xs x))) := by
  have hT := Step.refl Nope hs
  have hxl := (hr.rds w).els_len hs
  obtain ⟨sa, sc, rfl, hsc, _⟩ := hr.slice
  refine fn_enter Tryd.func25 rfl (rs := [.tmp 4]) rfl rfl rfl rfl ?_
  refine cw_rs fun K1 hK1 => ?_
  -- region 0
  have hqa1 := hT.size
  refine as_h rfl (h_boxO hs rfl rfl fun b1 w1 hs1 ho1 e1 => ?_)
  replace hr := hr.mono hs1.le
  replace hT := hT.then hs1
  have hz1 := hs1.size
  have hl1 := ho1.1.lt
  refine as_q rfl rfl (q_assign rfl) ?_
  refine as_nil (hK1 _ _ ?_)
  clear hK1 K1
  refine cw_rs fun K2 hK2 => ?_
  -- region 1
  refine as_q rfl rfl (q_assign rfl) ?_
  refine as_nil (hK2 _ _ ?_)
  clear hK2 K2
  refine cw_seq fun K3 hK3 => ?_
  refine cw_block ?_
  refine cw_loop (fun mm l w1 => ∃ i : Nat, mm = n - i ∧ i ≤ n ∧ (∀ j e, j < i → xs[j]? = some e → ltE e x = true) ∧ l = [(0, .slice sa n sc), (3, .pointer (some ⟨b1, 0, none⟩)), (5, .int .i64 i)] ∧ Step Nope M w M w1 ∧ Own w1 M b1 (elc x) 23) (n) [(0, .slice sa n sc), (3, .pointer (some ⟨b1, 0, none⟩)), (5, .int .i64 (0 : Nat))] (.cons rfl (.cons rfl (.cons rfl (.nil _)))) ?_ ?_
  · skip
    exact ⟨0, rfl, Nat.zero_le _, fun j e hj => by omega, rfl, hT, ho1⟩
  have hb1w : w.heap.size ≤ b1 := by omega
  clear hT ho1
  rintro mm l w1 ⟨i, rfl, hi, hpre, rfl, hT, ho1⟩
  refine cw_seq fun K4 hK4 => ?_
  refine cw_cutS (fun l w1 => ∃ (bb : Bool), (bb = true → i < n ∧ ∀ e, xs[i]? = some e → ltE e x = true) ∧ (bb = false → ∀ e, xs[i]? = some e → ltE e x = false) ∧ l = [(0, .slice sa n sc), (3, .pointer (some ⟨b1, 0, none⟩)), (5, .int .i64 i), (18, .bool bb)] ∧ Step Nope M w M w1 ∧ Own w1 M b1 (elc x) 23) ?_ ?_
  · skip
    have hio : i = n ∨ i < n := by omega
    rcases hio with hio | hio
    · skip
      refine cw_drawn (by kernel_rfl) (by kernel_rfl) (by kernel_rfl) rfl rfl fun K5 hK5 => ?_
      -- region 2
      have hs2 := Step.drew hT.sat
      have hz2 := hs2.size
      replace hr := hr.mono hs2.le
      replace ho1 := ho1.then hs2
      replace hT := hT.then hs2
      refine at_q (i := 0) (li := #[true, false, false, false, false, false, false, false, false, false, false, false]) rfl (by kernel_rfl) rfl (fun _ => (q_move rfl)) (by kernel_rfl) ?_
      refine at_q (i := 1) (li := #[true, true, false, false, false, false, false, false, false, false, false, false]) rfl (by kernel_rfl) rfl (fun _ => (q_move rfl)) (by kernel_rfl) ?_
      refine at_q (i := 2) (li := #[true, true, true, false, false, false, false, false, false, false, false, false]) rfl (by kernel_rfl) rfl (fun _ => (q_len (by kernel_rfl) rfl _)) (by kernel_rfl) ?_
      first | refine at_q (i := 3) (li := #[true, true, true, true, false, false, false, false, false, false, false, false]) rfl (by kernel_rfl) rfl (fun _ => (q_ltT rfl rfl (by omega))) (by kernel_rfl) ?_ | refine at_q (i := 3) (li := #[true, true, true, true, false, false, false, false, false, false, false, false]) rfl (by kernel_rfl) rfl (fun _ => (q_ltF rfl rfl (by omega))) (by kernel_rfl) ?_ | refine at_q (i := 3) (li := #[true, true, true, true, false, false, false, false, false, false, false, false]) rfl (by kernel_rfl) rfl (fun _ => (q_lt rfl rfl)) (by kernel_rfl) ?_
      refine at_q (i := 4) (li := #[true, true, true, true, true, false, false, false, false, false, false, false]) rfl (by kernel_rfl) rfl (fun _ => (q_move rfl)) (by kernel_rfl) ?_
      first | refine at_gskip (i := 5) (li := #[true, true, true, true, true, true, false, false, false, false, false, false]) rfl (by kernel_rfl) rfl rfl rfl rfl rfl (by kernel_rfl) ?_ | refine at_gskipU (i := 5) (li := #[true, true, true, true, true, true, false, false, false, false, false, false]) rfl (by kernel_rfl) rfl rfl rfl rfl (by kernel_rfl) ?_ | refine at_gp (i := 5) (li := #[true, true, true, true, true, true, false, false, false, false, false, false]) rfl (by kernel_rfl) rfl rfl rfl rfl (fun _ => (q_move rfl)) (by kernel_rfl) ?_
      first | refine at_gskip (i := 6) (li := #[true, true, true, true, true, true, true, false, false, false, false, false]) rfl (by kernel_rfl) rfl rfl rfl rfl rfl (by kernel_rfl) ?_ | refine at_gskipU (i := 6) (li := #[true, true, true, true, true, true, true, false, false, false, false, false]) rfl (by kernel_rfl) rfl rfl rfl rfl (by kernel_rfl) ?_ | refine at_gp (i := 6) (li := #[true, true, true, true, true, true, true, false, false, false, false, false]) rfl (by kernel_rfl) rfl rfl rfl rfl (fun _ => (q_move rfl)) (by kernel_rfl) ?_
      first | refine at_gskip (i := 7) (li := #[true, true, true, true, true, true, true, true, false, false, false, false]) rfl (by kernel_rfl) rfl rfl rfl rfl rfl (by kernel_rfl) ?_ | refine at_gskipU (i := 7) (li := #[true, true, true, true, true, true, true, true, false, false, false, false]) rfl (by kernel_rfl) rfl rfl rfl rfl (by kernel_rfl) ?_ | refine at_gp (i := 7) (li := #[true, true, true, true, true, true, true, true, false, false, false, false]) rfl (by kernel_rfl) rfl rfl rfl rfl (fun _ => (q_indexAddr (e := 23) (size := 2) (by kernel_rfl) (by kernel_rfl) rfl rfl (by omega) (by omega))) (by kernel_rfl) ?_
      first | refine at_gskip (i := 8) (li := #[true, true, true, true, true, true, true, true, true, false, false, false]) rfl (by kernel_rfl) rfl rfl rfl rfl rfl (by kernel_rfl) ?_ | refine at_gskipU (i := 8) (li := #[true, true, true, true, true, true, true, true, true, false, false, false]) rfl (by kernel_rfl) rfl rfl rfl rfl (by kernel_rfl) ?_ | refine at_gq (i := 8) (li := #[true, true, true, true, true, true, true, true, true, false, false, false]) (cellsAre _ _ 2 _) rfl (by kernel_rfl) rfl rfl rfl rfl (fun _ h => q_loadc (n := 2) (by kernel_rfl) rfl h) ((hr.rd hT.sat).el (j := (i : Int).toNat) (by simpa using hy)) (by kernel_rfl) ?_
      first | refine at_gskip (i := 9) (li := #[true, true, true, true, true, true, true, true, true, true, false, false]) rfl (by kernel_rfl) rfl rfl rfl rfl rfl (by kernel_rfl) ?_ | refine at_gskipU (i := 9) (li := #[true, true, true, true, true, true, true, true, true, true, false, false]) rfl (by kernel_rfl) rfl rfl rfl rfl (by kernel_rfl) ?_ | refine at_gq (i := 9) (li := #[true, true, true, true, true, true, true, true, true, true, false, false]) (cellsAre _ _ 2 _) rfl (by kernel_rfl) rfl rfl rfl rfl (fun _ h => q_loadc (n := 2) (by kernel_rfl) rfl h) (by first | exact Blk.cells ho1.1 rfl | assumption) (by kernel_rfl) ?_
      first | refine at_gskip (i := 10) (li := #[true, true, true, true, true, true, true, true, true, true, true, false]) rfl (by kernel_rfl) rfl rfl rfl rfl rfl (by kernel_rfl) ?_ | refine at_gskipU (i := 10) (li := #[true, true, true, true, true, true, true, true, true, true, true, false]) rfl (by kernel_rfl) rfl rfl rfl rfl (by kernel_rfl) ?_
      first | refine at_q (i := 11) (li := #[true, true, true, true, true, true, true, true, true, true, true, true]) rfl (by kernel_rfl) rfl (fun _ => (q_pick_t rfl rfl)) (by kernel_rfl) ?_ | refine at_q (i := 11) (li := #[true, true, true, true, true, true, true, true, true, true, true, true]) rfl (by kernel_rfl) rfl (fun _ => (q_pick_f rfl rfl)) (by kernel_rfl) ?_ | refine at_q (i := 11) (li := #[true, true, true, true, true, true, true, true, true, true, true, true]) rfl (by kernel_rfl) rfl (fun _ => (q_pick rfl rfl rfl)) (by kernel_rfl) ?_
      refine at_done (by kernel_rfl) (hK5 _ _ ?_)
      clear hK5 K5
      exact ⟨_, (.cons rfl (.cons rfl (.cons rfl (.cons rfl (.nil _))))), _, (fun h => by cases h), (fun _ e he => by rw [List.getElem?_eq_none (by omega)] at he; cases he), rfl, hT, ho1⟩
    · skip
      obtain ⟨y, hy⟩ : ∃ y, xs[i]? = some y := ⟨xs[i], by simp⟩
      obtain ⟨g, o, rfl⟩ := hr.there (by omega)
      refine cw_drawn (by kernel_rfl) (by kernel_rfl) (by kernel_rfl) rfl rfl fun K6 hK6 => ?_
      -- region 2
      have hs3 := Step.drew hT.sat
      have hz3 := hs3.size
      replace hr := hr.mono hs3.le
      replace ho1 := ho1.then hs3
      replace hT := hT.then hs3
      refine at_q (i := 0) (li := #[true, false, false, false, false, false, false, false, false, false, false, false]) rfl (by kernel_rfl) rfl (fun _ => (q_move rfl)) (by kernel_rfl) ?_
      refine at_q (i := 1) (li := #[true, true, false, false, false, false, false, false, false, false, false, false]) rfl (by kernel_rfl) rfl (fun _ => (q_move rfl)) (by kernel_rfl) ?_
      refine at_q (i := 2) (li := #[true, true, true, false, false, false, false, false, false, false, false, false]) rfl (by kernel_rfl) rfl (fun _ => (q_len (by kernel_rfl) rfl _)) (by kernel_rfl) ?_
      first | refine at_q (i := 3) (li := #[true, true, true, true, false, false, false, false, false, false, false, false]) rfl (by kernel_rfl) rfl (fun _ => (q_ltT rfl rfl (by omega))) (by kernel_rfl) ?_ | refine at_q (i := 3) (li := #[true, true, true, true, false, false, false, false, false, false, false, false]) rfl (by kernel_rfl) rfl (fun _ => (q_ltF rfl rfl (by omega))) (by kernel_rfl) ?_ | refine at_q (i := 3) (li := #[true, true, true, true, false, false, false, false, false, false, false, false]) rfl (by kernel_rfl) rfl (fun _ => (q_lt rfl rfl)) (by kernel_rfl) ?_
      refine at_q (i := 4) (li := #[true, true, true, true, true, false, false, false, false, false, false, false]) rfl (by kernel_rfl) rfl (fun _ => (q_move rfl)) (by kernel_rfl) ?_
      first | refine at_gskip (i := 5) (li := #[true, true, true, true, true, true, false, false, false, false, false, false]) rfl (by kernel_rfl) rfl rfl rfl rfl rfl (by kernel_rfl) ?_ | refine at_gskipU (i := 5) (li := #[true, true, true, true, true, true, false, false, false, false, false, false]) rfl (by kernel_rfl) rfl rfl rfl rfl (by kernel_rfl) ?_ | refine at_gp (i := 5) (li := #[true, true, true, true, true, true, false, false, false, false, false, false]) rfl (by kernel_rfl) rfl rfl rfl rfl (fun _ => (q_move rfl)) (by kernel_rfl) ?_
      first | refine at_gskip (i := 6) (li := #[true, true, true, true, true, true, true, false, false, false, false, false]) rfl (by kernel_rfl) rfl rfl rfl rfl rfl (by kernel_rfl) ?_ | refine at_gskipU (i := 6) (li := #[true, true, true, true, true, true, true, false, false, false, false, false]) rfl (by kernel_rfl) rfl rfl rfl rfl (by kernel_rfl) ?_ | refine at_gp (i := 6) (li := #[true, true, true, true, true, true, true, false, false, false, false, false]) rfl (by kernel_rfl) rfl rfl rfl rfl (fun _ => (q_move rfl)) (by kernel_rfl) ?_
      first | refine at_gskip (i := 7) (li := #[true, true, true, true, true, true, true, true, false, false, false, false]) rfl (by kernel_rfl) rfl rfl rfl rfl rfl (by kernel_rfl) ?_ | refine at_gskipU (i := 7) (li := #[true, true, true, true, true, true, true, true, false, false, false, false]) rfl (by kernel_rfl) rfl rfl rfl rfl (by kernel_rfl) ?_ | refine at_gp (i := 7) (li := #[true, true, true, true, true, true, true, true, false, false, false, false]) rfl (by kernel_rfl) rfl rfl rfl rfl (fun _ => (q_indexAddr (e := 23) (size := 2) (by kernel_rfl) (by kernel_rfl) rfl rfl (by omega) (by omega))) (by kernel_rfl) ?_
      first | refine at_gskip (i := 8) (li := #[true, true, true, true, true, true, true, true, true, false, false, false]) rfl (by kernel_rfl) rfl rfl rfl rfl rfl (by kernel_rfl) ?_ | refine at_gskipU (i := 8) (li := #[true, true, true, true, true, true, true, true, true, false, false, false]) rfl (by kernel_rfl) rfl rfl rfl rfl (by kernel_rfl) ?_ | refine at_gq (i := 8) (li := #[true, true, true, true, true, true, true, true, true, false, false, false]) (cellsAre _ _ 2 _) rfl (by kernel_rfl) rfl rfl rfl rfl (fun _ h => q_loadc (n := 2) (by kernel_rfl) rfl h) ((hr.rd hT.sat).el (j := (i : Int).toNat) (by simpa using hy)) (by kernel_rfl) ?_
      first | refine at_gskip (i := 9) (li := #[true, true, true, true, true, true, true, true, true, true, false, false]) rfl (by kernel_rfl) rfl rfl rfl rfl rfl (by kernel_rfl) ?_ | refine at_gskipU (i := 9) (li := #[true, true, true, true, true, true, true, true, true, true, false, false]) rfl (by kernel_rfl) rfl rfl rfl rfl (by kernel_rfl) ?_ | refine at_gq (i := 9) (li := #[true, true, true, true, true, true, true, true, true, true, false, false]) (cellsAre _ _ 2 _) rfl (by kernel_rfl) rfl rfl rfl rfl (fun _ h => q_loadc (n := 2) (by kernel_rfl) rfl h) (by first | exact Blk.cells ho1.1 rfl | assumption) (by kernel_rfl) ?_
      refine at_gh (i := 10) (li := #[true, true, true, true, true, true, true, true, true, true, true, false]) rfl (by kernel_rfl) rfl rfl rfl rfl rfl (by kernel_rfl) (h_call (by kernel_rfl) rfl ?_)
      refine (ref_less (a := y) (b := x) hs3.sat).mono ?_
      rintro _ w4 ⟨rfl, hs4⟩
      replace hr := hr.mono hs4.le
      replace ho1 := ho1.then hs4
      replace hT := hT.then hs4
      have hz4 := hs4.size
      refine ⟨(by repeat' first | exact trivial | exact Blk.cell ho1.1 rfl | exact Blk.cells ho1.1 rfl | exact ((hr.rd hT.sat).el (j := (i : Int).toNat) (by simpa using hy)) | assumption | refine all_keep ?_ | refine And.intro ?_ ?_), ?_⟩
      first | refine at_q (i := 11) (li := #[true, true, true, true, true, true, true, true, true, true, true, true]) rfl (by kernel_rfl) rfl (fun _ => (q_pick_t rfl rfl)) (by kernel_rfl) ?_ | refine at_q (i := 11) (li := #[true, true, true, true, true, true, true, true, true, true, true, true]) rfl (by kernel_rfl) rfl (fun _ => (q_pick_f rfl rfl)) (by kernel_rfl) ?_ | refine at_q (i := 11) (li := #[true, true, true, true, true, true, true, true, true, true, true, true]) rfl (by kernel_rfl) rfl (fun _ => (q_pick rfl rfl rfl)) (by kernel_rfl) ?_
      refine at_done (by kernel_rfl) (hK6 _ _ ?_)
      clear hK6 K6
      exact ⟨_, (.cons rfl (.cons rfl (.cons rfl (.cons rfl (.nil _))))), _, (fun h => ⟨hio, fun e he => by rw [hy] at he; cases he; exact h⟩), (fun h e he => by rw [hy] at he; cases he; exact h), rfl, hT, ho1⟩
  clear hT ho1
  rintro l w2 ⟨bb, hbt, hbf, rfl, hT, ho1⟩
  refine cw_cond rfl (fun hc0 => ?_) (fun hc0 => ?_)
  · skip
    obtain ⟨hlt, hyl⟩ := hbt hc0
    refine cw_skip ?_
    refine hK4 _ _ ?_
    clear hK4 K4
    refine cw_block ?_
    refine cw_region fun K7 hK7 => ?_
    -- region 3
    refine as_q rfl rfl (q_move rfl) ?_
    refine as_q rfl rfl (q_addx rfl rfl (by omega) (by omega)) ?_
    refine as_q rfl rfl (q_assign rfl) ?_
    refine as_nil (hK7 _ _ ?_)
    clear hK7 K7
    exact ⟨_, _, by omega, (.cons rfl (.cons rfl (.cons rfl (.nil _)))), i + 1, rfl, by omega, fun j e hj he => by
      rcases Nat.lt_or_ge j i with h | h
      · exact hpre j e h he
      · obtain rfl : j = i := by omega
        exact hyl e he, rfl, hT, ho1⟩
  · skip
    have hst := hbf hc0
    refine cw_exit ?_
    refine hK3 _ _ ?_
    clear hK4 K4
    clear hK3 K3
    refine cw_rs fun K8 hK8 => ?_
    -- region 4
    refine as_q rfl rfl (q_assign rfl) ?_
    refine as_nil (hK8 _ _ ?_)
    clear hK8 K8
    refine cw_rs fun K9 hK9 => ?_
    -- region 5
    refine as_q rfl rfl (q_move rfl) ?_
    refine as_q rfl rfl (q_move rfl) ?_
    refine as_q rfl rfl (q_move rfl) ?_
    refine as_q rfl rfl (q_slice (e := 23) (size := 2) (k := .i64) (by kernel_rfl) (by kernel_rfl) rfl rfl rfl (by omega) (by omega) (by omega)) ?_
    have nofl : ∀ g, (Value.slice none 0 0).ownBlock = some g → w.heap.size ≤ g := fun g hg => by cases hg
    have hlb := ho1.1.lt
    have hq5 := hT.size
    refine as_h rfl (h_append (e := 23) (size := 2) (bytes := 16) (by kernel_rfl) hT.sat (Buf.nil _ _ 23 2) (((hr.rd hT.sat).front i (by omega) (by omega))) rfl rfl (els_one _) (by omega) rfl fun hcv w5 hs5 hcb hco => ?_)
    replace hr := hr.mono hs5.le
    replace ho1 := ho1.step hs5 (fun h => by cases h)
    have hcf := floor_of hco nofl hq5
    replace hT := hT.trans hs5 (fun k hk h => absurd (nofl k h) (by omega))
    have hz5 := hs5.size
    have hc1 := lt_of_app (B := b1) hco (by intro h; cases h) (by omega)
    refine as_q rfl rfl (q_assign rfl) ?_
    refine as_nil (hK9 _ _ ?_)
    clear hK9 K9
    refine cw_rs fun K10 hK10 => ?_
    -- region 6
    refine as_q rfl rfl (q_move rfl) ?_
    refine as_q rfl rfl (q_loadc (n := 2) (by kernel_rfl) rfl (by first | exact Blk.cells ho1.1 rfl | assumption)) ?_
    refine as_h rfl (h_buildO (e := 23) (size := 2) (zs := [(.int .i64 0), (.int .i64 0)]) (cs := [_, _]) (by kernel_rfl) (by kernel_rfl) (by kernel_rfl) rfl hs5.sat rfl rfl fun b6 w6 hs6 ho6 e6 => ?_)
    replace hr := hr.mono hs6.le
    replace ho1 := ho1.then hs6
    replace hcb := hcb.then hs6
    replace hT := hT.then hs6
    have hz6 := hs6.size
    have hl6 := ho6.1.lt
    have hlt1 := hcb.lt
    have hq7 := hT.size
    refine as_h rfl (h_append (e := 23) (size := 2) (bytes := 16) (by kernel_rfl) hs6.sat hcb ((Own.buf ho6 (n := 1) (size := 2) rfl (by decide)).rd) rfl rfl (by simp [Value.oneCell']) (by omega) rfl fun hdv w7 hs7 hdb hdo => ?_)
    replace hr := hr.mono hs7.le
    replace ho1 := ho1.step hs7 hc1
    clear ho6
    have hdf := floor_of hdo hcf hq7
    replace hT := hT.trans hs7 (fun k hk h => absurd (hcf k h) (by omega))
    have hz7 := hs7.size
    refine as_q rfl rfl (q_assign rfl) ?_
    refine as_nil (hK10 _ _ ?_)
    clear hK10 K10
    refine cw_rs fun K11 hK11 => ?_
    -- region 7
    refine as_q rfl rfl (q_move rfl) ?_
    refine as_q rfl rfl (q_move rfl) ?_
    refine as_q rfl rfl (q_move rfl) ?_
    refine as_q rfl rfl (q_slice (e := 23) (size := 2) (k' := .i64) (by kernel_rfl) (by kernel_rfl) rfl rfl rfl (by omega) (by omega) (by omega)) ?_
    have hq8 := hT.size
    refine as_h rfl (h_append (e := 23) (size := 2) (bytes := 16) (by kernel_rfl) hs7.sat hdb (((hr.rd hs7.sat).rest i (by omega) (by omega))) rfl rfl (els_one _) (by omega) rfl fun hev w8 hs8 heb heo => ?_)
    replace hr := hr.mono hs8.le
    replace ho1 := ho1.step hs8 (fun h => by have := lt_of_app hdo hc1 (by have := ho1.1.lt; omega); exact this h)
    have hef := floor_of heo hdf hq8
    replace hT := hT.trans hs8 (fun k hk h => absurd (hdf k h) (by omega))
    have hz8 := hs8.size
    refine as_q rfl rfl (q_assign rfl) ?_
    refine as_nil (hK11 _ _ ?_)
    clear hK11 K11
    refine cw_ret ?_
    obtain ⟨M9, h9, _, hr9, _⟩ := hT.freezeB heb hef
    have hput := putE_at (x := x) (i := i) (by omega) hpre hst
    exact ⟨_, (res_tmp rfl res_nil), M9, h9, hr9.cast rfl (by omega) (by rw [hput, els_append, els_cons]; simp [elc])⟩

theorem rdM_nil (M : Mem) (size : Nat) : RdM M size (.slice none 0 0) 0 [] := ⟨by simp, .inl ⟨rfl, none, 0, rfl, fun _ => rfl⟩⟩

theorem ref_sort {w : World} {M : Mem} {u : Value} {n : Nat} {xs : List El} (hs : Sat M w) (hr : RdM M 2 u n (els xs)) (hn : n ≤ 1000000) :
    Does Tryd.prog 11 #[u] w (fun v w' => ∃ M', Step Nope M w M' w' ∧ RdM M' 2 v n (els (srtE xs))) := by
  have hT := Step.refl Nope hs
  have hxl := (hr.rds w).els_len hs
  obtain ⟨sa, sc, rfl, hsc, _⟩ := hr.slice
  refine fn_enter Tryd.func11 rfl (rs := [.tmp 2]) rfl rfl rfl rfl ?_
  refine cw_rs fun K1 hK1 => ?_
  -- region 0
  refine as_q rfl rfl (q_assign rfl) ?_
  refine as_nil (hK1 _ _ ?_)
  clear hK1 K1
  refine cw_rs fun K2 hK2 => ?_
  -- region 1
  refine as_q rfl rfl (q_assign rfl) ?_
  refine as_nil (hK2 _ _ ?_)
  clear hK2 K2
  refine cw_seq fun K3 hK3 => ?_
  refine cw_rs fun K4 hK4 => ?_
  -- region 2
  refine as_q rfl rfl (q_assign rfl) ?_
  refine as_nil (hK4 _ _ ?_)
  clear hK4 K4
  refine cw_block ?_
  refine cw_loop (fun mm l w1 => ∃ (i : Nat) (ov : Value) (M1 : Mem), mm = n - i ∧ i ≤ n ∧ l = [(0, .slice sa n sc), (3, ov), (4, .int .i64 i)] ∧ Step Nope M w M1 w1 ∧ RdM M1 2 ov i (els (srtE (xs.take i)))) (n) [(0, .slice sa n sc), (3, .slice none 0 0), (4, .int .i64 (0 : Nat))] (.cons rfl (.cons rfl (.cons rfl (.nil _)))) ?_ ?_
  · skip
    exact ⟨0, _, M, rfl, Nat.zero_le _, rfl, hT, rdM_nil M 2⟩
  clear hT
  rintro mm l w1 ⟨i, ov, M1, rfl, hi, rfl, hT, hb⟩
  replace hr := hr.mono hT.le
  refine cw_seq fun K5 hK5 => ?_
  refine cw_rs fun K6 hK6 => ?_
  -- region 3
  refine as_q rfl rfl (q_move rfl) ?_
  refine as_q rfl rfl (q_move rfl) ?_
  refine as_q rfl rfl (q_len (by kernel_rfl) rfl _) ?_
  first | refine as_q rfl rfl (q_ltT rfl rfl (by omega)) ?_ | refine as_q rfl rfl (q_ltF rfl rfl (by omega)) ?_ | refine as_q rfl rfl (q_lt rfl rfl) ?_
  refine as_nil (hK6 _ _ ?_)
  clear hK6 K6
  refine cw_cond rfl (fun hc0 => ?_) (fun hc0 => ?_)
  · skip
    have hlt : i < n := by have := of_decide_eq_true hc0; omega
    obtain ⟨x, hx⟩ : ∃ y, xs[i]? = some y := ⟨xs[i], by simp⟩
    obtain ⟨g, o, rfl⟩ := hr.there (by omega)
    refine cw_skip ?_
    refine hK5 _ _ ?_
    clear hK5 K5
    refine cw_seq fun K7 hK7 => ?_
    refine cw_block ?_
    refine cw_region fun K8 hK8 => ?_
    -- region 5
    refine as_q rfl rfl (q_move rfl) ?_
    refine as_q rfl rfl (q_move rfl) ?_
    refine as_q rfl rfl (q_move rfl) ?_
    refine as_q rfl rfl (q_indexAddr (e := 23) (size := 2) (by kernel_rfl) (by kernel_rfl) rfl rfl (by omega) (by omega)) ?_
    refine as_q rfl rfl (q_loadc (n := 2) (by kernel_rfl) rfl ((hr.rd hT.sat).el (j := (i : Int).toNat) (by simpa using hx))) ?_
    refine as_h rfl (h_call (by kernel_rfl) rfl ?_)
    refine (ref_put hT.sat hb (by omega)).mono ?_
    rintro ov2 w1 ⟨M2, hs1, hb2⟩
    replace hT := hT.then hs1
    replace hr := hr.mono hs1.le
    refine as_q rfl rfl (q_assign rfl) ?_
    refine as_nil (hK8 _ _ ?_)
    clear hK8 K8
    refine hK7 _ _ ?_
    clear hK7 K7
    refine cw_region fun K9 hK9 => ?_
    -- region 4
    refine as_q rfl rfl (q_move rfl) ?_
    refine as_q rfl rfl (q_addx rfl rfl (by omega) (by omega)) ?_
    refine as_q rfl rfl (q_assign rfl) ?_
    refine as_nil (hK9 _ _ ?_)
    clear hK9 K9
    refine ⟨_, _, ?_, (.cons rfl (.cons rfl (.cons rfl (.nil _)))), i + 1, ov2, M2, rfl, by omega, rfl, hT, ?_⟩
    · omega
    · rw [List.take_add_one, hx]
      exact hb2.cast rfl rfl (by rw [← srtE_snoc]; rfl)
  · skip
    have hge : i = n := by have := of_decide_eq_false hc0; omega
    refine cw_exit ?_
    refine hK3 _ _ ?_
    clear hK5 K5
    clear hK3 K3
    refine cw_rs fun K10 hK10 => ?_
    -- region 6
    refine as_q rfl rfl (q_move rfl) ?_
    refine as_q rfl rfl (q_assign rfl) ?_
    refine as_nil (hK10 _ _ ?_)
    clear hK10 K10
    refine cw_ret ?_
    exact ⟨_, (res_tmp rfl res_nil), M1, hT, by rw [hge, show xs.take n = xs from by rw [← hxl, List.take_length]] at hb; exact hb⟩

theorem ref_same {w : World} {M : Mem} {va vb : Value} {n m : Nat} {xs ys : List El} (hs : Sat M w) (hn : n ≤ 1000000) (hr : Rds M w 2 va n (els xs)) (hr2 : Rds M w 2 vb m (els ys)) :
    Does Tryd.prog 13 #[va, vb] w (fun v w' => v = .bool (decide (xs = ys)) ∧ Step Nope M w M w') := by
  have hT := Step.refl Nope hs
  have hl1 := hr.els_len hs
  have hl2 := hr2.els_len hs
  obtain ⟨a, c, rfl, hac, _⟩ := hr.slice hs
  obtain ⟨b, d, rfl, hbd, _⟩ := hr2.slice hs
  refine fn_enter Tryd.func13 rfl (rs := [.tmp 4]) rfl rfl rfl rfl ?_
  refine cw_rs fun K1 hK1 => ?_
  -- region 0
  refine as_q rfl rfl (q_assign rfl) ?_
  refine as_nil (hK1 _ _ ?_)
  clear hK1 K1
  refine cw_seq fun K2 hK2 => ?_
  refine cw_rs fun K3 hK3 => ?_
  -- region 1
  refine as_q rfl rfl (q_move rfl) ?_
  refine as_q rfl rfl (q_len (by kernel_rfl) rfl _) ?_
  refine as_q rfl rfl (q_move rfl) ?_
  refine as_q rfl rfl (q_len (by kernel_rfl) rfl _) ?_
  first | refine as_q rfl rfl (q_neT rfl rfl (by omega)) ?_ | refine as_q rfl rfl (q_neF rfl rfl (by omega)) ?_ | refine as_q rfl rfl (q_ne rfl rfl) ?_
  refine as_nil (hK3 _ _ ?_)
  clear hK3 K3
  refine cw_cond rfl (fun hc0 => ?_) (fun hc0 => ?_)
  · skip
    have hne : n ≠ m := by simp at hc0; omega
    refine cw_rs fun K4 hK4 => ?_
    -- region 2
    refine as_q rfl rfl (q_assign rfl) ?_
    refine as_nil (hK4 _ _ ?_)
    clear hK4 K4
    refine cw_ret ?_
    exact ⟨_, (res_tmp rfl res_nil), by rw [decide_eq_false (fun h => hne (by rw [← hl1, ← hl2, h]))]; rfl, hT⟩
  · skip
    have hne : n = m := by simp at hc0; omega
    refine cw_skip ?_
    refine hK2 _ _ ?_
    clear hK2 K2
    refine cw_seq fun K5 hK5 => ?_
    refine cw_rs fun K6 hK6 => ?_
    -- region 3
    refine as_q rfl rfl (q_assign rfl) ?_
    refine as_nil (hK6 _ _ ?_)
    clear hK6 K6
    refine cw_block ?_
    refine cw_loop (fun mm l w' => ∃ i : Nat, mm = n - i ∧ i ≤ n ∧ (∀ j, j < i → xs[j]? = ys[j]?) ∧ l = [(0, .slice a n c), (1, .slice b m d), (5, .int .i64 i)] ∧ Step Nope M w M w') (n) [(0, .slice a n c), (1, .slice b m d), (5, .int .i64 (0 : Nat))] (.cons rfl (.cons rfl (.cons rfl (.nil _)))) ?_ ?_
    · skip
      exact ⟨0, rfl, Nat.zero_le _, fun j hj => by omega, rfl, hT⟩
    clear hT
    rintro mm l w1 ⟨i, rfl, hi, hpre, rfl, hT⟩
    refine cw_seq fun K7 hK7 => ?_
    refine cw_rs fun K8 hK8 => ?_
    -- region 4
    refine as_q rfl rfl (q_move rfl) ?_
    refine as_q rfl rfl (q_move rfl) ?_
    refine as_q rfl rfl (q_len (by kernel_rfl) rfl _) ?_
    first | refine as_q rfl rfl (q_ltT rfl rfl (by omega)) ?_ | refine as_q rfl rfl (q_ltF rfl rfl (by omega)) ?_ | refine as_q rfl rfl (q_lt rfl rfl) ?_
    refine as_nil (hK8 _ _ ?_)
    clear hK8 K8
    refine cw_cond rfl (fun hc1 => ?_) (fun hc1 => ?_)
    · skip
      have hlt : i < n := by have := of_decide_eq_true hc1; omega
      obtain ⟨g, o, rfl⟩ := (hr.now hs).there (by omega)
      obtain ⟨g2, o2, rfl⟩ := (hr2.now hs).there (by omega)
      obtain ⟨x, hx⟩ : ∃ z, xs[i]? = some z := ⟨xs[i], by simp⟩
      obtain ⟨y, hy⟩ : ∃ z, ys[i]? = some z := ⟨ys[i], by simp⟩
      refine cw_skip ?_
      refine hK7 _ _ ?_
      clear hK7 K7
      refine cw_seq fun K9 hK9 => ?_
      refine cw_block ?_
      refine cw_rd (by kernel_rfl) (by kernel_rfl) (by kernel_rfl) rfl rfl fun K10 hK10 => ?_
      -- region 6
      have hs1 := Step.drew hT.sat
      replace hT := hT.then hs1
      refine at_q (i := 0) (li := #[true, false, false, false, false, false, false, false, false]) rfl (by kernel_rfl) rfl (fun _ => (q_move rfl)) (by kernel_rfl) ?_
      refine at_q (i := 1) (li := #[true, true, false, false, false, false, false, false, false]) rfl (by kernel_rfl) rfl (fun _ => (q_move rfl)) (by kernel_rfl) ?_
      refine at_q (i := 2) (li := #[true, true, true, false, false, false, false, false, false]) rfl (by kernel_rfl) rfl (fun _ => (q_indexAddr (e := 23) (size := 2) (by kernel_rfl) (by kernel_rfl) rfl rfl (by omega) (by omega))) (by kernel_rfl) ?_
      refine at_l (i := 3) (li := #[true, true, true, true, false, false, false, false, false]) (cellsAre _ _ 2 _) rfl (by kernel_rfl) rfl (fun _ h => q_loadc (n := 2) (by kernel_rfl) rfl h) ((hr _ _ hT).el (j := (i : Int).toNat) (by simpa using hx)) (by kernel_rfl) ?_
      refine at_q (i := 4) (li := #[true, true, true, true, true, false, false, false, false]) rfl (by kernel_rfl) rfl (fun _ => (q_move rfl)) (by kernel_rfl) ?_
      refine at_q (i := 5) (li := #[true, true, true, true, true, true, false, false, false]) rfl (by kernel_rfl) rfl (fun _ => (q_move rfl)) (by kernel_rfl) ?_
      refine at_q (i := 6) (li := #[true, true, true, true, true, true, true, false, false]) rfl (by kernel_rfl) rfl (fun _ => (q_indexAddr (e := 23) (size := 2) (by kernel_rfl) (by kernel_rfl) rfl rfl (by omega) (by omega))) (by kernel_rfl) ?_
      refine at_l (i := 7) (li := #[true, true, true, true, true, true, true, true, false]) (cellsAre _ _ 2 _) rfl (by kernel_rfl) rfl (fun _ h => q_loadc (n := 2) (by kernel_rfl) rfl h) ((hr2 _ _ hT).el (j := (i : Int).toNat) (by simpa using hy)) (by kernel_rfl) ?_
      refine at_q (i := 8) (li := #[true, true, true, true, true, true, true, true, true]) rfl (by kernel_rfl) rfl (fun _ => (q_neE (a := x) (b := y) (e := 2) (by kernel_rfl) (by kernel_rfl) (by kernel_rfl) (by kernel_rfl) (by kernel_rfl) (by kernel_rfl) rfl rfl)) (by kernel_rfl) ?_
      refine at_done (by kernel_rfl) (hK10 _ _ ?_)
      clear hK10 K10
      refine cw_cond rfl (fun hc2 => ?_) (fun hc2 => ?_)
      · skip
        replace hc2 : x ≠ y := by simpa using hc2
        refine cw_rs fun K11 hK11 => ?_
        -- region 7
        refine as_q rfl rfl (q_assign rfl) ?_
        refine as_nil (hK11 _ _ ?_)
        clear hK11 K11
        refine cw_ret ?_
        exact ⟨_, (res_tmp rfl res_nil), by rw [decide_eq_false (fun h => by subst h; rw [hx] at hy; cases hy; exact hc2 rfl)]; rfl, hT⟩
      · skip
        replace hc2 : x = y := by simpa using hc2
        refine cw_skip ?_
        refine hK9 _ _ ?_
        clear hK9 K9
        refine cw_region fun K12 hK12 => ?_
        -- region 5
        refine as_q rfl rfl (q_move rfl) ?_
        refine as_q rfl rfl (q_addx rfl rfl (by omega) (by omega)) ?_
        refine as_q rfl rfl (q_assign rfl) ?_
        refine as_nil (hK12 _ _ ?_)
        clear hK12 K12
        exact ⟨_, _, by omega, (.cons rfl (.cons rfl (.cons rfl (.nil _)))), i + 1, rfl, by omega, fun j hj => by
          rcases Nat.lt_or_ge j i with h | h
          · exact hpre j h
          · obtain rfl : j = i := by omega
            rw [hx, hy, hc2], rfl, hT⟩
    · skip
      have hge : i = n := by have := of_decide_eq_false hc1; omega
      refine cw_exit ?_
      refine hK5 _ _ ?_
      clear hK7 K7
      clear hK5 K5
      refine cw_rs fun K13 hK13 => ?_
      -- region 8
      refine as_q rfl rfl (q_assign rfl) ?_
      refine as_nil (hK13 _ _ ?_)
      clear hK13 K13
      refine cw_ret ?_
      have hall : ∀ j, xs[j]? = ys[j]? := fun j => by
        rcases Nat.lt_or_ge j n with hj | hj
        · exact hpre j (by omega)
        · rw [List.getElem?_eq_none (by omega), List.getElem?_eq_none (by omega)]
      exact ⟨_, (res_tmp rfl res_nil), by rw [decide_eq_true (List.ext_getElem? fun j => hall j)]; rfl, hT⟩

end Go.Proofs.YtbfjkclijjhlhaaDoor
