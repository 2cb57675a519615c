/- Steps of the proof that the law of this claim answers true, part 7. No conditions. -/
import Derived.Test.YtgcgjpfjjgalmaaGreatCDrainFrontsF
/- A heap of any kind as a text, part 1. -/
namespace Go.Proofs.YtgcgjpfjjgalmaaGreat
open Go Go.Eng
def SG (f : FuncId) (M : Mem) (a : Value) (s : List UInt8) : Prop := ∀ M1 w1, Le M M1 → Sat M1 w1 → Does Tryz.prog f #[a] w1 (fun v w' => v = .string ⟨s.toArray⟩ ∧ ∃ M', Step Nope M1 w1 M' w')
theorem SG.mono {f : FuncId} {M M' : Mem} {a : Value} {s : List UInt8} (h : SG f M a s) (k : Le M M') : SG f M' a s := fun _ _ h2 => h _ _ (k.trans h2)
theorem wa_shows {w : World} {M : Mem} {q : Option Addr} {s : List UInt8} (hs : Sat M w) (hsh : SG 89 M (.agg #[.pointer q]) s) :
  Does Tryz.prog 94 #[.agg #[.pointer q]] w (fun v w' => v = .string ⟨s.toArray⟩ ∧ ∃ M', Step Nope M w M' w') := by
 have hT := Step.refl Nope hs
 refine fn_enter Tryz.func94 rfl (rs := [.tmp 2]) rfl rfl rfl rfl ?_
 refine cw_rs fun _ κ => ?_
 refine as_h rfl (h_boxM hs rfl rfl fun b1 M1 w1 hs1 hb1 e1 => ?_)
 have hT:=hT.then hs1
 refine Sa rfl rfl ?_
 refine as_nil (κ _ _ ?_)
 refine cw_rs fun _ κ => ?_
 refine Sf 0 rfl (by kernel_rfl) rfl ?_
 refine Sc 1 rfl (by kernel_rfl) rfl (by exact BlkR.cells (hs1.sat _ _ _ hb1) rfl) ?_
 refine as_q rfl rfl (q_iface (by kernel_rfl) rfl) ?_
 refine as_h rfl (h_invoke (f := 89) (r := .agg #[.pointer q]) (by kernel_rfl) rfl rfl (by kernel_rfl) ?_)
 refine (hsh _ _ hT.le hs1.sat).mono ?_
 rintro _ w2 ⟨rfl, Ms2, hs2⟩
 have hT:=hT.then hs2
 refine Sa rfl rfl ?_
 refine as_nil (κ _ _ ?_)
 refine cw_ret ?_
 exact ⟨_, (res_tmp rfl res_nil), rfl, _, hT⟩
theorem hp_shows_a {w : World} {M : Mem} {q : Option Addr} {s : List UInt8} (hs : Sat M w) (hsh : SG 89 M (.agg #[.pointer q]) s) :
  Does Tryz.prog 31 #[.agg #[.iface 69 (.agg #[.pointer q])]] w (fun v w' => v = .string ⟨s.toArray⟩ ∧ ∃ M', Step Nope M w M' w') := by
 have hT := Step.refl Nope hs
 refine fn_enter Tryz.func31 rfl (rs := [.tmp 2]) rfl rfl rfl rfl ?_
 refine cw_rs fun _ κ => ?_
 refine as_h rfl (h_boxM hs rfl rfl fun b1 M1 w1 hs1 hb1 e1 => ?_)
 have hT:=hT.then hs1
 refine Sa rfl rfl ?_
 refine as_nil (κ _ _ ?_)
 refine cw_seq fun _ hK2 => ?_
 refine cw_rs fun _ κ => ?_
 refine Sf 0 rfl (by kernel_rfl) rfl ?_
 refine S1 rfl (by kernel_rfl) rfl (by exact BlkR.cell (hs1.sat _ _ _ hb1) rfl) ?_
 refine as_q rfl rfl (q_ifSome (by kernel_rfl) rfl) ?_
 refine as_nil (κ _ _ ?_)
 refine cw_false rfl ?_
 refine cw_skip ?_
 refine hK2 _ _ ?_
 refine cw_rs fun _ κ => ?_
 refine Sf 0 rfl (by kernel_rfl) rfl ?_
 refine S1 rfl (by kernel_rfl) rfl (by exact BlkR.cell (hs1.sat _ _ _ hb1) rfl) ?_
 refine as_h rfl (h_invoke (f := 94) (r := .agg #[.pointer q]) (by kernel_rfl) rfl rfl (by kernel_rfl) ?_)
 refine (wa_shows hs1.sat (hsh.mono hT.le)).mono ?_
 rintro _ w2 ⟨rfl, Ms2, hs2⟩
 have hT:=hT.then hs2
 refine Sa rfl rfl ?_
 refine as_nil (κ _ _ ?_)
 refine cw_ret ?_
 exact ⟨_, (res_tmp rfl res_nil), rfl, _, hT⟩
theorem wb_shows {w : World} {M : Mem} {q : Option Addr} {s : List UInt8} (hs : Sat M w) (hsh : SG 115 M (.agg #[.pointer q]) s) :
  Does Tryz.prog 159 #[.agg #[.pointer q]] w (fun v w' => v = .string ⟨s.toArray⟩ ∧ ∃ M', Step Nope M w M' w') := by
 have hT := Step.refl Nope hs
 refine fn_enter Tryz.func159 rfl (rs := [.tmp 2]) rfl rfl rfl rfl ?_
 refine cw_rs fun _ κ => ?_
 refine as_h rfl (h_boxM hs rfl rfl fun b1 M1 w1 hs1 hb1 e1 => ?_)
 have hT:=hT.then hs1
 refine Sa rfl rfl ?_
 refine as_nil (κ _ _ ?_)
 refine cw_rs fun _ κ => ?_
 refine Sf 0 rfl (by kernel_rfl) rfl ?_
 refine Sc 1 rfl (by kernel_rfl) rfl (by exact BlkR.cells (hs1.sat _ _ _ hb1) rfl) ?_
 refine as_q rfl rfl (q_iface (by kernel_rfl) rfl) ?_
 refine as_h rfl (h_invoke (f := 115) (r := .agg #[.pointer q]) (by kernel_rfl) rfl rfl (by kernel_rfl) ?_)
 refine (hsh _ _ hT.le hs1.sat).mono ?_
 rintro _ w2 ⟨rfl, Ms2, hs2⟩
 have hT:=hT.then hs2
 refine Sa rfl rfl ?_
 refine as_nil (κ _ _ ?_)
 refine cw_ret ?_
 exact ⟨_, (res_tmp rfl res_nil), rfl, _, hT⟩
theorem hp_shows_b {w : World} {M : Mem} {q : Option Addr} {s : List UInt8} (hs : Sat M w) (hsh : SG 115 M (.agg #[.pointer q]) s) :
  Does Tryz.prog 31 #[.agg #[.iface 76 (.agg #[.pointer q])]] w (fun v w' => v = .string ⟨s.toArray⟩ ∧ ∃ M', Step Nope M w M' w') := by
 have hT := Step.refl Nope hs
 refine fn_enter Tryz.func31 rfl (rs := [.tmp 2]) rfl rfl rfl rfl ?_
 refine cw_rs fun _ κ => ?_
 refine as_h rfl (h_boxM hs rfl rfl fun b1 M1 w1 hs1 hb1 e1 => ?_)
 have hT:=hT.then hs1
 refine Sa rfl rfl ?_
 refine as_nil (κ _ _ ?_)
 refine cw_seq fun _ hK2 => ?_
 refine cw_rs fun _ κ => ?_
 refine Sf 0 rfl (by kernel_rfl) rfl ?_
 refine S1 rfl (by kernel_rfl) rfl (by exact BlkR.cell (hs1.sat _ _ _ hb1) rfl) ?_
 refine as_q rfl rfl (q_ifSome (by kernel_rfl) rfl) ?_
 refine as_nil (κ _ _ ?_)
 refine cw_false rfl ?_
 refine cw_skip ?_
 refine hK2 _ _ ?_
 refine cw_rs fun _ κ => ?_
 refine Sf 0 rfl (by kernel_rfl) rfl ?_
 refine S1 rfl (by kernel_rfl) rfl (by exact BlkR.cell (hs1.sat _ _ _ hb1) rfl) ?_
 refine as_h rfl (h_invoke (f := 159) (r := .agg #[.pointer q]) (by kernel_rfl) rfl rfl (by kernel_rfl) ?_)
 refine (wb_shows hs1.sat (hsh.mono hT.le)).mono ?_
 rintro _ w2 ⟨rfl, Ms2, hs2⟩
 have hT:=hT.then hs2
 refine Sa rfl rfl ?_
 refine as_nil (κ _ _ ?_)
 refine cw_ret ?_
 exact ⟨_, (res_tmp rfl res_nil), rfl, _, hT⟩
theorem wc_shows {w : World} {M : Mem} {q : Option Addr} {s : List UInt8} (hs : Sat M w) (hsh : SG 165 M (.agg #[.pointer q]) s) :
  Does Tryz.prog 180 #[.agg #[.pointer q]] w (fun v w' => v = .string ⟨s.toArray⟩ ∧ ∃ M', Step Nope M w M' w') := by
 have hT := Step.refl Nope hs
 refine fn_enter Tryz.func180 rfl (rs := [.tmp 2]) rfl rfl rfl rfl ?_
 refine cw_rs fun _ κ => ?_
 refine as_h rfl (h_boxM hs rfl rfl fun b1 M1 w1 hs1 hb1 e1 => ?_)
 have hT:=hT.then hs1
 refine Sa rfl rfl ?_
 refine as_nil (κ _ _ ?_)
 refine cw_rs fun _ κ => ?_
 refine Sf 0 rfl (by kernel_rfl) rfl ?_
 refine Sc 1 rfl (by kernel_rfl) rfl (by exact BlkR.cells (hs1.sat _ _ _ hb1) rfl) ?_
 refine as_q rfl rfl (q_iface (by kernel_rfl) rfl) ?_
 refine as_h rfl (h_invoke (f := 165) (r := .agg #[.pointer q]) (by kernel_rfl) rfl rfl (by kernel_rfl) ?_)
 refine (hsh _ _ hT.le hs1.sat).mono ?_
 rintro _ w2 ⟨rfl, Ms2, hs2⟩
 have hT:=hT.then hs2
 refine Sa rfl rfl ?_
 refine as_nil (κ _ _ ?_)
 refine cw_ret ?_
 exact ⟨_, (res_tmp rfl res_nil), rfl, _, hT⟩
theorem hp_shows_c {w : World} {M : Mem} {q : Option Addr} {s : List UInt8} (hs : Sat M w) (hsh : SG 165 M (.agg #[.pointer q]) s) :
  Does Tryz.prog 31 #[.agg #[.iface 81 (.agg #[.pointer q])]] w (fun v w' => v = .string ⟨s.toArray⟩ ∧ ∃ M', Step Nope M w M' w') := by
 have hT := Step.refl Nope hs
 refine fn_enter Tryz.func31 rfl (rs := [.tmp 2]) rfl rfl rfl rfl ?_
 refine cw_rs fun _ κ => ?_
 refine as_h rfl (h_boxM hs rfl rfl fun b1 M1 w1 hs1 hb1 e1 => ?_)
 have hT:=hT.then hs1
 refine Sa rfl rfl ?_
 refine as_nil (κ _ _ ?_)
 refine cw_seq fun _ hK2 => ?_
 refine cw_rs fun _ κ => ?_
 refine Sf 0 rfl (by kernel_rfl) rfl ?_
 refine S1 rfl (by kernel_rfl) rfl (by exact BlkR.cell (hs1.sat _ _ _ hb1) rfl) ?_
 refine as_q rfl rfl (q_ifSome (by kernel_rfl) rfl) ?_
 refine as_nil (κ _ _ ?_)
 refine cw_false rfl ?_
 refine cw_skip ?_
 refine hK2 _ _ ?_
 refine cw_rs fun _ κ => ?_
 refine Sf 0 rfl (by kernel_rfl) rfl ?_
 refine S1 rfl (by kernel_rfl) rfl (by exact BlkR.cell (hs1.sat _ _ _ hb1) rfl) ?_
 refine as_h rfl (h_invoke (f := 180) (r := .agg #[.pointer q]) (by kernel_rfl) rfl rfl (by kernel_rfl) ?_)
 refine (wc_shows hs1.sat (hsh.mono hT.le)).mono ?_
 rintro _ w2 ⟨rfl, Ms2, hs2⟩
 have hT:=hT.then hs2
 refine Sa rfl rfl ?_
 refine as_nil (κ _ _ ?_)
 refine cw_ret ?_
 exact ⟨_, (res_tmp rfl res_nil), rfl, _, hT⟩
theorem wd_shows {w : World} {M : Mem} {q : Option Addr} {s : List UInt8} (hs : Sat M w) (hsh : SG 186 M (.agg #[.pointer q]) s) :
  Does Tryz.prog 201 #[.agg #[.pointer q]] w (fun v w' => v = .string ⟨s.toArray⟩ ∧ ∃ M', Step Nope M w M' w') := by
 have hT := Step.refl Nope hs
 refine fn_enter Tryz.func201 rfl (rs := [.tmp 2]) rfl rfl rfl rfl ?_
 refine cw_rs fun _ κ => ?_
 refine as_h rfl (h_boxM hs rfl rfl fun b1 M1 w1 hs1 hb1 e1 => ?_)
 have hT:=hT.then hs1
 refine Sa rfl rfl ?_
 refine as_nil (κ _ _ ?_)
 refine cw_rs fun _ κ => ?_
 refine Sf 0 rfl (by kernel_rfl) rfl ?_
 refine Sc 1 rfl (by kernel_rfl) rfl (by exact BlkR.cells (hs1.sat _ _ _ hb1) rfl) ?_
 refine as_q rfl rfl (q_iface (by kernel_rfl) rfl) ?_
 refine as_h rfl (h_invoke (f := 186) (r := .agg #[.pointer q]) (by kernel_rfl) rfl rfl (by kernel_rfl) ?_)
 refine (hsh _ _ hT.le hs1.sat).mono ?_
 rintro _ w2 ⟨rfl, Ms2, hs2⟩
 have hT:=hT.then hs2
 refine Sa rfl rfl ?_
 refine as_nil (κ _ _ ?_)
 refine cw_ret ?_
 exact ⟨_, (res_tmp rfl res_nil), rfl, _, hT⟩
theorem hp_shows_d {w : World} {M : Mem} {q : Option Addr} {s : List UInt8} (hs : Sat M w) (hsh : SG 186 M (.agg #[.pointer q]) s) :
  Does Tryz.prog 31 #[.agg #[.iface 85 (.agg #[.pointer q])]] w (fun v w' => v = .string ⟨s.toArray⟩ ∧ ∃ M', Step Nope M w M' w') := by
 have hT := Step.refl Nope hs
 refine fn_enter Tryz.func31 rfl (rs := [.tmp 2]) rfl rfl rfl rfl ?_
 refine cw_rs fun _ κ => ?_
 refine as_h rfl (h_boxM hs rfl rfl fun b1 M1 w1 hs1 hb1 e1 => ?_)
 have hT:=hT.then hs1
 refine Sa rfl rfl ?_
 refine as_nil (κ _ _ ?_)
 refine cw_seq fun _ hK2 => ?_
 refine cw_rs fun _ κ => ?_
 refine Sf 0 rfl (by kernel_rfl) rfl ?_
 refine S1 rfl (by kernel_rfl) rfl (by exact BlkR.cell (hs1.sat _ _ _ hb1) rfl) ?_
 refine as_q rfl rfl (q_ifSome (by kernel_rfl) rfl) ?_
 refine as_nil (κ _ _ ?_)
 refine cw_false rfl ?_
 refine cw_skip ?_
 refine hK2 _ _ ?_
 refine cw_rs fun _ κ => ?_
 refine Sf 0 rfl (by kernel_rfl) rfl ?_
 refine S1 rfl (by kernel_rfl) rfl (by exact BlkR.cell (hs1.sat _ _ _ hb1) rfl) ?_
 refine as_h rfl (h_invoke (f := 201) (r := .agg #[.pointer q]) (by kernel_rfl) rfl rfl (by kernel_rfl) ?_)
 refine (wd_shows hs1.sat (hsh.mono hT.le)).mono ?_
 rintro _ w2 ⟨rfl, Ms2, hs2⟩
 have hT:=hT.then hs2
 refine Sa rfl rfl ?_
 refine as_nil (κ _ _ ?_)
 refine cw_ret ?_
 exact ⟨_, (res_tmp rfl res_nil), rfl, _, hT⟩
theorem we_shows {w : World} {M : Mem} {q : Option Addr} {s : List UInt8} (hs : Sat M w) (hsh : SG 207 M (.agg #[.pointer q]) s) :
  Does Tryz.prog 214 #[.agg #[.pointer q]] w (fun v w' => v = .string ⟨s.toArray⟩ ∧ ∃ M', Step Nope M w M' w') := by
 have hT := Step.refl Nope hs
 refine fn_enter Tryz.func214 rfl (rs := [.tmp 2]) rfl rfl rfl rfl ?_
 refine cw_rs fun _ κ => ?_
 refine as_h rfl (h_boxM hs rfl rfl fun b1 M1 w1 hs1 hb1 e1 => ?_)
 have hT:=hT.then hs1
 refine Sa rfl rfl ?_
 refine as_nil (κ _ _ ?_)
 refine cw_rs fun _ κ => ?_
 refine Sf 0 rfl (by kernel_rfl) rfl ?_
 refine Sc 1 rfl (by kernel_rfl) rfl (by exact BlkR.cells (hs1.sat _ _ _ hb1) rfl) ?_
 refine as_q rfl rfl (q_iface (by kernel_rfl) rfl) ?_
 refine as_h rfl (h_invoke (f := 207) (r := .agg #[.pointer q]) (by kernel_rfl) rfl rfl (by kernel_rfl) ?_)
 refine (hsh _ _ hT.le hs1.sat).mono ?_
 rintro _ w2 ⟨rfl, Ms2, hs2⟩
 have hT:=hT.then hs2
 refine Sa rfl rfl ?_
 refine as_nil (κ _ _ ?_)
 refine cw_ret ?_
 exact ⟨_, (res_tmp rfl res_nil), rfl, _, hT⟩
theorem hp_shows_e {w : World} {M : Mem} {q : Option Addr} {s : List UInt8} (hs : Sat M w) (hsh : SG 207 M (.agg #[.pointer q]) s) :
  Does Tryz.prog 31 #[.agg #[.iface 90 (.agg #[.pointer q])]] w (fun v w' => v = .string ⟨s.toArray⟩ ∧ ∃ M', Step Nope M w M' w') := by
 have hT := Step.refl Nope hs
 refine fn_enter Tryz.func31 rfl (rs := [.tmp 2]) rfl rfl rfl rfl ?_
 refine cw_rs fun _ κ => ?_
 refine as_h rfl (h_boxM hs rfl rfl fun b1 M1 w1 hs1 hb1 e1 => ?_)
 have hT:=hT.then hs1
 refine Sa rfl rfl ?_
 refine as_nil (κ _ _ ?_)
 refine cw_seq fun _ hK2 => ?_
 refine cw_rs fun _ κ => ?_
 refine Sf 0 rfl (by kernel_rfl) rfl ?_
 refine S1 rfl (by kernel_rfl) rfl (by exact BlkR.cell (hs1.sat _ _ _ hb1) rfl) ?_
 refine as_q rfl rfl (q_ifSome (by kernel_rfl) rfl) ?_
 refine as_nil (κ _ _ ?_)
 refine cw_false rfl ?_
 refine cw_skip ?_
 refine hK2 _ _ ?_
 refine cw_rs fun _ κ => ?_
 refine Sf 0 rfl (by kernel_rfl) rfl ?_
 refine S1 rfl (by kernel_rfl) rfl (by exact BlkR.cell (hs1.sat _ _ _ hb1) rfl) ?_
 refine as_h rfl (h_invoke (f := 214) (r := .agg #[.pointer q]) (by kernel_rfl) rfl rfl (by kernel_rfl) ?_)
 refine (we_shows hs1.sat (hsh.mono hT.le)).mono ?_
 rintro _ w2 ⟨rfl, Ms2, hs2⟩
 have hT:=hT.then hs2
 refine Sa rfl rfl ?_
 refine as_nil (κ _ _ ?_)
 refine cw_ret ?_
 exact ⟨_, (res_tmp rfl res_nil), rfl, _, hT⟩
theorem wf_shows {w : World} {M : Mem} {q : Option Addr} {s : List UInt8} (hs : Sat M w) (hsh : SG 221 M (.agg #[.pointer q]) s) :
  Does Tryz.prog 265 #[.agg #[.pointer q]] w (fun v w' => v = .string ⟨s.toArray⟩ ∧ ∃ M', Step Nope M w M' w') := by
 have hT := Step.refl Nope hs
 refine fn_enter Tryz.func265 rfl (rs := [.tmp 2]) rfl rfl rfl rfl ?_
 refine cw_rs fun _ κ => ?_
 refine as_h rfl (h_boxM hs rfl rfl fun b1 M1 w1 hs1 hb1 e1 => ?_)
 have hT:=hT.then hs1
 refine Sa rfl rfl ?_
 refine as_nil (κ _ _ ?_)
 refine cw_rs fun _ κ => ?_
 refine Sf 0 rfl (by kernel_rfl) rfl ?_
 refine Sc 1 rfl (by kernel_rfl) rfl (by exact BlkR.cells (hs1.sat _ _ _ hb1) rfl) ?_
 refine as_q rfl rfl (q_iface (by kernel_rfl) rfl) ?_
 refine as_h rfl (h_invoke (f := 221) (r := .agg #[.pointer q]) (by kernel_rfl) rfl rfl (by kernel_rfl) ?_)
 refine (hsh _ _ hT.le hs1.sat).mono ?_
 rintro _ w2 ⟨rfl, Ms2, hs2⟩
 have hT:=hT.then hs2
 refine Sa rfl rfl ?_
 refine as_nil (κ _ _ ?_)
 refine cw_ret ?_
 exact ⟨_, (res_tmp rfl res_nil), rfl, _, hT⟩
theorem hp_shows_f {w : World} {M : Mem} {q : Option Addr} {s : List UInt8} (hs : Sat M w) (hsh : SG 221 M (.agg #[.pointer q]) s) :
  Does Tryz.prog 31 #[.agg #[.iface 95 (.agg #[.pointer q])]] w (fun v w' => v = .string ⟨s.toArray⟩ ∧ ∃ M', Step Nope M w M' w') := by
 have hT := Step.refl Nope hs
 refine fn_enter Tryz.func31 rfl (rs := [.tmp 2]) rfl rfl rfl rfl ?_
 refine cw_rs fun _ κ => ?_
 refine as_h rfl (h_boxM hs rfl rfl fun b1 M1 w1 hs1 hb1 e1 => ?_)
 have hT:=hT.then hs1
 refine Sa rfl rfl ?_
 refine as_nil (κ _ _ ?_)
 refine cw_seq fun _ hK2 => ?_
 refine cw_rs fun _ κ => ?_
 refine Sf 0 rfl (by kernel_rfl) rfl ?_
 refine S1 rfl (by kernel_rfl) rfl (by exact BlkR.cell (hs1.sat _ _ _ hb1) rfl) ?_
 refine as_q rfl rfl (q_ifSome (by kernel_rfl) rfl) ?_
 refine as_nil (κ _ _ ?_)
 refine cw_false rfl ?_
 refine cw_skip ?_
 refine hK2 _ _ ?_
 refine cw_rs fun _ κ => ?_
 refine Sf 0 rfl (by kernel_rfl) rfl ?_
 refine S1 rfl (by kernel_rfl) rfl (by exact BlkR.cell (hs1.sat _ _ _ hb1) rfl) ?_
 refine as_h rfl (h_invoke (f := 265) (r := .agg #[.pointer q]) (by kernel_rfl) rfl rfl (by kernel_rfl) ?_)
 refine (wf_shows hs1.sat (hsh.mono hT.le)).mono ?_
 rintro _ w2 ⟨rfl, Ms2, hs2⟩
 have hT:=hT.then hs2
 refine Sa rfl rfl ?_
 refine as_nil (κ _ _ ?_)
 refine cw_ret ?_
 exact ⟨_, (res_tmp rfl res_nil), rfl, _, hT⟩
theorem hp_show_ex {ns : List Int} {M : Mem} {k : Nat} {l : List El} {v0 : Value} (hn : ns.length = 20) (ht : TabM ns M) (h : HVal M k l v0) (hk : k ≠ 0) (hx : ∀ x ∈ l, ElOk x) (hz : l.length ≤ 1000) : ∃ s, SG 31 M (.agg #[v0]) s := by
 cases h with
 | z => exact absurd rfl hk
 | @a t q _ h hok hl =>
  have hm : ∀ x ∈ t.els, x ∈ l := fun x h2 => by rw [hl]; exact (srtE_perm _).mem_iff.2 h2
  have hlen : (t.els).length ≤ 1000 := by rw [hl, srtE_length] at hz; exact hz
  obtain ⟨s, _, hsh⟩ := l_show_ex hn t (fun x h2 => hx x (hm x h2)) (by have := t.els_size; omega)
  exact ⟨s, fun M1 w1 hle hs1 => hp_shows_a hs1 fun M2 w2 hle2 hs2 => by
   have hle := hle.trans hle2
   have hs1 := hs2
   exact hsh _ _ _ hs1 (ht.mono hle) (h.mono hle)⟩
 | @b t q _ h hok hl =>
  have hm : ∀ x ∈ RT.alls t, x ∈ l := fun x h2 => by rw [hl]; exact (srtE_perm _).mem_iff.2 h2
  have hlen : (RT.alls t).length ≤ 1000 := by rw [hl, srtE_length] at hz; exact hz
  obtain ⟨s, _, hsh, _⟩ := f_show_ex hn t (fun x h2 => hx x (hm x h2)) (by have := RT.alls_length t; omega)
  exact ⟨s, fun M1 w1 hle hs1 => hp_shows_b hs1 fun M2 w2 hle2 hs2 => by
   have hle := hle.trans hle2
   have hs1 := hs2
   exact hsh _ _ _ hs1 (ht.mono hle) (h.mono' EncE.mono hle)⟩
 | @c t q _ h hok hl =>
  have hm : ∀ x ∈ t.els, x ∈ l := fun x h2 => by rw [hl]; exact (srtE_perm _).mem_iff.2 h2
  have hlen : (t.els).length ≤ 1000 := by rw [hl, srtE_length] at hz; exact hz
  by_cases h0 : t = .nil
  ·
   subst h0
   obtain rfl := prep_nil.1 h
   exact ⟨[46], fun M1 w1 hle hs1 => hp_shows_c hs1 fun M2 w2 hle2 hs2 => p_show_0 hs2⟩
  obtain ⟨s, _, hsh⟩ := p_show_ex hn t h0 (fun x h2 => hx x (hm x h2)) (by have := t.els_size; omega)
  exact ⟨s, fun M1 w1 hle hs1 => hp_shows_c hs1 fun M2 w2 hle2 hs2 => by
   have hle := hle.trans hle2
   have hs1 := hs2
   exact hsh _ _ _ hs1 (ht.mono hle) (h.mono hle)⟩
 | @d t q _ h hok hl =>
  have hm : ∀ x ∈ RT.alls t, x ∈ l := fun x h2 => by rw [hl]; exact (srtE_perm _).mem_iff.2 h2
  have hlen : (RT.alls t).length ≤ 1000 := by rw [hl, srtE_length] at hz; exact hz
  obtain ⟨s, _, _, hsh⟩ := f_show_ex hn t (fun x h2 => hx x (hm x h2)) (by have := RT.alls_length t; omega)
  exact ⟨s, fun M1 w1 hle hs1 => hp_shows_d hs1 fun M2 w2 hle2 hs2 => by
   have hle := hle.trans hle2
   have hs1 := hs2
   exact hsh _ _ _ hs1 (ht.mono hle) (h.mono' EncE.mono hle)⟩
 | @e t q _ h hok hl =>
  have hm : ∀ x ∈ t.els, x ∈ l := fun x h2 => by rw [hl]; exact (srtE_perm _).mem_iff.2 h2
  have hlen : (t.els).length ≤ 1000 := by rw [hl, srtE_length] at hz; exact hz
  obtain ⟨s, hsh⟩ := r_show_ex hn t (fun x h2 => hx x (hm x h2)) (by have := t.els_size; omega)
  exact ⟨s, fun M1 w1 hle hs1 => hp_shows_e hs1 fun M2 w2 hle2 hs2 => by
   have hle := hle.trans hle2
   have hs1 := hs2
   exact hsh _ _ _ hs1 (ht.mono hle) (h.mono hle)⟩
 | @f t q _ h hok hl =>
  have hm : ∀ x ∈ t.els, x ∈ l := fun x h2 => by rw [hl]; exact (srtE_perm _).mem_iff.2 h2
  have hlen : (t.els).length ≤ 1000 := by rw [hl, srtE_length] at hz; exact hz
  by_cases h0 : t = .nil
  ·
   subst h0
   obtain rfl := brep_nil.1 h
   exact ⟨[46], fun M1 w1 hle hs1 => hp_shows_f hs1 fun M2 w2 hle2 hs2 => bo_show_0 hs2⟩
  obtain ⟨s, _, hsh⟩ := bo_show_ex hn 1000 t h0 hok (by omega) (by omega) (fun x h2 => hx x (hm x h2))
  exact ⟨s, fun M1 w1 hle hs1 => hp_shows_f hs1 fun M2 w2 hle2 hs2 => by
   have hle := hle.trans hle2
   have hs1 := hs2
   exact hsh _ _ _ hs1 (ht.mono hle) (h.mono hle)⟩
end Go.Proofs.YtgcgjpfjjgalmaaGreat
/- The library s locks of one goroutine, part 1. -/
namespace Go.Proofs.YtgcgjpfjjgalmaaGreat
open Go Go.Eng
theorem bool_load0 {w : World} {M : Mem} {b o : Nat} (hs : Sat M w) (hc : w.cell? ⟨b, o, none⟩ = some (.int .u32 0)) :
  Does Tryz.prog 44 #[.pointer (some ⟨b, o, none⟩)] w (fun v w' => v = .bool false ∧ Step Nope M w M w') := by
 have hT := Step.refl Nope hs
 refine fn_enter Tryz.func44 rfl (rs := [.tmp 2]) rfl rfl rfl rfl ?_
 refine cw_rs fun _ κ => ?_
 refine Sa rfl rfl ?_
 refine as_nil (κ _ _ ?_)
 refine cw_rs fun _ κ => ?_
 refine Sm rfl rfl ?_
 refine as_q rfl rfl (q_nilp rfl) ?_
 refine Sf 0 rfl (by kernel_rfl) rfl ?_
 refine as_h rfl (h_extern rfl (run_call_load Tryz.func48 (by kernel_rfl) (by kernel_rfl) (by kernel_rfl) .u32 (by kernel_rfl) hc) ?_)
 refine as_q rfl rfl (q_neF rfl rfl (by omega)) ?_
 refine Sa rfl rfl ?_
 refine as_nil (κ _ _ ?_)
 refine cw_ret ?_
 exact ⟨_, (res_tmp rfl res_nil), rfl, hT⟩
theorem bool_load1 {w : World} {M : Mem} {b o : Nat} (hs : Sat M w) (hc : w.cell? ⟨b, o, none⟩ = some (.int .u32 1)) :
  Does Tryz.prog 44 #[.pointer (some ⟨b, o, none⟩)] w (fun v w' => v = .bool true ∧ Step Nope M w M w') := by
 have hT := Step.refl Nope hs
 refine fn_enter Tryz.func44 rfl (rs := [.tmp 2]) rfl rfl rfl rfl ?_
 refine cw_rs fun _ κ => ?_
 refine Sa rfl rfl ?_
 refine as_nil (κ _ _ ?_)
 refine cw_rs fun _ κ => ?_
 refine Sm rfl rfl ?_
 refine as_q rfl rfl (q_nilp rfl) ?_
 refine Sf 0 rfl (by kernel_rfl) rfl ?_
 refine as_h rfl (h_extern rfl (run_call_load Tryz.func48 (by kernel_rfl) (by kernel_rfl) (by kernel_rfl) .u32 (by kernel_rfl) hc) ?_)
 refine as_q rfl rfl (q_neT rfl rfl (by omega)) ?_
 refine Sa rfl rfl ?_
 refine as_nil (κ _ _ ?_)
 refine cw_ret ?_
 exact ⟨_, (res_tmp rfl res_nil), rfl, hT⟩
theorem int_load {w : World} {M : Mem} {b o : Nat} {x : Int} (hs : Sat M w) (hc : w.cell? ⟨b, o, none⟩ = some (.int .i32 x)) :
  Does Tryz.prog 35 #[.pointer (some ⟨b, o, none⟩)] w (fun v w' => v = .int .i32 x ∧ Step Nope M w M w') := by
 have hT := Step.refl Nope hs
 refine fn_enter Tryz.func35 rfl (rs := [.tmp 2]) rfl rfl rfl rfl ?_
 refine cw_rs fun _ κ => ?_
 refine Sa rfl rfl ?_
 refine as_nil (κ _ _ ?_)
 refine cw_rs fun _ κ => ?_
 refine Sm rfl rfl ?_
 refine as_q rfl rfl (q_nilp rfl) ?_
 refine Sf 0 rfl (by kernel_rfl) rfl ?_
 refine as_h rfl (h_extern rfl (run_call_load Tryz.func43 (by kernel_rfl) (by kernel_rfl) (by kernel_rfl) .i32 (by kernel_rfl) hc) ?_)
 refine Sa rfl rfl ?_
 refine as_nil (κ _ _ ?_)
 refine cw_ret ?_
 exact ⟨_, (res_tmp rfl res_nil), rfl, hT⟩
theorem int_add {w : World} {M : Mem} {b o T : Nat} {cs : List Value} (hs : Sat M w) (ho : Own w M b cs T) (hc : cs[o]? = some (.int .i32 0)) :
  Does Tryz.prog 46 #[.pointer (some ⟨b, o, none⟩), .int .i32 1] w (fun _ w' => Step (Just b) M w M w' ∧ Own w' M b (cs.set o (.int .i32 1)) T) := by
 have hT := Step.refl (Just b) hs
 refine fn_enter Tryz.func46 rfl (rs := [.tmp 4]) rfl rfl rfl rfl ?_
 refine cw_rs fun _ κ => ?_
 refine Sa rfl rfl ?_
 refine as_nil (κ _ _ ?_)
 refine cw_rs fun _ κ => ?_
 refine Sm rfl rfl ?_
 refine as_q rfl rfl (q_nilp rfl) ?_
 refine Sf 0 rfl (by kernel_rfl) rfl ?_
 refine Sm rfl rfl ?_
 refine as_h rfl (h_externO hs ho rfl (run_call_add Tryz.func52 (by kernel_rfl) (by kernel_rfl) (by kernel_rfl) .i32 (by kernel_rfl) (ho.at hc) (ho.1.free _) (s := 1) rfl) fun w1 hs1 ho1 => ?_)
 clear ho; have ho := ho1; clear ho1
 have hT:=hT.also hs1
 refine Sa rfl rfl ?_
 refine as_nil (κ _ _ ?_)
 refine cw_ret ?_
 exact ⟨_, (res_tmp rfl res_nil), hT, ho⟩
theorem lock_in {w : World} {M : Mem} {b o T : Nat} {cs : List Value} (hs : Sat M w) (ho : Own w M b cs T) (hc : cs[o]? = some (.int .i32 0)) :
  Does Tryz.prog 53 #[.pointer (some ⟨b, o, none⟩)] w (fun _ w' => Step (Just b) M w M w' ∧ Own w' M b (cs.set o (.int .i32 1)) T) := by
 have hT := Step.refl (Just b) hs
 refine fn_enter Tryz.func53 rfl (rs := []) rfl rfl rfl rfl ?_
 refine cw_rs fun _ κ => ?_
 refine as_h rfl (h_extern rfl (run_call_mark0 Tryz.func57 (by kernel_rfl) (by kernel_rfl) (by kernel_rfl) .disable (by kernel_rfl) _) ?_)
 refine as_nil (κ _ _ ?_)
 refine cw_seq fun _ hK2 => ?_
 refine cw_rs fun _ κ => ?_
 refine Sm rfl rfl ?_
 refine as_q rfl rfl (q_nilp rfl) ?_
 refine Sf 0 rfl (by kernel_rfl) rfl ?_
 refine as_h rfl (h_externO hs ho rfl (run_call_cas_hit Tryz.func58 (by kernel_rfl) (by kernel_rfl) (by kernel_rfl) .i32 (by kernel_rfl) (ho.at hc) (ho.1.free _)) fun w2 hs2 ho2 => ?_)
 clear ho; have ho := ho2; clear ho2
 have hT:=hT.also hs2
 refine as_nil (κ _ _ ?_)
 refine cw_true rfl ?_
 refine cw_seq fun _ hK4 => ?_
 refine cw_true rfl ?_
 refine cw_rs fun _ κ => ?_
 refine as_h rfl (h_extern rfl (run_call_mark0 Tryz.func59 (by kernel_rfl) (by kernel_rfl) (by kernel_rfl) .enable (by kernel_rfl) _) ?_)
 refine as_nil (κ _ _ ?_)
 refine cw_region fun _ κ => ?_
 have hlt : o < cs.length := (List.getElem?_eq_some_iff.1 hc).1
 have hcc : (cs.set o (.int .i32 1))[o]? = some (.int .i32 1) := List.getElem?_set_self hlt
 refine Sm rfl rfl ?_
 refine as_q rfl rfl (q_unsafe (t := 107) Tryz.underlying140 Tryz.underlying143 (by kernel_rfl) rfl (ho.at hcc)) ?_
 refine as_h rfl (h_extern rfl (run_call_marked Tryz.func60 (by kernel_rfl) (by kernel_rfl) (by kernel_rfl) .acquire (by kernel_rfl) _ _) ?_)
 refine as_nil (κ _ _ ?_)
 refine hK4 _ _ ?_
 refine cw_ret ?_
 exact ⟨_, res_nil, hT, ho⟩
theorem lock {w : World} {M : Mem} {b o T : Nat} {cs : List Value} (hs : Sat M w) (ho : Own w M b cs T) (hc : cs[o]? = some (.int .i32 0)) :
  Does Tryz.prog 49 #[.pointer (some ⟨b, o, none⟩)] w (fun _ w' => Step (Just b) M w M w' ∧ Own w' M b (cs.set o (.int .i32 1)) T) := by
 have hT := Step.refl (Just b) hs
 refine fn_enter Tryz.func49 rfl (rs := []) rfl rfl rfl rfl ?_
 refine cw_region fun _ κ => ?_
 refine Sm rfl rfl ?_
 refine as_q rfl rfl (q_nilp rfl) ?_
 refine Sf 0 rfl (by kernel_rfl) rfl ?_
 refine as_h rfl (h_call (by kernel_rfl) rfl ?_)
 refine (lock_in hs ho hc).mono ?_
 rintro _ w1 ⟨hs1, ho1⟩
 clear ho; have ho := ho1; clear ho1
 have hT:=hT.also hs1
 refine as_nil (κ _ _ ?_)
 exact ⟨_, res_nil, hT, ho⟩
theorem unlock_in {w : World} {M : Mem} {b o T : Nat} {cs : List Value} (hs : Sat M w) (ho : Own w M b cs T) (hc : cs[o]? = some (.int .i32 1)) :
  Does Tryz.prog 54 #[.pointer (some ⟨b, o, none⟩)] w (fun _ w' => Step (Just b) M w M w' ∧ Own w' M b (cs.set o (.int .i32 0)) T) := by
 have hT := Step.refl (Just b) hs
 refine fn_enter Tryz.func54 rfl (rs := []) rfl rfl rfl rfl ?_
 refine cw_seq fun _ hK1 => ?_
 refine cw_true rfl ?_
 refine cw_rs fun _ κ => ?_
 refine Sm rfl rfl ?_
 refine as_q rfl rfl (q_nilp rfl) ?_
 refine Sf 0 rfl (by kernel_rfl) rfl ?_
 refine S1 rfl (by kernel_rfl) rfl (ho.at hc) ?_
 refine as_nil (κ _ _ ?_)
 refine cw_rs fun _ κ => ?_
 refine Sm rfl rfl ?_
 refine as_q rfl rfl (q_unsafe (t := 107) Tryz.underlying140 Tryz.underlying143 (by kernel_rfl) rfl (ho.at hc)) ?_
 refine as_h rfl (h_extern rfl (run_call_marked Tryz.func62 (by kernel_rfl) (by kernel_rfl) (by kernel_rfl) .releaseMerge (by kernel_rfl) _ _) ?_)
 refine as_nil (κ _ _ ?_)
 refine cw_region fun _ κ => ?_
 refine as_h rfl (h_extern rfl (run_call_mark0 Tryz.func57 (by kernel_rfl) (by kernel_rfl) (by kernel_rfl) .disable (by kernel_rfl) _) ?_)
 refine as_nil (κ _ _ ?_)
 refine hK1 _ _ ?_
 refine cw_rs fun _ κ => ?_
 refine Sm rfl rfl ?_
 refine as_q rfl rfl (q_nilp rfl) ?_
 refine Sf 0 rfl (by kernel_rfl) rfl ?_
 refine as_h rfl (h_externO hs ho rfl (run_call_add Tryz.func52 (by kernel_rfl) (by kernel_rfl) (by kernel_rfl) .i32 (by kernel_rfl) (ho.at hc) (ho.1.free _) (s := 0) rfl) fun w3 hs3 ho3 => ?_)
 clear ho; have ho := ho3; clear ho3
 have hT:=hT.also hs3
 refine Sa rfl rfl ?_
 refine as_nil (κ _ _ ?_)
 refine cw_seq fun _ hK6 => ?_
 refine cw_rs fun _ κ => ?_
 refine Sm rfl rfl ?_
 refine as_q rfl rfl (q_neF rfl rfl (by omega)) ?_
 refine as_nil (κ _ _ ?_)
 refine cw_false rfl ?_
 refine cw_skip ?_
 refine hK6 _ _ ?_
 refine cw_region fun _ κ => ?_
 refine as_h rfl (h_extern rfl (run_call_mark0 Tryz.func59 (by kernel_rfl) (by kernel_rfl) (by kernel_rfl) .enable (by kernel_rfl) _) ?_)
 refine as_nil (κ _ _ ?_)
 exact ⟨_, res_nil, hT, ho⟩
theorem unlock {w : World} {M : Mem} {b o T : Nat} {cs : List Value} (hs : Sat M w) (ho : Own w M b cs T) (hc : cs[o]? = some (.int .i32 1)) :
  DoesU Tryz.prog 50 #[.pointer (some ⟨b, o, none⟩)] w (fun _ w' => Step (Just b) M w M w' ∧ Own w' M b (cs.set o (.int .i32 0)) T) := by
 have hT := Step.refl (Just b) hs
 refine fn_enterU Tryz.func50 rfl (rs := []) rfl rfl rfl rfl ?_
 refine cw_region fun _ κ => ?_
 refine Sm rfl rfl ?_
 refine as_q rfl rfl (q_nilp rfl) ?_
 refine Sf 0 rfl (by kernel_rfl) rfl ?_
 refine as_h rfl (h_call (by kernel_rfl) rfl ?_)
 refine (unlock_in hs ho hc).mono ?_
 rintro _ w1 ⟨hs1, ho1⟩
 clear ho; have ho := ho1; clear ho1
 have hT:=hT.also hs1
 refine as_nil (κ _ _ ?_)
 exact ⟨_, res_nil, hT, ho⟩
theorem b32 {w : World} {M : Mem} (hs : Sat M w) :
  Does Tryz.prog 56 #[.bool true] w (fun v w' => v = .int .u32 1 ∧ Step Nope M w M w') := by
 have hT := Step.refl Nope hs
 refine fn_enter Tryz.func56 rfl (rs := [.tmp 2]) rfl rfl rfl rfl ?_
 refine cw_rs fun _ κ => ?_
 refine Sa rfl rfl ?_
 refine as_nil (κ _ _ ?_)
 refine cw_seq fun _ hK2 => ?_
 refine cw_rs fun _ κ => ?_
 refine Sm rfl rfl ?_
 refine as_nil (κ _ _ ?_)
 refine cw_true rfl ?_
 refine cw_rs fun _ κ => ?_
 refine Sa rfl rfl ?_
 refine as_nil (κ _ _ ?_)
 refine cw_ret ?_
 exact ⟨_, (res_tmp rfl res_nil), rfl, hT⟩
theorem bool_store {w : World} {M : Mem} {b o T : Nat} {cs : List Value} (hs : Sat M w) (ho : Own w M b cs T) {u : Value} (hc : cs[o]? = some u) :
  DoesU Tryz.prog 51 #[.pointer (some ⟨b, o, none⟩), .bool true] w (fun _ w' => Step (Just b) M w M w' ∧ Own w' M b (cs.set o (.int .u32 1)) T) := by
 have hT := Step.refl (Just b) hs
 refine fn_enterU Tryz.func51 rfl (rs := []) rfl rfl rfl rfl ?_
 refine cw_drawn (by kernel_rfl) (by kernel_rfl) (by kernel_rfl) rfl rfl fun K1 hK1 => ?_
 have hs1 := Step.drew hs
 have ho:=ho.then hs1
 have hT:=hT.then hs1
 refine Dm 0 1 rfl (by kernel_rfl) rfl ?_
 refine Dq 1 3 rfl (by kernel_rfl) (fun _ => (q_nilp rfl)) ?_
 refine Df 2 7 0 rfl (by kernel_rfl) (by kernel_rfl) rfl ?_
 refine Dm 3 15 rfl (by kernel_rfl) rfl ?_
 refine Dh 4 31 rfl (by kernel_rfl) rfl (h_call (by kernel_rfl) rfl ?_)
 refine (b32 hs1.sat).mono ?_
 rintro _ w2 ⟨rfl, hs2⟩
 have ho:=ho.then hs2
 have hT:=hT.then hs2
 refine ⟨trivial, ?_⟩
 refine Dh 5 63 rfl (by kernel_rfl) rfl (h_externO hs2.sat ho rfl (run_call_store Tryz.func55 (by kernel_rfl) (by kernel_rfl) (by kernel_rfl) (by kernel_rfl) (ho.at hc) (ho.1.free _)) fun w3 hs3 ho3 => ?_)
 clear ho; have ho := ho3; clear ho3
 have hT:=hT.also hs3
 refine ⟨trivial, ?_⟩
 refine Dd (by kernel_rfl) (hK1 _ _ ?_)
 exact ⟨_, res_nil, hT, ho⟩
end Go.Proofs.YtgcgjpfjjgalmaaGreat
/- The elements of a heap, told one by one, part 1. -/
namespace Go.Proofs.YtgcgjpfjjgalmaaGreat
open Go Go.Eng
def elV (e : El) : Value := .agg (elc e).toArray
theorem dr_each {w : World} {M : Mem} {k : Nat} {l : List El} {v : Value} {z : Int} (hs : Sat M w) (h : HVal M k l v) :
  Does Tryz.prog 33 #[.pointer none, .agg #[v], .int .i64 z] w (fun r w' => ∃ b1 b2 b3 M', r = .func (.func 42) #[] #[.pointer (some ⟨b1, 0, none⟩), .pointer (some ⟨b2, 0, none⟩), .pointer (some ⟨b3, 0, none⟩)] ∧ Step Nope M w M' w' ∧ M' b1 = some ([.int .i64 z], 3) ∧ Own w' M' b2 [v] 29 ∧ M' b3 = some ([.pointer none], 63) ∧ w.heap.size ≤ b2) := by
 have hT := Step.refl Nope hs
 obtain h0 | ⟨d0, u0, hv0⟩ : v = .nilIface ∨ ∃ d u, v = .iface d u := by
  cases h <;> simp
 ·
  subst h0
  refine fn_enter Tryz.func33 rfl (rs := [.tmp 6]) rfl rfl rfl rfl ?_
  refine cw_rs fun _ κ => ?_
  refine as_h rfl (h_boxM hs rfl rfl fun b1 M1 w1 hs1 hb1 e1 => ?_)
  have h:=h.mono hs1.le
  have hT:=hT.then hs1
  have hz1 := hs1.size
  have hqah := hT.size
  refine as_h rfl (h_boxO hs1.sat rfl rfl fun bh w2 hs2 hoh eh => ?_)
  have h:=h.mono hs2.le
  have hb1:=hs2.le _ _ hb1
  have hT:=hT.then hs2
  have hz2 := hs2.size
  have hlh := hoh.1.lt
  refine as_h rfl (h_boxM hs2.sat rfl rfl fun b3 M3 w3 hs3 hb3 e3 => ?_)
  have h:=h.mono hs3.le
  have hb1:=hs3.le _ _ hb1
  have hoh:=hoh.then hs3
  have hT:=hT.then hs3
  have hz3 := hs3.size
  refine Sa rfl rfl ?_
  refine as_nil (κ _ _ ?_)
  refine cw_rs fun _ κ => ?_
  refine as_q rfl rfl (q_func rfl rfl) ?_
  refine Sa rfl rfl ?_
  refine as_nil (κ _ _ ?_)
  refine cw_ret ?_
  refine ⟨_, (res_tmp rfl res_nil), _, _, _, _, rfl, hT, hb3, hoh, hb1, by omega⟩
 ·
  subst hv0
  refine fn_enter Tryz.func33 rfl (rs := [.tmp 6]) rfl rfl rfl rfl ?_
  refine cw_rs fun _ κ => ?_
  refine as_h rfl (h_boxM hs rfl rfl fun b1 M1 w1 hs1 hb1 e1 => ?_)
  have h:=h.mono hs1.le
  have hT:=hT.then hs1
  have hz1 := hs1.size
  have hqah := hT.size
  refine as_h rfl (h_boxO hs1.sat rfl rfl fun bh w2 hs2 hoh eh => ?_)
  have h:=h.mono hs2.le
  have hb1:=hs2.le _ _ hb1
  have hT:=hT.then hs2
  have hz2 := hs2.size
  have hlh := hoh.1.lt
  refine as_h rfl (h_boxM hs2.sat rfl rfl fun b3 M3 w3 hs3 hb3 e3 => ?_)
  have h:=h.mono hs3.le
  have hb1:=hs3.le _ _ hb1
  have hoh:=hoh.then hs3
  have hT:=hT.then hs3
  have hz3 := hs3.size
  refine Sa rfl rfl ?_
  refine as_nil (κ _ _ ?_)
  refine cw_rs fun _ κ => ?_
  refine as_q rfl rfl (q_func rfl rfl) ?_
  refine Sa rfl rfl ?_
  refine as_nil (κ _ _ ?_)
  refine cw_ret ?_
  refine ⟨_, (res_tmp rfl res_nil), _, _, _, _, rfl, hT, hb3, hoh, hb1, by omega⟩
set_option maxRecDepth 2000 in
theorem dr_each1 {w : World} {M : Mem} {k b1 b2 b3 : Nat} {l : List El} {v : Value} {z : Int} (hb1 : M b1 = some ([.int .i64 z], 3)) (ho : Own w M b2 [v] 29) (hb3 : M b3 = some ([.pointer none], 63)) (hv : HVal M k l v) (hz0 : 0 ≤ z) (hlz : l.length < 1000000000) (hz9 : z ≤ 9223372036854775807) :
  IterOk Tryz.prog 42 [.pointer (some ⟨b1, 0, none⟩), .pointer (some ⟨b2, 0, none⟩), .pointer (some ⟨b3, 0, none⟩)] (Just b2) ((l.take z.toNat).map elV) M w := by
 intro r J M0 W0 h0 hW habide hround hJ
 have hb1:=h0.le _ _ hb1
 have hb3:=h0.le _ _ hb3
 have hv:=hv.mono h0.le
 have ho:=ho.step h0 (fun h => h rfl)
 refine fn_enter Tryz.func42 rfl (rs := []) rfl rfl rfl rfl ?_
 refine cw_rs fun _ κ => ?_
 refine Sa rfl rfl ?_
 refine as_nil (κ _ _ ?_)
 refine cw_block ?_
 refine cw_loop (fun mm l1 wL => ∃ (i : Nat) (q : List El) (v : Value) (M1 : Mem), mm = l.length - i ∧ i ≤ l.length ∧ (i : Int) ≤ z ∧ ((i : Int) < z → q = l.drop i) ∧ q.length ≤ l.length ∧ l1 = [(0, .func (.yield r) #[] #[]), (1, .pointer (some ⟨b1, 0, none⟩)), (2, .pointer (some ⟨b2, 0, none⟩)), (3, .pointer (some ⟨b3, 0, none⟩)), (5, .int .i64 i)] ∧ Le M0 M1 ∧ Sat M1 wL ∧ J i M1 wL ∧ HVal M1 k q v ∧ Own wL M1 b2 [v] 29) (l.length) [(0, .func (.yield r) #[] #[]), (1, .pointer (some ⟨b1, 0, none⟩)), (2, .pointer (some ⟨b2, 0, none⟩)), (3, .pointer (some ⟨b3, 0, none⟩)), (5, .int .i64 (0 : Nat))] (.cons rfl (.cons rfl (.cons rfl (.cons rfl (.cons rfl (.nil _)))))) ?_ ?_
 ·
  exact ⟨0, l, v, M0, rfl, Nat.zero_le _, by omega, fun _ => rfl, Nat.le_refl _, rfl, Le.refl _, h0.sat, hJ, hv, ho⟩
 clear hJ hv ho
 rintro mm l1 wL ⟨i, q, v, M1, rfl, hi, hiz, hq, hql, rfl, hle, hst, hJ, hv, ho⟩
 have hT := Step.refl (Just b2) hst
 have hb1 := hle _ _ hb1
 have hb3 := hle _ _ hb3
 refine cw_seq fun _ hK2 => ?_
 have hcs : z ≤ i ∨ ((i : Int) < z ∧ q = []) ∨ ((i : Int) < z ∧ ∃ y q2, q = y :: q2) := by
  rcases Int.lt_or_le i z with h | h
  ·
   cases q with
   | nil => exact .inr (.inl ⟨h, rfl⟩)
   | cons y q2 => exact .inr (.inr ⟨h, y, q2, rfl⟩)
  · exact .inl h
 rcases hcs with hA | ⟨hA, rfl⟩ | ⟨hA, y, q2, rfl⟩
 ·
  skip
  refine cw_rs fun _ κ => ?_
  refine Sm rfl rfl ?_
  refine S1 rfl (by kernel_rfl) rfl (by exact BlkR.cell (hst _ _ _ hb1) rfl) ?_
  refine as_q rfl rfl (q_ltF rfl rfl (by omega)) ?_
  refine Sm rfl rfl ?_
  refine as_gskip rfl rfl rfl rfl rfl ?_
  refine as_gskip rfl rfl rfl rfl rfl ?_
  refine as_gskip rfl rfl rfl rfl rfl ?_
  refine as_q rfl rfl (q_pick_f rfl rfl) ?_
  refine as_nil (κ _ _ ?_)
  refine cw_false rfl ?_
  refine cw_exit ?_
  have e : i = (((l.take z.toNat).map elV)).length := by
   rw [List.length_map, List.length_take]
   omega
  exact ⟨_, res_nil, _, hT.sat, hle.trans hT.le, by rw [← e]; exact habide _ _ _ _ _ hJ hT⟩
 ·
  have hdn := hq hA
  refine cw_rs fun _ κ => ?_
  refine Sm rfl rfl ?_
  refine S1 rfl (by kernel_rfl) rfl (by exact BlkR.cell (hst _ _ _ hb1) rfl) ?_
  refine as_q rfl rfl (q_ltT rfl rfl (by omega)) ?_
  refine Sm rfl rfl ?_
  refine as_gh rfl rfl rfl rfl (h_q rfl (q_loadc (n := 1) (by kernel_rfl) rfl (by exact Blk.cells ho.1 rfl)) ?_)
  refine as_gh rfl rfl rfl rfl (h_call (by kernel_rfl) rfl ?_)
  refine (hp_size hst hv (by omega)).mono ?_
  rintro _ w1 ⟨rfl, hs1⟩
  have hv:=hv.mono hs1.le
  have ho:=ho.then hs1
  have hb1:=hs1.le _ _ hb1
  have hb3:=hs1.le _ _ hb3
  have hT:=hT.then hs1
  have hz1 := hs1.size
  refine as_gh rfl rfl rfl rfl (h_q rfl (q_gtF rfl rfl (by simp)) ?_)
  refine as_q rfl rfl (q_pick_t rfl rfl) ?_
  refine as_nil (κ _ _ ?_)
  refine cw_false rfl ?_
  refine cw_exit ?_
  have e : i = (((l.take z.toNat).map elV)).length := by
   rw [List.length_map, List.length_take]
   have h1 := List.drop_eq_nil_iff.1 hdn.symm
   omega
  exact ⟨_, res_nil, _, hT.sat, hle.trans hT.le, by rw [← e]; exact habide _ _ _ _ _ hJ hT⟩
 ·
  have hdn := hq hA
  have hil : i < l.length := by
   rcases Nat.lt_or_ge i l.length with h | h
   · exact h
   · rw [List.drop_eq_nil_of_le h] at hdn; cases hdn
  have hdc := List.drop_eq_getElem_cons hil
  rw [← hdn] at hdc
  obtain ⟨hy, hq2⟩ := List.cons.inj hdc
  subst hq2
  have hy1 : l[i]? = some y := by rw [hy]; exact List.getElem?_eq_getElem hil
  have hk0 : k ≠ 0 := by rintro rfl; cases hv.zero.1
  have hfe : fullE k (y :: l.drop (i + 1)) = 0 := by unfold fullE; rw [if_neg hk0, if_neg (by simp)]
  refine cw_rs fun _ κ => ?_
  refine Sm rfl rfl ?_
  refine S1 rfl (by kernel_rfl) rfl (by exact BlkR.cell (hst _ _ _ hb1) rfl) ?_
  refine as_q rfl rfl (q_ltT rfl rfl (by omega)) ?_
  refine Sm rfl rfl ?_
  refine as_gh rfl rfl rfl rfl (h_q rfl (q_loadc (n := 1) (by kernel_rfl) rfl (by exact Blk.cells ho.1 rfl)) ?_)
  refine as_gh rfl rfl rfl rfl (h_call (by kernel_rfl) rfl ?_)
  refine (hp_size hst hv (by omega)).mono ?_
  rintro _ w2 ⟨rfl, hs2⟩
  have hv:=hv.mono hs2.le
  have ho:=ho.then hs2
  have hb1:=hs2.le _ _ hb1
  have hb3:=hs2.le _ _ hb3
  have hT:=hT.then hs2
  have hz2 := hs2.size
  refine as_gh rfl rfl rfl rfl (h_q rfl (q_gtT rfl rfl (by simp only [List.length_cons]; omega)) ?_)
  refine as_q rfl rfl (q_pick_t rfl rfl) ?_
  refine as_nil (κ _ _ ?_)
  refine cw_true rfl ?_
  refine cw_skip ?_
  refine hK2 _ _ ?_
  refine cw_seq fun _ hK6 => ?_
  refine cw_block ?_
  refine cw_rs fun _ κ => ?_
  refine Sc 1 rfl (by kernel_rfl) rfl (by exact Blk.cells ho.1 rfl) ?_
  refine S1 rfl (by kernel_rfl) rfl (by exact BlkR.cell (hs2.sat _ _ _ hb3) rfl) ?_
  refine as_h rfl (h_call (by kernel_rfl) rfl ?_)
  refine (hp_min hs2.sat hv (by omega)).mono ?_
  rintro _ w3 ⟨hq3, hs3⟩
  rw [hfe] at hq3
  subst hq3
  have hv:=hv.mono hs3.le
  have ho:=ho.then hs3
  have hb1:=hs3.le _ _ hb1
  have hb3:=hs3.le _ _ hb3
  have hT:=hT.then hs3
  have hz3 := hs3.size
  refine Sm rfl rfl ?_
  refine Se rfl rfl rfl ?_
  refine Se rfl rfl rfl ?_
  have hlo := ho.1.lt
  have hqax := hT.size
  refine as_h rfl (h_allocO (z := (.agg #[(.int .i64 0), (.int .i64 0)])) hs3.sat (by kernel_rfl) rfl fun bx w4 hs4 hox ex => ?_)
  have hv:=hv.mono hs4.le
  have ho:=ho.then hs4
  have hb1:=hs4.le _ _ hb1
  have hb3:=hs4.le _ _ hb3
  have hT:=hT.then hs4
  have hz4 := hs4.size
  have hlx := hox.1.lt
  have hwx : wL.heap.size ≤ bx := by omega
  refine as_h0 (h_store hs4.sat hox rfl rfl rfl (by kernel_rfl) rfl rfl rfl fun w5 hs5 hn5 => ?_)
  have hv:=hv.mono hs5.le
  have ho:=ho.step hs5 (fun h => by have h : _ = _ := h; omega)
  have hb1:=hs5.le _ _ hb1
  have hb3:=hs5.le _ _ hb3
  clear hox; have hox := hn5; clear hn5
  have hT:=hT.own hs5 (by omega)
  have hz5 := hs5.size
  refine Sa rfl rfl ?_
  refine as_nil (κ _ _ ?_)
  refine cw_seq fun _ hK8 => ?_
  refine cw_rs fun _ κ => ?_
  refine Sm rfl rfl ?_
  refine as_q rfl rfl (q_neF rfl rfl (by omega)) ?_
  refine Sm rfl rfl ?_
  refine as_gh rfl rfl rfl rfl (h_q rfl (q_move rfl) ?_)
  refine as_gh rfl rfl rfl rfl (h_q rfl (q_loadc (n := 2) (by kernel_rfl) rfl (by exact Blk.cells hox.1 rfl)) ?_)
  have hJ2 := habide _ _ _ _ _ hJ hT
  have hTz := hT.size
  refine as_gh rfl rfl rfl rfl (h_yield rfl rfl ?_)
  obtain ⟨fn_, tm_, as_, bo_, hy2, hy3⟩ := hround i (elV y) _ _ (show (List.map elV (List.take z.toNat l))[i]? = some (elV y) by rw [List.getElem?_map, List.getElem?_take, if_pos (by omega), hy1]; rfl) hJ2 hT.sat (hle.trans hT.le)
  refine ⟨fn_, tm_, as_, bo_, hy2, RoundIn.mono hy3 fun e w6 he => ?_⟩
  cases e <;> try exact (he : False).elim
  obtain ⟨rfl, M2, hs6, hJ3⟩ := he
  have hv:=hv.mono hs6.le
  have ho:=ho.step hs6 (fun h => h rfl)
  have hb1:=hs6.le _ _ hb1
  have hb3:=hs6.le _ _ hb3
  clear hox
  have hle2 := (hle.trans hT.le).trans hs6.le
  have hz6 := hs6.size
  clear hT
  have hT := Step.refl (Just b2) hs6.sat
  refine as_gh rfl rfl rfl rfl (h_q rfl (q_not rfl) ?_)
  refine as_q rfl rfl (q_pick_f rfl rfl) ?_
  refine as_nil (κ _ _ ?_)
  refine cw_false rfl ?_
  refine cw_skip ?_
  refine hK8 _ _ ?_
  refine cw_rs fun _ κ => ?_
  refine Sm rfl rfl ?_
  refine as_q rfl rfl (q_addx rfl rfl (by omega) (by omega)) ?_
  refine S1 rfl (by kernel_rfl) rfl (by exact BlkR.cell (hs6.sat _ _ _ hb1) rfl) ?_
  refine as_q rfl rfl (q_lt rfl rfl) ?_
  refine as_nil (κ _ _ ?_)
  refine cw_cond rfl (fun hc2 => ?_) (fun hc2 => ?_)
  ·
   have hc2:=of_decide_eq_true hc2
   skip
   ·
    refine cw_region fun _ κ => ?_
    refine Sc 1 rfl (by kernel_rfl) rfl (by exact Blk.cells ho.1 rfl) ?_
    refine S1 rfl (by kernel_rfl) rfl (by exact BlkR.cell (hs6.sat _ _ _ hb3) rfl) ?_
    refine as_h rfl (h_call (by kernel_rfl) rfl ?_)
    refine (hp_pop hs6.sat hv (by omega)).mono ?_
    rintro _ w7 ⟨vn, Mn, hq7, hs7, hn⟩
    rw [hfe] at hq7
    subst hq7
    replace hn : HVal Mn k (l.drop (i + 1)) vn := hn
    obtain ⟨dn, un, rfl⟩ := hn.iface hk0
    have hv:=hv.mono hs7.le
    have ho:=ho.then hs7
    have hT:=hT.then hs7
    have hz7 := hs7.size
    refine Sm rfl rfl ?_
    refine Se rfl rfl rfl ?_
    refine Se rfl rfl rfl ?_
    refine as_h0 (h_store hs7.sat ho rfl rfl rfl (by kernel_rfl) rfl rfl rfl fun w8 hs8 hn8 => ?_)
    have hv:=hv.mono hs8.le
    have hn:=hn.mono hs8.le
    clear ho; have ho := hn8; clear hn8
    have hT:=hT.also hs8
    have hz8 := hs8.size
    refine as_nil (κ _ _ ?_)
    refine hK6 _ _ ?_
    refine cw_region fun _ κ => ?_
    refine Sm rfl rfl ?_
    refine as_q rfl rfl (q_addx rfl rfl (by omega) (by omega)) ?_
    refine Sa rfl rfl ?_
    refine as_nil (κ _ _ ?_)
    refine ⟨_, _, ?_, (.cons rfl (.cons rfl (.cons rfl (.cons rfl (.cons rfl (.nil _)))))), i + 1, l.drop (i + 1), _, _, rfl, by omega, by omega, fun _ => rfl, by rw [List.length_drop]; omega, rfl, hle2.trans hT.le, hT.sat, habide _ _ _ _ _ hJ3 hT, hn, ho⟩
    omega
  ·
   have hc2:=of_decide_eq_false hc2
   skip
   ·
    refine cw_skip ?_
    refine hK6 _ _ ?_
    refine cw_region fun _ κ => ?_
    refine Sm rfl rfl ?_
    refine as_q rfl rfl (q_addx rfl rfl (by omega) (by omega)) ?_
    refine Sa rfl rfl ?_
    refine as_nil (κ _ _ ?_)
    refine ⟨_, _, ?_, (.cons rfl (.cons rfl (.cons rfl (.cons rfl (.cons rfl (.nil _)))))), i + 1, _, _, _, rfl, by omega, by omega, fun h => absurd h (by omega), hql, rfl, hle2.trans hT.le, hT.sat, habide _ _ _ _ _ hJ3 hT, hv, ho⟩
    omega
end Go.Proofs.YtgcgjpfjjgalmaaGreat
/- The reference of elements, part 1. -/
namespace Go.Proofs.YtgcgjpfjjgalmaaGreat
open Go Go.Eng
theorem ref_same {w : World} {M : Mem} {va vb : Value} {n m : Nat} {xs ys : List El} (hs : Sat M w) (hn : n ≤ 1000000) (hr : Rds M w 2 va n (els xs)) (hr2 : Rds M w 2 vb m (els ys)) :
  Does Tryz.prog 15 #[va, vb] w (fun v w' => v = .bool (decide (xs = ys)) ∧ Step Nope M w M w') := by
 have hT := Step.refl Nope hs
 have hl1 := hr.els_len hs
 have hl2 := hr2.els_len hs
 obtain ⟨a, c, rfl, hac, _⟩ := hr.slice hs
 obtain ⟨b, d, rfl, hbd, _⟩ := hr2.slice hs
 refine fn_enter Tryz.func15 rfl (rs := [.tmp 4]) rfl rfl rfl rfl ?_
 refine cw_rs fun _ κ => ?_
 refine Sa rfl rfl ?_
 refine as_nil (κ _ _ ?_)
 refine cw_seq fun _ hK2 => ?_
 refine cw_rs fun _ κ => ?_
 refine Sm rfl rfl ?_
 refine as_q rfl rfl (q_len (by kernel_rfl) rfl _) ?_
 refine Sm rfl rfl ?_
 refine as_q rfl rfl (q_len (by kernel_rfl) rfl _) ?_
 refine as_q rfl rfl (q_ne rfl rfl) ?_
 refine as_nil (κ _ _ ?_)
 refine cw_cond rfl (fun hc0 => ?_) (fun hc0 => ?_)
 ·
  have hne : n ≠ m := by simp at hc0; omega
  refine cw_rs fun _ κ => ?_
  refine Sa rfl rfl ?_
  refine as_nil (κ _ _ ?_)
  refine cw_ret ?_
  exact ⟨_, (res_tmp rfl res_nil), by rw [decide_eq_false (fun h => hne (by rw [← hl1, ← hl2, h]))]; rfl, hT⟩
 ·
  have hne : n = m := by simp at hc0; omega
  refine cw_skip ?_
  refine hK2 _ _ ?_
  refine cw_seq fun _ hK5 => ?_
  refine cw_rs fun _ κ => ?_
  refine Sa rfl rfl ?_
  refine as_nil (κ _ _ ?_)
  refine cw_block ?_
  refine cw_loop (fun mm l w' => ∃ i : Nat, mm = n - i ∧ i ≤ n ∧ (∀ j, j < i → xs[j]? = ys[j]?) ∧ l = [(0, .slice a n c), (1, .slice b m d), (5, .int .i64 i)] ∧ Step Nope M w M w') (n) [(0, .slice a n c), (1, .slice b m d), (5, .int .i64 (0 : Nat))] (.cons rfl (.cons rfl (.cons rfl (.nil _)))) ?_ ?_
  ·
   exact ⟨0, rfl, Nat.zero_le _, fun j hj => by omega, rfl, hT⟩
  clear hT
  rintro mm l w1 ⟨i, rfl, hi, hpre, rfl, hT⟩
  refine cw_seq fun _ hK7 => ?_
  refine cw_rs fun _ κ => ?_
  refine Sm rfl rfl ?_
  refine Sm rfl rfl ?_
  refine as_q rfl rfl (q_len (by kernel_rfl) rfl _) ?_
  refine as_q rfl rfl (q_lt rfl rfl) ?_
  refine as_nil (κ _ _ ?_)
  refine cw_cond rfl (fun hc1 => ?_) (fun hc1 => ?_)
  ·
   have hlt : i < n := by have := of_decide_eq_true hc1; omega
   obtain ⟨g, o, rfl⟩ := (hr.now hs).there (by omega)
   obtain ⟨g2, o2, rfl⟩ := (hr2.now hs).there (by omega)
   obtain ⟨x, hx⟩ : ∃ z, xs[i]? = some z := ⟨xs[i], by simp⟩
   obtain ⟨y, hy⟩ : ∃ z, ys[i]? = some z := ⟨ys[i], by simp⟩
   refine cw_skip ?_
   refine hK7 _ _ ?_
   refine cw_seq fun _ hK9 => ?_
   refine cw_block ?_
   refine cw_dr (by kernel_rfl) fun _ κ => ?_
   have hs1 := Step.drew hT.sat
   have hT:=hT.then hs1
   refine Dm 0 1 rfl (by kernel_rfl) rfl ?_
   refine Dm 1 3 rfl (by kernel_rfl) rfl ?_
   refine Dq 2 7 rfl (by kernel_rfl) (fun _ => (q_indexAddr (e := 24) (size := 2) (by kernel_rfl) (by kernel_rfl) rfl rfl (by omega) (by omega))) ?_
   refine Dlc 3 15 2 rfl (by kernel_rfl) (by kernel_rfl) rfl ((hr _ _ hT).el (j := (i : Int).toNat) (by simpa using hx)) ?_
   refine Dm 4 31 rfl (by kernel_rfl) rfl ?_
   refine Dm 5 63 rfl (by kernel_rfl) rfl ?_
   refine Dq 6 127 rfl (by kernel_rfl) (fun _ => (q_indexAddr (e := 24) (size := 2) (by kernel_rfl) (by kernel_rfl) rfl rfl (by omega) (by omega))) ?_
   refine Dlc 7 255 2 rfl (by kernel_rfl) (by kernel_rfl) rfl ((hr2 _ _ hT).el (j := (i : Int).toNat) (by simpa using hy)) ?_
   refine Dq 8 511 rfl (by kernel_rfl) (fun _ => (q_neE (a := x) (b := y) (e := 2) (by kernel_rfl) (by kernel_rfl) (by kernel_rfl) (by kernel_rfl) (by kernel_rfl) (by kernel_rfl) rfl rfl)) ?_
   refine Dd (by kernel_rfl) (κ _ _ ?_)
   refine cw_cond rfl (fun hc2 => ?_) (fun hc2 => ?_)
   ·
    replace hc2 : x ≠ y := by simpa using hc2
    refine cw_rs fun _ κ => ?_
    refine Sa rfl rfl ?_
    refine as_nil (κ _ _ ?_)
    refine cw_ret ?_
    exact ⟨_, (res_tmp rfl res_nil), by rw [decide_eq_false (fun h => by subst h; rw [hx] at hy; cases hy; exact hc2 rfl)]; rfl, hT⟩
   ·
    replace hc2 : x = y := by simpa using hc2
    refine cw_skip ?_
    refine hK9 _ _ ?_
    refine cw_region fun _ κ => ?_
    refine Sm rfl rfl ?_
    refine as_q rfl rfl (q_addx rfl rfl (by omega) (by omega)) ?_
    refine Sa rfl rfl ?_
    refine as_nil (κ _ _ ?_)
    exact ⟨_, _, by omega, (.cons rfl (.cons rfl (.cons rfl (.nil _)))), i + 1, rfl, by omega, fun j hj => by
     rcases Nat.lt_or_ge j i with h | h
     · exact hpre j h
     ·
      obtain rfl : j = i := by omega
      rw [hx, hy, hc2], rfl, hT⟩
  ·
   have hge : i = n := by have := of_decide_eq_false hc1; omega
   refine cw_exit ?_
   refine hK5 _ _ ?_
   refine cw_rs fun _ κ => ?_
   refine Sa rfl rfl ?_
   refine as_nil (κ _ _ ?_)
   refine cw_ret ?_
   have hall : ∀ j, xs[j]? = ys[j]? := fun j => by
    rcases Nat.lt_or_ge j n with hj | hj
    · exact hpre j (by omega)
    · rw [List.getElem?_eq_none (by omega), List.getElem?_eq_none (by omega)]
   exact ⟨_, (res_tmp rfl res_nil), by rw [decide_eq_true (List.ext_getElem? fun j => hall j)]; rfl, hT⟩
end Go.Proofs.YtgcgjpfjjgalmaaGreat
/- Rows of what is told, part 1. -/
namespace Go.Proofs.YtgcgjpfjjgalmaaGreat
open Go Go.Eng
theorem col_seq {w : World} {M : Mem} {S : Nat → Prop} {lb : List Value} {xs : List El} (hs : Sat M w) (hit : ∀ M' w', Step Nope M w M' w' → IterOk Tryz.prog 42 lb S (xs.map elV) M' w') (hS : ∀ k, S k → k < w.heap.size ∧ M k = none) (hz : xs.length ≤ 1000000000) :
  Does Tryz.prog 47 #[.slice none 0 0, .func (.func 42) #[] lb.toArray] w (fun v w' => ∃ M', Step S M w M' w' ∧ Buf w' M' 24 2 v xs.length (els xs) ∧ ∀ g, v.ownBlock = some g → w.heap.size ≤ g) := by
 have hT := Step.refl Nope hs
 refine fn_enterM (K' := fun v w' => ∃ M', Step S M w M' w' ∧ Buf w' M' 24 2 v xs.length (els xs) ∧ ∀ g, v.ownBlock = some g → w.heap.size ≤ g) Tryz.func47 rfl (rs := [.tmp 4]) rfl rfl rfl rfl ?_ (fun _ _ _ _ _ _ h => resT rfl h) ?_
 ·
  refine cm_seq fun K0a hK0a => cw_region fun K0b hK0b => ?_
  have hqab := hT.size
  refine as_h rfl (h_boxO hs rfl rfl fun bb w1 hs1 hob eb => ?_)
  have hT:=hT.then hs1
  have hz1 := hs1.size
  have hlb := hob.1.lt
  refine Sa rfl rfl ?_
  refine as_nil (hK0b _ _ (hK0a _ _ ?_))
  clear hK0b hK0a K0b K0a
  refine cm_seqM ?_
  refine cm_seq fun K2a hK2a => cw_region fun K2b hK2b => ?_
  refine Sm rfl rfl ?_
  refine as_nil (hK2b _ _ (hK2a _ _ ?_))
  clear hK2b hK2a K2b K2a
  have hTs := hT.size
  have hlb_ := hob.1.lt
  have hbw : w.heap.size ≤ bb := by omega
  have hfit := hit _ _ hT
  refine cm_block ?_
  refine cm_rangeC (M := M) (S := S) (vs := xs.map elV) (lb := lb) (gf := 42) rfl rfl rfl (by kernel_rfl) rfl hs1.sat hTs hfit (fun k hk => by have := hS k hk; constructor <;> omega) (fun i M' W' => ∃ sv, Own W' M' bb [sv] 22 ∧ Buf W' M' 24 2 sv i (els (xs.take i)) ∧ Step S M w M' W' ∧ ∀ g, sv.ownBlock = some g → w.heap.size ≤ g ∧ g ≠ bb ∧ g ≠ w1.heap.size ∧ g ≠ w1.heap.size + 1) (fun i v la M' W' => ∃ bz e, v = elV e ∧ la = [(2, .pointer (some ⟨bb, 0, none⟩)), (5, .pointer (some ⟨bz, 0, none⟩))] ∧ Own W' M' bz (elc e) 24 ∧ bz ≠ w1.heap.size ∧ bz ≠ w1.heap.size + 1 ∧ w.heap.size ≤ bz ∧ ∃ sv, Own W' M' bb [sv] 22 ∧ Buf W' M' 24 2 sv i (els (xs.take i)) ∧ Step S M w M' W' ∧ ∀ g, sv.ownBlock = some g → w.heap.size ≤ g ∧ g ≠ bb ∧ g ≠ w1.heap.size ∧ g ≠ w1.heap.size + 1) ?_ ?_ ?_ ?_ ?_ ?_
  ·
   rintro i M' W' M'' W'' ⟨sv, h1, h2, h3, h4⟩ k
   refine ⟨sv, h1.step k (by rintro (h | h | h); exact absurd (hS _ h).1 (by omega); all_goals omega), h2.step k (fun g hg => by rintro (h | h | h); exact absurd (hS _ h).1 (by have := (h4 g hg).1; omega); exact (h4 g hg).2.2.1 h; exact (h4 g hg).2.2.2 h), h3.trans k (fun b hb => by rintro (h | h | h); exact h; all_goals omega), h4⟩
  · exact ⟨_, hob, by rw [List.take_zero]; exact Buf.nil _ _ _ _, hT.any _, fun g hg => by cases hg⟩
  ·
   rintro i v la M' W' M'' W'' ⟨bz, e, rfl, rfl, h0, hz1, hz2, hz3, sv, h1, h2, h3, h4⟩ k
   refine ⟨bz, e, rfl, rfl, h0.step k (by rintro (h | h | h); exact absurd (hS _ h).1 (by omega); all_goals omega), hz1, hz2, hz3, ?_⟩
   refine ⟨sv, h1.step k (by rintro (h | h | h); exact absurd (hS _ h).1 (by omega); all_goals omega), h2.step k (fun g hg => by rintro (h | h | h); exact absurd (hS _ h).1 (by have := (h4 g hg).1; omega); exact (h4 g hg).2.2.1 h; exact (h4 g hg).2.2.2 h), h3.trans k (fun b hb => by rintro (h | h | h); exact h; all_goals omega), h4⟩
  ·
   rintro i v r M' W' hv ⟨sv, h1, h2, h3, h4⟩ hs' hle hlt
   obtain ⟨e, _, rfl⟩ : ∃ e, _ ∧ v = elV e := by
    rw [List.getElem?_map] at hv
    obtain ⟨q, h5, h6⟩ := Option.map_eq_some_iff.1 hv
    exact ⟨q, h5, h6.symm⟩
   refine cw_region fun _ κ => ?_
   refine as_h rfl (h_allocO (z := (.agg #[(.int .i64 0), (.int .i64 0)])) hs' (by kernel_rfl) rfl fun bz w2 hs2 hz ez => ?_)
   have hz2 := hs2.size
   refine as_h0 (h_store hs2.sat hz rfl rfl rfl (by kernel_rfl) rfl rfl rfl fun w3 hs3 hz3 => ?_)
   have hst : Step Nope M' W' M' w3 := hs2.trans hs3 (fun b hb h => by have h : b = bz := h; omega)
   have hz0 := hs2.size
   have hwW := h3.size
   refine as_nil (κ _ _ ⟨_, M', .cons rfl (.cons rfl (.nil _)), hst, bz, e, rfl, rfl, hz3, by omega, by omega, by omega, sv, h1.then hst, h2.then hst, h3.also (hst.any _), h4⟩)
  ·
   rintro i v la r M' W' hv ⟨bz, e, rfl, rfl, hz, hz1, hz2, hz3, sv, h1, h2, h3, h4⟩ hs' hle hlt
   obtain ⟨x, hx, hxv⟩ : ∃ x, xs[i]? = some x ∧ elV x = elV e := by
    rw [List.getElem?_map] at hv
    exact Option.map_eq_some_iff.1 hv
   obtain rfl : x = e := by
    obtain ⟨a, b⟩ := x
    obtain ⟨c, d⟩ := e
    simpa [elV, elc] using hxv
   have h1l := h1.1.lt
   have h2l := h2.lt
   have hin : i < xs.length := (List.getElem?_eq_some_iff.1 hx).1
   refine cw_block (cw_region fun K4 hK4 => ?_)
   refine S1 rfl (by kernel_rfl) rfl (by exact Blk.cell h1.1 rfl) ?_
   refine Sc 2 rfl (by kernel_rfl) rfl (by exact Blk.cells hz.1 rfl) ?_
   refine as_h rfl (h_buildO (e := 24) (size := 2) (zs := [.int .i64 0, .int .i64 0]) (cs := [_, _]) (by kernel_rfl) (by kernel_rfl) (by kernel_rfl) rfl hs' rfl rfl fun b4 w4 hs4 ho4 e4 => ?_)
   have hsB := hs4
   have h1:=h1.then hs4
   have hz4 := hs4.size
   have hrx := Buf.rd (Own.buf ho4 (n := 1) (size := 2) rfl (by decide))
   have h2b := h2.then hsB
   refine as_h rfl (h_append (e := 24) (size := 2) (bytes := 16) (by kernel_rfl) hs4.sat h2b hrx rfl rfl (by simp [Value.oneCell']) (by omega) rfl fun sv2 w5 hs5 h2c hor => ?_)
   have hsv : ∃ a k c, sv2 = .slice a k c := by obtain ⟨a, c, h, _⟩ := h2c.slice; exact ⟨a, _, c, h⟩
   have h1:=h1.step hs5 (fun h => (h4 _ h).2.1 rfl)
   obtain ⟨sa, sk, sc, rfl⟩ := hsv
   refine as_h0 (h_store hs5.sat h1 rfl rfl rfl (by kernel_rfl) rfl rfl rfl fun w6 hs6 h1n => ?_)
   have hzb := hs4.size
   have hza := hs5.size
   have hwW := h3.size
   have hownf : ∀ g, (Value.slice sa sk sc).ownBlock = some g → w.heap.size ≤ g ∧ g ≠ bb ∧ g ≠ w1.heap.size ∧ g ≠ w1.heap.size + 1 := fun g hg => by
    rcases hor with h | h
    · rw [h] at hg; exact h4 g hg
    · rw [h] at hg; have hg := Option.some.inj hg; omega
   have k1 : Step (fun k => ¬ S k ∧ k ≠ w1.heap.size ∧ k ≠ w1.heap.size + 1) M' w4 M' w5 := hs5.wide fun k _ h => ⟨fun hk => by have := (hS k hk).1; have := (h4 k h).1; omega, (h4 k h).2.2.1, (h4 k h).2.2.2⟩
   have k2 : Step (fun k => ¬ S k ∧ k ≠ w1.heap.size ∧ k ≠ w1.heap.size + 1) M' w5 M' w6 := hs6.wide fun k _ h => by have h : k = bb := h; exact ⟨fun hk => by have := (hS k hk).1; omega, by omega, by omega⟩
   refine as_nil (hK4 _ _ ⟨M', ((hs4.any _).also k1).also k2, _, h1n, ?_, ?_, hownf⟩)
   ·
    have h5 := h2c.step hs6 (fun g hg h => (hownf g hg).2.1 h)
    have h6 : els (xs.take (i + 1)) = els (xs.take i) ++ [.int .i64 x.1, .int .i64 x.2] := by rw [List.take_add_one, hx, els_append]; rfl
    rw [h6]
    exact h5
   · exact ((h3.also (hs4.any _)).trans hs5 (fun k hk h => by have := (h4 k h).1; omega)).trans hs6 (fun k hk h => by have h : k = bb := h; omega)
  ·
   rintro M' W' hs' hle ⟨sv, h1, h2, h3, h4⟩ D hD hDd
   refine cw_rs fun _ κ => ?_
   refine S1 rfl (by kernel_rfl) rfl (by exact Blk.cell h1.1 rfl) ?_
   refine Sa rfl rfl ?_
   refine as_nil (κ _ _ ?_)
   refine cw_ret ⟨hDd, _, res_tmp rfl res_nil, M', h3, ?_, fun g hg => (h4 g hg).1⟩
   rw [List.length_map] at h2
   rw [List.take_length] at h2
   exact h2
 ·
  rintro v w' D hB hD ⟨M', h1, h2, h3⟩
  have k := Step.putObj h1.sat hD (by simp) (.deferred none)
  refine ⟨M', h1.trans k (fun b hb h => by have h : b = D := h; omega), h2.step k (fun g hg h => ?_), h3⟩
  have h : g = D := h
  subst h
  obtain ⟨⟨_, hh⟩, _⟩ := h2
  rcases hh with ⟨rfl, _⟩ | ⟨g2, cap, cur, rfl, _, hh, _⟩
  · cases hg
  · cases hg; rw [hD] at hh; cases hh
theorem col_all {w : World} {M : Mem} {S : Nat → Prop} {lb : List Value} {xs : List El} (hs : Sat M w) (hit : ∀ M' w', Step Nope M w M' w' → IterOk Tryz.prog 42 lb S (xs.map elV) M' w') (hS : ∀ k, S k → k < w.heap.size ∧ M k = none) (hz : xs.length ≤ 1000000000) :
  Does Tryz.prog 39 #[.func (.func 42) #[] lb.toArray] w (fun v w' => ∃ M', Step S M w M' w' ∧ Buf w' M' 24 2 v xs.length (els xs) ∧ ∀ g, v.ownBlock = some g → w.heap.size ≤ g) := by
 have hT := Step.refl Nope hs
 refine fn_enter Tryz.func39 rfl (rs := [.tmp 2]) rfl rfl rfl rfl ?_
 refine cw_rs fun _ κ => ?_
 refine Sa rfl rfl ?_
 refine as_nil (κ _ _ ?_)
 refine cw_rs fun _ κ => ?_
 refine Sm rfl rfl ?_
 refine as_h rfl (h_call (by kernel_rfl) rfl ?_)
 refine (col_seq hs (fun M' w' h => hit M' w' (hT.then h)) hS hz).mono ?_
 rintro cv w1 ⟨Mc, hs1, hcb, hcf⟩
 refine Sa rfl rfl ?_
 refine as_nil (κ _ _ ?_)
 refine cw_ret ?_
 exact ⟨_, (res_tmp rfl res_nil), Mc, hs1, hcb, hcf⟩
theorem dr_sorted_n {w : World} {M : Mem} {k : Nat} {l : List El} (hs : Sat M w) (h : HVal M k l .nilIface) (hz : l.length < 100000000) :
  Does Tryz.prog 23 #[.pointer none, .agg #[.nilIface]] w (fun v w' => ∃ M', Step Nope M w M' w' ∧ Buf w' M' 24 2 v l.length (els l) ∧ ∀ g, v.ownBlock = some g → w.heap.size ≤ g) := by
 have hT := Step.refl Nope hs
 refine fn_enter Tryz.func23 rfl (rs := [.tmp 4]) rfl rfl rfl rfl ?_
 refine cw_rs fun _ κ => ?_
 refine as_h rfl (h_boxM hs rfl rfl fun b1 M1 w1 hs1 hb1 e1 => ?_)
 have h:=h.mono hs1.le
 have hT:=hT.then hs1
 have hz1 := hs1.size
 refine Sa rfl rfl ?_
 refine as_nil (κ _ _ ?_)
 refine cw_dr (by kernel_rfl) fun _ κ => ?_
 have hs2 := Step.drew hs1.sat
 have hz2 := hs2.size
 have h:=h.mono hs2.le
 have hb1:=hs2.le _ _ hb1
 have hT:=hT.then hs2
 refine Dm 0 1 rfl (by kernel_rfl) rfl ?_
 refine Dlc 1 3 1 rfl (by kernel_rfl) (by kernel_rfl) rfl (by exact BlkR.cells (hs2.sat _ _ _ hb1) rfl) ?_
 refine Dlc 2 7 1 rfl (by kernel_rfl) (by kernel_rfl) rfl (by exact BlkR.cells (hs2.sat _ _ _ hb1) rfl) ?_
 refine Dh 3 15 rfl (by kernel_rfl) (keep_sift (bs := [T,F]) (by kernel_rfl)) (h_call (by kernel_rfl) rfl ?_)
 refine (hp_size hs2.sat h (by omega)).mono ?_
 rintro _ w3 ⟨rfl, hs3⟩
 have h:=h.mono hs3.le
 have hb1:=hs3.le _ _ hb1
 have hT:=hT.then hs3
 have hz3 := hs3.size
 refine ⟨(by repeat' first | exact trivial | exact BlkR.cell (hs3.sat _ _ _ hb1) rfl | exact BlkR.cells (hs3.sat _ _ _ hb1) rfl | assumption | refine all_keep ?_ | refine And.intro ?_ ?_), ?_⟩
 refine Dq 4 31 rfl (by kernel_rfl) (fun _ => (q_addx rfl rfl (by omega) (by omega))) ?_
 refine Dh 5 63 rfl (by kernel_rfl) (keep_sift (bs := [T]) (by kernel_rfl)) (h_call (by kernel_rfl) rfl ?_)
 refine (dr_each (z := ((l.length : Nat) : Int) + 1) hs3.sat h).mono ?_
 rintro _ w4 ⟨c1, c2, c3, Me, rfl, hs4, hc1, hc2, hc3, hcw⟩
 have h:=h.mono hs4.le
 have hT:=hT.then hs4
 have hz4 := hs4.size
 refine ⟨trivial, ?_⟩
 refine Dh 6 127 rfl (by kernel_rfl) rfl (h_call (by kernel_rfl) rfl ?_)
 have hsz_ := hT.size
 have hcl := hc2.1.lt
 refine (col_all (S := Just c2) (xs := l.take (((l.length : Nat) : Int) + 1).toNat) (lb := [.pointer (some ⟨c1, 0, none⟩), .pointer (some ⟨c2, 0, none⟩), .pointer (some ⟨c3, 0, none⟩)]) hs4.sat (fun M' w' hk => dr_each1 (hk.le _ _ hc1) (hc2.then hk) (hk.le _ _ hc3) (h.mono hk.le) (by omega) (by omega) (by omega)) (fun k hk => by have hk : k = c2 := hk; subst hk; exact ⟨hcl, hc2.2⟩) (by rw [List.length_take]; omega)).mono ?_
 rintro cv w5 ⟨Mc, hs5, hcb, hcf⟩
 have hT:=hT.trans hs5 (fun b hb h => by have h : b = c2 := h; omega)
 refine ⟨trivial, ?_⟩
 refine Da 7 255 rfl (by kernel_rfl) rfl ?_
 refine Dd (by kernel_rfl) (κ _ _ ?_)
 refine cw_ret ?_
 have hte : l.take (((l.length : Nat) : Int) + 1).toNat = l := List.take_of_length_le (by omega)
 rw [hte] at hcb
 exact ⟨_, (res_tmp rfl res_nil), Mc, hT, hcb, fun g hg => by have := hcf g hg; omega⟩
theorem dr_sorted_s {w : World} {M : Mem} {d : TypeId} {u : Value} {k : Nat} {l : List El} (hs : Sat M w) (h : HVal M k l (.iface d u)) (hz : l.length < 100000000) :
  Does Tryz.prog 23 #[.pointer none, .agg #[(.iface d u)]] w (fun v w' => ∃ M', Step Nope M w M' w' ∧ Buf w' M' 24 2 v l.length (els l) ∧ ∀ g, v.ownBlock = some g → w.heap.size ≤ g) := by
 have hT := Step.refl Nope hs
 refine fn_enter Tryz.func23 rfl (rs := [.tmp 4]) rfl rfl rfl rfl ?_
 refine cw_rs fun _ κ => ?_
 refine as_h rfl (h_boxM hs rfl rfl fun b1 M1 w1 hs1 hb1 e1 => ?_)
 have h:=h.mono hs1.le
 have hT:=hT.then hs1
 have hz1 := hs1.size
 refine Sa rfl rfl ?_
 refine as_nil (κ _ _ ?_)
 refine cw_dr (by kernel_rfl) fun _ κ => ?_
 have hs2 := Step.drew hs1.sat
 have hz2 := hs2.size
 have h:=h.mono hs2.le
 have hb1:=hs2.le _ _ hb1
 have hT:=hT.then hs2
 refine Dm 0 1 rfl (by kernel_rfl) rfl ?_
 refine Dlc 1 3 1 rfl (by kernel_rfl) (by kernel_rfl) rfl (by exact BlkR.cells (hs2.sat _ _ _ hb1) rfl) ?_
 refine Dlc 2 7 1 rfl (by kernel_rfl) (by kernel_rfl) rfl (by exact BlkR.cells (hs2.sat _ _ _ hb1) rfl) ?_
 refine Dh 3 15 rfl (by kernel_rfl) (keep_sift (bs := [T,F]) (by kernel_rfl)) (h_call (by kernel_rfl) rfl ?_)
 refine (hp_size hs2.sat h (by omega)).mono ?_
 rintro _ w3 ⟨rfl, hs3⟩
 have h:=h.mono hs3.le
 have hb1:=hs3.le _ _ hb1
 have hT:=hT.then hs3
 have hz3 := hs3.size
 refine ⟨(by repeat' first | exact trivial | exact BlkR.cell (hs3.sat _ _ _ hb1) rfl | exact BlkR.cells (hs3.sat _ _ _ hb1) rfl | assumption | refine all_keep ?_ | refine And.intro ?_ ?_), ?_⟩
 refine Dq 4 31 rfl (by kernel_rfl) (fun _ => (q_addx rfl rfl (by omega) (by omega))) ?_
 refine Dh 5 63 rfl (by kernel_rfl) (keep_sift (bs := [T]) (by kernel_rfl)) (h_call (by kernel_rfl) rfl ?_)
 refine (dr_each (z := ((l.length : Nat) : Int) + 1) hs3.sat h).mono ?_
 rintro _ w4 ⟨c1, c2, c3, Me, rfl, hs4, hc1, hc2, hc3, hcw⟩
 have h:=h.mono hs4.le
 have hT:=hT.then hs4
 have hz4 := hs4.size
 refine ⟨trivial, ?_⟩
 refine Dh 6 127 rfl (by kernel_rfl) rfl (h_call (by kernel_rfl) rfl ?_)
 have hsz_ := hT.size
 have hcl := hc2.1.lt
 refine (col_all (S := Just c2) (xs := l.take (((l.length : Nat) : Int) + 1).toNat) (lb := [.pointer (some ⟨c1, 0, none⟩), .pointer (some ⟨c2, 0, none⟩), .pointer (some ⟨c3, 0, none⟩)]) hs4.sat (fun M' w' hk => dr_each1 (hk.le _ _ hc1) (hc2.then hk) (hk.le _ _ hc3) (h.mono hk.le) (by omega) (by omega) (by omega)) (fun k hk => by have hk : k = c2 := hk; subst hk; exact ⟨hcl, hc2.2⟩) (by rw [List.length_take]; omega)).mono ?_
 rintro cv w5 ⟨Mc, hs5, hcb, hcf⟩
 have hT:=hT.trans hs5 (fun b hb h => by have h : b = c2 := h; omega)
 refine ⟨trivial, ?_⟩
 refine Da 7 255 rfl (by kernel_rfl) rfl ?_
 refine Dd (by kernel_rfl) (κ _ _ ?_)
 refine cw_ret ?_
 have hte : l.take (((l.length : Nat) : Int) + 1).toNat = l := List.take_of_length_le (by omega)
 rw [hte] at hcb
 exact ⟨_, (res_tmp rfl res_nil), Mc, hT, hcb, fun g hg => by have := hcf g hg; omega⟩
theorem HVal.shape {M : Mem} {k : Nat} {l : List El} {v : Value} (h : HVal M k l v) : v = .nilIface ∨ ∃ d u, v = .iface d u := by
 cases h <;> simp
theorem dr_sorted {w : World} {M : Mem} {k : Nat} {l : List El} {v0 : Value} (hs : Sat M w) (h : HVal M k l v0) (hz : l.length < 100000000) :
  Does Tryz.prog 23 #[.pointer none, .agg #[v0]] w (fun v w' => ∃ M', Step Nope M w M' w' ∧ Buf w' M' 24 2 v l.length (els l) ∧ ∀ g, v.ownBlock = some g → w.heap.size ≤ g) := by
 rcases h.shape with rfl | ⟨d, u, rfl⟩
 · exact dr_sorted_n hs h hz
 · exact dr_sorted_s hs h hz
end Go.Proofs.YtgcgjpfjjgalmaaGreat
/- Rows of what is told, part 2. -/
namespace Go.Proofs.YtgcgjpfjjgalmaaGreat
open Go Go.Eng
theorem dr_top_0 {w : World} {M : Mem} {l : List El} {z : Int} (hs : Sat M w) (h : HVal M 0 l .nilIface) :
  Does Tryz.prog 22 #[.pointer none, .agg #[.nilIface], .int .i64 z] w (fun r w' => ∃ v M', r = .tuple #[v, .int .i64 22] ∧ Step Nope M w M' w' ∧ Buf w' M' 24 2 v 0 (els []) ∧ ∀ g, v.ownBlock = some g → w.heap.size ≤ g) := by
 have hT := Step.refl Nope hs
 refine fn_enter Tryz.func22 rfl (rs := [.tmp 6, .tmp 7]) rfl rfl rfl rfl ?_
 refine cw_rs fun _ κ => ?_
 refine as_h rfl (h_boxM hs rfl rfl fun b1 M1 w1 hs1 hb1 e1 => ?_)
 have h:=h.mono hs1.le
 have hT:=hT.then hs1
 have hz1 := hs1.size
 refine Sa rfl rfl ?_
 refine Sa rfl rfl ?_
 refine as_nil (κ _ _ ?_)
 refine cw_seq fun _ hK2 => ?_
 refine cw_block ?_
 refine cw_rs fun _ κ => ?_
 refine Sc 1 rfl (by kernel_rfl) rfl (by exact BlkR.cells (hs1.sat _ _ _ hb1) rfl) ?_
 refine as_h rfl (h_call (by kernel_rfl) rfl ?_)
 refine (hp_kind hs1.sat h).mono ?_
 rintro _ w2 ⟨rfl, hs2⟩
 have h:=h.mono hs2.le
 have hT:=hT.then hs2
 have hz2 := hs2.size
 refine as_q rfl rfl (q_eqT rfl rfl (by omega)) ?_
 refine Sa rfl rfl ?_
 refine as_nil (κ _ _ ?_)
 refine cw_true rfl ?_
 refine cw_rs fun _ κ => ?_
 refine Sa rfl rfl ?_
 refine Sa rfl rfl ?_
 refine as_nil (κ _ _ ?_)
 refine cw_ret ?_
 exact ⟨_, (res_tmp rfl (res_tmp rfl res_nil)), _, _, rfl, hT, Buf.nil _ _ _ _, fun g hg => by cases hg⟩
theorem dr_top_1 {w : World} {M : Mem} {d : TypeId} {u : Value} {k : Nat} {l : List El} {z : Int} (hs : Sat M w) (h : HVal M k l (.iface d u)) (hk : k ≠ 0) (hz0 : z < 0) :
  Does Tryz.prog 22 #[.pointer none, .agg #[(.iface d u)], .int .i64 z] w (fun r w' => ∃ v M', r = .tuple #[v, .int .i64 24] ∧ Step Nope M w M' w' ∧ Buf w' M' 24 2 v 0 (els []) ∧ ∀ g, v.ownBlock = some g → w.heap.size ≤ g) := by
 have hT := Step.refl Nope hs
 refine fn_enter Tryz.func22 rfl (rs := [.tmp 6, .tmp 7]) rfl rfl rfl rfl ?_
 refine cw_rs fun _ κ => ?_
 refine as_h rfl (h_boxM hs rfl rfl fun b1 M1 w1 hs1 hb1 e1 => ?_)
 have h:=h.mono hs1.le
 have hT:=hT.then hs1
 have hz1 := hs1.size
 refine Sa rfl rfl ?_
 refine Sa rfl rfl ?_
 refine as_nil (κ _ _ ?_)
 refine cw_seq fun _ hK2 => ?_
 refine cw_block ?_
 refine cw_rs fun _ κ => ?_
 refine Sc 1 rfl (by kernel_rfl) rfl (by exact BlkR.cells (hs1.sat _ _ _ hb1) rfl) ?_
 refine as_h rfl (h_call (by kernel_rfl) rfl ?_)
 refine (hp_kind hs1.sat h).mono ?_
 rintro _ w2 ⟨rfl, hs2⟩
 have h:=h.mono hs2.le
 have hT:=hT.then hs2
 have hz2 := hs2.size
 refine as_q rfl rfl (q_eqF rfl rfl (by omega)) ?_
 refine Sa rfl rfl ?_
 refine as_nil (κ _ _ ?_)
 refine cw_false rfl ?_
 refine cw_rs fun _ κ => ?_
 refine Sm rfl rfl ?_
 refine as_q rfl rfl (q_ltT rfl rfl (by omega)) ?_
 refine Sa rfl rfl ?_
 refine as_nil (κ _ _ ?_)
 refine cw_true rfl ?_
 refine cw_rs fun _ κ => ?_
 refine Sa rfl rfl ?_
 refine Sa rfl rfl ?_
 refine as_nil (κ _ _ ?_)
 refine cw_ret ?_
 exact ⟨_, (res_tmp rfl (res_tmp rfl res_nil)), _, _, rfl, hT, Buf.nil _ _ _ _, fun g hg => by cases hg⟩
theorem dr_top_2 {w : World} {M : Mem} {d : TypeId} {u : Value} {k : Nat} {l : List El} {z : Int} (hs : Sat M w) (h : HVal M k l (.iface d u)) (hk : k ≠ 0) (hz0 : 0 ≤ z) (hz9 : z ≤ 9223372036854775807) (hz : l.length < 100000000) :
  Does Tryz.prog 22 #[.pointer none, .agg #[(.iface d u)], .int .i64 z] w (fun r w' => ∃ v M', r = .tuple #[v, .int .i64 0] ∧ Step Nope M w M' w' ∧ Buf w' M' 24 2 v (l.take z.toNat).length (els (l.take z.toNat)) ∧ ∀ g, v.ownBlock = some g → w.heap.size ≤ g) := by
 have hT := Step.refl Nope hs
 refine fn_enter Tryz.func22 rfl (rs := [.tmp 6, .tmp 7]) rfl rfl rfl rfl ?_
 refine cw_rs fun _ κ => ?_
 refine as_h rfl (h_boxM hs rfl rfl fun b1 M1 w1 hs1 hb1 e1 => ?_)
 have h:=h.mono hs1.le
 have hT:=hT.then hs1
 have hz1 := hs1.size
 refine Sa rfl rfl ?_
 refine Sa rfl rfl ?_
 refine as_nil (κ _ _ ?_)
 refine cw_seq fun _ hK2 => ?_
 refine cw_block ?_
 refine cw_rs fun _ κ => ?_
 refine Sc 1 rfl (by kernel_rfl) rfl (by exact BlkR.cells (hs1.sat _ _ _ hb1) rfl) ?_
 refine as_h rfl (h_call (by kernel_rfl) rfl ?_)
 refine (hp_kind hs1.sat h).mono ?_
 rintro _ w2 ⟨rfl, hs2⟩
 have h:=h.mono hs2.le
 have hb1:=hs2.le _ _ hb1
 have hT:=hT.then hs2
 have hz2 := hs2.size
 refine as_q rfl rfl (q_eqF rfl rfl (by omega)) ?_
 refine Sa rfl rfl ?_
 refine as_nil (κ _ _ ?_)
 refine cw_false rfl ?_
 refine cw_rs fun _ κ => ?_
 refine Sm rfl rfl ?_
 refine as_q rfl rfl (q_ltF rfl rfl (by omega)) ?_
 refine Sa rfl rfl ?_
 refine as_nil (κ _ _ ?_)
 refine cw_false rfl ?_
 refine cw_skip ?_
 refine hK2 _ _ ?_
 refine cw_rs fun _ κ => ?_
 refine Sm rfl rfl ?_
 refine Sc 1 rfl (by kernel_rfl) rfl (by exact BlkR.cells (hs2.sat _ _ _ hb1) rfl) ?_
 refine Sm rfl rfl ?_
 refine as_h rfl (h_call (by kernel_rfl) rfl ?_)
 refine (dr_each (z := z) hs2.sat h).mono ?_
 rintro _ w3 ⟨c1, c2, c3, Me, rfl, hs3, hc1, hc2, hc3, hcw⟩
 have h:=h.mono hs3.le
 have hT:=hT.then hs3
 have hz3 := hs3.size
 refine as_h rfl (h_call (by kernel_rfl) rfl ?_)
 have hsz_ := hT.size
 have hcl := hc2.1.lt
 refine (col_all (S := Just c2) (xs := l.take (z).toNat) (lb := [.pointer (some ⟨c1, 0, none⟩), .pointer (some ⟨c2, 0, none⟩), .pointer (some ⟨c3, 0, none⟩)]) hs3.sat (fun M' w' hk => dr_each1 (hk.le _ _ hc1) (hc2.then hk) (hk.le _ _ hc3) (h.mono hk.le) (by omega) (by omega) (by omega)) (fun k hk => by have hk : k = c2 := hk; subst hk; exact ⟨hcl, hc2.2⟩) (by rw [List.length_take]; omega)).mono ?_
 rintro cv w4 ⟨Mc, hs4, hcb, hcf⟩
 have hT:=hT.trans hs4 (fun b hb h => by have h : b = c2 := h; omega)
 refine Sa rfl rfl ?_
 refine Sa rfl rfl ?_
 refine as_nil (κ _ _ ?_)
 refine cw_ret ?_
 exact ⟨_, (res_tmp rfl (res_tmp rfl res_nil)), cv, Mc, rfl, hT, hcb, fun g hg => by have := hcf g hg; omega⟩
theorem sl_equal {w : World} {M : Mem} {va vb : Value} {n m : Nat} {xs ys : List El} (hs : Sat M w) (hn : n ≤ 1000000000) (hr : Rds M w 2 va n (els xs)) (hr2 : Rds M w 2 vb m (els ys)) :
  Does Tryz.prog 34 #[va, vb] w (fun v w' => v = .bool (decide (xs = ys)) ∧ Step Nope M w M w') := by
 have hT := Step.refl Nope hs
 have hl1 := hr.els_len hs
 have hl2 := hr2.els_len hs
 obtain ⟨a, c, rfl, hac, _⟩ := hr.slice hs
 obtain ⟨b, d, rfl, hbd, _⟩ := hr2.slice hs
 refine fn_enter Tryz.func34 rfl (rs := [.tmp 4]) rfl rfl rfl rfl ?_
 refine cw_rs fun _ κ => ?_
 refine Sa rfl rfl ?_
 refine as_nil (κ _ _ ?_)
 refine cw_seq fun _ hK2 => ?_
 refine cw_rs fun _ κ => ?_
 refine Sm rfl rfl ?_
 refine as_q rfl rfl (q_len (by kernel_rfl) rfl _) ?_
 refine Sm rfl rfl ?_
 refine as_q rfl rfl (q_len (by kernel_rfl) rfl _) ?_
 refine as_q rfl rfl (q_ne rfl rfl) ?_
 refine as_nil (κ _ _ ?_)
 refine cw_cond rfl (fun hc0 => ?_) (fun hc0 => ?_)
 ·
  have hne : n ≠ m := by simp at hc0; omega
  refine cw_rs fun _ κ => ?_
  refine Sa rfl rfl ?_
  refine as_nil (κ _ _ ?_)
  refine cw_ret ?_
  exact ⟨_, (res_tmp rfl res_nil), by rw [decide_eq_false (fun h => hne (by rw [← hl1, ← hl2, h]))]; rfl, hT⟩
 ·
  have hne : n = m := by simp at hc0; omega
  refine cw_skip ?_
  refine hK2 _ _ ?_
  refine cw_seq fun _ hK5 => ?_
  refine cw_rs fun _ κ => ?_
  refine Sm rfl rfl ?_
  refine as_q rfl rfl (q_len (by kernel_rfl) rfl _) ?_
  refine Sm rfl rfl ?_
  refine as_nil (κ _ _ ?_)
  refine cw_block ?_
  refine cw_loop (fun mm l w' => ∃ i : Nat, mm = n - i ∧ i ≤ n ∧ (∀ j, j < i → xs[j]? = ys[j]?) ∧ l = [(0, .slice a n c), (1, .slice b m d), (12, .int .i64 (n : Nat)), (13, .int .i64 i)] ∧ Step Nope M w M w') (n) [(0, .slice a n c), (1, .slice b m d), (12, .int .i64 (n : Nat)), (13, .int .i64 (0 : Nat))] (.cons rfl (.cons rfl (.cons rfl (.cons rfl (.nil _))))) ?_ ?_
  ·
   exact ⟨0, rfl, Nat.zero_le _, fun j hj => by omega, rfl, hT⟩
  clear hT
  rintro mm l w1 ⟨i, rfl, hi, hpre, rfl, hT⟩
  refine cw_rs fun _ κ => ?_
  refine as_q rfl rfl (q_lt rfl rfl) ?_
  refine as_nil (κ _ _ ?_)
  refine cw_seq fun _ hK8 => ?_
  refine cw_cond rfl (fun hc1 => ?_) (fun hc1 => ?_)
  ·
   have hlt : i < n := by have := of_decide_eq_true hc1; omega
   obtain ⟨g, o, rfl⟩ := (hr.now hs).there (by omega)
   obtain ⟨g2, o2, rfl⟩ := (hr2.now hs).there (by omega)
   obtain ⟨x, hx⟩ : ∃ z, xs[i]? = some z := ⟨xs[i], by simp⟩
   obtain ⟨y, hy⟩ : ∃ z, ys[i]? = some z := ⟨ys[i], by simp⟩
   refine cw_skip ?_
   refine hK8 _ _ ?_
   refine cw_seq fun _ hK9 => ?_
   refine cw_block ?_
   refine cw_rs fun _ κ => ?_
   refine Sm rfl rfl ?_
   refine Sa rfl rfl ?_
   refine as_nil (κ _ _ ?_)
   refine cw_dr (by kernel_rfl) fun _ κ => ?_
   have hs1 := Step.drew hT.sat
   have hT:=hT.then hs1
   refine Dm 0 1 rfl (by kernel_rfl) rfl ?_
   refine Dm 1 3 rfl (by kernel_rfl) rfl ?_
   refine Dq 2 7 rfl (by kernel_rfl) (fun _ => (q_indexAddr (e := 24) (size := 2) (by kernel_rfl) (by kernel_rfl) rfl rfl (by omega) (by omega))) ?_
   refine Dlc 3 15 2 rfl (by kernel_rfl) (by kernel_rfl) rfl ((hr _ _ hT).el (j := (i : Int).toNat) (by simpa using hx)) ?_
   refine Dm 4 31 rfl (by kernel_rfl) rfl ?_
   refine Dm 5 63 rfl (by kernel_rfl) rfl ?_
   refine Dq 6 127 rfl (by kernel_rfl) (fun _ => (q_indexAddr (e := 24) (size := 2) (by kernel_rfl) (by kernel_rfl) rfl rfl (by omega) (by omega))) ?_
   refine Dlc 7 255 2 rfl (by kernel_rfl) (by kernel_rfl) rfl ((hr2 _ _ hT).el (j := (i : Int).toNat) (by simpa using hy)) ?_
   refine Dq 8 511 rfl (by kernel_rfl) (fun _ => (q_neE (a := x) (b := y) (e := 2) (by kernel_rfl) (by kernel_rfl) (by kernel_rfl) (by kernel_rfl) (by kernel_rfl) (by kernel_rfl) rfl rfl)) ?_
   refine Dd (by kernel_rfl) (κ _ _ ?_)
   refine cw_cond rfl (fun hc2 => ?_) (fun hc2 => ?_)
   ·
    replace hc2 : x ≠ y := by simpa using hc2
    refine cw_rs fun _ κ => ?_
    refine Sa rfl rfl ?_
    refine as_nil (κ _ _ ?_)
    refine cw_ret ?_
    exact ⟨_, (res_tmp rfl res_nil), by rw [decide_eq_false (fun h => by subst h; rw [hx] at hy; cases hy; exact hc2 rfl)]; rfl, hT⟩
   ·
    replace hc2 : x = y := by simpa using hc2
    refine cw_skip ?_
    refine hK9 _ _ ?_
    refine cw_region fun _ κ => ?_
    refine as_q rfl rfl (q_addx rfl rfl (by omega) (by omega)) ?_
    refine Sm rfl rfl ?_
    refine as_nil (κ _ _ ?_)
    exact ⟨_, _, by omega, (.cons rfl (.cons rfl (.cons rfl (.cons rfl (.nil _))))), i + 1, rfl, by omega, fun j hj => by
     rcases Nat.lt_or_ge j i with h | h
     · exact hpre j h
     ·
      obtain rfl : j = i := by omega
      rw [hx, hy, hc2], rfl, hT⟩
  ·
   have hge : i = n := by have := of_decide_eq_false hc1; omega
   refine cw_exit ?_
   refine hK5 _ _ ?_
   refine cw_rs fun _ κ => ?_
   refine Sa rfl rfl ?_
   refine as_nil (κ _ _ ?_)
   refine cw_ret ?_
   have hall : ∀ j, xs[j]? = ys[j]? := fun j => by
    rcases Nat.lt_or_ge j n with hj | hj
    · exact hpre j (by omega)
    · rw [List.getElem?_eq_none (by omega), List.getElem?_eq_none (by omega)]
   exact ⟨_, (res_tmp rfl res_nil), by rw [decide_eq_true (List.ext_getElem? fun j => hall j)]; rfl, hT⟩
end Go.Proofs.YtgcgjpfjjgalmaaGreat
/- A drain that is made once, part 1. -/
namespace Go.Proofs.YtgcgjpfjjgalmaaGreat
open Go Go.Eng
theorem dr_of_n {w : World} {M : Mem} (hs : Sat M w) :
  Does Tryz.prog 18 #[.agg #[.nilIface]] w (fun r w' => ∃ q M', r = .pointer (some ⟨q, 0, none⟩) ∧ Step Nope M w M' w' ∧ Own w' M' q [.nilIface, .slice none 0 0, .int .u32 0, .int .i32 0, .int .u32 0, .int .i32 0] 115 ∧ w.heap.size ≤ q) := by
 have hT := Step.refl Nope hs
 refine fn_enter Tryz.func18 rfl (rs := [.tmp 2]) rfl rfl rfl rfl ?_
 refine cw_rs fun _ κ => ?_
 refine as_h rfl (h_boxM hs rfl rfl fun b1 M1 w1 hs1 hb1 e1 => ?_)
 have hT:=hT.then hs1
 have hz1 := hs1.size
 refine Sa rfl rfl ?_
 refine as_nil (κ _ _ ?_)
 refine cw_rs fun _ κ => ?_
 refine Sc 1 rfl (by kernel_rfl) rfl (by exact BlkR.cells (hs1.sat _ _ _ hb1) rfl) ?_
 refine as_q rfl rfl (q_build (zs := [.nilIface, (.slice none 0 0), (.int .u32 0), (.int .i32 0), (.int .u32 0), (.int .i32 0)]) (places := [(0, 1), (1, 1), (2, 3), (5, 1)]) (cs := [_, _, _, _, _, _]) (by kernel_rfl) (by kernel_rfl) rfl rfl) ?_
 have hqaq := hT.size
 refine as_h rfl (h_boxO hs1.sat rfl rfl fun bq w2 hs2 hoq eq => ?_)
 have hT:=hT.then hs2
 have hz2 := hs2.size
 have hlq := hoq.1.lt
 refine Sa rfl rfl ?_
 refine as_nil (κ _ _ ?_)
 refine cw_ret ?_
 exact ⟨_, (res_tmp rfl res_nil), bq, _, rfl, hT, hoq, by omega⟩
theorem dr_of_s {w : World} {M : Mem} {d : TypeId} {u : Value} (hs : Sat M w) :
  Does Tryz.prog 18 #[.agg #[(.iface d u)]] w (fun r w' => ∃ q M', r = .pointer (some ⟨q, 0, none⟩) ∧ Step Nope M w M' w' ∧ Own w' M' q [(.iface d u), .slice none 0 0, .int .u32 0, .int .i32 0, .int .u32 0, .int .i32 0] 115 ∧ w.heap.size ≤ q) := by
 have hT := Step.refl Nope hs
 refine fn_enter Tryz.func18 rfl (rs := [.tmp 2]) rfl rfl rfl rfl ?_
 refine cw_rs fun _ κ => ?_
 refine as_h rfl (h_boxM hs rfl rfl fun b1 M1 w1 hs1 hb1 e1 => ?_)
 have hT:=hT.then hs1
 have hz1 := hs1.size
 refine Sa rfl rfl ?_
 refine as_nil (κ _ _ ?_)
 refine cw_rs fun _ κ => ?_
 refine Sc 1 rfl (by kernel_rfl) rfl (by exact BlkR.cells (hs1.sat _ _ _ hb1) rfl) ?_
 refine as_q rfl rfl (q_build (zs := [.nilIface, (.slice none 0 0), (.int .u32 0), (.int .i32 0), (.int .u32 0), (.int .i32 0)]) (places := [(0, 1), (1, 1), (2, 3), (5, 1)]) (cs := [_, _, _, _, _, _]) (by kernel_rfl) (by kernel_rfl) rfl rfl) ?_
 have hqaq := hT.size
 refine as_h rfl (h_boxO hs1.sat rfl rfl fun bq w2 hs2 hoq eq => ?_)
 have hT:=hT.then hs2
 have hz2 := hs2.size
 have hlq := hoq.1.lt
 refine Sa rfl rfl ?_
 refine as_nil (κ _ _ ?_)
 refine cw_ret ?_
 exact ⟨_, (res_tmp rfl res_nil), bq, _, rfl, hT, hoq, by omega⟩
theorem dr_of {w : World} {M : Mem} {k : Nat} {l : List El} {hv : Value} (hs : Sat M w) (h : HVal M k l hv) :
  Does Tryz.prog 18 #[.agg #[hv]] w (fun r w' => ∃ q M', r = .pointer (some ⟨q, 0, none⟩) ∧ Step Nope M w M' w' ∧ Own w' M' q [hv, .slice none 0 0, .int .u32 0, .int .i32 0, .int .u32 0, .int .i32 0] 115 ∧ w.heap.size ≤ q) := by
 rcases h.shape with rfl | ⟨d, u, rfl⟩
 · exact dr_of_n hs
 · exact dr_of_s hs
theorem dr_done_0 {w : World} {M : Mem} {q : Nat} {hv sv : Value} (hs : Sat M w) (ho : Own w M q [hv, sv, .int .u32 0, .int .i32 0, .int .u32 0, .int .i32 0] 115) :
  Does Tryz.prog 19 #[.pointer (some ⟨q, 0, none⟩)] w (fun v w' => v = .int .i64 0 ∧ Step Nope M w M w') := by
 have hT := Step.refl Nope hs
 refine fn_enter Tryz.func19 rfl (rs := [.tmp 2]) rfl rfl rfl rfl ?_
 refine cw_rs fun _ κ => ?_
 refine Sa rfl rfl ?_
 refine as_nil (κ _ _ ?_)
 refine cw_seq fun _ hK2 => ?_
 refine cw_rs fun _ κ => ?_
 refine Sm rfl rfl ?_
 refine as_q rfl rfl (q_eqnil (by kernel_rfl) rfl) ?_
 refine as_nil (κ _ _ ?_)
 refine cw_false rfl ?_
 refine cw_skip ?_
 refine hK2 _ _ ?_
 refine cw_rs fun _ κ => ?_
 refine Sm rfl rfl ?_
 refine as_q rfl rfl (q_nilp rfl) ?_
 refine Sf 5 rfl (by kernel_rfl) rfl ?_
 refine as_h rfl (h_call (by kernel_rfl) rfl ?_)
 refine (int_load hs (ho.at rfl)).mono ?_
 rintro _ w1 ⟨rfl, hs1⟩
 have hT:=hT.then hs1
 refine as_q rfl rfl (q_convx (by kernel_rfl) (by kernel_rfl) rfl (by exact wrap64_of (by omega) (by omega))) ?_
 refine Sa rfl rfl ?_
 refine as_nil (κ _ _ ?_)
 refine cw_ret ?_
 exact ⟨_, (res_tmp rfl res_nil), rfl, hT⟩
theorem dr_done_1 {w : World} {M : Mem} {q : Nat} {hv sv : Value} (hs : Sat M w) (ho : Own w M q [hv, sv, .int .u32 1, .int .i32 0, .int .u32 0, .int .i32 1] 115) :
  Does Tryz.prog 19 #[.pointer (some ⟨q, 0, none⟩)] w (fun v w' => v = .int .i64 1 ∧ Step Nope M w M w') := by
 have hT := Step.refl Nope hs
 refine fn_enter Tryz.func19 rfl (rs := [.tmp 2]) rfl rfl rfl rfl ?_
 refine cw_rs fun _ κ => ?_
 refine Sa rfl rfl ?_
 refine as_nil (κ _ _ ?_)
 refine cw_seq fun _ hK2 => ?_
 refine cw_rs fun _ κ => ?_
 refine Sm rfl rfl ?_
 refine as_q rfl rfl (q_eqnil (by kernel_rfl) rfl) ?_
 refine as_nil (κ _ _ ?_)
 refine cw_false rfl ?_
 refine cw_skip ?_
 refine hK2 _ _ ?_
 refine cw_rs fun _ κ => ?_
 refine Sm rfl rfl ?_
 refine as_q rfl rfl (q_nilp rfl) ?_
 refine Sf 5 rfl (by kernel_rfl) rfl ?_
 refine as_h rfl (h_call (by kernel_rfl) rfl ?_)
 refine (int_load hs (ho.at rfl)).mono ?_
 rintro _ w1 ⟨rfl, hs1⟩
 have hT:=hT.then hs1
 refine as_q rfl rfl (q_convx (by kernel_rfl) (by kernel_rfl) rfl (by exact wrap64_of (by omega) (by omega))) ?_
 refine Sa rfl rfl ?_
 refine as_nil (κ _ _ ?_)
 refine cw_ret ?_
 exact ⟨_, (res_tmp rfl res_nil), rfl, hT⟩
theorem dr_take {w : World} {M : Mem} {q k : Nat} {l : List El} {hv sv : Value} (hs : Sat M w) (hz : l.length < 100000000) (ho : Own w M q [hv, sv, .int .u32 0, .int .i32 1, .int .u32 0, .int .i32 0] 115) (h : HVal M k l hv) :
  Does Tryz.prog 37 #[.pointer (some ⟨q, 0, none⟩)] w (fun _ w' => ∃ M', Step (Just q) M w M' w' ∧ ∃ sv2, Own w' M' q [hv, sv2, .int .u32 0, .int .i32 1, .int .u32 0, .int .i32 1] 115 ∧ Buf w' M' 24 2 sv2 l.length (els l) ∧ HVal M' k l hv ∧ ∀ g, sv2.ownBlock = some g → w.heap.size ≤ g) := by
 have hT := Step.refl (Just q) hs
 have hql := ho.1.lt
 refine fn_enter Tryz.func37 rfl (rs := []) rfl rfl rfl rfl ?_
 refine cw_rs fun _ κ => ?_
 refine Sm rfl rfl ?_
 refine Sm rfl rfl ?_
 refine as_q rfl rfl (q_nilp rfl) ?_
 refine Sf 0 rfl (by kernel_rfl) rfl ?_
 refine Sc 1 rfl (by kernel_rfl) rfl (by exact Blk.cells ho.1 rfl) ?_
 refine as_h rfl (h_call (by kernel_rfl) rfl ?_)
 have hqs := ho.1.lt
 refine (dr_sorted hs h hz).mono ?_
 rintro sv2 w1 ⟨Ms, hs1, hb2, hf2⟩
 have ho:=ho.then hs1
 have h:=h.mono hs1.le
 have hT:=hT.then hs1
 have hz1 := hs1.size
 obtain ⟨a2, c2, rfl, _, _⟩ := hb2.slice
 refine as_q rfl rfl (q_nilp rfl) ?_
 refine Sf 1 rfl (by kernel_rfl) rfl ?_
 refine as_h0 (h_store hs1.sat ho rfl rfl rfl (by kernel_rfl) rfl rfl rfl fun w2 hs2 hn2 => ?_)
 have hb2:=hb2.step hs2 (fun g hg h => by have h : g = q := h; have := hf2 g hg; omega)
 have h:=h.mono hs2.le
 clear ho; have ho := hn2; clear hn2
 have hT:=hT.also hs2
 have hz2 := hs2.size
 refine as_nil (κ _ _ ?_)
 refine cw_region fun _ κ => ?_
 refine Sm rfl rfl ?_
 refine as_q rfl rfl (q_nilp rfl) ?_
 refine Sf 5 rfl (by kernel_rfl) rfl ?_
 refine as_h rfl (h_call (by kernel_rfl) rfl ?_)
 refine (int_add hs2.sat ho rfl).mono ?_
 rintro _ w3 ⟨hs3, ho3⟩
 have hb2:=hb2.step hs3 (fun g hg h => by have h : g = q := h; have := hf2 g hg; omega)
 have h:=h.mono hs3.le
 have hT:=hT.also hs3
 clear ho; have ho := ho3; clear ho3
 refine as_nil (κ _ _ ?_)
 exact ⟨_, res_nil, Ms, hT, _, ho, hb2, h, fun g hg => by have := hf2 g hg; omega⟩
theorem dr_slow {w : World} {M : Mem} {q k : Nat} {l : List El} {hv sv : Value} (hs : Sat M w) (hz : l.length < 100000000) (ho : Own w M q [hv, sv, .int .u32 0, .int .i32 0, .int .u32 0, .int .i32 0] 115) (h : HVal M k l hv) :
  Does Tryz.prog 45 #[.pointer (some ⟨q, 2, none⟩), .func (.func 37) #[.pointer (some ⟨q, 0, none⟩)] #[]] w (fun _ w' => ∃ M', Step (Just q) M w M' w' ∧ ∃ sv2, Own w' M' q [hv, sv2, .int .u32 1, .int .i32 0, .int .u32 0, .int .i32 1] 115 ∧ Buf w' M' 24 2 sv2 l.length (els l) ∧ HVal M' k l hv ∧ ∀ g, sv2.ownBlock = some g → w.heap.size ≤ g) := by
 have hT := Step.refl (Just q) hs
 have hql := ho.1.lt
 refine fn_enterD (J := fun _ w1 => ∃ M1, Step (Just q) M w M1 w1 ∧ ∃ sv2, Own w1 M1 q [hv, sv2, .int .u32 0, .int .i32 1, .int .u32 0, .int .i32 1] 115 ∧ Buf w1 M1 24 2 sv2 l.length (els l) ∧ HVal M1 k l hv ∧ ∀ g, sv2.ownBlock = some g → w.heap.size ≤ g) [⟨.fn (.func 51) #[], [Value.pointer (some ⟨q, 2, none⟩), .bool true].toArray⟩, ⟨.fn (.func 50) #[], [Value.pointer (some ⟨q, 3, none⟩)].toArray⟩] Tryz.func45 rfl rfl rfl rfl ?_ ?_
 ·
  refine cd_seqK (D := []) fun K1 hK1 => cd_cw (cw_region fun K2 hK2 => ?_)
  refine Sm rfl rfl ?_
  refine as_q rfl rfl (q_nilp rfl) ?_
  refine Sf 1 rfl (by kernel_rfl) rfl ?_
  refine as_h rfl (h_call (by kernel_rfl) rfl ?_)
  refine (lock (o := 3) hs ho rfl).mono ?_
  rintro _ w1 ⟨hs1, ho1⟩
  have h:=h.mono hs1.le
  have hT:=hT.also hs1
  clear ho; have ho : Own w1 M q [hv, sv, .int .u32 0, .int .i32 1, .int .u32 0, .int .i32 0] 115 := ho1; clear ho1
  refine as_nil (hK2 _ _ (hK1 _ _ ?_))
  refine cd_seqK (D := [⟨.fn (.func 50) #[], [Value.pointer (some ⟨q, 3, none⟩)].toArray⟩]) fun K3 hK3 => cd_region ?_
  refine asd_q rfl rfl (q_move rfl) ?_
  refine asd_q rfl rfl (q_nilp rfl) ?_
  refine asd_q rfl rfl (q_fieldAddr (off := 1) (by kernel_rfl) rfl) ?_
  refine asd_defer rfl rfl rfl (hK3 _ _ ?_)
  refine cd_seqK (D := [⟨.fn (.func 50) #[], [Value.pointer (some ⟨q, 3, none⟩)].toArray⟩]) fun K4 hK4 => cd_cw (cw_region fun K5 hK5 => ?_)
  refine Sm rfl rfl ?_
  refine as_q rfl rfl (q_nilp rfl) ?_
  refine Sf 0 rfl (by kernel_rfl) rfl ?_
  refine as_h rfl (h_call (by kernel_rfl) rfl ?_)
  refine (bool_load0 hs1.sat (ho.at (o := 2) rfl)).mono ?_
  rintro _ w2 ⟨rfl, hs2⟩
  have ho:=ho.then hs2
  have h:=h.mono hs2.le
  have hT:=hT.then hs2
  refine as_q rfl rfl (q_not rfl) ?_
  refine as_nil (hK5 _ _ (hK4 _ _ ?_))
  refine cd_true rfl ?_
  refine cd_seqK (D := [⟨.fn (.func 51) #[], [Value.pointer (some ⟨q, 2, none⟩), .bool true].toArray⟩, ⟨.fn (.func 50) #[], [Value.pointer (some ⟨q, 3, none⟩)].toArray⟩]) fun K6 hK6 => cd_region ?_
  refine asd_q rfl rfl (q_move rfl) ?_
  refine asd_q rfl rfl (q_nilp rfl) ?_
  refine asd_q rfl rfl (q_fieldAddr (off := 0) (by kernel_rfl) rfl) ?_
  refine asd_defer rfl rfl rfl (hK6 _ _ ?_)
  refine cd_cw (cw_region fun K7 hK7 => ?_)
  refine Sm rfl rfl ?_
  have hsz := hT.size
  refine as_h rfl (h_callv (f := 37) (first := [.pointer (some ⟨q, 0, none⟩)]) (cap := []) (by kernel_rfl) rfl rfl rfl ?_)
  refine (dr_take hs2.sat hz ho h).mono ?_
  rintro _ w3 ⟨M2, hs3, sv2, ho3, hb2, h2, hf2⟩
  have hT:=hT.also hs3
  clear ho; have ho := ho3; clear ho3
  refine as_nil (hK7 _ _ ⟨M2, hT, sv2, ho, hb2, h2, fun g hg => by have := hf2 g hg; omega⟩)
 ·
  rintro l1 w1 tmps ⟨M1, hT, sv2, ho, hb2, h, hf2⟩
  refine leave_one (by kernel_rfl) ((bool_store (o := 2) hT.sat ho rfl).mono ?_)
  rintro _ w2 ⟨hs2, ho2⟩
  have hb2:=hb2.step hs2 (fun g hg h => by have h : g = q := h; have := hf2 g hg; omega)
  have hT:=hT.also hs2
  refine leave_one (by kernel_rfl) ((unlock (o := 3) hT.sat ho2 rfl).mono ?_)
  rintro _ w3 ⟨hs3, ho3⟩
  have hb2:=hb2.step hs3 (fun g hg h => by have h : g = q := h; have := hf2 g hg; omega)
  have hT:=hT.also hs3
  exact ⟨_, results_none rfl _ _ _, M1, hT, sv2, ho3, hb2, h, hf2⟩
theorem dr_first {w : World} {M : Mem} {q k : Nat} {l : List El} {hv sv : Value} (hs : Sat M w) (hz : l.length < 100000000) (ho : Own w M q [hv, sv, .int .u32 0, .int .i32 0, .int .u32 0, .int .i32 0] 115) (h : HVal M k l hv) :
  Does Tryz.prog 36 #[.pointer (some ⟨q, 2, none⟩), .func (.func 37) #[.pointer (some ⟨q, 0, none⟩)] #[]] w (fun _ w' => ∃ M', Step (Just q) M w M' w' ∧ ∃ sv2, Own w' M' q [hv, sv2, .int .u32 1, .int .i32 0, .int .u32 0, .int .i32 1] 115 ∧ Buf w' M' 24 2 sv2 l.length (els l) ∧ HVal M' k l hv ∧ ∀ g, sv2.ownBlock = some g → w.heap.size ≤ g) := by
 have hT := Step.refl (Just q) hs
 refine fn_enter Tryz.func36 rfl (rs := []) rfl rfl rfl rfl ?_
 refine cw_rs fun _ κ => ?_
 refine Sm rfl rfl ?_
 refine as_q rfl rfl (q_nilp rfl) ?_
 refine Sf 0 rfl (by kernel_rfl) rfl ?_
 refine as_h rfl (h_call (by kernel_rfl) rfl ?_)
 refine (bool_load0 hs (ho.at (o := 2) rfl)).mono ?_
 rintro _ w1 ⟨rfl, hs1⟩
 have ho:=ho.then hs1
 have h:=h.mono hs1.le
 have hT:=hT.then hs1
 refine as_q rfl rfl (q_not rfl) ?_
 refine as_nil (κ _ _ ?_)
 refine cw_true rfl ?_
 refine cw_region fun _ κ => ?_
 refine Sm rfl rfl ?_
 refine Sm rfl rfl ?_
 refine as_h rfl (h_call (by kernel_rfl) rfl ?_)
 have hsz := hT.size
 refine (dr_slow hs1.sat hz ho h).mono ?_
 rintro _ w2 ⟨M2, hs2, sv2, ho2, hb2, h2, hf2⟩
 have hT:=hT.also hs2
 clear ho; have ho := ho2; clear ho2
 refine as_nil (κ _ _ ?_)
 exact ⟨_, res_nil, M2, hT, sv2, ho, hb2, h2, fun g hg => by have := hf2 g hg; omega⟩
theorem dr_again {w : World} {M : Mem} {q : Nat} {hv sv fv : Value} (hs : Sat M w) (ho : Own w M q [hv, sv, .int .u32 1, .int .i32 0, .int .u32 0, .int .i32 1] 115) :
  Does Tryz.prog 36 #[.pointer (some ⟨q, 2, none⟩), fv] w (fun _ w' => Step Nope M w M w') := by
 have hT := Step.refl Nope hs
 refine fn_enter Tryz.func36 rfl (rs := []) rfl rfl rfl rfl ?_
 refine cw_rs fun _ κ => ?_
 refine Sm rfl rfl ?_
 refine as_q rfl rfl (q_nilp rfl) ?_
 refine Sf 0 rfl (by kernel_rfl) rfl ?_
 refine as_h rfl (h_call (by kernel_rfl) rfl ?_)
 refine (bool_load1 hs (ho.at (o := 2) rfl)).mono ?_
 rintro _ w1 ⟨rfl, hs1⟩
 have hT:=hT.then hs1
 refine as_q rfl rfl (q_not rfl) ?_
 refine as_nil (κ _ _ ?_)
 refine cw_false rfl ?_
 refine cw_skip ?_
 exact ⟨_, res_nil, hT⟩
end Go.Proofs.YtgcgjpfjjgalmaaGreat
/- A drain that is made once, part 2. -/
namespace Go.Proofs.YtgcgjpfjjgalmaaGreat
open Go Go.Eng
theorem dr_all_first {w : World} {M : Mem} {q k : Nat} {l : List El} {hv sv : Value} (hs : Sat M w) (hz : l.length < 100000000) (ho : Own w M q [hv, sv, .int .u32 0, .int .i32 0, .int .u32 0, .int .i32 0] 115) (h : HVal M k l hv) :
  Does Tryz.prog 20 #[.pointer (some ⟨q, 0, none⟩)] w (fun v w' => ∃ sv2 M', Step (Just q) M w M' w' ∧ Own w' M' q [hv, sv2, .int .u32 1, .int .i32 0, .int .u32 0, .int .i32 1] 115 ∧ Buf w' M' 24 2 sv2 l.length (els l) ∧ HVal M' k l hv ∧ Buf w' M' 24 2 v l.length (els l) ∧ (∀ g, v.ownBlock = some g → w.heap.size ≤ g) ∧ (∀ g, v.ownBlock = some g → sv2.ownBlock ≠ some g) ∧ (sv2 = sv ∨ ∀ g, sv2.ownBlock = some g → w.heap.size ≤ g)) := by
 have hT := Step.refl (Just q) hs
 have hql := ho.1.lt
 refine fn_enter Tryz.func20 rfl (rs := [.tmp 2]) rfl rfl rfl rfl ?_
 refine cw_rs fun _ κ => ?_
 refine Sa rfl rfl ?_
 refine as_nil (κ _ _ ?_)
 refine cw_seq fun _ hK2 => ?_
 refine cw_rs fun _ κ => ?_
 refine Sm rfl rfl ?_
 refine as_q rfl rfl (q_eqnil (by kernel_rfl) rfl) ?_
 refine as_nil (κ _ _ ?_)
 refine cw_false rfl ?_
 refine cw_skip ?_
 refine hK2 _ _ ?_
 refine cw_rs fun _ κ => ?_
 refine Sm rfl rfl ?_
 refine as_q rfl rfl (q_nilp rfl) ?_
 refine Sf 2 rfl (by kernel_rfl) rfl ?_
 refine Sm rfl rfl ?_
 refine as_q rfl rfl (q_func rfl rfl) ?_
 refine as_h rfl (h_call (by kernel_rfl) rfl ?_)
 have hsz := hT.size
 refine (dr_first hs hz ho h).mono ?_
 rintro _ w1 ⟨M2, hs1, sv2, ho1, hb, h2, hf2⟩
 have hT:=hT.also hs1
 clear ho; have ho := ho1; clear ho1
 clear h; have h := h2; clear h2
 have hlt2 := hb.lt
 have hql2 := ho.1.lt
 have hsz2 := hT.size
 refine as_nil (κ _ _ ?_)
 refine cw_rs fun _ κ => ?_
 refine Sm rfl rfl ?_
 refine as_q rfl rfl (q_nilp rfl) ?_
 refine Sf 1 rfl (by kernel_rfl) rfl ?_
 refine S1 rfl (by kernel_rfl) rfl (by exact Blk.cell ho.1 rfl) ?_
 refine as_h rfl (h_call (by kernel_rfl) rfl ?_)
 refine (clxe hs1.sat hb.rds (els_one _) (by omega)).mono ?_
 rintro cv w2 ⟨hs2, hcv, hcf⟩
 have ho:=ho.then hs2
 have hb:=hb.then hs2
 have h:=h.mono hs2.le
 have hT:=hT.then hs2
 obtain ⟨ca, cc, rfl, _, _⟩ := hcv.slice
 refine Sa rfl rfl ?_
 refine as_nil (κ _ _ ?_)
 refine cw_ret ?_
 exact ⟨_, (res_tmp rfl res_nil), sv2, _, hT, ho, hb, h, hcv, fun g hg => by have h1 := hcf g hg; omega, fun g hg h => by have h1 := hcf g hg; have h2 := hlt2 g h; omega, Or.inr fun g hg => by have := hf2 g hg; omega⟩
theorem dr_all_again {w : World} {M : Mem} {q k : Nat} {l : List El} {hv sv : Value} (hs : Sat M w) (hz : l.length < 100000000) (ho : Own w M q [hv, sv, .int .u32 1, .int .i32 0, .int .u32 0, .int .i32 1] 115) (h : HVal M k l hv) (hb : Buf w M 24 2 sv l.length (els l)) :
  Does Tryz.prog 20 #[.pointer (some ⟨q, 0, none⟩)] w (fun v w' => ∃ sv2 M', Step (Just q) M w M' w' ∧ Own w' M' q [hv, sv2, .int .u32 1, .int .i32 0, .int .u32 0, .int .i32 1] 115 ∧ Buf w' M' 24 2 sv2 l.length (els l) ∧ HVal M' k l hv ∧ Buf w' M' 24 2 v l.length (els l) ∧ (∀ g, v.ownBlock = some g → w.heap.size ≤ g) ∧ (∀ g, v.ownBlock = some g → sv2.ownBlock ≠ some g) ∧ (sv2 = sv ∨ ∀ g, sv2.ownBlock = some g → w.heap.size ≤ g)) := by
 have hT := Step.refl Nope hs
 have hql := ho.1.lt
 refine fn_enter Tryz.func20 rfl (rs := [.tmp 2]) rfl rfl rfl rfl ?_
 refine cw_rs fun _ κ => ?_
 refine Sa rfl rfl ?_
 refine as_nil (κ _ _ ?_)
 refine cw_seq fun _ hK2 => ?_
 refine cw_rs fun _ κ => ?_
 refine Sm rfl rfl ?_
 refine as_q rfl rfl (q_eqnil (by kernel_rfl) rfl) ?_
 refine as_nil (κ _ _ ?_)
 refine cw_false rfl ?_
 refine cw_skip ?_
 refine hK2 _ _ ?_
 refine cw_rs fun _ κ => ?_
 refine Sm rfl rfl ?_
 refine as_q rfl rfl (q_nilp rfl) ?_
 refine Sf 2 rfl (by kernel_rfl) rfl ?_
 refine Sm rfl rfl ?_
 refine as_q rfl rfl (q_func rfl rfl) ?_
 refine as_h rfl (h_call (by kernel_rfl) rfl ?_)
 refine (dr_again hs ho).mono ?_
 rintro _ w1 hs1
 have ho:=ho.then hs1
 have h:=h.mono hs1.le
 have hb:=hb.then hs1
 have hT:=hT.then hs1
 have hlt2 := hb.lt
 have hql2 := ho.1.lt
 have hsz2 := hT.size
 refine as_nil (κ _ _ ?_)
 refine cw_rs fun _ κ => ?_
 refine Sm rfl rfl ?_
 refine as_q rfl rfl (q_nilp rfl) ?_
 refine Sf 1 rfl (by kernel_rfl) rfl ?_
 refine S1 rfl (by kernel_rfl) rfl (by exact Blk.cell ho.1 rfl) ?_
 refine as_h rfl (h_call (by kernel_rfl) rfl ?_)
 refine (clxe hs1.sat hb.rds (els_one _) (by omega)).mono ?_
 rintro cv w2 ⟨hs2, hcv, hcf⟩
 have ho:=ho.then hs2
 have h:=h.mono hs2.le
 have hb:=hb.then hs2
 have hT:=hT.then hs2
 obtain ⟨ca, cc, rfl, _, _⟩ := hcv.slice
 refine Sa rfl rfl ?_
 refine as_nil (κ _ _ ?_)
 refine cw_ret ?_
 exact ⟨_, (res_tmp rfl res_nil), sv, _, hT.any _, ho, hb, h, hcv, fun g hg => by have h1 := hcf g hg; omega, fun g hg h => by have h1 := hcf g hg; have h2 := hlt2 g h; omega, Or.inl rfl⟩
end Go.Proofs.YtgcgjpfjjgalmaaGreat
/- Whether two heaps have the same, part 1. -/
namespace Go.Proofs.YtgcgjpfjjgalmaaGreat
open Go Go.Eng
theorem dr_same_1 {w : World} {M : Mem} {k k2 : Nat} {l l2 : List El} {v0 v2 : Value} (hs : Sat M w) (h : HVal M k l v0) (h2 : HVal M k2 l2 v2) (hz : l.length < 100000000) (hz2 : l2.length < 100000000) (hne : l.length = l2.length) :
  Does Tryz.prog 17 #[.agg #[v0], .agg #[v2]] w (fun v w' => v = .bool (decide (l = l2)) ∧ Step Nope M w M w') := by
 have hT := Step.refl Nope hs
 have hs1 := h.shape
 have hs2 := h2.shape
 refine fn_enter Tryz.func17 rfl (rs := [.tmp 4]) rfl rfl rfl rfl ?_
 refine cw_rs fun _ κ => ?_
 refine as_h rfl (h_boxM hs rfl rfl fun b1 M1 w1 hs1 hb1 e1 => ?_)
 have h:=h.mono hs1.le
 have h2:=h2.mono hs1.le
 have hT:=hT.then hs1
 have hz1 := hs1.size
 refine as_h rfl (h_boxM hs1.sat rfl rfl fun b2 M2 w2 hs2 hb2 e2 => ?_)
 have h:=h.mono hs2.le
 have h2:=h2.mono hs2.le
 have hb1:=hs2.le _ _ hb1
 have hT:=hT.then hs2
 have hz2 := hs2.size
 refine Sa rfl rfl ?_
 refine as_nil (κ _ _ ?_)
 refine cw_dr (by kernel_rfl) fun _ κ => ?_
 have hs3 := Step.drew hs2.sat
 have hz3 := hs3.size
 have h:=h.mono hs3.le
 have h2:=h2.mono hs3.le
 have hb1:=hs3.le _ _ hb1
 have hb2:=hs3.le _ _ hb2
 have hT:=hT.then hs3
 refine Dlc 0 1 1 rfl (by kernel_rfl) (by kernel_rfl) rfl (by exact BlkR.cells (hs3.sat _ _ _ hb1) rfl) ?_
 refine Dlc 2 5 1 rfl (by kernel_rfl) (by kernel_rfl) rfl (by exact BlkR.cells (hs3.sat _ _ _ hb2) rfl) ?_
 refine Dh 1 7 rfl (by kernel_rfl) (keep_sift (bs := [F,T]) (by kernel_rfl)) (h_call (by kernel_rfl) rfl ?_)
 refine (hp_size hs3.sat h (by omega)).mono ?_
 rintro _ w4 ⟨rfl, hs4⟩
 have h:=h.mono hs4.le
 have h2:=h2.mono hs4.le
 have hb1:=hs4.le _ _ hb1
 have hb2:=hs4.le _ _ hb2
 have hT:=hT.then hs4
 have hz4 := hs4.size
 refine ⟨(by repeat' first | exact trivial | exact BlkR.cell (hs4.sat _ _ _ hb1) rfl | exact BlkR.cells (hs4.sat _ _ _ hb1) rfl | exact BlkR.cell (hs4.sat _ _ _ hb2) rfl | exact BlkR.cells (hs4.sat _ _ _ hb2) rfl | assumption | refine all_keep ?_ | refine And.intro ?_ ?_), ?_⟩
 refine Dh 3 15 rfl (by kernel_rfl) (keep_sift (bs := [T]) (by kernel_rfl)) (h_call (by kernel_rfl) rfl ?_)
 refine (hp_size hs4.sat h2 (by omega)).mono ?_
 rintro _ w5 ⟨rfl, hs5⟩
 have h:=h.mono hs5.le
 have h2:=h2.mono hs5.le
 have hb1:=hs5.le _ _ hb1
 have hb2:=hs5.le _ _ hb2
 have hT:=hT.then hs5
 have hz5 := hs5.size
 refine ⟨trivial, ?_⟩
 refine Dq 4 31 rfl (by kernel_rfl) (fun _ => (q_eqT rfl rfl (by omega))) ?_
 refine Dm 5 63 rfl (by kernel_rfl) rfl ?_
 refine at_gq (i := 6) (li := lb 13 127) (cellsAre _ _ 1 _) rfl (by kernel_rfl) rfl rfl rfl rfl (fun _ h => q_loadc (n := 1) (by kernel_rfl) rfl h) (by exact BlkR.cells (hs5.sat _ _ _ hb1) rfl) (by kernel_rfl) ?_
 refine at_gq (i := 8) (li := lb 13 383) (cellsAre _ _ 1 _) rfl (by kernel_rfl) rfl rfl rfl rfl (fun _ h => q_loadc (n := 1) (by kernel_rfl) rfl h) (by exact BlkR.cells (hs5.sat _ _ _ hb2) rfl) (by kernel_rfl) ?_
 refine Dgh 7 511 rfl (by kernel_rfl) rfl rfl rfl (h_call (by kernel_rfl) rfl ?_)
 refine (dr_sorted hs5.sat h (by omega)).mono ?_
 rintro sp w6 ⟨Mp, hs6, hbp, hfp⟩
 have h:=h.mono hs6.le
 have h2:=h2.mono hs6.le
 have hb1:=hs6.le _ _ hb1
 have hb2:=hs6.le _ _ hb2
 have hT:=hT.then hs6
 have hz6 := hs6.size
 obtain ⟨ap, cp, rfl, _, _⟩ := hbp.slice
 refine ⟨(by repeat' first | exact trivial | exact BlkR.cell (hs6.sat _ _ _ hb1) rfl | exact BlkR.cells (hs6.sat _ _ _ hb1) rfl | exact BlkR.cell (hs6.sat _ _ _ hb2) rfl | exact BlkR.cells (hs6.sat _ _ _ hb2) rfl | assumption | refine all_keep ?_ | refine And.intro ?_ ?_), ?_⟩
 refine Dgh 9 1023 rfl (by kernel_rfl) rfl rfl rfl (h_call (by kernel_rfl) rfl ?_)
 refine (dr_sorted hs6.sat h2 (by omega)).mono ?_
 rintro sq w7 ⟨Mq, hs7, hbq, hfq⟩
 have h:=h.mono hs7.le
 have hb1:=hs7.le _ _ hb1
 have hb2:=hs7.le _ _ hb2
 have hbp:=hbp.then hs7
 have hT:=hT.then hs7
 have hz7 := hs7.size
 obtain ⟨aq, cq, rfl, _, _⟩ := hbq.slice
 refine ⟨(by repeat' first | exact trivial | exact BlkR.cell (hs7.sat _ _ _ hb1) rfl | exact BlkR.cells (hs7.sat _ _ _ hb1) rfl | exact BlkR.cell (hs7.sat _ _ _ hb2) rfl | exact BlkR.cells (hs7.sat _ _ _ hb2) rfl | assumption | refine all_keep ?_ | refine And.intro ?_ ?_), ?_⟩
 refine Dgh 10 2047 rfl (by kernel_rfl) rfl rfl rfl (h_call (by kernel_rfl) rfl ?_)
 refine (sl_equal hs7.sat (by omega) hbp.rds hbq.rds).mono ?_
 rintro _ w8 ⟨rfl, hs8⟩
 have h:=h.mono hs8.le
 have hb1:=hs8.le _ _ hb1
 have hb2:=hs8.le _ _ hb2
 have hT:=hT.then hs8
 have hz8 := hs8.size
 refine ⟨(by repeat' first | exact trivial | exact BlkR.cell (hs8.sat _ _ _ hb1) rfl | exact BlkR.cells (hs8.sat _ _ _ hb1) rfl | exact BlkR.cell (hs8.sat _ _ _ hb2) rfl | exact BlkR.cells (hs8.sat _ _ _ hb2) rfl | assumption | refine all_keep ?_ | refine And.intro ?_ ?_), ?_⟩
 refine Dq 11 4095 rfl (by kernel_rfl) (fun _ => (q_pick_t rfl rfl)) ?_
 refine Da 12 8191 rfl (by kernel_rfl) rfl ?_
 refine Dd (by kernel_rfl) (κ _ _ ?_)
 refine cw_ret ?_
 exact ⟨_, (res_tmp rfl res_nil), rfl, hT.forget⟩
theorem dr_same_0 {w : World} {M : Mem} {k k2 : Nat} {l l2 : List El} {v0 v2 : Value} (hs : Sat M w) (h : HVal M k l v0) (h2 : HVal M k2 l2 v2) (hz : l.length < 100000000) (hz2 : l2.length < 100000000) (hne : l.length ≠ l2.length) :
  Does Tryz.prog 17 #[.agg #[v0], .agg #[v2]] w (fun v w' => v = .bool (decide (l = l2)) ∧ Step Nope M w M w') := by
 have hT := Step.refl Nope hs
 have hs1 := h.shape
 have hs2 := h2.shape
 refine fn_enter Tryz.func17 rfl (rs := [.tmp 4]) rfl rfl rfl rfl ?_
 refine cw_rs fun _ κ => ?_
 refine as_h rfl (h_boxM hs rfl rfl fun b1 M1 w1 hs1 hb1 e1 => ?_)
 have h:=h.mono hs1.le
 have h2:=h2.mono hs1.le
 have hT:=hT.then hs1
 have hz1 := hs1.size
 refine as_h rfl (h_boxM hs1.sat rfl rfl fun b2 M2 w2 hs2 hb2 e2 => ?_)
 have h:=h.mono hs2.le
 have h2:=h2.mono hs2.le
 have hb1:=hs2.le _ _ hb1
 have hT:=hT.then hs2
 have hz2 := hs2.size
 refine Sa rfl rfl ?_
 refine as_nil (κ _ _ ?_)
 refine cw_dr (by kernel_rfl) fun _ κ => ?_
 have hs3 := Step.drew hs2.sat
 have hz3 := hs3.size
 have h:=h.mono hs3.le
 have h2:=h2.mono hs3.le
 have hb1:=hs3.le _ _ hb1
 have hb2:=hs3.le _ _ hb2
 have hT:=hT.then hs3
 refine Dlc 0 1 1 rfl (by kernel_rfl) (by kernel_rfl) rfl (by exact BlkR.cells (hs3.sat _ _ _ hb1) rfl) ?_
 refine Dlc 2 5 1 rfl (by kernel_rfl) (by kernel_rfl) rfl (by exact BlkR.cells (hs3.sat _ _ _ hb2) rfl) ?_
 refine Dh 1 7 rfl (by kernel_rfl) (keep_sift (bs := [F,T]) (by kernel_rfl)) (h_call (by kernel_rfl) rfl ?_)
 refine (hp_size hs3.sat h (by omega)).mono ?_
 rintro _ w4 ⟨rfl, hs4⟩
 have h:=h.mono hs4.le
 have h2:=h2.mono hs4.le
 have hb1:=hs4.le _ _ hb1
 have hb2:=hs4.le _ _ hb2
 have hT:=hT.then hs4
 have hz4 := hs4.size
 refine ⟨(by repeat' first | exact trivial | exact BlkR.cell (hs4.sat _ _ _ hb1) rfl | exact BlkR.cells (hs4.sat _ _ _ hb1) rfl | exact BlkR.cell (hs4.sat _ _ _ hb2) rfl | exact BlkR.cells (hs4.sat _ _ _ hb2) rfl | assumption | refine all_keep ?_ | refine And.intro ?_ ?_), ?_⟩
 refine Dh 3 15 rfl (by kernel_rfl) (keep_sift (bs := [T]) (by kernel_rfl)) (h_call (by kernel_rfl) rfl ?_)
 refine (hp_size hs4.sat h2 (by omega)).mono ?_
 rintro _ w5 ⟨rfl, hs5⟩
 have h:=h.mono hs5.le
 have hT:=hT.then hs5
 have hz5 := hs5.size
 refine ⟨trivial, ?_⟩
 refine Dq 4 31 rfl (by kernel_rfl) (fun _ => (q_eqF rfl rfl (by omega))) ?_
 refine Dm 5 63 rfl (by kernel_rfl) rfl ?_
 refine Dgs 6 127 rfl (by kernel_rfl) rfl rfl ?_
 refine Dgs 7 255 rfl (by kernel_rfl) rfl rfl ?_
 refine Dgs 8 511 rfl (by kernel_rfl) rfl rfl ?_
 refine Dgs 9 1023 rfl (by kernel_rfl) rfl rfl ?_
 refine Dgs 10 2047 rfl (by kernel_rfl) rfl rfl ?_
 refine Dq 11 4095 rfl (by kernel_rfl) (fun _ => (q_pick_f rfl rfl)) ?_
 refine Da 12 8191 rfl (by kernel_rfl) rfl ?_
 refine Dd (by kernel_rfl) (κ _ _ ?_)
 refine cw_ret ?_
 exact ⟨_, (res_tmp rfl res_nil), by rw [decide_eq_false (fun h => hne (congrArg List.length h))]; rfl, hT.forget⟩
theorem dr_same {w : World} {M : Mem} {k k2 : Nat} {l l2 : List El} {v0 v2 : Value} (hs : Sat M w) (h : HVal M k l v0) (h2 : HVal M k2 l2 v2) (hz : l.length < 100000000) (hz2 : l2.length < 100000000) :
  Does Tryz.prog 17 #[.agg #[v0], .agg #[v2]] w (fun v w' => v = .bool (decide (l = l2)) ∧ Step Nope M w M w') := by
 by_cases hne : l.length = l2.length
 · exact dr_same_1 hs h h2 hz hz2 hne
 · exact dr_same_0 hs h h2 hz hz2 hne
theorem dr_count_n {w : World} {M : Mem} {k : Nat} {l : List El} {x : El} (hs : Sat M w) (h : HVal M k l .nilIface) (hz : l.length < 100000000) :
  Does Tryz.prog 16 #[.agg #[.nilIface], .agg (elc x).toArray] w (fun v w' => v = .int .i64 ((l.countP fun y => decide (y = x) : Nat) : Int) ∧ Step Nope M w M w') := by
 have hT := Step.refl Nope hs
 have hte : l.take ((l.length : Nat) : Int).toNat = l := List.take_of_length_le (by omega)
 refine fn_enterM (K' := fun v w' => v = .int .i64 ((l.countP fun y => decide (y = x) : Nat) : Int) ∧ ∃ M', Step Nope M w M' w') Tryz.func16 rfl (rs := [.tmp 4]) rfl rfl rfl rfl ?_ (fun _ _ _ _ _ _ h => resT rfl h) ?_
 ·
  refine cm_seq fun K0a hK0a => cw_region fun K0b hK0b => ?_
  refine as_h rfl (h_boxM hs rfl rfl fun b1 M1 w1 hs1 hb1 e1 => ?_)
  have h:=h.mono hs1.le
  have hT:=hT.then hs1
  have hz1 := hs1.size
  refine as_h rfl (h_boxM hs1.sat rfl rfl fun b2 M2 w2 hs2 hb2 e2 => ?_)
  have h:=h.mono hs2.le
  have hb1:=hs2.le _ _ hb1
  have hT:=hT.then hs2
  have hz2 := hs2.size
  refine Sa rfl rfl ?_
  refine as_nil (hK0b _ _ (hK0a _ _ ?_))
  clear hK0b hK0a K0b K0a
  refine cm_seq fun K1a hK1a => cw_region fun K1b hK1b => ?_
  have hqan := hT.size
  refine as_h rfl (h_allocO (z := (.int .i64 0)) hs2.sat (by kernel_rfl) rfl fun bn w3 hs3 hon en => ?_)
  have h:=h.mono hs3.le
  have hb1:=hs3.le _ _ hb1
  have hb2:=hs3.le _ _ hb2
  have hT:=hT.then hs3
  have hz3 := hs3.size
  have hln := hon.1.lt
  refine as_h0 (h_store hs3.sat hon rfl rfl rfl (by kernel_rfl) rfl rfl rfl fun w4 hs4 hn4 => ?_)
  have h:=h.mono hs4.le
  have hb1:=hs4.le _ _ hb1
  have hb2:=hs4.le _ _ hb2
  clear hon; have hon := hn4; clear hn4
  have hT:=hT.own hs4 (by omega)
  have hz4 := hs4.size
  refine as_nil (hK1b _ _ (hK1a _ _ ?_))
  clear hK1b hK1a K1b K1a
  refine cm_seqM ?_
  refine cm_seq fun K2a hK2a => cw_drawn (by kernel_rfl) (by kernel_rfl) (by kernel_rfl) rfl rfl fun K2b hK2b => ?_
  have hs5 := Step.drew hs4.sat
  have hz5 := hs5.size
  have h:=h.mono hs5.le
  have hb1:=hs5.le _ _ hb1
  have hb2:=hs5.le _ _ hb2
  have hon:=hon.then hs5
  have hT:=hT.then hs5
  refine Dlc 0 1 1 rfl (by kernel_rfl) (by kernel_rfl) rfl (by exact BlkR.cells (hs5.sat _ _ _ hb1) rfl) ?_
  refine Dlc 1 3 1 rfl (by kernel_rfl) (by kernel_rfl) rfl (by exact BlkR.cells (hs5.sat _ _ _ hb1) rfl) ?_
  refine Dh 2 7 rfl (by kernel_rfl) (keep_sift (bs := [T,F]) (by kernel_rfl)) (h_call (by kernel_rfl) rfl ?_)
  refine (hp_size hs5.sat h (by omega)).mono ?_
  rintro _ w6 ⟨rfl, hs6⟩
  have h:=h.mono hs6.le
  have hb1:=hs6.le _ _ hb1
  have hb2:=hs6.le _ _ hb2
  have hon:=hon.then hs6
  have hT:=hT.then hs6
  have hz6 := hs6.size
  refine ⟨(by repeat' first | exact trivial | exact BlkR.cell (hs6.sat _ _ _ hb1) rfl | exact BlkR.cells (hs6.sat _ _ _ hb1) rfl | exact BlkR.cell (hs6.sat _ _ _ hb2) rfl | exact BlkR.cells (hs6.sat _ _ _ hb2) rfl | exact Blk.cell hon.1 rfl | exact Blk.cells hon.1 rfl | assumption | refine all_keep ?_ | refine And.intro ?_ ?_), ?_⟩
  refine Dh 3 15 rfl (by kernel_rfl) (keep_sift (bs := [T]) (by kernel_rfl)) (h_call (by kernel_rfl) rfl ?_)
  refine (dr_each (z := ((l.length : Nat) : Int)) hs6.sat h).mono ?_
  rintro _ w7 ⟨c1, c2, c3, Mx, rfl, hs7, hc1, hc2, hc3, hcw⟩
  have h:=h.mono hs7.le
  have hb2:=hs7.le _ _ hb2
  have hon:=hon.then hs7
  have hT:=hT.then hs7
  have hz7 := hs7.size
  refine ⟨trivial, ?_⟩
  refine Dd (by kernel_rfl) (hK2b _ _ (hK2a _ _ ?_))
  clear hK2b hK2a K2b K2a
  have hTs := hT.size
  have hln := hon.1.lt
  have hlc := hc2.1.lt
  have hbw : w.heap.size ≤ bn ∧ bn ≠ c2 ∧ w.heap.size ≤ c2 := by omega
  have hxb := hb2
  refine cm_block ?_
  refine cm_rangeC (M := Mx) (S := Just c2) (vs := (l.take ((l.length : Nat) : Int).toNat).map elV) (lb := [.pointer (some ⟨c1, 0, none⟩), .pointer (some ⟨c2, 0, none⟩), .pointer (some ⟨c3, 0, none⟩)]) (gf := 42) rfl rfl rfl (by kernel_rfl) rfl hs7.sat hTs (dr_each1 hc1 hc2 hc3 h (by omega) (by omega) (by omega)) (fun k hk => by have hk : k = c2 := hk; constructor <;> omega) (fun i M' W' => (Own W' M' bn [.int .i64 (((l.take i).countP fun y => decide (y = x) : Nat) : Int)] 3 ∧ Step Nope M w M' W')) (fun i v la M' W' => ∃ bz e, v = elV e ∧ la = [(3, .pointer (some ⟨b2, 0, none⟩)), (5, .pointer (some ⟨bn, 0, none⟩)), (6, .pointer (some ⟨bz, 0, none⟩))] ∧ Own W' M' bz (elc e) 24 ∧ bz ≠ w7.heap.size ∧ bz ≠ w7.heap.size + 1 ∧ bz ≠ c2 ∧ bz ≠ bn ∧ (Own W' M' bn [.int .i64 (((l.take i).countP fun y => decide (y = x) : Nat) : Int)] 3 ∧ Step Nope M w M' W')) ?_ ?_ ?_ ?_ ?_ ?_
  ·
   rintro i M' W' M'' W'' ⟨h1, h3⟩ k
   exact ⟨h1.step k (by rintro (h | h | h) <;> first | (have h : _ = c2 := h; omega) | omega), h3.trans k (fun b hb h => by rcases h with h | h | h <;> first | (have h : b = c2 := h; omega) | omega)⟩
  · exact ⟨hon, hT⟩
  ·
   rintro i v la M' W' M'' W'' ⟨bz, e, rfl, rfl, h0, hz1, hz2, hz3, hz4, h1, h3⟩ k
   exact ⟨bz, e, rfl, rfl, h0.step k (by rintro (h | h | h) <;> first | (have h : _ = c2 := h; omega) | omega), hz1, hz2, hz3, hz4, h1.step k (by rintro (h | h | h) <;> first | (have h : _ = c2 := h; omega) | omega), h3.trans k (fun b hb h => by rcases h with h | h | h <;> first | (have h : b = c2 := h; omega) | omega)⟩
  ·
   rintro i v r M' W' hv ⟨h1, h3⟩ hs' hle hlt
   rw [hte] at hv
   obtain ⟨e, _, rfl⟩ : ∃ e, _ ∧ v = elV e := by
    rw [List.getElem?_map] at hv
    obtain ⟨q, h5, h6⟩ := Option.map_eq_some_iff.1 hv
    exact ⟨q, h5, h6.symm⟩
   have hbl := h1.1.lt
   refine cw_region fun _ κ => ?_
   refine as_h rfl (h_allocO (z := (.agg #[(.int .i64 0), (.int .i64 0)])) hs' (by kernel_rfl) rfl fun bz w8 hs8 hz ez => ?_)
   have hz8 := hs8.size
   refine as_h0 (h_store hs8.sat hz rfl rfl rfl (by kernel_rfl) rfl rfl rfl fun w9 hs9 hz9 => ?_)
   have hst : Step Nope M' W' M' w9 := hs8.trans hs9 (fun b hb h => by have h : b = bz := h; omega)
   have hz0 := hs8.size
   refine as_nil (κ _ _ ⟨_, M', .cons rfl (.cons rfl (.cons rfl (.nil _))), hst, bz, e, rfl, rfl, hz9, by omega, by omega, by omega, by omega, h1.then hst, h3.also hst⟩)
  ·
   rintro i v la r M' W' hv ⟨bz, e, rfl, rfl, hz, hz1, hz2, hz3, hz4, h1, h3⟩ hs' hle hlt
   have hxb := hle _ _ hxb
   have hxs : (l.take (i + 1)).countP (fun y => decide (y = x)) = (l.take i).countP (fun y => decide (y = x)) + if e = x then 1 else 0 := by
    rw [hte, List.getElem?_map] at hv
    obtain ⟨y, hy, hye⟩ := Option.map_eq_some_iff.1 hv
    obtain rfl : y = e := by
     obtain ⟨a, b⟩ := y
     obtain ⟨c, d⟩ := e
     simpa [elV, elc] using hye
    rw [List.take_add_one, hy, List.countP_append]
    simp [List.countP_cons]
   have hcl : (l.take i).countP (fun y => decide (y = x)) ≤ l.length := Nat.le_trans List.countP_le_length (by rw [List.length_take]; omega)
   have hbl := h1.1.lt
   refine cw_block ?_
   refine cw_rs fun _ κ => ?_
   refine Sc 2 rfl (by kernel_rfl) rfl (by exact Blk.cells hz.1 rfl) ?_
   refine Sc 2 rfl (by kernel_rfl) rfl (by exact BlkR.cells (hs' _ _ _ hxb) rfl) ?_
   refine as_q rfl rfl (q_eqE (a := e) (b := x) (e := 2) (by kernel_rfl) (by kernel_rfl) (by kernel_rfl) (by kernel_rfl) (by kernel_rfl) (by kernel_rfl) rfl rfl) ?_
   refine as_nil (κ _ _ ?_)
   refine cw_cond rfl (fun hc => ?_) (fun hc => ?_)
   ·
    have hc:=of_decide_eq_true hc
    rw [if_pos hc] at hxs
    refine cw_region fun _ κ => ?_
    refine S1 rfl (by kernel_rfl) rfl (by exact Blk.cell h1.1 rfl) ?_
    refine as_q rfl rfl (q_addx rfl rfl (by omega) (by omega)) ?_
    refine as_h0 (h_store hs' h1 rfl rfl rfl (by kernel_rfl) rfl rfl rfl fun w10 hs10 h1n => ?_)
    refine as_nil (κ _ _ ⟨M', hs10.wide fun k _ h => (by have h : k = bn := h; exact ⟨fun h2 => by have h2 : k = c2 := h2; omega, by omega, by omega⟩), by rw [hxs, Int.natCast_add]; exact h1n, h3.trans hs10 (fun k hk h => by have h : k = bn := h; omega)⟩)
   ·
    have hc:=of_decide_eq_false hc
    rw [if_neg hc, Nat.add_zero] at hxs
    exact cw_skip ⟨M', Step.refl _ hs', by rw [hxs]; exact h1, h3⟩
  ·
   rintro M' W' hs' hle ⟨h1, h3⟩ D hD hDd
   rw [List.length_map, hte, List.take_length] at h1
   refine cw_rs fun _ κ => ?_
   refine S1 rfl (by kernel_rfl) rfl (by exact Blk.cell h1.1 rfl) ?_
   refine Sa rfl rfl ?_
   exact as_nil (κ _ _ (cw_ret ⟨hDd, _, res_tmp rfl res_nil, rfl, M', h3⟩))
 ·
  rintro v w' D hB hD ⟨h0, M', h1⟩
  have k := Step.putObj h1.sat hD (by simp) (.deferred none)
  exact ⟨h0, (h1.trans k (fun b hb h => by have h : b = D := h; omega)).forget⟩
theorem dr_count_s {w : World} {M : Mem} {d : TypeId} {u : Value} {k : Nat} {l : List El} {x : El} (hs : Sat M w) (h : HVal M k l (.iface d u)) (hz : l.length < 100000000) :
  Does Tryz.prog 16 #[.agg #[(.iface d u)], .agg (elc x).toArray] w (fun v w' => v = .int .i64 ((l.countP fun y => decide (y = x) : Nat) : Int) ∧ Step Nope M w M w') := by
 have hT := Step.refl Nope hs
 have hte : l.take ((l.length : Nat) : Int).toNat = l := List.take_of_length_le (by omega)
 refine fn_enterM (K' := fun v w' => v = .int .i64 ((l.countP fun y => decide (y = x) : Nat) : Int) ∧ ∃ M', Step Nope M w M' w') Tryz.func16 rfl (rs := [.tmp 4]) rfl rfl rfl rfl ?_ (fun _ _ _ _ _ _ h => resT rfl h) ?_
 ·
  refine cm_seq fun K0a hK0a => cw_region fun K0b hK0b => ?_
  refine as_h rfl (h_boxM hs rfl rfl fun b1 M1 w1 hs1 hb1 e1 => ?_)
  have h:=h.mono hs1.le
  have hT:=hT.then hs1
  have hz1 := hs1.size
  refine as_h rfl (h_boxM hs1.sat rfl rfl fun b2 M2 w2 hs2 hb2 e2 => ?_)
  have h:=h.mono hs2.le
  have hb1:=hs2.le _ _ hb1
  have hT:=hT.then hs2
  have hz2 := hs2.size
  refine Sa rfl rfl ?_
  refine as_nil (hK0b _ _ (hK0a _ _ ?_))
  clear hK0b hK0a K0b K0a
  refine cm_seq fun K1a hK1a => cw_region fun K1b hK1b => ?_
  have hqan := hT.size
  refine as_h rfl (h_allocO (z := (.int .i64 0)) hs2.sat (by kernel_rfl) rfl fun bn w3 hs3 hon en => ?_)
  have h:=h.mono hs3.le
  have hb1:=hs3.le _ _ hb1
  have hb2:=hs3.le _ _ hb2
  have hT:=hT.then hs3
  have hz3 := hs3.size
  have hln := hon.1.lt
  refine as_h0 (h_store hs3.sat hon rfl rfl rfl (by kernel_rfl) rfl rfl rfl fun w4 hs4 hn4 => ?_)
  have h:=h.mono hs4.le
  have hb1:=hs4.le _ _ hb1
  have hb2:=hs4.le _ _ hb2
  clear hon; have hon := hn4; clear hn4
  have hT:=hT.own hs4 (by omega)
  have hz4 := hs4.size
  refine as_nil (hK1b _ _ (hK1a _ _ ?_))
  clear hK1b hK1a K1b K1a
  refine cm_seqM ?_
  refine cm_seq fun K2a hK2a => cw_drawn (by kernel_rfl) (by kernel_rfl) (by kernel_rfl) rfl rfl fun K2b hK2b => ?_
  have hs5 := Step.drew hs4.sat
  have hz5 := hs5.size
  have h:=h.mono hs5.le
  have hb1:=hs5.le _ _ hb1
  have hb2:=hs5.le _ _ hb2
  have hon:=hon.then hs5
  have hT:=hT.then hs5
  refine Dlc 0 1 1 rfl (by kernel_rfl) (by kernel_rfl) rfl (by exact BlkR.cells (hs5.sat _ _ _ hb1) rfl) ?_
  refine Dlc 1 3 1 rfl (by kernel_rfl) (by kernel_rfl) rfl (by exact BlkR.cells (hs5.sat _ _ _ hb1) rfl) ?_
  refine Dh 2 7 rfl (by kernel_rfl) (keep_sift (bs := [T,F]) (by kernel_rfl)) (h_call (by kernel_rfl) rfl ?_)
  refine (hp_size hs5.sat h (by omega)).mono ?_
  rintro _ w6 ⟨rfl, hs6⟩
  have h:=h.mono hs6.le
  have hb1:=hs6.le _ _ hb1
  have hb2:=hs6.le _ _ hb2
  have hon:=hon.then hs6
  have hT:=hT.then hs6
  have hz6 := hs6.size
  refine ⟨(by repeat' first | exact trivial | exact BlkR.cell (hs6.sat _ _ _ hb1) rfl | exact BlkR.cells (hs6.sat _ _ _ hb1) rfl | exact BlkR.cell (hs6.sat _ _ _ hb2) rfl | exact BlkR.cells (hs6.sat _ _ _ hb2) rfl | exact Blk.cell hon.1 rfl | exact Blk.cells hon.1 rfl | assumption | refine all_keep ?_ | refine And.intro ?_ ?_), ?_⟩
  refine Dh 3 15 rfl (by kernel_rfl) (keep_sift (bs := [T]) (by kernel_rfl)) (h_call (by kernel_rfl) rfl ?_)
  refine (dr_each (z := ((l.length : Nat) : Int)) hs6.sat h).mono ?_
  rintro _ w7 ⟨c1, c2, c3, Mx, rfl, hs7, hc1, hc2, hc3, hcw⟩
  have h:=h.mono hs7.le
  have hb2:=hs7.le _ _ hb2
  have hon:=hon.then hs7
  have hT:=hT.then hs7
  have hz7 := hs7.size
  refine ⟨trivial, ?_⟩
  refine Dd (by kernel_rfl) (hK2b _ _ (hK2a _ _ ?_))
  clear hK2b hK2a K2b K2a
  have hTs := hT.size
  have hln := hon.1.lt
  have hlc := hc2.1.lt
  have hbw : w.heap.size ≤ bn ∧ bn ≠ c2 ∧ w.heap.size ≤ c2 := by omega
  have hxb := hb2
  refine cm_block ?_
  refine cm_rangeC (M := Mx) (S := Just c2) (vs := (l.take ((l.length : Nat) : Int).toNat).map elV) (lb := [.pointer (some ⟨c1, 0, none⟩), .pointer (some ⟨c2, 0, none⟩), .pointer (some ⟨c3, 0, none⟩)]) (gf := 42) rfl rfl rfl (by kernel_rfl) rfl hs7.sat hTs (dr_each1 hc1 hc2 hc3 h (by omega) (by omega) (by omega)) (fun k hk => by have hk : k = c2 := hk; constructor <;> omega) (fun i M' W' => (Own W' M' bn [.int .i64 (((l.take i).countP fun y => decide (y = x) : Nat) : Int)] 3 ∧ Step Nope M w M' W')) (fun i v la M' W' => ∃ bz e, v = elV e ∧ la = [(3, .pointer (some ⟨b2, 0, none⟩)), (5, .pointer (some ⟨bn, 0, none⟩)), (6, .pointer (some ⟨bz, 0, none⟩))] ∧ Own W' M' bz (elc e) 24 ∧ bz ≠ w7.heap.size ∧ bz ≠ w7.heap.size + 1 ∧ bz ≠ c2 ∧ bz ≠ bn ∧ (Own W' M' bn [.int .i64 (((l.take i).countP fun y => decide (y = x) : Nat) : Int)] 3 ∧ Step Nope M w M' W')) ?_ ?_ ?_ ?_ ?_ ?_
  ·
   rintro i M' W' M'' W'' ⟨h1, h3⟩ k
   exact ⟨h1.step k (by rintro (h | h | h) <;> first | (have h : _ = c2 := h; omega) | omega), h3.trans k (fun b hb h => by rcases h with h | h | h <;> first | (have h : b = c2 := h; omega) | omega)⟩
  · exact ⟨hon, hT⟩
  ·
   rintro i v la M' W' M'' W'' ⟨bz, e, rfl, rfl, h0, hz1, hz2, hz3, hz4, h1, h3⟩ k
   exact ⟨bz, e, rfl, rfl, h0.step k (by rintro (h | h | h) <;> first | (have h : _ = c2 := h; omega) | omega), hz1, hz2, hz3, hz4, h1.step k (by rintro (h | h | h) <;> first | (have h : _ = c2 := h; omega) | omega), h3.trans k (fun b hb h => by rcases h with h | h | h <;> first | (have h : b = c2 := h; omega) | omega)⟩
  ·
   rintro i v r M' W' hv ⟨h1, h3⟩ hs' hle hlt
   rw [hte] at hv
   obtain ⟨e, _, rfl⟩ : ∃ e, _ ∧ v = elV e := by
    rw [List.getElem?_map] at hv
    obtain ⟨q, h5, h6⟩ := Option.map_eq_some_iff.1 hv
    exact ⟨q, h5, h6.symm⟩
   have hbl := h1.1.lt
   refine cw_region fun _ κ => ?_
   refine as_h rfl (h_allocO (z := (.agg #[(.int .i64 0), (.int .i64 0)])) hs' (by kernel_rfl) rfl fun bz w8 hs8 hz ez => ?_)
   have hz8 := hs8.size
   refine as_h0 (h_store hs8.sat hz rfl rfl rfl (by kernel_rfl) rfl rfl rfl fun w9 hs9 hz9 => ?_)
   have hst : Step Nope M' W' M' w9 := hs8.trans hs9 (fun b hb h => by have h : b = bz := h; omega)
   have hz0 := hs8.size
   refine as_nil (κ _ _ ⟨_, M', .cons rfl (.cons rfl (.cons rfl (.nil _))), hst, bz, e, rfl, rfl, hz9, by omega, by omega, by omega, by omega, h1.then hst, h3.also hst⟩)
  ·
   rintro i v la r M' W' hv ⟨bz, e, rfl, rfl, hz, hz1, hz2, hz3, hz4, h1, h3⟩ hs' hle hlt
   have hxb := hle _ _ hxb
   have hxs : (l.take (i + 1)).countP (fun y => decide (y = x)) = (l.take i).countP (fun y => decide (y = x)) + if e = x then 1 else 0 := by
    rw [hte, List.getElem?_map] at hv
    obtain ⟨y, hy, hye⟩ := Option.map_eq_some_iff.1 hv
    obtain rfl : y = e := by
     obtain ⟨a, b⟩ := y
     obtain ⟨c, d⟩ := e
     simpa [elV, elc] using hye
    rw [List.take_add_one, hy, List.countP_append]
    simp [List.countP_cons]
   have hcl : (l.take i).countP (fun y => decide (y = x)) ≤ l.length := Nat.le_trans List.countP_le_length (by rw [List.length_take]; omega)
   have hbl := h1.1.lt
   refine cw_block ?_
   refine cw_rs fun _ κ => ?_
   refine Sc 2 rfl (by kernel_rfl) rfl (by exact Blk.cells hz.1 rfl) ?_
   refine Sc 2 rfl (by kernel_rfl) rfl (by exact BlkR.cells (hs' _ _ _ hxb) rfl) ?_
   refine as_q rfl rfl (q_eqE (a := e) (b := x) (e := 2) (by kernel_rfl) (by kernel_rfl) (by kernel_rfl) (by kernel_rfl) (by kernel_rfl) (by kernel_rfl) rfl rfl) ?_
   refine as_nil (κ _ _ ?_)
   refine cw_cond rfl (fun hc => ?_) (fun hc => ?_)
   ·
    have hc:=of_decide_eq_true hc
    rw [if_pos hc] at hxs
    refine cw_region fun _ κ => ?_
    refine S1 rfl (by kernel_rfl) rfl (by exact Blk.cell h1.1 rfl) ?_
    refine as_q rfl rfl (q_addx rfl rfl (by omega) (by omega)) ?_
    refine as_h0 (h_store hs' h1 rfl rfl rfl (by kernel_rfl) rfl rfl rfl fun w10 hs10 h1n => ?_)
    refine as_nil (κ _ _ ⟨M', hs10.wide fun k _ h => (by have h : k = bn := h; exact ⟨fun h2 => by have h2 : k = c2 := h2; omega, by omega, by omega⟩), by rw [hxs, Int.natCast_add]; exact h1n, h3.trans hs10 (fun k hk h => by have h : k = bn := h; omega)⟩)
   ·
    have hc:=of_decide_eq_false hc
    rw [if_neg hc, Nat.add_zero] at hxs
    exact cw_skip ⟨M', Step.refl _ hs', by rw [hxs]; exact h1, h3⟩
  ·
   rintro M' W' hs' hle ⟨h1, h3⟩ D hD hDd
   rw [List.length_map, hte, List.take_length] at h1
   refine cw_rs fun _ κ => ?_
   refine S1 rfl (by kernel_rfl) rfl (by exact Blk.cell h1.1 rfl) ?_
   refine Sa rfl rfl ?_
   exact as_nil (κ _ _ (cw_ret ⟨hDd, _, res_tmp rfl res_nil, rfl, M', h3⟩))
 ·
  rintro v w' D hB hD ⟨h0, M', h1⟩
  have k := Step.putObj h1.sat hD (by simp) (.deferred none)
  exact ⟨h0, (h1.trans k (fun b hb h => by have h : b = D := h; omega)).forget⟩
theorem dr_count {w : World} {M : Mem} {k : Nat} {l : List El} {v0 : Value} {x : El} (hs : Sat M w) (h : HVal M k l v0) (hz : l.length < 100000000) :
  Does Tryz.prog 16 #[.agg #[v0], .agg (elc x).toArray] w (fun v w' => v = .int .i64 ((l.countP fun y => decide (y = x) : Nat) : Int) ∧ Step Nope M w M w') := by
 rcases h.shape with rfl | ⟨d, u, rfl⟩
 · exact dr_count_n hs h hz
 · exact dr_count_s hs h hz
end Go.Proofs.YtgcgjpfjjgalmaaGreat
/- The document s example of layer 16, part 1. -/
namespace Go.Proofs.YtgcgjpfjjgalmaaGreat
open Go Go.Eng
theorem of_three {w : World} {M : Mem} {b : Nat} (hs : Sat M w) (ho : Own w M b [.int .i64 2, .int .i64 0, .int .i64 1, .int .i64 0, .int .i64 2, .int .i64 0] 24) :
  Does Tryz.prog 11 #[.pointer none, .int .i64 4, .slice (some ⟨b, 0, none⟩) 3 3] w (fun r w' => ∃ v' M', r = .tuple #[.agg #[v'], .int .i64 0] ∧ Step Nope M w M' w' ∧ HVal M' 4 [((1, 0) : El), (2, 0), (2, 0)] v') := by
 have hb : Buf w M 24 2 (.slice (some ⟨b, 0, none⟩) 3 3) 3 (els [((2, 0) : El), (1, 0), (2, 0)]) := Own.buf ho (n := 3) rfl (by decide)
 refine (hp_of (z := 4) hs hb.rds (by decide)).mono ?_
 rintro r w' ⟨v, M', h1, h2, h3⟩
 refine ⟨v, M', by rw [h1, emE, if_pos (by decide)], h2, ?_⟩
 rw [emK, if_pos (by decide), ofL, if_pos (by decide), show srtE [((2, 0) : El), (1, 0), (2, 0)] = [((1, 0) : El), (2, 0), (2, 0)] by decide] at h3
 exact h3
set_option maxRecDepth 4000 in
theorem awake16 {w : World} {M : Mem} (hs : Sat M w) :
  Does Tryz.prog 10 #[] w (fun v w' => v = .bool true ∧ Step Nope M w M w') := by
 have hT := Step.refl Nope hs
 refine fn_enter Tryz.func10 rfl (rs := [.tmp 0]) rfl rfl rfl rfl ?_
 refine cw_rs fun _ κ => ?_
 refine Sa rfl rfl ?_
 refine as_nil (κ _ _ ?_)
 refine cw_rs fun _ κ => ?_
 refine as_q rfl rfl (q_build (zs := [(.int .i64 0), (.int .i64 0)]) (places := [(0, 1), (1, 1)]) (cs := [_, _]) (by kernel_rfl) (by kernel_rfl) rfl rfl) ?_
 refine as_q rfl rfl (q_build (zs := [(.int .i64 0), (.int .i64 0)]) (places := [(0, 1), (1, 1)]) (cs := [_, _]) (by kernel_rfl) (by kernel_rfl) rfl rfl) ?_
 refine as_q rfl rfl (q_build (zs := [(.int .i64 0), (.int .i64 0)]) (places := [(0, 1), (1, 1)]) (cs := [_, _]) (by kernel_rfl) (by kernel_rfl) rfl rfl) ?_
 refine as_h rfl (h_buildO (e := 24) (size := 2) (zs := [.int .i64 0, .int .i64 0, .int .i64 0, .int .i64 0, .int .i64 0, .int .i64 0]) (cs := [_, _, _, _, _, _]) (by kernel_rfl) (by kernel_rfl) (by kernel_rfl) rfl hs rfl rfl fun bp w1 hs1 hop ep => ?_)
 have hT:=hT.then hs1
 have hz1 := hs1.size
 refine as_h rfl (h_call (by kernel_rfl) rfl ?_)
 refine (of_three hs1.sat hop).mono ?_
 rintro _ w2 ⟨vx, Mx, rfl, hs2, hx⟩
 have hT:=hT.then hs2
 have hz2 := hs2.size
 obtain ⟨dx, ux, rfl⟩ := hx.iface (by decide)
 refine Sm rfl rfl ?_
 refine Se rfl rfl rfl ?_
 refine Se rfl rfl rfl ?_
 have hqax := hT.size
 refine as_h rfl (h_allocO (z := (.agg #[.nilIface])) hs2.sat (by kernel_rfl) rfl fun bx w3 hs3 hox ex => ?_)
 have hx:=hx.mono hs3.le
 have hT:=hT.then hs3
 have hz3 := hs3.size
 have hlx := hox.1.lt
 refine as_h0 (h_store hs3.sat hox rfl rfl rfl (by kernel_rfl) rfl rfl rfl fun w4 hs4 hn4 => ?_)
 have hx:=hx.mono hs4.le
 clear hox; have hox := hn4; clear hn4
 have hT:=hT.own hs4 (by omega)
 have hz4 := hs4.size
 refine Sa rfl rfl ?_
 refine as_nil (κ _ _ ?_)
 refine cw_rs fun _ κ => ?_
 refine Sc 1 rfl (by kernel_rfl) rfl (by exact Blk.cells hox.1 rfl) ?_
 refine as_h rfl (h_call (by kernel_rfl) rfl ?_)
 refine (dr_sorted hs4.sat hx (by decide)).mono ?_
 rintro vS w5 ⟨MS, hs5, hbS, hfS⟩
 have hx:=hx.mono hs5.le
 have hox:=hox.then hs5
 have hT:=hT.then hs5
 have hz5 := hs5.size
 replace hbS : Buf w5 MS 24 2 vS 3 (els [((1, 0) : El), (2, 0), (2, 0)]) := hbS
 obtain ⟨raS, rcS, rfl, _, _⟩ := hbS.slice
 have hlhbS := hbS.lt
 refine Sa rfl rfl ?_
 refine as_nil (κ _ _ ?_)
 refine cw_rs fun _ κ => ?_
 refine Sc 1 rfl (by kernel_rfl) rfl (by exact Blk.cells hox.1 rfl) ?_
 refine as_h rfl (h_call (by kernel_rfl) rfl ?_)
 refine (dr_top_2 hs5.sat hx (z := 2) (by decide) (by decide) (by decide) (by decide)).mono ?_
 rintro _ w6 ⟨vt, Mt, rfl, hs6, hbt, hft⟩
 have hx:=hx.mono hs6.le
 have hox:=hox.then hs6
 have hbS:=hbS.then hs6
 have hT:=hT.then hs6
 have hz6 := hs6.size
 replace hbt : Buf w6 Mt 24 2 vt 2 (els [((1, 0) : El), (2, 0)]) := hbt
 obtain ⟨rat, rct, rfl, _, _⟩ := hbt.slice
 have hlhbt := hbt.lt
 refine Sm rfl rfl ?_
 refine Se rfl rfl rfl ?_
 refine Se rfl rfl rfl ?_
 refine Sa rfl rfl ?_
 refine Sa rfl rfl ?_
 refine as_nil (κ _ _ ?_)
 refine cw_rs fun _ κ => ?_
 refine Sc 1 rfl (by kernel_rfl) rfl (by exact Blk.cells hox.1 rfl) ?_
 refine as_h rfl (h_call (by kernel_rfl) rfl ?_)
 refine (dr_top_1 hs6.sat hx (z := -1) (by decide) (by decide)).mono ?_
 rintro _ w7 ⟨vu, Mu, rfl, hs7, hbu, hfu⟩
 have hx:=hx.mono hs7.le
 have hox:=hox.then hs7
 have hbS:=hbS.then hs7
 have hT:=hT.then hs7
 have hz7 := hs7.size
 obtain ⟨rau, rcu, rfl, _, _⟩ := hbu.slice
 have hlhbu := hbu.lt
 refine Sm rfl rfl ?_
 refine Se rfl rfl rfl ?_
 refine Se rfl rfl rfl ?_
 refine Sa rfl rfl ?_
 refine Sa rfl rfl ?_
 refine as_nil (κ _ _ ?_)
 refine cw_rs fun _ κ => ?_
 refine as_q rfl rfl (q_build (zs := [.nilIface]) (places := [(0, 1)]) (cs := [_]) (by kernel_rfl) (by kernel_rfl) rfl rfl) ?_
 refine as_h rfl (h_call (by kernel_rfl) rfl ?_)
 refine (dr_top_0 hs7.sat HVal.z (z := 1)).mono ?_
 rintro _ w8 ⟨vn, Mn, rfl, hs8, hbn, hfn⟩
 have hx:=hx.mono hs8.le
 have hox:=hox.then hs8
 have hbS:=hbS.then hs8
 have hT:=hT.then hs8
 have hz8 := hs8.size
 obtain ⟨ran, rcn, rfl, _, _⟩ := hbn.slice
 have hlhbn := hbn.lt
 refine Sm rfl rfl ?_
 refine Se rfl rfl rfl ?_
 refine Se rfl rfl rfl ?_
 refine Sa rfl rfl ?_
 refine Sa rfl rfl ?_
 refine as_nil (κ _ _ ?_)
 refine cw_rs fun _ κ => ?_
 refine Sc 1 rfl (by kernel_rfl) rfl (by exact Blk.cells hox.1 rfl) ?_
 refine as_h rfl (h_call (by kernel_rfl) rfl ?_)
 have hqp := hT.size
 refine (dr_of hs8.sat hx).mono ?_
 rintro _ w9 ⟨q, M, rfl, hs9, hoq, hqw⟩
 have hx:=hx.mono hs9.le
 have hox:=hox.then hs9
 have hbS:=hbS.then hs9
 have hT:=hT.then hs9
 have hz9 := hs9.size
 have hql := hoq.1.lt
 refine Sa rfl rfl ?_
 refine as_nil (κ _ _ ?_)
 refine cw_rs fun _ κ => ?_
 refine Sm rfl rfl ?_
 refine as_h rfl (h_call (by kernel_rfl) rfl ?_)
 refine (dr_done_0 hs9.sat hoq).mono ?_
 rintro _ w10 ⟨rfl, hs10⟩
 have hx:=hx.mono hs10.le
 have hox:=hox.then hs10
 have hbS:=hbS.then hs10
 have hoq:=hoq.then hs10
 have hT:=hT.then hs10
 have hz10 := hs10.size
 refine Sa rfl rfl ?_
 refine as_nil (κ _ _ ?_)
 refine cw_rs fun _ κ => ?_
 refine Sm rfl rfl ?_
 refine as_h rfl (h_call (by kernel_rfl) rfl ?_)
 have hzbf := hT.size
 refine (dr_all_first hs10.sat (by decide) hoq hx).mono ?_
 rintro vf w11 ⟨svf, Mf, hs11, hqf, hb2f, _, hbf, hff, hdf, hfrf⟩
 have hx:=hx.mono hs11.le
 have hox:=hox.step hs11 (fun h => by have h : _ = q := h; omega)
 have hbS:=hbS.step hs11 (fun g hg h => by have h : g = q := h; first | (have := hlhbS g hg; omega) | (have := hfS g hg; omega))
 have hT:=hT.trans hs11 (fun b hb h => by have h : b = q := h; omega)
 have hz11 := hs11.size
 clear hoq; have hoq := hqf; clear hqf
 have hbs := hb2f; clear hb2f
 replace hbf : Buf w11 Mf 24 2 vf 3 (els [((1, 0) : El), (2, 0), (2, 0)]) := hbf
 obtain ⟨raf, rcf, rfl, _, _⟩ := hbf.slice
 have hlhbf := hbf.lt
 have hlhbs := hbs.lt
 refine Sa rfl rfl ?_
 refine as_nil (κ _ _ ?_)
 refine cw_rs fun _ κ => ?_
 refine Sm rfl rfl ?_
 refine as_h rfl (h_call (by kernel_rfl) rfl ?_)
 have hzbg := hT.size
 refine (dr_all_again hs11.sat (by decide) hoq hx hbs).mono ?_
 rintro vg w12 ⟨svg, Mg, hs12, hqg, hb2g, _, hbg, hfg, hdg, hfrg⟩
 have hx:=hx.mono hs12.le
 have hox:=hox.step hs12 (fun h => by have h : _ = q := h; omega)
 have hbS:=hbS.step hs12 (fun g hg h => by have h : g = q := h; first | (have := hlhbS g hg; omega) | (have := hfS g hg; omega))
 have hT:=hT.trans hs12 (fun b hb h => by have h : b = q := h; omega)
 have hz12 := hs12.size
 clear hoq; have hoq := hqg; clear hqg
 clear hbs hlhbs
 have hbs := hb2g; clear hb2g
 replace hbg : Buf w12 Mg 24 2 vg 3 (els [((1, 0) : El), (2, 0), (2, 0)]) := hbg
 obtain ⟨rag, rcg, rfl, _, _⟩ := hbg.slice
 have hlhbg := hbg.lt
 have hlhbs := hbs.lt
 refine Sa rfl rfl ?_
 refine as_nil (κ _ _ ?_)
 refine cw_rs fun _ κ => ?_
 obtain ⟨gs, rfl, hbs⟩ : ∃ g, raS = some ⟨g, 0, none⟩ ∧ ElRow 24 w12 Mg g 3 rcS #[(1, 0), (2, 0), (2, 0)] := by
  rcases hbS.cases with ⟨h, _⟩ | ⟨g, c, h, h2⟩
  · cases h
  ·
   cases h
   exact ⟨_, rfl, h2⟩
 refine Sm rfl rfl ?_
 refine as_q rfl rfl (q_eqT rfl rfl (by omega)) ?_
 refine Sm rfl rfl ?_
 refine as_gh rfl rfl rfl rfl (h_q rfl (q_move rfl) ?_)
 refine as_gh rfl rfl rfl rfl (h_q rfl (q_len (by kernel_rfl) rfl _) ?_)
 refine as_gh rfl rfl rfl rfl (h_q rfl (q_eqT rfl rfl (by omega)) ?_)
 refine as_q rfl rfl (q_pick_t rfl rfl) ?_
 refine Sm rfl rfl ?_
 refine as_gh rfl rfl rfl rfl (h_q rfl (q_move rfl) ?_)
 refine as_gh rfl rfl rfl rfl (h_q rfl (q_indexAddr (e := 24) (size := 2) (by kernel_rfl) (by kernel_rfl) rfl rfl (by omega) (by omega)) ?_)
 refine as_gh rfl rfl rfl rfl (h_q rfl (q_fieldAddr (off := 0) (by kernel_rfl) rfl) ?_)
 refine as_gh rfl rfl rfl rfl (h_q rfl (q_load1 (by kernel_rfl) rfl (show _ = some (Value.int .i64 1) from ElRow.fst (d := #[(1, 0), (2, 0), (2, 0)]) hbs (i := 0) (by decide))) ?_)
 refine as_gh rfl rfl rfl rfl (h_q rfl (q_eqT rfl rfl (by omega)) ?_)
 refine as_q rfl rfl (q_pick_t rfl rfl) ?_
 refine Sm rfl rfl ?_
 refine as_gh rfl rfl rfl rfl (h_q rfl (q_move rfl) ?_)
 refine as_gh rfl rfl rfl rfl (h_q rfl (q_indexAddr (e := 24) (size := 2) (by kernel_rfl) (by kernel_rfl) rfl rfl (by omega) (by omega)) ?_)
 refine as_gh rfl rfl rfl rfl (h_q rfl (q_fieldAddr (off := 0) (by kernel_rfl) rfl) ?_)
 refine as_gh rfl rfl rfl rfl (h_q rfl (q_load1 (by kernel_rfl) rfl (show _ = some (Value.int .i64 2) from ElRow.fst (d := #[(1, 0), (2, 0), (2, 0)]) hbs (i := 2) (by decide))) ?_)
 refine as_gh rfl rfl rfl rfl (h_q rfl (q_eqT rfl rfl (by omega)) ?_)
 refine as_q rfl rfl (q_pick_t rfl rfl) ?_
 refine Sm rfl rfl ?_
 refine as_gh rfl rfl rfl rfl (h_q rfl (q_move rfl) ?_)
 refine as_gh rfl rfl rfl rfl (h_q rfl (q_eqT rfl rfl (by omega)) ?_)
 refine as_q rfl rfl (q_pick_t rfl rfl) ?_
 refine Sm rfl rfl ?_
 refine as_gh rfl rfl rfl rfl (h_q rfl (q_move rfl) ?_)
 refine as_gh rfl rfl rfl rfl (h_q rfl (q_len (by kernel_rfl) rfl _) ?_)
 refine as_gh rfl rfl rfl rfl (h_q rfl (q_eqT rfl rfl (by omega)) ?_)
 refine as_q rfl rfl (q_pick_t rfl rfl) ?_
 refine Sm rfl rfl ?_
 refine as_gh rfl rfl rfl rfl (h_q rfl (q_move rfl) ?_)
 refine as_gh rfl rfl rfl rfl (h_q rfl (q_eqT rfl rfl (by omega)) ?_)
 refine as_q rfl rfl (q_pick_t rfl rfl) ?_
 refine Sm rfl rfl ?_
 refine as_gh rfl rfl rfl rfl (h_q rfl (q_move rfl) ?_)
 refine as_gh rfl rfl rfl rfl (h_q rfl (q_eqT rfl rfl (by omega)) ?_)
 refine as_q rfl rfl (q_pick_t rfl rfl) ?_
 refine Sm rfl rfl ?_
 refine as_gh rfl rfl rfl rfl (h_q rfl (q_loadc (n := 1) (by kernel_rfl) rfl (by exact Blk.cells hox.1 rfl)) ?_)
 refine as_gh rfl rfl rfl rfl (h_q rfl (q_build (zs := [(.int .i64 0), (.int .i64 0)]) (places := [(0, 1), (1, 1)]) (cs := [_, _]) (by kernel_rfl) (by kernel_rfl) rfl rfl) ?_)
 refine as_gh rfl rfl rfl rfl (h_call (by kernel_rfl) rfl ?_)
 refine (dr_count (x := (2, 0)) hs12.sat hx (by decide)).mono ?_
 rintro _ w13 ⟨hv13, hs13⟩
 rw [show (([((1, 0) : El), (2, 0), (2, 0)].countP fun y => decide (y = (2, 0)) : Nat) : Int) = 2 by decide] at hv13
 subst hv13
 have hx:=hx.mono hs13.le
 have hox:=hox.then hs13
 have hoq:=hoq.then hs13
 have hT:=hT.then hs13
 have hz13 := hs13.size
 refine as_gh rfl rfl rfl rfl (h_q rfl (q_eqT rfl rfl (by omega)) ?_)
 refine as_q rfl rfl (q_pick_t rfl rfl) ?_
 refine Sm rfl rfl ?_
 refine as_gh rfl rfl rfl rfl (h_q rfl (q_loadc (n := 1) (by kernel_rfl) rfl (by exact Blk.cells hox.1 rfl)) ?_)
 refine as_gh rfl rfl rfl rfl (h_q rfl (q_loadc (n := 1) (by kernel_rfl) rfl (by exact Blk.cells hox.1 rfl)) ?_)
 refine as_gh rfl rfl rfl rfl (h_call (by kernel_rfl) rfl ?_)
 refine (dr_same hs13.sat hx hx (by decide) (by decide)).mono ?_
 rintro _ w14 ⟨hv14, hs14⟩
 rw [decide_eq_true rfl] at hv14
 subst hv14
 have hoq:=hoq.then hs14
 have hT:=hT.then hs14
 have hz14 := hs14.size
 refine as_q rfl rfl (q_pick_t rfl rfl) ?_
 refine Sm rfl rfl ?_
 refine as_gh rfl rfl rfl rfl (h_q rfl (q_move rfl) ?_)
 refine as_gh rfl rfl rfl rfl (h_q rfl (q_eqT rfl rfl (by omega)) ?_)
 refine as_q rfl rfl (q_pick_t rfl rfl) ?_
 refine Sm rfl rfl ?_
 refine as_gh rfl rfl rfl rfl (h_q rfl (q_move rfl) ?_)
 refine as_gh rfl rfl rfl rfl (h_call (by kernel_rfl) rfl ?_)
 refine (dr_done_1 hs14.sat hoq).mono ?_
 rintro _ w15 ⟨rfl, hs15⟩
 have hT:=hT.then hs15
 have hz15 := hs15.size
 refine as_gh rfl rfl rfl rfl (h_q rfl (q_eqT rfl rfl (by omega)) ?_)
 refine as_q rfl rfl (q_pick_t rfl rfl) ?_
 refine Sm rfl rfl ?_
 refine as_gh rfl rfl rfl rfl (h_q rfl (q_move rfl) ?_)
 refine as_gh rfl rfl rfl rfl (h_q rfl (q_len (by kernel_rfl) rfl _) ?_)
 refine as_gh rfl rfl rfl rfl (h_q rfl (q_eqT rfl rfl (by omega)) ?_)
 refine as_q rfl rfl (q_pick_t rfl rfl) ?_
 refine Sm rfl rfl ?_
 refine as_gh rfl rfl rfl rfl (h_q rfl (q_move rfl) ?_)
 refine as_gh rfl rfl rfl rfl (h_q rfl (q_len (by kernel_rfl) rfl _) ?_)
 refine as_gh rfl rfl rfl rfl (h_q rfl (q_eqT rfl rfl (by omega)) ?_)
 refine as_q rfl rfl (q_pick_t rfl rfl) ?_
 refine Sa rfl rfl ?_
 refine as_nil (κ _ _ ?_)
 refine cw_ret ?_
 exact ⟨_, (res_tmp rfl res_nil), rfl, hT.forget⟩
end Go.Proofs.YtgcgjpfjjgalmaaGreat
/- What is told first is a beginning of all, part 1. -/
namespace Go.Proofs.YtgcgjpfjjgalmaaGreat
open Go Go.Eng
set_option maxRecDepth 4000 in
theorem drainFronts_b {w : World} {M : Mem} {z u : Int} {sa : Option Addr} {n ca : Nat} (hs : Sat M w) (hz : 40 < n ∨ z < 1 ∨ 6 < z) :
  Does Tryz.prog 9 #[.int .i64 z, .slice sa n ca, .int .u8 u] w (fun v w' => v = .bool true ∧ Step Nope M w M w') := by
 have hT := Step.refl Nope hs
 refine fn_enter Tryz.func9 rfl (rs := [.tmp 6]) rfl rfl rfl rfl ?_
 refine cw_rs fun _ κ => ?_
 refine Sa rfl rfl ?_
 refine as_nil (κ _ _ ?_)
 refine cw_rs fun _ κ => ?_
 refine as_h rfl (h_call (by kernel_rfl) rfl ?_)
 refine (awake16 hs).mono ?_
 rintro _ w1 ⟨rfl, hs1⟩
 have hT:=hT.then hs1
 refine Sa rfl rfl ?_
 refine as_nil (κ _ _ ?_)
 refine cw_seq fun _ hK3 => ?_
 refine cw_rs fun _ κ => ?_
 refine Sm rfl rfl ?_
 refine as_q rfl rfl (q_not rfl) ?_
 refine as_nil (κ _ _ ?_)
 refine cw_false rfl ?_
 refine cw_skip ?_
 refine hK3 _ _ ?_
 refine cw_seq fun _ hK5 => ?_
 rcases (show (40 < n) ∨ (¬ (40 < n) ∧ z < 1) ∨ (¬ (40 < n) ∧ ¬ (z < 1) ∧ 6 < z) by omega) with h0 | ⟨h0, h1⟩ | ⟨h0, h1, h2⟩
 ·
  refine cw_rs fun _ κ => ?_
  refine Sm rfl rfl ?_
  refine as_q rfl rfl (q_len (by kernel_rfl) rfl _) ?_
  refine as_q rfl rfl (q_gtT rfl rfl (by omega)) ?_
  refine Sm rfl rfl ?_
  refine as_gskip rfl rfl rfl rfl rfl ?_
  refine as_gskip rfl rfl rfl rfl rfl ?_
  refine as_q rfl rfl (q_pick_t rfl rfl) ?_
  refine Sm rfl rfl ?_
  refine as_gskip rfl rfl rfl rfl rfl ?_
  refine as_gskip rfl rfl rfl rfl rfl ?_
  refine as_q rfl rfl (q_pick_t rfl rfl) ?_
  refine as_nil (κ _ _ ?_)
  refine cw_true rfl ?_
  refine cw_rs fun _ κ => ?_
  refine Sa rfl rfl ?_
  refine as_nil (κ _ _ ?_)
  refine cw_ret ?_
  exact ⟨_, (res_tmp rfl res_nil), rfl, hT.forget⟩
 ·
  refine cw_rs fun _ κ => ?_
  refine Sm rfl rfl ?_
  refine as_q rfl rfl (q_len (by kernel_rfl) rfl _) ?_
  refine as_q rfl rfl (q_gtF rfl rfl (by omega)) ?_
  refine Sm rfl rfl ?_
  refine as_gh rfl rfl rfl rfl (h_q rfl (q_move rfl) ?_)
  refine as_gh rfl rfl rfl rfl (h_q rfl (q_ltT rfl rfl (by omega)) ?_)
  refine as_q rfl rfl (q_pick_f rfl rfl) ?_
  refine Sm rfl rfl ?_
  refine as_gskip rfl rfl rfl rfl rfl ?_
  refine as_gskip rfl rfl rfl rfl rfl ?_
  refine as_q rfl rfl (q_pick_t rfl rfl) ?_
  refine as_nil (κ _ _ ?_)
  refine cw_true rfl ?_
  refine cw_rs fun _ κ => ?_
  refine Sa rfl rfl ?_
  refine as_nil (κ _ _ ?_)
  refine cw_ret ?_
  exact ⟨_, (res_tmp rfl res_nil), rfl, hT.forget⟩
 ·
  refine cw_rs fun _ κ => ?_
  refine Sm rfl rfl ?_
  refine as_q rfl rfl (q_len (by kernel_rfl) rfl _) ?_
  refine as_q rfl rfl (q_gtF rfl rfl (by omega)) ?_
  refine Sm rfl rfl ?_
  refine as_gh rfl rfl rfl rfl (h_q rfl (q_move rfl) ?_)
  refine as_gh rfl rfl rfl rfl (h_q rfl (q_ltF rfl rfl (by omega)) ?_)
  refine as_q rfl rfl (q_pick_f rfl rfl) ?_
  refine Sm rfl rfl ?_
  refine as_gh rfl rfl rfl rfl (h_q rfl (q_move rfl) ?_)
  refine as_gh rfl rfl rfl rfl (h_q rfl (q_gtT rfl rfl (by omega)) ?_)
  refine as_q rfl rfl (q_pick_f rfl rfl) ?_
  refine as_nil (κ _ _ ?_)
  refine cw_true rfl ?_
  refine cw_rs fun _ κ => ?_
  refine Sa rfl rfl ?_
  refine as_nil (κ _ _ ?_)
  refine cw_ret ?_
  exact ⟨_, (res_tmp rfl res_nil), rfl, hT.forget⟩
set_option maxRecDepth 8000 in
theorem drainFronts_g {w : World} {M : Mem} {z u : Int} {sa : Option Addr} {n ca : Nat} {xs : List El} {ns : List Int} (hs : Sat M w) (hnt : ns.length = 20) (ht : TabM ns M) (hr : RdM M 2 (.slice sa n ca) n (els xs)) (hxs : ∀ x ∈ xs, ElOk x) (hz : 1 ≤ z ∧ z ≤ 6) (hn : n ≤ 40) (hu0 : 0 ≤ u) (hu : u ≤ 255) :
  Does Tryz.prog 9 #[.int .i64 z, .slice sa n ca, .int .u8 u] w (fun v w' => v = .bool true ∧ Step Nope M w M w') := by
 have hT := Step.refl Nope hs
 obtain ⟨k, hkz⟩ : ∃ k : Nat, (k : Int) = z := ⟨z.toNat, by omega⟩
 have hem : emE z = 0 := by unfold emE; rw [if_pos hz]
 have hekz : emK z = k := by unfold emK; rw [if_pos hz]; omega
 have hk0 : k ≠ 0 := by omega
 have hofl : ∀ l, ofL z l = srtE l := fun l => by unfold ofL; rw [if_pos hz]
 have hxl := (hr.rds w).els_len hs
 obtain ⟨L, hL⟩ : ∃ L, L = srtE xs := ⟨_, rfl⟩
 have hLl : L.length = n := by rw [hL, srtE_length, hxl]
 have hLt : (L.take u.toNat).length ≤ 40 := by rw [List.length_take]; omega
 have hLt2 : (L.take u.toNat).length ≤ L.length := by rw [List.length_take]; omega
 have hxe : ∀ x ∈ L, ElOk x := fun x h => by rw [hL] at h; exact hxs x ((srtE_perm _).mem_iff.1 h)
 have htk : decide (L.take (((L.take u.toNat).length : Nat) : Int).toNat = L.take u.toNat) = true := by
  refine decide_eq_true ?_
  rw [Int.toNat_natCast, List.length_take]
  rcases Nat.le_total u.toNat L.length with h | h
  · rw [Nat.min_eq_left h]
  · rw [Nat.min_eq_right h, List.take_length, List.take_of_length_le h]
 refine fn_enter Tryz.func9 rfl (rs := [.tmp 6]) rfl rfl rfl rfl ?_
 refine cw_rs fun _ κ => ?_
 refine Sa rfl rfl ?_
 refine as_nil (κ _ _ ?_)
 refine cw_rs fun _ κ => ?_
 refine as_h rfl (h_call (by kernel_rfl) rfl ?_)
 refine (awake16 hs).mono ?_
 rintro _ w1 ⟨rfl, hs1⟩
 have ht:=ht.mono hs1.le
 have hr:=hr.mono hs1.le
 have hT:=hT.then hs1
 have hz1 := hs1.size
 refine Sa rfl rfl ?_
 refine as_nil (κ _ _ ?_)
 refine cw_seq fun _ hK3 => ?_
 refine cw_rs fun _ κ => ?_
 refine Sm rfl rfl ?_
 refine as_q rfl rfl (q_not rfl) ?_
 refine as_nil (κ _ _ ?_)
 refine cw_false rfl ?_
 refine cw_skip ?_
 refine hK3 _ _ ?_
 refine cw_seq fun _ hK5 => ?_
 refine cw_rs fun _ κ => ?_
 refine Sm rfl rfl ?_
 refine as_q rfl rfl (q_len (by kernel_rfl) rfl _) ?_
 refine as_q rfl rfl (q_gtF rfl rfl (by omega)) ?_
 refine Sm rfl rfl ?_
 refine as_gh rfl rfl rfl rfl (h_q rfl (q_move rfl) ?_)
 refine as_gh rfl rfl rfl rfl (h_q rfl (q_ltF rfl rfl (by omega)) ?_)
 refine as_q rfl rfl (q_pick_f rfl rfl) ?_
 refine Sm rfl rfl ?_
 refine as_gh rfl rfl rfl rfl (h_q rfl (q_move rfl) ?_)
 refine as_gh rfl rfl rfl rfl (h_q rfl (q_gtF rfl rfl (by omega)) ?_)
 refine as_q rfl rfl (q_pick_f rfl rfl) ?_
 refine as_nil (κ _ _ ?_)
 refine cw_false rfl ?_
 refine cw_skip ?_
 refine hK5 _ _ ?_
 refine cw_rs fun _ κ => ?_
 refine Sm rfl rfl ?_
 refine Sm rfl rfl ?_
 refine as_h rfl (h_call (by kernel_rfl) rfl ?_)
 refine (hp_of (z := z) hs1.sat (hr.rds _) (by omega)).mono ?_
 rintro _ w2 ⟨vx, Mx, hrx, hs2, hvx⟩
 rw [hem] at hrx
 subst hrx
 rw [hekz, hofl, ← hL] at hvx
 have ht:=ht.mono hs2.le
 have hT:=hT.then hs2
 have hz2 := hs2.size
 obtain ⟨dx, ux, rfl⟩ := hvx.iface hk0
 refine Sm rfl rfl ?_
 refine Se rfl rfl rfl ?_
 refine Se rfl rfl rfl ?_
 have hqax := hT.size
 refine as_h rfl (h_allocO (z := (.agg #[.nilIface])) hs2.sat (by kernel_rfl) rfl fun bx w3 hs3 hox ex => ?_)
 have ht:=ht.mono hs3.le
 have hvx:=hvx.mono hs3.le
 have hT:=hT.then hs3
 have hz3 := hs3.size
 have hlx := hox.1.lt
 refine as_h0 (h_store hs3.sat hox rfl rfl rfl (by kernel_rfl) rfl rfl rfl fun w4 hs4 hn4 => ?_)
 have ht:=ht.mono hs4.le
 have hvx:=hvx.mono hs4.le
 clear hox; have hox := hn4; clear hn4
 have hT:=hT.own hs4 (by omega)
 have hz4 := hs4.size
 refine Sa rfl rfl ?_
 refine as_nil (κ _ _ ?_)
 refine cw_rs fun _ κ => ?_
 refine Sc 1 rfl (by kernel_rfl) rfl (by exact Blk.cells hox.1 rfl) ?_
 refine as_h rfl (h_call (by kernel_rfl) rfl ?_)
 obtain ⟨s, hsg⟩ := hp_show_ex hnt ht hvx hk0 hxe (by omega)
 refine (hsg _ _ (Le.refl _) hs4.sat).mono ?_
 rintro _ w5 ⟨rfl, Ms5, hs5⟩
 have hvx:=hvx.mono hs5.le
 have hox:=hox.then hs5
 have hsg:=hsg.mono hs5.le
 have hT:=hT.then hs5
 have hz5 := hs5.size
 refine Sa rfl rfl ?_
 refine as_nil (κ _ _ ?_)
 refine cw_rs fun _ κ => ?_
 refine Sc 1 rfl (by kernel_rfl) rfl (by exact Blk.cells hox.1 rfl) ?_
 refine as_h rfl (h_call (by kernel_rfl) rfl ?_)
 refine (dr_sorted hs5.sat hvx (by omega)).mono ?_
 rintro vS w6 ⟨MS, hs6, hbS, hfS⟩
 have hvx:=hvx.mono hs6.le
 have hox:=hox.then hs6
 have hsg:=hsg.mono hs6.le
 have hT:=hT.then hs6
 have hz6 := hs6.size
 obtain ⟨raS, rcS, rfl, _, _⟩ := hbS.slice
 have hlhbS := hbS.lt
 refine Sa rfl rfl ?_
 refine as_nil (κ _ _ ?_)
 refine cw_rs fun _ κ => ?_
 refine Sc 1 rfl (by kernel_rfl) rfl (by exact Blk.cells hox.1 rfl) ?_
 refine Sm rfl rfl ?_
 refine as_q rfl rfl (q_convx (by kernel_rfl) (by kernel_rfl) rfl (by exact wrap64_of (by omega) (by omega))) ?_
 refine as_h rfl (h_call (by kernel_rfl) rfl ?_)
 refine (dr_top_2 hs6.sat hvx (z := u) hk0 (by omega) (by omega) (by omega)).mono ?_
 rintro _ w7 ⟨vT, MT, rfl, hs7, hbT, hfT⟩
 have hvx:=hvx.mono hs7.le
 have hox:=hox.then hs7
 have hsg:=hsg.mono hs7.le
 have hbS:=hbS.then hs7
 have hT:=hT.then hs7
 have hz7 := hs7.size
 obtain ⟨raT, rcT, rfl, _, _⟩ := hbT.slice
 have hlhbT := hbT.lt
 refine Sm rfl rfl ?_
 refine Se rfl rfl rfl ?_
 refine Se rfl rfl rfl ?_
 refine Sa rfl rfl ?_
 refine Sa rfl rfl ?_
 refine as_nil (κ _ _ ?_)
 refine cw_rs fun _ κ => ?_
 refine Sm rfl rfl ?_
 refine as_q rfl rfl (q_eqT rfl rfl (by omega)) ?_
 refine Sm rfl rfl ?_
 refine as_gh rfl rfl rfl rfl (h_q rfl (q_move rfl) ?_)
 refine as_gh rfl rfl rfl rfl (h_q rfl (q_eqT rfl rfl (by omega)) ?_)
 refine as_q rfl rfl (q_pick_t rfl rfl) ?_
 refine Sm rfl rfl ?_
 refine as_gh rfl rfl rfl rfl (h_q rfl (q_move rfl) ?_)
 refine as_gh rfl rfl rfl rfl (h_q rfl (q_len (by kernel_rfl) rfl _) ?_)
 refine as_gh rfl rfl rfl rfl (h_q rfl (q_move rfl) ?_)
 refine as_gh rfl rfl rfl rfl (h_q rfl (q_len (by kernel_rfl) rfl _) ?_)
 refine as_gh rfl rfl rfl rfl (h_q rfl (q_eqT rfl rfl (by omega)) ?_)
 refine as_q rfl rfl (q_pick_t rfl rfl) ?_
 refine Sm rfl rfl ?_
 refine as_gh rfl rfl rfl rfl (h_q rfl (q_move rfl) ?_)
 refine as_gh rfl rfl rfl rfl (h_q rfl (q_len (by kernel_rfl) rfl _) ?_)
 refine as_gh rfl rfl rfl rfl (h_q rfl (q_move rfl) ?_)
 refine as_gh rfl rfl rfl rfl (h_q rfl (q_convx (by kernel_rfl) (by kernel_rfl) rfl (by exact wrap64_of (by omega) (by omega))) ?_)
 refine as_gh rfl rfl rfl rfl (h_q rfl (q_move rfl) ?_)
 refine as_gh rfl rfl rfl rfl (h_q rfl (q_len (by kernel_rfl) rfl _) ?_)
 refine as_gh rfl rfl rfl rfl (h_q rfl (q_congr (q_min2 rfl rfl) (v' := .int .i64 ((L.take u.toNat).length : Nat)) (congrArg (Value.int .i64) (by rw [List.length_take]; omega))) ?_)
 refine as_gh rfl rfl rfl rfl (h_q rfl (q_eqT rfl rfl (by omega)) ?_)
 refine as_q rfl rfl (q_pick_t rfl rfl) ?_
 refine Sm rfl rfl ?_
 refine as_gh rfl rfl rfl rfl (h_q rfl (q_move rfl) ?_)
 refine as_gh rfl rfl rfl rfl (h_q rfl (q_move rfl) ?_)
 refine as_gh rfl rfl rfl rfl (h_q rfl (q_len (by kernel_rfl) rfl _) ?_)
 refine as_gh rfl rfl rfl rfl (h_q rfl (q_slice (e := 24) (size := 2) (k := .i64) (by kernel_rfl) (by kernel_rfl) rfl rfl rfl (by omega) (by omega) (by omega)) ?_)
 refine as_gh rfl rfl rfl rfl (h_q rfl (q_move rfl) ?_)
 refine as_gh rfl rfl rfl rfl (h_call (by kernel_rfl) rfl ?_)
 refine (ref_same hs7.sat (by omega) (hbS.rds.front ((L.take u.toNat).length : Nat) (by omega) (by omega)) hbT.rds).mono ?_
 rintro _ w8 ⟨hv8, hs8⟩
 rw [htk] at hv8
 subst hv8
 have hvx:=hvx.mono hs8.le
 have hox:=hox.then hs8
 have hsg:=hsg.mono hs8.le
 have hbS:=hbS.then hs8
 have hT:=hT.then hs8
 have hz8 := hs8.size
 refine as_q rfl rfl (q_pick_t rfl rfl) ?_
 refine Sm rfl rfl ?_
 refine as_gh rfl rfl rfl rfl (h_q rfl (q_loadc (n := 1) (by kernel_rfl) rfl (by exact Blk.cells hox.1 rfl)) ?_)
 refine as_gh rfl rfl rfl rfl (h_call (by kernel_rfl) rfl ?_)
 refine (hsg _ _ (Le.refl _) hs8.sat).mono ?_
 rintro _ w9 ⟨rfl, Ms9, hs9⟩
 have hvx:=hvx.mono hs9.le
 have hox:=hox.then hs9
 have hbS:=hbS.then hs9
 have hT:=hT.then hs9
 have hz9 := hs9.size
 refine as_gh rfl rfl rfl rfl (h_q rfl (q_move rfl) ?_)
 refine as_gh rfl rfl rfl rfl (h_q rfl (q_congr (q_eqL rfl rfl) (v' := .bool true) (congrArg Value.bool (decide_eq_true rfl))) ?_)
 refine as_q rfl rfl (q_pick_t rfl rfl) ?_
 refine Sm rfl rfl ?_
 refine as_gh rfl rfl rfl rfl (h_q rfl (q_loadc (n := 1) (by kernel_rfl) rfl (by exact Blk.cells hox.1 rfl)) ?_)
 refine as_gh rfl rfl rfl rfl (h_call (by kernel_rfl) rfl ?_)
 refine (dr_sorted hs9.sat hvx (by omega)).mono ?_
 rintro vR w10 ⟨MR, hs10, hbR, hfR⟩
 have hbS:=hbS.then hs10
 have hT:=hT.then hs10
 have hz10 := hs10.size
 obtain ⟨raR, rcR, rfl, _, _⟩ := hbR.slice
 have hlhbR := hbR.lt
 refine as_gh rfl rfl rfl rfl (h_q rfl (q_move rfl) ?_)
 refine as_gh rfl rfl rfl rfl (h_call (by kernel_rfl) rfl ?_)
 refine (ref_same hs10.sat (by omega) hbR.rds hbS.rds).mono ?_
 rintro _ w11 ⟨hv11, hs11⟩
 rw [decide_eq_true rfl] at hv11
 subst hv11
 have hT:=hT.then hs11
 have hz11 := hs11.size
 refine as_q rfl rfl (q_pick_t rfl rfl) ?_
 refine Sa rfl rfl ?_
 refine as_nil (κ _ _ ?_)
 refine cw_ret ?_
 exact ⟨_, (res_tmp rfl res_nil), rfl, hT.forget⟩
theorem drainFronts_walk {w : World} {M : Mem} {z u : Int} {va : Value} {n : Nat} {xs : List El} {ns : List Int} (hs : Sat M w) (hnt : ns.length = 20) (ht : TabM ns M) (hr : RdM M 2 va n (els xs)) (hxs : ∀ x ∈ xs, ElOk x) (hu0 : 0 ≤ u) (hu : u ≤ 255) : Does Tryz.prog 9 #[.int .i64 z, va, .int .u8 u] w (fun v w' => v = .bool true ∧ Step Nope M w M w') := by
 obtain ⟨sa, ca, rfl, _, _⟩ := hr.slice
 by_cases hz : 40 < n ∨ z < 1 ∨ 6 < z
 · exact drainFronts_b hs hz
 · exact drainFronts_g hs hnt ht hr hxs (by omega) (by omega) hu0 hu
end Go.Proofs.YtgcgjpfjjgalmaaGreat
