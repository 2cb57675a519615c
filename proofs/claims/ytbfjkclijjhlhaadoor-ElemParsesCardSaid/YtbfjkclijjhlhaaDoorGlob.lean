/- The package-level variables that the rows list: what they hold when a law begins; a world in which they hold it. -/
import Derived.Test.YtbfjkclijjhlhaaDoorEaA
import Derived.Stop.LaidErr
import Derived.Lib.LaidIn
import Derived.LaidHandle
import Derived.KernelRfl
namespace Go.Proofs.YtbfjkclijjhlhaaDoor
open Go Go.Eng Go.RowKit Go.ChangeShapes Go.WideShapes

theorem own : ownKnob Tryd.prog.godebug = none := by kernel_rfl
theorem laidOut : laidOutB Tryd.prog = true := by kernel_rfl
def nmOf : DataW Unit → String
  | .iface n _ => n
  | _ => ""
theorem errNames (s : String) (h : s = nmOf Rows.laid_strconv_ErrRange) : ((List.range Tryd.prog.types.size).all fun u => Tryd.prog.typeName? 3 u != some s || u == 111) = true := by
  subst h
  kernel_rfl
theorem errName (u : TypeId) (h : Tryd.prog.typeName? 3 u = some (nmOf Rows.laid_strconv_ErrRange)) : u = 111 :=
  typeName_ptr_named (nm := "errors.errorString") (errNames _ (by decide)) (by kernel_rfl) (by decide) u (h.trans (congrArg some (by decide)))

theorem glob_of {W : World} (hL : laidMetH Tryd.prog Rows.elemTotalRow.laid W) : Glob (memOf W) := by
  have h0 : laidMet Tryd.prog Rows.elemTotalRow.laid W := hL
  have h1 := laidMet.tail h0
  have h2 := laidMet.tail h1
  have h3 := laidMet.tail h2
  have h4 := laidMet.tail h3
  have p := Lib.tabIs_of_head (k := .u64) (zs := Lib.pow10Tab) (g := 3) (t := 102) (e := 74) (n := 20) (by kernel_rfl) (by kernel_rfl) Tryd.underlying102 Tryd.underlying74 (by kernel_rfl) (by kernel_rfl) h2
  obtain ⟨a1, _, r, _⟩ := laid_sentinel (g := 2) (ti := 51) (tp := 111) (te := 113) (ts := 9) h3 (by kernel_rfl) (by kernel_rfl) Tryd.underlying51 errName Tryd.underlying111 Tryd.underlying113 rfl rfl Tryd.underlying9 (by kernel_rfl) (by kernel_rfl)
  obtain ⟨a2, _, s, _⟩ := laid_sentinel (g := 1) (ti := 51) (tp := 111) (te := 113) (ts := 9) h4 (by kernel_rfl) (by kernel_rfl) Tryd.underlying51 errName Tryd.underlying111 Tryd.underlying113 rfl rfl Tryd.underlying9 (by kernel_rfl) (by kernel_rfl)
  refine ⟨?_, ?_, ?_⟩
  · obtain ⟨e, he⟩ := memOf_var (g := 3) (by kernel_rfl) p
    exact ⟨e, he⟩
  · obtain ⟨e, he⟩ := memOf_var (g := 1) (by kernel_rfl) s
    exact ⟨_, e, he, .inr ⟨_, _, rfl⟩⟩
  · obtain ⟨e, he⟩ := memOf_var (g := 2) (by kernel_rfl) r
    exact ⟨_, e, he, .inr ⟨_, _, rfl⟩⟩

/-! ### A world that meets the condition -/
noncomputable def low : Nat := (World.holding Tryd.prog default ⟨#[], #[], []⟩).heap.size
def putG (h : Array Obj) (g : Nat) (cs : Array Value) : Array Obj := h.modify g fun
  | .cells _ t frozen => .cells cs t frozen
  | o => o
def bytesOf : DataW Unit → List UInt8
  | .iface _ (.ptr (.agg [.lit (.string s)])) => s
  | _ => []
def numsOf : DataW Unit → Array Value
  | .agg ds => (ds.map fun d => match d with | .lit (.int k n) => Value.int k n | _ => .nilIface).toArray
  | _ => #[]
noncomputable def laidWorld (os : Os) : World :=
  let w0 := World.holding Tryd.prog os ⟨#[.cells #[.string ⟨(bytesOf Rows.laid_strconv_ErrSyntax).toArray⟩] 113, .cells #[.string ⟨(bytesOf Rows.laid_strconv_ErrRange).toArray⟩] 113], #[], []⟩
  { w0 with heap := putG (putG (putG (putG (putG w0.heap 1 #[.iface 111 (.pointer (some ⟨low, 0, none⟩))]) 2 #[.iface 111 (.pointer (some ⟨low + 1, 0, none⟩))]) 3 (numsOf Rows.laid_internal_strconv_uint64pow10)) 4 (numsOf Rows.laid_math_bits_deBruijn32tab)) 5 (numsOf Rows.laid_math_bits_deBruijn64tab) }
theorem laidWorld_met (os : Os) (args : Array Value) : laidMetH Tryd.prog Rows.elemTotalRow.laid ((laidWorld os).forCall (fun _ _ => 0) ⟨#[], args, []⟩).memory :=
  laidMetH_of_parts (show laidMet Tryd.prog _ _ from laidMet_of_run' 8 (by kernel_rfl) (by kernel_rfl)) (by kernel_rfl)
end Go.Proofs.YtbfjkclijjhlhaaDoor
