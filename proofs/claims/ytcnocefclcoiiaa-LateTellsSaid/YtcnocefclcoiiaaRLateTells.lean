/- Whatever is asked, in whatever order, each answer is the document s, whatever becomes of what was handed in, or told; it is put in order once: the law answers true for every input. No conditions. -/
import Derived.Test.YtcnocefclcoiiaaL04cB
import Derived.Test.YtcnocefclcoiiaaElR
import Derived.Test.YtcnocefclcoiiaaRead
namespace Go.Proofs.Ytcnocefclcoiiaa.lateTells
open Go Go.ChangeShapes Go.WideShapes Go.ChangeAt Go.RowKit Go.Eng

theorem own : ownKnob Try.prog.godebug = none := by kernel_rfl
theorem laidOut : laidOutB Try.prog = true := by kernel_rfl
set_option maxRecDepth 100000 in
theorem lifted (os : Os) (started : os.Started) (H : Type) (enc : TypeId × Value → H) :
    ReturnsInHanded {} Try.checked os 9 .any (Rows.lateTellsSpec.pre6 enc Try.prog Try.f9 Rows.lateTellsRow.domain false) (Rows.lateTellsSpec.post enc Try.prog Try.f9 false true false false) := by
  refine returnsInHanded_of_change_sized (C := Try.checked) own started (by kernel_rfl) Try.func9
    (ChangeSpec.witness6 (enc := enc) (C := Try.checked) false ⟨#[], #[.slice none 0 0, .slice none 0 0], []⟩ 8 (by kernel_rfl) (by kernel_rfl) (by kernel_rfl) (by kernel_rfl)) ?_
  intro W base args ds gs before hval0 hW hcnd hsz0 _
  have hsz : (DataW.weightsEach Try.prog (Try.f9.params.toList ++ Rows.lateTellsSpec.plain.varTypes Try.prog) (ds ++ gs)).all (· ≤ reachBytes) = true := hsz0
  have hval : ∀ (j : Nat) t v, Try.f9.params[j]? = some t → args[j]? = some v → Value.okWide Try.prog W .any base t v := hval0
  have hW' := hW
  obtain ⟨p, q, hA0, hV, rfl, hfz, hnd⟩ := hW
  have hA : DataW.TrodAll enc Try.prog W 0 (fun _ => true) true Try.f9.params.toList args.toList ds p := hA0
  rw [Try.params9] at hA hval hsz
  obtain ⟨v0, vs0, d0, ds0, p0, q0, hargs, rfl, rfl, h0, r0⟩ := trodAll_cons hA
  obtain ⟨v1, vs1, d1, ds1, p1, q1, rfl, rfl, rfl, h1, r1⟩ := trodAll_cons r0
  obtain ⟨rfl, rfl, rfl⟩ := trodAll_nil r1
  obtain rfl : args = #[v0, v1] := by cases args; simp_all
  obtain ⟨rfl, rfl⟩ := trodVars_none hV
  have k0 := h0
  have lt0 : ∀ x ∈ p0, x.block < W.heap.size := by obtain ⟨m, hm⟩ := k0; exact DataW.trod_lt m _ _ _ hm
  obtain ⟨n0, xs0, hr0, hz0⟩ := read_els (by obtain ⟨a, n, c, h⟩ := okWide_slice Try.underlying72 (hval 0 72 v0 rfl rfl); exact ⟨a, n, c, h⟩) h0
  have k1 := h1
  have lt1 : ∀ x ∈ p1, x.block < W.heap.size := by obtain ⟨m, hm⟩ := k1; exact DataW.trod_lt m _ _ _ hm
  obtain ⟨n1, ss1, hr1, hz1⟩ := read_ints Try.underlying33 Try.underlying3 (by kernel_rfl) (by obtain ⟨a, n, c, h⟩ := okWide_slice Try.underlying33 (hval 1 33 v1 rfl rfl); exact ⟨a, n, c, h⟩) h1
  clear hA0 hval0 hsz0
  refine (Does.law (lateTells_walk (Sat.memOf W) hr0 hr1) (fun v w' h => ⟨h.1, Step.below h.2 (fun _ h => h)⟩)).mono fun e W' ⟨he, bel⟩ => ?_
  subst he
  exact ⟨_, rfl, _, _, _, [], _, [], hW', trodAll_mk1 (shut_bool Try.underlying4 _), (trodAll_cons_mk (Below.trod laidOut (by kernel_rfl) (of_decide_eq_true (by kernel_rfl)) k0 bel lt0) (trodAll_cons_mk (Below.trod laidOut (by kernel_rfl) (of_decide_eq_true (by kernel_rfl)) k1 bel lt1) trodAll_mk0)), rfl, bel.frame _, fun h => by cases h⟩
theorem over : Rows.lateTellsRow.holds Try.pinned (OpenSpec.ofChange Rows.lateTellsSpec) :=
  OpenClaim.holds_of_wide 9 Try.f9 rfl rfl rfl rfl rfl rfl rfl ⟨rfl, rfl, rfl, rfl, rfl⟩ rfl rfl rfl rfl rfl (by kernel_rfl) Try.func9 (by kernel_rfl)
    (of_decide_eq_true (by kernel_rfl)) (by unfold Func.isWrapper; first | (rw [if_pos (by decide +kernel)]; kernel_rfl) | (rw [if_neg (by decide +kernel)]; exact ⟨rfl, rfl⟩))
    (fun os started H enc _ => lifted os started H enc)
theorem proved : Rows.LateTellsSaid := over
end Go.Proofs.Ytcnocefclcoiiaa.lateTells
namespace Go.Proofs.Ytcnocefclcoiiaa
/-- Whatever is asked, in whatever order, each answer is the document s, whatever becomes of what was handed in, or told; it is put in order once: the law answers true for every input. No conditions. -/
theorem lateTells_holds : Rows.LateTellsSaid := lateTells.proved
#print axioms lateTells_holds
end Go.Proofs.Ytcnocefclcoiiaa
