/- How any two elements stand, and the least one, and all of any row in order, are the document s; what is handed in stays: the law answers true for every input. Conditions: the listed variables of the library hold what the program s text lays. -/
import Derived.Test.YtbfjkclijjhlhaaDoorEeA
import Derived.Test.YtbfjkclijjhlhaaDoorGlob
import Derived.Test.YtbfjkclijjhlhaaDoorElR
import Derived.Test.YtbfjkclijjhlhaaDoorRead
import Derived.Test.YtbfjkclijjhlhaaDoorCards
import Derived.Test.YtbfjkclijjhlhaaDoorTie
namespace Go.Proofs.YtbfjkclijjhlhaaDoor.elemOrder
open Go Go.ChangeShapes Go.WideShapes Go.ChangeAt Go.RowKit Go.Eng

theorem own : ownKnob Tryd.prog.godebug = none := by kernel_rfl
theorem laidOut : laidOutB Tryd.prog = true := by kernel_rfl
set_option maxRecDepth 100000 in
theorem lifted (os : Os) (started : os.Started) (H : Type) (enc : TypeId × Value → H) :
    ReturnsInHanded {} Tryd.checked os 3 .any (fun w args => (Rows.elemOrderSpec.pre enc Tryd.prog Tryd.f3 [] false w args ∧ laidMetH Tryd.prog Rows.elemOrderRow.laid w) ∧ sizedMet enc Tryd.prog Tryd.f3 (OpenSpec.ofChange Rows.elemOrderSpec) false w args) (Rows.elemOrderSpec.post enc Tryd.prog Tryd.f3 false true false false) := by
  refine returnsInHanded_of_change_and (C := Tryd.checked) (X := fun w _ => laidMetH Tryd.prog Rows.elemOrderRow.laid w) (fun _ _ _ hh h => h.of_heap hh) own started (by kernel_rfl) Tryd.func3
    (ChangeSpec.witness_at (enc := enc) (C := Tryd.checked) (os := os) (X := fun w _ => laidMetH Tryd.prog Rows.elemOrderRow.laid w) false (laidWorld os) #[.agg #[.int .i64 0, .int .i64 0], .agg #[.int .i64 0, .int .i64 0], .slice none 0 0] 8 rfl (by kernel_rfl) (by kernel_rfl) (by kernel_rfl) (by kernel_rfl) (by kernel_rfl) (laidWorld_met os _)) ?_
  intro W base args ds gs before hval0 hW hcnd hsz0 hL _
  have hsz : (DataW.weightsEach Tryd.prog (Tryd.f3.params.toList ++ Rows.elemOrderSpec.plain.varTypes Tryd.prog) (ds ++ gs)).all (· ≤ reachBytes) = true := hsz0
  have hval : ∀ (j : Nat) t v, Tryd.f3.params[j]? = some t → args[j]? = some v → Value.okWide Tryd.prog W .any base t v := hval0
  have hW' := hW
  obtain ⟨p, q, hA0, hV, rfl, hfz, hnd⟩ := hW
  have hA : DataW.TrodAll enc Tryd.prog W 0 (fun _ => true) true Tryd.f3.params.toList args.toList ds p := hA0
  rw [Tryd.params3] at hA hval hsz
  obtain ⟨v0, vs0, d0, ds0, p0, q0, hargs, rfl, rfl, h0, r0⟩ := trodAll_cons hA
  obtain ⟨v1, vs1, d1, ds1, p1, q1, rfl, rfl, rfl, h1, r1⟩ := trodAll_cons r0
  obtain ⟨v2, vs2, d2, ds2, p2, q2, rfl, rfl, rfl, h2, r2⟩ := trodAll_cons r1
  obtain ⟨rfl, rfl, rfl⟩ := trodAll_nil r2
  obtain rfl : args = #[v0, v1, v2] := by cases args; simp_all
  obtain ⟨rfl, rfl⟩ := trodVars_none hV
  have k0 := h0
  have lt0 : ∀ x ∈ p0, x.block < W.heap.size := by obtain ⟨m, hm⟩ := k0; exact DataW.trod_lt m _ _ _ hm
  obtain ⟨e0, rfl, hz0⟩ := read_el1 (okWide_struct Tryd.underlying23 (hval 0 23 v0 rfl rfl)) h0
  have k1 := h1
  have lt1 : ∀ x ∈ p1, x.block < W.heap.size := by obtain ⟨m, hm⟩ := k1; exact DataW.trod_lt m _ _ _ hm
  obtain ⟨e1, rfl, hz1⟩ := read_el1 (okWide_struct Tryd.underlying23 (hval 1 23 v1 rfl rfl)) h1
  have k2 := h2
  have lt2 : ∀ x ∈ p2, x.block < W.heap.size := by obtain ⟨m, hm⟩ := k2; exact DataW.trod_lt m _ _ _ hm
  obtain ⟨n2, xs2, hr2, hz2⟩ := read_els (by obtain ⟨a, n, c, h⟩ := okWide_slice Tryd.underlying24 (hval 2 24 v2 rfl rfl); exact ⟨a, n, c, h⟩) h2
  clear hA0 hval0 hsz0
  refine (Does.law (elemOrder_walk (Sat.memOf W) (glob_of hL) hr2) (fun v w' h => ⟨h.1, Step.below h.2 (fun _ h => h)⟩)).mono fun e W' ⟨he, bel⟩ => ?_
  subst he
  exact ⟨_, rfl, _, _, _, [], _, [], hW', trodAll_mk1 (shut_bool Tryd.underlying4 _), (trodAll_cons_mk (Below.trod laidOut (by kernel_rfl) (of_decide_eq_true (by kernel_rfl)) k0 bel lt0) (trodAll_cons_mk (Below.trod laidOut (by kernel_rfl) (of_decide_eq_true (by kernel_rfl)) k1 bel lt1) (trodAll_cons_mk (Below.trod laidOut (by kernel_rfl) (of_decide_eq_true (by kernel_rfl)) k2 bel lt2) trodAll_mk0))), rfl, bel.frame _, fun h => by cases h⟩
theorem over : Rows.elemOrderRow.holds Tryd.pinned (OpenSpec.ofChange Rows.elemOrderSpec) :=
  OpenClaim.holds_of_wide 3 Tryd.f3 rfl rfl rfl rfl rfl rfl rfl ⟨rfl, rfl, rfl, rfl, rfl⟩ rfl rfl rfl rfl rfl (by kernel_rfl) Tryd.func3 (by kernel_rfl)
    (of_decide_eq_true (by kernel_rfl)) (by unfold Func.isWrapper; first | (rw [if_pos (by decide +kernel)]; kernel_rfl) | (rw [if_neg (by decide +kernel)]; exact ⟨rfl, rfl⟩))
    (fun os started H enc _ => lifted os started H enc)
theorem proved : Rows.ElemOrderSaid := over
end Go.Proofs.YtbfjkclijjhlhaaDoor.elemOrder
namespace Go.Proofs.YtbfjkclijjhlhaaDoor
/-- How any two elements stand, and the least one, and all of any row in order, are the document s; what is handed in stays: the law answers true for every input. Conditions: the listed variables of the library hold what the program s text lays. -/
theorem elemOrder_holds : Rows.ElemOrderCardSaid :=
  Claim7.holds_tied_plain_at .later [] [.data, .data, .data, .sentinel, .sentinel] true (true, "3396a2b4c893c248c2ecc2a123e66547fdc8e397ba3b7f7615a77bd9c8d8db64") true
    elemOrder.proved (fun _ h => by cases h) (by kernel_rfl) (fun _ h => by cases h) elemOrder_row_tie rfl ⟨rfl, rfl⟩ (by kernel_rfl) rfl
    (fun f fn hf hfn => by
      obtain rfl : f = 3 := Option.some.inj ((show Tryd.prog.funcNamed Rows.elemOrderRow.func = some 3 by kernel_rfl).symm.trans hf) |>.symm
      obtain rfl : fn = Tryd.f3 := (Option.some.inj (Tryd.func3.symm.trans hfn)).symm
      exact ⟨by kernel_rfl, fun j t ht => by
        rw [Tryd.params3] at ht
        rcases j with _ | j
        · obtain rfl : t = 23 := by simpa using ht.symm
          exact (show Tryd.prog.wantsStandIn 23 = false by kernel_rfl)
        · skip
          rcases j with _ | j
          · obtain rfl : t = 23 := by simpa using ht.symm
            exact (show Tryd.prog.wantsStandIn 23 = false by kernel_rfl)
          · skip
            rcases j with _ | j
            · obtain rfl : t = 24 := by simpa using ht.symm
              exact (show Tryd.prog.wantsStandIn 24 = false by kernel_rfl)
            · skip
              simp at ht⟩)
    (by kernel_rfl)
#print axioms elemOrder_holds
end Go.Proofs.YtbfjkclijjhlhaaDoor
