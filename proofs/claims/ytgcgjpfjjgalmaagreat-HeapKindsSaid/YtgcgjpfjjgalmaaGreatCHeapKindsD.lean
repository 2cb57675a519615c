/- Steps of the proof that the law of this claim answers true, part 4. No conditions. -/
import Derived.Test.YtgcgjpfjjgalmaaGreatCHeapKindsC
/- Skew binomial heaps of heaps, part 2. -/
namespace Go.Proofs.YtgcgjpfjjgalmaaGreat
open Go Go.Eng
theorem sh_put {w : World} {M : Mem} {t0 : RT Bt} {ts0 : List (RT Bt)} {qt0 : Option Addr} {v0 : Value} (hs : Sat M w) (ht : TRep 332 1 EncB M t0 qt0) (h : SRow 332 1 EncB M w ts0 v0) (hz : t0.size + RT.sizes ts0 ≤ 1000000000) :
    Does Tryz.prog 257 #[.pointer none, .pointer qt0, v0] w (fun v w' => ∃ M', Step Nope M w M' w' ∧ SRow 332 1 EncB M' w' (bput ltB t0 ts0) v) := by
  have hT := Step.refl Nope hs
  obtain ⟨sa, sc, l, rfl, hr, hk⟩ := h
  refine fn_enter Tryz.func257 rfl (rs := [.tmp 6]) rfl rfl rfl rfl ?_
  refine cw_rs fun _ κ => ?_
  refine Sa rfl rfl ?_
  refine as_nil (κ _ _ ?_)
  refine cw_seq fun _ hK2 => ?_
  refine cw_block ?_
  refine cw_loop (fun mm l1 w1 => ∃ (t : RT Bt) (ts : List (RT Bt)) (l : List (Option Addr)) (qt sa : Option Addr) (sc : Nat) (M1 : Mem), mm = ts.length ∧ bput ltB t ts = bput ltB t0 ts0 ∧ t.size + RT.sizes ts ≤ 1000000000 ∧ l1 = [(0, .pointer none), (1, .pointer qt), (2, .slice sa ts.length sc)] ∧ Step Nope M w M1 w1 ∧ Rds M1 w1 1 (.slice sa ts.length sc) ts.length (ptrs l) ∧ TReps 332 1 EncB M1 ts l ∧ TRep 332 1 EncB M1 t qt) (ts0.length) [(0, .pointer none), (1, .pointer qt0), (2, .slice sa ts0.length sc)] (.cons rfl (.cons rfl (.cons rfl (.nil _)))) ?_ ?_
  · skip
    exact ⟨t0, ts0, l, qt0, sa, sc, M, rfl, rfl, hz, rfl, hT, hr, hk, ht⟩
  clear hT hr hk ht hz
  rintro mm l1 w1 ⟨t, ts, l, qt, sa, sc, M1, rfl, hmod, hz, rfl, hT, hr, hk, ht⟩
  have hln := hk.length
  have hlz := RT.sizes_length ts
  have hcap : ts.length ≤ sc := by
    obtain ⟨_, _, h, h2, _⟩ := hr.slice hT.sat
    cases h; exact h2
  refine cw_seq fun _ hK3 => ?_
  rcases ts with _ | ⟨f, r⟩
  · skip
    obtain rfl := treps_nil.1 hk
    have hlc : ([] : List (RT Bt)).length = 0 := rfl
    refine cw_dr (by kernel_rfl) fun _ κ => ?_
    have hs1 := Step.drew hT.sat
    have hz1 := hs1.size
    replace hr := hr.step hs1
    replace hk := hk.mono' EncB.mono hs1.le
    replace ht := ht.mono' EncB.mono hs1.le
    replace hT := hT.then hs1
    refine Dm 0 1 rfl (by kernel_rfl) rfl ?_
    refine Dq 1 3 rfl (by kernel_rfl) (fun _ => (q_len (by kernel_rfl) rfl _)) ?_
    refine Dq 2 7 rfl (by kernel_rfl) (fun _ => (q_gtF rfl rfl (by omega))) ?_
    refine Dm 3 15 rfl (by kernel_rfl) rfl ?_
    refine Dgs 4 31 rfl (by kernel_rfl) rfl rfl ?_
    refine Dgs 5 63 rfl (by kernel_rfl) rfl rfl ?_
    refine Dgs 6 127 rfl (by kernel_rfl) rfl rfl ?_
    refine Dgs 7 255 rfl (by kernel_rfl) rfl rfl ?_
    refine Dgs 8 511 rfl (by kernel_rfl) rfl rfl ?_
    refine Dgs 9 1023 rfl (by kernel_rfl) rfl rfl ?_
    refine Dgs 10 2047 rfl (by kernel_rfl) rfl rfl ?_
    refine Dq 11 4095 rfl (by kernel_rfl) (fun _ => (q_pick_f rfl rfl)) ?_
    refine Dd (by kernel_rfl) (κ _ _ ?_)
    refine cw_false rfl ?_
    refine cw_exit ?_
    refine hK2 _ _ ?_
    refine cw_rs fun _ κ => ?_
    refine Sm rfl rfl ?_
    have hTz := hT.size
    refine as_h rfl (h_buildO (e := 311) (size := 1) (zs := [(.pointer none)]) (cs := [_]) (by kernel_rfl) (by kernel_rfl) (by kernel_rfl) rfl hs1.sat rfl rfl fun bB w2 hs2 hoB eB => ?_)
    replace hr := hr.step hs2
    replace hk := hk.mono' EncB.mono hs2.le
    replace ht := ht.mono' EncB.mono hs2.le
    replace hT := hT.then hs2
    have hz2 := hs2.size
    refine Sm rfl rfl ?_
    have hbb := Own.buf hoB (n := 1) (size := 1) rfl (by decide)
    refine as_h rfl (h_append (e := 311) (size := 1) (bytes := 8) (by kernel_rfl) hs2.sat hbb (hr.now hs2.sat) rfl rfl (ptrs_one _) (by omega) rfl fun sv w3 hs3 hbu hor => ?_)
    replace hT := hT.trans hs3 (fun k hk h => by have h2 : bB = k := Option.some.inj h; omega)
    have hbs := hbu.rds
    replace hk := hk.mono' EncB.mono hs3.le
    replace ht := ht.mono' EncB.mono hs3.le
    obtain ⟨sva, svc, rfl, _, _⟩ := hbu.slice
    refine Sa rfl rfl ?_
    refine as_nil (κ _ _ ?_)
    refine cw_ret ?_
    rw [show bput ltB t0 ts0 = [t] from by rw [← hmod]; rfl]
    exact ⟨_, (res_tmp rfl res_nil), _, hT, sva, svc, _, congrArg (fun k => Value.slice sva k svc) (by simp <;> omega), hbs.cast (congrArg (fun k => Value.slice sva k svc) (by simp <;> omega)) (by simp <;> omega) rfl, treps_cons.2 ⟨_, _, rfl, ht, hk⟩⟩
  · skip
    obtain ⟨fq, lr, rfl, hf, hk2⟩ := treps_cons.1 hk
    obtain ⟨g, o, rfl⟩ := (hr.now hT.sat).there (by simp)
    have hlc : (f :: r).length = r.length + 1 := rfl
    refine cw_dr (by kernel_rfl) fun _ κ => ?_
    have hs4 := Step.drew hT.sat
    have hz4 := hs4.size
    replace hr := hr.step hs4
    replace hk := hk.mono' EncB.mono hs4.le
    replace ht := ht.mono' EncB.mono hs4.le
    replace hf := hf.mono' EncB.mono hs4.le
    replace hk2 := hk2.mono' EncB.mono hs4.le
    replace hT := hT.then hs4
    refine Dm 0 1 rfl (by kernel_rfl) rfl ?_
    refine Dq 1 3 rfl (by kernel_rfl) (fun _ => (q_len (by kernel_rfl) rfl _)) ?_
    refine Dq 2 7 rfl (by kernel_rfl) (fun _ => (q_gtT rfl rfl (by omega))) ?_
    refine Dm 3 15 rfl (by kernel_rfl) rfl ?_
    refine Dgq 4 31 rfl (by kernel_rfl) rfl rfl (fun _ => (q_move rfl)) ?_
    refine Dgq 6 95 rfl (by kernel_rfl) rfl rfl (fun _ => (q_move rfl)) ?_
    refine Dgq 7 223 rfl (by kernel_rfl) rfl rfl (fun _ => (q_indexAddr (e := 311) (size := 1) (by kernel_rfl) (by kernel_rfl) rfl rfl (by omega) (by omega))) ?_
    refine at_gq (i := 8) (li := lb 12 479) (cellIs _ _ _) rfl (by kernel_rfl) rfl rfl rfl rfl (fun _ h => q_load1 (by kernel_rfl) rfl h) ((hr _ _ (Step.refl _ hT.sat)).cell (u := .pointer fq) (j := (0 : Int).toNat * 1) rfl) (by kernel_rfl) ?_
    refine Dgh 5 511 rfl (by kernel_rfl) rfl rfl (keep_sift (bs := [F]) (by kernel_rfl)) (h_call (by kernel_rfl) rfl ?_)
    refine (th_rank hs4.sat ht).mono ?_
    rintro _ w5 ⟨rfl, hs5⟩
    replace hr := hr.step hs5
    replace hk := hk.mono' EncB.mono hs5.le
    replace ht := ht.mono' EncB.mono hs5.le
    replace hf := hf.mono' EncB.mono hs5.le
    replace hk2 := hk2.mono' EncB.mono hs5.le
    replace hT := hT.then hs5
    have hz5 := hs5.size
    refine ⟨(by repeat' first | exact trivial | exact ((hr _ _ (Step.refl _ hT.sat)).cell (u := .pointer fq) (j := (0 : Int).toNat * 1) rfl) | assumption | refine all_keep ?_ | refine And.intro ?_ ?_), ?_⟩
    refine Dgh 9 1023 rfl (by kernel_rfl) rfl rfl (keep_sift (bs := [T]) (by kernel_rfl)) (h_call (by kernel_rfl) rfl ?_)
    refine (th_rank hs5.sat hf).mono ?_
    rintro _ w6 ⟨rfl, hs6⟩
    replace hr := hr.step hs6
    replace hk := hk.mono' EncB.mono hs6.le
    replace ht := ht.mono' EncB.mono hs6.le
    replace hf := hf.mono' EncB.mono hs6.le
    replace hk2 := hk2.mono' EncB.mono hs6.le
    replace hT := hT.then hs6
    have hz6 := hs6.size
    refine ⟨trivial, ?_⟩
    refine Dgq 10 2047 rfl (by kernel_rfl) rfl rfl (fun _ => (q_ge rfl rfl)) ?_
    refine Dq 11 4095 rfl (by kernel_rfl) (fun _ => (q_pick_t rfl rfl)) ?_
    refine Dd (by kernel_rfl) (κ _ _ ?_)
    refine cw_cond rfl (fun hc0 => ?_) (fun hc0 => ?_)
    · skip
      skip
      refine cw_skip ?_
      refine hK3 _ _ ?_
      refine cw_block ?_
      refine cw_drawn (by kernel_rfl) (by kernel_rfl) (by kernel_rfl) rfl rfl fun K7 hK7 => ?_
      have hs7 := Step.drew hs6.sat
      have hz7 := hs7.size
      replace hr := hr.step hs7
      replace hk := hk.mono' EncB.mono hs7.le
      replace ht := ht.mono' EncB.mono hs7.le
      replace hf := hf.mono' EncB.mono hs7.le
      replace hk2 := hk2.mono' EncB.mono hs7.le
      replace hT := hT.then hs7
      refine Dm 0 1 rfl (by kernel_rfl) rfl ?_
      refine Dm 1 3 rfl (by kernel_rfl) rfl ?_
      refine Dm 2 7 rfl (by kernel_rfl) rfl ?_
      refine Dq 3 15 rfl (by kernel_rfl) (fun _ => (q_indexAddr (e := 311) (size := 1) (by kernel_rfl) (by kernel_rfl) rfl rfl (by omega) (by omega))) ?_
      refine Dl1 4 31 rfl (by kernel_rfl) (by kernel_rfl) rfl ((hr _ _ (Step.refl _ hT.sat)).cell (u := .pointer fq) (j := (0 : Int).toNat * 1) rfl) ?_
      refine Dm 6 95 rfl (by kernel_rfl) rfl ?_
      refine Dq 7 223 rfl (by kernel_rfl) (fun _ => (q_slice (e := 311) (size := 1) (k' := .i64) (by kernel_rfl) (by kernel_rfl) rfl rfl rfl (by omega) (by omega) (by omega))) ?_
      refine Dh 5 255 rfl (by kernel_rfl) (keep_sift (bs := [T]) (by kernel_rfl)) (h_call (by kernel_rfl) rfl ?_)
      refine (th_link hs7.sat ht hf (by simp only [RT.sizes] at hz; omega)).mono ?_
      rintro _ w8 ⟨qn, Mn, rfl, hs8, hn⟩
      replace hr := hr.step hs8
      replace hk := hk.mono' EncB.mono hs8.le
      replace ht := ht.mono' EncB.mono hs8.le
      replace hk2 := hk2.mono' EncB.mono hs8.le
      replace hT := hT.then hs8
      have hz8 := hs8.size
      refine ⟨trivial, ?_⟩
      refine Da 8 511 rfl (by kernel_rfl) rfl ?_
      refine Da 9 1023 rfl (by kernel_rfl) rfl ?_
      refine Dd (by kernel_rfl) (hK7 _ _ ?_)
      refine ⟨_, _, ?_, (.cons rfl (.cons rfl (.cons rfl (.nil _)))), _, r, lr, _, _, _, _, rfl, ?_, ?_, rfl, hT, hr.tail (by simpa using hln), hk2, hn⟩
      · simp
      · rw [← hmod]
        conv => rhs; unfold bput
        rw [if_neg (by simpa using hc0)]
      · rw [RT.link_size]; simp only [RT.sizes] at hz; omega
    · skip
      skip
      refine cw_exit ?_
      refine hK2 _ _ ?_
      refine cw_rs fun _ κ => ?_
      refine Sm rfl rfl ?_
      have hTz := hT.size
      refine as_h rfl (h_buildO (e := 311) (size := 1) (zs := [(.pointer none)]) (cs := [_]) (by kernel_rfl) (by kernel_rfl) (by kernel_rfl) rfl hs6.sat rfl rfl fun bB w9 hs9 hoB eB => ?_)
      replace hr := hr.step hs9
      replace hk := hk.mono' EncB.mono hs9.le
      replace ht := ht.mono' EncB.mono hs9.le
      replace hT := hT.then hs9
      have hz9 := hs9.size
      refine Sm rfl rfl ?_
      have hbb := Own.buf hoB (n := 1) (size := 1) rfl (by decide)
      refine as_h rfl (h_append (e := 311) (size := 1) (bytes := 8) (by kernel_rfl) hs9.sat hbb (hr.now hs9.sat) rfl rfl (ptrs_one _) (by omega) rfl fun sv w10 hs10 hbu hor => ?_)
      replace hT := hT.trans hs10 (fun k hk h => by have h2 : bB = k := Option.some.inj h; omega)
      have hbs := hbu.rds
      replace hk := hk.mono' EncB.mono hs10.le
      replace ht := ht.mono' EncB.mono hs10.le
      obtain ⟨sva, svc, rfl, _, _⟩ := hbu.slice
      refine Sa rfl rfl ?_
      refine as_nil (κ _ _ ?_)
      refine cw_ret ?_
      rw [show bput ltB t0 ts0 = t :: f :: r from by rw [← hmod]; unfold bput; rw [if_pos (by simpa using hc0)]]
      exact ⟨_, (res_tmp rfl res_nil), _, hT, sva, svc, _, congrArg (fun k => Value.slice sva k svc) (by simp <;> omega), hbs.cast (congrArg (fun k => Value.slice sva k svc) (by simp <;> omega)) (by simp <;> omega) rfl, treps_cons.2 ⟨_, _, rfl, ht, hk⟩⟩
theorem sh_level_n {w : World} {M : Mem} {sa : Option Addr} {sc : Nat} (hs : Sat M w) :
    Does Tryz.prog 243 #[.pointer none, .slice sa (0 : Nat) sc] w (fun v w' => ∃ M', Step Nope M w M' w' ∧ SRow 332 1 EncB M' w' ([] : List (RT Bt)) v) := by
  have hT := Step.refl Nope hs
  refine fn_enter Tryz.func243 rfl (rs := [.tmp 4]) rfl rfl rfl rfl ?_
  refine cw_rs fun _ κ => ?_
  refine Sa rfl rfl ?_
  refine as_nil (κ _ _ ?_)
  refine cw_seq fun _ hK2 => ?_
  refine cw_rs fun _ κ => ?_
  refine Sm rfl rfl ?_
  refine as_q rfl rfl (q_len (by kernel_rfl) rfl _) ?_
  refine as_q rfl rfl (q_eqT rfl rfl (by simp)) ?_
  refine as_nil (κ _ _ ?_)
  refine cw_true rfl ?_
  refine cw_rs fun _ κ => ?_
  refine Sa rfl rfl ?_
  refine as_nil (κ _ _ ?_)
  refine cw_ret ?_
  exact ⟨_, (res_tmp rfl res_nil), M, hT, srow_nil _ _ _ _ (fun _ => rfl)⟩
theorem sh_level_c {w : World} {M : Mem} {f : RT Bt} {r : List (RT Bt)} {v0 : Value} (hs : Sat M w) (h : SRow 332 1 EncB M w (f :: r) v0) (hz : RT.sizes (f :: r) ≤ 1000000000) :
    Does Tryz.prog 243 #[.pointer none, v0] w (fun v w' => ∃ M', Step Nope M w M' w' ∧ SRow 332 1 EncB M' w' (bput ltB f r) v) := by
  have hT := Step.refl Nope hs
  obtain ⟨sa, sc, l, rfl, hr, hk⟩ := h
  have hln := hk.length
  have hlz := RT.sizes_length (f :: r)
  have hcaphr : (f :: r).length ≤ sc := by
    obtain ⟨_, _, h, h2, _⟩ := hr.slice hs
    cases h; exact h2
  obtain ⟨fq, lr, rfl, hf, hk2⟩ := treps_cons.1 hk
  obtain ⟨g, o, rfl⟩ := (hr.now hs).there (by simp)
  have hlc : (f :: r).length = r.length + 1 := rfl
  refine fn_enter Tryz.func243 rfl (rs := [.tmp 4]) rfl rfl rfl rfl ?_
  refine cw_rs fun _ κ => ?_
  refine Sa rfl rfl ?_
  refine as_nil (κ _ _ ?_)
  refine cw_seq fun _ hK2 => ?_
  refine cw_rs fun _ κ => ?_
  refine Sm rfl rfl ?_
  refine as_q rfl rfl (q_len (by kernel_rfl) rfl _) ?_
  refine as_q rfl rfl (q_eqF rfl rfl (by omega)) ?_
  refine as_nil (κ _ _ ?_)
  refine cw_false rfl ?_
  refine cw_skip ?_
  refine hK2 _ _ ?_
  refine cw_dr (by kernel_rfl) fun _ κ => ?_
  have hs1 := Step.drew hs
  have hz1 := hs1.size
  replace hr := hr.step hs1
  replace hk2 := hk2.mono' EncB.mono hs1.le
  replace hf := hf.mono' EncB.mono hs1.le
  replace hT := hT.then hs1
  refine Dm 0 1 rfl (by kernel_rfl) rfl ?_
  refine Dm 1 3 rfl (by kernel_rfl) rfl ?_
  refine Dq 2 7 rfl (by kernel_rfl) (fun _ => (q_indexAddr (e := 311) (size := 1) (by kernel_rfl) (by kernel_rfl) rfl rfl (by omega) (by omega))) ?_
  refine Dl1 3 15 rfl (by kernel_rfl) (by kernel_rfl) rfl ((hr _ _ (Step.refl _ hT.sat)).cell (u := .pointer fq) (j := (0 : Int).toNat * 1) rfl) ?_
  refine Dm 4 31 rfl (by kernel_rfl) rfl ?_
  refine Dq 5 63 rfl (by kernel_rfl) (fun _ => (q_slice (e := 311) (size := 1) (k' := .i64) (by kernel_rfl) (by kernel_rfl) rfl rfl rfl (by omega) (by omega) (by omega))) ?_
  refine Dh 6 127 rfl (by kernel_rfl) (keep_sift (bs := [T]) (by kernel_rfl)) (h_call (by kernel_rfl) rfl ?_)
  refine (sh_put hs1.sat hf ⟨_, _, _, rfl, hr.tail (by simpa using hln), hk2⟩ (by simp only [RT.sizes] at hz; omega)).mono ?_
  rintro v w2 ⟨Mn, hs2, hn⟩
  obtain ⟨va, vc, vl, rfl, hv1, hv2⟩ := hn
  replace hT := hT.then hs2
  have hz2 := hs2.size
  refine ⟨trivial, ?_⟩
  refine Da 7 255 rfl (by kernel_rfl) rfl ?_
  refine Dd (by kernel_rfl) (κ _ _ ?_)
  refine cw_ret ?_
  exact ⟨_, (res_tmp rfl res_nil), _, hT, _, _, _, rfl, hv1, hv2⟩
theorem sh_level {w : World} {M : Mem} {ts : List (RT Bt)} {v0 : Value} (hs : Sat M w) (h : SRow 332 1 EncB M w ts v0) (hz : RT.sizes ts ≤ 1000000000) : Does Tryz.prog 243 #[.pointer none, v0] w (fun v w' => ∃ M', Step Nope M w M' w' ∧ SRow 332 1 EncB M' w' (slevel ltB ts) v) := by
  cases ts with
  | nil => obtain ⟨sa, sc, l, rfl, _, _⟩ := h; exact sh_level_n hs
  | cons f r => exact sh_level_c hs h hz
theorem ch_of {w : World} {M : Mem} {l : List (Option Addr)} {sa : Option Addr} {sc : Nat} (hs : Sat M w) (hr : Rds M w 1 (.slice sa l.length sc) l.length (ptrs l)) (hz : l.length ≤ 1000000000) :
    Does Tryz.prog 245 #[.slice sa l.length sc] w (fun v w' => ∃ q M', v = .agg #[.pointer q] ∧ Step Nope M w M' w' ∧ CRep 330 M' l (.pointer q)) := by
  have hT := Step.refl Nope hs
  have hr0 := hr
  refine fn_enter Tryz.func245 rfl (rs := [.cell 2 292]) rfl rfl rfl rfl ?_
  refine cw_rs fun _ κ => ?_
  have hqar := hT.size
  refine as_h rfl (h_allocO (z := (.agg #[(.pointer none)])) hs (by kernel_rfl) rfl fun br w1 hs1 hor er => ?_)
  replace hT := hT.then hs1
  have hz1 := hs1.size
  have hlr := hor.1.lt
  refine as_nil (κ _ _ ?_)
  refine cw_rs fun _ κ => ?_
  refine as_q rfl rfl (q_build (zs := [(.pointer none)]) (places := [(0, 1)]) (cs := [_]) (by kernel_rfl) (by kernel_rfl) rfl rfl) ?_
  have hqao := hT.size
  refine as_h rfl (h_allocO (z := (.agg #[(.pointer none)])) hs1.sat (by kernel_rfl) rfl fun bo w2 hs2 hoo eo => ?_)
  replace hor := hor.then hs2
  replace hT := hT.then hs2
  have hz2 := hs2.size
  have hlo := hoo.1.lt
  refine as_h0 (h_store hs2.sat hoo rfl rfl rfl (by kernel_rfl) rfl rfl rfl fun w3 hs3 hn3 => ?_)
  replace hor := hor.step hs3 (fun h => by have h : _ = _ := h; omega)
  clear hoo; have hoo := hn3; clear hn3
  replace hT := hT.own hs3 (by omega)
  have hz3 := hs3.size
  refine as_nil (κ _ _ ?_)
  refine cw_seq fun _ hK3 => ?_
  refine cw_rs fun _ κ => ?_
  refine Sm rfl rfl ?_
  refine as_q rfl rfl (q_len (by kernel_rfl) rfl _) ?_
  refine as_q rfl rfl (q_subx rfl rfl (by omega) (by omega)) ?_
  refine Sa rfl rfl ?_
  refine as_nil (κ _ _ ?_)
  refine cw_block ?_
  refine cw_loop (fun mm l1 w1 => ∃ (z : Int) (q : Option Addr) (M1 : Mem), mm = (z + 1).toNat ∧ -1 ≤ z ∧ z < l.length ∧ l1 = [(0, .slice sa l.length sc), (2, .pointer (some ⟨br, 0, none⟩)), (3, .pointer (some ⟨bo, 0, none⟩)), (4, .int .i64 z)] ∧ Step Nope M w M1 w1 ∧ CRep 330 M1 (l.drop (z + 1).toNat) (.pointer q) ∧ Own w1 M1 bo [.pointer q] 292 ∧ Own w1 M1 br [.pointer none] 292) (l.length) [(0, .slice sa l.length sc), (2, .pointer (some ⟨br, 0, none⟩)), (3, .pointer (some ⟨bo, 0, none⟩)), (4, .int .i64 ((l.length : Int) - 1))] (.cons rfl (.cons rfl (.cons rfl (.cons rfl (.nil _))))) ?_ ?_
  · skip
    refine ⟨(l.length : Int) - 1, none, M, by omega, by omega, by omega, rfl, hT, ?_, hoo, hor⟩
    rw [List.drop_eq_nil_of_le (by omega)]
    rfl
  have hbw : w.heap.size ≤ bo ∧ w.heap.size ≤ br ∧ br ≠ bo := by omega
  clear hT hoo hor
  rintro mm l1 w1 ⟨z, q, M1, rfl, hz1, hz2, rfl, hT, hcc, hoo, hor⟩
  refine cw_seq fun _ hK5 => ?_
  refine cw_rs fun _ κ => ?_
  refine Sm rfl rfl ?_
  refine as_q rfl rfl (q_ge rfl rfl) ?_
  refine as_nil (κ _ _ ?_)
  refine cw_cond rfl (fun hc0 => ?_) (fun hc0 => ?_)
  · skip
    replace hc0 := of_decide_eq_true hc0
    obtain ⟨x, hx⟩ : ∃ x, l[z.toNat]? = some x := ⟨l[z.toNat]'(by omega), by simp⟩
    obtain ⟨g, o, rfl⟩ := (hr0 _ _ hT).there (by omega)
    refine cw_skip ?_
    refine hK5 _ _ ?_
    refine cw_seq fun _ hK7 => ?_
    refine cw_block ?_
    refine cw_drawn (by kernel_rfl) (by kernel_rfl) (by kernel_rfl) rfl rfl fun K8 hK8 => ?_
    have hs4 := Step.drew hT.sat
    have hz4 := hs4.size
    replace hcc := hcc.mono hs4.le
    replace hoo := hoo.then hs4
    replace hor := hor.then hs4
    replace hT := hT.then hs4
    refine Dlc 0 1 1 rfl (by kernel_rfl) (by kernel_rfl) rfl (by exact Blk.cells hoo.1 rfl) ?_
    refine Dm 1 3 rfl (by kernel_rfl) rfl ?_
    refine Dm 2 7 rfl (by kernel_rfl) rfl ?_
    refine Dq 3 15 rfl (by kernel_rfl) (fun _ => (q_indexAddr (e := 311) (size := 1) (by kernel_rfl) (by kernel_rfl) rfl rfl (by omega) (by omega))) ?_
    refine Dl1 4 31 rfl (by kernel_rfl) (by kernel_rfl) rfl ((hr0 _ _ hT).cell (u := .pointer x) (j := z.toNat * 1) (by simp [ptrs, hx])) ?_
    refine Dh 5 63 rfl (by kernel_rfl) (keep_sift (bs := [T,T]) (by kernel_rfl)) (h_call (by kernel_rfl) rfl ?_)
    refine (ch_push hs4.sat hcc (by rw [List.length_drop]; omega)).mono ?_
    rintro _ w5 ⟨qp, Mp, rfl, hs5, hp⟩
    replace hcc := hcc.mono hs5.le
    replace hoo := hoo.then hs5
    replace hor := hor.then hs5
    replace hT := hT.then hs5
    have hz5 := hs5.size
    refine ⟨trivial, ?_⟩
    refine Dh0 6 127 rfl (by kernel_rfl) rfl (h_store hs5.sat hoo rfl rfl rfl (by kernel_rfl) rfl rfl rfl fun w6 hs6 hn6 => ?_)
    replace hcc := hcc.mono hs6.le
    replace hor := hor.step hs6 (fun h => by have h : _ = _ := h; omega)
    replace hp := hp.mono hs6.le
    clear hoo; have hoo := hn6; clear hn6
    replace hT := hT.own hs6 (by omega)
    have hz6 := hs6.size
    refine ⟨trivial, ?_⟩
    refine Dd (by kernel_rfl) (hK8 _ _ ?_)
    refine hK7 _ _ ?_
    refine cw_region fun _ κ => ?_
    refine Sm rfl rfl ?_
    refine as_q rfl rfl (q_subx rfl rfl (by omega) (by omega)) ?_
    refine Sa rfl rfl ?_
    refine as_nil (κ _ _ ?_)
    refine ⟨_, _, ?_, (.cons rfl (.cons rfl (.cons rfl (.cons rfl (.nil _))))), _, _, _, rfl, ?_, ?_, rfl, hT, ?_, hoo, hor⟩
    · omega
    · omega
    · omega
    · rw [show (z - 1 + 1).toNat = z.toNat by omega, List.drop_eq_getElem_cons (i := z.toNat) (by omega), show l[z.toNat] = x from by rw [List.getElem?_eq_getElem (by omega)] at hx; exact Option.some.inj hx, show z.toNat + 1 = (z + 1).toNat by omega]
      exact hp
  · skip
    replace hc0 := of_decide_eq_false hc0
    refine cw_exit ?_
    refine hK3 _ _ ?_
    refine cw_rs fun _ κ => ?_
    refine Sc 1 rfl (by kernel_rfl) rfl (by exact Blk.cells hoo.1 rfl) ?_
    refine as_h0 (h_store hT.sat hor rfl rfl rfl (by kernel_rfl) rfl rfl rfl fun w7 hs7 hn7 => ?_)
    replace hcc := hcc.mono hs7.le
    clear hor; have hor := hn7; clear hn7
    replace hT := hT.own hs7 (by omega)
    have hz7 := hs7.size
    refine as_nil (κ _ _ ?_)
    refine cw_ret ?_
    rw [show (z + 1).toNat = 0 by omega, List.drop_zero] at hcc
    exact ⟨_, (res_cell rfl (loadVar_n (n := 1) (by kernel_rfl) (by exact Blk.cells hor.1 rfl)) res_nil), _, _, rfl, hT, hcc⟩
def SMeldh (k : Nat) : Prop := ∀ (w : World) (M : Mem) (a b : List (RT Bt)) (va vb : Value), Sat M w → SRow 332 1 EncB M w a va → SRow 332 1 EncB M w b vb → a.length + b.length < k → RT.sizes a + RT.sizes b ≤ 1000000000 →
    Does Tryz.prog 246 #[.pointer none, va, vb] w (fun v w' => ∃ M', Step Nope M w M' w' ∧ SRow 332 1 EncB M' w' (bmeld ltB a b) v)
theorem sh_meld_a {w : World} {M : Mem} {b : List (RT Bt)} {vb : Value} {sa : Option Addr} {sc : Nat} (hs : Sat M w) (hb : SRow 332 1 EncB M w b vb) :
    Does Tryz.prog 246 #[.pointer none, .slice sa (0 : Nat) sc, vb] w (fun v w' => ∃ M', Step Nope M w M' w' ∧ SRow 332 1 EncB M' w' b v) := by
  have hT := Step.refl Nope hs
  obtain ⟨ba, bc, lb, rfl, h1, h2⟩ := hb
  have hb : SRow 332 1 EncB M w b (.slice ba b.length bc) := ⟨ba, bc, lb, rfl, h1, h2⟩
  refine fn_enter Tryz.func246 rfl (rs := [.tmp 6]) rfl rfl rfl rfl ?_
  refine cw_rs fun _ κ => ?_
  refine Sa rfl rfl ?_
  refine as_nil (κ _ _ ?_)
  refine cw_seq fun _ hK2 => ?_
  refine cw_block ?_
  refine cw_rs fun _ κ => ?_
  refine Sm rfl rfl ?_
  refine as_q rfl rfl (q_len (by kernel_rfl) rfl _) ?_
  refine as_q rfl rfl (q_eqT rfl rfl (by omega)) ?_
  refine Sa rfl rfl ?_
  refine as_nil (κ _ _ ?_)
  refine cw_true rfl ?_
  refine cw_rs fun _ κ => ?_
  refine Sm rfl rfl ?_
  refine Sa rfl rfl ?_
  refine as_nil (κ _ _ ?_)
  refine cw_ret ?_
  exact ⟨_, (res_tmp rfl res_nil), _, hT, hb⟩
theorem sh_meld_b {w : World} {M : Mem} {f : RT Bt} {a : List (RT Bt)} {va : Value} {sb : Option Addr} {sc : Nat} (hs : Sat M w) (ha : SRow 332 1 EncB M w (f :: a) va) :
    Does Tryz.prog 246 #[.pointer none, va, .slice sb (0 : Nat) sc] w (fun v w' => ∃ M', Step Nope M w M' w' ∧ SRow 332 1 EncB M' w' (f :: a) v) := by
  have hT := Step.refl Nope hs
  obtain ⟨ba, bc, lb, rfl, h1, h2⟩ := ha
  have ha : SRow 332 1 EncB M w (f :: a) (.slice ba (f :: a).length bc) := ⟨ba, bc, lb, rfl, h1, h2⟩
  have hlc : (f :: a).length = a.length + 1 := rfl
  refine fn_enter Tryz.func246 rfl (rs := [.tmp 6]) rfl rfl rfl rfl ?_
  refine cw_rs fun _ κ => ?_
  refine Sa rfl rfl ?_
  refine as_nil (κ _ _ ?_)
  refine cw_seq fun _ hK2 => ?_
  refine cw_block ?_
  refine cw_rs fun _ κ => ?_
  refine Sm rfl rfl ?_
  refine as_q rfl rfl (q_len (by kernel_rfl) rfl _) ?_
  refine as_q rfl rfl (q_eqF rfl rfl (by omega)) ?_
  refine Sa rfl rfl ?_
  refine as_nil (κ _ _ ?_)
  refine cw_false rfl ?_
  refine cw_rs fun _ κ => ?_
  refine Sm rfl rfl ?_
  refine as_q rfl rfl (q_len (by kernel_rfl) rfl _) ?_
  refine as_q rfl rfl (q_eqT rfl rfl (by omega)) ?_
  refine Sa rfl rfl ?_
  refine as_nil (κ _ _ ?_)
  refine cw_true rfl ?_
  refine cw_rs fun _ κ => ?_
  refine Sm rfl rfl ?_
  refine Sa rfl rfl ?_
  refine as_nil (κ _ _ ?_)
  refine cw_ret ?_
  exact ⟨_, (res_tmp rfl res_nil), _, hT, ha⟩
theorem sh_meld_c {w : World} {M : Mem} {f g : RT Bt} {a b : List (RT Bt)} {va vb : Value} {k : Nat} (ih : SMeldh k) (hs : Sat M w) (ha : SRow 332 1 EncB M w (f :: a) va) (hb : SRow 332 1 EncB M w (g :: b) vb) (hk : (f :: a).length + (g :: b).length < k + 1) (hz : RT.sizes (f :: a) + RT.sizes (g :: b) ≤ 1000000000) :
    Does Tryz.prog 246 #[.pointer none, va, vb] w (fun v w' => ∃ M', Step Nope M w M' w' ∧ SRow 332 1 EncB M' w' (bmeld ltB (f :: a) (g :: b)) v) := by
  have hT := Step.refl Nope hs
  obtain ⟨sa, sc, l, rfl, hr, hka⟩ := ha
  obtain ⟨sb, sd, lb, rfl, hrb, hkb⟩ := hb
  have hln := hka.length
  have hlnb := hkb.length
  have hcaphr : (f :: a).length ≤ sc := by
    obtain ⟨_, _, h, h2, _⟩ := hr.slice hs
    cases h; exact h2
  have hcaphrb : (g :: b).length ≤ sd := by
    obtain ⟨_, _, h, h2, _⟩ := hrb.slice hs
    cases h; exact h2
  obtain ⟨fq, lr, rfl, hf, hk2⟩ := treps_cons.1 hka
  obtain ⟨gq, lbr, rfl, hg, hkb2⟩ := treps_cons.1 hkb
  obtain ⟨g1, o, rfl⟩ := (hr.now hs).there (by simp)
  obtain ⟨g2, o2, rfl⟩ := (hrb.now hs).there (by simp)
  have hlc : (f :: a).length = a.length + 1 := rfl
  have hlcb : (g :: b).length = b.length + 1 := rfl
  have hfp := f.size_pos
  have hgp := g.size_pos
  have hmf := RT.sizes_cons f a
  have hmg := RT.sizes_cons g b
  refine fn_enter Tryz.func246 rfl (rs := [.tmp 6]) rfl rfl rfl rfl ?_
  refine cw_rs fun _ κ => ?_
  refine Sa rfl rfl ?_
  refine as_nil (κ _ _ ?_)
  refine cw_seq fun _ hK2 => ?_
  refine cw_block ?_
  refine cw_rs fun _ κ => ?_
  refine Sm rfl rfl ?_
  refine as_q rfl rfl (q_len (by kernel_rfl) rfl _) ?_
  refine as_q rfl rfl (q_eqF rfl rfl (by omega)) ?_
  refine Sa rfl rfl ?_
  refine as_nil (κ _ _ ?_)
  refine cw_false rfl ?_
  refine cw_rs fun _ κ => ?_
  refine Sm rfl rfl ?_
  refine as_q rfl rfl (q_len (by kernel_rfl) rfl _) ?_
  refine as_q rfl rfl (q_eqF rfl rfl (by omega)) ?_
  refine Sa rfl rfl ?_
  refine as_nil (κ _ _ ?_)
  refine cw_false rfl ?_
  refine cw_dr (by kernel_rfl) fun _ κ => ?_
  have hs1 := Step.drew hs
  have hz1 := hs1.size
  replace hr := hr.step hs1
  replace hka := hka.mono' EncB.mono hs1.le
  replace hk2 := hk2.mono' EncB.mono hs1.le
  replace hf := hf.mono' EncB.mono hs1.le
  replace hrb := hrb.step hs1
  replace hkb := hkb.mono' EncB.mono hs1.le
  replace hkb2 := hkb2.mono' EncB.mono hs1.le
  replace hg := hg.mono' EncB.mono hs1.le
  replace hT := hT.then hs1
  refine Dm 0 1 rfl (by kernel_rfl) rfl ?_
  refine Dq 1 3 rfl (by kernel_rfl) (fun _ => (q_indexAddr (e := 311) (size := 1) (by kernel_rfl) (by kernel_rfl) rfl rfl (by omega) (by omega))) ?_
  refine Dl1 2 7 rfl (by kernel_rfl) (by kernel_rfl) rfl ((hr _ _ (Step.refl _ hT.sat)).cell (u := .pointer fq) (j := (0 : Int).toNat * 1) rfl) ?_
  refine Dm 4 23 rfl (by kernel_rfl) rfl ?_
  refine Dq 5 55 rfl (by kernel_rfl) (fun _ => (q_indexAddr (e := 311) (size := 1) (by kernel_rfl) (by kernel_rfl) rfl rfl (by omega) (by omega))) ?_
  refine Dl1 6 119 rfl (by kernel_rfl) (by kernel_rfl) rfl ((hrb _ _ (Step.refl _ hT.sat)).cell (u := .pointer gq) (j := (0 : Int).toNat * 1) rfl) ?_
  refine Dh 3 127 rfl (by kernel_rfl) (keep_sift (bs := [F,T]) (by kernel_rfl)) (h_call (by kernel_rfl) rfl ?_)
  refine (th_rank hs1.sat hf).mono ?_
  rintro _ w2 ⟨rfl, hs2⟩
  replace hr := hr.step hs2
  replace hka := hka.mono' EncB.mono hs2.le
  replace hk2 := hk2.mono' EncB.mono hs2.le
  replace hf := hf.mono' EncB.mono hs2.le
  replace hrb := hrb.step hs2
  replace hkb := hkb.mono' EncB.mono hs2.le
  replace hkb2 := hkb2.mono' EncB.mono hs2.le
  replace hg := hg.mono' EncB.mono hs2.le
  replace hT := hT.then hs2
  have hz2 := hs2.size
  refine ⟨(by repeat' first | exact trivial | exact ((hr _ _ (Step.refl _ hT.sat)).cell (u := .pointer fq) (j := (0 : Int).toNat * 1) rfl) | exact ((hrb _ _ (Step.refl _ hT.sat)).cell (u := .pointer gq) (j := (0 : Int).toNat * 1) rfl) | assumption | refine all_keep ?_ | refine And.intro ?_ ?_), ?_⟩
  refine Dh 7 255 rfl (by kernel_rfl) (keep_sift (bs := [T]) (by kernel_rfl)) (h_call (by kernel_rfl) rfl ?_)
  refine (th_rank hs2.sat hg).mono ?_
  rintro _ w3 ⟨rfl, hs3⟩
  replace hr := hr.step hs3
  replace hka := hka.mono' EncB.mono hs3.le
  replace hk2 := hk2.mono' EncB.mono hs3.le
  replace hf := hf.mono' EncB.mono hs3.le
  replace hrb := hrb.step hs3
  replace hkb := hkb.mono' EncB.mono hs3.le
  replace hkb2 := hkb2.mono' EncB.mono hs3.le
  replace hg := hg.mono' EncB.mono hs3.le
  replace hT := hT.then hs3
  have hz3 := hs3.size
  refine ⟨trivial, ?_⟩
  refine Dq 8 511 rfl (by kernel_rfl) (fun _ => (q_lt rfl rfl)) ?_
  refine Da 9 1023 rfl (by kernel_rfl) rfl ?_
  refine Dd (by kernel_rfl) (κ _ _ ?_)
  refine cw_cond rfl (fun hc2 => ?_) (fun hc2 => ?_)
  · skip
    replace hc2 : f.rank < g.rank := by have := of_decide_eq_true hc2; omega
    refine cw_rdS (fun l2 w2 => ∃ v, l2 = [(6, v)] ∧ ∃ M2, Step Nope M w M2 w2 ∧ SRow 332 1 EncB M2 w2 (bmeld ltB (f :: a) (g :: b)) v) (by kernel_rfl) (by kernel_rfl) (by kernel_rfl) rfl rfl ?_ ?_
    · skip
      have hs4 := Step.drew hs3.sat
      have hz4 := hs4.size
      replace hr := hr.step hs4
      replace hka := hka.mono' EncB.mono hs4.le
      replace hk2 := hk2.mono' EncB.mono hs4.le
      replace hf := hf.mono' EncB.mono hs4.le
      replace hrb := hrb.step hs4
      replace hkb := hkb.mono' EncB.mono hs4.le
      replace hkb2 := hkb2.mono' EncB.mono hs4.le
      replace hg := hg.mono' EncB.mono hs4.le
      replace hT := hT.then hs4
      refine Dm 0 1 rfl (by kernel_rfl) rfl ?_
      refine Dq 1 3 rfl (by kernel_rfl) (fun _ => (q_indexAddr (e := 311) (size := 1) (by kernel_rfl) (by kernel_rfl) rfl rfl (by omega) (by omega))) ?_
      refine Dl1 2 7 rfl (by kernel_rfl) (by kernel_rfl) rfl ((hr _ _ (Step.refl _ hT.sat)).cell (u := .pointer fq) (j := (0 : Int).toNat * 1) rfl) ?_
      refine Dm 4 23 rfl (by kernel_rfl) rfl ?_
      refine Dm 5 55 rfl (by kernel_rfl) rfl ?_
      refine Dq 6 119 rfl (by kernel_rfl) (fun _ => (q_slice (e := 311) (size := 1) (k' := .i64) (by kernel_rfl) (by kernel_rfl) rfl rfl rfl (by omega) (by omega) (by omega))) ?_
      refine Dm 7 247 rfl (by kernel_rfl) rfl ?_
      refine at_two (i := 3) (j := 8) (by kernel_rfl) ?_ ?_
      · skip
        have hTz := hT.size
        refine Dah 3 255 rfl (by kernel_rfl) (keep_sift (bs := [T]) (by kernel_rfl)) (h_buildO (e := 311) (size := 1) (zs := [(.pointer none)]) (cs := [_]) (by kernel_rfl) (by kernel_rfl) (by kernel_rfl) rfl hs4.sat rfl rfl fun bB w5 hs5 hoB eB => ?_)
        replace hr := hr.step hs5
        replace hka := hka.mono' EncB.mono hs5.le
        replace hk2 := hk2.mono' EncB.mono hs5.le
        replace hf := hf.mono' EncB.mono hs5.le
        replace hrb := hrb.step hs5
        replace hkb := hkb.mono' EncB.mono hs5.le
        replace hkb2 := hkb2.mono' EncB.mono hs5.le
        replace hg := hg.mono' EncB.mono hs5.le
        replace hT := hT.then hs5
        have hz5 := hs5.size
        refine ⟨trivial, ?_⟩
        refine Dh 8 511 rfl (by kernel_rfl) rfl (h_call (by kernel_rfl) rfl ?_)
        have hml := RT.sizes_length (bmeld ltB a (g :: b))
        have hms := bmeld_size ltB a (g :: b)
        have hmf := RT.sizes_cons f a
        have hmg := RT.sizes_cons g b
        refine (ih _ _ a (g :: b) _ _ hs5.sat ⟨_, _, _, rfl, hr.tail (by simpa using hln), hk2⟩ ⟨_, _, _, rfl, hrb, hkb⟩ (by omega) (by omega)).mono ?_
        rintro v w6 ⟨Mn, hs6, hn⟩
        obtain ⟨va, vc, vl, rfl, hv1, hv2⟩ := hn
        replace hr := hr.step hs6
        replace hka := hka.mono' EncB.mono hs6.le
        replace hk2 := hk2.mono' EncB.mono hs6.le
        replace hf := hf.mono' EncB.mono hs6.le
        replace hrb := hrb.step hs6
        replace hkb := hkb.mono' EncB.mono hs6.le
        replace hkb2 := hkb2.mono' EncB.mono hs6.le
        replace hg := hg.mono' EncB.mono hs6.le
        replace hoB := hoB.then hs6
        replace hT := hT.then hs6
        have hz6 := hs6.size
        refine ⟨trivial, ?_⟩
        have hbb := Own.buf hoB (n := 1) (size := 1) rfl (by decide)
        refine Dh 9 1023 rfl (by kernel_rfl) rfl (h_append (e := 311) (size := 1) (bytes := 8) (by kernel_rfl) hs6.sat hbb (hv1.now hs6.sat) rfl rfl (ptrs_one _) (by omega) rfl fun sv w7 hs7 hbu hor => ?_)
        replace hT := hT.trans hs7 (fun k hk h => by have h2 : bB = k := Option.some.inj h; omega)
        have hbs := hbu.rds
        replace hka := hka.mono' EncB.mono hs7.le
        replace hk2 := hk2.mono' EncB.mono hs7.le
        replace hf := hf.mono' EncB.mono hs7.le
        replace hkb := hkb.mono' EncB.mono hs7.le
        replace hkb2 := hkb2.mono' EncB.mono hs7.le
        replace hg := hg.mono' EncB.mono hs7.le
        replace hv2 := hv2.mono' EncB.mono hs7.le
        obtain ⟨sva, svc, rfl, _, _⟩ := hbu.slice
        refine ⟨trivial, ?_⟩
        refine Da 10 2047 rfl (by kernel_rfl) rfl ?_
        refine Dd (by kernel_rfl) ?_
        refine ⟨_, (.cons rfl (.nil _)), _, rfl, _, hT, ?_⟩
        rw [show bmeld ltB (f :: a) (g :: b) = f :: bmeld ltB a (g :: b) from by rw [bmeld, if_pos hc2]]
        exact ⟨sva, svc, _, congrArg (fun k => Value.slice sva k svc) (by simp <;> omega), hbs.cast (congrArg (fun k => Value.slice sva k svc) (by simp <;> omega)) (by simp <;> omega) rfl, treps_cons.2 ⟨_, _, rfl, hf, hv2⟩⟩
      · skip
        refine Dah 8 503 rfl (by kernel_rfl) (keep_sift (bs := [F]) (by kernel_rfl)) (h_call (by kernel_rfl) rfl ?_)
        have hml := RT.sizes_length (bmeld ltB a (g :: b))
        have hms := bmeld_size ltB a (g :: b)
        have hmf := RT.sizes_cons f a
        have hmg := RT.sizes_cons g b
        refine (ih _ _ a (g :: b) _ _ hs4.sat ⟨_, _, _, rfl, hr.tail (by simpa using hln), hk2⟩ ⟨_, _, _, rfl, hrb, hkb⟩ (by omega) (by omega)).mono ?_
        rintro v w8 ⟨Mn, hs8, hn⟩
        obtain ⟨va, vc, vl, rfl, hv1, hv2⟩ := hn
        replace hr := hr.step hs8
        replace hka := hka.mono' EncB.mono hs8.le
        replace hk2 := hk2.mono' EncB.mono hs8.le
        replace hf := hf.mono' EncB.mono hs8.le
        replace hrb := hrb.step hs8
        replace hkb2 := hkb2.mono' EncB.mono hs8.le
        replace hg := hg.mono' EncB.mono hs8.le
        replace hT := hT.then hs8
        have hz8 := hs8.size
        refine ⟨(by repeat' first | exact trivial | exact ((hr _ _ (Step.refl _ hT.sat)).cell (u := .pointer fq) (j := (0 : Int).toNat * 1) rfl) | assumption | refine all_keep ?_ | refine And.intro ?_ ?_), ?_⟩
        have hTz := hT.size
        refine Dh 3 511 rfl (by kernel_rfl) (keep_sift (bs := [T]) (by kernel_rfl)) (h_buildO (e := 311) (size := 1) (zs := [(.pointer none)]) (cs := [_]) (by kernel_rfl) (by kernel_rfl) (by kernel_rfl) rfl hs8.sat rfl rfl fun bB w9 hs9 hoB eB => ?_)
        replace hr := hr.step hs9
        replace hka := hka.mono' EncB.mono hs9.le
        replace hk2 := hk2.mono' EncB.mono hs9.le
        replace hf := hf.mono' EncB.mono hs9.le
        replace hrb := hrb.step hs9
        replace hkb2 := hkb2.mono' EncB.mono hs9.le
        replace hg := hg.mono' EncB.mono hs9.le
        replace hv1 := hv1.step hs9
        replace hv2 := hv2.mono' EncB.mono hs9.le
        replace hT := hT.then hs9
        have hz9 := hs9.size
        refine ⟨trivial, ?_⟩
        have hbb := Own.buf hoB (n := 1) (size := 1) rfl (by decide)
        refine Dh 9 1023 rfl (by kernel_rfl) rfl (h_append (e := 311) (size := 1) (bytes := 8) (by kernel_rfl) hs9.sat hbb (hv1.now hs9.sat) rfl rfl (ptrs_one _) (by omega) rfl fun sv w10 hs10 hbu hor => ?_)
        replace hT := hT.trans hs10 (fun k hk h => by have h2 : bB = k := Option.some.inj h; omega)
        have hbs := hbu.rds
        replace hka := hka.mono' EncB.mono hs10.le
        replace hk2 := hk2.mono' EncB.mono hs10.le
        replace hf := hf.mono' EncB.mono hs10.le
        replace hkb2 := hkb2.mono' EncB.mono hs10.le
        replace hg := hg.mono' EncB.mono hs10.le
        replace hv2 := hv2.mono' EncB.mono hs10.le
        obtain ⟨sva, svc, rfl, _, _⟩ := hbu.slice
        refine ⟨trivial, ?_⟩
        refine Da 10 2047 rfl (by kernel_rfl) rfl ?_
        refine Dd (by kernel_rfl) ?_
        refine ⟨_, (.cons rfl (.nil _)), _, rfl, _, hT, ?_⟩
        rw [show bmeld ltB (f :: a) (g :: b) = f :: bmeld ltB a (g :: b) from by rw [bmeld, if_pos hc2]]
        exact ⟨sva, svc, _, congrArg (fun k => Value.slice sva k svc) (by simp <;> omega), hbs.cast (congrArg (fun k => Value.slice sva k svc) (by simp <;> omega)) (by simp <;> omega) rfl, treps_cons.2 ⟨_, _, rfl, hf, hv2⟩⟩
    rintro l2 w2 ⟨v, rfl, M2, hT2, hsr⟩
    refine cw_ret ?_
    exact ⟨_, (res_tmp rfl res_nil), M2, hT2, hsr⟩
  · skip
    replace hc2 : ¬ f.rank < g.rank := by have := of_decide_eq_false hc2; omega
    refine cw_dr (by kernel_rfl) fun _ κ => ?_
    have hs11 := Step.drew hs3.sat
    have hz11 := hs11.size
    replace hr := hr.step hs11
    replace hka := hka.mono' EncB.mono hs11.le
    replace hk2 := hk2.mono' EncB.mono hs11.le
    replace hf := hf.mono' EncB.mono hs11.le
    replace hrb := hrb.step hs11
    replace hkb2 := hkb2.mono' EncB.mono hs11.le
    replace hg := hg.mono' EncB.mono hs11.le
    replace hT := hT.then hs11
    refine Dm 0 1 rfl (by kernel_rfl) rfl ?_
    refine Dq 1 3 rfl (by kernel_rfl) (fun _ => (q_indexAddr (e := 311) (size := 1) (by kernel_rfl) (by kernel_rfl) rfl rfl (by omega) (by omega))) ?_
    refine Dl1 2 7 rfl (by kernel_rfl) (by kernel_rfl) rfl ((hrb _ _ (Step.refl _ hT.sat)).cell (u := .pointer gq) (j := (0 : Int).toNat * 1) rfl) ?_
    refine Dm 4 23 rfl (by kernel_rfl) rfl ?_
    refine Dq 5 55 rfl (by kernel_rfl) (fun _ => (q_indexAddr (e := 311) (size := 1) (by kernel_rfl) (by kernel_rfl) rfl rfl (by omega) (by omega))) ?_
    refine Dl1 6 119 rfl (by kernel_rfl) (by kernel_rfl) rfl ((hr _ _ (Step.refl _ hT.sat)).cell (u := .pointer fq) (j := (0 : Int).toNat * 1) rfl) ?_
    refine Dh 3 127 rfl (by kernel_rfl) (keep_sift (bs := [F,T]) (by kernel_rfl)) (h_call (by kernel_rfl) rfl ?_)
    refine (th_rank hs11.sat hg).mono ?_
    rintro _ w12 ⟨rfl, hs12⟩
    replace hr := hr.step hs12
    replace hka := hka.mono' EncB.mono hs12.le
    replace hk2 := hk2.mono' EncB.mono hs12.le
    replace hf := hf.mono' EncB.mono hs12.le
    replace hrb := hrb.step hs12
    replace hkb2 := hkb2.mono' EncB.mono hs12.le
    replace hg := hg.mono' EncB.mono hs12.le
    replace hT := hT.then hs12
    have hz12 := hs12.size
    refine ⟨(by repeat' first | exact trivial | exact ((hrb _ _ (Step.refl _ hT.sat)).cell (u := .pointer gq) (j := (0 : Int).toNat * 1) rfl) | exact ((hr _ _ (Step.refl _ hT.sat)).cell (u := .pointer fq) (j := (0 : Int).toNat * 1) rfl) | assumption | refine all_keep ?_ | refine And.intro ?_ ?_), ?_⟩
    refine Dh 7 255 rfl (by kernel_rfl) (keep_sift (bs := [T]) (by kernel_rfl)) (h_call (by kernel_rfl) rfl ?_)
    refine (th_rank hs12.sat hf).mono ?_
    rintro _ w13 ⟨rfl, hs13⟩
    replace hr := hr.step hs13
    replace hka := hka.mono' EncB.mono hs13.le
    replace hk2 := hk2.mono' EncB.mono hs13.le
    replace hf := hf.mono' EncB.mono hs13.le
    replace hrb := hrb.step hs13
    replace hkb2 := hkb2.mono' EncB.mono hs13.le
    replace hg := hg.mono' EncB.mono hs13.le
    replace hT := hT.then hs13
    have hz13 := hs13.size
    refine ⟨trivial, ?_⟩
    refine Dq 8 511 rfl (by kernel_rfl) (fun _ => (q_lt rfl rfl)) ?_
    refine Da 9 1023 rfl (by kernel_rfl) rfl ?_
    refine Dd (by kernel_rfl) (κ _ _ ?_)
    refine cw_cond rfl (fun hc3 => ?_) (fun hc3 => ?_)
    · skip
      replace hc3 : g.rank < f.rank := by have := of_decide_eq_true hc3; omega
      refine cw_rdS (fun l2 w2 => ∃ v, l2 = [(6, v)] ∧ ∃ M2, Step Nope M w M2 w2 ∧ SRow 332 1 EncB M2 w2 (bmeld ltB (f :: a) (g :: b)) v) (by kernel_rfl) (by kernel_rfl) (by kernel_rfl) rfl rfl ?_ ?_
      · skip
        have hs14 := Step.drew hs13.sat
        have hz14 := hs14.size
        replace hr := hr.step hs14
        replace hka := hka.mono' EncB.mono hs14.le
        replace hk2 := hk2.mono' EncB.mono hs14.le
        replace hf := hf.mono' EncB.mono hs14.le
        replace hrb := hrb.step hs14
        replace hkb2 := hkb2.mono' EncB.mono hs14.le
        replace hg := hg.mono' EncB.mono hs14.le
        replace hT := hT.then hs14
        refine Dm 0 1 rfl (by kernel_rfl) rfl ?_
        refine Dq 1 3 rfl (by kernel_rfl) (fun _ => (q_indexAddr (e := 311) (size := 1) (by kernel_rfl) (by kernel_rfl) rfl rfl (by omega) (by omega))) ?_
        refine Dl1 2 7 rfl (by kernel_rfl) (by kernel_rfl) rfl ((hrb _ _ (Step.refl _ hT.sat)).cell (u := .pointer gq) (j := (0 : Int).toNat * 1) rfl) ?_
        refine Dm 4 23 rfl (by kernel_rfl) rfl ?_
        refine Dm 5 55 rfl (by kernel_rfl) rfl ?_
        refine Dm 6 119 rfl (by kernel_rfl) rfl ?_
        refine Dq 7 247 rfl (by kernel_rfl) (fun _ => (q_slice (e := 311) (size := 1) (k' := .i64) (by kernel_rfl) (by kernel_rfl) rfl rfl rfl (by omega) (by omega) (by omega))) ?_
        refine at_two (i := 3) (j := 8) (by kernel_rfl) ?_ ?_
        · skip
          have hTz := hT.size
          refine Dah 3 255 rfl (by kernel_rfl) (keep_sift (bs := [T]) (by kernel_rfl)) (h_buildO (e := 311) (size := 1) (zs := [(.pointer none)]) (cs := [_]) (by kernel_rfl) (by kernel_rfl) (by kernel_rfl) rfl hs14.sat rfl rfl fun bB w15 hs15 hoB eB => ?_)
          replace hr := hr.step hs15
          replace hka := hka.mono' EncB.mono hs15.le
          replace hk2 := hk2.mono' EncB.mono hs15.le
          replace hf := hf.mono' EncB.mono hs15.le
          replace hrb := hrb.step hs15
          replace hkb2 := hkb2.mono' EncB.mono hs15.le
          replace hg := hg.mono' EncB.mono hs15.le
          replace hT := hT.then hs15
          have hz15 := hs15.size
          refine ⟨trivial, ?_⟩
          refine Dh 8 511 rfl (by kernel_rfl) rfl (h_call (by kernel_rfl) rfl ?_)
          have hml := RT.sizes_length (bmeld ltB (f :: a) b)
          have hms := bmeld_size ltB (f :: a) b
          have hmf := RT.sizes_cons f a
          have hmg := RT.sizes_cons g b
          refine (ih _ _ (f :: a) b _ _ hs15.sat ⟨_, _, _, rfl, hr, hka⟩ ⟨_, _, _, rfl, hrb.tail (by simpa using hlnb), hkb2⟩ (by omega) (by omega)).mono ?_
          rintro v w16 ⟨Mn, hs16, hn⟩
          obtain ⟨va, vc, vl, rfl, hv1, hv2⟩ := hn
          replace hr := hr.step hs16
          replace hka := hka.mono' EncB.mono hs16.le
          replace hk2 := hk2.mono' EncB.mono hs16.le
          replace hf := hf.mono' EncB.mono hs16.le
          replace hrb := hrb.step hs16
          replace hkb2 := hkb2.mono' EncB.mono hs16.le
          replace hg := hg.mono' EncB.mono hs16.le
          replace hoB := hoB.then hs16
          replace hT := hT.then hs16
          have hz16 := hs16.size
          refine ⟨trivial, ?_⟩
          have hbb := Own.buf hoB (n := 1) (size := 1) rfl (by decide)
          refine Dh 9 1023 rfl (by kernel_rfl) rfl (h_append (e := 311) (size := 1) (bytes := 8) (by kernel_rfl) hs16.sat hbb (hv1.now hs16.sat) rfl rfl (ptrs_one _) (by omega) rfl fun sv w17 hs17 hbu hor => ?_)
          replace hT := hT.trans hs17 (fun k hk h => by have h2 : bB = k := Option.some.inj h; omega)
          have hbs := hbu.rds
          replace hka := hka.mono' EncB.mono hs17.le
          replace hk2 := hk2.mono' EncB.mono hs17.le
          replace hf := hf.mono' EncB.mono hs17.le
          replace hkb2 := hkb2.mono' EncB.mono hs17.le
          replace hg := hg.mono' EncB.mono hs17.le
          replace hv2 := hv2.mono' EncB.mono hs17.le
          obtain ⟨sva, svc, rfl, _, _⟩ := hbu.slice
          refine ⟨trivial, ?_⟩
          refine Da 10 2047 rfl (by kernel_rfl) rfl ?_
          refine Dd (by kernel_rfl) ?_
          refine ⟨_, (.cons rfl (.nil _)), _, rfl, _, hT, ?_⟩
          rw [show bmeld ltB (f :: a) (g :: b) = g :: bmeld ltB (f :: a) b from by rw [bmeld, if_neg hc2, if_pos hc3]]
          exact ⟨sva, svc, _, congrArg (fun k => Value.slice sva k svc) (by simp <;> omega), hbs.cast (congrArg (fun k => Value.slice sva k svc) (by simp <;> omega)) (by simp <;> omega) rfl, treps_cons.2 ⟨_, _, rfl, hg, hv2⟩⟩
        · skip
          refine Dah 8 503 rfl (by kernel_rfl) (keep_sift (bs := [F]) (by kernel_rfl)) (h_call (by kernel_rfl) rfl ?_)
          have hml := RT.sizes_length (bmeld ltB (f :: a) b)
          have hms := bmeld_size ltB (f :: a) b
          have hmf := RT.sizes_cons f a
          have hmg := RT.sizes_cons g b
          refine (ih _ _ (f :: a) b _ _ hs14.sat ⟨_, _, _, rfl, hr, hka⟩ ⟨_, _, _, rfl, hrb.tail (by simpa using hlnb), hkb2⟩ (by omega) (by omega)).mono ?_
          rintro v w18 ⟨Mn, hs18, hn⟩
          obtain ⟨va, vc, vl, rfl, hv1, hv2⟩ := hn
          replace hr := hr.step hs18
          replace hk2 := hk2.mono' EncB.mono hs18.le
          replace hf := hf.mono' EncB.mono hs18.le
          replace hrb := hrb.step hs18
          replace hkb2 := hkb2.mono' EncB.mono hs18.le
          replace hg := hg.mono' EncB.mono hs18.le
          replace hT := hT.then hs18
          have hz18 := hs18.size
          refine ⟨(by repeat' first | exact trivial | exact ((hrb _ _ (Step.refl _ hT.sat)).cell (u := .pointer gq) (j := (0 : Int).toNat * 1) rfl) | assumption | refine all_keep ?_ | refine And.intro ?_ ?_), ?_⟩
          have hTz := hT.size
          refine Dh 3 511 rfl (by kernel_rfl) (keep_sift (bs := [T]) (by kernel_rfl)) (h_buildO (e := 311) (size := 1) (zs := [(.pointer none)]) (cs := [_]) (by kernel_rfl) (by kernel_rfl) (by kernel_rfl) rfl hs18.sat rfl rfl fun bB w19 hs19 hoB eB => ?_)
          replace hr := hr.step hs19
          replace hk2 := hk2.mono' EncB.mono hs19.le
          replace hf := hf.mono' EncB.mono hs19.le
          replace hrb := hrb.step hs19
          replace hkb2 := hkb2.mono' EncB.mono hs19.le
          replace hg := hg.mono' EncB.mono hs19.le
          replace hv1 := hv1.step hs19
          replace hv2 := hv2.mono' EncB.mono hs19.le
          replace hT := hT.then hs19
          have hz19 := hs19.size
          refine ⟨trivial, ?_⟩
          have hbb := Own.buf hoB (n := 1) (size := 1) rfl (by decide)
          refine Dh 9 1023 rfl (by kernel_rfl) rfl (h_append (e := 311) (size := 1) (bytes := 8) (by kernel_rfl) hs19.sat hbb (hv1.now hs19.sat) rfl rfl (ptrs_one _) (by omega) rfl fun sv w20 hs20 hbu hor => ?_)
          replace hT := hT.trans hs20 (fun k hk h => by have h2 : bB = k := Option.some.inj h; omega)
          have hbs := hbu.rds
          replace hk2 := hk2.mono' EncB.mono hs20.le
          replace hf := hf.mono' EncB.mono hs20.le
          replace hkb2 := hkb2.mono' EncB.mono hs20.le
          replace hg := hg.mono' EncB.mono hs20.le
          replace hv2 := hv2.mono' EncB.mono hs20.le
          obtain ⟨sva, svc, rfl, _, _⟩ := hbu.slice
          refine ⟨trivial, ?_⟩
          refine Da 10 2047 rfl (by kernel_rfl) rfl ?_
          refine Dd (by kernel_rfl) ?_
          refine ⟨_, (.cons rfl (.nil _)), _, rfl, _, hT, ?_⟩
          rw [show bmeld ltB (f :: a) (g :: b) = g :: bmeld ltB (f :: a) b from by rw [bmeld, if_neg hc2, if_pos hc3]]
          exact ⟨sva, svc, _, congrArg (fun k => Value.slice sva k svc) (by simp <;> omega), hbs.cast (congrArg (fun k => Value.slice sva k svc) (by simp <;> omega)) (by simp <;> omega) rfl, treps_cons.2 ⟨_, _, rfl, hg, hv2⟩⟩
      rintro l2 w2 ⟨v, rfl, M2, hT2, hsr⟩
      refine cw_ret ?_
      exact ⟨_, (res_tmp rfl res_nil), M2, hT2, hsr⟩
    · skip
      replace hc3 : ¬ g.rank < f.rank := by have := of_decide_eq_false hc3; omega
      refine cw_skip ?_
      refine hK2 _ _ ?_
      refine cw_dr (by kernel_rfl) fun _ κ => ?_
      have hs21 := Step.drew hs13.sat
      have hz21 := hs21.size
      replace hr := hr.step hs21
      replace hk2 := hk2.mono' EncB.mono hs21.le
      replace hf := hf.mono' EncB.mono hs21.le
      replace hrb := hrb.step hs21
      replace hkb2 := hkb2.mono' EncB.mono hs21.le
      replace hg := hg.mono' EncB.mono hs21.le
      replace hT := hT.then hs21
      refine Dm 0 1 rfl (by kernel_rfl) rfl ?_
      refine Dm 1 3 rfl (by kernel_rfl) rfl ?_
      refine Dq 2 7 rfl (by kernel_rfl) (fun _ => (q_slice (e := 311) (size := 1) (k' := .i64) (by kernel_rfl) (by kernel_rfl) rfl rfl rfl (by omega) (by omega) (by omega))) ?_
      refine Dm 3 15 rfl (by kernel_rfl) rfl ?_
      refine Dq 4 31 rfl (by kernel_rfl) (fun _ => (q_slice (e := 311) (size := 1) (k' := .i64) (by kernel_rfl) (by kernel_rfl) rfl rfl rfl (by omega) (by omega) (by omega))) ?_
      refine Dh 5 63 rfl (by kernel_rfl) rfl (h_call (by kernel_rfl) rfl ?_)
      have hml := RT.sizes_length (bmeld ltB a b)
      have hms := bmeld_size ltB a b
      have hmf := RT.sizes_cons f a
      have hmg := RT.sizes_cons g b
      refine (ih _ _ a b _ _ hs21.sat ⟨_, _, _, rfl, hr.tail (by simpa using hln), hk2⟩ ⟨_, _, _, rfl, hrb.tail (by simpa using hlnb), hkb2⟩ (by omega) (by omega)).mono ?_
      rintro v w22 ⟨Mn, hs22, hn⟩
      obtain ⟨va, vc, vl, rfl, hv1, hv2⟩ := hn
      replace hr := hr.step hs22
      replace hf := hf.mono' EncB.mono hs22.le
      replace hrb := hrb.step hs22
      replace hg := hg.mono' EncB.mono hs22.le
      replace hT := hT.then hs22
      have hz22 := hs22.size
      refine ⟨trivial, ?_⟩
      refine Da 6 127 rfl (by kernel_rfl) rfl ?_
      refine Dd (by kernel_rfl) (κ _ _ ?_)
      refine cw_dr (by kernel_rfl) fun _ κ => ?_
      have hs23 := Step.drew hs22.sat
      have hz23 := hs23.size
      replace hr := hr.step hs23
      replace hf := hf.mono' EncB.mono hs23.le
      replace hrb := hrb.step hs23
      replace hg := hg.mono' EncB.mono hs23.le
      replace hv1 := hv1.step hs23
      replace hv2 := hv2.mono' EncB.mono hs23.le
      replace hT := hT.then hs23
      refine Dm 0 1 rfl (by kernel_rfl) rfl ?_
      refine Dm 1 3 rfl (by kernel_rfl) rfl ?_
      refine Dm 2 7 rfl (by kernel_rfl) rfl ?_
      refine Dq 3 15 rfl (by kernel_rfl) (fun _ => (q_indexAddr (e := 311) (size := 1) (by kernel_rfl) (by kernel_rfl) rfl rfl (by omega) (by omega))) ?_
      refine Dl1 4 31 rfl (by kernel_rfl) (by kernel_rfl) rfl ((hr _ _ (Step.refl _ hT.sat)).cell (u := .pointer fq) (j := (0 : Int).toNat * 1) rfl) ?_
      refine Dm 5 63 rfl (by kernel_rfl) rfl ?_
      refine Dq 6 127 rfl (by kernel_rfl) (fun _ => (q_indexAddr (e := 311) (size := 1) (by kernel_rfl) (by kernel_rfl) rfl rfl (by omega) (by omega))) ?_
      refine Dl1 7 255 rfl (by kernel_rfl) (by kernel_rfl) rfl ((hrb _ _ (Step.refl _ hT.sat)).cell (u := .pointer gq) (j := (0 : Int).toNat * 1) rfl) ?_
      refine Dm 9 767 rfl (by kernel_rfl) rfl ?_
      refine Dh 8 1023 rfl (by kernel_rfl) (keep_sift (bs := [T,T]) (by kernel_rfl)) (h_call (by kernel_rfl) rfl ?_)
      refine (th_link hs23.sat hf hg (by omega)).mono ?_
      rintro _ w24 ⟨qn, Mn, rfl, hs24, hn⟩
      replace hv1 := hv1.step hs24
      replace hv2 := hv2.mono' EncB.mono hs24.le
      replace hT := hT.then hs24
      have hz24 := hs24.size
      refine ⟨trivial, ?_⟩
      refine Dh 10 2047 rfl (by kernel_rfl) rfl (h_call (by kernel_rfl) rfl ?_)
      refine (sh_put hs24.sat hn ⟨_, _, _, rfl, hv1, hv2⟩ (by rw [RT.link_size]; omega)).mono ?_
      rintro v w25 ⟨Mp, hs25, hp⟩
      obtain ⟨pa, pc, pl, rfl, hp1, hp2⟩ := hp
      replace hT := hT.then hs25
      have hz25 := hs25.size
      refine ⟨trivial, ?_⟩
      refine Da 11 4095 rfl (by kernel_rfl) rfl ?_
      refine Dd (by kernel_rfl) (κ _ _ ?_)
      refine cw_ret ?_
      rw [show bmeld ltB (f :: a) (g :: b) = bput ltB (RT.link ltB f g) (bmeld ltB a b) from by rw [bmeld, if_neg hc2, if_neg hc3]]
      exact ⟨_, (res_tmp rfl res_nil), _, hT, _, _, _, rfl, hp1, hp2⟩
theorem sh_meld_all : ∀ k, SMeldh k
  | 0 => fun _ _ _ _ _ _ _ _ _ h _ => absurd h (Nat.not_lt_zero _)
  | k + 1 => fun w M a b va vb hs ha hb hk hz => by
    cases a with
    | nil => obtain ⟨_, _, _, rfl, _, _⟩ := ha; rw [show bmeld ltB [] b = b by rw [bmeld]]; exact sh_meld_a hs hb
    | cons f a =>
      cases b with
      | nil => obtain ⟨_, _, _, rfl, _, _⟩ := hb; rw [show bmeld ltB (f :: a) [] = f :: a by rw [bmeld]]; exact sh_meld_b hs ha
      | cons g b => exact sh_meld_c (sh_meld_all k) hs ha hb hk hz
theorem sh_rmeld {w : World} {M : Mem} {a b : List (RT Bt)} {va vb : Value} (hs : Sat M w) (ha : SRow 332 1 EncB M w a va) (hb : SRow 332 1 EncB M w b vb) (hz : RT.sizes a + RT.sizes b ≤ 1000000000) :
    Does Tryz.prog 246 #[.pointer none, va, vb] w (fun v w' => ∃ M', Step Nope M w M' w' ∧ SRow 332 1 EncB M' w' (bmeld ltB a b) v) := sh_meld_all _ _ _ _ _ _ _ hs ha hb (Nat.lt_succ_self _) hz
theorem ch_ofn {w : World} {M : Mem} {l : List (Option Addr)} {sa : Option Addr} {n sc : Nat} (hs : Sat M w) (hn : l.length = n) (hr : Rds M w 1 (.slice sa n sc) n (ptrs l)) (hz : n ≤ 1000000000) :
    Does Tryz.prog 245 #[.slice sa n sc] w (fun v w' => ∃ q M', v = .agg #[.pointer q] ∧ Step Nope M w M' w' ∧ CRep 330 M' l (.pointer q)) := by
  subst hn; exact ch_of hs hr hz
theorem sh_meld {w : World} {M : Mem} {ts us : List (RT Bt)} {q q2 : Option Addr} (hs : Sat M w) (h : FRep 330 332 1 EncB M ts q) (h2 : FRep 330 332 1 EncB M us q2) (hz : RT.sizes ts + RT.sizes us ≤ 1000000000) :
    Does Tryz.prog 227 #[.agg #[.pointer q], .pointer none, .agg #[.pointer q2]] w (fun v w' => ∃ q M', v = .agg #[.pointer q] ∧ Step Nope M w M' w' ∧ FRep 330 332 1 EncB M' (smeld ltB ts us) q) := by
  have hT := Step.refl Nope hs
  refine fn_enter Tryz.func227 rfl (rs := [.cell 6 294]) rfl rfl rfl rfl ?_
  refine cw_rs fun _ κ => ?_
  refine as_h rfl (h_boxM hs rfl rfl fun b1 M1 w1 hs1 hb1 e1 => ?_)
  replace h := h.mono' EncB.mono hs1.le
  replace h2 := h2.mono' EncB.mono hs1.le
  replace hT := hT.then hs1
  have hz1 := hs1.size
  refine as_h rfl (h_boxM hs1.sat rfl rfl fun b2 M2 w2 hs2 hb2 e2 => ?_)
  replace h := h.mono' EncB.mono hs2.le
  replace h2 := h2.mono' EncB.mono hs2.le
  replace hb1 := hs2.le _ _ hb1
  replace hT := hT.then hs2
  have hz2 := hs2.size
  have hqar := hT.size
  refine as_h rfl (h_allocO (z := (.agg #[(.pointer none)])) hs2.sat (by kernel_rfl) rfl fun br w3 hs3 hor er => ?_)
  replace h := h.mono' EncB.mono hs3.le
  replace h2 := h2.mono' EncB.mono hs3.le
  replace hb1 := hs3.le _ _ hb1
  replace hb2 := hs3.le _ _ hb2
  replace hT := hT.then hs3
  have hz3 := hs3.size
  have hlr := hor.1.lt
  refine as_nil (κ _ _ ?_)
  refine cw_rs fun _ κ => ?_
  refine Sm rfl rfl ?_
  refine Sf 0 rfl (by kernel_rfl) rfl ?_
  refine Sc 1 rfl (by kernel_rfl) rfl (by exact BlkR.cells (hs3.sat _ _ _ hb1) rfl) ?_
  refine as_h rfl (h_call (by kernel_rfl) rfl ?_)
  obtain ⟨l0, hc0, hk0, hll0, hlz0⟩ := h.len
  refine (ch_all hs3.sat hc0 (by omega)).mono ?_
  rintro av w4 ⟨Ma0, hs4, hba, hfa⟩
  replace h := h.mono' EncB.mono hs4.le
  replace h2 := h2.mono' EncB.mono hs4.le
  replace hb2 := hs4.le _ _ hb2
  replace hor := hor.then hs4
  replace hk0 := hk0.mono' EncB.mono hs4.le
  replace hT := hT.then hs4
  have hz4 := hs4.size
  rw [hll0] at hba
  obtain ⟨aa, ac, rfl, _, _⟩ := hba.slice
  have hrr := hba.rds
  refine as_h rfl (h_call (by kernel_rfl) rfl ?_)
  refine (sh_level hs4.sat ⟨_, _, _, rfl, hrr, hk0⟩ (by omega)).mono ?_
  rintro v0 w5 ⟨Ml0, hs5, hlv⟩
  obtain ⟨xa0, xc0, xl0, rfl, hx0, hy0⟩ := hlv
  replace h := h.mono' EncB.mono hs5.le
  replace h2 := h2.mono' EncB.mono hs5.le
  replace hb2 := hs5.le _ _ hb2
  replace hor := hor.then hs5
  replace hrr := hrr.step hs5
  replace hT := hT.then hs5
  have hz5 := hs5.size
  refine Sa rfl rfl ?_
  refine as_nil (κ _ _ ?_)
  refine cw_rs fun _ κ => ?_
  refine Sm rfl rfl ?_
  refine Sf 0 rfl (by kernel_rfl) rfl ?_
  refine Sc 1 rfl (by kernel_rfl) rfl (by exact BlkR.cells (hs5.sat _ _ _ hb2) rfl) ?_
  refine as_h rfl (h_call (by kernel_rfl) rfl ?_)
  obtain ⟨l1, hc1, hk1, hll1, hlz1⟩ := h2.len
  refine (ch_all hs5.sat hc1 (by omega)).mono ?_
  rintro av w6 ⟨Ma1, hs6, hba, hfa⟩
  replace h := h.mono' EncB.mono hs6.le
  replace hor := hor.then hs6
  replace hrr := hrr.step hs6
  replace hx0 := hx0.step hs6
  replace hy0 := hy0.mono' EncB.mono hs6.le
  replace hk1 := hk1.mono' EncB.mono hs6.le
  replace hT := hT.then hs6
  have hz6 := hs6.size
  rw [hll1] at hba
  obtain ⟨aa, ac, rfl, _, _⟩ := hba.slice
  have hrr := hba.rds
  refine as_h rfl (h_call (by kernel_rfl) rfl ?_)
  refine (sh_level hs6.sat ⟨_, _, _, rfl, hrr, hk1⟩ (by omega)).mono ?_
  rintro v1 w7 ⟨Ml1, hs7, hlv⟩
  obtain ⟨xa1, xc1, xl1, rfl, hx1, hy1⟩ := hlv
  replace h := h.mono' EncB.mono hs7.le
  replace hor := hor.then hs7
  replace hx0 := hx0.step hs7
  replace hy0 := hy0.mono' EncB.mono hs7.le
  replace hT := hT.then hs7
  have hz7 := hs7.size
  refine Sa rfl rfl ?_
  refine as_nil (κ _ _ ?_)
  refine cw_rs fun _ κ => ?_
  refine Sm rfl rfl ?_
  refine Sm rfl rfl ?_
  refine Sm rfl rfl ?_
  refine as_h rfl (h_call (by kernel_rfl) rfl ?_)
  have hs1_ := slevel_size ltB ts
  have hs2_ := slevel_size ltB us
  refine (sh_rmeld hs7.sat ⟨_, _, _, rfl, hx0, hy0⟩ ⟨_, _, _, rfl, hx1, hy1⟩ (by omega)).mono ?_
  rintro vm w8 ⟨Mm, hs8, hm⟩
  obtain ⟨ma, mc, ml, rfl, hm1, hm2⟩ := hm
  replace h := h.mono' EncB.mono hs8.le
  replace hor := hor.then hs8
  replace hT := hT.then hs8
  have hz8 := hs8.size
  refine as_h rfl (h_call (by kernel_rfl) rfl ?_)
  have hml := hm2.length
  have hmz := RT.sizes_length (bmeld ltB (slevel ltB ts) (slevel ltB us))
  have hms := bmeld_size ltB (slevel ltB ts) (slevel ltB us)
  refine (ch_ofn hs8.sat hml hm1 (by omega)).mono ?_
  rintro _ w9 ⟨qf, Mf, rfl, hs9, hf⟩
  replace h := h.mono' EncB.mono hs9.le
  replace hor := hor.then hs9
  replace hm2 := hm2.mono' EncB.mono hs9.le
  replace hT := hT.then hs9
  have hz9 := hs9.size
  refine as_q rfl rfl (q_build (zs := [(.pointer none)]) (places := [(0, 1)]) (cs := [_]) (by kernel_rfl) (by kernel_rfl) rfl rfl) ?_
  refine as_h0 (h_store hs9.sat hor rfl rfl rfl (by kernel_rfl) rfl rfl rfl fun w10 hs10 hn10 => ?_)
  replace h := h.mono' EncB.mono hs10.le
  replace hm2 := hm2.mono' EncB.mono hs10.le
  replace hf := hf.mono hs10.le
  clear hor; have hor := hn10; clear hn10
  replace hT := hT.own hs10 (by omega)
  have hz10 := hs10.size
  refine as_nil (κ _ _ ?_)
  refine cw_ret ?_
  exact ⟨_, (res_cell rfl (loadVar_n (n := 1) (by kernel_rfl) (by exact Blk.cells hor.1 rfl)) res_nil), _, _, rfl, hT, _, hf, hm2⟩
end Go.Proofs.YtgcgjpfjjgalmaaGreat
/- Heaps whose others are heaps, part 1. -/
namespace Go.Proofs.YtgcgjpfjjgalmaaGreat
open Go Go.Eng
theorem bo_made {w : World} {M : Mem} {x : El} {ts : List (RT Bt)} {q : Option Addr} (hs : Sat M w) (ht : FRep 330 332 1 EncB M ts q) :
    Does Tryz.prog 223 #[.pointer none, .agg (elc x).toArray, .agg #[.pointer q]] w (fun v w' => ∃ q M', v = .agg #[.pointer q] ∧ Step Nope M w M' w' ∧ BRep 296 330 332 M' (.node x ts) q) := by
  have hT := Step.refl Nope hs
  refine fn_enter Tryz.func223 rfl (rs := [.cell 6 93]) rfl rfl rfl rfl ?_
  refine cw_rs fun _ κ => ?_
  refine as_h rfl (h_boxM hs rfl rfl fun b1 M1 w1 hs1 hb1 e1 => ?_)
  replace ht := ht.mono' encB_mono hs1.le
  replace hT := hT.then hs1
  have hz1 := hs1.size
  refine as_h rfl (h_boxM hs1.sat rfl rfl fun b2 M2 w2 hs2 hb2 e2 => ?_)
  replace ht := ht.mono' encB_mono hs2.le
  replace hb1 := hs2.le _ _ hb1
  replace hT := hT.then hs2
  have hz2 := hs2.size
  have hqar := hT.size
  refine as_h rfl (h_allocO (z := (.agg #[(.pointer none)])) hs2.sat (by kernel_rfl) rfl fun br w3 hs3 hor er => ?_)
  replace ht := ht.mono' encB_mono hs3.le
  replace hb1 := hs3.le _ _ hb1
  replace hb2 := hs3.le _ _ hb2
  replace hT := hT.then hs3
  have hz3 := hs3.size
  have hlr := hor.1.lt
  refine as_nil (κ _ _ ?_)
  refine cw_rs fun _ κ => ?_
  refine Sm rfl rfl ?_
  refine as_h rfl (h_call (by kernel_rfl) rfl ?_)
  refine (m_made hs3.sat).mono ?_
  rintro _ w4 hs4
  replace ht := ht.mono' encB_mono hs4.le
  replace hb1 := hs4.le _ _ hb1
  replace hb2 := hs4.le _ _ hb2
  replace hor := hor.then hs4
  replace hT := hT.then hs4
  have hz4 := hs4.size
  refine as_nil (κ _ _ ?_)
  refine cw_rs fun _ κ => ?_
  refine Sc 2 rfl (by kernel_rfl) rfl (by exact BlkR.cells (hs4.sat _ _ _ hb1) rfl) ?_
  refine Sc 1 rfl (by kernel_rfl) rfl (by exact BlkR.cells (hs4.sat _ _ _ hb2) rfl) ?_
  refine as_q rfl rfl (q_build (zs := [(.int .i64 0), (.int .i64 0), (.pointer none)]) (places := [(0, 2), (2, 1)]) (cs := [_, _, _]) (by kernel_rfl) (by kernel_rfl) rfl rfl) ?_
  refine as_h rfl (h_boxM hs4.sat rfl rfl fun b5 M5 w5 hs5 hb5 e5 => ?_)
  replace ht := ht.mono' encB_mono hs5.le
  replace hor := hor.then hs5
  replace hT := hT.then hs5
  have hz5 := hs5.size
  refine as_q rfl rfl (q_build (zs := [(.pointer none)]) (places := [(0, 1)]) (cs := [_]) (by kernel_rfl) (by kernel_rfl) rfl rfl) ?_
  refine as_h0 (h_store hs5.sat hor rfl rfl rfl (by kernel_rfl) rfl rfl rfl fun w6 hs6 hn6 => ?_)
  replace ht := ht.mono' encB_mono hs6.le
  replace hb5 := hs6.le _ _ hb5
  clear hor; have hor := hn6; clear hn6
  replace hT := hT.own hs6 (by omega)
  have hz6 := hs6.size
  refine as_nil (κ _ _ ?_)
  refine cw_ret ?_
  exact ⟨_, (res_cell rfl (loadVar_n (n := 1) (by kernel_rfl) (by exact Blk.cells hor.1 rfl)) res_nil), _, _, rfl, hT, brep_node.2 ⟨_, _, rfl, hb5, ht⟩⟩
theorem bo_min {w : World} {M : Mem} {x : El} {ts : List (RT Bt)} {q : Option Addr} (hs : Sat M w) (h : BRep 296 330 332 M (.node x ts) q) :
    Does Tryz.prog 219 #[.agg #[.pointer q], .pointer none] w (fun v w' => v = .tuple #[.agg (elc x).toArray, .bool true] ∧ Step Nope M w M w') := by
  have hT := Step.refl Nope hs
  obtain ⟨b, qs, rfl, hb, ht⟩ := brep_node.1 h
  refine fn_enter Tryz.func219 rfl (rs := [.cell 4 24, .tmp 5]) rfl rfl rfl rfl ?_
  refine cw_rs fun _ κ => ?_
  refine as_h rfl (h_boxM hs rfl rfl fun b1 M1 w1 hs1 hb1 e1 => ?_)
  replace hb := hs1.le _ _ hb
  replace hT := hT.then hs1
  have hz1 := hs1.size
  have hqar := hT.size
  refine as_h rfl (h_allocO (z := (.agg #[(.int .i64 0), (.int .i64 0)])) hs1.sat (by kernel_rfl) rfl fun br w2 hs2 hor er => ?_)
  replace hb := hs2.le _ _ hb
  replace hb1 := hs2.le _ _ hb1
  replace hT := hT.then hs2
  have hz2 := hs2.size
  have hlr := hor.1.lt
  refine Sa rfl rfl ?_
  refine as_nil (κ _ _ ?_)
  refine cw_seq fun _ hK2 => ?_
  refine cw_rs fun _ κ => ?_
  refine Sf 0 rfl (by kernel_rfl) rfl ?_
  refine S1 rfl (by kernel_rfl) rfl (by exact BlkR.cell (hs2.sat _ _ _ hb1) rfl) ?_
  refine as_q rfl rfl (q_eqnil (by kernel_rfl) rfl) ?_
  refine as_nil (κ _ _ ?_)
  refine cw_false rfl ?_
  refine cw_skip ?_
  refine hK2 _ _ ?_
  refine cw_rs fun _ κ => ?_
  refine Sf 0 rfl (by kernel_rfl) rfl ?_
  refine S1 rfl (by kernel_rfl) rfl (by exact BlkR.cell (hs2.sat _ _ _ hb1) rfl) ?_
  refine as_q rfl rfl (q_nilp rfl) ?_
  refine Sf 0 rfl (by kernel_rfl) rfl ?_
  refine Sc 2 rfl (by kernel_rfl) rfl (by exact BlkR.cells (hs2.sat _ _ _ hb) rfl) ?_
  refine as_h0 (h_store hs2.sat hor rfl rfl rfl (by kernel_rfl) rfl rfl rfl fun w3 hs3 hn3 => ?_)
  clear hor; have hor := hn3; clear hn3
  replace hT := hT.own hs3 (by omega)
  have hz3 := hs3.size
  refine Sa rfl rfl ?_
  refine as_nil (κ _ _ ?_)
  refine cw_ret ?_
  exact ⟨_, (res_cell rfl (loadVar_n (n := 2) (by kernel_rfl) (by exact Blk.cells hor.1 rfl)) (res_tmp rfl res_nil)), rfl, hT.forget⟩
theorem bo_meld_a {w : World} {M : Mem} {u : Bt} {q2 : Option Addr} (hs : Sat M w) (h2 : BRep 296 330 332 M u q2) :
    Does Tryz.prog 218 #[.agg #[.pointer none], .pointer none, .agg #[.pointer q2]] w (fun v w' => ∃ q M', v = .agg #[.pointer q] ∧ Step Nope M w M' w' ∧ BRep 296 330 332 M' u q) := by
  have hT := Step.refl Nope hs
  refine fn_enter Tryz.func218 rfl (rs := [.cell 6 93]) rfl rfl rfl rfl ?_
  refine cw_rs fun _ κ => ?_
  refine as_h rfl (h_boxM hs rfl rfl fun b1 M1 w1 hs1 hb1 e1 => ?_)
  replace h2 := h2.mono hs1.le
  replace hT := hT.then hs1
  have hz1 := hs1.size
  refine as_h rfl (h_boxM hs1.sat rfl rfl fun b2 M2 w2 hs2 hb2 e2 => ?_)
  replace h2 := h2.mono hs2.le
  replace hb1 := hs2.le _ _ hb1
  replace hT := hT.then hs2
  have hz2 := hs2.size
  have hqar := hT.size
  refine as_h rfl (h_allocO (z := (.agg #[(.pointer none)])) hs2.sat (by kernel_rfl) rfl fun br w3 hs3 hor er => ?_)
  replace h2 := h2.mono hs3.le
  replace hb1 := hs3.le _ _ hb1
  replace hb2 := hs3.le _ _ hb2
  replace hT := hT.then hs3
  have hz3 := hs3.size
  have hlr := hor.1.lt
  refine as_nil (κ _ _ ?_)
  refine cw_seq fun _ hK2 => ?_
  refine cw_block ?_
  refine cw_rs fun _ κ => ?_
  refine Sf 0 rfl (by kernel_rfl) rfl ?_
  refine S1 rfl (by kernel_rfl) rfl (by exact BlkR.cell (hs3.sat _ _ _ hb1) rfl) ?_
  refine as_q rfl rfl (q_eqnil (by kernel_rfl) rfl) ?_
  refine Sa rfl rfl ?_
  refine as_nil (κ _ _ ?_)
  refine cw_true rfl ?_
  refine cw_rs fun _ κ => ?_
  refine Sc 1 rfl (by kernel_rfl) rfl (by exact BlkR.cells (hs3.sat _ _ _ hb2) rfl) ?_
  refine as_h0 (h_store hs3.sat hor rfl rfl rfl (by kernel_rfl) rfl rfl rfl fun w4 hs4 hn4 => ?_)
  replace h2 := h2.mono hs4.le
  clear hor; have hor := hn4; clear hn4
  replace hT := hT.own hs4 (by omega)
  have hz4 := hs4.size
  refine as_nil (κ _ _ ?_)
  refine cw_ret ?_
  exact ⟨_, (res_cell rfl (loadVar_n (n := 1) (by kernel_rfl) (by exact Blk.cells hor.1 rfl)) res_nil), _, _, rfl, hT, h2⟩
theorem bo_meld_b {w : World} {M : Mem} {t : Bt} {a : Addr} (hs : Sat M w) (h : BRep 296 330 332 M t (some a)) :
    Does Tryz.prog 218 #[.agg #[.pointer (some a)], .pointer none, .agg #[.pointer none]] w (fun v w' => ∃ q M', v = .agg #[.pointer q] ∧ Step Nope M w M' w' ∧ BRep 296 330 332 M' t q) := by
  have hT := Step.refl Nope hs
  refine fn_enter Tryz.func218 rfl (rs := [.cell 6 93]) rfl rfl rfl rfl ?_
  refine cw_rs fun _ κ => ?_
  refine as_h rfl (h_boxM hs rfl rfl fun b1 M1 w1 hs1 hb1 e1 => ?_)
  replace h := h.mono hs1.le
  replace hT := hT.then hs1
  have hz1 := hs1.size
  refine as_h rfl (h_boxM hs1.sat rfl rfl fun b2 M2 w2 hs2 hb2 e2 => ?_)
  replace h := h.mono hs2.le
  replace hb1 := hs2.le _ _ hb1
  replace hT := hT.then hs2
  have hz2 := hs2.size
  have hqar := hT.size
  refine as_h rfl (h_allocO (z := (.agg #[(.pointer none)])) hs2.sat (by kernel_rfl) rfl fun br w3 hs3 hor er => ?_)
  replace h := h.mono hs3.le
  replace hb1 := hs3.le _ _ hb1
  replace hb2 := hs3.le _ _ hb2
  replace hT := hT.then hs3
  have hz3 := hs3.size
  have hlr := hor.1.lt
  refine as_nil (κ _ _ ?_)
  refine cw_seq fun _ hK2 => ?_
  refine cw_block ?_
  refine cw_rs fun _ κ => ?_
  refine Sf 0 rfl (by kernel_rfl) rfl ?_
  refine S1 rfl (by kernel_rfl) rfl (by exact BlkR.cell (hs3.sat _ _ _ hb1) rfl) ?_
  refine as_q rfl rfl (q_eqnil (by kernel_rfl) rfl) ?_
  refine Sa rfl rfl ?_
  refine as_nil (κ _ _ ?_)
  refine cw_false rfl ?_
  refine cw_rs fun _ κ => ?_
  refine Sf 0 rfl (by kernel_rfl) rfl ?_
  refine S1 rfl (by kernel_rfl) rfl (by exact BlkR.cell (hs3.sat _ _ _ hb2) rfl) ?_
  refine as_q rfl rfl (q_eqnil (by kernel_rfl) rfl) ?_
  refine Sa rfl rfl ?_
  refine as_nil (κ _ _ ?_)
  refine cw_true rfl ?_
  refine cw_rs fun _ κ => ?_
  refine Sc 1 rfl (by kernel_rfl) rfl (by exact BlkR.cells (hs3.sat _ _ _ hb1) rfl) ?_
  refine as_h0 (h_store hs3.sat hor rfl rfl rfl (by kernel_rfl) rfl rfl rfl fun w4 hs4 hn4 => ?_)
  replace h := h.mono hs4.le
  clear hor; have hor := hn4; clear hn4
  replace hT := hT.own hs4 (by omega)
  have hz4 := hs4.size
  refine as_nil (κ _ _ ?_)
  refine cw_ret ?_
  exact ⟨_, (res_cell rfl (loadVar_n (n := 1) (by kernel_rfl) (by exact Blk.cells hor.1 rfl)) res_nil), _, _, rfl, hT, h⟩
theorem bo_meld_c {w : World} {M : Mem} {x y : El} {ts us : List (RT Bt)} {q q2 : Option Addr} (hs : Sat M w) (h : BRep 296 330 332 M (.node x ts) q) (h2 : BRep 296 330 332 M (.node y us) q2) (hz : RT.sizes ts < 1000000000) (hz2 : RT.sizes us < 1000000000) :
    Does Tryz.prog 218 #[.agg #[.pointer q], .pointer none, .agg #[.pointer q2]] w (fun v w' => ∃ q M', v = .agg #[.pointer q] ∧ Step Nope M w M' w' ∧ BRep 296 330 332 M' ((Bt.node x ts).meld (.node y us)) q) := by
  have hT := Step.refl Nope hs
  obtain ⟨b, qs, rfl, hb, ht⟩ := brep_node.1 h
  obtain ⟨bb, qs2, rfl, hbb, hu⟩ := brep_node.1 h2
  refine fn_enter Tryz.func218 rfl (rs := [.cell 6 93]) rfl rfl rfl rfl ?_
  refine cw_rs fun _ κ => ?_
  have hqah := hT.size
  refine as_h rfl (h_boxO hs rfl rfl fun bh w1 hs1 hoh eh => ?_)
  replace hb := hs1.le _ _ hb
  replace ht := ht.mono' encB_mono hs1.le
  replace hbb := hs1.le _ _ hbb
  replace hu := hu.mono' encB_mono hs1.le
  replace h := h.mono hs1.le
  replace h2 := h2.mono hs1.le
  replace hT := hT.then hs1
  have hz1 := hs1.size
  have hlh := hoh.1.lt
  have hqao := hT.size
  refine as_h rfl (h_boxO hs1.sat rfl rfl fun bo w2 hs2 hoo eo => ?_)
  replace hb := hs2.le _ _ hb
  replace ht := ht.mono' encB_mono hs2.le
  replace hbb := hs2.le _ _ hbb
  replace hu := hu.mono' encB_mono hs2.le
  replace h := h.mono hs2.le
  replace h2 := h2.mono hs2.le
  replace hoh := hoh.then hs2
  replace hT := hT.then hs2
  have hz2 := hs2.size
  have hlo := hoo.1.lt
  have hqar := hT.size
  refine as_h rfl (h_allocO (z := (.agg #[(.pointer none)])) hs2.sat (by kernel_rfl) rfl fun br w3 hs3 hor er => ?_)
  replace hb := hs3.le _ _ hb
  replace ht := ht.mono' encB_mono hs3.le
  replace hbb := hs3.le _ _ hbb
  replace hu := hu.mono' encB_mono hs3.le
  replace h := h.mono hs3.le
  replace h2 := h2.mono hs3.le
  replace hoh := hoh.then hs3
  replace hoo := hoo.then hs3
  replace hT := hT.then hs3
  have hz3 := hs3.size
  have hlr := hor.1.lt
  refine as_nil (κ _ _ ?_)
  refine cw_seq fun _ hK2 => ?_
  refine cw_block ?_
  refine cw_rs fun _ κ => ?_
  refine Sf 0 rfl (by kernel_rfl) rfl ?_
  refine S1 rfl (by kernel_rfl) rfl (by exact Blk.cell hoh.1 rfl) ?_
  refine as_q rfl rfl (q_eqnil (by kernel_rfl) rfl) ?_
  refine Sa rfl rfl ?_
  refine as_nil (κ _ _ ?_)
  refine cw_false rfl ?_
  refine cw_rs fun _ κ => ?_
  refine Sf 0 rfl (by kernel_rfl) rfl ?_
  refine S1 rfl (by kernel_rfl) rfl (by exact Blk.cell hoo.1 rfl) ?_
  refine as_q rfl rfl (q_eqnil (by kernel_rfl) rfl) ?_
  refine Sa rfl rfl ?_
  refine as_nil (κ _ _ ?_)
  refine cw_false rfl ?_
  refine cw_skip ?_
  refine hK2 _ _ ?_
  refine cw_seq fun _ hK5 => ?_
  refine cw_dr (by kernel_rfl) fun _ κ => ?_
  have hs4 := Step.drew hs3.sat
  have hz4 := hs4.size
  replace hb := hs4.le _ _ hb
  replace ht := ht.mono' encB_mono hs4.le
  replace hbb := hs4.le _ _ hbb
  replace hu := hu.mono' encB_mono hs4.le
  replace h := h.mono hs4.le
  replace h2 := h2.mono hs4.le
  replace hoh := hoh.then hs4
  replace hoo := hoo.then hs4
  replace hor := hor.then hs4
  replace hT := hT.then hs4
  refine Dm 0 1 rfl (by kernel_rfl) rfl ?_
  refine Df 1 3 0 rfl (by kernel_rfl) (by kernel_rfl) rfl ?_
  refine Dl1 2 7 rfl (by kernel_rfl) (by kernel_rfl) rfl (by exact Blk.cell hoo.1 rfl) ?_
  refine Dq 3 15 rfl (by kernel_rfl) (fun _ => (q_nilp rfl)) ?_
  refine Df 4 31 0 rfl (by kernel_rfl) (by kernel_rfl) rfl ?_
  refine Dlc 5 63 2 rfl (by kernel_rfl) (by kernel_rfl) rfl (by exact BlkR.cells (hs4.sat _ _ _ hbb) rfl) ?_
  refine Df 6 127 0 rfl (by kernel_rfl) (by kernel_rfl) rfl ?_
  refine Dl1 7 255 rfl (by kernel_rfl) (by kernel_rfl) rfl (by exact Blk.cell hoh.1 rfl) ?_
  refine Dq 8 511 rfl (by kernel_rfl) (fun _ => (q_nilp rfl)) ?_
  refine Df 9 1023 0 rfl (by kernel_rfl) (by kernel_rfl) rfl ?_
  refine Dlc 10 2047 2 rfl (by kernel_rfl) (by kernel_rfl) rfl (by exact BlkR.cells (hs4.sat _ _ _ hb) rfl) ?_
  refine Dh 11 4095 rfl (by kernel_rfl) (keep_sift (bs := [T,F,T,F]) (by kernel_rfl)) (h_call (by kernel_rfl) rfl ?_)
  refine (m_less (a := y) (b := x) hs4.sat).mono ?_
  rintro _ w5 ⟨rfl, hs5⟩
  replace hb := hs5.le _ _ hb
  replace ht := ht.mono' encB_mono hs5.le
  replace hbb := hs5.le _ _ hbb
  replace hu := hu.mono' encB_mono hs5.le
  replace h := h.mono hs5.le
  replace h2 := h2.mono hs5.le
  replace hoh := hoh.then hs5
  replace hoo := hoo.then hs5
  replace hor := hor.then hs5
  replace hT := hT.then hs5
  have hz5 := hs5.size
  refine ⟨(by repeat' first | exact trivial | exact BlkR.cell (hs5.sat _ _ _ hb) rfl | exact BlkR.cells (hs5.sat _ _ _ hb) rfl | exact BlkR.cell (hs5.sat _ _ _ hbb) rfl | exact BlkR.cells (hs5.sat _ _ _ hbb) rfl | exact Blk.cell hoh.1 rfl | exact Blk.cells hoh.1 rfl | exact Blk.cell hoo.1 rfl | exact Blk.cells hoo.1 rfl | exact Blk.cell hor.1 rfl | exact Blk.cells hor.1 rfl | assumption | refine all_keep ?_ | refine And.intro ?_ ?_), ?_⟩
  refine Dd (by kernel_rfl) (κ _ _ ?_)
  refine cw_cond rfl (fun hc2 => ?_) (fun hc2 => ?_)
  · skip
    skip
    refine cw_region fun _ κ => ?_
    refine Sc 1 rfl (by kernel_rfl) rfl (by exact Blk.cells hoo.1 rfl) ?_
    refine Sc 1 rfl (by kernel_rfl) rfl (by exact Blk.cells hoh.1 rfl) ?_
    refine as_h0 (h_store hs5.sat hoh rfl rfl rfl (by kernel_rfl) rfl rfl rfl fun w6 hs6 hn6 => ?_)
    replace hb := hs6.le _ _ hb
    replace ht := ht.mono' encB_mono hs6.le
    replace hbb := hs6.le _ _ hbb
    replace hu := hu.mono' encB_mono hs6.le
    replace h := h.mono hs6.le
    replace h2 := h2.mono hs6.le
    replace hoo := hoo.step hs6 (fun h => by have h : _ = _ := h; omega)
    replace hor := hor.step hs6 (fun h => by have h : _ = _ := h; omega)
    clear hoh; have hoh := hn6; clear hn6
    replace hT := hT.own hs6 (by omega)
    have hz6 := hs6.size
    refine as_h0 (h_store hs6.sat hoo rfl rfl rfl (by kernel_rfl) rfl rfl rfl fun w7 hs7 hn7 => ?_)
    replace hb := hs7.le _ _ hb
    replace ht := ht.mono' encB_mono hs7.le
    replace hbb := hs7.le _ _ hbb
    replace hu := hu.mono' encB_mono hs7.le
    replace h := h.mono hs7.le
    replace h2 := h2.mono hs7.le
    replace hoh := hoh.step hs7 (fun h => by have h : _ = _ := h; omega)
    replace hor := hor.step hs7 (fun h => by have h : _ = _ := h; omega)
    clear hoo; have hoo := hn7; clear hn7
    replace hT := hT.own hs7 (by omega)
    have hz7 := hs7.size
    refine as_nil (κ _ _ ?_)
    refine hK5 _ _ ?_
    refine cw_dr (by kernel_rfl) fun _ κ => ?_
    have hs8 := Step.drew hs7.sat
    have hz8 := hs8.size
    replace hb := hs8.le _ _ hb
    replace ht := ht.mono' encB_mono hs8.le
    replace hbb := hs8.le _ _ hbb
    replace hu := hu.mono' encB_mono hs8.le
    replace h := h.mono hs8.le
    replace h2 := h2.mono hs8.le
    replace hoh := hoh.then hs8
    replace hoo := hoo.then hs8
    replace hor := hor.then hs8
    replace hT := hT.then hs8
    refine Dm 0 1 rfl (by kernel_rfl) rfl ?_
    refine Df 1 3 0 rfl (by kernel_rfl) (by kernel_rfl) rfl ?_
    refine Dl1 2 7 rfl (by kernel_rfl) (by kernel_rfl) rfl (by exact Blk.cell hoh.1 rfl) ?_
    refine Dq 3 15 rfl (by kernel_rfl) (fun _ => (q_nilp rfl)) ?_
    refine Df 4 31 0 rfl (by kernel_rfl) (by kernel_rfl) rfl ?_
    refine Dlc 5 63 2 rfl (by kernel_rfl) (by kernel_rfl) rfl (by exact BlkR.cells (hs8.sat _ _ _ hbb) rfl) ?_
    refine Df 6 127 0 rfl (by kernel_rfl) (by kernel_rfl) rfl ?_
    refine Dl1 7 255 rfl (by kernel_rfl) (by kernel_rfl) rfl (by exact Blk.cell hoh.1 rfl) ?_
    refine Dq 8 511 rfl (by kernel_rfl) (fun _ => (q_nilp rfl)) ?_
    refine Df 9 1023 2 rfl (by kernel_rfl) (by kernel_rfl) rfl ?_
    refine Dlc 10 2047 1 rfl (by kernel_rfl) (by kernel_rfl) rfl (by exact BlkR.cells (hs8.sat _ _ _ hbb) rfl) ?_
    refine Dm 11 4095 rfl (by kernel_rfl) rfl ?_
    refine Dlc 12 8191 1 rfl (by kernel_rfl) (by kernel_rfl) rfl (by exact Blk.cells hoo.1 rfl) ?_
    refine Dh 13 16383 rfl (by kernel_rfl) (keep_sift (bs := [T,T,F,F,F]) (by kernel_rfl)) (h_call (by kernel_rfl) rfl ?_)
    refine (sh_insert (x := .node x ts) (ts := us) hs8.sat (encB_iff.2 ⟨_, rfl, h⟩) hu (by omega)).mono ?_
    rintro _ w9 ⟨qi, Mi, rfl, hs9, hi⟩
    replace hb := hs9.le _ _ hb
    replace ht := ht.mono' encB_mono hs9.le
    replace hbb := hs9.le _ _ hbb
    replace h := h.mono hs9.le
    replace h2 := h2.mono hs9.le
    replace hoh := hoh.then hs9
    replace hoo := hoo.then hs9
    replace hor := hor.then hs9
    replace hT := hT.then hs9
    have hz9 := hs9.size
    refine ⟨(by repeat' first | exact trivial | exact BlkR.cell (hs9.sat _ _ _ hb) rfl | exact BlkR.cells (hs9.sat _ _ _ hb) rfl | exact BlkR.cell (hs9.sat _ _ _ hbb) rfl | exact BlkR.cells (hs9.sat _ _ _ hbb) rfl | exact Blk.cell hoh.1 rfl | exact Blk.cells hoh.1 rfl | exact Blk.cell hoo.1 rfl | exact Blk.cells hoo.1 rfl | exact Blk.cell hor.1 rfl | exact Blk.cells hor.1 rfl | assumption | refine all_keep ?_ | refine And.intro ?_ ?_), ?_⟩
    refine Dh 14 32767 rfl (by kernel_rfl) (keep_sift (bs := [F,T,F]) (by kernel_rfl)) (h_call (by kernel_rfl) rfl ?_)
    refine (bo_made (x := y) hs9.sat hi).mono ?_
    rintro _ w10 ⟨qm, Mm, rfl, hs10, hm⟩
    replace hb := hs10.le _ _ hb
    replace ht := ht.mono' encB_mono hs10.le
    replace hbb := hs10.le _ _ hbb
    replace h := h.mono hs10.le
    replace h2 := h2.mono hs10.le
    replace hoh := hoh.then hs10
    replace hoo := hoo.then hs10
    replace hor := hor.then hs10
    replace hi := hi.mono' encB_mono hs10.le
    replace hT := hT.then hs10
    have hz10 := hs10.size
    refine ⟨(by repeat' first | exact trivial | exact BlkR.cell (hs10.sat _ _ _ hb) rfl | exact BlkR.cells (hs10.sat _ _ _ hb) rfl | exact BlkR.cell (hs10.sat _ _ _ hbb) rfl | exact BlkR.cells (hs10.sat _ _ _ hbb) rfl | exact Blk.cell hoh.1 rfl | exact Blk.cells hoh.1 rfl | exact Blk.cell hoo.1 rfl | exact Blk.cells hoo.1 rfl | exact Blk.cell hor.1 rfl | exact Blk.cells hor.1 rfl | assumption | refine all_keep ?_ | refine And.intro ?_ ?_), ?_⟩
    refine Dh0 15 65535 rfl (by kernel_rfl) (keep_sift (bs := [T,T]) (by kernel_rfl)) (h_store hs10.sat hor rfl rfl rfl (by kernel_rfl) rfl rfl rfl fun w11 hs11 hn11 => ?_)
    replace hb := hs11.le _ _ hb
    replace ht := ht.mono' encB_mono hs11.le
    replace hbb := hs11.le _ _ hbb
    replace h := h.mono hs11.le
    replace h2 := h2.mono hs11.le
    replace hoh := hoh.step hs11 (fun h => by have h : _ = _ := h; omega)
    replace hoo := hoo.step hs11 (fun h => by have h : _ = _ := h; omega)
    replace hi := hi.mono' encB_mono hs11.le
    replace hm := hm.mono hs11.le
    clear hor; have hor := hn11; clear hn11
    replace hT := hT.own hs11 (by omega)
    have hz11 := hs11.size
    refine ⟨trivial, ?_⟩
    refine Dd (by kernel_rfl) (κ _ _ ?_)
    refine cw_ret ?_
    rw [Bt.meld, if_pos hc2]
    exact ⟨_, (res_cell rfl (loadVar_n (n := 1) (by kernel_rfl) (by exact Blk.cells hor.1 rfl)) res_nil), _, _, rfl, hT, hm⟩
  · skip
    skip
    refine cw_skip ?_
    refine hK5 _ _ ?_
    refine cw_dr (by kernel_rfl) fun _ κ => ?_
    have hs12 := Step.drew hs5.sat
    have hz12 := hs12.size
    replace hb := hs12.le _ _ hb
    replace ht := ht.mono' encB_mono hs12.le
    replace hbb := hs12.le _ _ hbb
    replace h := h.mono hs12.le
    replace h2 := h2.mono hs12.le
    replace hoh := hoh.then hs12
    replace hoo := hoo.then hs12
    replace hor := hor.then hs12
    replace hT := hT.then hs12
    refine Dm 0 1 rfl (by kernel_rfl) rfl ?_
    refine Df 1 3 0 rfl (by kernel_rfl) (by kernel_rfl) rfl ?_
    refine Dl1 2 7 rfl (by kernel_rfl) (by kernel_rfl) rfl (by exact Blk.cell hoh.1 rfl) ?_
    refine Dq 3 15 rfl (by kernel_rfl) (fun _ => (q_nilp rfl)) ?_
    refine Df 4 31 0 rfl (by kernel_rfl) (by kernel_rfl) rfl ?_
    refine Dlc 5 63 2 rfl (by kernel_rfl) (by kernel_rfl) rfl (by exact BlkR.cells (hs12.sat _ _ _ hb) rfl) ?_
    refine Df 6 127 0 rfl (by kernel_rfl) (by kernel_rfl) rfl ?_
    refine Dl1 7 255 rfl (by kernel_rfl) (by kernel_rfl) rfl (by exact Blk.cell hoh.1 rfl) ?_
    refine Dq 8 511 rfl (by kernel_rfl) (fun _ => (q_nilp rfl)) ?_
    refine Df 9 1023 2 rfl (by kernel_rfl) (by kernel_rfl) rfl ?_
    refine Dlc 10 2047 1 rfl (by kernel_rfl) (by kernel_rfl) rfl (by exact BlkR.cells (hs12.sat _ _ _ hb) rfl) ?_
    refine Dm 11 4095 rfl (by kernel_rfl) rfl ?_
    refine Dlc 12 8191 1 rfl (by kernel_rfl) (by kernel_rfl) rfl (by exact Blk.cells hoo.1 rfl) ?_
    refine Dh 13 16383 rfl (by kernel_rfl) (keep_sift (bs := [T,T,F,F,F]) (by kernel_rfl)) (h_call (by kernel_rfl) rfl ?_)
    refine (sh_insert (x := .node y us) (ts := ts) hs12.sat (encB_iff.2 ⟨_, rfl, h2⟩) ht (by omega)).mono ?_
    rintro _ w13 ⟨qi, Mi, rfl, hs13, hi⟩
    replace hb := hs13.le _ _ hb
    replace hbb := hs13.le _ _ hbb
    replace h := h.mono hs13.le
    replace hoh := hoh.then hs13
    replace hoo := hoo.then hs13
    replace hor := hor.then hs13
    replace hT := hT.then hs13
    have hz13 := hs13.size
    refine ⟨(by repeat' first | exact trivial | exact BlkR.cell (hs13.sat _ _ _ hb) rfl | exact BlkR.cells (hs13.sat _ _ _ hb) rfl | exact BlkR.cell (hs13.sat _ _ _ hbb) rfl | exact BlkR.cells (hs13.sat _ _ _ hbb) rfl | exact Blk.cell hoh.1 rfl | exact Blk.cells hoh.1 rfl | exact Blk.cell hoo.1 rfl | exact Blk.cells hoo.1 rfl | exact Blk.cell hor.1 rfl | exact Blk.cells hor.1 rfl | assumption | refine all_keep ?_ | refine And.intro ?_ ?_), ?_⟩
    refine Dh 14 32767 rfl (by kernel_rfl) (keep_sift (bs := [F,T,F]) (by kernel_rfl)) (h_call (by kernel_rfl) rfl ?_)
    refine (bo_made (x := x) hs13.sat hi).mono ?_
    rintro _ w14 ⟨qm, Mm, rfl, hs14, hm⟩
    replace hb := hs14.le _ _ hb
    replace hbb := hs14.le _ _ hbb
    replace h := h.mono hs14.le
    replace hoh := hoh.then hs14
    replace hoo := hoo.then hs14
    replace hor := hor.then hs14
    replace hT := hT.then hs14
    have hz14 := hs14.size
    refine ⟨(by repeat' first | exact trivial | exact BlkR.cell (hs14.sat _ _ _ hb) rfl | exact BlkR.cells (hs14.sat _ _ _ hb) rfl | exact BlkR.cell (hs14.sat _ _ _ hbb) rfl | exact BlkR.cells (hs14.sat _ _ _ hbb) rfl | exact Blk.cell hoh.1 rfl | exact Blk.cells hoh.1 rfl | exact Blk.cell hoo.1 rfl | exact Blk.cells hoo.1 rfl | exact Blk.cell hor.1 rfl | exact Blk.cells hor.1 rfl | assumption | refine all_keep ?_ | refine And.intro ?_ ?_), ?_⟩
    refine Dh0 15 65535 rfl (by kernel_rfl) (keep_sift (bs := [T,T]) (by kernel_rfl)) (h_store hs14.sat hor rfl rfl rfl (by kernel_rfl) rfl rfl rfl fun w15 hs15 hn15 => ?_)
    replace h := h.mono hs15.le
    replace hm := hm.mono hs15.le
    clear hor; have hor := hn15; clear hn15
    replace hT := hT.own hs15 (by omega)
    have hz15 := hs15.size
    refine ⟨trivial, ?_⟩
    refine Dd (by kernel_rfl) (κ _ _ ?_)
    refine cw_ret ?_
    rw [Bt.meld, if_neg (by rw [hc2]; decide)]
    exact ⟨_, (res_cell rfl (loadVar_n (n := 1) (by kernel_rfl) (by exact Blk.cells hor.1 rfl)) res_nil), _, _, rfl, hT, hm⟩
theorem bo_meld {w : World} {M : Mem} {t u : Bt} {q q2 : Option Addr} (hs : Sat M w) (h : BRep 296 330 332 M t q) (h2 : BRep 296 330 332 M u q2) (hz : RT.sizes t.queue < 1000000000) (hz2 : RT.sizes u.queue < 1000000000) : Does Tryz.prog 218 #[.agg #[.pointer q], .pointer none, .agg #[.pointer q2]] w (fun v w' => ∃ q M', v = .agg #[.pointer q] ∧ Step Nope M w M' w' ∧ BRep 296 330 332 M' (t.meld u) q) := by
  cases t with
  | nil => obtain rfl := brep_nil.1 h; exact bo_meld_a hs h2
  | node x ts =>
    cases u with
    | nil => obtain rfl := brep_nil.1 h2; obtain ⟨b, _, rfl, _⟩ := brep_node.1 h; exact bo_meld_b hs h
    | node y us => exact bo_meld_c hs h h2 hz hz2
theorem bo_insert {w : World} {M : Mem} {x : El} {t : Bt} {q : Option Addr} (hs : Sat M w) (h : BRep 296 330 332 M t q) (hz : RT.sizes t.queue < 1000000000) :
    Does Tryz.prog 216 #[.agg #[.pointer q], .pointer none, .agg (elc x).toArray] w (fun v w' => ∃ q M', v = .agg #[.pointer q] ∧ Step Nope M w M' w' ∧ BRep 296 330 332 M' (Bt.insert x t) q) := by
  have hT := Step.refl Nope hs
  refine fn_enter Tryz.func216 rfl (rs := [.cell 6 93]) rfl rfl rfl rfl ?_
  refine cw_rs fun _ κ => ?_
  refine as_h rfl (h_boxM hs rfl rfl fun b1 M1 w1 hs1 hb1 e1 => ?_)
  replace h := h.mono hs1.le
  replace hT := hT.then hs1
  have hz1 := hs1.size
  refine as_h rfl (h_boxM hs1.sat rfl rfl fun b2 M2 w2 hs2 hb2 e2 => ?_)
  replace h := h.mono hs2.le
  replace hb1 := hs2.le _ _ hb1
  replace hT := hT.then hs2
  have hz2 := hs2.size
  have hqar := hT.size
  refine as_h rfl (h_allocO (z := (.agg #[(.pointer none)])) hs2.sat (by kernel_rfl) rfl fun br w3 hs3 hor er => ?_)
  replace h := h.mono hs3.le
  replace hb1 := hs3.le _ _ hb1
  replace hb2 := hs3.le _ _ hb2
  replace hT := hT.then hs3
  have hz3 := hs3.size
  have hlr := hor.1.lt
  refine as_nil (κ _ _ ?_)
  refine cw_dr (by kernel_rfl) fun _ κ => ?_
  have hs4 := Step.drew hs3.sat
  have hz4 := hs4.size
  replace h := h.mono hs4.le
  replace hb1 := hs4.le _ _ hb1
  replace hb2 := hs4.le _ _ hb2
  replace hor := hor.then hs4
  replace hT := hT.then hs4
  refine Dm 0 1 rfl (by kernel_rfl) rfl ?_
  refine Dlc 1 3 2 rfl (by kernel_rfl) (by kernel_rfl) rfl (by exact BlkR.cells (hs4.sat _ _ _ hb2) rfl) ?_
  refine Dq 2 7 rfl (by kernel_rfl) (fun _ => (q_build (zs := [(.pointer none)]) (places := [(0, 1)]) (cs := [_]) (by kernel_rfl) (by kernel_rfl) rfl rfl)) ?_
  refine Dm 4 23 rfl (by kernel_rfl) rfl ?_
  refine Dlc 5 55 1 rfl (by kernel_rfl) (by kernel_rfl) rfl (by exact BlkR.cells (hs4.sat _ _ _ hb1) rfl) ?_
  refine Dh 3 63 rfl (by kernel_rfl) (keep_sift (bs := [F,T]) (by kernel_rfl)) (h_call (by kernel_rfl) rfl ?_)
  refine (bo_made (x := x) (ts := []) hs4.sat (frep_nil.2 rfl)).mono ?_
  rintro _ w5 ⟨qm, Mm, rfl, hs5, hm⟩
  replace h := h.mono hs5.le
  replace hb1 := hs5.le _ _ hb1
  replace hb2 := hs5.le _ _ hb2
  replace hor := hor.then hs5
  replace hT := hT.then hs5
  have hz5 := hs5.size
  refine ⟨(by repeat' first | exact trivial | exact BlkR.cell (hs5.sat _ _ _ hb1) rfl | exact BlkR.cells (hs5.sat _ _ _ hb1) rfl | exact BlkR.cell (hs5.sat _ _ _ hb2) rfl | exact BlkR.cells (hs5.sat _ _ _ hb2) rfl | exact Blk.cell hor.1 rfl | exact Blk.cells hor.1 rfl | assumption | refine all_keep ?_ | refine And.intro ?_ ?_), ?_⟩
  refine Dh 6 127 rfl (by kernel_rfl) (keep_sift (bs := [T]) (by kernel_rfl)) (h_call (by kernel_rfl) rfl ?_)
  refine (bo_meld hs5.sat hm h (by simp [Bt.queue, RT.sizes]) hz).mono ?_
  rintro _ w6 ⟨qn, Mn, rfl, hs6, hn⟩
  replace h := h.mono hs6.le
  replace hor := hor.then hs6
  replace hT := hT.then hs6
  have hz6 := hs6.size
  refine ⟨trivial, ?_⟩
  refine Dh0 7 255 rfl (by kernel_rfl) rfl (h_store hs6.sat hor rfl rfl rfl (by kernel_rfl) rfl rfl rfl fun w7 hs7 hn7 => ?_)
  replace h := h.mono hs7.le
  replace hn := hn.mono hs7.le
  clear hor; have hor := hn7; clear hn7
  replace hT := hT.own hs7 (by omega)
  have hz7 := hs7.size
  refine ⟨trivial, ?_⟩
  refine Dd (by kernel_rfl) (κ _ _ ?_)
  refine cw_ret ?_
  exact ⟨_, (res_cell rfl (loadVar_n (n := 1) (by kernel_rfl) (by exact Blk.cells hor.1 rfl)) res_nil), _, _, rfl, hT, hn⟩
end Go.Proofs.YtgcgjpfjjgalmaaGreat
/- All heaps behind a heap, part 1. -/
namespace Go.Proofs.YtgcgjpfjjgalmaaGreat
open Go Go.Eng
theorem th_aheadb {w : World} {M : Mem} {qx : Option Addr} {l : Value} {n : Nat} {bcs : List Value} (hs : Sat M w) (hl : RdM M 1 l n bcs) (h1 : ∀ x ∈ bcs, x.oneCell' = true) (hz : n ≤ 1000000000) :
    Does Tryz.prog 253 #[.agg #[.pointer qx], l] w (fun v w' => ∃ sa sc M', v = .slice sa (n + 1) sc ∧ Step Nope M w M' w' ∧ Buf w' M' 93 1 (.slice sa (n + 1) sc) (n + 1) ([.pointer qx] ++ bcs) ∧ ∀ g, (Value.slice sa (n + 1) sc).ownBlock = some g → w.heap.size ≤ g) := by
  have hT := Step.refl Nope hs
  obtain ⟨la, lc, rfl, _, _⟩ := hl.slice
  refine fn_enter Tryz.func253 rfl (rs := [.tmp 4]) rfl rfl rfl rfl ?_
  refine cw_rs fun _ κ => ?_
  refine as_h rfl (h_boxM hs rfl rfl fun b1 M1 w1 hs1 hb1 e1 => ?_)
  replace hl := hl.mono hs1.le
  replace hT := hT.then hs1
  have hz1 := hs1.size
  refine Sa rfl rfl ?_
  refine as_nil (κ _ _ ?_)
  refine cw_rs fun _ κ => ?_
  refine Sc 1 rfl (by kernel_rfl) rfl (by exact BlkR.cells (hs1.sat _ _ _ hb1) rfl) ?_
  refine as_h rfl (h_buildO (e := 93) (size := 1) (zs := [.pointer none]) (cs := [_]) (by kernel_rfl) (by kernel_rfl) (by kernel_rfl) rfl hs1.sat rfl rfl fun bB w2 hs2 hoB eB => ?_)
  replace hl := hl.mono hs2.le
  replace hT := hT.then hs2
  have hz2 := hs2.size
  refine Sm rfl rfl ?_
  have hbb := Own.buf hoB (n := 1) (size := 1) rfl (by decide)
  refine as_h rfl (h_append (e := 93) (size := 1) (bytes := 8) (by kernel_rfl) hs2.sat hbb (hl.rd hs2.sat) rfl rfl h1 (by omega) rfl fun sv w3 hs3 hbu hor => ?_)
  have hqb := hT.size
  have hz_ := hs3.size
  replace hT := hT.trans hs3 (fun k hk h => by have h2 : bB = k := Option.some.inj h; omega)
  have hfr : ∀ g, sv.ownBlock = some g → w.heap.size ≤ g := fun g hg => by
    rcases hor with h | h
    · rw [h] at hg; have h2 : bB = g := Option.some.inj hg; omega
    · rw [h] at hg; have h2 := Option.some.inj hg; omega
  obtain ⟨sa, sc, rfl, _, _⟩ := hbu.slice
  refine Sa rfl rfl ?_
  refine as_nil (κ _ _ ?_)
  refine cw_ret ?_
  rw [show 1 + n = n + 1 by omega] at hbu
  exact ⟨_, (res_tmp rfl res_nil), _, _, _, congrArg (fun k => Value.slice sa k sc) (Nat.add_comm 1 n), hT, hbu, fun g hg => hfr g (by cases sa <;> exact hg)⟩
def TAll (k : Nat) : Prop := ∀ (w : World) (M : Mem) (t : RT Bt) (q : Option Addr), Sat M w → TRep 332 1 EncB M t q → t.size < k → t.size ≤ 1000000000 →
    Does Tryz.prog 248 #[.pointer q] w (fun v w' => ∃ sa sc M' cs, v = .slice sa t.size sc ∧ Step Nope M w M' w' ∧ Buf w' M' 93 1 (.slice sa t.size sc) t.size cs ∧ EncL EncB 1 M' (RT.all t) cs ∧ ∀ g, (Value.slice sa t.size sc).ownBlock = some g → w.heap.size ≤ g)
theorem th_all_n {w : World} {M : Mem} {x : Bt} {bs : List Bt} {ks : List (RT Bt)} {q : Option Addr} {k : Nat} (ih : TAll k) (hs : Sat M w) (h : TRep 332 1 EncB M (.node x bs ks) q) (hk : (RT.node x bs ks).size < k + 1) (hz : (RT.node x bs ks).size ≤ 1000000000) :
    Does Tryz.prog 248 #[.pointer q] w (fun v w' => ∃ sa sc M' cs, v = .slice sa (1 + bs.length + RT.sizes ks) sc ∧ Step Nope M w M' w' ∧ Buf w' M' 93 1 (.slice sa (1 + bs.length + RT.sizes ks) sc) (1 + bs.length + RT.sizes ks) cs ∧ EncL EncB 1 M' (RT.all (.node x bs ks)) cs ∧ ∀ g, (Value.slice sa (1 + bs.length + RT.sizes ks) sc).ownBlock = some g → w.heap.size ≤ g) := by
  have hT := Step.refl Nope hs
  obtain ⟨b, xc, bv, bcs, kv, ka, rfl, hb, hx, hxl, hbs, hbl, hks, hkl⟩ := trep_node.1 h
  obtain ⟨qx, rfl, _⟩ := encB_iff.1 hx
  obtain ⟨ba, bk, rfl, _, _⟩ := hbs.slice
  obtain ⟨kp, kk, rfl, _, _⟩ := hks.slice
  have hksM := hks
  have hklM := hkl
  simp only [RT.size] at hk hz
  refine fn_enter Tryz.func248 rfl (rs := [.tmp 2]) rfl rfl rfl rfl ?_
  refine cw_rs fun _ κ => ?_
  refine Sa rfl rfl ?_
  refine as_nil (κ _ _ ?_)
  refine cw_seq fun _ hK2 => ?_
  refine cw_rs fun _ κ => ?_
  refine Sm rfl rfl ?_
  refine as_q rfl rfl (q_eqnil (by kernel_rfl) rfl) ?_
  refine as_nil (κ _ _ ?_)
  refine cw_false rfl ?_
  refine cw_skip ?_
  refine hK2 _ _ ?_
  refine cw_dr (by kernel_rfl) fun _ κ => ?_
  have hs1 := Step.drew hs
  have hz1 := hs1.size
  replace hb := hs1.le _ _ hb
  replace hks := hks.mono hs1.le
  replace hkl := hkl.mono' EncB.mono hs1.le
  replace hbs := hbs.mono hs1.le
  replace hbl := hbl.mono EncB.mono hs1.le
  replace hx := EncB.mono _ _ _ _ hs1.le hx
  replace hT := hT.then hs1
  refine Dm 0 1 rfl (by kernel_rfl) rfl ?_
  refine Dq 1 3 rfl (by kernel_rfl) (fun _ => (q_nilp rfl)) ?_
  refine Df 2 7 1 rfl (by kernel_rfl) (by kernel_rfl) rfl ?_
  refine Dlc 3 15 1 rfl (by kernel_rfl) (by kernel_rfl) rfl (by exact BlkR.cells (hs1.sat _ _ _ hb) rfl) ?_
  refine Dm 4 31 rfl (by kernel_rfl) rfl ?_
  refine Dq 5 63 rfl (by kernel_rfl) (fun _ => (q_nilp rfl)) ?_
  refine Df 6 127 2 rfl (by kernel_rfl) (by kernel_rfl) rfl ?_
  refine Dl1 7 255 rfl (by kernel_rfl) (by kernel_rfl) rfl (by exact BlkR.cell (hs1.sat _ _ _ hb) rfl) ?_
  refine Dh 8 511 rfl (by kernel_rfl) (keep_sift (bs := [T,T]) (by kernel_rfl)) (h_call (by kernel_rfl) rfl ?_)
  refine (th_aheadb (qx := qx) hs1.sat hbs (encB_one hbl) (by omega)).mono ?_
  rintro _ w2 ⟨sa, sc, Mn, rfl, hs2, hbu, hfr⟩
  have hsz_ := hT.size
  replace hfr : ∀ g, (Value.slice sa (bs.length + 1) sc).ownBlock = some g → w.heap.size ≤ g := fun g hg => Nat.le_trans hsz_ (hfr g hg)
  replace hb := hs2.le _ _ hb
  replace hks := hks.mono hs2.le
  replace hkl := hkl.mono' EncB.mono hs2.le
  replace hbl := hbl.mono EncB.mono hs2.le
  replace hx := EncB.mono _ _ _ _ hs2.le hx
  replace hT := hT.then hs2
  have hz2 := hs2.size
  refine ⟨trivial, ?_⟩
  refine Da 9 1023 rfl (by kernel_rfl) rfl ?_
  refine Dd (by kernel_rfl) (κ _ _ ?_)
  refine cw_seq fun _ hK5 => ?_
  refine cw_rs fun _ κ => ?_
  refine Sm rfl rfl ?_
  refine as_q rfl rfl (q_nilp rfl) ?_
  refine Sf 3 rfl (by kernel_rfl) rfl ?_
  refine S1 rfl (by kernel_rfl) rfl (by exact BlkR.cell (hs2.sat _ _ _ hb) rfl) ?_
  refine as_q rfl rfl (q_len (by kernel_rfl) rfl _) ?_
  refine Sm rfl rfl ?_
  refine as_nil (κ _ _ ?_)
  refine cw_block ?_
  refine cw_loop (fun mm l1 w1 => ∃ (i n : Nat) (sa : Option Addr) (sc : Nat) (M1 : Mem) (cs : List Value), mm = ks.length - i ∧ i ≤ ks.length ∧ n = 1 + bs.length + RT.sizes (ks.take i) ∧ l1 = [(20, .slice kp ks.length kk), (21, .int .i64 (ks.length : Nat)), (22, .int .i64 i), (3, .slice sa n sc)] ∧ Step Nope M w M1 w1 ∧ Buf w1 M1 93 1 (.slice sa n sc) n cs ∧ EncL EncB 1 M1 (x :: (bs ++ RT.alls (ks.take i))) cs ∧ (∀ g, (Value.slice sa n sc).ownBlock = some g → w.heap.size ≤ g)) (ks.length) [(20, .slice kp ks.length kk), (21, .int .i64 (ks.length : Nat)), (22, .int .i64 (0 : Nat)), (3, .slice sa (bs.length + 1) sc)] (.cons rfl (.cons rfl (.cons rfl (.cons rfl (.nil _))))) ?_ ?_
  · skip
    refine ⟨0, bs.length + 1, sa, sc, Mn, _, rfl, Nat.zero_le _, by simp [RT.sizes]; omega, rfl, hT, hbu, ?_, hfr⟩
    simp only [List.take_zero, RT.alls, List.append_nil]
    exact ⟨_, _, rfl, rfl, hx, hbl⟩
  have hleM := hT.le
  have hks0 := hks
  have hkl0 := hkl
  clear hT hbu hfr
  rintro mm l1 w1 ⟨i, n, sa, sc, M1, cs, rfl, hi, hn, rfl, hT, hbu, hcl, hfr⟩
  replace hks := hksM.mono hT.le
  replace hkl := hklM.mono' EncB.mono hT.le
  refine cw_rs fun _ κ => ?_
  refine as_q rfl rfl (q_lt rfl rfl) ?_
  refine as_nil (κ _ _ ?_)
  refine cw_seq fun _ hK8 => ?_
  refine cw_cond rfl (fun hc1 => ?_) (fun hc1 => ?_)
  · skip
    have hlt : i < ks.length := by have := of_decide_eq_true hc1; omega
    obtain ⟨k, hk⟩ : ∃ k, ks[i]? = some k := ⟨ks[i], by simp⟩
    obtain ⟨kq, hkq, hkr⟩ := hkl.get hk
    obtain ⟨kb, ko, rfl⟩ := hks.there (by omega)
    have hks1 := RT.sizes_take hk
    have hks2 := RT.sizes_take_le ks (i + 1)
    have hksl := RT.sizes_length ks
    refine cw_skip ?_
    refine hK8 _ _ ?_
    refine cw_seq fun _ hK9 => ?_
    refine cw_block ?_
    refine cw_rs fun _ κ => ?_
    refine as_q rfl rfl (q_indexAddr (e := 311) (size := 1) (by kernel_rfl) (by kernel_rfl) rfl rfl (by omega) (by omega)) ?_
    refine S1 rfl (by kernel_rfl) rfl (hks.cell hT.sat (u := .pointer kq) (by rw [show (i : Int).toNat * 1 = i from by omega]; simp [ptrs, hkq])) ?_
    refine Sa rfl rfl ?_
    refine as_nil (κ _ _ ?_)
    refine cw_region fun _ κ => ?_
    refine Sm rfl rfl ?_
    refine Sm rfl rfl ?_
    refine as_h rfl (h_call (by kernel_rfl) rfl ?_)
    refine (ih _ _ k _ hT.sat hkr (by omega) (by omega)).mono ?_
    rintro _ w3 ⟨ra, rc, Mr, ds, rfl, hs3, hrb, hrl, _⟩
    replace hbu := hbu.then hs3
    replace hcl := hcl.mono EncB.mono hs3.le
    replace hT := hT.then hs3
    have hz3 := hs3.size
    have hTq := hT.size
    refine as_h rfl (h_append (e := 93) (size := 1) (bytes := 8) (by kernel_rfl) hs3.sat hbu hrb.rd rfl rfl (encB_one hrl) (by omega) rfl fun sv w4 hs4 hbu2 hor => ?_)
    replace hcl := hcl.mono EncB.mono hs4.le
    replace hrl := hrl.mono EncB.mono hs4.le
    replace hT := hT.trans hs4 (fun k hk h => by have := hfr k h; omega)
    have hz_ := hs4.size
    have hfr2 : ∀ g, sv.ownBlock = some g → w.heap.size ≤ g := fun g hg => by
      rcases hor with h | h
      · rw [h] at hg; exact hfr g hg
      · rw [h] at hg; have h2 := Option.some.inj hg; omega
    obtain ⟨sva, svc, rfl, _, _⟩ := hbu2.slice
    refine Sa rfl rfl ?_
    refine as_nil (κ _ _ ?_)
    refine hK9 _ _ ?_
    refine cw_region fun _ κ => ?_
    refine as_q rfl rfl (q_addx rfl rfl (by omega) (by omega)) ?_
    refine Sm rfl rfl ?_
    refine as_nil (κ _ _ ?_)
    refine ⟨_, _, ?_, (.cons rfl (.cons rfl (.cons rfl (.cons rfl (.nil _))))), i + 1, _, _, _, _, _, rfl, by omega, ?_, rfl, hT, hbu2, ?_, hfr2⟩
    · omega
    · omega
    · rw [RT.alls_take hk, ← List.append_assoc, ← List.cons_append]; exact hcl.append hrl
  · skip
    have hge : i = ks.length := by have := of_decide_eq_false hc1; omega
    refine cw_exit ?_
    refine hK5 _ _ ?_
    refine cw_rs fun _ κ => ?_
    refine Sm rfl rfl ?_
    refine Sa rfl rfl ?_
    refine as_nil (κ _ _ ?_)
    refine cw_ret ?_
    subst hge
    rw [List.take_length] at hn hcl
    subst hn
    exact ⟨_, (res_tmp rfl res_nil), _, _, _, _, rfl, hT, hbu, hcl, hfr⟩
theorem th_all_all : ∀ k, TAll k
  | 0 => fun _ _ _ _ _ _ h _ => absurd h (Nat.not_lt_zero _)
  | k + 1 => fun w M t q hs h hk hz => by
    cases t with
    | node x bs ks => exact th_all_n (th_all_all k) hs h hk hz
theorem th_all {w : World} {M : Mem} {t : RT Bt} {q : Option Addr} (hs : Sat M w) (h : TRep 332 1 EncB M t q) (hz : t.size ≤ 1000000000) :
    Does Tryz.prog 248 #[.pointer q] w (fun v w' => ∃ sa sc M' cs, v = .slice sa t.size sc ∧ Step Nope M w M' w' ∧ Buf w' M' 93 1 (.slice sa t.size sc) t.size cs ∧ EncL EncB 1 M' (RT.all t) cs ∧ ∀ g, (Value.slice sa t.size sc).ownBlock = some g → w.heap.size ≤ g) := th_all_all _ _ _ _ _ hs h (Nat.lt_succ_self _) hz
theorem sh_all {w : World} {M : Mem} {ts : List (RT Bt)} {q : Option Addr} (hs : Sat M w) (h : FRep 330 332 1 EncB M ts q) (hz : RT.sizes ts ≤ 1000000000) :
    Does Tryz.prog 228 #[.agg #[.pointer q]] w (fun v w' => ∃ sa sc M' cs, v = .slice sa (RT.sizes ts) sc ∧ Step Nope M w M' w' ∧ Buf w' M' 93 1 (.slice sa (RT.sizes ts) sc) (RT.sizes ts) cs ∧ EncL EncB 1 M' (RT.alls ts) cs ∧ ∀ g, (Value.slice sa (RT.sizes ts) sc).ownBlock = some g → w.heap.size ≤ g) := by
  have hT := Step.refl Nope hs
  obtain ⟨l, hc, hk, hll, hlz⟩ := h.len
  refine fn_enter Tryz.func228 rfl (rs := [.tmp 2]) rfl rfl rfl rfl ?_
  refine cw_rs fun _ κ => ?_
  refine as_h rfl (h_boxM hs rfl rfl fun b1 M1 w1 hs1 hb1 e1 => ?_)
  replace hc := hc.mono hs1.le
  replace hk := hk.mono' EncB.mono hs1.le
  replace hT := hT.then hs1
  have hz1 := hs1.size
  refine Sa rfl rfl ?_
  refine as_nil (κ _ _ ?_)
  refine cw_rs fun _ κ => ?_
  refine Sa rfl rfl ?_
  refine as_nil (κ _ _ ?_)
  refine cw_seq fun _ hK3 => ?_
  refine cw_rs fun _ κ => ?_
  refine Sf 0 rfl (by kernel_rfl) rfl ?_
  refine Sc 1 rfl (by kernel_rfl) rfl (by exact BlkR.cells (hs1.sat _ _ _ hb1) rfl) ?_
  refine as_h rfl (h_call (by kernel_rfl) rfl ?_)
  refine (ch_all hs1.sat hc (by omega)).mono ?_
  rintro av w2 ⟨Ma, hs2, hba, hfa⟩
  replace hk := hk.mono' EncB.mono hs2.le
  replace hT := hT.then hs2
  have hz2 := hs2.size
  obtain ⟨aa, ac, rfl, _, _⟩ := hba.slice
  have hTa := hT
  have hra0 := hba.rds
  refine as_q rfl rfl (q_len (by kernel_rfl) rfl _) ?_
  refine Sm rfl rfl ?_
  refine as_nil (κ _ _ ?_)
  refine cw_block ?_
  refine cw_loop (fun mm l1 w1 => ∃ (i n : Nat) (sa : Option Addr) (sc : Nat) (M1 : Mem) (cs : List Value), mm = l.length - i ∧ i ≤ l.length ∧ n = RT.sizes (ts.take i) ∧ l1 = [(8, .slice aa l.length ac), (9, .int .i64 (l.length : Nat)), (10, .int .i64 i), (3, .slice sa n sc)] ∧ Step Nope M w M1 w1 ∧ Step Nope Ma w2 M1 w1 ∧ Buf w1 M1 93 1 (.slice sa n sc) n cs ∧ EncL EncB 1 M1 (RT.alls (ts.take i)) cs ∧ (∀ g, (Value.slice sa n sc).ownBlock = some g → w2.heap.size ≤ g)) (l.length) [(8, .slice aa l.length ac), (9, .int .i64 (l.length : Nat)), (10, .int .i64 (0 : Nat)), (3, .slice none (0 : Nat) 0)] (.cons rfl (.cons rfl (.cons rfl (.cons rfl (.nil _))))) ?_ ?_
  · skip
    exact ⟨0, 0, none, 0, Ma, [], rfl, Nat.zero_le _, by simp [RT.sizes], rfl, hT, Step.refl _ hs2.sat, Buf.nil _ _ _ _, rfl, fun g hg => by cases hg⟩
  have hkM := hk
  have hTs0 := hT.size
  clear hT hba
  rintro mm l1 w1 ⟨i, n, sa, sc, M1, cs, rfl, hi, hn, rfl, hT, hT2, hbu, hcl, hfr⟩
  replace hk := hkM.mono' EncB.mono hT2.le
  refine cw_rs fun _ κ => ?_
  refine as_q rfl rfl (q_lt rfl rfl) ?_
  refine as_nil (κ _ _ ?_)
  refine cw_seq fun _ hK6 => ?_
  refine cw_cond rfl (fun hc0 => ?_) (fun hc0 => ?_)
  · skip
    have hlt : i < l.length := by have := of_decide_eq_true hc0; omega
    obtain ⟨k, hkk⟩ : ∃ k, ts[i]? = some k := ⟨ts[i]'(by omega), by simp⟩
    obtain ⟨kq, hkq, hkr⟩ := hk.get hkk
    obtain ⟨g, o, rfl⟩ := (hra0 _ _ hT2).there (by omega)
    have hks1 := RT.sizes_take hkk
    have hks2 := RT.sizes_take_le ts (i + 1)
    refine cw_skip ?_
    refine hK6 _ _ ?_
    refine cw_seq fun _ hK7 => ?_
    refine cw_block ?_
    refine cw_rs fun _ κ => ?_
    refine as_q rfl rfl (q_indexAddr (e := 311) (size := 1) (by kernel_rfl) (by kernel_rfl) rfl rfl (by omega) (by omega)) ?_
    refine S1 rfl (by kernel_rfl) rfl ((hra0 _ _ hT2).cell (u := .pointer kq) (j := (i : Int).toNat * 1) (by rw [show (i : Int).toNat * 1 = i from by omega]; simp [ptrs, hkq])) ?_
    refine Sa rfl rfl ?_
    refine as_nil (κ _ _ ?_)
    refine cw_region fun _ κ => ?_
    refine Sm rfl rfl ?_
    refine Sm rfl rfl ?_
    refine as_h rfl (h_call (by kernel_rfl) rfl ?_)
    refine (th_all hT.sat hkr (by omega)).mono ?_
    rintro _ w3 ⟨ra, rc, Mr, ds, rfl, hs3, hrb, hrl, _⟩
    replace hk := hk.mono' EncB.mono hs3.le
    replace hbu := hbu.then hs3
    replace hcl := hcl.mono EncB.mono hs3.le
    replace hT := hT.then hs3
    have hz3 := hs3.size
    replace hT2 := hT2.then hs3
    have hTq := hT2.size
    refine as_h rfl (h_append (e := 93) (size := 1) (bytes := 8) (by kernel_rfl) hs3.sat hbu hrb.rd rfl rfl (encB_one hrl) (by omega) rfl fun sv w4 hs4 hbu2 hor => ?_)
    replace hk := hk.mono' EncB.mono hs4.le
    replace hcl := hcl.mono EncB.mono hs4.le
    replace hrl := hrl.mono EncB.mono hs4.le
    replace hT := hT.trans hs4 (fun k hk h => by have := hfr k h; omega)
    replace hT2 := hT2.trans hs4 (fun k hk h => by have := hfr k h; omega)
    have hz_ := hs4.size
    have hfr2 : ∀ g, sv.ownBlock = some g → w2.heap.size ≤ g := fun g hg => by
      rcases hor with h | h
      · rw [h] at hg; exact hfr g hg
      · rw [h] at hg; have h2 := Option.some.inj hg; omega
    obtain ⟨sva, svc, rfl, _, _⟩ := hbu2.slice
    refine Sa rfl rfl ?_
    refine as_nil (κ _ _ ?_)
    refine hK7 _ _ ?_
    refine cw_region fun _ κ => ?_
    refine as_q rfl rfl (q_addx rfl rfl (by omega) (by omega)) ?_
    refine Sm rfl rfl ?_
    refine as_nil (κ _ _ ?_)
    refine ⟨_, _, ?_, (.cons rfl (.cons rfl (.cons rfl (.cons rfl (.nil _))))), i + 1, _, _, _, _, _, rfl, by omega, ?_, rfl, hT, hT2, hbu2, ?_, hfr2⟩
    · omega
    · omega
    · rw [RT.alls_take hkk]; exact hcl.append hrl
  · skip
    have hge : i = l.length := by have := of_decide_eq_false hc0; omega
    refine cw_exit ?_
    refine hK3 _ _ ?_
    refine cw_rs fun _ κ => ?_
    refine Sm rfl rfl ?_
    refine Sa rfl rfl ?_
    refine as_nil (κ _ _ ?_)
    refine cw_ret ?_
    subst hge
    rw [List.take_of_length_le (by omega)] at hn hcl
    subst hn
    exact ⟨_, (res_tmp rfl res_nil), _, _, _, _, rfl, hT, hbu, hcl, fun g hg => Nat.le_trans hTs0 (hfr g hg)⟩
theorem cells_oneB {b o : Nat} {v : Value} {w : World} (h : w.cell? ⟨b, o, none⟩ = some v) : cellsAre b o 1 [v] w := ⟨rfl, fun j u hj => by
  cases j with
  | zero => cases hj; exact h
  | succ j => simp at hj⟩
end Go.Proofs.YtgcgjpfjjgalmaaGreat
/- Copies of rows, part 1. -/
namespace Go.Proofs.YtgcgjpfjjgalmaaGreat
open Go Go.Eng
theorem clke_some {w : World} {M : Mem} {n c : Nat} {p : Addr} {cs : List Value} (hs : Sat M w) (hr : Rds M w 1 (.slice (some p) n c) n cs) (h1 : ∀ x ∈ cs, x.oneCell' = true) (hn : n ≤ 1000000000) :
    Does Tryz.prog 138 #[.slice (some p) n c] w (fun v w' => Step Nope M w M w' ∧ Buf w' M 195 1 v n cs ∧ ∀ g, v.ownBlock = some g → w.heap.size ≤ g) := by
  have hT := Step.refl Nope hs
  refine fn_enter Tryz.func138 rfl (rs := [.tmp 2]) rfl rfl rfl rfl ?_
  refine cw_rs fun _ κ => ?_
  refine Sa rfl rfl ?_
  refine as_nil (κ _ _ ?_)
  refine cw_seq fun _ hK2 => ?_
  refine cw_rs fun _ κ => ?_
  refine Sm rfl rfl ?_
  refine as_q rfl rfl (q_eqsl (by kernel_rfl) rfl) ?_
  refine as_nil (κ _ _ ?_)
  refine cw_false rfl ?_
  refine cw_skip ?_
  refine hK2 _ _ ?_
  refine cw_rs fun _ κ => ?_
  refine as_h rfl (h_buildO (e := 195) (size := 1) (zs := []) (cs := []) (by kernel_rfl) (by kernel_rfl) (by kernel_rfl) rfl hs rfl rfl fun b1 w1 hs1 ho1 e1 => ?_)
  replace hT := hT.then hs1
  have hz1 := hs1.size
  have hl1 := ho1.1.lt
  refine Sm rfl rfl ?_
  have hbb := Own.buf ho1 (n := 0) (size := 1) rfl (by decide)
  have hqb := hT.size
  refine as_h rfl (h_append (e := 195) (size := 1) (bytes := 8) (by kernel_rfl) hs1.sat hbb (hr _ _ hT) rfl rfl h1 (by omega) rfl fun sv w2 hs2 hb hor => ?_)
  have hz_ := hs2.size
  have hfr : ∀ g, sv.ownBlock = some g → w.heap.size ≤ g := fun g hg => by
    rcases hor with h | h
    · rw [h] at hg; have h2 : b1 = g := Option.some.inj hg; omega
    · rw [h] at hg; have h2 := Option.some.inj hg; omega
  replace hT := hT.trans hs2 (fun k hk h => by have h2 : b1 = k := Option.some.inj h; omega)
  rw [Nat.zero_add, List.nil_append] at hb
  refine Sa rfl rfl ?_
  refine as_nil (κ _ _ ?_)
  refine cw_ret ?_
  exact ⟨_, (res_tmp rfl res_nil), hT, hb, hfr⟩
theorem clke_nil {w : World} {M : Mem} (hs : Sat M w) :
    Does Tryz.prog 138 #[.slice none 0 0] w (fun v w' => v = .slice none 0 0 ∧ Step Nope M w M w') := by
  have hT := Step.refl Nope hs
  refine fn_enter Tryz.func138 rfl (rs := [.tmp 2]) rfl rfl rfl rfl ?_
  refine cw_rs fun _ κ => ?_
  refine Sa rfl rfl ?_
  refine as_nil (κ _ _ ?_)
  refine cw_seq fun _ hK2 => ?_
  refine cw_rs fun _ κ => ?_
  refine Sm rfl rfl ?_
  refine as_q rfl rfl (q_eqsl (by kernel_rfl) rfl) ?_
  refine as_nil (κ _ _ ?_)
  refine cw_true rfl ?_
  refine cw_rs fun _ κ => ?_
  refine Sa rfl rfl ?_
  refine as_nil (κ _ _ ?_)
  refine cw_ret ?_
  exact ⟨_, (res_tmp rfl res_nil), rfl, hT⟩
theorem clke {w : World} {M : Mem} {n : Nat} {u : Value} {cs : List Value} (hs : Sat M w) (hr : Rds M w 1 u n cs) (h1 : ∀ x ∈ cs, x.oneCell' = true) (hn : n ≤ 1000000000) :
    Does Tryz.prog 138 #[u] w (fun v w' => Step Nope M w M w' ∧ Buf w' M 195 1 v n cs ∧ ∀ g, v.ownBlock = some g → w.heap.size ≤ g) := by
  obtain ⟨a, c, rfl, _, hnil⟩ := hr.slice hs
  cases a with
  | none =>
    obtain ⟨rfl, rfl⟩ := hnil rfl
    obtain rfl : cs = [] := List.eq_nil_of_length_eq_zero (by have := hr.len hs; omega)
    exact (clke_nil hs).mono fun v w' ⟨h1, h2⟩ => by
      subst h1
      exact ⟨h2, Buf.nil _ _ _ _, fun g hg => (by cases hg)⟩
  | some p => exact clke_some hs hr h1 hn
theorem clxe_some {w : World} {M : Mem} {n c : Nat} {p : Addr} {cs : List Value} (hs : Sat M w) (hr : Rds M w 2 (.slice (some p) n c) n cs) (h1 : ∀ x ∈ cs, x.oneCell' = true) (hn : n ≤ 1000000000) :
    Does Tryz.prog 38 #[.slice (some p) n c] w (fun v w' => Step Nope M w M w' ∧ Buf w' M 24 2 v n cs ∧ ∀ g, v.ownBlock = some g → w.heap.size ≤ g) := by
  have hT := Step.refl Nope hs
  refine fn_enter Tryz.func38 rfl (rs := [.tmp 2]) rfl rfl rfl rfl ?_
  refine cw_rs fun _ κ => ?_
  refine Sa rfl rfl ?_
  refine as_nil (κ _ _ ?_)
  refine cw_seq fun _ hK2 => ?_
  refine cw_rs fun _ κ => ?_
  refine Sm rfl rfl ?_
  refine as_q rfl rfl (q_eqsl (by kernel_rfl) rfl) ?_
  refine as_nil (κ _ _ ?_)
  refine cw_false rfl ?_
  refine cw_skip ?_
  refine hK2 _ _ ?_
  refine cw_rs fun _ κ => ?_
  refine as_h rfl (h_buildO (e := 24) (size := 2) (zs := []) (cs := []) (by kernel_rfl) (by kernel_rfl) (by kernel_rfl) rfl hs rfl rfl fun b1 w1 hs1 ho1 e1 => ?_)
  replace hT := hT.then hs1
  have hz1 := hs1.size
  have hl1 := ho1.1.lt
  refine Sm rfl rfl ?_
  have hbb := Own.buf ho1 (n := 0) (size := 2) rfl (by decide)
  have hqb := hT.size
  refine as_h rfl (h_append (e := 24) (size := 2) (bytes := 16) (by kernel_rfl) hs1.sat hbb (hr _ _ hT) rfl rfl h1 (by omega) rfl fun sv w2 hs2 hb hor => ?_)
  have hz_ := hs2.size
  have hfr : ∀ g, sv.ownBlock = some g → w.heap.size ≤ g := fun g hg => by
    rcases hor with h | h
    · rw [h] at hg; have h2 : b1 = g := Option.some.inj hg; omega
    · rw [h] at hg; have h2 := Option.some.inj hg; omega
  replace hT := hT.trans hs2 (fun k hk h => by have h2 : b1 = k := Option.some.inj h; omega)
  rw [Nat.zero_add, List.nil_append] at hb
  refine Sa rfl rfl ?_
  refine as_nil (κ _ _ ?_)
  refine cw_ret ?_
  exact ⟨_, (res_tmp rfl res_nil), hT, hb, hfr⟩
theorem clxe_nil {w : World} {M : Mem} (hs : Sat M w) :
    Does Tryz.prog 38 #[.slice none 0 0] w (fun v w' => v = .slice none 0 0 ∧ Step Nope M w M w') := by
  have hT := Step.refl Nope hs
  refine fn_enter Tryz.func38 rfl (rs := [.tmp 2]) rfl rfl rfl rfl ?_
  refine cw_rs fun _ κ => ?_
  refine Sa rfl rfl ?_
  refine as_nil (κ _ _ ?_)
  refine cw_seq fun _ hK2 => ?_
  refine cw_rs fun _ κ => ?_
  refine Sm rfl rfl ?_
  refine as_q rfl rfl (q_eqsl (by kernel_rfl) rfl) ?_
  refine as_nil (κ _ _ ?_)
  refine cw_true rfl ?_
  refine cw_rs fun _ κ => ?_
  refine Sa rfl rfl ?_
  refine as_nil (κ _ _ ?_)
  refine cw_ret ?_
  exact ⟨_, (res_tmp rfl res_nil), rfl, hT⟩
theorem clxe {w : World} {M : Mem} {n : Nat} {u : Value} {cs : List Value} (hs : Sat M w) (hr : Rds M w 2 u n cs) (h1 : ∀ x ∈ cs, x.oneCell' = true) (hn : n ≤ 1000000000) :
    Does Tryz.prog 38 #[u] w (fun v w' => Step Nope M w M w' ∧ Buf w' M 24 2 v n cs ∧ ∀ g, v.ownBlock = some g → w.heap.size ≤ g) := by
  obtain ⟨a, c, rfl, _, hnil⟩ := hr.slice hs
  cases a with
  | none =>
    obtain ⟨rfl, rfl⟩ := hnil rfl
    obtain rfl : cs = [] := List.eq_nil_of_length_eq_zero (by have := hr.len hs; omega)
    exact (clxe_nil hs).mono fun v w' ⟨h1, h2⟩ => by
      subst h1
      exact ⟨h2, Buf.nil _ _ _ _, fun g hg => (by cases hg)⟩
  | some p => exact clxe_some hs hr h1 hn
theorem te_kids {w : World} {M : Mem} {x : El} {bs : List El} {ks : List (RT El)} {q : Option Addr} (hs : Sat M w) (h : TRep 220 2 EncE M (.node x bs ks) q) (hz : RT.sizes ks ≤ 1000000000) :
    Does Tryz.prog 123 #[.pointer q] w (fun v w' => ∃ sa sc M' ka, v = .slice sa ks.length sc ∧ Step Nope M w M' w' ∧ Buf w' M' 195 1 (.slice sa ks.length sc) ks.length (ptrs ka) ∧ TReps 220 2 EncE M' ks ka ∧ ∀ g, (Value.slice sa ks.length sc).ownBlock = some g → w.heap.size ≤ g) := by
  have hT := Step.refl Nope hs
  obtain ⟨b, xc, bv, bcs, kv, ka, rfl, hb, hx, hxl, hbs, hbl, hks, hkl⟩ := trep_node.1 h
  obtain rfl := (show xc = elc _ from hx)
  obtain ⟨ba, bk, rfl, _, _⟩ := hbs.slice
  obtain ⟨kp, kk, rfl, _, _⟩ := hks.slice
  refine fn_enter Tryz.func123 rfl (rs := [.tmp 2]) rfl rfl rfl rfl ?_
  refine cw_rs fun _ κ => ?_
  refine Sa rfl rfl ?_
  refine as_nil (κ _ _ ?_)
  refine cw_seq fun _ hK2 => ?_
  refine cw_rs fun _ κ => ?_
  refine Sm rfl rfl ?_
  refine as_q rfl rfl (q_eqnil (by kernel_rfl) rfl) ?_
  refine as_nil (κ _ _ ?_)
  refine cw_false rfl ?_
  refine cw_skip ?_
  refine hK2 _ _ ?_
  refine cw_rs fun _ κ => ?_
  refine Sm rfl rfl ?_
  refine as_q rfl rfl (q_nilp rfl) ?_
  refine Sf 4 rfl (by kernel_rfl) rfl ?_
  refine S1 rfl (by kernel_rfl) rfl (by exact BlkR.cell (hs _ _ _ hb) rfl) ?_
  refine as_h rfl (h_call (by kernel_rfl) rfl ?_)
  refine (clke hs (hks.rds _) (ptrs_one _) (by have := RT.sizes_length ks; omega)).mono ?_
  rintro kv w1 ⟨hs1, hkb, hkf⟩
  replace hT := hT.then hs1
  have hz1 := hs1.size
  obtain ⟨ksa, ksc, rfl, _, _⟩ := hkb.slice
  refine Sa rfl rfl ?_
  refine as_nil (κ _ _ ?_)
  refine cw_ret ?_
  exact ⟨_, (res_tmp rfl res_nil), _, _, _, _, rfl, hT, hkb, hkl.mono' EncE.mono hT.le, hkf⟩
theorem clkh_some {w : World} {M : Mem} {n c : Nat} {p : Addr} {cs : List Value} (hs : Sat M w) (hr : Rds M w 1 (.slice (some p) n c) n cs) (h1 : ∀ x ∈ cs, x.oneCell' = true) (hn : n ≤ 1000000000) :
    Does Tryz.prog 256 #[.slice (some p) n c] w (fun v w' => Step Nope M w M w' ∧ Buf w' M 311 1 v n cs ∧ ∀ g, v.ownBlock = some g → w.heap.size ≤ g) := by
  have hT := Step.refl Nope hs
  refine fn_enter Tryz.func256 rfl (rs := [.tmp 2]) rfl rfl rfl rfl ?_
  refine cw_rs fun _ κ => ?_
  refine Sa rfl rfl ?_
  refine as_nil (κ _ _ ?_)
  refine cw_seq fun _ hK2 => ?_
  refine cw_rs fun _ κ => ?_
  refine Sm rfl rfl ?_
  refine as_q rfl rfl (q_eqsl (by kernel_rfl) rfl) ?_
  refine as_nil (κ _ _ ?_)
  refine cw_false rfl ?_
  refine cw_skip ?_
  refine hK2 _ _ ?_
  refine cw_rs fun _ κ => ?_
  refine as_h rfl (h_buildO (e := 311) (size := 1) (zs := []) (cs := []) (by kernel_rfl) (by kernel_rfl) (by kernel_rfl) rfl hs rfl rfl fun b1 w1 hs1 ho1 e1 => ?_)
  replace hT := hT.then hs1
  have hz1 := hs1.size
  have hl1 := ho1.1.lt
  refine Sm rfl rfl ?_
  have hbb := Own.buf ho1 (n := 0) (size := 1) rfl (by decide)
  have hqb := hT.size
  refine as_h rfl (h_append (e := 311) (size := 1) (bytes := 8) (by kernel_rfl) hs1.sat hbb (hr _ _ hT) rfl rfl h1 (by omega) rfl fun sv w2 hs2 hb hor => ?_)
  have hz_ := hs2.size
  have hfr : ∀ g, sv.ownBlock = some g → w.heap.size ≤ g := fun g hg => by
    rcases hor with h | h
    · rw [h] at hg; have h2 : b1 = g := Option.some.inj hg; omega
    · rw [h] at hg; have h2 := Option.some.inj hg; omega
  replace hT := hT.trans hs2 (fun k hk h => by have h2 : b1 = k := Option.some.inj h; omega)
  rw [Nat.zero_add, List.nil_append] at hb
  refine Sa rfl rfl ?_
  refine as_nil (κ _ _ ?_)
  refine cw_ret ?_
  exact ⟨_, (res_tmp rfl res_nil), hT, hb, hfr⟩
theorem clkh_nil {w : World} {M : Mem} (hs : Sat M w) :
    Does Tryz.prog 256 #[.slice none 0 0] w (fun v w' => v = .slice none 0 0 ∧ Step Nope M w M w') := by
  have hT := Step.refl Nope hs
  refine fn_enter Tryz.func256 rfl (rs := [.tmp 2]) rfl rfl rfl rfl ?_
  refine cw_rs fun _ κ => ?_
  refine Sa rfl rfl ?_
  refine as_nil (κ _ _ ?_)
  refine cw_seq fun _ hK2 => ?_
  refine cw_rs fun _ κ => ?_
  refine Sm rfl rfl ?_
  refine as_q rfl rfl (q_eqsl (by kernel_rfl) rfl) ?_
  refine as_nil (κ _ _ ?_)
  refine cw_true rfl ?_
  refine cw_rs fun _ κ => ?_
  refine Sa rfl rfl ?_
  refine as_nil (κ _ _ ?_)
  refine cw_ret ?_
  exact ⟨_, (res_tmp rfl res_nil), rfl, hT⟩
theorem clkh {w : World} {M : Mem} {n : Nat} {u : Value} {cs : List Value} (hs : Sat M w) (hr : Rds M w 1 u n cs) (h1 : ∀ x ∈ cs, x.oneCell' = true) (hn : n ≤ 1000000000) :
    Does Tryz.prog 256 #[u] w (fun v w' => Step Nope M w M w' ∧ Buf w' M 311 1 v n cs ∧ ∀ g, v.ownBlock = some g → w.heap.size ≤ g) := by
  obtain ⟨a, c, rfl, _, hnil⟩ := hr.slice hs
  cases a with
  | none =>
    obtain ⟨rfl, rfl⟩ := hnil rfl
    obtain rfl : cs = [] := List.eq_nil_of_length_eq_zero (by have := hr.len hs; omega)
    exact (clkh_nil hs).mono fun v w' ⟨h1, h2⟩ => by
      subst h1
      exact ⟨h2, Buf.nil _ _ _ _, fun g hg => (by cases hg)⟩
  | some p => exact clkh_some hs hr h1 hn
theorem clxh_some {w : World} {M : Mem} {n c : Nat} {p : Addr} {cs : List Value} (hs : Sat M w) (hr : Rds M w 1 (.slice (some p) n c) n cs) (h1 : ∀ x ∈ cs, x.oneCell' = true) (hn : n ≤ 1000000000) :
    Does Tryz.prog 258 #[.slice (some p) n c] w (fun v w' => Step Nope M w M w' ∧ Buf w' M 93 1 v n cs ∧ ∀ g, v.ownBlock = some g → w.heap.size ≤ g) := by
  have hT := Step.refl Nope hs
  refine fn_enter Tryz.func258 rfl (rs := [.tmp 2]) rfl rfl rfl rfl ?_
  refine cw_rs fun _ κ => ?_
  refine Sa rfl rfl ?_
  refine as_nil (κ _ _ ?_)
  refine cw_seq fun _ hK2 => ?_
  refine cw_rs fun _ κ => ?_
  refine Sm rfl rfl ?_
  refine as_q rfl rfl (q_eqsl (by kernel_rfl) rfl) ?_
  refine as_nil (κ _ _ ?_)
  refine cw_false rfl ?_
  refine cw_skip ?_
  refine hK2 _ _ ?_
  refine cw_rs fun _ κ => ?_
  refine as_h rfl (h_buildO (e := 93) (size := 1) (zs := []) (cs := []) (by kernel_rfl) (by kernel_rfl) (by kernel_rfl) rfl hs rfl rfl fun b1 w1 hs1 ho1 e1 => ?_)
  replace hT := hT.then hs1
  have hz1 := hs1.size
  have hl1 := ho1.1.lt
  refine Sm rfl rfl ?_
  have hbb := Own.buf ho1 (n := 0) (size := 1) rfl (by decide)
  have hqb := hT.size
  refine as_h rfl (h_append (e := 93) (size := 1) (bytes := 8) (by kernel_rfl) hs1.sat hbb (hr _ _ hT) rfl rfl h1 (by omega) rfl fun sv w2 hs2 hb hor => ?_)
  have hz_ := hs2.size
  have hfr : ∀ g, sv.ownBlock = some g → w.heap.size ≤ g := fun g hg => by
    rcases hor with h | h
    · rw [h] at hg; have h2 : b1 = g := Option.some.inj hg; omega
    · rw [h] at hg; have h2 := Option.some.inj hg; omega
  replace hT := hT.trans hs2 (fun k hk h => by have h2 : b1 = k := Option.some.inj h; omega)
  rw [Nat.zero_add, List.nil_append] at hb
  refine Sa rfl rfl ?_
  refine as_nil (κ _ _ ?_)
  refine cw_ret ?_
  exact ⟨_, (res_tmp rfl res_nil), hT, hb, hfr⟩
theorem clxh_nil {w : World} {M : Mem} (hs : Sat M w) :
    Does Tryz.prog 258 #[.slice none 0 0] w (fun v w' => v = .slice none 0 0 ∧ Step Nope M w M w') := by
  have hT := Step.refl Nope hs
  refine fn_enter Tryz.func258 rfl (rs := [.tmp 2]) rfl rfl rfl rfl ?_
  refine cw_rs fun _ κ => ?_
  refine Sa rfl rfl ?_
  refine as_nil (κ _ _ ?_)
  refine cw_seq fun _ hK2 => ?_
  refine cw_rs fun _ κ => ?_
  refine Sm rfl rfl ?_
  refine as_q rfl rfl (q_eqsl (by kernel_rfl) rfl) ?_
  refine as_nil (κ _ _ ?_)
  refine cw_true rfl ?_
  refine cw_rs fun _ κ => ?_
  refine Sa rfl rfl ?_
  refine as_nil (κ _ _ ?_)
  refine cw_ret ?_
  exact ⟨_, (res_tmp rfl res_nil), rfl, hT⟩
theorem clxh {w : World} {M : Mem} {n : Nat} {u : Value} {cs : List Value} (hs : Sat M w) (hr : Rds M w 1 u n cs) (h1 : ∀ x ∈ cs, x.oneCell' = true) (hn : n ≤ 1000000000) :
    Does Tryz.prog 258 #[u] w (fun v w' => Step Nope M w M w' ∧ Buf w' M 93 1 v n cs ∧ ∀ g, v.ownBlock = some g → w.heap.size ≤ g) := by
  obtain ⟨a, c, rfl, _, hnil⟩ := hr.slice hs
  cases a with
  | none =>
    obtain ⟨rfl, rfl⟩ := hnil rfl
    obtain rfl : cs = [] := List.eq_nil_of_length_eq_zero (by have := hr.len hs; omega)
    exact (clxh_nil hs).mono fun v w' ⟨h1, h2⟩ => by
      subst h1
      exact ⟨h2, Buf.nil _ _ _ _, fun g hg => (by cases hg)⟩
  | some p => exact clxh_some hs hr h1 hn
theorem th_kids {w : World} {M : Mem} {x : Bt} {bs : List Bt} {ks : List (RT Bt)} {q : Option Addr} (hs : Sat M w) (h : TRep 332 1 EncB M (.node x bs ks) q) (hz : RT.sizes ks ≤ 1000000000) :
    Does Tryz.prog 241 #[.pointer q] w (fun v w' => ∃ sa sc M' ka, v = .slice sa ks.length sc ∧ Step Nope M w M' w' ∧ Buf w' M' 311 1 (.slice sa ks.length sc) ks.length (ptrs ka) ∧ TReps 332 1 EncB M' ks ka ∧ ∀ g, (Value.slice sa ks.length sc).ownBlock = some g → w.heap.size ≤ g) := by
  have hT := Step.refl Nope hs
  obtain ⟨b, xc, bv, bcs, kv, ka, rfl, hb, hx, hxl, hbs, hbl, hks, hkl⟩ := trep_node.1 h
  obtain ⟨qx, rfl, _⟩ := encB_iff.1 hx
  obtain ⟨ba, bk, rfl, _, _⟩ := hbs.slice
  obtain ⟨kp, kk, rfl, _, _⟩ := hks.slice
  refine fn_enter Tryz.func241 rfl (rs := [.tmp 2]) rfl rfl rfl rfl ?_
  refine cw_rs fun _ κ => ?_
  refine Sa rfl rfl ?_
  refine as_nil (κ _ _ ?_)
  refine cw_seq fun _ hK2 => ?_
  refine cw_rs fun _ κ => ?_
  refine Sm rfl rfl ?_
  refine as_q rfl rfl (q_eqnil (by kernel_rfl) rfl) ?_
  refine as_nil (κ _ _ ?_)
  refine cw_false rfl ?_
  refine cw_skip ?_
  refine hK2 _ _ ?_
  refine cw_rs fun _ κ => ?_
  refine Sm rfl rfl ?_
  refine as_q rfl rfl (q_nilp rfl) ?_
  refine Sf 3 rfl (by kernel_rfl) rfl ?_
  refine S1 rfl (by kernel_rfl) rfl (by exact BlkR.cell (hs _ _ _ hb) rfl) ?_
  refine as_h rfl (h_call (by kernel_rfl) rfl ?_)
  refine (clkh hs (hks.rds _) (ptrs_one _) (by have := RT.sizes_length ks; omega)).mono ?_
  rintro kv w1 ⟨hs1, hkb, hkf⟩
  replace hT := hT.then hs1
  have hz1 := hs1.size
  obtain ⟨ksa, ksc, rfl, _, _⟩ := hkb.slice
  refine Sa rfl rfl ?_
  refine as_nil (κ _ _ ?_)
  refine cw_ret ?_
  exact ⟨_, (res_tmp rfl res_nil), _, _, _, _, rfl, hT, hkb, hkl.mono' EncB.mono hT.le, hkf⟩
end Go.Proofs.YtgcgjpfjjgalmaaGreat
/- Rows turned, and cut, part 1. -/
namespace Go.Proofs.YtgcgjpfjjgalmaaGreat
open Go Go.Eng
theorem tail_val {g cap i n : Nat} {z : Int} (h : z.toNat = i + 1) (h2 : i + 1 ≤ n) : Value.slice (if cap = z.toNat then some (⟨g, 0, none⟩ : Addr) else (some (⟨g, 0, none⟩ : Addr)).map (·.add (z.toNat * 1))) ((n : Int).toNat - z.toNat) (cap - z.toNat) = .slice (if cap = i + 1 then some ⟨g, 0, none⟩ else some ⟨g, i + 1, none⟩) (n - (i + 1)) (cap - (i + 1)) := by
  rw [h, Int.toNat_natCast, Nat.mul_one, Option.map_some, Addr.add_lit, Nat.zero_add]
theorem mid_val {g cap n a b : Nat} (ha : a = n - 1) (hb : b = n) (h : n ≤ cap ∧ 0 < n) : Value.slice (if cap = ((a : Nat) : Int).toNat then some (⟨g, 0, none⟩ : Addr) else (some (⟨g, 0, none⟩ : Addr)).map (·.add (((a : Nat) : Int).toNat * 1))) (((b : Nat) : Int).toNat - ((a : Nat) : Int).toNat) (cap - ((a : Nat) : Int).toNat) = .slice (some ⟨g, n - 1, none⟩) 1 (cap - (n - 1)) := by
  subst ha; subst hb
  rw [Int.toNat_natCast, Int.toNat_natCast, if_neg (by omega), Nat.mul_one, Option.map_some, Addr.add_lit, Nat.zero_add, show b - (b - 1) = 1 by omega]
theorem rve_some {w : World} {M : Mem} {g n cap : Nat} {l0 : List (Option Addr)} (hs : Sat M w) (hd : PtRow 195 w M g n cap l0) (hn : n ≤ 1000000000) :
    Does Tryz.prog 124 #[.slice (some ⟨g, 0, none⟩) n cap] w (fun _ w' => Step (Just g) M w M w' ∧ PtRow 195 w' M g n cap l0.reverse) := by
  have hT := Step.refl (Just g) hs
  have hl0 := hd.len
  refine fn_enter Tryz.func124 rfl (rs := []) rfl rfl rfl rfl ?_
  refine cw_rs fun _ κ => ?_
  refine Sm rfl rfl ?_
  refine as_q rfl rfl (q_len (by kernel_rfl) rfl _) ?_
  refine as_q rfl rfl (q_subx rfl rfl (by omega) (by omega)) ?_
  refine Sa rfl rfl ?_
  refine Sa rfl rfl ?_
  refine as_nil (κ _ _ ?_)
  refine cw_block ?_
  refine cw_loop (fun mm l w1 => ∃ (i : Nat) (z : Int) (l1 : List (Option Addr)), mm = n - i ∧ 2 * i ≤ n ∧ z = (n : Int) - 1 - i ∧ Rvd l0 l1 i ∧ l = [(0, .slice (some ⟨g, 0, none⟩) n cap), (2, .int .i64 i), (3, .int .i64 z)] ∧ Step (Just g) M w M w1 ∧ PtRow 195 w1 M g n cap l1) (n) [(0, .slice (some ⟨g, 0, none⟩) n cap), (2, .int .i64 (0 : Nat)), (3, .int .i64 ((n : Int) - 1))] (.cons rfl (.cons rfl (.cons rfl (.nil _)))) ?_ ?_
  · skip
    exact ⟨0, (n : Int) - 1, l0, by omega, by omega, by omega, rvd_zero _, rfl, hT, hd⟩
  clear hT hd
  rintro mm l w1 ⟨i, z, l1, rfl, hi2, hz, hrv, rfl, hT, hd⟩
  have hl1 := hrv.1
  refine cw_seq fun _ hK2 => ?_
  refine cw_rs fun _ κ => ?_
  refine Sm rfl rfl ?_
  refine Sm rfl rfl ?_
  refine as_q rfl rfl (q_lt rfl rfl) ?_
  refine as_nil (κ _ _ ?_)
  refine cw_cond rfl (fun hc0 => ?_) (fun hc0 => ?_)
  · skip
    replace hc0 := of_decide_eq_true hc0
    obtain ⟨x, hx⟩ : ∃ x, l1[(i : Int).toNat]? = some x := ⟨l1[(i : Int).toNat]'(by omega), by simp⟩
    obtain ⟨y, hy⟩ : ∃ y, l1[z.toNat]? = some y := ⟨l1[z.toNat]'(by omega), by simp⟩
    refine cw_skip ?_
    refine hK2 _ _ ?_
    refine cw_seq fun _ hK4 => ?_
    refine cw_block ?_
    refine cw_drawn (by kernel_rfl) (by kernel_rfl) (by kernel_rfl) rfl rfl fun K5 hK5 => ?_
    have hs1 := Step.drew hT.sat
    replace hd := hd.then hs1
    replace hT := hT.then hs1
    refine Dm 0 1 rfl (by kernel_rfl) rfl ?_
    refine Dm 1 3 rfl (by kernel_rfl) rfl ?_
    refine Dm 2 7 rfl (by kernel_rfl) rfl ?_
    refine Dm 3 15 rfl (by kernel_rfl) rfl ?_
    refine Dm 4 31 rfl (by kernel_rfl) rfl ?_
    refine Dm 5 63 rfl (by kernel_rfl) rfl ?_
    refine Dq 6 127 rfl (by kernel_rfl) (fun _ => (q_indexAddr (e := 195) (size := 1) (by kernel_rfl) (by kernel_rfl) rfl rfl (by omega) (by omega))) ?_
    refine Dl1 7 255 rfl (by kernel_rfl) (by kernel_rfl) rfl (hd.cell (j := (z : Int).toNat * 1) (by rw [Nat.mul_one]; exact hy)) ?_
    refine Dm 8 511 rfl (by kernel_rfl) rfl ?_
    refine Dm 9 1023 rfl (by kernel_rfl) rfl ?_
    refine Dq 10 2047 rfl (by kernel_rfl) (fun _ => (q_indexAddr (e := 195) (size := 1) (by kernel_rfl) (by kernel_rfl) rfl rfl (by omega) (by omega))) ?_
    refine Dl1 11 4095 rfl (by kernel_rfl) (by kernel_rfl) rfl (hd.cell (j := (i : Int).toNat * 1) (by rw [Nat.mul_one]; exact hx)) ?_
    refine Dq 12 8191 rfl (by kernel_rfl) (fun _ => (q_indexAddr (e := 195) (size := 1) (by kernel_rfl) (by kernel_rfl) rfl rfl (by omega) (by omega))) ?_
    refine Dh0 13 16383 rfl (by kernel_rfl) (keep_sift (bs := [T,T]) (by kernel_rfl)) (h_storeP (i := (i : Int).toNat) (q := y) hs1.sat hd rfl rfl (by kernel_rfl) (by omega) fun w2 hs2 hd2 => ?_)
    replace hT := hT.also hs2
    clear hd; have hd := hd2; clear hd2
    refine ⟨trivial, ?_⟩
    refine Dq 14 32767 rfl (by kernel_rfl) (fun _ => (q_indexAddr (e := 195) (size := 1) (by kernel_rfl) (by kernel_rfl) rfl rfl (by omega) (by omega))) ?_
    refine Dh0 15 65535 rfl (by kernel_rfl) rfl (h_storeP (i := z.toNat) (q := x) hs2.sat hd rfl rfl (by kernel_rfl) (by omega) fun w3 hs3 hd3 => ?_)
    replace hT := hT.also hs3
    clear hd; have hd := hd3; clear hd3
    refine ⟨trivial, ?_⟩
    refine Dd (by kernel_rfl) (hK5 _ _ ?_)
    refine hK4 _ _ ?_
    refine cw_region fun _ κ => ?_
    refine Sm rfl rfl ?_
    refine as_q rfl rfl (q_addx rfl rfl (by omega) (by omega)) ?_
    refine Sm rfl rfl ?_
    refine as_q rfl rfl (q_subx rfl rfl (by omega) (by omega)) ?_
    refine Sa rfl rfl ?_
    refine Sa rfl rfl ?_
    refine as_nil (κ _ _ ?_)
    refine ⟨_, _, ?_, (.cons rfl (.cons rfl (.cons rfl (.nil _)))), i + 1, z - 1, _, rfl, by omega, by omega, ?_, rfl, hT, hd⟩
    · omega
    · exact rvd_step hrv (by omega) (by omega) hx hy
  · skip
    replace hc0 := of_decide_eq_false hc0
    refine cw_exit ?_
    rw [← rvd_done hrv (by omega) (by omega)]
    exact ⟨_, res_nil, hT, hd⟩
theorem rve_nil {w : World} {M : Mem} (hs : Sat M w) :
    Does Tryz.prog 124 #[.slice none 0 0] w (fun _ w' => Step Nope M w M w') := by
  have hT := Step.refl Nope hs
  refine fn_enter Tryz.func124 rfl (rs := []) rfl rfl rfl rfl ?_
  refine cw_rs fun _ κ => ?_
  refine Sm rfl rfl ?_
  refine as_q rfl rfl (q_len (by kernel_rfl) rfl _) ?_
  refine as_q rfl rfl (q_congr (q_subx rfl rfl (by omega) (by omega)) (v' := .int .i64 (-1)) rfl) ?_
  refine Sa rfl rfl ?_
  refine Sa rfl rfl ?_
  refine as_nil (κ _ _ ?_)
  refine cw_block ?_
  refine cw_loop (fun mm l w1 => l = [(0, .slice none 0 0), (2, .int .i64 0), (3, .int .i64 (-1))] ∧ Step Nope M w M w1) (0) [(0, .slice none 0 0), (2, .int .i64 0), (3, .int .i64 (-1))] (.cons rfl (.cons rfl (.cons rfl (.nil _)))) ?_ ?_
  · skip
    exact ⟨rfl, hT⟩
  clear hT
  rintro mm l w1 ⟨rfl, hT⟩
  refine cw_seq fun _ hK2 => ?_
  refine cw_rs fun _ κ => ?_
  refine Sm rfl rfl ?_
  refine Sm rfl rfl ?_
  refine as_q rfl rfl (q_ltF rfl rfl (by omega)) ?_
  refine as_nil (κ _ _ ?_)
  refine cw_false rfl ?_
  refine cw_exit ?_
  exact ⟨_, res_nil, hT⟩
theorem rve {w : World} {M : Mem} {n : Nat} {v : Value} {l : List (Option Addr)} (hs : Sat M w) (hb : Buf w M 195 1 v n (ptrs l)) (hn : n ≤ 1000000000) :
    Does Tryz.prog 124 #[v] w (fun _ w' => Step (fun k => v.ownBlock = some k) M w M w' ∧ Buf w' M 195 1 v n (ptrs l.reverse)) := by
  have hll : l.length = n := by have := hb.1.1; rw [ptrs_length] at this; omega
  obtain ⟨⟨_, h2⟩, _⟩ := id hb
  rcases h2 with ⟨rfl, rfl⟩ | ⟨g, cap, cur, rfl, _⟩
  · obtain rfl := List.eq_nil_of_length_eq_zero hll
    exact (rve_nil hs).mono fun _ w' h => ⟨h.any _, hb.then h⟩
  · exact (rve_some hs hb hn).mono fun _ w' ⟨h1, h2⟩ => ⟨h1.wide fun k _ h => by cases h; rfl, h2⟩
theorem dle {w : World} {M : Mem} {g n cap i : Nat} {l0 : List (Option Addr)} (hs : Sat M w) (hb : PtRow 195 w M g n cap l0) (hi : i < n) (hn : n ≤ 1000000000) :
    Does Tryz.prog 126 #[.slice (some ⟨g, 0, none⟩) n cap, .int .i64 (i : Nat), .int .i64 ((i : Nat) + 1)] w (fun v w' => v = .slice (some ⟨g, 0, none⟩) (n - 1) cap ∧ Step (Just g) M w M w' ∧ PtRow 195 w' M g (n - 1) cap (l0.eraseIdx i)) := by
  have hT := Step.refl (Just g) hs
  have hl0 := hb.len
  have hcap : n ≤ cap := by obtain ⟨_, _, h, h2, _⟩ := hb.slice; cases h; exact h2
  refine fn_enter Tryz.func126 rfl (rs := [.tmp 6]) rfl rfl rfl rfl ?_
  refine cw_rs fun _ κ => ?_
  refine Sa rfl rfl ?_
  refine as_nil (κ _ _ ?_)
  refine cw_rs fun _ κ => ?_
  refine Sm rfl rfl ?_
  refine Sm rfl rfl ?_
  refine Sm rfl rfl ?_
  refine Sm rfl rfl ?_
  refine as_q rfl rfl (q_len (by kernel_rfl) rfl _) ?_
  refine as_q rfl rfl (q_slice3 (e := 195) (size := 1) (by kernel_rfl) (by kernel_rfl) rfl rfl rfl rfl (by omega) (by omega) (by omega) (by omega)) ?_
  refine as_nil (κ _ _ ?_)
  refine cw_seq fun _ hK3 => ?_
  refine cw_rs fun _ κ => ?_
  refine Sm rfl rfl ?_
  refine Sm rfl rfl ?_
  refine as_q rfl rfl (q_eqF rfl rfl (by omega)) ?_
  refine as_nil (κ _ _ ?_)
  refine cw_false rfl ?_
  refine cw_skip ?_
  refine hK3 _ _ ?_
  refine cw_rs fun _ κ => ?_
  refine Sm rfl rfl ?_
  refine as_q rfl rfl (q_len (by kernel_rfl) rfl _) ?_
  refine Sa rfl rfl ?_
  refine as_nil (κ _ _ ?_)
  refine cw_dr (by kernel_rfl) fun _ κ => ?_
  have hs1 := Step.drew hs
  replace hb := hb.then hs1
  replace hT := hT.then hs1
  refine Dm 0 1 rfl (by kernel_rfl) rfl ?_
  refine Dm 1 3 rfl (by kernel_rfl) rfl ?_
  refine Dq 2 7 rfl (by kernel_rfl) (fun _ => (q_congr (q_slice (e := 195) (size := 1) (k := .i64) (by kernel_rfl) (by kernel_rfl) rfl rfl rfl (by omega) (by omega) (by omega)) (v' := .slice (some ⟨g, 0, none⟩) i cap) (front_val2 (by omega)))) ?_
  refine Dm 3 15 rfl (by kernel_rfl) rfl ?_
  refine Dm 4 31 rfl (by kernel_rfl) rfl ?_
  refine Dq 5 63 rfl (by kernel_rfl) (fun _ => (q_congr (q_slice (e := 195) (size := 1) (k' := .i64) (by kernel_rfl) (by kernel_rfl) rfl rfl rfl (by omega) (by omega) (by omega)) (v' := .slice (if cap = i + 1 then some ⟨g, 0, none⟩ else some ⟨g, i + 1, none⟩) (n - (i + 1)) (cap - (i + 1))) (tail_val (by omega) (by omega)))) ?_
  have hrd : Rd w.drew 1 (.slice (if cap = i + 1 then some ⟨g, 0, none⟩ else some ⟨g, i + 1, none⟩) (n - (i + 1)) (cap - (i + 1))) (n - (i + 1)) ((ptrs l0).drop (i + 1)) := by
    have h := hb.rd.sub ((i + 1 : Nat) : Int) (n : Int) (by omega) (by omega) (by omega)
    exact h.cast (tail_val (by omega) (by omega)) (by omega) (by rw [show (((i + 1 : Nat) : Int)).toNat * 1 = i + 1 by omega]; exact List.take_of_length_le (by simp [ptrs]; omega))
  refine Dh 6 127 rfl (by kernel_rfl) rfl (h_appendIn (g := g) (N := n) (cap := cap) (i := i) (m := n - (i + 1)) (cs := ptrs l0) (e := 195) (bytes := 8) (by kernel_rfl) hs1.sat hb hrd rfl rfl (fun x hx => ptrs_one _ x (List.mem_of_mem_drop hx)) (by omega) fun w2 hs2 hb2 => ?_)
  replace hT := hT.also hs2
  clear hb; have hb := hb2; clear hb2
  refine ⟨trivial, ?_⟩
  refine Da 7 255 rfl (by kernel_rfl) rfl ?_
  refine Dd (by kernel_rfl) (κ _ _ ?_)
  refine cw_rs fun _ κ => ?_
  refine Sm rfl rfl ?_
  refine Sm rfl rfl ?_
  refine as_q rfl rfl (q_len (by kernel_rfl) rfl _) ?_
  refine Sm rfl rfl ?_
  refine as_q rfl rfl (q_congr (q_slice (e := 195) (size := 1) (k := .i64) (k' := .i64) (by kernel_rfl) (by kernel_rfl) rfl rfl rfl (by omega) (by omega) (by omega)) (v' := .slice (some ⟨g, n - 1, none⟩) 1 (cap - (n - 1))) (mid_val (by omega) (by omega) (by omega))) ?_
  refine as_h0 (h_clearP (e := 195) (by kernel_rfl) (by kernel_rfl) hs2.sat hb rfl (by omega) fun w3 hs3 hb3 => ?_)
  replace hT := hT.also hs3
  clear hb; have hb := hb3; clear hb3
  refine as_nil (κ _ _ ?_)
  refine cw_rs fun _ κ => ?_
  refine Sm rfl rfl ?_
  refine Sa rfl rfl ?_
  refine as_nil (κ _ _ ?_)
  refine cw_ret ?_
  have hfin : Buf w3 M 195 1 (.slice (some ⟨g, 0, none⟩) (n - 1) cap) (n - 1) (ptrs (l0.eraseIdx i)) := by
    have h := hb.front1 (j := n - 1) (by omega)
    rw [List.take_append_of_le_length (by simp [ptrs]; omega), List.take_append_of_le_length (by simp [ptrs]; omega), List.take_take, Nat.min_self, ptrs_out (by omega) (by omega)] at h
    exact h
  exact ⟨_, (res_tmp rfl res_nil), by rw [show i + (n - (i + 1)) = n - 1 by omega]; rfl, hT, hfin⟩
theorem rvh_some {w : World} {M : Mem} {g n cap : Nat} {l0 : List (Option Addr)} (hs : Sat M w) (hd : PtRow 311 w M g n cap l0) (hn : n ≤ 1000000000) :
    Does Tryz.prog 242 #[.slice (some ⟨g, 0, none⟩) n cap] w (fun _ w' => Step (Just g) M w M w' ∧ PtRow 311 w' M g n cap l0.reverse) := by
  have hT := Step.refl (Just g) hs
  have hl0 := hd.len
  refine fn_enter Tryz.func242 rfl (rs := []) rfl rfl rfl rfl ?_
  refine cw_rs fun _ κ => ?_
  refine Sm rfl rfl ?_
  refine as_q rfl rfl (q_len (by kernel_rfl) rfl _) ?_
  refine as_q rfl rfl (q_subx rfl rfl (by omega) (by omega)) ?_
  refine Sa rfl rfl ?_
  refine Sa rfl rfl ?_
  refine as_nil (κ _ _ ?_)
  refine cw_block ?_
  refine cw_loop (fun mm l w1 => ∃ (i : Nat) (z : Int) (l1 : List (Option Addr)), mm = n - i ∧ 2 * i ≤ n ∧ z = (n : Int) - 1 - i ∧ Rvd l0 l1 i ∧ l = [(0, .slice (some ⟨g, 0, none⟩) n cap), (2, .int .i64 i), (3, .int .i64 z)] ∧ Step (Just g) M w M w1 ∧ PtRow 311 w1 M g n cap l1) (n) [(0, .slice (some ⟨g, 0, none⟩) n cap), (2, .int .i64 (0 : Nat)), (3, .int .i64 ((n : Int) - 1))] (.cons rfl (.cons rfl (.cons rfl (.nil _)))) ?_ ?_
  · skip
    exact ⟨0, (n : Int) - 1, l0, by omega, by omega, by omega, rvd_zero _, rfl, hT, hd⟩
  clear hT hd
  rintro mm l w1 ⟨i, z, l1, rfl, hi2, hz, hrv, rfl, hT, hd⟩
  have hl1 := hrv.1
  refine cw_seq fun _ hK2 => ?_
  refine cw_rs fun _ κ => ?_
  refine Sm rfl rfl ?_
  refine Sm rfl rfl ?_
  refine as_q rfl rfl (q_lt rfl rfl) ?_
  refine as_nil (κ _ _ ?_)
  refine cw_cond rfl (fun hc0 => ?_) (fun hc0 => ?_)
  · skip
    replace hc0 := of_decide_eq_true hc0
    obtain ⟨x, hx⟩ : ∃ x, l1[(i : Int).toNat]? = some x := ⟨l1[(i : Int).toNat]'(by omega), by simp⟩
    obtain ⟨y, hy⟩ : ∃ y, l1[z.toNat]? = some y := ⟨l1[z.toNat]'(by omega), by simp⟩
    refine cw_skip ?_
    refine hK2 _ _ ?_
    refine cw_seq fun _ hK4 => ?_
    refine cw_block ?_
    refine cw_drawn (by kernel_rfl) (by kernel_rfl) (by kernel_rfl) rfl rfl fun K5 hK5 => ?_
    have hs1 := Step.drew hT.sat
    replace hd := hd.then hs1
    replace hT := hT.then hs1
    refine Dm 0 1 rfl (by kernel_rfl) rfl ?_
    refine Dm 1 3 rfl (by kernel_rfl) rfl ?_
    refine Dm 2 7 rfl (by kernel_rfl) rfl ?_
    refine Dm 3 15 rfl (by kernel_rfl) rfl ?_
    refine Dm 4 31 rfl (by kernel_rfl) rfl ?_
    refine Dm 5 63 rfl (by kernel_rfl) rfl ?_
    refine Dq 6 127 rfl (by kernel_rfl) (fun _ => (q_indexAddr (e := 311) (size := 1) (by kernel_rfl) (by kernel_rfl) rfl rfl (by omega) (by omega))) ?_
    refine Dl1 7 255 rfl (by kernel_rfl) (by kernel_rfl) rfl (hd.cell (j := (z : Int).toNat * 1) (by rw [Nat.mul_one]; exact hy)) ?_
    refine Dm 8 511 rfl (by kernel_rfl) rfl ?_
    refine Dm 9 1023 rfl (by kernel_rfl) rfl ?_
    refine Dq 10 2047 rfl (by kernel_rfl) (fun _ => (q_indexAddr (e := 311) (size := 1) (by kernel_rfl) (by kernel_rfl) rfl rfl (by omega) (by omega))) ?_
    refine Dl1 11 4095 rfl (by kernel_rfl) (by kernel_rfl) rfl (hd.cell (j := (i : Int).toNat * 1) (by rw [Nat.mul_one]; exact hx)) ?_
    refine Dq 12 8191 rfl (by kernel_rfl) (fun _ => (q_indexAddr (e := 311) (size := 1) (by kernel_rfl) (by kernel_rfl) rfl rfl (by omega) (by omega))) ?_
    refine Dh0 13 16383 rfl (by kernel_rfl) (keep_sift (bs := [T,T]) (by kernel_rfl)) (h_storeP (i := (i : Int).toNat) (q := y) hs1.sat hd rfl rfl (by kernel_rfl) (by omega) fun w2 hs2 hd2 => ?_)
    replace hT := hT.also hs2
    clear hd; have hd := hd2; clear hd2
    refine ⟨trivial, ?_⟩
    refine Dq 14 32767 rfl (by kernel_rfl) (fun _ => (q_indexAddr (e := 311) (size := 1) (by kernel_rfl) (by kernel_rfl) rfl rfl (by omega) (by omega))) ?_
    refine Dh0 15 65535 rfl (by kernel_rfl) rfl (h_storeP (i := z.toNat) (q := x) hs2.sat hd rfl rfl (by kernel_rfl) (by omega) fun w3 hs3 hd3 => ?_)
    replace hT := hT.also hs3
    clear hd; have hd := hd3; clear hd3
    refine ⟨trivial, ?_⟩
    refine Dd (by kernel_rfl) (hK5 _ _ ?_)
    refine hK4 _ _ ?_
    refine cw_region fun _ κ => ?_
    refine Sm rfl rfl ?_
    refine as_q rfl rfl (q_addx rfl rfl (by omega) (by omega)) ?_
    refine Sm rfl rfl ?_
    refine as_q rfl rfl (q_subx rfl rfl (by omega) (by omega)) ?_
    refine Sa rfl rfl ?_
    refine Sa rfl rfl ?_
    refine as_nil (κ _ _ ?_)
    refine ⟨_, _, ?_, (.cons rfl (.cons rfl (.cons rfl (.nil _)))), i + 1, z - 1, _, rfl, by omega, by omega, ?_, rfl, hT, hd⟩
    · omega
    · exact rvd_step hrv (by omega) (by omega) hx hy
  · skip
    replace hc0 := of_decide_eq_false hc0
    refine cw_exit ?_
    rw [← rvd_done hrv (by omega) (by omega)]
    exact ⟨_, res_nil, hT, hd⟩
theorem rvh_nil {w : World} {M : Mem} (hs : Sat M w) :
    Does Tryz.prog 242 #[.slice none 0 0] w (fun _ w' => Step Nope M w M w') := by
  have hT := Step.refl Nope hs
  refine fn_enter Tryz.func242 rfl (rs := []) rfl rfl rfl rfl ?_
  refine cw_rs fun _ κ => ?_
  refine Sm rfl rfl ?_
  refine as_q rfl rfl (q_len (by kernel_rfl) rfl _) ?_
  refine as_q rfl rfl (q_congr (q_subx rfl rfl (by omega) (by omega)) (v' := .int .i64 (-1)) rfl) ?_
  refine Sa rfl rfl ?_
  refine Sa rfl rfl ?_
  refine as_nil (κ _ _ ?_)
  refine cw_block ?_
  refine cw_loop (fun mm l w1 => l = [(0, .slice none 0 0), (2, .int .i64 0), (3, .int .i64 (-1))] ∧ Step Nope M w M w1) (0) [(0, .slice none 0 0), (2, .int .i64 0), (3, .int .i64 (-1))] (.cons rfl (.cons rfl (.cons rfl (.nil _)))) ?_ ?_
  · skip
    exact ⟨rfl, hT⟩
  clear hT
  rintro mm l w1 ⟨rfl, hT⟩
  refine cw_seq fun _ hK2 => ?_
  refine cw_rs fun _ κ => ?_
  refine Sm rfl rfl ?_
  refine Sm rfl rfl ?_
  refine as_q rfl rfl (q_ltF rfl rfl (by omega)) ?_
  refine as_nil (κ _ _ ?_)
  refine cw_false rfl ?_
  refine cw_exit ?_
  exact ⟨_, res_nil, hT⟩
theorem rvh {w : World} {M : Mem} {n : Nat} {v : Value} {l : List (Option Addr)} (hs : Sat M w) (hb : Buf w M 311 1 v n (ptrs l)) (hn : n ≤ 1000000000) :
    Does Tryz.prog 242 #[v] w (fun _ w' => Step (fun k => v.ownBlock = some k) M w M w' ∧ Buf w' M 311 1 v n (ptrs l.reverse)) := by
  have hll : l.length = n := by have := hb.1.1; rw [ptrs_length] at this; omega
  obtain ⟨⟨_, h2⟩, _⟩ := id hb
  rcases h2 with ⟨rfl, rfl⟩ | ⟨g, cap, cur, rfl, _⟩
  · obtain rfl := List.eq_nil_of_length_eq_zero hll
    exact (rvh_nil hs).mono fun _ w' h => ⟨h.any _, hb.then h⟩
  · exact (rvh_some hs hb hn).mono fun _ w' ⟨h1, h2⟩ => ⟨h1.wide fun k _ h => by cases h; rfl, h2⟩
theorem dlh {w : World} {M : Mem} {g n cap i : Nat} {l0 : List (Option Addr)} (hs : Sat M w) (hb : PtRow 311 w M g n cap l0) (hi : i < n) (hn : n ≤ 1000000000) :
    Does Tryz.prog 244 #[.slice (some ⟨g, 0, none⟩) n cap, .int .i64 (i : Nat), .int .i64 ((i : Nat) + 1)] w (fun v w' => v = .slice (some ⟨g, 0, none⟩) (n - 1) cap ∧ Step (Just g) M w M w' ∧ PtRow 311 w' M g (n - 1) cap (l0.eraseIdx i)) := by
  have hT := Step.refl (Just g) hs
  have hl0 := hb.len
  have hcap : n ≤ cap := by obtain ⟨_, _, h, h2, _⟩ := hb.slice; cases h; exact h2
  refine fn_enter Tryz.func244 rfl (rs := [.tmp 6]) rfl rfl rfl rfl ?_
  refine cw_rs fun _ κ => ?_
  refine Sa rfl rfl ?_
  refine as_nil (κ _ _ ?_)
  refine cw_rs fun _ κ => ?_
  refine Sm rfl rfl ?_
  refine Sm rfl rfl ?_
  refine Sm rfl rfl ?_
  refine Sm rfl rfl ?_
  refine as_q rfl rfl (q_len (by kernel_rfl) rfl _) ?_
  refine as_q rfl rfl (q_slice3 (e := 311) (size := 1) (by kernel_rfl) (by kernel_rfl) rfl rfl rfl rfl (by omega) (by omega) (by omega) (by omega)) ?_
  refine as_nil (κ _ _ ?_)
  refine cw_seq fun _ hK3 => ?_
  refine cw_rs fun _ κ => ?_
  refine Sm rfl rfl ?_
  refine Sm rfl rfl ?_
  refine as_q rfl rfl (q_eqF rfl rfl (by omega)) ?_
  refine as_nil (κ _ _ ?_)
  refine cw_false rfl ?_
  refine cw_skip ?_
  refine hK3 _ _ ?_
  refine cw_rs fun _ κ => ?_
  refine Sm rfl rfl ?_
  refine as_q rfl rfl (q_len (by kernel_rfl) rfl _) ?_
  refine Sa rfl rfl ?_
  refine as_nil (κ _ _ ?_)
  refine cw_dr (by kernel_rfl) fun _ κ => ?_
  have hs1 := Step.drew hs
  replace hb := hb.then hs1
  replace hT := hT.then hs1
  refine Dm 0 1 rfl (by kernel_rfl) rfl ?_
  refine Dm 1 3 rfl (by kernel_rfl) rfl ?_
  refine Dq 2 7 rfl (by kernel_rfl) (fun _ => (q_congr (q_slice (e := 311) (size := 1) (k := .i64) (by kernel_rfl) (by kernel_rfl) rfl rfl rfl (by omega) (by omega) (by omega)) (v' := .slice (some ⟨g, 0, none⟩) i cap) (front_val2 (by omega)))) ?_
  refine Dm 3 15 rfl (by kernel_rfl) rfl ?_
  refine Dm 4 31 rfl (by kernel_rfl) rfl ?_
  refine Dq 5 63 rfl (by kernel_rfl) (fun _ => (q_congr (q_slice (e := 311) (size := 1) (k' := .i64) (by kernel_rfl) (by kernel_rfl) rfl rfl rfl (by omega) (by omega) (by omega)) (v' := .slice (if cap = i + 1 then some ⟨g, 0, none⟩ else some ⟨g, i + 1, none⟩) (n - (i + 1)) (cap - (i + 1))) (tail_val (by omega) (by omega)))) ?_
  have hrd : Rd w.drew 1 (.slice (if cap = i + 1 then some ⟨g, 0, none⟩ else some ⟨g, i + 1, none⟩) (n - (i + 1)) (cap - (i + 1))) (n - (i + 1)) ((ptrs l0).drop (i + 1)) := by
    have h := hb.rd.sub ((i + 1 : Nat) : Int) (n : Int) (by omega) (by omega) (by omega)
    exact h.cast (tail_val (by omega) (by omega)) (by omega) (by rw [show (((i + 1 : Nat) : Int)).toNat * 1 = i + 1 by omega]; exact List.take_of_length_le (by simp [ptrs]; omega))
  refine Dh 6 127 rfl (by kernel_rfl) rfl (h_appendIn (g := g) (N := n) (cap := cap) (i := i) (m := n - (i + 1)) (cs := ptrs l0) (e := 311) (bytes := 8) (by kernel_rfl) hs1.sat hb hrd rfl rfl (fun x hx => ptrs_one _ x (List.mem_of_mem_drop hx)) (by omega) fun w2 hs2 hb2 => ?_)
  replace hT := hT.also hs2
  clear hb; have hb := hb2; clear hb2
  refine ⟨trivial, ?_⟩
  refine Da 7 255 rfl (by kernel_rfl) rfl ?_
  refine Dd (by kernel_rfl) (κ _ _ ?_)
  refine cw_rs fun _ κ => ?_
  refine Sm rfl rfl ?_
  refine Sm rfl rfl ?_
  refine as_q rfl rfl (q_len (by kernel_rfl) rfl _) ?_
  refine Sm rfl rfl ?_
  refine as_q rfl rfl (q_congr (q_slice (e := 311) (size := 1) (k := .i64) (k' := .i64) (by kernel_rfl) (by kernel_rfl) rfl rfl rfl (by omega) (by omega) (by omega)) (v' := .slice (some ⟨g, n - 1, none⟩) 1 (cap - (n - 1))) (mid_val (by omega) (by omega) (by omega))) ?_
  refine as_h0 (h_clearP (e := 311) (by kernel_rfl) (by kernel_rfl) hs2.sat hb rfl (by omega) fun w3 hs3 hb3 => ?_)
  replace hT := hT.also hs3
  clear hb; have hb := hb3; clear hb3
  refine as_nil (κ _ _ ?_)
  refine cw_rs fun _ κ => ?_
  refine Sm rfl rfl ?_
  refine Sa rfl rfl ?_
  refine as_nil (κ _ _ ?_)
  refine cw_ret ?_
  have hfin : Buf w3 M 311 1 (.slice (some ⟨g, 0, none⟩) (n - 1) cap) (n - 1) (ptrs (l0.eraseIdx i)) := by
    have h := hb.front1 (j := n - 1) (by omega)
    rw [List.take_append_of_le_length (by simp [ptrs]; omega), List.take_append_of_le_length (by simp [ptrs]; omega), List.take_take, Nat.min_self, ptrs_out (by omega) (by omega)] at h
    exact h
  exact ⟨_, (res_tmp rfl res_nil), by rw [show i + (n - (i + 1)) = n - 1 by omega]; rfl, hT, hfin⟩
end Go.Proofs.YtgcgjpfjjgalmaaGreat
/- Heaps without their least element, part 1. -/
namespace Go.Proofs.YtgcgjpfjjgalmaaGreat
open Go Go.Eng
theorem sizes_out {α : Type} {l : List (RT α)} {i : Nat} {k : RT α} (h : l[i]? = some k) : RT.sizes l = k.size + RT.sizes (l.eraseIdx i) := by
  have h1 := (alls_out h).length_eq
  have h2 := k.size_eq
  rw [RT.alls_length] at h1
  simp only [List.length_cons, List.length_append, RT.alls_length] at h1
  omega
theorem sizes_rev {α : Type} (l : List (RT α)) : RT.sizes l.reverse = RT.sizes l := by
  have h1 := (alls_rev l).length_eq
  rwa [RT.alls_length, RT.alls_length] at h1
theorem te_beside {w : World} {M : Mem} {x : El} {bs : List El} {ks : List (RT El)} {q : Option Addr} (hs : Sat M w) (h : TRep 220 2 EncE M (.node x bs ks) q) (hz : bs.length ≤ 1000000000) :
    Does Tryz.prog 193 #[.pointer q] w (fun v w' => ∃ sa sc M' cs, v = .slice sa bs.length sc ∧ Step Nope M w M' w' ∧ Buf w' M' 24 2 (.slice sa bs.length sc) bs.length cs ∧ EncL EncE 2 M' bs cs ∧ ∀ g, (Value.slice sa bs.length sc).ownBlock = some g → w.heap.size ≤ g) := by
  have hT := Step.refl Nope hs
  obtain ⟨b, xc, bv, bcs, kv, ka, rfl, hb, hx, hxl, hbs, hbl, hks, hkl⟩ := trep_node.1 h
  obtain rfl := (show xc = elc _ from hx)
  obtain ⟨ba, bk, rfl, _, _⟩ := hbs.slice
  obtain ⟨kp, kk, rfl, _, _⟩ := hks.slice
  refine fn_enter Tryz.func193 rfl (rs := [.tmp 2]) rfl rfl rfl rfl ?_
  refine cw_rs fun _ κ => ?_
  refine Sa rfl rfl ?_
  refine as_nil (κ _ _ ?_)
  refine cw_seq fun _ hK2 => ?_
  refine cw_rs fun _ κ => ?_
  refine Sm rfl rfl ?_
  refine as_q rfl rfl (q_eqnil (by kernel_rfl) rfl) ?_
  refine as_nil (κ _ _ ?_)
  refine cw_false rfl ?_
  refine cw_skip ?_
  refine hK2 _ _ ?_
  refine cw_rs fun _ κ => ?_
  refine Sm rfl rfl ?_
  refine as_q rfl rfl (q_nilp rfl) ?_
  refine Sf 3 rfl (by kernel_rfl) rfl ?_
  refine S1 rfl (by kernel_rfl) rfl (by exact BlkR.cell (hs _ _ _ hb) rfl) ?_
  refine as_h rfl (h_call (by kernel_rfl) rfl ?_)
  refine (clxe hs (hbs.rds _) (by obtain rfl := encE_list.1 hbl; exact els_one _) hz).mono ?_
  rintro kv w1 ⟨hs1, hkb, hkf⟩
  replace hT := hT.then hs1
  have hz1 := hs1.size
  obtain ⟨ksa, ksc, rfl, _, _⟩ := hkb.slice
  refine Sa rfl rfl ?_
  refine as_nil (κ _ _ ?_)
  refine cw_ret ?_
  exact ⟨_, (res_tmp rfl res_nil), _, _, _, _, rfl, hT, hkb, hbl.mono EncE.mono hT.le, hkf⟩
theorem th_beside {w : World} {M : Mem} {x : Bt} {bs : List Bt} {ks : List (RT Bt)} {q : Option Addr} (hs : Sat M w) (h : TRep 332 1 EncB M (.node x bs ks) q) (hz : bs.length ≤ 1000000000) :
    Does Tryz.prog 247 #[.pointer q] w (fun v w' => ∃ sa sc M' cs, v = .slice sa bs.length sc ∧ Step Nope M w M' w' ∧ Buf w' M' 93 1 (.slice sa bs.length sc) bs.length cs ∧ EncL EncB 1 M' bs cs ∧ ∀ g, (Value.slice sa bs.length sc).ownBlock = some g → w.heap.size ≤ g) := by
  have hT := Step.refl Nope hs
  obtain ⟨b, xc, bv, bcs, kv, ka, rfl, hb, hx, hxl, hbs, hbl, hks, hkl⟩ := trep_node.1 h
  obtain ⟨qx, rfl, _⟩ := encB_iff.1 hx
  obtain ⟨ba, bk, rfl, _, _⟩ := hbs.slice
  obtain ⟨kp, kk, rfl, _, _⟩ := hks.slice
  refine fn_enter Tryz.func247 rfl (rs := [.tmp 2]) rfl rfl rfl rfl ?_
  refine cw_rs fun _ κ => ?_
  refine Sa rfl rfl ?_
  refine as_nil (κ _ _ ?_)
  refine cw_seq fun _ hK2 => ?_
  refine cw_rs fun _ κ => ?_
  refine Sm rfl rfl ?_
  refine as_q rfl rfl (q_eqnil (by kernel_rfl) rfl) ?_
  refine as_nil (κ _ _ ?_)
  refine cw_false rfl ?_
  refine cw_skip ?_
  refine hK2 _ _ ?_
  refine cw_rs fun _ κ => ?_
  refine Sm rfl rfl ?_
  refine as_q rfl rfl (q_nilp rfl) ?_
  refine Sf 2 rfl (by kernel_rfl) rfl ?_
  refine S1 rfl (by kernel_rfl) rfl (by exact BlkR.cell (hs _ _ _ hb) rfl) ?_
  refine as_h rfl (h_call (by kernel_rfl) rfl ?_)
  refine (clxh hs (hbs.rds _) (encB_one hbl) hz).mono ?_
  rintro kv w1 ⟨hs1, hkb, hkf⟩
  replace hT := hT.then hs1
  have hz1 := hs1.size
  obtain ⟨ksa, ksc, rfl, _, _⟩ := hkb.slice
  refine Sa rfl rfl ?_
  refine as_nil (κ _ _ ?_)
  refine cw_ret ?_
  exact ⟨_, (res_tmp rfl res_nil), _, _, _, _, rfl, hT, hkb, hbl.mono EncB.mono hT.le, hkf⟩
theorem b_pop {w : World} {M : Mem} {ts : List (RT El)} {x : El} {bs : List El} {ks : List (RT El)} {q : Option Addr} (hs : Sat M w) (h : FRep 197 220 2 EncE M ts q) (ht : ts[leastN ltE (ts.map RT.root) (ts.length - 1)]? = some (.node x bs ks)) (hz : RT.sizes ts ≤ 1000000000) :
    Does Tryz.prog 114 #[.agg #[.pointer q], .pointer none] w (fun v w' => ∃ q M', v = .tuple #[.agg #[.pointer q], .bool true] ∧ Step Nope M w M' w' ∧ FRep 197 220 2 EncE M' (bpop ltE ts (.node x bs ks)) q) := by
  have hT := Step.refl Nope hs
  obtain ⟨l, hc, hk, hll, hlz⟩ := h.len
  obtain ⟨kq, hkq, hkr⟩ := hk.get ht
  have hpos : 0 < ts.length := Nat.lt_of_le_of_lt (Nat.zero_le _) (List.getElem?_eq_some_iff.1 ht).1
  have hbl := leastN_le ltE (ts.map RT.root) (ts.length - 1)
  have hszo := sizes_out ht
  have hksl := RT.sizes_length ks
  simp only [RT.size] at hszo
  refine fn_enter Tryz.func114 rfl (rs := [.cell 4 74, .tmp 5]) rfl rfl rfl rfl ?_
  refine cw_rs fun _ κ => ?_
  refine as_h rfl (h_boxM hs rfl rfl fun b1 M1 w1 hs1 hb1 e1 => ?_)
  replace hk := hk.mono' EncE.mono hs1.le
  replace hkr := hkr.mono' EncE.mono hs1.le
  replace hc := hc.mono hs1.le
  replace hT := hT.then hs1
  have hz1 := hs1.size
  have hqar := hT.size
  refine as_h rfl (h_allocO (z := (.agg #[(.pointer none)])) hs1.sat (by kernel_rfl) rfl fun br w2 hs2 hor er => ?_)
  replace hk := hk.mono' EncE.mono hs2.le
  replace hkr := hkr.mono' EncE.mono hs2.le
  replace hc := hc.mono hs2.le
  replace hb1 := hs2.le _ _ hb1
  replace hT := hT.then hs2
  have hz2 := hs2.size
  have hlr := hor.1.lt
  refine Sa rfl rfl ?_
  refine as_nil (κ _ _ ?_)
  refine cw_rs fun _ κ => ?_
  refine Sf 0 rfl (by kernel_rfl) rfl ?_
  refine Sc 1 rfl (by kernel_rfl) rfl (by exact BlkR.cells (hs2.sat _ _ _ hb1) rfl) ?_
  refine as_h rfl (h_call (by kernel_rfl) rfl ?_)
  refine (ce_all hs2.sat hc (by omega)).mono ?_
  rintro av w3 ⟨Ma, hs3, hba, hfa⟩
  clear hc
  replace hk := hk.mono' EncE.mono hs3.le
  replace hkr := hkr.mono' EncE.mono hs3.le
  replace hor := hor.then hs3
  replace hT := hT.then hs3
  have hz3 := hs3.size
  rw [hll] at hba
  obtain ⟨ag, ac, rfl⟩ := hba.head0 hpos
  have hfa0 := hfa ag rfl
  replace hfa : w.heap.size ≤ ag := Nat.le_trans (by omega) hfa0
  refine Sa rfl rfl ?_
  refine as_nil (κ _ _ ?_)
  refine cw_seq fun _ hK3 => ?_
  refine cw_rs fun _ κ => ?_
  refine Sm rfl rfl ?_
  refine as_q rfl rfl (q_len (by kernel_rfl) rfl _) ?_
  refine as_q rfl rfl (q_eqF rfl rfl (by omega)) ?_
  refine as_nil (κ _ _ ?_)
  refine cw_false rfl ?_
  refine cw_skip ?_
  refine hK3 _ _ ?_
  refine cw_rs fun _ κ => ?_
  refine Sm rfl rfl ?_
  refine Sm rfl rfl ?_
  refine as_h rfl (h_call (by kernel_rfl) rfl ?_)
  refine (b_least hs3.sat hba.rds hk (by omega)).mono ?_
  rintro _ w4 ⟨rfl, hs4⟩
  replace hk := hk.mono' EncE.mono hs4.le
  replace hkr := hkr.mono' EncE.mono hs4.le
  replace hor := hor.then hs4
  replace hba := hba.then hs4
  replace hT := hT.then hs4
  have hz4 := hs4.size
  refine Sa rfl rfl ?_
  refine as_nil (κ _ _ ?_)
  refine cw_rs fun _ κ => ?_
  refine Sm rfl rfl ?_
  refine Sm rfl rfl ?_
  refine as_q rfl rfl (q_indexAddr (e := 195) (size := 1) (by kernel_rfl) (by kernel_rfl) rfl rfl (by omega) (by omega)) ?_
  refine S1 rfl (by kernel_rfl) rfl (Buf.cell hba (u := .pointer kq) (j := ((leastN ltE (ts.map RT.root) (ts.length - 1) : Nat) : Int).toNat * 1) (by rw [show ((leastN ltE (ts.map RT.root) (ts.length - 1) : Nat) : Int).toNat * 1 = leastN ltE (ts.map RT.root) (ts.length - 1) from by omega]; simp [ptrs, hkq])) ?_
  refine as_h rfl (h_call (by kernel_rfl) rfl ?_)
  have hblt := hba.lt ag rfl
  refine (te_kids hs4.sat hkr (by omega)).mono ?_
  rintro _ w5 ⟨ka_, kc_, Mk, kas, rfl, hs5, hkb, hkk, hkf⟩
  replace hk := hk.mono' EncE.mono hs5.le
  replace hor := hor.then hs5
  replace hba := hba.then hs5
  replace hT := hT.then hs5
  have hz5 := hs5.size
  refine Sa rfl rfl ?_
  refine as_nil (κ _ _ ?_)
  refine cw_rs fun _ κ => ?_
  refine Sm rfl rfl ?_
  refine as_h rfl (h_call (by kernel_rfl) rfl ?_)
  refine (rve hs5.sat hkb (by omega)).mono ?_
  rintro _ w6 ⟨hs6, hkb2⟩
  replace hk := hk.mono' EncE.mono hs6.le
  replace hor := hor.step hs6 (fun h => by have := hkf _ h; omega)
  replace hba := hba.step hs6 (fun g2 hg h => by have h2 : ag = g2 := Option.some.inj hg; have := hkf _ h; omega)
  replace hkk := hkk.mono' EncE.mono hs6.le
  clear hkb; have hkb := hkb2; clear hkb2
  replace hT := hT.trans hs6 (fun k hk h => by have := hkf k h; omega)
  have hz6 := hs6.size
  refine as_nil (κ _ _ ?_)
  refine cw_rs fun _ κ => ?_
  refine Sm rfl rfl ?_
  refine Sm rfl rfl ?_
  refine as_h rfl (h_call (by kernel_rfl) rfl ?_)
  refine (ce_ofn (l := kas.reverse) hs6.sat (by rw [List.length_reverse]; exact hkk.length) hkb.rds (by omega)).mono ?_
  rintro _ w7 ⟨qc0, Mc0, rfl, hs7, hco0⟩
  replace hk := hk.mono' EncE.mono hs7.le
  replace hor := hor.then hs7
  replace hba := hba.then hs7
  replace hkk := hkk.mono' EncE.mono hs7.le
  replace hT := hT.then hs7
  have hz7 := hs7.size
  refine Sm rfl rfl ?_
  refine Sm rfl rfl ?_
  refine Sm rfl rfl ?_
  refine as_q rfl rfl (q_addx rfl rfl (by omega) (by omega)) ?_
  refine as_h rfl (h_call (by kernel_rfl) rfl ?_)
  refine (dle (i := leastN ltE (ts.map RT.root) (ts.length - 1)) hs7.sat hba (by omega) (by omega)).mono ?_
  rintro _ w8 ⟨rfl, hs8, hba2⟩
  replace hk := hk.mono' EncE.mono hs8.le
  replace hor := hor.step hs8 (fun h => by have h : _ = ag := h; omega)
  replace hkk := hkk.mono' EncE.mono hs8.le
  replace hco0 := hco0.mono hs8.le
  clear hba; have hba : Buf _ _ _ 1 _ _ _ := hba2; clear hba2
  replace hT := hT.trans hs8 (fun k hk h => by have h : k = ag := h; omega)
  have hz8 := hs8.size
  refine as_h rfl (h_call (by kernel_rfl) rfl ?_)
  refine (ce_ofn (l := l.eraseIdx (leastN ltE (ts.map RT.root) (ts.length - 1))) hs8.sat (by rw [List.length_eraseIdx_of_lt (by omega)]; omega) hba.rds (by omega)).mono ?_
  rintro _ w9 ⟨qc1, Mc1, rfl, hs9, hco1⟩
  replace hk := hk.mono' EncE.mono hs9.le
  replace hor := hor.then hs9
  replace hkk := hkk.mono' EncE.mono hs9.le
  replace hco0 := hco0.mono hs9.le
  replace hT := hT.then hs9
  have hz9 := hs9.size
  refine as_h rfl (h_call (by kernel_rfl) rfl ?_)
  refine (b_meld_all _ _ _ ks.reverse (ts.eraseIdx (leastN ltE (ts.map RT.root) (ts.length - 1))) _ _ hs9.sat ⟨_, hco0, treps_rev hkk⟩ ⟨_, hco1, treps_out _ hk⟩ (Nat.lt_succ_self _) (by rw [sizes_rev]; omega)).mono ?_
  rintro _ w10 ⟨qm, Mm, rfl, hs10, hm⟩
  replace hor := hor.then hs10
  replace hT := hT.then hs10
  have hz10 := hs10.size
  refine as_q rfl rfl (q_build (zs := [(.pointer none)]) (places := [(0, 1)]) (cs := [_]) (by kernel_rfl) (by kernel_rfl) rfl rfl) ?_
  refine as_h0 (h_store hs10.sat hor rfl rfl rfl (by kernel_rfl) rfl rfl rfl fun w11 hs11 hn11 => ?_)
  replace hm := hm.mono' EncE.mono hs11.le
  clear hor; have hor := hn11; clear hn11
  replace hT := hT.own hs11 (by omega)
  have hz11 := hs11.size
  refine Sa rfl rfl ?_
  refine as_nil (κ _ _ ?_)
  refine cw_ret ?_
  exact ⟨_, (res_cell rfl (loadVar_n (n := 1) (by kernel_rfl) (by exact Blk.cells hor.1 rfl)) (res_tmp rfl res_nil)), _, _, rfl, hT, hm⟩
end Go.Proofs.YtgcgjpfjjgalmaaGreat
/- Heaps without their least element, part 2. -/
namespace Go.Proofs.YtgcgjpfjjgalmaaGreat
open Go Go.Eng
theorem se_pop {w : World} {M : Mem} {ts : List (RT El)} {x : El} {bs : List El} {ks : List (RT El)} {q : Option Addr} (hs : Sat M w) (h : FRep 197 220 2 EncE M ts q) (ht : ts[leastN ltE (ts.map RT.root) (ts.length - 1)]? = some (.node x bs ks)) (hz : RT.sizes ts ≤ 1000000000) :
    Does Tryz.prog 185 #[.agg #[.pointer q], .pointer none] w (fun v w' => ∃ q M', v = .tuple #[.agg #[.pointer q], .bool true] ∧ Step Nope M w M' w' ∧ FRep 197 220 2 EncE M' (spop ltE ts (.node x bs ks)) q) := by
  have hT := Step.refl Nope hs
  obtain ⟨l, hc, hk, hll, hlz⟩ := h.len
  obtain ⟨kq, hkq, hkr⟩ := hk.get ht
  have hpos : 0 < ts.length := Nat.lt_of_le_of_lt (Nat.zero_le _) (List.getElem?_eq_some_iff.1 ht).1
  have hbl := leastN_le ltE (ts.map RT.root) (ts.length - 1)
  have hszo := sizes_out ht
  have hksl := RT.sizes_length ks
  simp only [RT.size] at hszo
  refine fn_enter Tryz.func185 rfl (rs := [.cell 4 83, .tmp 5]) rfl rfl rfl rfl ?_
  refine cw_rs fun _ κ => ?_
  refine as_h rfl (h_boxM hs rfl rfl fun b1 M1 w1 hs1 hb1 e1 => ?_)
  replace hk := hk.mono' EncE.mono hs1.le
  replace hkr := hkr.mono' EncE.mono hs1.le
  replace hc := hc.mono hs1.le
  replace hT := hT.then hs1
  have hz1 := hs1.size
  have hqar := hT.size
  refine as_h rfl (h_allocO (z := (.agg #[(.pointer none)])) hs1.sat (by kernel_rfl) rfl fun br w2 hs2 hor er => ?_)
  replace hk := hk.mono' EncE.mono hs2.le
  replace hkr := hkr.mono' EncE.mono hs2.le
  replace hc := hc.mono hs2.le
  replace hb1 := hs2.le _ _ hb1
  replace hT := hT.then hs2
  have hz2 := hs2.size
  have hlr := hor.1.lt
  refine Sa rfl rfl ?_
  refine as_nil (κ _ _ ?_)
  refine cw_rs fun _ κ => ?_
  refine Sf 0 rfl (by kernel_rfl) rfl ?_
  refine Sc 1 rfl (by kernel_rfl) rfl (by exact BlkR.cells (hs2.sat _ _ _ hb1) rfl) ?_
  refine as_h rfl (h_call (by kernel_rfl) rfl ?_)
  refine (ce_all hs2.sat hc (by omega)).mono ?_
  rintro av w3 ⟨Ma, hs3, hba, hfa⟩
  clear hc
  replace hk := hk.mono' EncE.mono hs3.le
  replace hkr := hkr.mono' EncE.mono hs3.le
  replace hor := hor.then hs3
  replace hT := hT.then hs3
  have hz3 := hs3.size
  rw [hll] at hba
  obtain ⟨ag, ac, rfl⟩ := hba.head0 hpos
  have hfa0 := hfa ag rfl
  replace hfa : w.heap.size ≤ ag := Nat.le_trans (by omega) hfa0
  refine Sa rfl rfl ?_
  refine as_nil (κ _ _ ?_)
  refine cw_seq fun _ hK3 => ?_
  refine cw_rs fun _ κ => ?_
  refine Sm rfl rfl ?_
  refine as_q rfl rfl (q_len (by kernel_rfl) rfl _) ?_
  refine as_q rfl rfl (q_eqF rfl rfl (by omega)) ?_
  refine as_nil (κ _ _ ?_)
  refine cw_false rfl ?_
  refine cw_skip ?_
  refine hK3 _ _ ?_
  refine cw_rs fun _ κ => ?_
  refine Sm rfl rfl ?_
  refine Sm rfl rfl ?_
  refine as_h rfl (h_call (by kernel_rfl) rfl ?_)
  refine (se_least hs3.sat hba.rds hk (by omega)).mono ?_
  rintro _ w4 ⟨rfl, hs4⟩
  replace hk := hk.mono' EncE.mono hs4.le
  replace hkr := hkr.mono' EncE.mono hs4.le
  replace hor := hor.then hs4
  replace hba := hba.then hs4
  replace hT := hT.then hs4
  have hz4 := hs4.size
  refine Sa rfl rfl ?_
  refine as_nil (κ _ _ ?_)
  refine cw_rs fun _ κ => ?_
  refine Sm rfl rfl ?_
  refine Sm rfl rfl ?_
  refine as_q rfl rfl (q_indexAddr (e := 195) (size := 1) (by kernel_rfl) (by kernel_rfl) rfl rfl (by omega) (by omega)) ?_
  refine S1 rfl (by kernel_rfl) rfl (Buf.cell hba (u := .pointer kq) (j := ((leastN ltE (ts.map RT.root) (ts.length - 1) : Nat) : Int).toNat * 1) (by rw [show ((leastN ltE (ts.map RT.root) (ts.length - 1) : Nat) : Int).toNat * 1 = leastN ltE (ts.map RT.root) (ts.length - 1) from by omega]; simp [ptrs, hkq])) ?_
  refine Sa rfl rfl ?_
  refine as_nil (κ _ _ ?_)
  refine cw_rs fun _ κ => ?_
  refine Sm rfl rfl ?_
  refine as_h rfl (h_call (by kernel_rfl) rfl ?_)
  have hblt := hba.lt ag rfl
  refine (te_kids hs4.sat hkr (by omega)).mono ?_
  rintro _ w5 ⟨ka_, kc_, Mk, kas, rfl, hs5, hkb, hkk, hkf⟩
  replace hk := hk.mono' EncE.mono hs5.le
  replace hkr := hkr.mono' EncE.mono hs5.le
  replace hor := hor.then hs5
  replace hba := hba.then hs5
  replace hT := hT.then hs5
  have hz5 := hs5.size
  refine Sa rfl rfl ?_
  refine as_nil (κ _ _ ?_)
  refine cw_rs fun _ κ => ?_
  refine Sm rfl rfl ?_
  refine as_h rfl (h_call (by kernel_rfl) rfl ?_)
  refine (rve hs5.sat hkb (by omega)).mono ?_
  rintro _ w6 ⟨hs6, hkb2⟩
  replace hk := hk.mono' EncE.mono hs6.le
  replace hkr := hkr.mono' EncE.mono hs6.le
  replace hor := hor.step hs6 (fun h => by have := hkf _ h; omega)
  replace hba := hba.step hs6 (fun g2 hg h => by have h2 : ag = g2 := Option.some.inj hg; have := hkf _ h; omega)
  replace hkk := hkk.mono' EncE.mono hs6.le
  clear hkb; have hkb := hkb2; clear hkb2
  replace hT := hT.trans hs6 (fun k hk h => by have := hkf k h; omega)
  have hz6 := hs6.size
  refine as_nil (κ _ _ ?_)
  refine cw_rs fun _ κ => ?_
  refine Sm rfl rfl ?_
  refine Sm rfl rfl ?_
  refine Sm rfl rfl ?_
  refine Sm rfl rfl ?_
  refine as_q rfl rfl (q_addx rfl rfl (by omega) (by omega)) ?_
  refine as_h rfl (h_call (by kernel_rfl) rfl ?_)
  refine (dle (i := leastN ltE (ts.map RT.root) (ts.length - 1)) hs6.sat hba (by omega) (by omega)).mono ?_
  rintro _ w7 ⟨rfl, hs7, hba2⟩
  replace hk := hk.mono' EncE.mono hs7.le
  replace hkr := hkr.mono' EncE.mono hs7.le
  replace hor := hor.step hs7 (fun h => by have h : _ = ag := h; omega)
  replace hkb := hkb.step hs7 (fun g2 hg h => by have h : g2 = ag := h; have := hkf _ hg; omega)
  replace hkk := hkk.mono' EncE.mono hs7.le
  clear hba; have hba : Buf _ _ _ 1 _ _ _ := hba2; clear hba2
  replace hT := hT.trans hs7 (fun k hk h => by have h : k = ag := h; omega)
  have hz7 := hs7.size
  refine as_h rfl (h_call (by kernel_rfl) rfl ?_)
  have hel : (ts.eraseIdx (leastN ltE (ts.map RT.root) (ts.length - 1))).length = ts.length - 1 := List.length_eraseIdx_of_lt (by omega)
  refine (se_level (ts := ts.eraseIdx (leastN ltE (ts.map RT.root) (ts.length - 1))) hs7.sat ⟨some ⟨ag, 0, none⟩, ac, l.eraseIdx (leastN ltE (ts.map RT.root) (ts.length - 1)), by rw [hel], by rw [hel]; exact hba.rds, treps_out _ hk⟩ (by omega)).mono ?_
  rintro lvv w8 ⟨Ml, hs8, hlv⟩
  replace hkr := hkr.mono' EncE.mono hs8.le
  replace hor := hor.then hs8
  replace hkb := hkb.then hs8
  replace hkk := hkk.mono' EncE.mono hs8.le
  replace hT := hT.then hs8
  have hz8 := hs8.size
  refine Sa rfl rfl ?_
  refine as_nil (κ _ _ ?_)
  refine cw_rs fun _ κ => ?_
  refine Sm rfl rfl ?_
  refine Sm rfl rfl ?_
  refine Sm rfl rfl ?_
  refine as_h rfl (h_call (by kernel_rfl) rfl ?_)
  refine (se_rmeld (a := ks.reverse) hs8.sat ⟨ka_, kc_, kas.reverse, by rw [List.length_reverse], by rw [List.length_reverse]; exact hkb.rds, treps_rev hkk⟩ hlv (by rw [sizes_rev, slevel_size]; omega)).mono ?_
  rintro _ w9 ⟨Mm, hs9, ⟨ra, rc, rl, rfl, hrr, hrt⟩⟩
  have hmz := bmeld_size ltE ks.reverse (slevel ltE (ts.eraseIdx (leastN ltE (ts.map RT.root) (ts.length - 1))))
  rw [sizes_rev, slevel_size] at hmz
  have hmzl := RT.sizes_length (bmeld ltE ks.reverse (slevel ltE (ts.eraseIdx (leastN ltE (ts.map RT.root) (ts.length - 1)))))
  replace hkr := hkr.mono' EncE.mono hs9.le
  replace hor := hor.then hs9
  replace hT := hT.then hs9
  have hz9 := hs9.size
  refine as_h rfl (h_call (by kernel_rfl) rfl ?_)
  refine (ce_ofn (l := rl) hs9.sat hrt.length hrr (by omega)).mono ?_
  rintro _ w10 ⟨qc0, Mc0, rfl, hs10, hco0⟩
  replace hkr := hkr.mono' EncE.mono hs10.le
  replace hor := hor.then hs10
  replace hrt := hrt.mono' EncE.mono hs10.le
  replace hT := hT.then hs10
  have hz10 := hs10.size
  refine as_q rfl rfl (q_build (zs := [(.pointer none)]) (places := [(0, 1)]) (cs := [_]) (by kernel_rfl) (by kernel_rfl) rfl rfl) ?_
  have hqaout := hT.size
  refine as_h rfl (h_allocO (z := (.agg #[(.pointer none)])) hs10.sat (by kernel_rfl) rfl fun bout w11 hs11 hoout eout => ?_)
  replace hkr := hkr.mono' EncE.mono hs11.le
  replace hor := hor.then hs11
  replace hrt := hrt.mono' EncE.mono hs11.le
  replace hco0 := hco0.mono hs11.le
  replace hT := hT.then hs11
  have hz11 := hs11.size
  have hlout := hoout.1.lt
  refine as_h0 (h_store hs11.sat hoout rfl rfl rfl (by kernel_rfl) rfl rfl rfl fun w12 hs12 hn12 => ?_)
  replace hkr := hkr.mono' EncE.mono hs12.le
  replace hor := hor.step hs12 (fun h => by have h : _ = _ := h; omega)
  replace hrt := hrt.mono' EncE.mono hs12.le
  replace hco0 := hco0.mono hs12.le
  clear hoout; have hoout := hn12; clear hn12
  replace hT := hT.own hs12 (by omega)
  have hz12 := hs12.size
  refine as_nil (κ _ _ ?_)
  refine cw_seq fun _ hK11 => ?_
  refine cw_rs fun _ κ => ?_
  refine Sm rfl rfl ?_
  refine as_h rfl (h_call (by kernel_rfl) rfl ?_)
  have hrd0 : FRep 197 220 2 EncE Mc0 (bmeld ltE ks.reverse (slevel ltE (ts.eraseIdx (leastN ltE (ts.map RT.root) (ts.length - 1))))) qc0 := ⟨_, hco0, hrt⟩
  refine (te_beside hs12.sat hkr (by omega)).mono ?_
  rintro _ w13 ⟨sa, sc, Mb, bcs2, rfl, hs13, hbb, hbl, hbf⟩
  replace hor := hor.then hs13
  replace hoout := hoout.then hs13
  replace hrd0 := hrd0.mono' EncE.mono hs13.le
  replace hT := hT.then hs13
  have hz13 := hs13.size
  refine as_q rfl rfl (q_len (by kernel_rfl) rfl _) ?_
  refine Sm rfl rfl ?_
  refine as_nil (κ _ _ ?_)
  refine cw_block ?_
  refine cw_loop (fun mm l1 w1 => ∃ (i : Nat) (q : Option Addr) (M1 : Mem), mm = bs.length - i ∧ i ≤ bs.length ∧ l1 = [(1, .pointer none), (4, .pointer (some ⟨br, 0, none⟩)), (11, .pointer (some ⟨bout, 0, none⟩)), (46, .slice sa bs.length sc), (47, .int .i64 (bs.length : Nat)), (48, .int .i64 i)] ∧ Step Nope M w M1 w1 ∧ FRep 197 220 2 EncE M1 ((bs.take i).foldl (fun h x => sinsert ltE x h) (bmeld ltE ks.reverse (slevel ltE (ts.eraseIdx (leastN ltE (ts.map RT.root) (ts.length - 1)))))) q ∧ Buf w1 M1 24 2 (.slice sa bs.length sc) bs.length bcs2 ∧ EncL EncE 2 M1 bs bcs2 ∧ Own w1 M1 bout [.pointer q] 83 ∧ Own w1 M1 br [.pointer none] 83) (bs.length) [(1, .pointer none), (4, .pointer (some ⟨br, 0, none⟩)), (11, .pointer (some ⟨bout, 0, none⟩)), (46, .slice sa bs.length sc), (47, .int .i64 (bs.length : Nat)), (48, .int .i64 (0 : Nat))] (.cons rfl (.cons rfl (.cons rfl (.cons rfl (.cons rfl (.cons rfl (.nil _))))))) ?_ ?_
  · skip
    exact ⟨0, _, _, rfl, Nat.zero_le _, rfl, hT, hrd0, hbb, hbl, hoout, hor⟩
  have hbrw : w.heap.size ≤ br ∧ w.heap.size ≤ bout ∧ bout ≠ br ∧ br < w13.heap.size ∧ bout < w13.heap.size := by omega
  have hbf2 : ∀ g, (Value.slice sa bs.length sc).ownBlock = some g → g ≠ br ∧ g ≠ bout := fun g hg => by have := hbf g hg; omega
  clear hT hrd0 hbb hbl hoout hor
  rintro mm l1 w1 ⟨i, q, M1, rfl, hi, rfl, hT, hrd, hbb, hbl, hoout, hor⟩
  have hszi := sins_size (lt := ltE) (bs.take i) (bmeld ltE ks.reverse (slevel ltE (ts.eraseIdx (leastN ltE (ts.map RT.root) (ts.length - 1)))))
  rw [List.length_take] at hszi
  have hlo1 := hoout.1.lt
  have hlr1 := hor.1.lt
  refine cw_rs fun _ κ => ?_
  refine as_q rfl rfl (q_lt rfl rfl) ?_
  refine as_nil (κ _ _ ?_)
  refine cw_seq fun _ hK14 => ?_
  refine cw_cond rfl (fun hc1 => ?_) (fun hc1 => ?_)
  · skip
    have hlt : i < bs.length := by have := of_decide_eq_true hc1; omega
    obtain ⟨y, hy⟩ : ∃ y, bs[i]? = some y := ⟨bs[i], by simp⟩
    obtain ⟨yc, hyl, hyx, hyc⟩ := hbl.get hy
    obtain ⟨g, o, rfl⟩ := hbb.rd.there (by omega)
    obtain rfl : yc = elc y := hyx
    have hblt := hbb.lt
    refine cw_skip ?_
    refine hK14 _ _ ?_
    refine cw_seq fun _ hK15 => ?_
    refine cw_block ?_
    refine cw_rs fun _ κ => ?_
    refine as_q rfl rfl (q_indexAddr (e := 24) (size := 2) (by kernel_rfl) (by kernel_rfl) rfl rfl (by omega) (by omega)) ?_
    refine Sc 2 rfl (by kernel_rfl) rfl ⟨rfl, fun j u hj => by rw [Nat.add_assoc]; exact Buf.cell hbb (hyc j u hj)⟩ ?_
    have hqayy := hT.size
    refine as_h rfl (h_allocO (z := (.agg #[(.int .i64 0), (.int .i64 0)])) hT.sat (by kernel_rfl) rfl fun byy w14 hs14 hoyy eyy => ?_)
    replace hrd := hrd.mono' EncE.mono hs14.le
    replace hbb := hbb.then hs14
    replace hbl := hbl.mono EncE.mono hs14.le
    replace hoout := hoout.then hs14
    replace hor := hor.then hs14
    replace hT := hT.then hs14
    have hz14 := hs14.size
    have hlyy := hoyy.1.lt
    refine as_h0 (h_store hs14.sat hoyy rfl rfl rfl (by kernel_rfl) rfl rfl rfl fun w15 hs15 hn15 => ?_)
    replace hrd := hrd.mono' EncE.mono hs15.le
    replace hbb := hbb.step hs15 (fun g2 hg h => by have h : g2 = byy := h; have := hblt _ hg; omega)
    replace hbl := hbl.mono EncE.mono hs15.le
    replace hoout := hoout.step hs15 (fun h => by have h : _ = _ := h; omega)
    replace hor := hor.step hs15 (fun h => by have h : _ = _ := h; omega)
    clear hoyy; have hoyy := hn15; clear hn15
    replace hT := hT.own hs15 (by omega)
    have hz15 := hs15.size
    refine as_nil (κ _ _ ?_)
    refine cw_region fun _ κ => ?_
    refine Sc 1 rfl (by kernel_rfl) rfl (by exact Blk.cells hoout.1 rfl) ?_
    refine Sm rfl rfl ?_
    refine Sc 2 rfl (by kernel_rfl) rfl (by exact Blk.cells hoyy.1 rfl) ?_
    refine as_h rfl (h_call (by kernel_rfl) rfl ?_)
    refine (se_insert (x := y) hs15.sat hrd (by omega)).mono ?_
    rintro _ w16 ⟨qi, Mi, rfl, hs16, hin⟩
    replace hrd := hrd.mono' EncE.mono hs16.le
    replace hbb := hbb.then hs16
    replace hbl := hbl.mono EncE.mono hs16.le
    replace hoout := hoout.then hs16
    replace hor := hor.then hs16
    replace hT := hT.then hs16
    have hz16 := hs16.size
    refine as_h0 (h_store hs16.sat hoout rfl rfl rfl (by kernel_rfl) rfl rfl rfl fun w17 hs17 hn17 => ?_)
    replace hrd := hrd.mono' EncE.mono hs17.le
    replace hbb := hbb.step hs17 (fun g2 hg h => (hbf2 g2 hg).2 h)
    replace hbl := hbl.mono EncE.mono hs17.le
    replace hor := hor.step hs17 (fun h => by have h : br = bout := h; omega)
    replace hin := hin.mono' EncE.mono hs17.le
    clear hoout; have hoout := hn17; clear hn17
    replace hT := hT.own hs17 (by omega)
    have hz17 := hs17.size
    refine as_nil (κ _ _ ?_)
    refine hK15 _ _ ?_
    refine cw_region fun _ κ => ?_
    refine as_q rfl rfl (q_addx rfl rfl (by omega) (by omega)) ?_
    refine Sm rfl rfl ?_
    refine as_nil (κ _ _ ?_)
    refine ⟨_, _, ?_, (.cons rfl (.cons rfl (.cons rfl (.cons rfl (.cons rfl (.cons rfl (.nil _))))))), i + 1, _, _, rfl, by omega, rfl, hT, ?_, hbb, hbl, hoout, hor⟩
    · omega
    · rw [List.take_add_one, hy, List.foldl_append]; exact hin
  · skip
    have hge : i = bs.length := by have := of_decide_eq_false hc1; omega
    refine cw_exit ?_
    refine hK11 _ _ ?_
    refine cw_rs fun _ κ => ?_
    refine Sc 1 rfl (by kernel_rfl) rfl (by exact Blk.cells hoout.1 rfl) ?_
    refine as_h0 (h_store hT.sat hor rfl rfl rfl (by kernel_rfl) rfl rfl rfl fun w18 hs18 hn18 => ?_)
    replace hrd := hrd.mono' EncE.mono hs18.le
    clear hor; have hor := hn18; clear hn18
    replace hT := hT.own hs18 (by omega)
    have hz18 := hs18.size
    refine Sa rfl rfl ?_
    refine as_nil (κ _ _ ?_)
    refine cw_ret ?_
    subst hge
    rw [List.take_length] at hrd
    exact ⟨_, (res_cell rfl (loadVar_n (n := 1) (by kernel_rfl) (by exact Blk.cells hor.1 rfl)) (res_tmp rfl res_nil)), _, _, rfl, hT, hrd⟩
end Go.Proofs.YtgcgjpfjjgalmaaGreat
/- Heaps without their least element, part 3. -/
namespace Go.Proofs.YtgcgjpfjjgalmaaGreat
open Go Go.Eng
theorem sh_pop {w : World} {M : Mem} {ts : List (RT Bt)} {x : Bt} {bs : List Bt} {ks : List (RT Bt)} {q : Option Addr} (hs : Sat M w) (h : FRep 330 332 1 EncB M ts q) (ht : ts[leastN ltB (ts.map RT.root) (ts.length - 1)]? = some (.node x bs ks)) (hz : RT.sizes ts ≤ 1000000000) :
    Does Tryz.prog 226 #[.agg #[.pointer q], .pointer none] w (fun v w' => ∃ q M', v = .tuple #[.agg #[.pointer q], .bool true] ∧ Step Nope M w M' w' ∧ FRep 330 332 1 EncB M' (spop ltB ts (.node x bs ks)) q) := by
  have hT := Step.refl Nope hs
  obtain ⟨l, hc, hk, hll, hlz⟩ := h.len
  obtain ⟨kq, hkq, hkr⟩ := hk.get ht
  have hpos : 0 < ts.length := Nat.lt_of_le_of_lt (Nat.zero_le _) (List.getElem?_eq_some_iff.1 ht).1
  have hbl := leastN_le ltB (ts.map RT.root) (ts.length - 1)
  have hszo := sizes_out ht
  have hksl := RT.sizes_length ks
  simp only [RT.size] at hszo
  refine fn_enter Tryz.func226 rfl (rs := [.cell 4 294, .tmp 5]) rfl rfl rfl rfl ?_
  refine cw_rs fun _ κ => ?_
  refine as_h rfl (h_boxM hs rfl rfl fun b1 M1 w1 hs1 hb1 e1 => ?_)
  replace hk := hk.mono' EncB.mono hs1.le
  replace hkr := hkr.mono' EncB.mono hs1.le
  replace hc := hc.mono hs1.le
  replace hT := hT.then hs1
  have hz1 := hs1.size
  have hqar := hT.size
  refine as_h rfl (h_allocO (z := (.agg #[(.pointer none)])) hs1.sat (by kernel_rfl) rfl fun br w2 hs2 hor er => ?_)
  replace hk := hk.mono' EncB.mono hs2.le
  replace hkr := hkr.mono' EncB.mono hs2.le
  replace hc := hc.mono hs2.le
  replace hb1 := hs2.le _ _ hb1
  replace hT := hT.then hs2
  have hz2 := hs2.size
  have hlr := hor.1.lt
  refine Sa rfl rfl ?_
  refine as_nil (κ _ _ ?_)
  refine cw_rs fun _ κ => ?_
  refine Sf 0 rfl (by kernel_rfl) rfl ?_
  refine Sc 1 rfl (by kernel_rfl) rfl (by exact BlkR.cells (hs2.sat _ _ _ hb1) rfl) ?_
  refine as_h rfl (h_call (by kernel_rfl) rfl ?_)
  refine (ch_all hs2.sat hc (by omega)).mono ?_
  rintro av w3 ⟨Ma, hs3, hba, hfa⟩
  clear hc
  replace hk := hk.mono' EncB.mono hs3.le
  replace hkr := hkr.mono' EncB.mono hs3.le
  replace hor := hor.then hs3
  replace hT := hT.then hs3
  have hz3 := hs3.size
  rw [hll] at hba
  obtain ⟨ag, ac, rfl⟩ := hba.head0 hpos
  have hfa0 := hfa ag rfl
  replace hfa : w.heap.size ≤ ag := Nat.le_trans (by omega) hfa0
  refine Sa rfl rfl ?_
  refine as_nil (κ _ _ ?_)
  refine cw_seq fun _ hK3 => ?_
  refine cw_rs fun _ κ => ?_
  refine Sm rfl rfl ?_
  refine as_q rfl rfl (q_len (by kernel_rfl) rfl _) ?_
  refine as_q rfl rfl (q_eqF rfl rfl (by omega)) ?_
  refine as_nil (κ _ _ ?_)
  refine cw_false rfl ?_
  refine cw_skip ?_
  refine hK3 _ _ ?_
  refine cw_rs fun _ κ => ?_
  refine Sm rfl rfl ?_
  refine Sm rfl rfl ?_
  refine as_h rfl (h_call (by kernel_rfl) rfl ?_)
  refine (sh_least hs3.sat hba.rds hk (by omega)).mono ?_
  rintro _ w4 ⟨rfl, hs4⟩
  replace hk := hk.mono' EncB.mono hs4.le
  replace hkr := hkr.mono' EncB.mono hs4.le
  replace hor := hor.then hs4
  replace hba := hba.then hs4
  replace hT := hT.then hs4
  have hz4 := hs4.size
  refine Sa rfl rfl ?_
  refine as_nil (κ _ _ ?_)
  refine cw_rs fun _ κ => ?_
  refine Sm rfl rfl ?_
  refine Sm rfl rfl ?_
  refine as_q rfl rfl (q_indexAddr (e := 311) (size := 1) (by kernel_rfl) (by kernel_rfl) rfl rfl (by omega) (by omega)) ?_
  refine S1 rfl (by kernel_rfl) rfl (Buf.cell hba (u := .pointer kq) (j := ((leastN ltB (ts.map RT.root) (ts.length - 1) : Nat) : Int).toNat * 1) (by rw [show ((leastN ltB (ts.map RT.root) (ts.length - 1) : Nat) : Int).toNat * 1 = leastN ltB (ts.map RT.root) (ts.length - 1) from by omega]; simp [ptrs, hkq])) ?_
  refine Sa rfl rfl ?_
  refine as_nil (κ _ _ ?_)
  refine cw_rs fun _ κ => ?_
  refine Sm rfl rfl ?_
  refine as_h rfl (h_call (by kernel_rfl) rfl ?_)
  have hblt := hba.lt ag rfl
  refine (th_kids hs4.sat hkr (by omega)).mono ?_
  rintro _ w5 ⟨ka_, kc_, Mk, kas, rfl, hs5, hkb, hkk, hkf⟩
  replace hk := hk.mono' EncB.mono hs5.le
  replace hkr := hkr.mono' EncB.mono hs5.le
  replace hor := hor.then hs5
  replace hba := hba.then hs5
  replace hT := hT.then hs5
  have hz5 := hs5.size
  refine Sa rfl rfl ?_
  refine as_nil (κ _ _ ?_)
  refine cw_rs fun _ κ => ?_
  refine Sm rfl rfl ?_
  refine as_h rfl (h_call (by kernel_rfl) rfl ?_)
  refine (rvh hs5.sat hkb (by omega)).mono ?_
  rintro _ w6 ⟨hs6, hkb2⟩
  replace hk := hk.mono' EncB.mono hs6.le
  replace hkr := hkr.mono' EncB.mono hs6.le
  replace hor := hor.step hs6 (fun h => by have := hkf _ h; omega)
  replace hba := hba.step hs6 (fun g2 hg h => by have h2 : ag = g2 := Option.some.inj hg; have := hkf _ h; omega)
  replace hkk := hkk.mono' EncB.mono hs6.le
  clear hkb; have hkb := hkb2; clear hkb2
  replace hT := hT.trans hs6 (fun k hk h => by have := hkf k h; omega)
  have hz6 := hs6.size
  refine as_nil (κ _ _ ?_)
  refine cw_rs fun _ κ => ?_
  refine Sm rfl rfl ?_
  refine Sm rfl rfl ?_
  refine Sm rfl rfl ?_
  refine Sm rfl rfl ?_
  refine as_q rfl rfl (q_addx rfl rfl (by omega) (by omega)) ?_
  refine as_h rfl (h_call (by kernel_rfl) rfl ?_)
  refine (dlh (i := leastN ltB (ts.map RT.root) (ts.length - 1)) hs6.sat hba (by omega) (by omega)).mono ?_
  rintro _ w7 ⟨rfl, hs7, hba2⟩
  replace hk := hk.mono' EncB.mono hs7.le
  replace hkr := hkr.mono' EncB.mono hs7.le
  replace hor := hor.step hs7 (fun h => by have h : _ = ag := h; omega)
  replace hkb := hkb.step hs7 (fun g2 hg h => by have h : g2 = ag := h; have := hkf _ hg; omega)
  replace hkk := hkk.mono' EncB.mono hs7.le
  clear hba; have hba : Buf _ _ _ 1 _ _ _ := hba2; clear hba2
  replace hT := hT.trans hs7 (fun k hk h => by have h : k = ag := h; omega)
  have hz7 := hs7.size
  refine as_h rfl (h_call (by kernel_rfl) rfl ?_)
  have hel : (ts.eraseIdx (leastN ltB (ts.map RT.root) (ts.length - 1))).length = ts.length - 1 := List.length_eraseIdx_of_lt (by omega)
  refine (sh_level (ts := ts.eraseIdx (leastN ltB (ts.map RT.root) (ts.length - 1))) hs7.sat ⟨some ⟨ag, 0, none⟩, ac, l.eraseIdx (leastN ltB (ts.map RT.root) (ts.length - 1)), by rw [hel], by rw [hel]; exact hba.rds, treps_out _ hk⟩ (by omega)).mono ?_
  rintro lvv w8 ⟨Ml, hs8, hlv⟩
  replace hkr := hkr.mono' EncB.mono hs8.le
  replace hor := hor.then hs8
  replace hkb := hkb.then hs8
  replace hkk := hkk.mono' EncB.mono hs8.le
  replace hT := hT.then hs8
  have hz8 := hs8.size
  refine Sa rfl rfl ?_
  refine as_nil (κ _ _ ?_)
  refine cw_rs fun _ κ => ?_
  refine Sm rfl rfl ?_
  refine Sm rfl rfl ?_
  refine Sm rfl rfl ?_
  refine as_h rfl (h_call (by kernel_rfl) rfl ?_)
  refine (sh_rmeld (a := ks.reverse) hs8.sat ⟨ka_, kc_, kas.reverse, by rw [List.length_reverse], by rw [List.length_reverse]; exact hkb.rds, treps_rev hkk⟩ hlv (by rw [sizes_rev, slevel_size]; omega)).mono ?_
  rintro _ w9 ⟨Mm, hs9, ⟨ra, rc, rl, rfl, hrr, hrt⟩⟩
  have hmz := bmeld_size ltB ks.reverse (slevel ltB (ts.eraseIdx (leastN ltB (ts.map RT.root) (ts.length - 1))))
  rw [sizes_rev, slevel_size] at hmz
  have hmzl := RT.sizes_length (bmeld ltB ks.reverse (slevel ltB (ts.eraseIdx (leastN ltB (ts.map RT.root) (ts.length - 1)))))
  replace hkr := hkr.mono' EncB.mono hs9.le
  replace hor := hor.then hs9
  replace hT := hT.then hs9
  have hz9 := hs9.size
  refine as_h rfl (h_call (by kernel_rfl) rfl ?_)
  refine (ch_ofn (l := rl) hs9.sat hrt.length hrr (by omega)).mono ?_
  rintro _ w10 ⟨qc0, Mc0, rfl, hs10, hco0⟩
  replace hkr := hkr.mono' EncB.mono hs10.le
  replace hor := hor.then hs10
  replace hrt := hrt.mono' EncB.mono hs10.le
  replace hT := hT.then hs10
  have hz10 := hs10.size
  refine as_q rfl rfl (q_build (zs := [(.pointer none)]) (places := [(0, 1)]) (cs := [_]) (by kernel_rfl) (by kernel_rfl) rfl rfl) ?_
  have hqaout := hT.size
  refine as_h rfl (h_allocO (z := (.agg #[(.pointer none)])) hs10.sat (by kernel_rfl) rfl fun bout w11 hs11 hoout eout => ?_)
  replace hkr := hkr.mono' EncB.mono hs11.le
  replace hor := hor.then hs11
  replace hrt := hrt.mono' EncB.mono hs11.le
  replace hco0 := hco0.mono hs11.le
  replace hT := hT.then hs11
  have hz11 := hs11.size
  have hlout := hoout.1.lt
  refine as_h0 (h_store hs11.sat hoout rfl rfl rfl (by kernel_rfl) rfl rfl rfl fun w12 hs12 hn12 => ?_)
  replace hkr := hkr.mono' EncB.mono hs12.le
  replace hor := hor.step hs12 (fun h => by have h : _ = _ := h; omega)
  replace hrt := hrt.mono' EncB.mono hs12.le
  replace hco0 := hco0.mono hs12.le
  clear hoout; have hoout := hn12; clear hn12
  replace hT := hT.own hs12 (by omega)
  have hz12 := hs12.size
  refine as_nil (κ _ _ ?_)
  refine cw_seq fun _ hK11 => ?_
  refine cw_rs fun _ κ => ?_
  refine Sm rfl rfl ?_
  refine as_h rfl (h_call (by kernel_rfl) rfl ?_)
  have hrd0 : FRep 330 332 1 EncB Mc0 (bmeld ltB ks.reverse (slevel ltB (ts.eraseIdx (leastN ltB (ts.map RT.root) (ts.length - 1))))) qc0 := ⟨_, hco0, hrt⟩
  refine (th_beside hs12.sat hkr (by omega)).mono ?_
  rintro _ w13 ⟨sa, sc, Mb, bcs2, rfl, hs13, hbb, hbl, hbf⟩
  replace hor := hor.then hs13
  replace hoout := hoout.then hs13
  replace hrd0 := hrd0.mono' EncB.mono hs13.le
  replace hT := hT.then hs13
  have hz13 := hs13.size
  refine as_q rfl rfl (q_len (by kernel_rfl) rfl _) ?_
  refine Sm rfl rfl ?_
  refine as_nil (κ _ _ ?_)
  refine cw_block ?_
  refine cw_loop (fun mm l1 w1 => ∃ (i : Nat) (q : Option Addr) (M1 : Mem), mm = bs.length - i ∧ i ≤ bs.length ∧ l1 = [(1, .pointer none), (4, .pointer (some ⟨br, 0, none⟩)), (11, .pointer (some ⟨bout, 0, none⟩)), (46, .slice sa bs.length sc), (47, .int .i64 (bs.length : Nat)), (48, .int .i64 i)] ∧ Step Nope M w M1 w1 ∧ FRep 330 332 1 EncB M1 ((bs.take i).foldl (fun h x => sinsert ltB x h) (bmeld ltB ks.reverse (slevel ltB (ts.eraseIdx (leastN ltB (ts.map RT.root) (ts.length - 1)))))) q ∧ Buf w1 M1 93 1 (.slice sa bs.length sc) bs.length bcs2 ∧ EncL EncB 1 M1 bs bcs2 ∧ Own w1 M1 bout [.pointer q] 294 ∧ Own w1 M1 br [.pointer none] 294) (bs.length) [(1, .pointer none), (4, .pointer (some ⟨br, 0, none⟩)), (11, .pointer (some ⟨bout, 0, none⟩)), (46, .slice sa bs.length sc), (47, .int .i64 (bs.length : Nat)), (48, .int .i64 (0 : Nat))] (.cons rfl (.cons rfl (.cons rfl (.cons rfl (.cons rfl (.cons rfl (.nil _))))))) ?_ ?_
  · skip
    exact ⟨0, _, _, rfl, Nat.zero_le _, rfl, hT, hrd0, hbb, hbl, hoout, hor⟩
  have hbrw : w.heap.size ≤ br ∧ w.heap.size ≤ bout ∧ bout ≠ br ∧ br < w13.heap.size ∧ bout < w13.heap.size := by omega
  have hbf2 : ∀ g, (Value.slice sa bs.length sc).ownBlock = some g → g ≠ br ∧ g ≠ bout := fun g hg => by have := hbf g hg; omega
  clear hT hrd0 hbb hbl hoout hor
  rintro mm l1 w1 ⟨i, q, M1, rfl, hi, rfl, hT, hrd, hbb, hbl, hoout, hor⟩
  have hszi := sins_size (lt := ltB) (bs.take i) (bmeld ltB ks.reverse (slevel ltB (ts.eraseIdx (leastN ltB (ts.map RT.root) (ts.length - 1)))))
  rw [List.length_take] at hszi
  have hlo1 := hoout.1.lt
  have hlr1 := hor.1.lt
  refine cw_rs fun _ κ => ?_
  refine as_q rfl rfl (q_lt rfl rfl) ?_
  refine as_nil (κ _ _ ?_)
  refine cw_seq fun _ hK14 => ?_
  refine cw_cond rfl (fun hc1 => ?_) (fun hc1 => ?_)
  · skip
    have hlt : i < bs.length := by have := of_decide_eq_true hc1; omega
    obtain ⟨y, hy⟩ : ∃ y, bs[i]? = some y := ⟨bs[i], by simp⟩
    obtain ⟨yc, hyl, hyx, hyc⟩ := hbl.get hy
    obtain ⟨g, o, rfl⟩ := hbb.rd.there (by omega)
    obtain ⟨qy, rfl, _⟩ := encB_iff.1 hyx
    have hblt := hbb.lt
    skip
    · skip
      refine cw_skip ?_
      refine hK14 _ _ ?_
      refine cw_seq fun _ hK15 => ?_
      refine cw_block ?_
      refine cw_rs fun _ κ => ?_
      refine as_q rfl rfl (q_indexAddr (e := 93) (size := 1) (by kernel_rfl) (by kernel_rfl) rfl rfl (by omega) (by omega)) ?_
      refine Sc 1 rfl (by kernel_rfl) rfl ⟨rfl, fun j u hj => by rw [Nat.add_assoc]; exact Buf.cell hbb (hyc j u hj)⟩ ?_
      have hqayy := hT.size
      refine as_h rfl (h_allocO (z := (.agg #[(.pointer none)])) hT.sat (by kernel_rfl) rfl fun byy w14 hs14 hoyy eyy => ?_)
      replace hrd := hrd.mono' EncB.mono hs14.le
      replace hbb := hbb.then hs14
      replace hbl := hbl.mono EncB.mono hs14.le
      replace hoout := hoout.then hs14
      replace hor := hor.then hs14
      replace hyx := EncB.mono _ _ _ _ hs14.le hyx
      replace hT := hT.then hs14
      have hz14 := hs14.size
      have hlyy := hoyy.1.lt
      refine as_h0 (h_store hs14.sat hoyy rfl rfl rfl (by kernel_rfl) rfl rfl rfl fun w15 hs15 hn15 => ?_)
      replace hrd := hrd.mono' EncB.mono hs15.le
      replace hbb := hbb.step hs15 (fun g2 hg h => by have h : g2 = byy := h; have := hblt _ hg; omega)
      replace hbl := hbl.mono EncB.mono hs15.le
      replace hoout := hoout.step hs15 (fun h => by have h : _ = _ := h; omega)
      replace hor := hor.step hs15 (fun h => by have h : _ = _ := h; omega)
      replace hyx := EncB.mono _ _ _ _ hs15.le hyx
      clear hoyy; have hoyy := hn15; clear hn15
      replace hT := hT.own hs15 (by omega)
      have hz15 := hs15.size
      refine as_nil (κ _ _ ?_)
      refine cw_region fun _ κ => ?_
      refine Sc 1 rfl (by kernel_rfl) rfl (by exact Blk.cells hoout.1 rfl) ?_
      refine Sm rfl rfl ?_
      refine Sc 1 rfl (by kernel_rfl) rfl (by exact Blk.cells hoyy.1 rfl) ?_
      refine as_h rfl (h_call (by kernel_rfl) rfl ?_)
      refine (sh_insert (x := y) hs15.sat hyx hrd (by omega)).mono ?_
      rintro _ w16 ⟨qi, Mi, rfl, hs16, hin⟩
      replace hrd := hrd.mono' EncB.mono hs16.le
      replace hbb := hbb.then hs16
      replace hbl := hbl.mono EncB.mono hs16.le
      replace hoout := hoout.then hs16
      replace hor := hor.then hs16
      replace hT := hT.then hs16
      have hz16 := hs16.size
      refine as_h0 (h_store hs16.sat hoout rfl rfl rfl (by kernel_rfl) rfl rfl rfl fun w17 hs17 hn17 => ?_)
      replace hrd := hrd.mono' EncB.mono hs17.le
      replace hbb := hbb.step hs17 (fun g2 hg h => (hbf2 g2 hg).2 h)
      replace hbl := hbl.mono EncB.mono hs17.le
      replace hor := hor.step hs17 (fun h => by have h : br = bout := h; omega)
      replace hin := hin.mono' EncB.mono hs17.le
      clear hoout; have hoout := hn17; clear hn17
      replace hT := hT.own hs17 (by omega)
      have hz17 := hs17.size
      refine as_nil (κ _ _ ?_)
      refine hK15 _ _ ?_
      refine cw_region fun _ κ => ?_
      refine as_q rfl rfl (q_addx rfl rfl (by omega) (by omega)) ?_
      refine Sm rfl rfl ?_
      refine as_nil (κ _ _ ?_)
      refine ⟨_, _, ?_, (.cons rfl (.cons rfl (.cons rfl (.cons rfl (.cons rfl (.cons rfl (.nil _))))))), i + 1, _, _, rfl, by omega, rfl, hT, ?_, hbb, hbl, hoout, hor⟩
      · omega
      · rw [List.take_add_one, hy, List.foldl_append]; exact hin
  · skip
    have hge : i = bs.length := by have := of_decide_eq_false hc1; omega
    refine cw_exit ?_
    refine hK11 _ _ ?_
    refine cw_rs fun _ κ => ?_
    refine Sc 1 rfl (by kernel_rfl) rfl (by exact Blk.cells hoout.1 rfl) ?_
    refine as_h0 (h_store hT.sat hor rfl rfl rfl (by kernel_rfl) rfl rfl rfl fun w18 hs18 hn18 => ?_)
    replace hrd := hrd.mono' EncB.mono hs18.le
    clear hor; have hor := hn18; clear hn18
    replace hT := hT.own hs18 (by omega)
    have hz18 := hs18.size
    refine Sa rfl rfl ?_
    refine as_nil (κ _ _ ?_)
    refine cw_ret ?_
    subst hge
    rw [List.take_length] at hrd
    exact ⟨_, (res_cell rfl (loadVar_n (n := 1) (by kernel_rfl) (by exact Blk.cells hor.1 rfl)) (res_tmp rfl res_nil)), _, _, rfl, hT, hrd⟩
end Go.Proofs.YtgcgjpfjjgalmaaGreat
/- All heaps behind a heap, part 2. -/
namespace Go.Proofs.YtgcgjpfjjgalmaaGreat
open Go Go.Eng
theorem front_val {a : Option Addr} {sc k : Nat} {z : Int} (h : z.toNat = k) : Value.slice (if sc = (0 : Int).toNat then a else a.map (·.add ((0 : Int).toNat * 1))) (z.toNat - (0 : Int).toNat) (sc - (0 : Int).toNat) = .slice a k sc := by
  subst h
  cases a <;> simp [Addr.add]
theorem bo_each1 {w : World} {M : Mem} {t : Bt} {bx0 : Nat} {q : Option Addr} (hb0 : M bx0 = some ([.pointer q], 93)) (hr : BRep 296 330 332 M t q) (hz : Bt.cnt 1 t ≤ 1000000000) :
    IterP Tryz.prog 249 [.pointer (some ⟨bx0, 0, none⟩)] (fun k => w.heap.size + 2 ≤ k) (Bt.cnt 0 t) (fun i _ => i < Bt.cnt 0 t) M w := by
  intro r J M0 W0 h0 hW habide hround hJ
  replace hb0 := h0.le _ _ hb0
  have hrp := encB_iff.2 ⟨q, rfl, hr.mono h0.le⟩
  refine fn_enter Tryz.func249 rfl (rs := []) rfl rfl rfl rfl ?_
  refine cw_rs fun _ κ => ?_
  refine Sc 1 rfl (by kernel_rfl) rfl (by exact BlkR.cells (h0.sat _ _ _ hb0) rfl) ?_
  refine as_h rfl (h_buildO (e := 93) (size := 1) (zs := [.pointer none]) (cs := [_]) (by kernel_rfl) (by kernel_rfl) (by kernel_rfl) rfl h0.sat rfl rfl fun bB w1 hs1 hoB eB => ?_)
  replace hb0 := hs1.le _ _ hb0
  replace hrp := EncB.mono _ _ _ _ hs1.le hrp
  have hz1 := hs1.size
  refine Sa rfl rfl ?_
  refine as_nil (κ _ _ ?_)
  refine cw_block ?_
  refine cw_loop (fun mm l1 w1 => ∃ (i : Nat) (st : List Bt) (sa : Option Addr) (sc : Nat) (M1 : Mem) (cs : List Value), mm = Bt.cntL 1 st ∧ i + Bt.cntL 0 st = Bt.cnt 0 t ∧ Bt.cntL 1 st ≤ 1000000000 ∧ l1 = [(0, .func (.yield r) #[] #[]), (1, .pointer (some ⟨bx0, 0, none⟩)), (3, .slice sa st.length sc)] ∧ Le M0 M1 ∧ Sat M1 w1 ∧ W0.heap.size ≤ w1.heap.size ∧ J i M1 w1 ∧ Buf w1 M1 93 1 (.slice sa st.length sc) st.length cs ∧ EncL EncB 1 M1 st cs ∧ ∀ g, (Value.slice sa st.length sc).ownBlock = some g → W0.heap.size ≤ g) (Bt.cnt 1 t) [(0, .func (.yield r) #[] #[]), (1, .pointer (some ⟨bx0, 0, none⟩)), (3, .slice (some ⟨bB, 0, none⟩) 1 1)] (.cons rfl (.cons rfl (.cons rfl (.nil _)))) ?_ ?_
  · skip
    refine ⟨0, [t], some ⟨bB, 0, none⟩, 1, M0, _, by simp [Bt.cntL], by simp [Bt.cntL], by simpa [Bt.cntL] using hz, rfl, Le.refl _, hs1.sat, hs1.size, habide _ _ _ _ _ hJ (hs1.any _), Own.buf hoB (n := 1) (size := 1) rfl (by decide), ⟨_, _, rfl, rfl, hrp, rfl⟩, fun g hg => ?_⟩
    have h2 : bB = g := Option.some.inj hg
    omega
  clear hJ hoB
  rintro mm l1 w1 ⟨i, st, sa, sc, M1, cs, rfl, hcn, hcz, rfl, hle, hst, hw01, hJ, hbu, hcl, hfr⟩
  have hstl := Bt.cntL_length st
  refine cw_seq fun _ hK2 => ?_
  have hcs : st = [] ∨ (∃ st1, st = st1 ++ [Bt.nil]) ∨ ∃ st1 x ts, st = st1 ++ [Bt.node x ts] := by
    rcases List.eq_nil_or_concat st with h | ⟨s1, b, h⟩
    · exact .inl h
    · cases b with
      | nil => exact .inr (.inl ⟨s1, by simpa using h⟩)
      | node x ts => exact .inr (.inr ⟨s1, x, ts, by simpa using h⟩)
  rcases hcs with rfl | ⟨st1, rfl⟩ | ⟨st1, x, ts, rfl⟩
  · skip
    have hlc : ([] : List Bt).length = 0 := rfl
    refine cw_rs fun _ κ => ?_
    refine Sm rfl rfl ?_
    refine as_q rfl rfl (q_len (by kernel_rfl) rfl _) ?_
    refine as_q rfl rfl (q_gtF rfl rfl (by omega)) ?_
    refine as_nil (κ _ _ ?_)
    refine cw_false rfl ?_
    refine cw_exit ?_
    have e : i = Bt.cnt 0 t := by simpa [Bt.cntL] using hcn
    exact ⟨_, res_nil, M1, hst, hle, by rw [← e]; exact hJ⟩
  · skip
    have hlc : (st1 ++ [Bt.nil]).length = st1.length + 1 := by simp
    obtain ⟨ds, c, rfl, hcl1, hxc⟩ := hcl.last
    obtain ⟨xq, hcq, hxr⟩ := encB_iff.1 hxc
    obtain rfl : c = .pointer xq := by simpa using hcq
    have hds := hcl1.length
    obtain ⟨g, o, rfl⟩ := hbu.rd.there (by omega)
    have hcap : (st1 ++ [Bt.nil]).length ≤ sc := by
      obtain ⟨_, _, h, h2, _⟩ := hbu.slice
      cases h; exact h2
    have hbs := hbu.front1 (j := st1.length) (by omega)
    rw [List.take_append_of_le_length (by omega), List.take_of_length_le (by omega)] at hbs
    have hfr1 : ∀ g2, (Value.slice (some ⟨g, o, none⟩) st1.length sc).ownBlock = some g2 → W0.heap.size ≤ g2 := fun g2 hg => hfr g2 hg
    have hct0 : Bt.cntL 0 (st1 ++ [Bt.nil]) = Bt.cntL 0 st1 + (Bt.cnt 0 (Bt.nil) + 0) := by rw [Bt.cntL_append]; rfl
    have hct1 : Bt.cntL 1 (st1 ++ [Bt.nil]) = Bt.cntL 1 st1 + (Bt.cnt 1 (Bt.nil) + 0) := by rw [Bt.cntL_append]; rfl
    obtain rfl := brep_nil.1 hxr
    have hn0 : Bt.cnt 0 Bt.nil = 0 := rfl
    have hn1 : Bt.cnt 1 Bt.nil = 1 := rfl
    have hT := Step.refl (fun k => w.heap.size + 2 ≤ k) hst
    have hblt := hbu.lt
    replace hb0 := hle _ _ hb0
    refine cw_rs fun _ κ => ?_
    refine Sm rfl rfl ?_
    refine as_q rfl rfl (q_len (by kernel_rfl) rfl _) ?_
    refine as_q rfl rfl (q_gtT rfl rfl (by omega)) ?_
    refine as_nil (κ _ _ ?_)
    refine cw_true rfl ?_
    refine cw_skip ?_
    refine hK2 _ _ ?_
    refine cw_block ?_
    refine cw_rs fun _ κ => ?_
    refine Sm rfl rfl ?_
    refine Sm rfl rfl ?_
    refine as_q rfl rfl (q_len (by kernel_rfl) rfl _) ?_
    refine as_q rfl rfl (q_subx rfl rfl (by omega) (by omega)) ?_
    refine as_q rfl rfl (q_indexAddr (e := 93) (size := 1) (by kernel_rfl) (by kernel_rfl) rfl rfl (by omega) (by omega)) ?_
    refine Sc 1 rfl (by kernel_rfl) rfl (cells_oneB (Buf.cell hbu (u := .pointer none) (j := ((((st1 ++ [Bt.nil]).length : Nat) : Int) - 1).toNat * 1) (by rw [show ((((st1 ++ [Bt.nil]).length : Nat) : Int) - 1).toNat * 1 = ds.length by omega]; simp))) ?_
    have hblt2 := hbu.lt
    have hqax := hT.size
    refine as_h rfl (h_allocO (z := (.agg #[(.pointer none)])) hst (by kernel_rfl) rfl fun bx w2 hs2 hox ex => ?_)
    replace hbu := hbu.then hs2
    replace hb0 := hs2.le _ _ hb0
    replace hcl1 := hcl1.mono EncB.mono hs2.le
    replace hT := hT.then hs2
    have hz2 := hs2.size
    have hlx := hox.1.lt
    refine as_h0 (h_store hs2.sat hox rfl rfl rfl (by kernel_rfl) rfl rfl rfl fun w3 hs3 hn3 => ?_)
    replace hbu := hbu.step hs3 (fun g2 hg h => by have h : g2 = bx := h; have := hblt g2 hg; omega)
    replace hb0 := hs3.le _ _ hb0
    replace hcl1 := hcl1.mono EncB.mono hs3.le
    clear hox; have hox := hn3; clear hn3
    replace hT := hT.own hs3 (by omega)
    have hz3 := hs3.size
    refine as_nil (κ _ _ ?_)
    refine cw_rs fun _ κ => ?_
    refine Sm rfl rfl ?_
    refine Sm rfl rfl ?_
    refine as_q rfl rfl (q_len (by kernel_rfl) rfl _) ?_
    refine as_q rfl rfl (q_subx rfl rfl (by omega) (by omega)) ?_
    refine as_q rfl rfl (q_congr (q_slice (e := 93) (size := 1) (k := .i64) (by kernel_rfl) (by kernel_rfl) rfl rfl rfl (by omega) (by omega) (by omega)) (v' := .slice (some ⟨g, o, none⟩) st1.length sc) (front_val (by omega))) ?_
    refine Sa rfl rfl ?_
    refine as_nil (κ _ _ ?_)
    refine cw_seq fun _ hK7 => ?_
    refine cw_rs fun _ κ => ?_
    refine Sf 0 rfl (by kernel_rfl) rfl ?_
    refine S1 rfl (by kernel_rfl) rfl (by exact Blk.cell hox.1 rfl) ?_
    refine as_q rfl rfl (q_eqnil (by kernel_rfl) rfl) ?_
    refine as_nil (κ _ _ ?_)
    refine cw_true rfl ?_
    refine cw_exit ?_
    refine ⟨_, _, ?_, (.cons rfl (.cons rfl (.cons rfl (.nil _)))), i, st1, _, _, _, _, rfl, ?_, ?_, rfl, hle, hT.sat, by omega, habide _ _ _ _ _ hJ hT, (by have h := hbu.front1 (j := st1.length) (by omega); rw [List.take_append_of_le_length (by omega), List.take_of_length_le (by omega)] at h; exact h), hcl1.mono EncB.mono hT.le, hfr1⟩
    · omega
    · omega
    · omega
  · skip
    have hlc : (st1 ++ [Bt.node x ts]).length = st1.length + 1 := by simp
    obtain ⟨ds, c, rfl, hcl1, hxc⟩ := hcl.last
    obtain ⟨xq, hcq, hxr⟩ := encB_iff.1 hxc
    obtain rfl : c = .pointer xq := by simpa using hcq
    have hds := hcl1.length
    obtain ⟨g, o, rfl⟩ := hbu.rd.there (by omega)
    have hcap : (st1 ++ [Bt.node x ts]).length ≤ sc := by
      obtain ⟨_, _, h, h2, _⟩ := hbu.slice
      cases h; exact h2
    have hbs := hbu.front1 (j := st1.length) (by omega)
    rw [List.take_append_of_le_length (by omega), List.take_of_length_le (by omega)] at hbs
    have hfr1 : ∀ g2, (Value.slice (some ⟨g, o, none⟩) st1.length sc).ownBlock = some g2 → W0.heap.size ≤ g2 := fun g2 hg => hfr g2 hg
    have hct0 : Bt.cntL 0 (st1 ++ [Bt.node x ts]) = Bt.cntL 0 st1 + (Bt.cnt 0 (Bt.node x ts) + 0) := by rw [Bt.cntL_append]; rfl
    have hct1 : Bt.cntL 1 (st1 ++ [Bt.node x ts]) = Bt.cntL 1 st1 + (Bt.cnt 1 (Bt.node x ts) + 0) := by rw [Bt.cntL_append]; rfl
    obtain ⟨xb, qs, rfl, hxb, hxts⟩ := brep_node.1 hxr
    have hn0 : Bt.cnt 0 (Bt.node x ts) = 1 + Bt.cntQ 0 ts := rfl
    have hn1 : Bt.cnt 1 (Bt.node x ts) = 1 + Bt.cntQ 1 ts := rfl
    have hal := Bt.cntL_length (RT.alls ts)
    rw [RT.alls_length, Bt.cntQ_alls] at hal
    have hT := Step.refl (fun k => w.heap.size + 2 ≤ k) hst
    have hblt := hbu.lt
    replace hb0 := hle _ _ hb0
    refine cw_rs fun _ κ => ?_
    refine Sm rfl rfl ?_
    refine as_q rfl rfl (q_len (by kernel_rfl) rfl _) ?_
    refine as_q rfl rfl (q_gtT rfl rfl (by omega)) ?_
    refine as_nil (κ _ _ ?_)
    refine cw_true rfl ?_
    refine cw_skip ?_
    refine hK2 _ _ ?_
    refine cw_block ?_
    refine cw_rs fun _ κ => ?_
    refine Sm rfl rfl ?_
    refine Sm rfl rfl ?_
    refine as_q rfl rfl (q_len (by kernel_rfl) rfl _) ?_
    refine as_q rfl rfl (q_subx rfl rfl (by omega) (by omega)) ?_
    refine as_q rfl rfl (q_indexAddr (e := 93) (size := 1) (by kernel_rfl) (by kernel_rfl) rfl rfl (by omega) (by omega)) ?_
    refine Sc 1 rfl (by kernel_rfl) rfl (cells_oneB (Buf.cell hbu (u := .pointer (some ⟨xb, 0, none⟩)) (j := ((((st1 ++ [Bt.node x ts]).length : Nat) : Int) - 1).toNat * 1) (by rw [show ((((st1 ++ [Bt.node x ts]).length : Nat) : Int) - 1).toNat * 1 = ds.length by omega]; simp))) ?_
    have hblt2 := hbu.lt
    have hqax := hT.size
    refine as_h rfl (h_allocO (z := (.agg #[(.pointer none)])) hst (by kernel_rfl) rfl fun bx w4 hs4 hox ex => ?_)
    replace hbu := hbu.then hs4
    replace hcl1 := hcl1.mono EncB.mono hs4.le
    replace hxb := hs4.le _ _ hxb
    replace hxts := hxts.mono' EncB.mono hs4.le
    replace hT := hT.then hs4
    have hz4 := hs4.size
    have hlx := hox.1.lt
    refine as_h0 (h_store hs4.sat hox rfl rfl rfl (by kernel_rfl) rfl rfl rfl fun w5 hs5 hn5 => ?_)
    replace hbu := hbu.step hs5 (fun g2 hg h => by have h : g2 = bx := h; have := hblt g2 hg; omega)
    replace hcl1 := hcl1.mono EncB.mono hs5.le
    replace hxb := hs5.le _ _ hxb
    replace hxts := hxts.mono' EncB.mono hs5.le
    clear hox; have hox := hn5; clear hn5
    replace hT := hT.own hs5 (by omega)
    have hz5 := hs5.size
    refine as_nil (κ _ _ ?_)
    refine cw_rs fun _ κ => ?_
    refine Sm rfl rfl ?_
    refine Sm rfl rfl ?_
    refine as_q rfl rfl (q_len (by kernel_rfl) rfl _) ?_
    refine as_q rfl rfl (q_subx rfl rfl (by omega) (by omega)) ?_
    refine as_q rfl rfl (q_congr (q_slice (e := 93) (size := 1) (k := .i64) (by kernel_rfl) (by kernel_rfl) rfl rfl rfl (by omega) (by omega) (by omega)) (v' := .slice (some ⟨g, o, none⟩) st1.length sc) (front_val (by omega))) ?_
    refine Sa rfl rfl ?_
    refine as_nil (κ _ _ ?_)
    refine cw_seq fun _ hK12 => ?_
    refine cw_rs fun _ κ => ?_
    refine Sf 0 rfl (by kernel_rfl) rfl ?_
    refine S1 rfl (by kernel_rfl) rfl (by exact Blk.cell hox.1 rfl) ?_
    refine as_q rfl rfl (q_eqnil (by kernel_rfl) rfl) ?_
    refine as_nil (κ _ _ ?_)
    refine cw_false rfl ?_
    refine cw_skip ?_
    refine hK12 _ _ ?_
    refine cw_seq fun _ hK14 => ?_
    refine cw_rs fun _ κ => ?_
    refine Sm rfl rfl ?_
    refine Sc 1 rfl (by kernel_rfl) rfl (by exact Blk.cells hox.1 rfl) ?_
    have hJ2 := habide _ _ _ _ _ hJ hT
    have hTz := hT.size
    refine as_h rfl (h_yield rfl rfl ?_)
    obtain ⟨fn_, tm_, as_, bo_, hy1, hy2⟩ := hround i (.agg #[.pointer (some ⟨xb, 0, none⟩)]) _ _ (show i < Bt.cnt 0 t by omega) hJ2 hT.sat (hle.trans hT.le)
    refine ⟨fn_, tm_, as_, bo_, hy1, RoundIn.mono hy2 fun e w6 he => ?_⟩
    cases e <;> try exact (he : False).elim
    obtain ⟨rfl, M2, hs6, hJ3⟩ := he
    replace hbu := hbu.step hs6 (fun g2 hg hn => hn (by have := hfr g2 hg; show _ ≤ _; omega))
    replace hcl1 := hcl1.mono EncB.mono hs6.le
    replace hxb := hs6.le _ _ hxb
    replace hxts := hxts.mono' EncB.mono hs6.le
    replace hox := hox.step hs6 (fun hn => hn (by show _ ≤ _; omega))
    have hle2 := (hle.trans hT.le).trans hs6.le
    have hz6 := hs6.size
    clear hT
    have hT := Step.refl (fun k => w.heap.size + 2 ≤ k) hs6.sat
    refine as_q rfl rfl (q_not rfl) ?_
    refine as_nil (κ _ _ ?_)
    refine cw_false rfl ?_
    refine cw_skip ?_
    refine hK14 _ _ ?_
    refine cw_region fun _ κ => ?_
    refine Sm rfl rfl ?_
    refine Sf 0 rfl (by kernel_rfl) rfl ?_
    refine S1 rfl (by kernel_rfl) rfl (by exact Blk.cell hox.1 rfl) ?_
    refine as_q rfl rfl (q_nilp rfl) ?_
    refine Sf 2 rfl (by kernel_rfl) rfl ?_
    refine Sc 1 rfl (by kernel_rfl) rfl (by exact BlkR.cells (hs6.sat _ _ _ hxb) rfl) ?_
    refine as_h rfl (h_call (by kernel_rfl) rfl ?_)
    refine (sh_all hs6.sat hxts (by omega)).mono ?_
    rintro _ w7 ⟨ra, rc, Mr, es, rfl, hs7, hrb, hrl, _⟩
    replace hbu := hbu.then hs7
    replace hcl1 := hcl1.mono EncB.mono hs7.le
    replace hT := hT.then hs7
    have hz7 := hs7.size
    have hb2 := hbu.front1 (j := st1.length) (by omega)
    rw [List.take_append_of_le_length (by omega), List.take_of_length_le (by omega)] at hb2
    have hTq := hT.size
    refine as_h rfl (h_append (e := 93) (size := 1) (bytes := 8) (by kernel_rfl) hs7.sat hb2 hrb.rd rfl rfl (encB_one hrl) (by omega) rfl fun sv w8 hs8 hbu3 hor => ?_)
    replace hcl1 := hcl1.mono EncB.mono hs8.le
    replace hrl := hrl.mono EncB.mono hs8.le
    replace hT := hT.trans hs8 (fun k hk h => by have := hfr1 k h; show _ ≤ _; omega)
    have hz_ := hs8.size
    have hfr2 : ∀ g2, sv.ownBlock = some g2 → W0.heap.size ≤ g2 := fun g2 hg => by
      rcases hor with h | h
      · rw [h] at hg; exact hfr1 g2 hg
      · rw [h] at hg; have h2 := Option.some.inj hg; omega
    have hlen2 : st1.length + RT.sizes ts = (st1 ++ RT.alls ts).length := by rw [List.length_append, RT.alls_length]
    rw [hlen2] at hbu3
    obtain ⟨sva, svc, rfl, _, _⟩ := hbu3.slice
    have hbu2 := hbu3
    refine Sa rfl rfl ?_
    refine as_nil (κ _ _ ?_)
    refine ⟨_, _, ?_, (.cons rfl (.cons rfl (.cons rfl (.nil _)))), i + 1, st1 ++ RT.alls ts, _, _, _, _, rfl, ?_, ?_, rfl, hle2.trans hT.le, hT.sat, by omega, habide _ _ _ _ _ hJ3 hT, hbu2, hcl1.append hrl, hfr2⟩
    · rw [Bt.cntL_append, Bt.cntQ_alls]; omega
    · rw [Bt.cntL_append, Bt.cntQ_alls]; omega
    · rw [Bt.cntL_append, Bt.cntQ_alls]; omega
end Go.Proofs.YtgcgjpfjjgalmaaGreat
/- Heaps without their least element, and sizes, part 1. -/
namespace Go.Proofs.YtgcgjpfjjgalmaaGreat
open Go Go.Eng
mutual
theorem Bt.cnt_le : ∀ t : Bt, Bt.cnt 0 t ≤ Bt.cnt 1 t
  | .nil => Nat.zero_le _
  | .node _ ts => by have := Bt.cntQ_le ts; simp only [Bt.cnt]; omega
theorem Bt.cntQ_le : ∀ l : List (RT Bt), Bt.cntQ 0 l ≤ Bt.cntQ 1 l
  | [] => Nat.le_refl _
  | t :: r => by have := Bt.cntT_le t; have := Bt.cntQ_le r; simp only [Bt.cntQ]; omega
theorem Bt.cntT_le : ∀ t : RT Bt, Bt.cntT 0 t ≤ Bt.cntT 1 t
  | .node x bs ks => by have := Bt.cnt_le x; have := Bt.cntL_le bs; have := Bt.cntQ_le ks; simp only [Bt.cntT]; omega
theorem Bt.cntL_le : ∀ l : List Bt, Bt.cntL 0 l ≤ Bt.cntL 1 l
  | [] => Nat.le_refl _
  | t :: r => by have := Bt.cnt_le t; have := Bt.cntL_le r; simp only [Bt.cntL]; omega
end
theorem se_min0 {w : World} {M : Mem} (hs : Sat M w) :
    Does Tryz.prog 184 #[.agg #[.pointer none], .pointer none] w (fun v w' => v = .tuple #[.agg (elc (0, 0)).toArray, .bool false] ∧ Step Nope M w M w') := by
  have hT := Step.refl Nope hs
  refine fn_enter Tryz.func184 rfl (rs := [.cell 4 24, .tmp 5]) rfl rfl rfl rfl ?_
  refine cw_rs fun _ κ => ?_
  refine as_h rfl (h_boxM hs rfl rfl fun b1 M1 w1 hs1 hb1 e1 => ?_)
  replace hT := hT.then hs1
  have hz1 := hs1.size
  have hqar := hT.size
  refine as_h rfl (h_allocO (z := (.agg #[(.int .i64 0), (.int .i64 0)])) hs1.sat (by kernel_rfl) rfl fun br w2 hs2 hor er => ?_)
  replace hb1 := hs2.le _ _ hb1
  replace hT := hT.then hs2
  have hz2 := hs2.size
  have hlr := hor.1.lt
  refine Sa rfl rfl ?_
  refine as_nil (κ _ _ ?_)
  refine cw_rs fun _ κ => ?_
  refine Sf 0 rfl (by kernel_rfl) rfl ?_
  refine Sc 1 rfl (by kernel_rfl) rfl (by exact BlkR.cells (hs2.sat _ _ _ hb1) rfl) ?_
  refine as_h rfl (h_call (by kernel_rfl) rfl ?_)
  refine (ce_all (vs := []) hs2.sat rfl (by decide)).mono ?_
  rintro av w3 ⟨Ma, hs3, hba, hfa⟩
  replace hor := hor.then hs3
  replace hT := hT.then hs3
  have hz3 := hs3.size
  obtain ⟨aa, ac, rfl, _, _⟩ := hba.slice
  refine Sa rfl rfl ?_
  refine as_nil (κ _ _ ?_)
  refine cw_seq fun _ hK3 => ?_
  refine cw_rs fun _ κ => ?_
  refine Sm rfl rfl ?_
  refine as_q rfl rfl (q_len (by kernel_rfl) rfl _) ?_
  refine as_q rfl rfl (q_eq rfl rfl) ?_
  refine as_nil (κ _ _ ?_)
  refine cw_true rfl ?_
  refine cw_rs fun _ κ => ?_
  have hqaz := hT.size
  refine as_h rfl (h_allocO (z := (.agg #[(.int .i64 0), (.int .i64 0)])) hs3.sat (by kernel_rfl) rfl fun bz w4 hs4 hoz ez => ?_)
  replace hor := hor.then hs4
  replace hT := hT.then hs4
  have hz4 := hs4.size
  have hlz := hoz.1.lt
  refine as_nil (κ _ _ ?_)
  refine cw_rs fun _ κ => ?_
  refine Sc 2 rfl (by kernel_rfl) rfl (by exact Blk.cells hoz.1 rfl) ?_
  refine as_h0 (h_store hs4.sat hor rfl rfl rfl (by kernel_rfl) rfl rfl rfl fun w5 hs5 hn5 => ?_)
  clear hor; have hor := hn5; clear hn5
  replace hT := hT.own hs5 (by omega)
  have hz5 := hs5.size
  refine Sa rfl rfl ?_
  refine as_nil (κ _ _ ?_)
  refine cw_ret ?_
  exact ⟨_, (res_cell rfl (loadVar_n (n := 2) (by kernel_rfl) (by exact Blk.cells hor.1 rfl)) (res_tmp rfl res_nil)), rfl, hT.forget⟩
theorem sh_min0 {w : World} {M : Mem} (hs : Sat M w) :
    Does Tryz.prog 225 #[.agg #[.pointer none], .pointer none] w (fun v w' => v = .tuple #[.agg #[.pointer none], .bool false] ∧ Step Nope M w M w') := by
  have hT := Step.refl Nope hs
  refine fn_enter Tryz.func225 rfl (rs := [.cell 4 93, .tmp 5]) rfl rfl rfl rfl ?_
  refine cw_rs fun _ κ => ?_
  refine as_h rfl (h_boxM hs rfl rfl fun b1 M1 w1 hs1 hb1 e1 => ?_)
  replace hT := hT.then hs1
  have hz1 := hs1.size
  have hqar := hT.size
  refine as_h rfl (h_allocO (z := (.agg #[(.pointer none)])) hs1.sat (by kernel_rfl) rfl fun br w2 hs2 hor er => ?_)
  replace hb1 := hs2.le _ _ hb1
  replace hT := hT.then hs2
  have hz2 := hs2.size
  have hlr := hor.1.lt
  refine Sa rfl rfl ?_
  refine as_nil (κ _ _ ?_)
  refine cw_rs fun _ κ => ?_
  refine Sf 0 rfl (by kernel_rfl) rfl ?_
  refine Sc 1 rfl (by kernel_rfl) rfl (by exact BlkR.cells (hs2.sat _ _ _ hb1) rfl) ?_
  refine as_h rfl (h_call (by kernel_rfl) rfl ?_)
  refine (ch_all (vs := []) hs2.sat rfl (by decide)).mono ?_
  rintro av w3 ⟨Ma, hs3, hba, hfa⟩
  replace hor := hor.then hs3
  replace hT := hT.then hs3
  have hz3 := hs3.size
  obtain ⟨aa, ac, rfl, _, _⟩ := hba.slice
  refine Sa rfl rfl ?_
  refine as_nil (κ _ _ ?_)
  refine cw_seq fun _ hK3 => ?_
  refine cw_rs fun _ κ => ?_
  refine Sm rfl rfl ?_
  refine as_q rfl rfl (q_len (by kernel_rfl) rfl _) ?_
  refine as_q rfl rfl (q_eq rfl rfl) ?_
  refine as_nil (κ _ _ ?_)
  refine cw_true rfl ?_
  refine cw_rs fun _ κ => ?_
  have hqaz := hT.size
  refine as_h rfl (h_allocO (z := (.agg #[(.pointer none)])) hs3.sat (by kernel_rfl) rfl fun bz w4 hs4 hoz ez => ?_)
  replace hor := hor.then hs4
  replace hT := hT.then hs4
  have hz4 := hs4.size
  have hlz := hoz.1.lt
  refine as_nil (κ _ _ ?_)
  refine cw_rs fun _ κ => ?_
  refine Sc 1 rfl (by kernel_rfl) rfl (by exact Blk.cells hoz.1 rfl) ?_
  refine as_h0 (h_store hs4.sat hor rfl rfl rfl (by kernel_rfl) rfl rfl rfl fun w5 hs5 hn5 => ?_)
  clear hor; have hor := hn5; clear hn5
  replace hT := hT.own hs5 (by omega)
  have hz5 := hs5.size
  refine Sa rfl rfl ?_
  refine as_nil (κ _ _ ?_)
  refine cw_ret ?_
  exact ⟨_, (res_cell rfl (loadVar_n (n := 1) (by kernel_rfl) (by exact Blk.cells hor.1 rfl)) (res_tmp rfl res_nil)), rfl, hT.forget⟩
theorem r_pop_1 {w : World} {M : Mem} {x : El} {q : Option Addr} (hs : Sat M w) (h : RoRep 283 197 220 M (.node x []) q) :
    Does Tryz.prog 206 #[.agg #[.pointer q], .pointer none] w (fun v w' => ∃ q M', v = .tuple #[.agg #[.pointer q], .bool true] ∧ Step Nope M w M' w' ∧ RoRep 283 197 220 M' .nil q) := by
  have hT := Step.refl Nope hs
  obtain ⟨b, qs, rfl, hb, ht⟩ := h
  obtain rfl := frep_nil.1 ht
  refine fn_enter Tryz.func206 rfl (rs := [.cell 4 88, .tmp 5]) rfl rfl rfl rfl ?_
  refine cw_rs fun _ κ => ?_
  refine as_h rfl (h_boxM hs rfl rfl fun b1 M1 w1 hs1 hb1 e1 => ?_)
  replace hb := hs1.le _ _ hb
  replace hT := hT.then hs1
  have hz1 := hs1.size
  have hqar := hT.size
  refine as_h rfl (h_allocO (z := (.agg #[(.pointer none)])) hs1.sat (by kernel_rfl) rfl fun br w2 hs2 hor er => ?_)
  replace hb := hs2.le _ _ hb
  replace hb1 := hs2.le _ _ hb1
  replace hT := hT.then hs2
  have hz2 := hs2.size
  have hlr := hor.1.lt
  refine Sa rfl rfl ?_
  refine as_nil (κ _ _ ?_)
  refine cw_seq fun _ hK2 => ?_
  refine cw_rs fun _ κ => ?_
  refine Sf 0 rfl (by kernel_rfl) rfl ?_
  refine S1 rfl (by kernel_rfl) rfl (by exact BlkR.cell (hs2.sat _ _ _ hb1) rfl) ?_
  refine as_q rfl rfl (q_eqnil (by kernel_rfl) rfl) ?_
  refine as_nil (κ _ _ ?_)
  refine cw_false rfl ?_
  refine cw_skip ?_
  refine hK2 _ _ ?_
  refine cw_rs fun _ κ => ?_
  refine Sf 0 rfl (by kernel_rfl) rfl ?_
  refine S1 rfl (by kernel_rfl) rfl (by exact BlkR.cell (hs2.sat _ _ _ hb1) rfl) ?_
  refine as_q rfl rfl (q_nilp rfl) ?_
  refine Sf 0 rfl (by kernel_rfl) rfl ?_
  refine Sc 1 rfl (by kernel_rfl) rfl (by exact BlkR.cells (hs2.sat _ _ _ hb) rfl) ?_
  refine Sm rfl rfl ?_
  refine as_h rfl (h_call (by kernel_rfl) rfl ?_)
  refine (se_min0 hs2.sat).mono ?_
  rintro _ w3 ⟨rfl, hs3⟩
  replace hor := hor.then hs3
  replace hT := hT.then hs3
  have hz3 := hs3.size
  refine Sm rfl rfl ?_
  refine Se rfl rfl rfl ?_
  refine Se rfl rfl rfl ?_
  have hqam := hT.size
  refine as_h rfl (h_allocO (z := (.agg #[(.int .i64 0), (.int .i64 0)])) hs3.sat (by kernel_rfl) rfl fun bm w4 hs4 hom em => ?_)
  replace hor := hor.then hs4
  replace hT := hT.then hs4
  have hz4 := hs4.size
  have hlm := hom.1.lt
  refine as_h0 (h_store hs4.sat hom rfl rfl rfl (by kernel_rfl) rfl rfl rfl fun w5 hs5 hn5 => ?_)
  replace hor := hor.step hs5 (fun h => by have h : _ = _ := h; omega)
  clear hom; have hom := hn5; clear hn5
  replace hT := hT.own hs5 (by omega)
  have hz5 := hs5.size
  refine Sa rfl rfl ?_
  refine as_nil (κ _ _ ?_)
  refine cw_seq fun _ hK5 => ?_
  refine cw_rs fun _ κ => ?_
  refine Sm rfl rfl ?_
  refine as_q rfl rfl (q_not rfl) ?_
  refine as_nil (κ _ _ ?_)
  refine cw_true rfl ?_
  refine cw_rs fun _ κ => ?_
  refine as_q rfl rfl (q_build (zs := [(.pointer none)]) (places := [(0, 1)]) (cs := [_]) (by kernel_rfl) (by kernel_rfl) rfl rfl) ?_
  refine as_h0 (h_store hs5.sat hor rfl rfl rfl (by kernel_rfl) rfl rfl rfl fun w6 hs6 hn6 => ?_)
  clear hor; have hor := hn6; clear hn6
  replace hT := hT.own hs6 (by omega)
  have hz6 := hs6.size
  refine Sa rfl rfl ?_
  refine as_nil (κ _ _ ?_)
  refine cw_ret ?_
  exact ⟨_, (res_cell rfl (loadVar_n (n := 1) (by kernel_rfl) (by exact Blk.cells hor.1 rfl)) (res_tmp rfl res_nil)), _, _, rfl, hT, rfl⟩
theorem r_pop_2 {w : World} {M : Mem} {x y : El} {bs : List El} {ks ts : List (RT El)} {q : Option Addr} (hs : Sat M w) (h : RoRep 283 197 220 M (.node x ts) q) (hk : ts[leastN ltE (ts.map RT.root) (ts.length - 1)]? = some (.node y bs ks)) (hz : RT.sizes ts ≤ 1000000000) :
    Does Tryz.prog 206 #[.agg #[.pointer q], .pointer none] w (fun v w' => ∃ q M', v = .tuple #[.agg #[.pointer q], .bool true] ∧ Step Nope M w M' w' ∧ RoRep 283 197 220 M' (.node y (spop ltE ts (.node y bs ks))) q) := by
  have hT := Step.refl Nope hs
  obtain ⟨b, qs, rfl, hb, ht⟩ := h
  refine fn_enter Tryz.func206 rfl (rs := [.cell 4 88, .tmp 5]) rfl rfl rfl rfl ?_
  refine cw_rs fun _ κ => ?_
  refine as_h rfl (h_boxM hs rfl rfl fun b1 M1 w1 hs1 hb1 e1 => ?_)
  replace hb := hs1.le _ _ hb
  replace ht := ht.mono' EncE.mono hs1.le
  replace hT := hT.then hs1
  have hz1 := hs1.size
  have hqar := hT.size
  refine as_h rfl (h_allocO (z := (.agg #[(.pointer none)])) hs1.sat (by kernel_rfl) rfl fun br w2 hs2 hor er => ?_)
  replace hb := hs2.le _ _ hb
  replace ht := ht.mono' EncE.mono hs2.le
  replace hb1 := hs2.le _ _ hb1
  replace hT := hT.then hs2
  have hz2 := hs2.size
  have hlr := hor.1.lt
  refine Sa rfl rfl ?_
  refine as_nil (κ _ _ ?_)
  refine cw_seq fun _ hK2 => ?_
  refine cw_rs fun _ κ => ?_
  refine Sf 0 rfl (by kernel_rfl) rfl ?_
  refine S1 rfl (by kernel_rfl) rfl (by exact BlkR.cell (hs2.sat _ _ _ hb1) rfl) ?_
  refine as_q rfl rfl (q_eqnil (by kernel_rfl) rfl) ?_
  refine as_nil (κ _ _ ?_)
  refine cw_false rfl ?_
  refine cw_skip ?_
  refine hK2 _ _ ?_
  refine cw_rs fun _ κ => ?_
  refine Sf 0 rfl (by kernel_rfl) rfl ?_
  refine S1 rfl (by kernel_rfl) rfl (by exact BlkR.cell (hs2.sat _ _ _ hb1) rfl) ?_
  refine as_q rfl rfl (q_nilp rfl) ?_
  refine Sf 0 rfl (by kernel_rfl) rfl ?_
  refine Sc 1 rfl (by kernel_rfl) rfl (by exact BlkR.cells (hs2.sat _ _ _ hb) rfl) ?_
  refine Sm rfl rfl ?_
  refine as_h rfl (h_call (by kernel_rfl) rfl ?_)
  refine (se_min hs2.sat ht hk hz).mono ?_
  rintro _ w3 ⟨rfl, hs3⟩
  replace hb := hs3.le _ _ hb
  replace ht := ht.mono' EncE.mono hs3.le
  replace hb1 := hs3.le _ _ hb1
  replace hor := hor.then hs3
  replace hT := hT.then hs3
  have hz3 := hs3.size
  refine Sm rfl rfl ?_
  refine Se rfl rfl rfl ?_
  refine Se rfl rfl rfl ?_
  have hqam := hT.size
  refine as_h rfl (h_allocO (z := (.agg #[(.int .i64 0), (.int .i64 0)])) hs3.sat (by kernel_rfl) rfl fun bm w4 hs4 hom em => ?_)
  replace hb := hs4.le _ _ hb
  replace ht := ht.mono' EncE.mono hs4.le
  replace hb1 := hs4.le _ _ hb1
  replace hor := hor.then hs4
  replace hT := hT.then hs4
  have hz4 := hs4.size
  have hlm := hom.1.lt
  refine as_h0 (h_store hs4.sat hom rfl rfl rfl (by kernel_rfl) rfl rfl rfl fun w5 hs5 hn5 => ?_)
  replace hb := hs5.le _ _ hb
  replace ht := ht.mono' EncE.mono hs5.le
  replace hb1 := hs5.le _ _ hb1
  replace hor := hor.step hs5 (fun h => by have h : _ = _ := h; omega)
  clear hom; have hom := hn5; clear hn5
  replace hT := hT.own hs5 (by omega)
  have hz5 := hs5.size
  refine Sa rfl rfl ?_
  refine as_nil (κ _ _ ?_)
  refine cw_seq fun _ hK5 => ?_
  refine cw_rs fun _ κ => ?_
  refine Sm rfl rfl ?_
  refine as_q rfl rfl (q_not rfl) ?_
  refine as_nil (κ _ _ ?_)
  refine cw_false rfl ?_
  refine cw_skip ?_
  refine hK5 _ _ ?_
  refine cw_rs fun _ κ => ?_
  refine Sf 0 rfl (by kernel_rfl) rfl ?_
  refine S1 rfl (by kernel_rfl) rfl (by exact BlkR.cell (hs5.sat _ _ _ hb1) rfl) ?_
  refine as_q rfl rfl (q_nilp rfl) ?_
  refine Sf 0 rfl (by kernel_rfl) rfl ?_
  refine Sc 1 rfl (by kernel_rfl) rfl (by exact BlkR.cells (hs5.sat _ _ _ hb) rfl) ?_
  refine Sm rfl rfl ?_
  refine as_h rfl (h_call (by kernel_rfl) rfl ?_)
  refine (se_pop (ts := ts) hs5.sat ht hk hz).mono ?_
  rintro _ w6 ⟨qp, Mp, rfl, hs6, hpp⟩
  replace hor := hor.then hs6
  replace hom := hom.then hs6
  replace hT := hT.then hs6
  have hz6 := hs6.size
  refine Sm rfl rfl ?_
  refine Se rfl rfl rfl ?_
  refine Se rfl rfl rfl ?_
  have hqal := hT.size
  refine as_h rfl (h_allocO (z := (.agg #[(.pointer none)])) hs6.sat (by kernel_rfl) rfl fun bl w7 hs7 hol el => ?_)
  replace hor := hor.then hs7
  replace hom := hom.then hs7
  replace hpp := hpp.mono' EncE.mono hs7.le
  replace hT := hT.then hs7
  have hz7 := hs7.size
  have hll := hol.1.lt
  refine as_h0 (h_store hs7.sat hol rfl rfl rfl (by kernel_rfl) rfl rfl rfl fun w8 hs8 hn8 => ?_)
  replace hor := hor.step hs8 (fun h => by have h : _ = _ := h; omega)
  replace hom := hom.step hs8 (fun h => by have h : _ = _ := h; omega)
  replace hpp := hpp.mono' EncE.mono hs8.le
  clear hol; have hol := hn8; clear hn8
  replace hT := hT.own hs8 (by omega)
  have hz8 := hs8.size
  refine Sa rfl rfl ?_
  refine as_nil (κ _ _ ?_)
  refine cw_rs fun _ κ => ?_
  refine Sm rfl rfl ?_
  refine Sc 2 rfl (by kernel_rfl) rfl (by exact Blk.cells hom.1 rfl) ?_
  refine Sc 1 rfl (by kernel_rfl) rfl (by exact Blk.cells hol.1 rfl) ?_
  refine as_h rfl (h_call (by kernel_rfl) rfl ?_)
  refine (r_made (x := y) hs8.sat hpp).mono ?_
  rintro _ w9 ⟨qm, Mm, rfl, hs9, hm⟩
  replace hor := hor.then hs9
  replace hT := hT.then hs9
  have hz9 := hs9.size
  refine as_h0 (h_store hs9.sat hor rfl rfl rfl (by kernel_rfl) rfl rfl rfl fun w10 hs10 hn10 => ?_)
  replace hm := hm.mono hs10.le
  clear hor; have hor := hn10; clear hn10
  replace hT := hT.own hs10 (by omega)
  have hz10 := hs10.size
  refine Sa rfl rfl ?_
  refine as_nil (κ _ _ ?_)
  refine cw_ret ?_
  exact ⟨_, (res_cell rfl (loadVar_n (n := 1) (by kernel_rfl) (by exact Blk.cells hor.1 rfl)) (res_tmp rfl res_nil)), _, _, rfl, hT, hm⟩
theorem bo_pop_1 {w : World} {M : Mem} {x : El} {q : Option Addr} (hs : Sat M w) (h : BRep 296 330 332 M (.node x []) q) :
    Does Tryz.prog 220 #[.agg #[.pointer q], .pointer none] w (fun v w' => ∃ q M', v = .tuple #[.agg #[.pointer q], .bool true] ∧ Step Nope M w M' w' ∧ BRep 296 330 332 M' .nil q) := by
  have hT := Step.refl Nope hs
  obtain ⟨b, qs, rfl, hb, ht⟩ := brep_node.1 h
  obtain rfl := frep_nil.1 ht
  refine fn_enter Tryz.func220 rfl (rs := [.cell 4 93, .tmp 5]) rfl rfl rfl rfl ?_
  refine cw_rs fun _ κ => ?_
  refine as_h rfl (h_boxM hs rfl rfl fun b1 M1 w1 hs1 hb1 e1 => ?_)
  replace hb := hs1.le _ _ hb
  replace hT := hT.then hs1
  have hz1 := hs1.size
  have hqar := hT.size
  refine as_h rfl (h_allocO (z := (.agg #[(.pointer none)])) hs1.sat (by kernel_rfl) rfl fun br w2 hs2 hor er => ?_)
  replace hb := hs2.le _ _ hb
  replace hb1 := hs2.le _ _ hb1
  replace hT := hT.then hs2
  have hz2 := hs2.size
  have hlr := hor.1.lt
  refine Sa rfl rfl ?_
  refine as_nil (κ _ _ ?_)
  refine cw_seq fun _ hK2 => ?_
  refine cw_rs fun _ κ => ?_
  refine Sf 0 rfl (by kernel_rfl) rfl ?_
  refine S1 rfl (by kernel_rfl) rfl (by exact BlkR.cell (hs2.sat _ _ _ hb1) rfl) ?_
  refine as_q rfl rfl (q_eqnil (by kernel_rfl) rfl) ?_
  refine as_nil (κ _ _ ?_)
  refine cw_false rfl ?_
  refine cw_skip ?_
  refine hK2 _ _ ?_
  refine cw_rs fun _ κ => ?_
  refine Sf 0 rfl (by kernel_rfl) rfl ?_
  refine S1 rfl (by kernel_rfl) rfl (by exact BlkR.cell (hs2.sat _ _ _ hb1) rfl) ?_
  refine as_q rfl rfl (q_nilp rfl) ?_
  refine Sf 2 rfl (by kernel_rfl) rfl ?_
  refine Sc 1 rfl (by kernel_rfl) rfl (by exact BlkR.cells (hs2.sat _ _ _ hb) rfl) ?_
  refine Sm rfl rfl ?_
  refine as_h rfl (h_call (by kernel_rfl) rfl ?_)
  refine (sh_min0 hs2.sat).mono ?_
  rintro _ w3 ⟨rfl, hs3⟩
  replace hor := hor.then hs3
  replace hT := hT.then hs3
  have hz3 := hs3.size
  refine Sm rfl rfl ?_
  refine Se rfl rfl rfl ?_
  refine Se rfl rfl rfl ?_
  have hqaf := hT.size
  refine as_h rfl (h_allocO (z := (.agg #[(.pointer none)])) hs3.sat (by kernel_rfl) rfl fun bf w4 hs4 hof ef => ?_)
  replace hor := hor.then hs4
  replace hT := hT.then hs4
  have hz4 := hs4.size
  have hlf := hof.1.lt
  refine as_h0 (h_store hs4.sat hof rfl rfl rfl (by kernel_rfl) rfl rfl rfl fun w5 hs5 hn5 => ?_)
  replace hor := hor.step hs5 (fun h => by have h : _ = _ := h; omega)
  clear hof; have hof := hn5; clear hn5
  replace hT := hT.own hs5 (by omega)
  have hz5 := hs5.size
  refine Sa rfl rfl ?_
  refine as_nil (κ _ _ ?_)
  refine cw_seq fun _ hK5 => ?_
  refine cw_rs fun _ κ => ?_
  refine Sm rfl rfl ?_
  refine as_q rfl rfl (q_not rfl) ?_
  refine as_nil (κ _ _ ?_)
  refine cw_true rfl ?_
  refine cw_rs fun _ κ => ?_
  refine as_q rfl rfl (q_build (zs := [(.pointer none)]) (places := [(0, 1)]) (cs := [_]) (by kernel_rfl) (by kernel_rfl) rfl rfl) ?_
  refine as_h0 (h_store hs5.sat hor rfl rfl rfl (by kernel_rfl) rfl rfl rfl fun w6 hs6 hn6 => ?_)
  clear hor; have hor := hn6; clear hn6
  replace hT := hT.own hs6 (by omega)
  have hz6 := hs6.size
  refine Sa rfl rfl ?_
  refine as_nil (κ _ _ ?_)
  refine cw_ret ?_
  exact ⟨_, (res_cell rfl (loadVar_n (n := 1) (by kernel_rfl) (by exact Blk.cells hor.1 rfl)) (res_tmp rfl res_nil)), _, _, rfl, hT, brep_nil.2 rfl⟩
theorem bo_pop_2 {w : World} {M : Mem} {x y : El} {bs : List Bt} {ks ts us : List (RT Bt)} {q : Option Addr} (hs : Sat M w) (h : BRep 296 330 332 M (.node x ts) q) (hk : ts[leastN ltB (ts.map RT.root) (ts.length - 1)]? = some (.node (.node y us) bs ks)) (hz : RT.sizes ts ≤ 1000000000) (hzm : RT.sizes us + RT.sizes (spop ltB ts (.node (.node y us) bs ks)) ≤ 1000000000) :
    Does Tryz.prog 220 #[.agg #[.pointer q], .pointer none] w (fun v w' => ∃ q M', v = .tuple #[.agg #[.pointer q], .bool true] ∧ Step Nope M w M' w' ∧ BRep 296 330 332 M' (Bt.popped ts (.node (.node y us) bs ks) y us) q) := by
  have hT := Step.refl Nope hs
  obtain ⟨b, qs, rfl, hb, ht⟩ := brep_node.1 h
  refine fn_enter Tryz.func220 rfl (rs := [.cell 4 93, .tmp 5]) rfl rfl rfl rfl ?_
  refine cw_rs fun _ κ => ?_
  refine as_h rfl (h_boxM hs rfl rfl fun b1 M1 w1 hs1 hb1 e1 => ?_)
  replace hb := hs1.le _ _ hb
  replace ht := ht.mono' encB_mono hs1.le
  replace hT := hT.then hs1
  have hz1 := hs1.size
  have hqar := hT.size
  refine as_h rfl (h_allocO (z := (.agg #[(.pointer none)])) hs1.sat (by kernel_rfl) rfl fun br w2 hs2 hor er => ?_)
  replace hb := hs2.le _ _ hb
  replace ht := ht.mono' encB_mono hs2.le
  replace hb1 := hs2.le _ _ hb1
  replace hT := hT.then hs2
  have hz2 := hs2.size
  have hlr := hor.1.lt
  refine Sa rfl rfl ?_
  refine as_nil (κ _ _ ?_)
  refine cw_seq fun _ hK2 => ?_
  refine cw_rs fun _ κ => ?_
  refine Sf 0 rfl (by kernel_rfl) rfl ?_
  refine S1 rfl (by kernel_rfl) rfl (by exact BlkR.cell (hs2.sat _ _ _ hb1) rfl) ?_
  refine as_q rfl rfl (q_eqnil (by kernel_rfl) rfl) ?_
  refine as_nil (κ _ _ ?_)
  refine cw_false rfl ?_
  refine cw_skip ?_
  refine hK2 _ _ ?_
  refine cw_rs fun _ κ => ?_
  refine Sf 0 rfl (by kernel_rfl) rfl ?_
  refine S1 rfl (by kernel_rfl) rfl (by exact BlkR.cell (hs2.sat _ _ _ hb1) rfl) ?_
  refine as_q rfl rfl (q_nilp rfl) ?_
  refine Sf 2 rfl (by kernel_rfl) rfl ?_
  refine Sc 1 rfl (by kernel_rfl) rfl (by exact BlkR.cells (hs2.sat _ _ _ hb) rfl) ?_
  refine Sm rfl rfl ?_
  refine as_h rfl (h_call (by kernel_rfl) rfl ?_)
  refine (sh_min hs2.sat ht hk hz).mono ?_
  rintro _ w3 ⟨qx, Mx, rfl, hs3, hqx⟩
  obtain ⟨qy, hqy, hqx⟩ := encB_iff.1 hqx
  obtain rfl : qx = qy := by simpa using hqy
  obtain ⟨by_, qys, rfl, hby, hus⟩ := brep_node.1 hqx
  replace hb := hs3.le _ _ hb
  replace ht := ht.mono' encB_mono hs3.le
  replace hb1 := hs3.le _ _ hb1
  replace hor := hor.then hs3
  replace hT := hT.then hs3
  have hz3 := hs3.size
  refine Sm rfl rfl ?_
  refine Se rfl rfl rfl ?_
  refine Se rfl rfl rfl ?_
  have hqaf := hT.size
  refine as_h rfl (h_allocO (z := (.agg #[(.pointer none)])) hs3.sat (by kernel_rfl) rfl fun bf w4 hs4 hof ef => ?_)
  replace hb := hs4.le _ _ hb
  replace ht := ht.mono' encB_mono hs4.le
  replace hb1 := hs4.le _ _ hb1
  replace hor := hor.then hs4
  replace hby := hs4.le _ _ hby
  replace hus := hus.mono' encB_mono hs4.le
  replace hT := hT.then hs4
  have hz4 := hs4.size
  have hlf := hof.1.lt
  refine as_h0 (h_store hs4.sat hof rfl rfl rfl (by kernel_rfl) rfl rfl rfl fun w5 hs5 hn5 => ?_)
  replace hb := hs5.le _ _ hb
  replace ht := ht.mono' encB_mono hs5.le
  replace hb1 := hs5.le _ _ hb1
  replace hor := hor.step hs5 (fun h => by have h : _ = _ := h; omega)
  replace hby := hs5.le _ _ hby
  replace hus := hus.mono' encB_mono hs5.le
  clear hof; have hof := hn5; clear hn5
  replace hT := hT.own hs5 (by omega)
  have hz5 := hs5.size
  refine Sa rfl rfl ?_
  refine as_nil (κ _ _ ?_)
  refine cw_seq fun _ hK5 => ?_
  refine cw_rs fun _ κ => ?_
  refine Sm rfl rfl ?_
  refine as_q rfl rfl (q_not rfl) ?_
  refine as_nil (κ _ _ ?_)
  refine cw_false rfl ?_
  refine cw_skip ?_
  refine hK5 _ _ ?_
  refine cw_rs fun _ κ => ?_
  refine Sf 0 rfl (by kernel_rfl) rfl ?_
  refine S1 rfl (by kernel_rfl) rfl (by exact BlkR.cell (hs5.sat _ _ _ hb1) rfl) ?_
  refine as_q rfl rfl (q_nilp rfl) ?_
  refine Sf 2 rfl (by kernel_rfl) rfl ?_
  refine Sc 1 rfl (by kernel_rfl) rfl (by exact BlkR.cells (hs5.sat _ _ _ hb) rfl) ?_
  refine Sm rfl rfl ?_
  refine as_h rfl (h_call (by kernel_rfl) rfl ?_)
  refine (sh_pop (ts := ts) hs5.sat ht hk hz).mono ?_
  rintro _ w6 ⟨qp, Mp, rfl, hs6, hpp⟩
  replace hb := hs6.le _ _ hb
  replace hb1 := hs6.le _ _ hb1
  replace hor := hor.then hs6
  replace hby := hs6.le _ _ hby
  replace hus := hus.mono' encB_mono hs6.le
  replace hof := hof.then hs6
  replace hT := hT.then hs6
  have hz6 := hs6.size
  refine Sm rfl rfl ?_
  refine Se rfl rfl rfl ?_
  refine Se rfl rfl rfl ?_
  have hqal := hT.size
  refine as_h rfl (h_allocO (z := (.agg #[(.pointer none)])) hs6.sat (by kernel_rfl) rfl fun bl w7 hs7 hol el => ?_)
  replace hb := hs7.le _ _ hb
  replace hb1 := hs7.le _ _ hb1
  replace hor := hor.then hs7
  replace hby := hs7.le _ _ hby
  replace hus := hus.mono' encB_mono hs7.le
  replace hof := hof.then hs7
  replace hpp := hpp.mono' encB_mono hs7.le
  replace hT := hT.then hs7
  have hz7 := hs7.size
  have hll := hol.1.lt
  refine as_h0 (h_store hs7.sat hol rfl rfl rfl (by kernel_rfl) rfl rfl rfl fun w8 hs8 hn8 => ?_)
  replace hb := hs8.le _ _ hb
  replace hb1 := hs8.le _ _ hb1
  replace hor := hor.step hs8 (fun h => by have h : _ = _ := h; omega)
  replace hby := hs8.le _ _ hby
  replace hus := hus.mono' encB_mono hs8.le
  replace hof := hof.step hs8 (fun h => by have h : _ = _ := h; omega)
  replace hpp := hpp.mono' encB_mono hs8.le
  clear hol; have hol := hn8; clear hn8
  replace hT := hT.own hs8 (by omega)
  have hz8 := hs8.size
  refine Sa rfl rfl ?_
  refine as_nil (κ _ _ ?_)
  refine cw_dr (by kernel_rfl) fun _ κ => ?_
  have hs9 := Step.drew hs8.sat
  have hz9 := hs9.size
  replace hb := hs9.le _ _ hb
  replace hb1 := hs9.le _ _ hb1
  replace hor := hor.then hs9
  replace hby := hs9.le _ _ hby
  replace hus := hus.mono' encB_mono hs9.le
  replace hof := hof.then hs9
  replace hpp := hpp.mono' encB_mono hs9.le
  replace hol := hol.then hs9
  replace hT := hT.then hs9
  refine Dm 0 1 rfl (by kernel_rfl) rfl ?_
  refine Df 1 3 0 rfl (by kernel_rfl) (by kernel_rfl) rfl ?_
  refine Dl1 2 7 rfl (by kernel_rfl) (by kernel_rfl) rfl (by exact Blk.cell hof.1 rfl) ?_
  refine Dq 3 15 rfl (by kernel_rfl) (fun _ => (q_nilp rfl)) ?_
  refine Df 4 31 0 rfl (by kernel_rfl) (by kernel_rfl) rfl ?_
  refine Dlc 5 63 2 rfl (by kernel_rfl) (by kernel_rfl) rfl (by exact BlkR.cells (hs9.sat _ _ _ hby) rfl) ?_
  refine Df 6 127 0 rfl (by kernel_rfl) (by kernel_rfl) rfl ?_
  refine Dl1 7 255 rfl (by kernel_rfl) (by kernel_rfl) rfl (by exact Blk.cell hof.1 rfl) ?_
  refine Dq 8 511 rfl (by kernel_rfl) (fun _ => (q_nilp rfl)) ?_
  refine Df 9 1023 2 rfl (by kernel_rfl) (by kernel_rfl) rfl ?_
  refine Dlc 10 2047 1 rfl (by kernel_rfl) (by kernel_rfl) rfl (by exact BlkR.cells (hs9.sat _ _ _ hby) rfl) ?_
  refine Dm 11 4095 rfl (by kernel_rfl) rfl ?_
  refine Dlc 12 8191 1 rfl (by kernel_rfl) (by kernel_rfl) rfl (by exact Blk.cells hol.1 rfl) ?_
  refine Dh 13 16383 rfl (by kernel_rfl) (keep_sift (bs := [T,T,F,F,F]) (by kernel_rfl)) (h_call (by kernel_rfl) rfl ?_)
  refine (sh_meld hs9.sat hus hpp hzm).mono ?_
  rintro _ w10 ⟨ql, Ml, rfl, hs10, hml⟩
  replace hb := hs10.le _ _ hb
  replace hb1 := hs10.le _ _ hb1
  replace hor := hor.then hs10
  replace hby := hs10.le _ _ hby
  replace hof := hof.then hs10
  replace hol := hol.then hs10
  replace hT := hT.then hs10
  have hz10 := hs10.size
  refine ⟨(by repeat' first | exact trivial | exact BlkR.cell (hs10.sat _ _ _ hb) rfl | exact BlkR.cells (hs10.sat _ _ _ hb) rfl | exact BlkR.cell (hs10.sat _ _ _ hb1) rfl | exact BlkR.cells (hs10.sat _ _ _ hb1) rfl | exact Blk.cell hor.1 rfl | exact Blk.cells hor.1 rfl | exact BlkR.cell (hs10.sat _ _ _ hby) rfl | exact BlkR.cells (hs10.sat _ _ _ hby) rfl | exact Blk.cell hof.1 rfl | exact Blk.cells hof.1 rfl | exact Blk.cell hol.1 rfl | exact Blk.cells hol.1 rfl | assumption | refine all_keep ?_ | refine And.intro ?_ ?_), ?_⟩
  refine Dh 14 32767 rfl (by kernel_rfl) (keep_sift (bs := [F,T,F]) (by kernel_rfl)) (h_call (by kernel_rfl) rfl ?_)
  refine (bo_made (x := y) hs10.sat hml).mono ?_
  rintro _ w11 ⟨qm, Mm, rfl, hs11, hm⟩
  replace hb := hs11.le _ _ hb
  replace hb1 := hs11.le _ _ hb1
  replace hor := hor.then hs11
  replace hby := hs11.le _ _ hby
  replace hof := hof.then hs11
  replace hol := hol.then hs11
  replace hT := hT.then hs11
  have hz11 := hs11.size
  refine ⟨(by repeat' first | exact trivial | exact BlkR.cell (hs11.sat _ _ _ hb) rfl | exact BlkR.cells (hs11.sat _ _ _ hb) rfl | exact BlkR.cell (hs11.sat _ _ _ hb1) rfl | exact BlkR.cells (hs11.sat _ _ _ hb1) rfl | exact Blk.cell hor.1 rfl | exact Blk.cells hor.1 rfl | exact BlkR.cell (hs11.sat _ _ _ hby) rfl | exact BlkR.cells (hs11.sat _ _ _ hby) rfl | exact Blk.cell hof.1 rfl | exact Blk.cells hof.1 rfl | exact Blk.cell hol.1 rfl | exact Blk.cells hol.1 rfl | assumption | refine all_keep ?_ | refine And.intro ?_ ?_), ?_⟩
  refine Dh0 15 65535 rfl (by kernel_rfl) (keep_sift (bs := [T,T]) (by kernel_rfl)) (h_store hs11.sat hor rfl rfl rfl (by kernel_rfl) rfl rfl rfl fun w12 hs12 hn12 => ?_)
  replace hby := hs12.le _ _ hby
  replace hm := hm.mono hs12.le
  clear hor; have hor := hn12; clear hn12
  replace hT := hT.own hs12 (by omega)
  have hz12 := hs12.size
  refine ⟨trivial, ?_⟩
  refine Da 16 131071 rfl (by kernel_rfl) rfl ?_
  refine Dd (by kernel_rfl) (κ _ _ ?_)
  refine cw_ret ?_
  exact ⟨_, (res_cell rfl (loadVar_n (n := 1) (by kernel_rfl) (by exact Blk.cells hor.1 rfl)) (res_tmp rfl res_nil)), _, _, rfl, hT, hm⟩
theorem bo_each {w : World} {M : Mem} {p : Option Addr} (hs : Sat M w) :
    Does Tryz.prog 230 #[.agg #[.pointer p]] w (fun v w' => ∃ bx M', v = .func (.func 249) #[] #[.pointer (some ⟨bx, 0, none⟩)] ∧ Step Nope M w M' w' ∧ M' bx = some ([.pointer p], 93)) := by
  have hT := Step.refl Nope hs
  refine fn_enter Tryz.func230 rfl (rs := [.tmp 2]) rfl rfl rfl rfl ?_
  refine cw_rs fun _ κ => ?_
  refine as_h rfl (h_boxM hs rfl rfl fun b1 M1 w1 hs1 hb1 e1 => ?_)
  replace hT := hT.then hs1
  refine Sa rfl rfl ?_
  refine as_nil (κ _ _ ?_)
  refine cw_rs fun _ κ => ?_
  refine as_q rfl rfl (q_func rfl rfl) ?_
  refine Sa rfl rfl ?_
  refine as_nil (κ _ _ ?_)
  refine cw_ret ?_
  exact ⟨_, (res_tmp rfl res_nil), _, _, rfl, hT, hb1⟩
theorem bo_size1 {w : World} {M : Mem} {b : Nat} {z : Int} (hs : Sat M w) (ho : Own w M b [.int .i64 z] 3) (h0 : 0 ≤ z) (h1 : z ≤ 1000000000) :
    Does Tryz.prog 229 #[.pointer (some ⟨b, 0, none⟩)] w (fun _ w' => Step (Just b) M w M w' ∧ Own w' M b [.int .i64 (z + 1)] 3) := by
  have hT := Step.refl (Just b) hs
  refine fn_enter Tryz.func229 rfl (rs := []) rfl rfl rfl rfl ?_
  refine cw_region fun _ κ => ?_
  refine S1 rfl (by kernel_rfl) rfl (by exact Blk.cell ho.1 rfl) ?_
  refine as_q rfl rfl (q_addx rfl rfl (by omega) (by omega)) ?_
  refine as_h0 (h_store hs ho rfl rfl rfl (by kernel_rfl) rfl rfl rfl fun w1 hs1 hn1 => ?_)
  clear ho; have ho := hn1; clear hn1
  replace hT := hT.also hs1
  refine as_nil (κ _ _ ?_)
  exact ⟨_, res_nil, hT, ho⟩
theorem bo_size {w : World} {M : Mem} {t : Bt} {q : Option Addr} (hs : Sat M w) (h : BRep 296 330 332 M t q) (hz : Bt.cnt 1 t ≤ 1000000000) :
    Does Tryz.prog 222 #[.agg #[.pointer q]] w (fun v w' => v = .int .i64 (Bt.cnt 0 t : Nat) ∧ Step Nope M w M w') := by
  have hzz := Bt.cnt_le t
  have hT := Step.refl Nope hs
  refine fn_enterM (K' := fun v w' => v = .int .i64 (Bt.cnt 0 t : Nat) ∧ ∃ M', Step Nope M w M' w') Tryz.func222 rfl (rs := [.tmp 2]) rfl rfl rfl rfl ?_ (fun _ _ _ _ _ _ h => resT rfl h) ?_
  · skip
    refine cm_seq fun K0a hK0a => cw_region fun K0b hK0b => ?_
    refine as_h rfl (h_boxM hs rfl rfl fun b1 M1 w1 hs1 hb1 e1 => ?_)
    replace h := h.mono hs1.le
    replace hT := hT.then hs1
    have hz1 := hs1.size
    refine Sa rfl rfl ?_
    refine as_nil (hK0b _ _ (hK0a _ _ ?_))
    clear hK0b hK0a K0b K0a
    refine cm_seq fun K1a hK1a => cw_region fun K1b hK1b => ?_
    have hqan := hT.size
    refine as_h rfl (h_allocO (z := (.int .i64 0)) hs1.sat (by kernel_rfl) rfl fun bn w2 hs2 hon en => ?_)
    replace h := h.mono hs2.le
    replace hb1 := hs2.le _ _ hb1
    replace hT := hT.then hs2
    have hz2 := hs2.size
    have hln := hon.1.lt
    refine as_h0 (h_store hs2.sat hon rfl rfl rfl (by kernel_rfl) rfl rfl rfl fun w3 hs3 hn3 => ?_)
    replace h := h.mono hs3.le
    replace hb1 := hs3.le _ _ hb1
    clear hon; have hon := hn3; clear hn3
    replace hT := hT.own hs3 (by omega)
    have hz3 := hs3.size
    refine as_nil (hK1b _ _ (hK1a _ _ ?_))
    clear hK1b hK1a K1b K1a
    refine cm_seq fun K2a hK2a => cw_region fun K2b hK2b => ?_
    refine as_q rfl rfl (q_func rfl rfl) ?_
    have hqaf := hT.size
    refine as_h rfl (h_allocO (z := .nilFunc) hs3.sat (by kernel_rfl) rfl fun bf w4 hs4 hof ef => ?_)
    replace h := h.mono hs4.le
    replace hb1 := hs4.le _ _ hb1
    replace hon := hon.then hs4
    replace hT := hT.then hs4
    have hz4 := hs4.size
    have hlf := hof.1.lt
    refine as_h0 (h_store hs4.sat hof rfl rfl rfl (by kernel_rfl) rfl rfl rfl fun w5 hs5 hn5 => ?_)
    replace h := h.mono hs5.le
    replace hb1 := hs5.le _ _ hb1
    replace hon := hon.step hs5 (fun h => by have h : _ = _ := h; omega)
    clear hof; have hof := hn5; clear hn5
    replace hT := hT.own hs5 (by omega)
    have hz5 := hs5.size
    refine as_nil (hK2b _ _ (hK2a _ _ ?_))
    clear hK2b hK2a K2b K2a
    refine cm_seqM ?_
    refine cm_seq fun K2a hK2a => cw_region fun K2b hK2b => ?_
    refine Sc 1 rfl (by kernel_rfl) rfl (by exact BlkR.cells (hs5.sat _ _ _ hb1) rfl) ?_
    refine as_h rfl (h_call (by kernel_rfl) rfl ?_)
    refine (bo_each hs5.sat).mono ?_
    rintro _ w6 ⟨bx, Mx, rfl, hs6, hbx⟩
    replace h := h.mono hs6.le
    replace hon := hon.then hs6
    replace hof := hof.then hs6
    replace hT := hT.then hs6
    have hz6 := hs6.size
    refine as_nil (hK2b _ _ (hK2a _ _ ?_))
    clear hK2b hK2a K2b K2a
    have hTs := hT.size
    have hln := hon.1.lt
    have hlf := hof.1.lt
    have hbw : w.heap.size ≤ bn ∧ w.heap.size ≤ bf ∧ bn ≠ bf := by omega
    refine cm_block ?_
    refine cm_rangeP (M := Mx) (S := fun k => w6.heap.size + 2 ≤ k) (N := Bt.cnt 0 t) (ok := fun i _ => i < Bt.cnt 0 t) (lb := [.pointer (some ⟨bx, 0, none⟩)]) (gf := 249) rfl rfl rfl (by kernel_rfl) rfl hs6.sat hTs (bo_each1 hbx h hz) (fun k hk => by constructor <;> omega) (fun i M' W' => (Own W' M' bn [.int .i64 ((i : Nat) : Int)] 3 ∧ Own W' M' bf [.func (.func 229) #[] #[.pointer (some ⟨bn, 0, none⟩)]] 1 ∧ Step Nope M w M' W')) (fun i v la M' W' => la = [(3, .pointer (some ⟨bn, 0, none⟩)), (4, .pointer (some ⟨bf, 0, none⟩))] ∧ (Own W' M' bn [.int .i64 ((i : Nat) : Int)] 3 ∧ Own W' M' bf [.func (.func 229) #[] #[.pointer (some ⟨bn, 0, none⟩)]] 1 ∧ Step Nope M w M' W')) ?_ ?_ ?_ ?_ ?_ ?_
    · rintro i M' W' M'' W'' ⟨h1, h2, h3⟩ k
      exact ⟨h1.step k (by rintro (h | h | h) <;> omega), h2.step k (by rintro (h | h | h) <;> omega), h3.trans k (fun b hb h => by rcases h with h | h | h <;> omega)⟩
    · exact ⟨hon, hof, hT⟩
    · rintro i v la M' W' M'' W'' ⟨rfl, h1, h2, h3⟩ k
      exact ⟨rfl, h1.step k (by rintro (h | h | h) <;> omega), h2.step k (by rintro (h | h | h) <;> omega), h3.trans k (fun b hb h => by rcases h with h | h | h <;> omega)⟩
    · rintro i v r M' W' hv ⟨h1, h2, h3⟩ hs' hle hlt
      exact cw_skip ⟨_, M', .cons rfl (.cons rfl (.nil _)), Step.refl _ hs', rfl, h1, h2, h3⟩
    · rintro i v la r M' W' hv ⟨rfl, h1, h2, h3⟩ hs' hle hlt
      have hln1 := h1.1.lt
      refine cw_block (cw_region fun K4 hK4 => ?_)
      refine S1 rfl (by kernel_rfl) rfl (by exact Blk.cell h2.1 rfl) ?_
      refine as_h rfl (h_callv (f := 229) (first := []) (cap := [.pointer (some ⟨bn, 0, none⟩)]) (by kernel_rfl) rfl rfl rfl ?_)
      refine (bo_size1 hs' h1 (by omega) (by omega)).mono ?_
      rintro _ w7 ⟨hs7, h1n⟩
      refine as_nil (hK4 _ _ ⟨M', hs7.wide fun k _ h => by have h : k = bn := h; exact ⟨by omega, by omega, by omega⟩, by rw [show (((i + 1 : Nat)) : Int) = (i : Int) + 1 from by omega]; exact h1n, h2.step hs7 (fun h => by have h : bf = bn := h; omega), h3.trans hs7 (fun k hk h => by have h : k = bn := h; omega)⟩)
    · rintro M' W' hs' hle ⟨h1, h2, h3⟩ D hD hDd
      refine cw_rs fun _ κ => ?_
      refine S1 rfl (by kernel_rfl) rfl (by exact Blk.cell h1.1 rfl) ?_
      refine Sa rfl rfl ?_
      exact as_nil (κ _ _ (cw_ret ⟨hDd, _, res_tmp rfl res_nil, rfl, M', h3⟩))
  · rintro v w' D hB hD ⟨h0, M', h1⟩
    have k := Step.putObj h1.sat hD (by simp) (.deferred none)
    exact ⟨h0, (h1.trans k (fun b hb h => by have h : b = D := h; omega)).forget⟩
end Go.Proofs.YtgcgjpfjjgalmaaGreat
