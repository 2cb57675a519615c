/- The document s texts, read, part 1. -/
import Derived.Test.YtbfjkclijjhlhaaDoorEhA
namespace Go.Proofs.YtbfjkclijjhlhaaDoor
open Go Go.Eng
set_option maxHeartbeats 2000000 in
theorem ref_parseE {w : World} {M : Mem} {bs : List UInt8} (hs : Sat M w) (hn : bs.length ≤ 1000000) :
    Does Tryd.prog 19 #[.string ⟨bs.toArray⟩] w (fun v w' => ((∃ e : El, (InR e.1 ∧ InR e.2) ∧ textE e = bs ∧ v = .tuple #[.agg (elc e).toArray, .int .i64 0]) ∨ ((∀ e : El, InR e.1 ∧ InR e.2 → textE e ≠ bs) ∧ v = .tuple #[.agg (elc (0, 0)).toArray, .int .i64 10])) ∧ Step Nope M w M w') := by
  have hT := Step.refl Nope hs
  refine fn_enter Tryd.func19 rfl (rs := [.cell 2 23, .tmp 3]) rfl rfl rfl rfl ?_
  refine cw_rs fun K1 hK1 => ?_
  -- region 0
  have hqaR := hT.size
  refine as_h rfl (h_allocO (z := (.agg #[(.int .i64 0), (.int .i64 0)])) hs (by kernel_rfl) rfl fun bR w1 hs1 hoR eR => ?_)
  replace hT := hT.then hs1
  have hz1 := hs1.size
  have hlR := hoR.1.lt
  refine as_q rfl rfl (q_assign rfl) ?_
  refine as_nil (hK1 _ _ ?_)
  clear hK1 K1
  refine cw_rs fun K2 hK2 => ?_
  -- region 1
  refine as_q rfl rfl (q_assign rfl) ?_
  refine as_nil (hK2 _ _ ?_)
  clear hK2 K2
  refine cw_seq fun K3 hK3 => ?_
  refine cw_block ?_
  refine cw_loop (fun mm l w1 => ∃ (i : Nat), mm = bs.length - i ∧ i ≤ bs.length ∧ (58 : UInt8) ∉ bs.take i ∧ l = [(0, .string ⟨bs.toArray⟩), (2, .pointer (some ⟨bR, 0, none⟩)), (3, .int .i64 0), (4, .int .i64 i)] ∧ Step Nope M w M w1 ∧ Own w1 M bR [.int .i64 0, .int .i64 0] 23) (bs.length) [(0, .string ⟨bs.toArray⟩), (2, .pointer (some ⟨bR, 0, none⟩)), (3, .int .i64 0), (4, .int .i64 (0 : Nat))] (.cons rfl (.cons rfl (.cons rfl (.cons rfl (.nil _))))) ?_ ?_
  · skip
    exact ⟨0, rfl, Nat.zero_le _, by simp, rfl, hT, hoR⟩
  have hRw : w.heap.size ≤ bR := by omega
  clear hT hoR
  rintro mm l w1 ⟨i, rfl, hi, hno, rfl, hT, hoR⟩
  refine cw_seq fun K4 hK4 => ?_
  have hc2 : bs.length = i ∨ (∃ b, bs[i]? = some b ∧ b = 58) ∨ (∃ b, bs[i]? = some b ∧ b ≠ 58) := by
    rcases Nat.lt_or_ge i bs.length with h | h
    · by_cases hb : bs[i] = 58
      · exact .inr (.inl ⟨_, List.getElem?_eq_getElem h, hb⟩)
      · exact .inr (.inr ⟨_, List.getElem?_eq_getElem h, hb⟩)
    · exact .inl (by omega)
  rcases hc2 with hc2 | ⟨b, hb, h58⟩ | ⟨b, hb, h58⟩
  · skip
    obtain rfl : i = bs.length := by omega
    rw [List.take_length] at hno
    refine cw_rs fun K5 hK5 => ?_
    -- region 2
    refine as_q rfl rfl (q_move rfl) ?_
    refine as_q rfl rfl (q_move rfl) ?_
    refine as_q rfl rfl (q_lenL (by kernel_rfl) rfl _) ?_
    refine as_q rfl rfl (q_ltF rfl rfl (by omega)) ?_
    refine as_q rfl rfl (q_move rfl) ?_
    first | refine as_gskip rfl rfl rfl rfl rfl ?_ | refine as_gskipU rfl rfl rfl rfl ?_ | refine as_gh rfl rfl rfl rfl (h_q rfl (q_move rfl) ?_)
    first | refine as_gskip rfl rfl rfl rfl rfl ?_ | refine as_gskipU rfl rfl rfl rfl ?_ | refine as_gh rfl rfl rfl rfl (h_q rfl (q_move rfl) ?_)
    first | refine as_gskip rfl rfl rfl rfl rfl ?_ | refine as_gskipU rfl rfl rfl rfl ?_ | refine as_gh rfl rfl rfl rfl (h_q rfl (q_atL (by kernel_rfl) rfl rfl (by omega) (b := b) (by simpa using hb)) ?_)
    first | refine as_gskip rfl rfl rfl rfl rfl ?_ | refine as_gskipU rfl rfl rfl rfl ?_ | refine as_gh rfl rfl rfl rfl (h_q rfl (q_neT rfl rfl (by intro h; exact h58 (UInt8.toNat_inj.1 (show b.toNat = 58 by omega)))) ?_)
    first | refine as_q rfl rfl (q_pick_t rfl rfl) ?_ | refine as_q rfl rfl (q_pick_f rfl rfl) ?_ | refine as_q rfl rfl (q_pick rfl rfl rfl) ?_
    refine as_nil (hK5 _ _ ?_)
    clear hK5 K5
    refine cw_false rfl ?_
    refine cw_exit ?_
    refine hK3 _ _ ?_
    clear hK4 K4
    clear hK3 K3
    refine cw_seq fun K6 hK6 => ?_
    refine cw_rs fun K7 hK7 => ?_
    -- region 4
    refine as_q rfl rfl (q_move rfl) ?_
    refine as_q rfl rfl (q_move rfl) ?_
    refine as_q rfl rfl (q_lenL (by kernel_rfl) rfl _) ?_
    first | refine as_q rfl rfl (q_eqT rfl rfl (by omega)) ?_ | refine as_q rfl rfl (q_eqF rfl rfl (by omega)) ?_ | refine as_q rfl rfl (q_eq rfl rfl) ?_
    refine as_nil (hK7 _ _ ?_)
    clear hK7 K7
    refine cw_true rfl ?_
    refine cw_rs fun K8 hK8 => ?_
    -- region 5
    refine as_q rfl rfl (q_build (zs := [(.int .i64 0), (.int .i64 0)]) (places := [(0, 1), (1, 1)]) (cs := [_, _]) (by kernel_rfl) (by kernel_rfl) rfl rfl) ?_
    refine as_h0 (h_store hT.sat hoR rfl rfl rfl (by kernel_rfl) rfl rfl rfl fun w2 hs2 hn2 => ?_)
    clear hoR; have hoR := hn2; clear hn2
    replace hT := hT.own hs2 hRw
    have hz2 := hs2.size
    refine as_q rfl rfl (q_assign rfl) ?_
    refine as_nil (hK8 _ _ ?_)
    clear hK8 K8
    refine cw_ret ?_
    exact ⟨_, (res_cell rfl (loadVar_n (n := 2) (by kernel_rfl) (by first | exact Blk.cells hoR.1 rfl | assumption)) (res_tmp rfl res_nil)), .inr ⟨fun e _ h => hno (by rw [← h]; simp [textE]), rfl⟩, hT⟩
  · skip
    have hilt := (List.getElem?_eq_some_iff.1 hb).1
    refine cw_rs fun K9 hK9 => ?_
    -- region 2
    refine as_q rfl rfl (q_move rfl) ?_
    refine as_q rfl rfl (q_move rfl) ?_
    refine as_q rfl rfl (q_lenL (by kernel_rfl) rfl _) ?_
    refine as_q rfl rfl (q_ltT rfl rfl (by omega)) ?_
    refine as_q rfl rfl (q_move rfl) ?_
    first | refine as_gskip rfl rfl rfl rfl rfl ?_ | refine as_gskipU rfl rfl rfl rfl ?_ | refine as_gh rfl rfl rfl rfl (h_q rfl (q_move rfl) ?_)
    first | refine as_gskip rfl rfl rfl rfl rfl ?_ | refine as_gskipU rfl rfl rfl rfl ?_ | refine as_gh rfl rfl rfl rfl (h_q rfl (q_move rfl) ?_)
    first | refine as_gskip rfl rfl rfl rfl rfl ?_ | refine as_gskipU rfl rfl rfl rfl ?_ | refine as_gh rfl rfl rfl rfl (h_q rfl (q_atL (by kernel_rfl) rfl rfl (by omega) (b := b) (by simpa using hb)) ?_)
    first | refine as_gskip rfl rfl rfl rfl rfl ?_ | refine as_gskipU rfl rfl rfl rfl ?_ | refine as_gh rfl rfl rfl rfl (h_q rfl (q_neF rfl rfl (by rw [h58]; rfl)) ?_)
    first | refine as_q rfl rfl (q_pick_t rfl rfl) ?_ | refine as_q rfl rfl (q_pick_f rfl rfl) ?_ | refine as_q rfl rfl (q_pick rfl rfl rfl) ?_
    refine as_nil (hK9 _ _ ?_)
    clear hK9 K9
    refine cw_false rfl ?_
    refine cw_exit ?_
    refine hK3 _ _ ?_
    clear hK4 K4
    clear hK3 K3
    refine cw_seq fun K10 hK10 => ?_
    refine cw_rs fun K11 hK11 => ?_
    subst h58
    have hsp : bs = bs.take i ++ 58 :: bs.drop (i + 1) := by
      have h1 := (List.take_append_drop i bs).symm
      rw [List.drop_eq_getElem_cons hilt, (List.getElem?_eq_some_iff.1 hb).2] at h1
      exact h1
    -- region 4
    refine as_q rfl rfl (q_move rfl) ?_
    refine as_q rfl rfl (q_move rfl) ?_
    refine as_q rfl rfl (q_lenL (by kernel_rfl) rfl _) ?_
    first | refine as_q rfl rfl (q_eqT rfl rfl (by omega)) ?_ | refine as_q rfl rfl (q_eqF rfl rfl (by omega)) ?_ | refine as_q rfl rfl (q_eq rfl rfl) ?_
    refine as_nil (hK11 _ _ ?_)
    clear hK11 K11
    refine cw_false rfl ?_
    refine cw_skip ?_
    refine hK10 _ _ ?_
    clear hK10 K10
    refine cw_rs fun K12 hK12 => ?_
    -- region 6
    refine as_q rfl rfl (q_move rfl) ?_
    refine as_q rfl rfl (q_move rfl) ?_
    refine as_q rfl rfl (q_takeL (by kernel_rfl) rfl rfl (by omega) (by omega)) ?_
    refine as_h rfl (h_call (by kernel_rfl) rfl ?_)
    refine (ref_read (bs := bs.take i) hT.sat (by simp; omega)).mono ?_
    rintro _ w3 ⟨x1, ok1, rfl, hx1, hs3⟩
    replace hoR := hoR.then hs3
    replace hT := hT.then hs3
    have hz3 := hs3.size
    refine as_q rfl rfl (q_move rfl) ?_
    refine as_q rfl rfl (q_extract rfl rfl) ?_
    refine as_q rfl rfl (q_extract rfl rfl) ?_
    refine as_q rfl rfl (q_assign rfl) ?_
    refine as_q rfl rfl (q_assign rfl) ?_
    refine as_nil (hK12 _ _ ?_)
    clear hK12 K12
    refine cw_rs fun K13 hK13 => ?_
    -- region 7
    refine as_q rfl rfl (q_move rfl) ?_
    refine as_q rfl rfl (q_move rfl) ?_
    refine as_q rfl rfl (q_congr (q_addx rfl rfl (by omega) (by omega)) (v' := .int .i64 ((i + 1 : Nat) : Int)) (congrArg (Value.int .i64) (by omega))) ?_
    refine as_q rfl rfl (q_dropL (by kernel_rfl) rfl rfl (by omega) (by omega)) ?_
    refine as_h rfl (h_call (by kernel_rfl) rfl ?_)
    refine (ref_read (bs := bs.drop (i + 1)) hs3.sat (by simp; omega)).mono ?_
    rintro _ w4 ⟨x2, ok2, rfl, hx2, hs4⟩
    replace hoR := hoR.then hs4
    replace hT := hT.then hs4
    have hz4 := hs4.size
    refine as_q rfl rfl (q_move rfl) ?_
    refine as_q rfl rfl (q_extract rfl rfl) ?_
    refine as_q rfl rfl (q_extract rfl rfl) ?_
    refine as_q rfl rfl (q_assign rfl) ?_
    refine as_q rfl rfl (q_assign rfl) ?_
    refine as_nil (hK13 _ _ ?_)
    clear hK13 K13
    refine cw_seq fun K14 hK14 => ?_
    have hc8 : ((InR x1 ∧ Lib.itoa x1 = bs.take i ∧ ok1 = true) ∧ (InR x2 ∧ Lib.itoa x2 = bs.drop (i + 1) ∧ ok2 = true)) ∨ ((∀ p : Int, InR p → Lib.itoa p ≠ bs.take i) ∧ ok1 = false) ∨ ((InR x1 ∧ Lib.itoa x1 = bs.take i ∧ ok1 = true) ∧ (∀ p : Int, InR p → Lib.itoa p ≠ bs.drop (i + 1)) ∧ ok2 = false) := by
      rcases hx1 with h | h
      · rcases hx2 with h2 | h2
        · exact .inl ⟨h, h2⟩
        · exact .inr (.inr ⟨h, h2⟩)
      · exact .inr (.inl h)
    clear hx1 hx2
    rcases hc8 with ⟨⟨hi1, ht1, rfl⟩, hi2, ht2, rfl⟩ | ⟨hn1, rfl⟩ | ⟨⟨hi1, ht1, rfl⟩, hn2, rfl⟩
    · skip
      refine cw_rs fun K15 hK15 => ?_
      -- region 8
      refine as_q rfl rfl (q_move rfl) ?_
      refine as_q rfl rfl (q_not rfl) ?_
      refine as_q rfl rfl (q_move rfl) ?_
      first | refine as_gskip rfl rfl rfl rfl rfl ?_ | refine as_gskipU rfl rfl rfl rfl ?_ | refine as_gh rfl rfl rfl rfl (h_q rfl (q_move rfl) ?_)
      first | refine as_gskip rfl rfl rfl rfl rfl ?_ | refine as_gskipU rfl rfl rfl rfl ?_ | refine as_gh rfl rfl rfl rfl (h_q rfl (q_not rfl) ?_)
      first | refine as_q rfl rfl (q_pick_t rfl rfl) ?_ | refine as_q rfl rfl (q_pick_f rfl rfl) ?_ | refine as_q rfl rfl (q_pick rfl rfl rfl) ?_
      refine as_nil (hK15 _ _ ?_)
      clear hK15 K15
      refine cw_false rfl ?_
      refine cw_skip ?_
      refine hK14 _ _ ?_
      clear hK14 K14
      refine cw_rs fun K16 hK16 => ?_
      -- region 10
      refine as_q rfl rfl (q_move rfl) ?_
      refine as_q rfl rfl (q_move rfl) ?_
      refine as_q rfl rfl (q_build (zs := [(.int .i64 0), (.int .i64 0)]) (places := [(0, 1), (1, 1)]) (cs := [_, _]) (by kernel_rfl) (by kernel_rfl) rfl rfl) ?_
      refine as_h0 (h_store hs4.sat hoR rfl rfl rfl (by kernel_rfl) rfl rfl rfl fun w5 hs5 hn5 => ?_)
      clear hoR; have hoR := hn5; clear hn5
      replace hT := hT.own hs5 hRw
      have hz5 := hs5.size
      refine as_q rfl rfl (q_assign rfl) ?_
      refine as_nil (hK16 _ _ ?_)
      clear hK16 K16
      refine cw_ret ?_
      exact ⟨_, (res_cell rfl (loadVar_n (n := 2) (by kernel_rfl) (by first | exact Blk.cells hoR.1 rfl | assumption)) (res_tmp rfl res_nil)), .inl ⟨(x1, x2), ⟨hi1, hi2⟩, by show Lib.itoa x1 ++ 58 :: Lib.itoa x2 = bs; rw [ht1, ht2]; exact hsp.symm, rfl⟩, hT⟩
    · skip
      refine cw_rs fun K17 hK17 => ?_
      -- region 8
      refine as_q rfl rfl (q_move rfl) ?_
      refine as_q rfl rfl (q_not rfl) ?_
      refine as_q rfl rfl (q_move rfl) ?_
      first | refine as_gskip rfl rfl rfl rfl rfl ?_ | refine as_gskipU rfl rfl rfl rfl ?_ | refine as_gh rfl rfl rfl rfl (h_q rfl (q_move rfl) ?_)
      first | refine as_gskip rfl rfl rfl rfl rfl ?_ | refine as_gskipU rfl rfl rfl rfl ?_ | refine as_gh rfl rfl rfl rfl (h_q rfl (q_not rfl) ?_)
      first | refine as_q rfl rfl (q_pick_t rfl rfl) ?_ | refine as_q rfl rfl (q_pick_f rfl rfl) ?_ | refine as_q rfl rfl (q_pick rfl rfl rfl) ?_
      refine as_nil (hK17 _ _ ?_)
      clear hK17 K17
      refine cw_true rfl ?_
      refine cw_rs fun K18 hK18 => ?_
      -- region 9
      refine as_q rfl rfl (q_build (zs := [(.int .i64 0), (.int .i64 0)]) (places := [(0, 1), (1, 1)]) (cs := [_, _]) (by kernel_rfl) (by kernel_rfl) rfl rfl) ?_
      refine as_h0 (h_store hs4.sat hoR rfl rfl rfl (by kernel_rfl) rfl rfl rfl fun w6 hs6 hn6 => ?_)
      clear hoR; have hoR := hn6; clear hn6
      replace hT := hT.own hs6 hRw
      have hz6 := hs6.size
      refine as_q rfl rfl (q_assign rfl) ?_
      refine as_nil (hK18 _ _ ?_)
      clear hK18 K18
      refine cw_ret ?_
      have hnt : ∀ e : El, InR e.1 ∧ InR e.2 → textE e ≠ bs := fun e he h => by
        have h1 := cut_text e
        rw [h, hsp, cut_at hno] at h1
        simp only [Prod.mk.injEq] at h1
        replace h1 := And.intro h1.1.symm h1.2.symm
        exact hn1 _ he.1 h1.1
      exact ⟨_, (res_cell rfl (loadVar_n (n := 2) (by kernel_rfl) (by first | exact Blk.cells hoR.1 rfl | assumption)) (res_tmp rfl res_nil)), .inr ⟨hnt, rfl⟩, hT⟩
    · skip
      refine cw_rs fun K19 hK19 => ?_
      -- region 8
      refine as_q rfl rfl (q_move rfl) ?_
      refine as_q rfl rfl (q_not rfl) ?_
      refine as_q rfl rfl (q_move rfl) ?_
      first | refine as_gskip rfl rfl rfl rfl rfl ?_ | refine as_gskipU rfl rfl rfl rfl ?_ | refine as_gh rfl rfl rfl rfl (h_q rfl (q_move rfl) ?_)
      first | refine as_gskip rfl rfl rfl rfl rfl ?_ | refine as_gskipU rfl rfl rfl rfl ?_ | refine as_gh rfl rfl rfl rfl (h_q rfl (q_not rfl) ?_)
      first | refine as_q rfl rfl (q_pick_t rfl rfl) ?_ | refine as_q rfl rfl (q_pick_f rfl rfl) ?_ | refine as_q rfl rfl (q_pick rfl rfl rfl) ?_
      refine as_nil (hK19 _ _ ?_)
      clear hK19 K19
      refine cw_true rfl ?_
      refine cw_rs fun K20 hK20 => ?_
      -- region 9
      refine as_q rfl rfl (q_build (zs := [(.int .i64 0), (.int .i64 0)]) (places := [(0, 1), (1, 1)]) (cs := [_, _]) (by kernel_rfl) (by kernel_rfl) rfl rfl) ?_
      refine as_h0 (h_store hs4.sat hoR rfl rfl rfl (by kernel_rfl) rfl rfl rfl fun w7 hs7 hn7 => ?_)
      clear hoR; have hoR := hn7; clear hn7
      replace hT := hT.own hs7 hRw
      have hz7 := hs7.size
      refine as_q rfl rfl (q_assign rfl) ?_
      refine as_nil (hK20 _ _ ?_)
      clear hK20 K20
      refine cw_ret ?_
      have hnt : ∀ e : El, InR e.1 ∧ InR e.2 → textE e ≠ bs := fun e he h => by
        have h1 := cut_text e
        rw [h, hsp, cut_at hno] at h1
        simp only [Prod.mk.injEq] at h1
        replace h1 := And.intro h1.1.symm h1.2.symm
        exact hn2 _ he.2 h1.2
      exact ⟨_, (res_cell rfl (loadVar_n (n := 2) (by kernel_rfl) (by first | exact Blk.cells hoR.1 rfl | assumption)) (res_tmp rfl res_nil)), .inr ⟨hnt, rfl⟩, hT⟩
  · skip
    have hilt := (List.getElem?_eq_some_iff.1 hb).1
    refine cw_rs fun K21 hK21 => ?_
    -- region 2
    refine as_q rfl rfl (q_move rfl) ?_
    refine as_q rfl rfl (q_move rfl) ?_
    refine as_q rfl rfl (q_lenL (by kernel_rfl) rfl _) ?_
    refine as_q rfl rfl (q_ltT rfl rfl (by omega)) ?_
    refine as_q rfl rfl (q_move rfl) ?_
    first | refine as_gskip rfl rfl rfl rfl rfl ?_ | refine as_gskipU rfl rfl rfl rfl ?_ | refine as_gh rfl rfl rfl rfl (h_q rfl (q_move rfl) ?_)
    first | refine as_gskip rfl rfl rfl rfl rfl ?_ | refine as_gskipU rfl rfl rfl rfl ?_ | refine as_gh rfl rfl rfl rfl (h_q rfl (q_move rfl) ?_)
    first | refine as_gskip rfl rfl rfl rfl rfl ?_ | refine as_gskipU rfl rfl rfl rfl ?_ | refine as_gh rfl rfl rfl rfl (h_q rfl (q_atL (by kernel_rfl) rfl rfl (by omega) (b := b) (by simpa using hb)) ?_)
    first | refine as_gskip rfl rfl rfl rfl rfl ?_ | refine as_gskipU rfl rfl rfl rfl ?_ | refine as_gh rfl rfl rfl rfl (h_q rfl (q_neT rfl rfl (by intro h; exact h58 (UInt8.toNat_inj.1 (show b.toNat = 58 by omega)))) ?_)
    first | refine as_q rfl rfl (q_pick_t rfl rfl) ?_ | refine as_q rfl rfl (q_pick_f rfl rfl) ?_ | refine as_q rfl rfl (q_pick rfl rfl rfl) ?_
    refine as_nil (hK21 _ _ ?_)
    clear hK21 K21
    refine cw_true rfl ?_
    refine cw_skip ?_
    refine hK4 _ _ ?_
    clear hK4 K4
    refine cw_block ?_
    refine cw_region fun K22 hK22 => ?_
    -- region 3
    refine as_q rfl rfl (q_move rfl) ?_
    refine as_q rfl rfl (q_addx rfl rfl (by omega) (by omega)) ?_
    refine as_q rfl rfl (q_assign rfl) ?_
    refine as_nil (hK22 _ _ ?_)
    clear hK22 K22
    refine ⟨_, _, ?_, (.cons rfl (.cons rfl (.cons rfl (.cons rfl (.nil _))))), i + 1, rfl, by omega, ?_, rfl, hT, hoR⟩
    · omega
    · rw [List.take_add_one, hb]
      intro hm
      rcases List.mem_append.1 hm with hm | hm
      · exact hno hm
      · exact h58 (by simpa using (List.mem_singleton.1 hm).symm)

/-- What a text is. -/
def PR (bs : List UInt8) (r : El) (c : Int) : Prop := ((InR r.1 ∧ InR r.2) ∧ textE r = bs ∧ c = 0) ∨ ((∀ e : El, InR e.1 ∧ InR e.2 → textE e ≠ bs) ∧ r = (0, 0) ∧ c = 10)
theorem PR.same {bs : List UInt8} {r r' : El} {c c' : Int} (h : PR bs r c) (h' : PR bs r' c') : r' = r ∧ c' = c := by
  rcases h with ⟨h1, h2, rfl⟩ | ⟨h1, rfl, rfl⟩ <;> rcases h' with ⟨h3, h4, rfl⟩ | ⟨h3, rfl, rfl⟩
  · exact ⟨text_inj h3 h1 (h4.trans h2.symm), rfl⟩
  · exact absurd h2 (h3 _ h1)
  · exact absurd h4 (h1 _ h3)
  · exact ⟨rfl, rfl⟩
theorem PR.yes {bs : List UInt8} {r e : El} {c : Int} (h : PR bs r c) (he : InR e.1 ∧ InR e.2) (ht : textE e = bs) : r = e ∧ c = 0 := PR.same (.inl ⟨he, ht, rfl⟩) h
theorem PR.no {bs : List UInt8} {r : El} {c : Int} (h : PR bs r c) (ht : ∀ e, textE e ≠ bs) : r = (0, 0) ∧ c = 10 := PR.same (.inr ⟨fun e _ => ht e, rfl, rfl⟩) h
theorem z_parseR {w : World} {M : Mem} {bs : List UInt8} (hs : Sat M w) (hg : Glob M) (hn : bs.length ≤ 1000000) :
    Does Tryd.prog 18 #[.string ⟨bs.toArray⟩] w (fun v w' => ∃ r c, v = .tuple #[.agg (elc r).toArray, .int .i64 c] ∧ PR bs r c ∧ Step Nope M w M w') :=
  (z_parseE hs hg hn).mono fun v w' ⟨h, k⟩ => by
    rcases h with ⟨e, h1, h2, h3⟩ | ⟨h1, h2⟩
    · exact ⟨e, 0, h3, .inl ⟨h1, h2, rfl⟩, k⟩
    · exact ⟨(0, 0), 10, h2, .inr ⟨h1, rfl, rfl⟩, k⟩
theorem ref_parseR {w : World} {M : Mem} {bs : List UInt8} (hs : Sat M w) (hn : bs.length ≤ 1000000) :
    Does Tryd.prog 19 #[.string ⟨bs.toArray⟩] w (fun v w' => ∃ r c, v = .tuple #[.agg (elc r).toArray, .int .i64 c] ∧ PR bs r c ∧ Step Nope M w M w') :=
  (ref_parseE hs hn).mono fun v w' ⟨h, k⟩ => by
    rcases h with ⟨e, h1, h2, h3⟩ | ⟨h1, h2⟩
    · exact ⟨e, 0, h3, .inl ⟨h1, h2, rfl⟩, k⟩
    · exact ⟨(0, 0), 10, h2, .inr ⟨h1, rfl, rfl⟩, k⟩
theorem text_len {e : El} (he : InR e.1 ∧ InR e.2) : (textE e).length ≤ 41 := by
  have h1 := itoa_len he.1.1 he.1.2
  have h2 := itoa_len he.2.1 he.2.2
  unfold textE
  rw [List.length_append, List.length_cons]
  omega

end Go.Proofs.YtbfjkclijjhlhaaDoor
