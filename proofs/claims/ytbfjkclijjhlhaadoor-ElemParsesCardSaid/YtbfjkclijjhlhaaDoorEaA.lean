/- Elements: the library s contracts, texts, part 1. -/
import Derived.Test.YtbfjkclijjhlhaaDoorElgB
import Derived.Test.YtbfjkclijjhlhaaDoorShelf
import Derived.Test.YtbfjkclijjhlhaaDoorNum
import Derived.Lib.AppendIntMem
namespace Go.Proofs.YtbfjkclijjhlhaaDoor
open Go Go.Eng
/-- The package-level variables that are read. -/
structure Glob (M : Mem) : Prop where
  pow : ∃ e, M 3 = some (Lib.pow10Tab.map (Value.int .u64), e)
  syn : ∃ ev e, M 1 = some ([ev], e) ∧ (ev = .nilIface ∨ ∃ te pe, ev = .iface te pe)
  rng : ∃ ev e, M 2 = some ([ev], e) ∧ (ev = .nilIface ∨ ∃ te pe, ev = .iface te pe)
theorem Glob.mono {M M' : Mem} (h : Glob M) (k : Le M M') : Glob M' := by
  obtain ⟨⟨e, h1⟩, ⟨ev, e2, h2, h3⟩, ⟨ew, e3, h4, h5⟩⟩ := h
  exact ⟨⟨e, k _ _ h1⟩, ⟨ev, e2, k _ _ h2, h3⟩, ⟨ew, e3, k _ _ h4, h5⟩⟩

theorem z_format {w : World} {M : Mem} {n : Int} (hs : Sat M w) (hg : Glob M) (h : InR n) :
    Does Tryd.prog 32 #[.int .i64 n, .int .i64 10] w (fun v w' => v = .string ⟨(Lib.itoa n).toArray⟩ ∧ Step Nope M w M w') := by
  obtain ⟨e, hp⟩ := hg.pow
  refine Does.of_calls (Any.strconv_FormatInt_10 Tryd.laysM173 n h.1 h.2 w (tabIs_of (by kernel_rfl) hp hs)) ?_
  rintro e w' ⟨rfl, k, os, rfl⟩
  exact ⟨_, rfl, rfl, Step.of_below hs (Lib.below_grow _ w (Nat.le_refl _) k os)⟩

theorem z_parse {w : World} {M : Mem} {bs : List UInt8} (hs : Sat M w) (hg : Glob M) (hn : bs.length ≤ 1000000) :
    Does Tryd.prog 30 #[.string ⟨bs.toArray⟩, .int .i64 10, .int .i64 64] w (fun v w' => ∃ x er, v = .tuple #[.int .i64 x, er] ∧ ((Lib.parseIntB 64 bs = .ok x ∧ er = .nilIface) ∨ ((∀ p, Lib.parseIntB 64 bs ≠ .ok p) ∧ ∃ d z, er = .iface d z)) ∧ Step Nope M w M w') := by
  have hsz : (ByteArray.mk bs.toArray).size ≤ 1000000 := by rw [bytes_size]; exact hn
  have hcell : ∀ {g : Nat} {ev : Value} {e : TypeId}, M g = some ([ev], e) → w.cell? ⟨g, 0, none⟩ = some ev := fun hm => (hs _ _ _ hm).cell rfl
  cases hp : Lib.parseIntB 64 bs with
  | ok x =>
    refine Does.of_calls (Any.strconv_ParseInt_10_at64_ok Tryd.laysC174 ⟨bs.toArray⟩ (by omega) x hp w) ?_
    rintro e w' ⟨rfl, hw⟩
    refine ⟨_, rfl, x, _, rfl, .inl ⟨rfl, rfl⟩, ?_⟩
    rcases hw with rfl | ⟨t, rfl⟩
    · exact Step.refl _ hs
    · exact Step.of_below hs (Lib.bytesWorld_below _ _ _)
  | range =>
    obtain ⟨ev, e, hm, hev⟩ := hg.rng
    refine Does.of_calls (Any.strconv_ParseInt_10_at64_range Tryd.laysC174 ⟨bs.toArray⟩ (by omega) hp ev w (hcell hm) hev) ?_
    rintro e w' ⟨N, rfl, _, _, hb⟩
    exact ⟨_, rfl, _, _, rfl, .inr ⟨fun p h => by (cases h), _, _, rfl⟩, Step.of_below hs hb⟩
  | _ =>
    obtain ⟨ev, e, hm, hev⟩ := hg.syn
    refine Does.of_calls (Any.strconv_ParseInt_10_at64_syntax Tryd.laysC174 ⟨bs.toArray⟩ (by omega) hp ev w (hcell hm) hev) ?_
    rintro e w' ⟨N, rfl, _, _, hb⟩
    exact ⟨_, rfl, _, _, rfl, .inr ⟨fun p h => by (cases h), _, _, rfl⟩, Step.of_below hs hb⟩

theorem z_index {w : World} {M : Mem} {bs : List UInt8} (hs : Sat M w) :
    Does Tryd.prog 51 #[.string ⟨bs.toArray⟩, .string ⟨#[58]⟩] w (fun v w' => v = .int .i64 (Lib.indexByte bs 58) ∧ Step Nope M w M w') := by
  refine Does.of_calls (Any.stringslite_Index_one Tryd.lays219 ⟨bs.toArray⟩ 58 w) ?_
  rintro e w' ⟨rfl, rfl⟩
  exact ⟨_, rfl, rfl, Step.refl _ hs⟩

theorem z_cut_none {w : World} {M : Mem} {bs : List UInt8} (hs : Sat M w) (hm : (58 : UInt8) ∉ bs) (_hn : bs.length ≤ 1000000) :
    Does Tryd.prog 37 #[.string ⟨bs.toArray⟩, .string ⟨#[58]⟩] w (fun v w' => ∃ f, v = .tuple #[.string ⟨(cutE bs).1.toArray⟩, .string ⟨(cutE bs).2.toArray⟩, .bool f] ∧ Step Nope M w M w') := by
  have hT := Step.refl Nope hs
  have hi := index_none hm
  refine fn_enter Tryd.func37 rfl (rs := [.tmp 4, .tmp 5, .tmp 6]) rfl rfl rfl rfl ?_
  refine cw_rs fun K1 hK1 => ?_
  -- region 0
  refine as_q rfl rfl (q_assign rfl) ?_
  refine as_q rfl rfl (q_assign rfl) ?_
  refine as_q rfl rfl (q_assign rfl) ?_
  refine as_nil (hK1 _ _ ?_)
  clear hK1 K1
  refine cw_seq fun K2 hK2 => ?_
  refine cw_rs fun K3 hK3 => ?_
  -- region 1
  refine as_q rfl rfl (q_move rfl) ?_
  refine as_q rfl rfl (q_move rfl) ?_
  refine as_h rfl (h_call (by kernel_rfl) rfl ?_)
  refine (z_index hs).mono ?_
  rintro _ w1 ⟨rfl, hs1⟩
  rw [hi]
  replace hT := hT.then hs1
  refine as_q rfl rfl (q_assign rfl) ?_
  refine as_nil (hK3 _ _ ?_)
  clear hK3 K3
  refine cw_rs fun K4 hK4 => ?_
  -- region 2
  refine as_q rfl rfl (q_move rfl) ?_
  first | refine as_q rfl rfl (q_geT rfl rfl (by omega)) ?_ | refine as_q rfl rfl (q_geF rfl rfl (by omega)) ?_ | refine as_q rfl rfl (q_ge rfl rfl) ?_
  refine as_nil (hK4 _ _ ?_)
  clear hK4 K4
  refine cw_false rfl ?_
  refine cw_skip ?_
  refine hK2 _ _ ?_
  clear hK2 K2
  refine cw_rs fun K5 hK5 => ?_
  -- region 4
  refine as_q rfl rfl (q_move rfl) ?_
  refine as_q rfl rfl (q_assign rfl) ?_
  refine as_q rfl rfl (q_assign rfl) ?_
  refine as_q rfl rfl (q_assign rfl) ?_
  refine as_nil (hK5 _ _ ?_)
  clear hK5 K5
  refine cw_ret ?_
  refine ⟨_, (res_tmp rfl (res_tmp rfl (res_tmp rfl res_nil))), false, ?_, hT⟩
  rw [cut_none hm]
  rfl

theorem z_cut_at {w : World} {M : Mem} {a b : List UInt8} (hs : Sat M w) (hm : (58 : UInt8) ∉ a) (hn : (a ++ 58 :: b).length ≤ 1000000) :
    Does Tryd.prog 37 #[.string ⟨(a ++ 58 :: b).toArray⟩, .string ⟨#[58]⟩] w (fun v w' => ∃ f, v = .tuple #[.string ⟨(cutE (a ++ 58 :: b)).1.toArray⟩, .string ⟨(cutE (a ++ 58 :: b)).2.toArray⟩, .bool f] ∧ Step Nope M w M w') := by
  have hT := Step.refl Nope hs
  have hi := index_at (b := b) hm
  simp only [List.length_append, List.length_cons] at hn
  refine fn_enter Tryd.func37 rfl (rs := [.tmp 4, .tmp 5, .tmp 6]) rfl rfl rfl rfl ?_
  refine cw_rs fun K1 hK1 => ?_
  -- region 0
  refine as_q rfl rfl (q_assign rfl) ?_
  refine as_q rfl rfl (q_assign rfl) ?_
  refine as_q rfl rfl (q_assign rfl) ?_
  refine as_nil (hK1 _ _ ?_)
  clear hK1 K1
  refine cw_seq fun K2 hK2 => ?_
  refine cw_rs fun K3 hK3 => ?_
  -- region 1
  refine as_q rfl rfl (q_move rfl) ?_
  refine as_q rfl rfl (q_move rfl) ?_
  refine as_h rfl (h_call (by kernel_rfl) rfl ?_)
  refine (z_index hs).mono ?_
  rintro _ w1 ⟨rfl, hs1⟩
  rw [hi]
  replace hT := hT.then hs1
  refine as_q rfl rfl (q_assign rfl) ?_
  refine as_nil (hK3 _ _ ?_)
  clear hK3 K3
  refine cw_rs fun K4 hK4 => ?_
  -- region 2
  refine as_q rfl rfl (q_move rfl) ?_
  first | refine as_q rfl rfl (q_geT rfl rfl (by omega)) ?_ | refine as_q rfl rfl (q_geF rfl rfl (by omega)) ?_ | refine as_q rfl rfl (q_ge rfl rfl) ?_
  refine as_nil (hK4 _ _ ?_)
  clear hK4 K4
  refine cw_true rfl ?_
  refine cw_rd (by kernel_rfl) (by kernel_rfl) (by kernel_rfl) rfl rfl fun K5 hK5 => ?_
  -- region 3
  have hs2 := Step.drew hs1.sat
  replace hT := hT.then hs2
  refine at_q (i := 0) (li := #[true, false, false, false, false, false, false, false, false, false, false, false]) rfl (by kernel_rfl) rfl (fun _ => (q_move rfl)) (by kernel_rfl) ?_
  refine at_q (i := 1) (li := #[true, true, false, false, false, false, false, false, false, false, false, false]) rfl (by kernel_rfl) rfl (fun _ => (q_move rfl)) (by kernel_rfl) ?_
  refine at_q (i := 2) (li := #[true, true, true, false, false, false, false, false, false, false, false, false]) rfl (by kernel_rfl) rfl (fun _ => (q_takeL (by kernel_rfl) rfl rfl (by omega) (by simp; omega))) (by kernel_rfl) ?_
  refine at_q (i := 3) (li := #[true, true, true, true, false, false, false, false, false, false, false, false]) rfl (by kernel_rfl) rfl (fun _ => (q_move rfl)) (by kernel_rfl) ?_
  refine at_q (i := 4) (li := #[true, true, true, true, true, false, false, false, false, false, false, false]) rfl (by kernel_rfl) rfl (fun _ => (q_move rfl)) (by kernel_rfl) ?_
  refine at_q (i := 5) (li := #[true, true, true, true, true, true, false, false, false, false, false, false]) rfl (by kernel_rfl) rfl (fun _ => (q_move rfl)) (by kernel_rfl) ?_
  refine at_q (i := 6) (li := #[true, true, true, true, true, true, true, false, false, false, false, false]) rfl (by kernel_rfl) rfl (fun _ => (q_lenL (by kernel_rfl) rfl _)) (by kernel_rfl) ?_
  refine at_q (i := 7) (li := #[true, true, true, true, true, true, true, true, false, false, false, false]) rfl (by kernel_rfl) rfl (fun _ => (q_congr (q_addx rfl rfl (by simp; omega) (by simp; omega)) (v' := .int .i64 ((a.length + 1 : Nat) : Int)) (congrArg (Value.int .i64) (by simp)))) (by kernel_rfl) ?_
  refine at_q (i := 8) (li := #[true, true, true, true, true, true, true, true, true, false, false, false]) rfl (by kernel_rfl) rfl (fun _ => (q_dropL (by kernel_rfl) rfl rfl (by omega) (by simp; omega))) (by kernel_rfl) ?_
  refine at_q (i := 9) (li := #[true, true, true, true, true, true, true, true, true, true, false, false]) rfl (by kernel_rfl) rfl (fun _ => (q_assign rfl)) (by kernel_rfl) ?_
  refine at_q (i := 10) (li := #[true, true, true, true, true, true, true, true, true, true, true, false]) rfl (by kernel_rfl) rfl (fun _ => (q_assign rfl)) (by kernel_rfl) ?_
  refine at_q (i := 11) (li := #[true, true, true, true, true, true, true, true, true, true, true, true]) rfl (by kernel_rfl) rfl (fun _ => (q_assign rfl)) (by kernel_rfl) ?_
  refine at_done (by kernel_rfl) (hK5 _ _ ?_)
  clear hK5 K5
  refine cw_ret ?_
  refine ⟨_, (res_tmp rfl (res_tmp rfl (res_tmp rfl res_nil))), true, ?_, hT⟩
  rw [cut_at hm]
  simp [pack]

theorem z_cut0 {w : World} {M : Mem} {bs : List UInt8} (hs : Sat M w) (hn : bs.length ≤ 1000000) :
    Does Tryd.prog 37 #[.string ⟨bs.toArray⟩, .string ⟨#[58]⟩] w (fun v w' => ∃ f, v = .tuple #[.string ⟨(cutE bs).1.toArray⟩, .string ⟨(cutE bs).2.toArray⟩, .bool f] ∧ Step Nope M w M w') := by
  by_cases h : (58 : UInt8) ∈ bs
  · obtain ⟨a, b, rfl, ha⟩ := split_at h
    exact z_cut_at hs ha hn
  · exact z_cut_none hs h hn

theorem z_cut {w : World} {M : Mem} {bs : List UInt8} (hs : Sat M w) (hn : bs.length ≤ 1000000) :
    Does Tryd.prog 29 #[.string ⟨bs.toArray⟩, .string ⟨#[58]⟩] w (fun v w' => ∃ f, v = .tuple #[.string ⟨(cutE bs).1.toArray⟩, .string ⟨(cutE bs).2.toArray⟩, .bool f] ∧ Step Nope M w M w') := by
  have hT := Step.refl Nope hs
  refine fn_enter Tryd.func29 rfl (rs := [.tmp 4, .tmp 5, .tmp 6]) rfl rfl rfl rfl ?_
  refine cw_rs fun K1 hK1 => ?_
  -- region 0
  refine as_q rfl rfl (q_assign rfl) ?_
  refine as_q rfl rfl (q_assign rfl) ?_
  refine as_q rfl rfl (q_assign rfl) ?_
  refine as_nil (hK1 _ _ ?_)
  clear hK1 K1
  refine cw_rs fun K2 hK2 => ?_
  -- region 1
  refine as_q rfl rfl (q_move rfl) ?_
  refine as_q rfl rfl (q_move rfl) ?_
  refine as_h rfl (h_call (by kernel_rfl) rfl ?_)
  refine (z_cut0 hs hn).mono ?_
  rintro _ w1 ⟨f, rfl, hs1⟩
  replace hT := hT.then hs1
  refine as_q rfl rfl (q_extract rfl rfl) ?_
  refine as_q rfl rfl (q_extract rfl rfl) ?_
  refine as_q rfl rfl (q_extract rfl rfl) ?_
  refine as_q rfl rfl (q_assign rfl) ?_
  refine as_q rfl rfl (q_assign rfl) ?_
  refine as_q rfl rfl (q_assign rfl) ?_
  refine as_nil (hK2 _ _ ?_)
  clear hK2 K2
  refine cw_ret ?_
  exact ⟨_, (res_tmp rfl (res_tmp rfl (res_tmp rfl res_nil))), f, rfl, hT⟩

theorem z_text {w : World} {M : Mem} {e : El} (hs : Sat M w) (hg : Glob M) (he : InR e.1 ∧ InR e.2) :
    Does Tryd.prog 20 #[.agg (elc e).toArray] w (fun v w' => v = .string ⟨(textE e).toArray⟩ ∧ Step Nope M w M w') := by
  have hT := Step.refl Nope hs
  have hl1 := itoa_len he.1.1 he.1.2
  have hl2 := itoa_len he.2.1 he.2.2
  refine fn_enter Tryd.func20 rfl (rs := [.tmp 2]) rfl rfl rfl rfl ?_
  refine cw_rs fun K1 hK1 => ?_
  -- region 0
  have hqa1 := hT.size
  refine as_h rfl (h_boxO hs rfl rfl fun b1 w1 hs1 ho1 e1 => ?_)
  replace hg := hg.mono hs1.le
  replace hT := hT.then hs1
  have hl1 := ho1.1.lt
  refine as_q rfl rfl (q_assign rfl) ?_
  refine as_nil (hK1 _ _ ?_)
  clear hK1 K1
  refine cw_rd (by kernel_rfl) (by kernel_rfl) (by kernel_rfl) rfl rfl fun K2 hK2 => ?_
  -- region 1
  have hs2 := Step.drew hs1.sat
  replace hg := hg.mono hs2.le
  replace ho1 := ho1.then hs2
  replace hT := hT.then hs2
  refine at_q (i := 0) (li := #[true, false, false, false, false, false, false, false, false]) rfl (by kernel_rfl) rfl (fun _ => (q_fieldAddr (off := 0) (by kernel_rfl) rfl)) (by kernel_rfl) ?_
  refine at_l (i := 1) (li := #[true, true, false, false, false, false, false, false, false]) (cellIs _ _ _) rfl (by kernel_rfl) rfl (fun _ h => q_load1 (by kernel_rfl) rfl h) (by first | exact Blk.cell ho1.1 rfl | assumption) (by kernel_rfl) ?_
  refine at_q (i := 4) (li := #[true, true, false, false, true, false, false, false, false]) rfl (by kernel_rfl) rfl (fun _ => (q_fieldAddr (off := 1) (by kernel_rfl) rfl)) (by kernel_rfl) ?_
  refine at_l (i := 5) (li := #[true, true, false, false, true, true, false, false, false]) (cellIs _ _ _) rfl (by kernel_rfl) rfl (fun _ h => q_load1 (by kernel_rfl) rfl h) (by first | exact Blk.cell ho1.1 rfl | assumption) (by kernel_rfl) ?_
  refine at_h (i := 2) (li := #[true, true, true, false, true, true, false, false, false]) rfl (by kernel_rfl) rfl (keep_sift (bs := [false, true]) (by kernel_rfl)) (by kernel_rfl) (h_call (by kernel_rfl) rfl ?_)
  refine (z_format hs2.sat hg he.1).mono ?_
  rintro _ w3 ⟨rfl, hs3⟩
  replace hg := hg.mono hs3.le
  replace ho1 := ho1.then hs3
  replace hT := hT.then hs3
  refine ⟨(by repeat' first | exact trivial | exact Blk.cell ho1.1 rfl | exact Blk.cells ho1.1 rfl | assumption | refine all_keep ?_ | refine And.intro ?_ ?_), ?_⟩
  refine at_q (i := 3) (li := #[true, true, true, true, true, true, false, false, false]) rfl (by kernel_rfl) rfl (fun _ => (q_catL rfl rfl (by simp; omega))) (by kernel_rfl) ?_
  refine at_h (i := 6) (li := #[true, true, true, true, true, true, true, false, false]) rfl (by kernel_rfl) rfl (keep_sift (bs := [true]) (by kernel_rfl)) (by kernel_rfl) (h_call (by kernel_rfl) rfl ?_)
  refine (z_format hs3.sat hg he.2).mono ?_
  rintro _ w4 ⟨rfl, hs4⟩
  replace hg := hg.mono hs4.le
  replace ho1 := ho1.then hs4
  replace hT := hT.then hs4
  refine ⟨(by repeat' first | exact trivial | exact Blk.cell ho1.1 rfl | exact Blk.cells ho1.1 rfl | assumption | refine all_keep ?_ | refine And.intro ?_ ?_), ?_⟩
  refine at_q (i := 7) (li := #[true, true, true, true, true, true, true, true, false]) rfl (by kernel_rfl) rfl (fun _ => (q_catL rfl rfl (by simp; omega))) (by kernel_rfl) ?_
  refine at_q (i := 8) (li := #[true, true, true, true, true, true, true, true, true]) rfl (by kernel_rfl) rfl (fun _ => (q_assign rfl)) (by kernel_rfl) ?_
  refine at_done (by kernel_rfl) (hK2 _ _ ?_)
  clear hK2 K2
  refine cw_ret ?_
  refine ⟨_, (res_tmp rfl res_nil), ?_, hT⟩
  rw [show textE e = Lib.itoa e.1 ++ [58] ++ Lib.itoa e.2 from by simp [textE]]
  rfl

theorem cut_len (bs : List UInt8) : (cutE bs).1.length ≤ bs.length ∧ (cutE bs).2.length ≤ bs.length := by
  by_cases h : (58 : UInt8) ∈ bs
  · obtain ⟨a, b, rfl, ha⟩ := split_at h
    rw [cut_at ha]
    simp only [List.length_append, List.length_cons]
    omega
  · rw [cut_none h]; exact ⟨Nat.le_refl _, Nat.zero_le _⟩

theorem z_parseE {w : World} {M : Mem} {bs : List UInt8} (hs : Sat M w) (hg : Glob M) (hn : bs.length ≤ 1000000) :
    Does Tryd.prog 18 #[.string ⟨bs.toArray⟩] w (fun v w' => ((∃ e : El, (InR e.1 ∧ InR e.2) ∧ textE e = bs ∧ v = .tuple #[.agg (elc e).toArray, .int .i64 0]) ∨ ((∀ e : El, InR e.1 ∧ InR e.2 → textE e ≠ bs) ∧ v = .tuple #[.agg (elc (0, 0)).toArray, .int .i64 10])) ∧ Step Nope M w M w') := by
  have hT := Step.refl Nope hs
  have hcl := cut_len bs
  refine fn_enter Tryd.func18 rfl (rs := [.cell 2 23, .tmp 3]) rfl rfl rfl rfl ?_
  refine cw_rs fun K1 hK1 => ?_
  -- region 0
  have hqaR := hT.size
  refine as_h rfl (h_allocO (z := (.agg #[(.int .i64 0), (.int .i64 0)])) hs (by kernel_rfl) rfl fun bR w1 hs1 hoR eR => ?_)
  replace hg := hg.mono hs1.le
  replace hT := hT.then hs1
  have hz1 := hs1.size
  have hlR := hoR.1.lt
  refine as_q rfl rfl (q_assign rfl) ?_
  refine as_nil (hK1 _ _ ?_)
  clear hK1 K1
  refine cw_rs fun K2 hK2 => ?_
  -- region 1
  refine as_q rfl rfl (q_move rfl) ?_
  refine as_h rfl (h_call (by kernel_rfl) rfl ?_)
  refine (z_cut hs1.sat hn).mono ?_
  rintro _ w2 ⟨f, rfl, hs2⟩
  replace hg := hg.mono hs2.le
  replace hoR := hoR.then hs2
  replace hT := hT.then hs2
  have hz2 := hs2.size
  refine as_q rfl rfl (q_move rfl) ?_
  refine as_q rfl rfl (q_extract rfl rfl) ?_
  refine as_q rfl rfl (q_extract rfl rfl) ?_
  refine as_q rfl rfl (q_extract rfl rfl) ?_
  refine as_q rfl rfl (q_assign rfl) ?_
  refine as_q rfl rfl (q_assign rfl) ?_
  refine as_q rfl rfl (q_assign rfl) ?_
  refine as_nil (hK2 _ _ ?_)
  clear hK2 K2
  refine cw_rs fun K3 hK3 => ?_
  -- region 2
  refine as_q rfl rfl (q_move rfl) ?_
  refine as_h rfl (h_call (by kernel_rfl) rfl ?_)
  refine (z_parse hs2.sat hg (by have h := hcl.1; omega)).mono ?_
  rintro _ w3 ⟨x1, er1, rfl, hx1, hs3⟩
  replace hg := hg.mono hs3.le
  replace hoR := hoR.then hs3
  replace hT := hT.then hs3
  have hz3 := hs3.size
  refine as_q rfl rfl (q_move rfl) ?_
  refine as_q rfl rfl (q_extract rfl rfl) ?_
  refine as_q rfl rfl (q_extract rfl rfl) ?_
  refine as_q rfl rfl (q_assign rfl) ?_
  refine as_q rfl rfl (q_assign rfl) ?_
  refine as_nil (hK3 _ _ ?_)
  clear hK3 K3
  refine cw_rs fun K4 hK4 => ?_
  -- region 3
  refine as_q rfl rfl (q_move rfl) ?_
  refine as_h rfl (h_call (by kernel_rfl) rfl ?_)
  refine (z_parse hs3.sat hg (by have h := hcl.2; omega)).mono ?_
  rintro _ w4 ⟨x2, er2, rfl, hx2, hs4⟩
  replace hg := hg.mono hs4.le
  replace hoR := hoR.then hs4
  replace hT := hT.then hs4
  have hz4 := hs4.size
  refine as_q rfl rfl (q_move rfl) ?_
  refine as_q rfl rfl (q_extract rfl rfl) ?_
  refine as_q rfl rfl (q_extract rfl rfl) ?_
  refine as_q rfl rfl (q_assign rfl) ?_
  refine as_q rfl rfl (q_assign rfl) ?_
  refine as_nil (hK4 _ _ ?_)
  clear hK4 K4
  refine cw_rs fun K5 hK5 => ?_
  -- region 4
  refine as_q rfl rfl (q_move rfl) ?_
  refine as_q rfl rfl (q_move rfl) ?_
  refine as_q rfl rfl (q_build (zs := [(.int .i64 0), (.int .i64 0)]) (places := [(0, 1), (1, 1)]) (cs := [_, _]) (by kernel_rfl) (by kernel_rfl) rfl rfl) ?_
  have hqaE := hT.size
  refine as_h rfl (h_allocO (z := (.agg #[(.int .i64 0), (.int .i64 0)])) hs4.sat (by kernel_rfl) rfl fun bE w5 hs5 hoE eE => ?_)
  replace hg := hg.mono hs5.le
  replace hoR := hoR.then hs5
  replace hT := hT.then hs5
  have hz5 := hs5.size
  have hlE := hoE.1.lt
  refine as_h0 (h_store hs5.sat hoE rfl rfl rfl (by kernel_rfl) rfl rfl rfl fun w6 hs6 hn6 => ?_)
  replace hg := hg.mono hs6.le
  replace hoR := hoR.step hs6 (by intro h; cases h; omega)
  clear hoE; have hoE := hn6; clear hn6
  replace hT := hT.own hs6 (by omega)
  have hz6 := hs6.size
  refine as_nil (hK5 _ _ ?_)
  clear hK5 K5
  refine cw_seq fun K6 hK6 => ?_
  have hx3 : (Lib.parseIntB 64 (cutE bs).1 = .ok x1 ∧ er1 = .nilIface) ∧ (Lib.parseIntB 64 (cutE bs).2 = .ok x2 ∧ er2 = .nilIface) ∨ ((∀ p, Lib.parseIntB 64 (cutE bs).1 ≠ .ok p) ∧ ∃ d z, er1 = .iface d z) ∨ ((Lib.parseIntB 64 (cutE bs).1 = .ok x1 ∧ er1 = .nilIface) ∧ (∀ p, Lib.parseIntB 64 (cutE bs).2 ≠ .ok p) ∧ ∃ d z, er2 = .iface d z) := by
    rcases hx1 with h | h
    · rcases hx2 with h2 | h2
      · exact .inl ⟨h, h2⟩
      · exact .inr (.inr ⟨h, h2⟩)
    · exact .inr (.inl h)
  clear hx1 hx2
  rcases hx3 with ⟨⟨hp1, rfl⟩, hp2, rfl⟩ | ⟨hp1, d1, z1, rfl⟩ | ⟨⟨hp1, rfl⟩, hp2, d2, z2, rfl⟩
  · skip
    have hin : InR x1 ∧ InR x2 := ⟨parse_inR hp1, parse_inR hp2⟩
    refine cw_rs fun K7 hK7 => ?_
    -- region 5
    refine as_q rfl rfl (q_move rfl) ?_
    refine as_q rfl rfl (q_neErr Tryd.underlying51 rfl (Or.inl ⟨rfl, rfl⟩)) ?_
    refine as_q rfl rfl (q_move rfl) ?_
    first | refine as_gskip rfl rfl rfl rfl rfl ?_ | refine as_gskipU rfl rfl rfl rfl ?_ | refine as_gh rfl rfl rfl rfl (h_q rfl (q_move rfl) ?_)
    first | refine as_gskip rfl rfl rfl rfl rfl ?_ | refine as_gskipU rfl rfl rfl rfl ?_ | refine as_gh rfl rfl rfl rfl (h_q rfl (q_neErr Tryd.underlying51 rfl (Or.inl ⟨rfl, rfl⟩)) ?_)
    first | refine as_q rfl rfl (q_pick_t rfl rfl) ?_ | refine as_q rfl rfl (q_pick_f rfl rfl) ?_ | refine as_q rfl rfl (q_pick rfl rfl rfl) ?_
    refine as_q rfl rfl (q_move rfl) ?_
    first | refine as_gskip rfl rfl rfl rfl rfl ?_ | refine as_gskipU rfl rfl rfl rfl ?_ | refine as_gh rfl rfl rfl rfl (h_q rfl (q_loadc (n := 2) (by kernel_rfl) rfl (by first | exact Blk.cells hoR.1 rfl | exact Blk.cells hoE.1 rfl | assumption)) ?_)
    refine as_gh rfl rfl rfl rfl (h_call (by kernel_rfl) rfl ?_)
    refine (z_text (e := (x1, x2)) hs6.sat hg hin).mono ?_
    rintro _ w7 ⟨rfl, hs7⟩
    replace hg := hg.mono hs7.le
    replace hoR := hoR.then hs7
    replace hoE := hoE.then hs7
    replace hT := hT.then hs7
    have hz7 := hs7.size
    first | refine as_gskip rfl rfl rfl rfl rfl ?_ | refine as_gskipU rfl rfl rfl rfl ?_ | refine as_gh rfl rfl rfl rfl (h_q rfl (q_move rfl) ?_)
    first | refine as_gskip rfl rfl rfl rfl rfl ?_ | refine as_gskipU rfl rfl rfl rfl ?_ | refine as_gh rfl rfl rfl rfl (h_q rfl (q_neL rfl rfl) ?_)
    first | refine as_q rfl rfl (q_pick_t rfl rfl) ?_ | refine as_q rfl rfl (q_pick_f rfl rfl) ?_ | refine as_q rfl rfl (q_pick rfl rfl rfl) ?_
    refine as_nil (hK7 _ _ ?_)
    clear hK7 K7
    refine cw_cond rfl (fun hc0 => ?_) (fun hc0 => ?_)
    · skip
      have hne : textE (x1, x2) ≠ bs := by simpa using hc0
      refine cw_rs fun K8 hK8 => ?_
      -- region 6
      refine as_q rfl rfl (q_build (zs := [(.int .i64 0), (.int .i64 0)]) (places := [(0, 1), (1, 1)]) (cs := [_, _]) (by kernel_rfl) (by kernel_rfl) rfl rfl) ?_
      refine as_h0 (h_store hs7.sat hoR rfl rfl rfl (by kernel_rfl) rfl rfl rfl fun w8 hs8 hn8 => ?_)
      replace hg := hg.mono hs8.le
      replace hoE := hoE.step hs8 (by intro h; cases h; omega)
      clear hoR; have hoR := hn8; clear hn8
      replace hT := hT.own hs8 (by omega)
      have hz8 := hs8.size
      refine as_q rfl rfl (q_assign rfl) ?_
      refine as_nil (hK8 _ _ ?_)
      clear hK8 K8
      refine cw_ret ?_
      have hno : ∀ e : El, InR e.1 ∧ InR e.2 → textE e ≠ bs := fun e he h => by
        rw [← h, cut_text] at hp1 hp2
        rw [parse_itoa he.1.1 he.1.2] at hp1
        rw [parse_itoa he.2.1 he.2.2] at hp2
        injection hp1 with hp1
        injection hp2 with hp2
        exact hne (by rw [← hp1, ← hp2]; exact h)
      exact ⟨_, (res_cell rfl (loadVar_n (n := 2) (by kernel_rfl) (by first | exact Blk.cells hoR.1 rfl | exact Blk.cells hoE.1 rfl | assumption)) (res_tmp rfl res_nil)), .inr ⟨hno, rfl⟩, hT⟩
    · skip
      have heq : textE (x1, x2) = bs := by simpa using hc0
      refine cw_skip ?_
      refine hK6 _ _ ?_
      clear hK6 K6
      refine cw_rs fun K9 hK9 => ?_
      -- region 7
      refine as_q rfl rfl (q_loadc (n := 2) (by kernel_rfl) rfl (by first | exact Blk.cells hoR.1 rfl | exact Blk.cells hoE.1 rfl | assumption)) ?_
      refine as_h0 (h_store hs7.sat hoR rfl rfl rfl (by kernel_rfl) rfl rfl rfl fun w9 hs9 hn9 => ?_)
      replace hg := hg.mono hs9.le
      replace hoE := hoE.step hs9 (by intro h; cases h; omega)
      clear hoR; have hoR := hn9; clear hn9
      replace hT := hT.own hs9 (by omega)
      have hz9 := hs9.size
      refine as_q rfl rfl (q_assign rfl) ?_
      refine as_nil (hK9 _ _ ?_)
      clear hK9 K9
      refine cw_ret ?_
      exact ⟨_, (res_cell rfl (loadVar_n (n := 2) (by kernel_rfl) (by first | exact Blk.cells hoR.1 rfl | exact Blk.cells hoE.1 rfl | assumption)) (res_tmp rfl res_nil)), .inl ⟨(x1, x2), hin, heq, rfl⟩, hT⟩
  · skip
    refine cw_rs fun K10 hK10 => ?_
    -- region 5
    refine as_q rfl rfl (q_move rfl) ?_
    refine as_q rfl rfl (q_neErr Tryd.underlying51 rfl (Or.inr ⟨_, _, rfl, rfl⟩)) ?_
    refine as_q rfl rfl (q_move rfl) ?_
    first | refine as_gskip rfl rfl rfl rfl rfl ?_ | refine as_gskipU rfl rfl rfl rfl ?_ | refine as_gh rfl rfl rfl rfl (h_q rfl (q_move rfl) ?_)
    first | refine as_gskip rfl rfl rfl rfl rfl ?_ | refine as_gskipU rfl rfl rfl rfl ?_
    first | refine as_q rfl rfl (q_pick_t rfl rfl) ?_ | refine as_q rfl rfl (q_pick_f rfl rfl) ?_ | refine as_q rfl rfl (q_pick rfl rfl rfl) ?_
    refine as_q rfl rfl (q_move rfl) ?_
    first | refine as_gskip rfl rfl rfl rfl rfl ?_ | refine as_gskipU rfl rfl rfl rfl ?_ | refine as_gh rfl rfl rfl rfl (h_q rfl (q_loadc (n := 2) (by kernel_rfl) rfl (by first | exact Blk.cells hoR.1 rfl | exact Blk.cells hoE.1 rfl | assumption)) ?_)
    first | refine as_gskip rfl rfl rfl rfl rfl ?_ | refine as_gskipU rfl rfl rfl rfl ?_
    first | refine as_gskip rfl rfl rfl rfl rfl ?_ | refine as_gskipU rfl rfl rfl rfl ?_ | refine as_gh rfl rfl rfl rfl (h_q rfl (q_move rfl) ?_)
    first | refine as_gskip rfl rfl rfl rfl rfl ?_ | refine as_gskipU rfl rfl rfl rfl ?_ | refine as_gh rfl rfl rfl rfl (h_q rfl (q_neL rfl rfl) ?_)
    first | refine as_q rfl rfl (q_pick_t rfl rfl) ?_ | refine as_q rfl rfl (q_pick_f rfl rfl) ?_ | refine as_q rfl rfl (q_pick rfl rfl rfl) ?_
    refine as_nil (hK10 _ _ ?_)
    clear hK10 K10
    refine cw_true rfl ?_
    refine cw_rs fun K11 hK11 => ?_
    -- region 6
    refine as_q rfl rfl (q_build (zs := [(.int .i64 0), (.int .i64 0)]) (places := [(0, 1), (1, 1)]) (cs := [_, _]) (by kernel_rfl) (by kernel_rfl) rfl rfl) ?_
    refine as_h0 (h_store hs6.sat hoR rfl rfl rfl (by kernel_rfl) rfl rfl rfl fun w10 hs10 hn10 => ?_)
    replace hg := hg.mono hs10.le
    replace hoE := hoE.step hs10 (by intro h; cases h; omega)
    clear hoR; have hoR := hn10; clear hn10
    replace hT := hT.own hs10 (by omega)
    have hz10 := hs10.size
    refine as_q rfl rfl (q_assign rfl) ?_
    refine as_nil (hK11 _ _ ?_)
    clear hK11 K11
    refine cw_ret ?_
    have hno : ∀ e : El, InR e.1 ∧ InR e.2 → textE e ≠ bs := fun e he h => by
      rw [← h, cut_text] at hp1
      exact hp1 _ (parse_itoa he.1.1 he.1.2)
    exact ⟨_, (res_cell rfl (loadVar_n (n := 2) (by kernel_rfl) (by first | exact Blk.cells hoR.1 rfl | exact Blk.cells hoE.1 rfl | assumption)) (res_tmp rfl res_nil)), .inr ⟨hno, rfl⟩, hT⟩
  · skip
    refine cw_rs fun K12 hK12 => ?_
    -- region 5
    refine as_q rfl rfl (q_move rfl) ?_
    refine as_q rfl rfl (q_neErr Tryd.underlying51 rfl (Or.inl ⟨rfl, rfl⟩)) ?_
    refine as_q rfl rfl (q_move rfl) ?_
    first | refine as_gskip rfl rfl rfl rfl rfl ?_ | refine as_gskipU rfl rfl rfl rfl ?_ | refine as_gh rfl rfl rfl rfl (h_q rfl (q_move rfl) ?_)
    first | refine as_gskip rfl rfl rfl rfl rfl ?_ | refine as_gskipU rfl rfl rfl rfl ?_ | refine as_gh rfl rfl rfl rfl (h_q rfl (q_neErr Tryd.underlying51 rfl (Or.inr ⟨_, _, rfl, rfl⟩)) ?_)
    first | refine as_q rfl rfl (q_pick_t rfl rfl) ?_ | refine as_q rfl rfl (q_pick_f rfl rfl) ?_ | refine as_q rfl rfl (q_pick rfl rfl rfl) ?_
    refine as_q rfl rfl (q_move rfl) ?_
    first | refine as_gskip rfl rfl rfl rfl rfl ?_ | refine as_gskipU rfl rfl rfl rfl ?_ | refine as_gh rfl rfl rfl rfl (h_q rfl (q_loadc (n := 2) (by kernel_rfl) rfl (by first | exact Blk.cells hoR.1 rfl | exact Blk.cells hoE.1 rfl | assumption)) ?_)
    first | refine as_gskip rfl rfl rfl rfl rfl ?_ | refine as_gskipU rfl rfl rfl rfl ?_
    first | refine as_gskip rfl rfl rfl rfl rfl ?_ | refine as_gskipU rfl rfl rfl rfl ?_ | refine as_gh rfl rfl rfl rfl (h_q rfl (q_move rfl) ?_)
    first | refine as_gskip rfl rfl rfl rfl rfl ?_ | refine as_gskipU rfl rfl rfl rfl ?_ | refine as_gh rfl rfl rfl rfl (h_q rfl (q_neL rfl rfl) ?_)
    first | refine as_q rfl rfl (q_pick_t rfl rfl) ?_ | refine as_q rfl rfl (q_pick_f rfl rfl) ?_ | refine as_q rfl rfl (q_pick rfl rfl rfl) ?_
    refine as_nil (hK12 _ _ ?_)
    clear hK12 K12
    refine cw_true rfl ?_
    refine cw_rs fun K13 hK13 => ?_
    -- region 6
    refine as_q rfl rfl (q_build (zs := [(.int .i64 0), (.int .i64 0)]) (places := [(0, 1), (1, 1)]) (cs := [_, _]) (by kernel_rfl) (by kernel_rfl) rfl rfl) ?_
    refine as_h0 (h_store hs6.sat hoR rfl rfl rfl (by kernel_rfl) rfl rfl rfl fun w11 hs11 hn11 => ?_)
    replace hg := hg.mono hs11.le
    replace hoE := hoE.step hs11 (by intro h; cases h; omega)
    clear hoR; have hoR := hn11; clear hn11
    replace hT := hT.own hs11 (by omega)
    have hz11 := hs11.size
    refine as_q rfl rfl (q_assign rfl) ?_
    refine as_nil (hK13 _ _ ?_)
    clear hK13 K13
    refine cw_ret ?_
    have hno : ∀ e : El, InR e.1 ∧ InR e.2 → textE e ≠ bs := fun e he h => by
      rw [← h, cut_text] at hp2
      exact hp2 _ (parse_itoa he.2.1 he.2.2)
    exact ⟨_, (res_cell rfl (loadVar_n (n := 2) (by kernel_rfl) (by first | exact Blk.cells hoR.1 rfl | exact Blk.cells hoE.1 rfl | assumption)) (res_tmp rfl res_nil)), .inr ⟨hno, rfl⟩, hT⟩

end Go.Proofs.YtbfjkclijjhlhaaDoor
