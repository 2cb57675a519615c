/- Go s sort of elements: what each of its functions does, part 6. -/
import Derived.Test.YtbfjkclijjhlhaaDoorSrtE
namespace Go.Proofs.YtbfjkclijjhlhaaDoor
open Go Go.Eng
def PdqOk (k : Nat) : Prop := ∀ {w : World} {M : Mem} {g n cap : Nat} {d : Array El} {a b : Nat} {lim : Int}, b - a < k → Sat M w → n ≤ 255 → ElRow 23 w M g n cap d → a ≤ b → b ≤ n → 0 ≤ lim → lim ≤ 64 → Go.Sort.Below ltE a b d →
    Does Tryd.prog 34 #[.slice (some ⟨g, 0, none⟩) n cap, .int .i64 a, .int .i64 b, .int .i64 lim, (.func (.func 16) #[] #[])] w (fun _ w' => Step (Just g) M w M w' ∧ ∃ R, Go.Sort.PermIn a b d R ∧ Go.Sort.SortedIn ltE a b R ∧ ElRow 23 w' M g n cap R)

set_option maxHeartbeats 4000000 in
theorem srt_pdq_step {w : World} {M : Mem} {g n cap : Nat} {d : Array El} {a b : Nat} {lim : Int} (ih : PdqOk (b - a)) (hs : Sat M w) (h255 : n ≤ 255) (hd : ElRow 23 w M g n cap d) (hab : a ≤ b) (hb : b ≤ n) (hl0 : 0 ≤ lim) (hl64 : lim ≤ 64) (hB : Go.Sort.Below ltE a b d) :
    Does Tryd.prog 34 #[.slice (some ⟨g, 0, none⟩) n cap, .int .i64 a, .int .i64 b, .int .i64 lim, (.func (.func 16) #[] #[])] w (fun _ w' => Step (Just g) M w M w' ∧ ∃ R, Go.Sort.PermIn a b d R ∧ Go.Sort.SortedIn ltE a b R ∧ ElRow 23 w' M g n cap R) := by
  have hT := Step.refl (Just g) hs
  have hsz := hd.size
  have hn : n ≤ 100000 := by omega
  refine fn_enter Tryd.func34 rfl (rs := []) rfl rfl rfl rfl ?_
  refine cw_rs fun K1 hK1 => ?_
  -- region 0
  refine as_q rfl rfl (q_assign rfl) ?_
  refine as_nil (hK1 _ _ ?_)
  clear hK1 K1
  refine cw_rs fun K2 hK2 => ?_
  -- region 1
  refine as_q rfl rfl (q_assign rfl) ?_
  refine as_nil (hK2 _ _ ?_)
  clear hK2 K2
  refine cw_block ?_
  refine cw_loop (fun mm l w1 => ∃ (a2 b2 : Nat) (lim2 : Int) (wb wp : Bool) (d2 : Array El), mm = b2 - a2 ∧ b2 - a2 ≤ b - a ∧ a2 ≤ b2 ∧ b2 ≤ n ∧ 0 ≤ lim2 ∧ lim2 ≤ 64 ∧ Go.Sort.Below ltE a2 b2 d2 ∧ (∀ R, Go.Sort.PermIn a2 b2 d2 R → Go.Sort.SortedIn ltE a2 b2 R → Go.Sort.PermIn a b d R ∧ Go.Sort.SortedIn ltE a b R) ∧ l = [(0, .slice (some ⟨g, 0, none⟩) n cap), (1, .int .i64 a2), (2, .int .i64 b2), (3, .int .i64 lim2), (4, (.func (.func 16) #[] #[])), (10, .bool wb), (11, .bool wp)] ∧ Step (Just g) M w M w1 ∧ ElRow 23 w1 M g n cap d2) (b - a) [(0, .slice (some ⟨g, 0, none⟩) n cap), (1, .int .i64 a), (2, .int .i64 b), (3, .int .i64 lim), (4, (.func (.func 16) #[] #[])), (10, .bool true), (11, .bool true)] (.cons rfl (.cons rfl (.cons rfl (.cons rfl (.cons rfl (.cons rfl (.cons rfl (.nil _)))))))) ?_ ?_
  · skip
    exact ⟨a, b, lim, true, true, d, rfl, Nat.le_refl _, hab, hb, hl0, hl64, hB, fun R h1 h2 => ⟨h1, h2⟩, rfl, hT, hd⟩
  clear hT hd hB hl0 hl64
  rintro mm l w1 ⟨a2, b2, lim2, wb, wp, d2, rfl, hab2, hle2, hb2, hl0, hl64, hB, fin, rfl, hT, hd⟩
  have hsz2 := hd.size
  refine cw_block ?_
  refine cw_rs fun K3 hK3 => ?_
  -- region 2
  refine as_q rfl rfl (q_move rfl) ?_
  refine as_q rfl rfl (q_move rfl) ?_
  refine as_q rfl rfl (q_congr (q_subx rfl rfl (by omega) (by omega)) (v' := .int .i64 (b2 - a2 : Nat)) (congrArg (Value.int .i64) (by omega))) ?_
  refine as_q rfl rfl (q_assign rfl) ?_
  refine as_nil (hK3 _ _ ?_)
  clear hK3 K3
  refine cw_seq fun K4 hK4 => ?_
  refine cw_rs fun K5 hK5 => ?_
  -- region 3
  refine as_q rfl rfl (q_move rfl) ?_
  refine as_q rfl rfl (q_le rfl rfl) ?_
  refine as_nil (hK5 _ _ ?_)
  clear hK5 K5
  refine cw_cond rfl (fun hc0 => ?_) (fun hc0 => ?_)
  · skip
    have h12 : b2 - a2 ≤ 12 := by have := of_decide_eq_true hc0; omega
    refine cw_rs fun K6 hK6 => ?_
    -- region 4
    refine as_q rfl rfl (q_move rfl) ?_
    refine as_q rfl rfl (q_move rfl) ?_
    refine as_q rfl rfl (q_move rfl) ?_
    refine as_q rfl rfl (q_move rfl) ?_
    refine as_h rfl (h_call (by kernel_rfl) rfl ?_)
    refine (srt_insertion (a := a2) (b := b2) hT.sat hn hd (by omega) (by omega)).mono ?_
    rintro _ w1 ⟨hs1, hd1⟩
    replace hT := hT.also hs1
    clear hd; have hd := hd1; clear hd1
    refine as_nil (hK6 _ _ ?_)
    clear hK6 K6
    refine cw_ret ?_
    obtain ⟨q1, q2⟩ := Go.Sort.insertionSort_holds swoE d2 a2 b2 (by omega) (by omega)
    obtain ⟨q3, q4⟩ := fin _ q1 q2
    exact ⟨_, res_nil, hT, _, q3, q4, hd⟩
  · skip
    have h12 : ¬ b2 - a2 ≤ 12 := by have := of_decide_eq_false hc0; omega
    refine cw_skip ?_
    refine hK4 _ _ ?_
    clear hK4 K4
    refine cw_seq fun K7 hK7 => ?_
    refine cw_rs fun K8 hK8 => ?_
    -- region 5
    refine as_q rfl rfl (q_move rfl) ?_
    refine as_q rfl rfl (q_eq rfl rfl) ?_
    refine as_nil (hK8 _ _ ?_)
    clear hK8 K8
    refine cw_cond rfl (fun hc1 => ?_) (fun hc1 => ?_)
    · skip
      skip
      refine cw_rs fun K9 hK9 => ?_
      -- region 6
      refine as_q rfl rfl (q_move rfl) ?_
      refine as_q rfl rfl (q_move rfl) ?_
      refine as_q rfl rfl (q_move rfl) ?_
      refine as_q rfl rfl (q_move rfl) ?_
      refine as_h rfl (h_call (by kernel_rfl) rfl ?_)
      refine (srt_heap (a := a2) (b := b2) hT.sat hn hd (by omega) (by omega)).mono ?_
      rintro _ w2 ⟨hs2, hd2⟩
      replace hT := hT.also hs2
      clear hd; have hd := hd2; clear hd2
      refine as_nil (hK9 _ _ ?_)
      clear hK9 K9
      refine cw_ret ?_
      obtain ⟨q1, q2⟩ := Go.Sort.heapSort_holds swoE d2 a2 b2 (by omega) (by omega)
      obtain ⟨q3, q4⟩ := fin _ q1 q2
      exact ⟨_, res_nil, hT, _, q3, q4, hd⟩
    · skip
      have hlz : lim2 ≠ 0 := by have := of_decide_eq_false hc1; omega
      refine cw_skip ?_
      refine hK7 _ _ ?_
      clear hK7 K7
      refine cw_cutS (fun l w1 => ∃ (lim3 : Int) (d3 : Array El), 0 ≤ lim3 ∧ lim3 ≤ 64 ∧ Go.Sort.PermIn a2 b2 d2 d3 ∧ l = [(0, .slice (some ⟨g, 0, none⟩) n cap), (1, .int .i64 a2), (2, .int .i64 b2), (3, .int .i64 lim3), (4, (.func (.func 16) #[] #[])), (10, .bool wb), (11, .bool wp), (12, .int .i64 (b2 - a2 : Nat))] ∧ Step (Just g) M w M w1 ∧ ElRow 23 w1 M g n cap d3) ?_ ?_
      · skip
        refine cw_rs fun K10 hK10 => ?_
        -- region 7
        refine as_q rfl rfl (q_move rfl) ?_
        refine as_q rfl rfl (q_not rfl) ?_
        refine as_nil (hK10 _ _ ?_)
        clear hK10 K10
        refine cw_cond rfl (fun hc2 => ?_) (fun hc2 => ?_)
        · skip
          skip
          · skip
            refine cw_rs fun K11 hK11 => ?_
            -- region 8
            refine as_q rfl rfl (q_move rfl) ?_
            refine as_q rfl rfl (q_move rfl) ?_
            refine as_q rfl rfl (q_move rfl) ?_
            refine as_q rfl rfl (q_move rfl) ?_
            refine as_h rfl (h_call (by kernel_rfl) rfl ?_)
            refine (srt_break (a := a2) (b := b2) hT.sat hn hd (by omega) (by omega) h255).mono ?_
            rintro _ w3 ⟨hs3, d3, hpm, hd3⟩
            replace hT := hT.also hs3
            clear hd; have hd := hd3; clear hd3
            refine as_nil (hK11 _ _ ?_)
            clear hK11 K11
            refine cw_region fun K12 hK12 => ?_
            -- region 9
            refine as_q rfl rfl (q_move rfl) ?_
            refine as_q rfl rfl (q_subx rfl rfl (by omega) (by omega)) ?_
            refine as_q rfl rfl (q_assign rfl) ?_
            refine as_nil (hK12 _ _ ?_)
            clear hK12 K12
            exact ⟨_, (.cons rfl (.cons rfl (.cons rfl (.cons rfl (.cons rfl (.cons rfl (.cons rfl (.cons rfl (.nil _))))))))), _, _, by omega, by omega, hpm, rfl, hT, hd⟩
        · skip
          skip
          · skip
            refine cw_skip ?_
            exact ⟨_, (.cons rfl (.cons rfl (.cons rfl (.cons rfl (.cons rfl (.cons rfl (.cons rfl (.cons rfl (.nil _))))))))), _, _, by omega, by omega, Go.Sort.permIn_refl d2 a2 b2, rfl, hT, hd⟩
      clear hT hd
      rintro l w2 ⟨lim3, d3, hl0, hl64, hP3, rfl, hT, hd⟩
      have hsz3 := hd.size
      refine cw_rs fun K13 hK13 => ?_
      -- region 10
      refine as_q rfl rfl (q_move rfl) ?_
      refine as_q rfl rfl (q_move rfl) ?_
      refine as_q rfl rfl (q_move rfl) ?_
      refine as_q rfl rfl (q_move rfl) ?_
      refine as_h rfl (h_call (by kernel_rfl) rfl ?_)
      refine (srt_choose (a := a2) (b := b2) hT.sat hn hd (by omega) (by omega)).mono ?_
      rintro _ w4 ⟨rfl, hs4, hd4⟩
      replace hT := hT.then hs4
      clear hd; have hd := hd4; clear hd4
      obtain ⟨r, hr⟩ : ∃ zz, zz = Go.Sort.choosePivot ltE d3 a2 b2 := ⟨_, rfl⟩
      simp only [← hr]
      have hrp := Go.Sort.choosePivot_holds ltE d3 a2 b2 (by omega)
      rw [← hr] at hrp
      obtain ⟨hrp1, hrp2⟩ := hrp
      refine as_q rfl rfl (q_move rfl) ?_
      refine as_q rfl rfl (q_extract rfl rfl) ?_
      refine as_q rfl rfl (q_extract rfl rfl) ?_
      refine as_q rfl rfl (q_assign rfl) ?_
      refine as_q rfl rfl (q_assign rfl) ?_
      refine as_nil (hK13 _ _ ?_)
      clear hK13 K13
      refine cw_cutS (fun l w1 => ∃ (p : Nat) (h3 : Int) (d4 : Array El), a2 ≤ p ∧ p < b2 ∧ Go.Sort.PermIn a2 b2 d2 d4 ∧ l = [(0, .slice (some ⟨g, 0, none⟩) n cap), (1, .int .i64 a2), (2, .int .i64 b2), (3, .int .i64 lim3), (4, (.func (.func 16) #[] #[])), (10, .bool wb), (11, .bool wp), (12, .int .i64 (b2 - a2 : Nat)), (13, .int .i64 (p : Nat)), (14, .int .i64 h3)] ∧ Step (Just g) M w M w1 ∧ ElRow 23 w1 M g n cap d4) ?_ ?_
      · skip
        refine cw_rs fun K14 hK14 => ?_
        -- region 11
        refine as_q rfl rfl (q_move rfl) ?_
        refine as_q rfl rfl (q_eq rfl rfl) ?_
        refine as_nil (hK14 _ _ ?_)
        clear hK14 K14
        refine cw_cond rfl (fun hc3 => ?_) (fun hc3 => ?_)
        · skip
          skip
          · skip
            refine cw_rs fun K15 hK15 => ?_
            -- region 12
            refine as_q rfl rfl (q_move rfl) ?_
            refine as_q rfl rfl (q_move rfl) ?_
            refine as_q rfl rfl (q_move rfl) ?_
            refine as_q rfl rfl (q_move rfl) ?_
            refine as_h rfl (h_call (by kernel_rfl) rfl ?_)
            refine (srt_reverse (a := a2) (b := b2) hs4.sat hn hd (by omega) (by omega)).mono ?_
            rintro _ w5 ⟨hs5, hd5⟩
            replace hT := hT.also hs5
            clear hd; have hd := hd5; clear hd5
            have hpr := Go.Sort.reverseRange_holds d3 a2 b2 (by omega) (by omega)
            refine as_nil (hK15 _ _ ?_)
            clear hK15 K15
            refine cw_rs fun K16 hK16 => ?_
            -- region 13
            refine as_q rfl rfl (q_move rfl) ?_
            refine as_q rfl rfl (q_congr (q_subx rfl rfl (by omega) (by omega)) (v' := .int .i64 (b2 - 1 : Nat)) (congrArg (Value.int .i64) (by omega))) ?_
            refine as_q rfl rfl (q_move rfl) ?_
            refine as_q rfl rfl (q_move rfl) ?_
            refine as_q rfl rfl (q_congr (q_subx rfl rfl (by omega) (by omega)) (v' := .int .i64 (r.1 - a2 : Nat)) (congrArg (Value.int .i64) (by omega))) ?_
            refine as_q rfl rfl (q_congr (q_subx rfl rfl (by omega) (by omega)) (v' := .int .i64 (b2 - 1 - (r.1 - a2) : Nat)) (congrArg (Value.int .i64) (by omega))) ?_
            refine as_q rfl rfl (q_assign rfl) ?_
            refine as_nil (hK16 _ _ ?_)
            clear hK16 K16
            refine cw_region fun K17 hK17 => ?_
            -- region 14
            refine as_q rfl rfl (q_assign rfl) ?_
            refine as_nil (hK17 _ _ ?_)
            clear hK17 K17
            exact ⟨_, (.cons rfl (.cons rfl (.cons rfl (.cons rfl (.cons rfl (.cons rfl (.cons rfl (.cons rfl (.cons rfl (.cons rfl (.nil _))))))))))), _, _, _, by omega, by omega, Go.Sort.permIn_trans _ _ _ a2 b2 hP3 hpr, rfl, hT, hd⟩
        · skip
          skip
          · skip
            refine cw_skip ?_
            exact ⟨_, (.cons rfl (.cons rfl (.cons rfl (.cons rfl (.cons rfl (.cons rfl (.cons rfl (.cons rfl (.cons rfl (.cons rfl (.nil _))))))))))), _, _, _, by omega, by omega, hP3, rfl, hT, hd⟩
      clear hT hd
      rintro l w3 ⟨p, h3, d4, hp1, hp2, hP4, rfl, hT, hd⟩
      have hsz4 := hd.size
      refine cw_cutS (fun l w1 => ∃ (d5 : Array El), Go.Sort.PermIn a2 b2 d2 d5 ∧ l = [(0, .slice (some ⟨g, 0, none⟩) n cap), (1, .int .i64 a2), (2, .int .i64 b2), (3, .int .i64 lim3), (4, (.func (.func 16) #[] #[])), (10, .bool wb), (11, .bool wp), (12, .int .i64 (b2 - a2 : Nat)), (13, .int .i64 (p : Nat)), (14, .int .i64 h3)] ∧ Step (Just g) M w M w1 ∧ ElRow 23 w1 M g n cap d5) ?_ ?_
      · skip
        rcases wb with _ | _ <;> rcases wp with _ | _
        · skip
          refine cw_rs fun K18 hK18 => ?_
          -- region 15
          refine as_q rfl rfl (q_move rfl) ?_
          refine as_q rfl rfl (q_move rfl) ?_
          first | refine as_gskip rfl rfl rfl rfl rfl ?_ | refine as_gskipU rfl rfl rfl rfl ?_ | refine as_gh rfl rfl rfl rfl (h_q rfl (q_move rfl) ?_)
          first | refine as_q rfl rfl (q_pick_t rfl rfl) ?_ | refine as_q rfl rfl (q_pick_f rfl rfl) ?_ | refine as_q rfl rfl (q_pick rfl rfl rfl) ?_
          refine as_q rfl rfl (q_move rfl) ?_
          first | refine as_gskip rfl rfl rfl rfl rfl ?_ | refine as_gskipU rfl rfl rfl rfl ?_ | refine as_gh rfl rfl rfl rfl (h_q rfl (q_move rfl) ?_)
          first | refine as_gskip rfl rfl rfl rfl rfl ?_ | refine as_gskipU rfl rfl rfl rfl ?_ | refine as_gh rfl rfl rfl rfl (h_q rfl (q_eqT rfl rfl (by omega)) ?_) | refine as_gh rfl rfl rfl rfl (h_q rfl (q_eqF rfl rfl (by omega)) ?_) | refine as_gh rfl rfl rfl rfl (h_q rfl (q_eq rfl rfl) ?_)
          first | refine as_q rfl rfl (q_pick_t rfl rfl) ?_ | refine as_q rfl rfl (q_pick_f rfl rfl) ?_ | refine as_q rfl rfl (q_pick rfl rfl rfl) ?_
          refine as_nil (hK18 _ _ ?_)
          clear hK18 K18
          refine cw_cond rfl (fun hc4 => ?_) (fun hc4 => ?_)
          · skip
            skip
            · skip
              refine cw_rs fun K19 hK19 => ?_
              -- region 16
              refine as_q rfl rfl (q_move rfl) ?_
              refine as_q rfl rfl (q_move rfl) ?_
              refine as_q rfl rfl (q_move rfl) ?_
              refine as_q rfl rfl (q_move rfl) ?_
              refine as_h rfl (h_call (by kernel_rfl) rfl ?_)
              refine (srt_partial (a := a2) (b := b2) hT.sat hn hd (by omega) (by omega)).mono ?_
              rintro _ w6 ⟨rfl, hs6, hd6⟩
              replace hT := hT.also hs6
              clear hd; have hd := hd6; clear hd6
              obtain ⟨r, hr⟩ : ∃ zz, zz = Go.Sort.partialInsertionSort ltE d4 a2 b2 := ⟨_, rfl⟩
              rw [← hr] at hd
              simp only [← hr]
              have hq := Go.Sort.partialInsertionSort_holds swoE d4 a2 b2 (by omega) (by omega) (hB.perm (by omega) hP4)
              rw [← hr] at hq
              refine as_nil (hK19 _ _ ?_)
              clear hK19 K19
              refine cw_cond rfl (fun hc5 => ?_) (fun hc5 => ?_)
              · skip
                refine cw_ret ?_
                obtain ⟨q3, q4⟩ := fin _ (Go.Sort.permIn_trans _ _ _ a2 b2 hP4 hq.1) (hq.2 hc5)
                exact ⟨_, res_nil, hT, _, q3, q4, hd⟩
              · skip
                refine cw_skip ?_
                exact ⟨_, (.cons rfl (.cons rfl (.cons rfl (.cons rfl (.cons rfl (.cons rfl (.cons rfl (.cons rfl (.cons rfl (.cons rfl (.nil _))))))))))), _, Go.Sort.permIn_trans _ _ _ a2 b2 hP4 hq.1, rfl, hT, hd⟩
          · skip
            skip
            · skip
              refine cw_skip ?_
              exact ⟨_, (.cons rfl (.cons rfl (.cons rfl (.cons rfl (.cons rfl (.cons rfl (.cons rfl (.cons rfl (.cons rfl (.cons rfl (.nil _))))))))))), _, hP4, rfl, hT, hd⟩
        · skip
          refine cw_rs fun K20 hK20 => ?_
          -- region 15
          refine as_q rfl rfl (q_move rfl) ?_
          refine as_q rfl rfl (q_move rfl) ?_
          first | refine as_gskip rfl rfl rfl rfl rfl ?_ | refine as_gskipU rfl rfl rfl rfl ?_ | refine as_gh rfl rfl rfl rfl (h_q rfl (q_move rfl) ?_)
          first | refine as_q rfl rfl (q_pick_t rfl rfl) ?_ | refine as_q rfl rfl (q_pick_f rfl rfl) ?_ | refine as_q rfl rfl (q_pick rfl rfl rfl) ?_
          refine as_q rfl rfl (q_move rfl) ?_
          first | refine as_gskip rfl rfl rfl rfl rfl ?_ | refine as_gskipU rfl rfl rfl rfl ?_ | refine as_gh rfl rfl rfl rfl (h_q rfl (q_move rfl) ?_)
          first | refine as_gskip rfl rfl rfl rfl rfl ?_ | refine as_gskipU rfl rfl rfl rfl ?_ | refine as_gh rfl rfl rfl rfl (h_q rfl (q_eqT rfl rfl (by omega)) ?_) | refine as_gh rfl rfl rfl rfl (h_q rfl (q_eqF rfl rfl (by omega)) ?_) | refine as_gh rfl rfl rfl rfl (h_q rfl (q_eq rfl rfl) ?_)
          first | refine as_q rfl rfl (q_pick_t rfl rfl) ?_ | refine as_q rfl rfl (q_pick_f rfl rfl) ?_ | refine as_q rfl rfl (q_pick rfl rfl rfl) ?_
          refine as_nil (hK20 _ _ ?_)
          clear hK20 K20
          refine cw_cond rfl (fun hc4 => ?_) (fun hc4 => ?_)
          · skip
            skip
            · skip
              refine cw_rs fun K21 hK21 => ?_
              -- region 16
              refine as_q rfl rfl (q_move rfl) ?_
              refine as_q rfl rfl (q_move rfl) ?_
              refine as_q rfl rfl (q_move rfl) ?_
              refine as_q rfl rfl (q_move rfl) ?_
              refine as_h rfl (h_call (by kernel_rfl) rfl ?_)
              refine (srt_partial (a := a2) (b := b2) hT.sat hn hd (by omega) (by omega)).mono ?_
              rintro _ w7 ⟨rfl, hs7, hd7⟩
              replace hT := hT.also hs7
              clear hd; have hd := hd7; clear hd7
              obtain ⟨r, hr⟩ : ∃ zz, zz = Go.Sort.partialInsertionSort ltE d4 a2 b2 := ⟨_, rfl⟩
              rw [← hr] at hd
              simp only [← hr]
              have hq := Go.Sort.partialInsertionSort_holds swoE d4 a2 b2 (by omega) (by omega) (hB.perm (by omega) hP4)
              rw [← hr] at hq
              refine as_nil (hK21 _ _ ?_)
              clear hK21 K21
              refine cw_cond rfl (fun hc5 => ?_) (fun hc5 => ?_)
              · skip
                refine cw_ret ?_
                obtain ⟨q3, q4⟩ := fin _ (Go.Sort.permIn_trans _ _ _ a2 b2 hP4 hq.1) (hq.2 hc5)
                exact ⟨_, res_nil, hT, _, q3, q4, hd⟩
              · skip
                refine cw_skip ?_
                exact ⟨_, (.cons rfl (.cons rfl (.cons rfl (.cons rfl (.cons rfl (.cons rfl (.cons rfl (.cons rfl (.cons rfl (.cons rfl (.nil _))))))))))), _, Go.Sort.permIn_trans _ _ _ a2 b2 hP4 hq.1, rfl, hT, hd⟩
          · skip
            skip
            · skip
              refine cw_skip ?_
              exact ⟨_, (.cons rfl (.cons rfl (.cons rfl (.cons rfl (.cons rfl (.cons rfl (.cons rfl (.cons rfl (.cons rfl (.cons rfl (.nil _))))))))))), _, hP4, rfl, hT, hd⟩
        · skip
          refine cw_rs fun K22 hK22 => ?_
          -- region 15
          refine as_q rfl rfl (q_move rfl) ?_
          refine as_q rfl rfl (q_move rfl) ?_
          first | refine as_gskip rfl rfl rfl rfl rfl ?_ | refine as_gskipU rfl rfl rfl rfl ?_ | refine as_gh rfl rfl rfl rfl (h_q rfl (q_move rfl) ?_)
          first | refine as_q rfl rfl (q_pick_t rfl rfl) ?_ | refine as_q rfl rfl (q_pick_f rfl rfl) ?_ | refine as_q rfl rfl (q_pick rfl rfl rfl) ?_
          refine as_q rfl rfl (q_move rfl) ?_
          first | refine as_gskip rfl rfl rfl rfl rfl ?_ | refine as_gskipU rfl rfl rfl rfl ?_ | refine as_gh rfl rfl rfl rfl (h_q rfl (q_move rfl) ?_)
          first | refine as_gskip rfl rfl rfl rfl rfl ?_ | refine as_gskipU rfl rfl rfl rfl ?_ | refine as_gh rfl rfl rfl rfl (h_q rfl (q_eqT rfl rfl (by omega)) ?_) | refine as_gh rfl rfl rfl rfl (h_q rfl (q_eqF rfl rfl (by omega)) ?_) | refine as_gh rfl rfl rfl rfl (h_q rfl (q_eq rfl rfl) ?_)
          first | refine as_q rfl rfl (q_pick_t rfl rfl) ?_ | refine as_q rfl rfl (q_pick_f rfl rfl) ?_ | refine as_q rfl rfl (q_pick rfl rfl rfl) ?_
          refine as_nil (hK22 _ _ ?_)
          clear hK22 K22
          refine cw_cond rfl (fun hc4 => ?_) (fun hc4 => ?_)
          · skip
            skip
            · skip
              refine cw_rs fun K23 hK23 => ?_
              -- region 16
              refine as_q rfl rfl (q_move rfl) ?_
              refine as_q rfl rfl (q_move rfl) ?_
              refine as_q rfl rfl (q_move rfl) ?_
              refine as_q rfl rfl (q_move rfl) ?_
              refine as_h rfl (h_call (by kernel_rfl) rfl ?_)
              refine (srt_partial (a := a2) (b := b2) hT.sat hn hd (by omega) (by omega)).mono ?_
              rintro _ w8 ⟨rfl, hs8, hd8⟩
              replace hT := hT.also hs8
              clear hd; have hd := hd8; clear hd8
              obtain ⟨r, hr⟩ : ∃ zz, zz = Go.Sort.partialInsertionSort ltE d4 a2 b2 := ⟨_, rfl⟩
              rw [← hr] at hd
              simp only [← hr]
              have hq := Go.Sort.partialInsertionSort_holds swoE d4 a2 b2 (by omega) (by omega) (hB.perm (by omega) hP4)
              rw [← hr] at hq
              refine as_nil (hK23 _ _ ?_)
              clear hK23 K23
              refine cw_cond rfl (fun hc5 => ?_) (fun hc5 => ?_)
              · skip
                refine cw_ret ?_
                obtain ⟨q3, q4⟩ := fin _ (Go.Sort.permIn_trans _ _ _ a2 b2 hP4 hq.1) (hq.2 hc5)
                exact ⟨_, res_nil, hT, _, q3, q4, hd⟩
              · skip
                refine cw_skip ?_
                exact ⟨_, (.cons rfl (.cons rfl (.cons rfl (.cons rfl (.cons rfl (.cons rfl (.cons rfl (.cons rfl (.cons rfl (.cons rfl (.nil _))))))))))), _, Go.Sort.permIn_trans _ _ _ a2 b2 hP4 hq.1, rfl, hT, hd⟩
          · skip
            skip
            · skip
              refine cw_skip ?_
              exact ⟨_, (.cons rfl (.cons rfl (.cons rfl (.cons rfl (.cons rfl (.cons rfl (.cons rfl (.cons rfl (.cons rfl (.cons rfl (.nil _))))))))))), _, hP4, rfl, hT, hd⟩
        · skip
          refine cw_rs fun K24 hK24 => ?_
          -- region 15
          refine as_q rfl rfl (q_move rfl) ?_
          refine as_q rfl rfl (q_move rfl) ?_
          first | refine as_gskip rfl rfl rfl rfl rfl ?_ | refine as_gskipU rfl rfl rfl rfl ?_ | refine as_gh rfl rfl rfl rfl (h_q rfl (q_move rfl) ?_)
          first | refine as_q rfl rfl (q_pick_t rfl rfl) ?_ | refine as_q rfl rfl (q_pick_f rfl rfl) ?_ | refine as_q rfl rfl (q_pick rfl rfl rfl) ?_
          refine as_q rfl rfl (q_move rfl) ?_
          first | refine as_gskip rfl rfl rfl rfl rfl ?_ | refine as_gskipU rfl rfl rfl rfl ?_ | refine as_gh rfl rfl rfl rfl (h_q rfl (q_move rfl) ?_)
          first | refine as_gskip rfl rfl rfl rfl rfl ?_ | refine as_gskipU rfl rfl rfl rfl ?_ | refine as_gh rfl rfl rfl rfl (h_q rfl (q_eqT rfl rfl (by omega)) ?_) | refine as_gh rfl rfl rfl rfl (h_q rfl (q_eqF rfl rfl (by omega)) ?_) | refine as_gh rfl rfl rfl rfl (h_q rfl (q_eq rfl rfl) ?_)
          first | refine as_q rfl rfl (q_pick_t rfl rfl) ?_ | refine as_q rfl rfl (q_pick_f rfl rfl) ?_ | refine as_q rfl rfl (q_pick rfl rfl rfl) ?_
          refine as_nil (hK24 _ _ ?_)
          clear hK24 K24
          refine cw_cond rfl (fun hc4 => ?_) (fun hc4 => ?_)
          · skip
            skip
            · skip
              refine cw_rs fun K25 hK25 => ?_
              -- region 16
              refine as_q rfl rfl (q_move rfl) ?_
              refine as_q rfl rfl (q_move rfl) ?_
              refine as_q rfl rfl (q_move rfl) ?_
              refine as_q rfl rfl (q_move rfl) ?_
              refine as_h rfl (h_call (by kernel_rfl) rfl ?_)
              refine (srt_partial (a := a2) (b := b2) hT.sat hn hd (by omega) (by omega)).mono ?_
              rintro _ w9 ⟨rfl, hs9, hd9⟩
              replace hT := hT.also hs9
              clear hd; have hd := hd9; clear hd9
              obtain ⟨r, hr⟩ : ∃ zz, zz = Go.Sort.partialInsertionSort ltE d4 a2 b2 := ⟨_, rfl⟩
              rw [← hr] at hd
              simp only [← hr]
              have hq := Go.Sort.partialInsertionSort_holds swoE d4 a2 b2 (by omega) (by omega) (hB.perm (by omega) hP4)
              rw [← hr] at hq
              refine as_nil (hK25 _ _ ?_)
              clear hK25 K25
              refine cw_cond rfl (fun hc5 => ?_) (fun hc5 => ?_)
              · skip
                refine cw_ret ?_
                obtain ⟨q3, q4⟩ := fin _ (Go.Sort.permIn_trans _ _ _ a2 b2 hP4 hq.1) (hq.2 hc5)
                exact ⟨_, res_nil, hT, _, q3, q4, hd⟩
              · skip
                refine cw_skip ?_
                exact ⟨_, (.cons rfl (.cons rfl (.cons rfl (.cons rfl (.cons rfl (.cons rfl (.cons rfl (.cons rfl (.cons rfl (.cons rfl (.nil _))))))))))), _, Go.Sort.permIn_trans _ _ _ a2 b2 hP4 hq.1, rfl, hT, hd⟩
          · skip
            skip
            · skip
              refine cw_skip ?_
              exact ⟨_, (.cons rfl (.cons rfl (.cons rfl (.cons rfl (.cons rfl (.cons rfl (.cons rfl (.cons rfl (.cons rfl (.cons rfl (.nil _))))))))))), _, hP4, rfl, hT, hd⟩
      clear hT hd
      rintro l w5 ⟨d5, hP5, rfl, hT, hd⟩
      have hsz5 := hd.size
      have B5 := hB.perm (by omega) hP5
      refine cw_seq fun K26 hK26 => ?_
      refine cw_cutS (fun l w1 => ∃ (bb : Bool), (bb = true → 0 < a2 ∧ ltE d5[a2 - 1]! d5[p]! = false) ∧ l = [(0, .slice (some ⟨g, 0, none⟩) n cap), (1, .int .i64 a2), (2, .int .i64 b2), (3, .int .i64 lim3), (4, (.func (.func 16) #[] #[])), (10, .bool wb), (11, .bool wp), (12, .int .i64 (b2 - a2 : Nat)), (13, .int .i64 (p : Nat)), (14, .int .i64 h3), (97, .bool bb)] ∧ Step (Just g) M w M w1 ∧ ElRow 23 w1 M g n cap d5) ?_ ?_
      · skip
        rcases Nat.eq_zero_or_pos a2 with ha0 | ha0
        · skip
          refine cw_drawn (by kernel_rfl) (by kernel_rfl) (by kernel_rfl) rfl rfl fun K27 hK27 => ?_
          -- region 17
          have hs10 := Step.drew hT.sat
          replace hd := hd.then hs10
          replace hT := hT.then hs10
          refine at_q (i := 0) (li := #[true, false, false, false, false, false, false, false, false, false, false, false, false, false, false, false, false]) rfl (by kernel_rfl) rfl (fun _ => (q_move rfl)) (by kernel_rfl) ?_
          first | refine at_q (i := 1) (li := #[true, true, false, false, false, false, false, false, false, false, false, false, false, false, false, false, false]) rfl (by kernel_rfl) rfl (fun _ => (q_gtT rfl rfl (by omega))) (by kernel_rfl) ?_ | refine at_q (i := 1) (li := #[true, true, false, false, false, false, false, false, false, false, false, false, false, false, false, false, false]) rfl (by kernel_rfl) rfl (fun _ => (q_gtF rfl rfl (by omega))) (by kernel_rfl) ?_ | refine at_q (i := 1) (li := #[true, true, false, false, false, false, false, false, false, false, false, false, false, false, false, false, false]) rfl (by kernel_rfl) rfl (fun _ => (q_gt rfl rfl)) (by kernel_rfl) ?_
          refine at_q (i := 2) (li := #[true, true, true, false, false, false, false, false, false, false, false, false, false, false, false, false, false]) rfl (by kernel_rfl) rfl (fun _ => (q_move rfl)) (by kernel_rfl) ?_
          first | refine at_gskip (i := 3) (li := #[true, true, true, true, false, false, false, false, false, false, false, false, false, false, false, false, false]) rfl (by kernel_rfl) rfl rfl rfl rfl rfl (by kernel_rfl) ?_ | refine at_gskipU (i := 3) (li := #[true, true, true, true, false, false, false, false, false, false, false, false, false, false, false, false, false]) rfl (by kernel_rfl) rfl rfl rfl rfl (by kernel_rfl) ?_ | refine at_gp (i := 3) (li := #[true, true, true, true, false, false, false, false, false, false, false, false, false, false, false, false, false]) rfl (by kernel_rfl) rfl rfl rfl rfl (fun _ => (q_move rfl)) (by kernel_rfl) ?_
          first | refine at_gskip (i := 4) (li := #[true, true, true, true, true, false, false, false, false, false, false, false, false, false, false, false, false]) rfl (by kernel_rfl) rfl rfl rfl rfl rfl (by kernel_rfl) ?_ | refine at_gskipU (i := 4) (li := #[true, true, true, true, true, false, false, false, false, false, false, false, false, false, false, false, false]) rfl (by kernel_rfl) rfl rfl rfl rfl (by kernel_rfl) ?_ | refine at_gp (i := 4) (li := #[true, true, true, true, true, false, false, false, false, false, false, false, false, false, false, false, false]) rfl (by kernel_rfl) rfl rfl rfl rfl (fun _ => (q_move rfl)) (by kernel_rfl) ?_
          first | refine at_gskip (i := 5) (li := #[true, true, true, true, true, true, false, false, false, false, false, false, false, false, false, false, false]) rfl (by kernel_rfl) rfl rfl rfl rfl rfl (by kernel_rfl) ?_ | refine at_gskipU (i := 5) (li := #[true, true, true, true, true, true, false, false, false, false, false, false, false, false, false, false, false]) rfl (by kernel_rfl) rfl rfl rfl rfl (by kernel_rfl) ?_ | refine at_gp (i := 5) (li := #[true, true, true, true, true, true, false, false, false, false, false, false, false, false, false, false, false]) rfl (by kernel_rfl) rfl rfl rfl rfl (fun _ => (q_move rfl)) (by kernel_rfl) ?_
          first | refine at_gskip (i := 6) (li := #[true, true, true, true, true, true, true, false, false, false, false, false, false, false, false, false, false]) rfl (by kernel_rfl) rfl rfl rfl rfl rfl (by kernel_rfl) ?_ | refine at_gskipU (i := 6) (li := #[true, true, true, true, true, true, true, false, false, false, false, false, false, false, false, false, false]) rfl (by kernel_rfl) rfl rfl rfl rfl (by kernel_rfl) ?_ | refine at_gp (i := 6) (li := #[true, true, true, true, true, true, true, false, false, false, false, false, false, false, false, false, false]) rfl (by kernel_rfl) rfl rfl rfl rfl (fun _ => (q_congr (q_subx rfl rfl (by omega) (by omega)) (v' := .int .i64 (a2 - 1 : Nat)) (congrArg (Value.int .i64) (by omega)))) (by kernel_rfl) ?_
          first | refine at_gskip (i := 7) (li := #[true, true, true, true, true, true, true, true, false, false, false, false, false, false, false, false, false]) rfl (by kernel_rfl) rfl rfl rfl rfl rfl (by kernel_rfl) ?_ | refine at_gskipU (i := 7) (li := #[true, true, true, true, true, true, true, true, false, false, false, false, false, false, false, false, false]) rfl (by kernel_rfl) rfl rfl rfl rfl (by kernel_rfl) ?_ | refine at_gp (i := 7) (li := #[true, true, true, true, true, true, true, true, false, false, false, false, false, false, false, false, false]) rfl (by kernel_rfl) rfl rfl rfl rfl (fun _ => (q_indexAddr (e := 23) (size := 2) (by kernel_rfl) (by kernel_rfl) rfl rfl (by omega) (by omega))) (by kernel_rfl) ?_
          first | refine at_gskip (i := 8) (li := #[true, true, true, true, true, true, true, true, true, false, false, false, false, false, false, false, false]) rfl (by kernel_rfl) rfl rfl rfl rfl rfl (by kernel_rfl) ?_ | refine at_gskipU (i := 8) (li := #[true, true, true, true, true, true, true, true, true, false, false, false, false, false, false, false, false]) rfl (by kernel_rfl) rfl rfl rfl rfl (by kernel_rfl) ?_ | refine at_gq (i := 8) (li := #[true, true, true, true, true, true, true, true, true, false, false, false, false, false, false, false, false]) (cellsAre _ _ 2 _) rfl (by kernel_rfl) rfl rfl rfl rfl (fun _ h => q_loadc (n := 2) (by kernel_rfl) rfl h) (hd.elem (i := ((a2 - 1 : Nat) : Int)) (by omega) (by omega)) (by kernel_rfl) ?_
          first | refine at_gskip (i := 9) (li := #[true, true, true, true, true, true, true, true, true, true, false, false, false, false, false, false, false]) rfl (by kernel_rfl) rfl rfl rfl rfl rfl (by kernel_rfl) ?_ | refine at_gskipU (i := 9) (li := #[true, true, true, true, true, true, true, true, true, true, false, false, false, false, false, false, false]) rfl (by kernel_rfl) rfl rfl rfl rfl (by kernel_rfl) ?_ | refine at_gp (i := 9) (li := #[true, true, true, true, true, true, true, true, true, true, false, false, false, false, false, false, false]) rfl (by kernel_rfl) rfl rfl rfl rfl (fun _ => (q_move rfl)) (by kernel_rfl) ?_
          first | refine at_gskip (i := 10) (li := #[true, true, true, true, true, true, true, true, true, true, true, false, false, false, false, false, false]) rfl (by kernel_rfl) rfl rfl rfl rfl rfl (by kernel_rfl) ?_ | refine at_gskipU (i := 10) (li := #[true, true, true, true, true, true, true, true, true, true, true, false, false, false, false, false, false]) rfl (by kernel_rfl) rfl rfl rfl rfl (by kernel_rfl) ?_ | refine at_gp (i := 10) (li := #[true, true, true, true, true, true, true, true, true, true, true, false, false, false, false, false, false]) rfl (by kernel_rfl) rfl rfl rfl rfl (fun _ => (q_move rfl)) (by kernel_rfl) ?_
          first | refine at_gskip (i := 11) (li := #[true, true, true, true, true, true, true, true, true, true, true, true, false, false, false, false, false]) rfl (by kernel_rfl) rfl rfl rfl rfl rfl (by kernel_rfl) ?_ | refine at_gskipU (i := 11) (li := #[true, true, true, true, true, true, true, true, true, true, true, true, false, false, false, false, false]) rfl (by kernel_rfl) rfl rfl rfl rfl (by kernel_rfl) ?_ | refine at_gp (i := 11) (li := #[true, true, true, true, true, true, true, true, true, true, true, true, false, false, false, false, false]) rfl (by kernel_rfl) rfl rfl rfl rfl (fun _ => (q_indexAddr (e := 23) (size := 2) (by kernel_rfl) (by kernel_rfl) rfl rfl (by omega) (by omega))) (by kernel_rfl) ?_
          first | refine at_gskip (i := 12) (li := #[true, true, true, true, true, true, true, true, true, true, true, true, true, false, false, false, false]) rfl (by kernel_rfl) rfl rfl rfl rfl rfl (by kernel_rfl) ?_ | refine at_gskipU (i := 12) (li := #[true, true, true, true, true, true, true, true, true, true, true, true, true, false, false, false, false]) rfl (by kernel_rfl) rfl rfl rfl rfl (by kernel_rfl) ?_ | refine at_gq (i := 12) (li := #[true, true, true, true, true, true, true, true, true, true, true, true, true, false, false, false, false]) (cellsAre _ _ 2 _) rfl (by kernel_rfl) rfl rfl rfl rfl (fun _ h => q_loadc (n := 2) (by kernel_rfl) rfl h) (hd.elem (i := ((p : Nat) : Int)) (by omega) (by omega)) (by kernel_rfl) ?_
          first | refine at_gskip (i := 13) (li := #[true, true, true, true, true, true, true, true, true, true, true, true, true, true, false, false, false]) rfl (by kernel_rfl) rfl rfl rfl rfl rfl (by kernel_rfl) ?_ | refine at_gskipU (i := 13) (li := #[true, true, true, true, true, true, true, true, true, true, true, true, true, true, false, false, false]) rfl (by kernel_rfl) rfl rfl rfl rfl (by kernel_rfl) ?_
          first | refine at_gskip (i := 14) (li := #[true, true, true, true, true, true, true, true, true, true, true, true, true, true, true, false, false]) rfl (by kernel_rfl) rfl rfl rfl rfl rfl (by kernel_rfl) ?_ | refine at_gskipU (i := 14) (li := #[true, true, true, true, true, true, true, true, true, true, true, true, true, true, true, false, false]) rfl (by kernel_rfl) rfl rfl rfl rfl (by kernel_rfl) ?_ | refine at_gp (i := 14) (li := #[true, true, true, true, true, true, true, true, true, true, true, true, true, true, true, false, false]) rfl (by kernel_rfl) rfl rfl rfl rfl (fun _ => (q_ltT rfl rfl (by omega))) (by kernel_rfl) ?_ | refine at_gp (i := 14) (li := #[true, true, true, true, true, true, true, true, true, true, true, true, true, true, true, false, false]) rfl (by kernel_rfl) rfl rfl rfl rfl (fun _ => (q_ltF rfl rfl (by omega))) (by kernel_rfl) ?_ | refine at_gp (i := 14) (li := #[true, true, true, true, true, true, true, true, true, true, true, true, true, true, true, false, false]) rfl (by kernel_rfl) rfl rfl rfl rfl (fun _ => (q_lt rfl rfl)) (by kernel_rfl) ?_
          first | refine at_gskip (i := 15) (li := #[true, true, true, true, true, true, true, true, true, true, true, true, true, true, true, true, false]) rfl (by kernel_rfl) rfl rfl rfl rfl rfl (by kernel_rfl) ?_ | refine at_gskipU (i := 15) (li := #[true, true, true, true, true, true, true, true, true, true, true, true, true, true, true, true, false]) rfl (by kernel_rfl) rfl rfl rfl rfl (by kernel_rfl) ?_ | refine at_gp (i := 15) (li := #[true, true, true, true, true, true, true, true, true, true, true, true, true, true, true, true, false]) rfl (by kernel_rfl) rfl rfl rfl rfl (fun _ => (q_not rfl)) (by kernel_rfl) ?_
          first | refine at_q (i := 16) (li := #[true, true, true, true, true, true, true, true, true, true, true, true, true, true, true, true, true]) rfl (by kernel_rfl) rfl (fun _ => (q_pick_t rfl rfl)) (by kernel_rfl) ?_ | refine at_q (i := 16) (li := #[true, true, true, true, true, true, true, true, true, true, true, true, true, true, true, true, true]) rfl (by kernel_rfl) rfl (fun _ => (q_pick_f rfl rfl)) (by kernel_rfl) ?_ | refine at_q (i := 16) (li := #[true, true, true, true, true, true, true, true, true, true, true, true, true, true, true, true, true]) rfl (by kernel_rfl) rfl (fun _ => (q_pick rfl rfl rfl)) (by kernel_rfl) ?_
          refine at_done (by kernel_rfl) (hK27 _ _ ?_)
          clear hK27 K27
          exact ⟨_, (.cons rfl (.cons rfl (.cons rfl (.cons rfl (.cons rfl (.cons rfl (.cons rfl (.cons rfl (.cons rfl (.cons rfl (.cons rfl (.nil _)))))))))))), _, (fun h => by cases h), rfl, hT, hd⟩
        · skip
          refine cw_drawn (by kernel_rfl) (by kernel_rfl) (by kernel_rfl) rfl rfl fun K28 hK28 => ?_
          -- region 17
          have hs11 := Step.drew hT.sat
          replace hd := hd.then hs11
          replace hT := hT.then hs11
          refine at_q (i := 0) (li := #[true, false, false, false, false, false, false, false, false, false, false, false, false, false, false, false, false]) rfl (by kernel_rfl) rfl (fun _ => (q_move rfl)) (by kernel_rfl) ?_
          first | refine at_q (i := 1) (li := #[true, true, false, false, false, false, false, false, false, false, false, false, false, false, false, false, false]) rfl (by kernel_rfl) rfl (fun _ => (q_gtT rfl rfl (by omega))) (by kernel_rfl) ?_ | refine at_q (i := 1) (li := #[true, true, false, false, false, false, false, false, false, false, false, false, false, false, false, false, false]) rfl (by kernel_rfl) rfl (fun _ => (q_gtF rfl rfl (by omega))) (by kernel_rfl) ?_ | refine at_q (i := 1) (li := #[true, true, false, false, false, false, false, false, false, false, false, false, false, false, false, false, false]) rfl (by kernel_rfl) rfl (fun _ => (q_gt rfl rfl)) (by kernel_rfl) ?_
          refine at_q (i := 2) (li := #[true, true, true, false, false, false, false, false, false, false, false, false, false, false, false, false, false]) rfl (by kernel_rfl) rfl (fun _ => (q_move rfl)) (by kernel_rfl) ?_
          first | refine at_gskip (i := 3) (li := #[true, true, true, true, false, false, false, false, false, false, false, false, false, false, false, false, false]) rfl (by kernel_rfl) rfl rfl rfl rfl rfl (by kernel_rfl) ?_ | refine at_gskipU (i := 3) (li := #[true, true, true, true, false, false, false, false, false, false, false, false, false, false, false, false, false]) rfl (by kernel_rfl) rfl rfl rfl rfl (by kernel_rfl) ?_ | refine at_gp (i := 3) (li := #[true, true, true, true, false, false, false, false, false, false, false, false, false, false, false, false, false]) rfl (by kernel_rfl) rfl rfl rfl rfl (fun _ => (q_move rfl)) (by kernel_rfl) ?_
          first | refine at_gskip (i := 4) (li := #[true, true, true, true, true, false, false, false, false, false, false, false, false, false, false, false, false]) rfl (by kernel_rfl) rfl rfl rfl rfl rfl (by kernel_rfl) ?_ | refine at_gskipU (i := 4) (li := #[true, true, true, true, true, false, false, false, false, false, false, false, false, false, false, false, false]) rfl (by kernel_rfl) rfl rfl rfl rfl (by kernel_rfl) ?_ | refine at_gp (i := 4) (li := #[true, true, true, true, true, false, false, false, false, false, false, false, false, false, false, false, false]) rfl (by kernel_rfl) rfl rfl rfl rfl (fun _ => (q_move rfl)) (by kernel_rfl) ?_
          first | refine at_gskip (i := 5) (li := #[true, true, true, true, true, true, false, false, false, false, false, false, false, false, false, false, false]) rfl (by kernel_rfl) rfl rfl rfl rfl rfl (by kernel_rfl) ?_ | refine at_gskipU (i := 5) (li := #[true, true, true, true, true, true, false, false, false, false, false, false, false, false, false, false, false]) rfl (by kernel_rfl) rfl rfl rfl rfl (by kernel_rfl) ?_ | refine at_gp (i := 5) (li := #[true, true, true, true, true, true, false, false, false, false, false, false, false, false, false, false, false]) rfl (by kernel_rfl) rfl rfl rfl rfl (fun _ => (q_move rfl)) (by kernel_rfl) ?_
          first | refine at_gskip (i := 6) (li := #[true, true, true, true, true, true, true, false, false, false, false, false, false, false, false, false, false]) rfl (by kernel_rfl) rfl rfl rfl rfl rfl (by kernel_rfl) ?_ | refine at_gskipU (i := 6) (li := #[true, true, true, true, true, true, true, false, false, false, false, false, false, false, false, false, false]) rfl (by kernel_rfl) rfl rfl rfl rfl (by kernel_rfl) ?_ | refine at_gp (i := 6) (li := #[true, true, true, true, true, true, true, false, false, false, false, false, false, false, false, false, false]) rfl (by kernel_rfl) rfl rfl rfl rfl (fun _ => (q_congr (q_subx rfl rfl (by omega) (by omega)) (v' := .int .i64 (a2 - 1 : Nat)) (congrArg (Value.int .i64) (by omega)))) (by kernel_rfl) ?_
          first | refine at_gskip (i := 7) (li := #[true, true, true, true, true, true, true, true, false, false, false, false, false, false, false, false, false]) rfl (by kernel_rfl) rfl rfl rfl rfl rfl (by kernel_rfl) ?_ | refine at_gskipU (i := 7) (li := #[true, true, true, true, true, true, true, true, false, false, false, false, false, false, false, false, false]) rfl (by kernel_rfl) rfl rfl rfl rfl (by kernel_rfl) ?_ | refine at_gp (i := 7) (li := #[true, true, true, true, true, true, true, true, false, false, false, false, false, false, false, false, false]) rfl (by kernel_rfl) rfl rfl rfl rfl (fun _ => (q_indexAddr (e := 23) (size := 2) (by kernel_rfl) (by kernel_rfl) rfl rfl (by omega) (by omega))) (by kernel_rfl) ?_
          first | refine at_gskip (i := 8) (li := #[true, true, true, true, true, true, true, true, true, false, false, false, false, false, false, false, false]) rfl (by kernel_rfl) rfl rfl rfl rfl rfl (by kernel_rfl) ?_ | refine at_gskipU (i := 8) (li := #[true, true, true, true, true, true, true, true, true, false, false, false, false, false, false, false, false]) rfl (by kernel_rfl) rfl rfl rfl rfl (by kernel_rfl) ?_ | refine at_gq (i := 8) (li := #[true, true, true, true, true, true, true, true, true, false, false, false, false, false, false, false, false]) (cellsAre _ _ 2 _) rfl (by kernel_rfl) rfl rfl rfl rfl (fun _ h => q_loadc (n := 2) (by kernel_rfl) rfl h) (hd.elem (i := ((a2 - 1 : Nat) : Int)) (by omega) (by omega)) (by kernel_rfl) ?_
          first | refine at_gskip (i := 9) (li := #[true, true, true, true, true, true, true, true, true, true, false, false, false, false, false, false, false]) rfl (by kernel_rfl) rfl rfl rfl rfl rfl (by kernel_rfl) ?_ | refine at_gskipU (i := 9) (li := #[true, true, true, true, true, true, true, true, true, true, false, false, false, false, false, false, false]) rfl (by kernel_rfl) rfl rfl rfl rfl (by kernel_rfl) ?_ | refine at_gp (i := 9) (li := #[true, true, true, true, true, true, true, true, true, true, false, false, false, false, false, false, false]) rfl (by kernel_rfl) rfl rfl rfl rfl (fun _ => (q_move rfl)) (by kernel_rfl) ?_
          first | refine at_gskip (i := 10) (li := #[true, true, true, true, true, true, true, true, true, true, true, false, false, false, false, false, false]) rfl (by kernel_rfl) rfl rfl rfl rfl rfl (by kernel_rfl) ?_ | refine at_gskipU (i := 10) (li := #[true, true, true, true, true, true, true, true, true, true, true, false, false, false, false, false, false]) rfl (by kernel_rfl) rfl rfl rfl rfl (by kernel_rfl) ?_ | refine at_gp (i := 10) (li := #[true, true, true, true, true, true, true, true, true, true, true, false, false, false, false, false, false]) rfl (by kernel_rfl) rfl rfl rfl rfl (fun _ => (q_move rfl)) (by kernel_rfl) ?_
          first | refine at_gskip (i := 11) (li := #[true, true, true, true, true, true, true, true, true, true, true, true, false, false, false, false, false]) rfl (by kernel_rfl) rfl rfl rfl rfl rfl (by kernel_rfl) ?_ | refine at_gskipU (i := 11) (li := #[true, true, true, true, true, true, true, true, true, true, true, true, false, false, false, false, false]) rfl (by kernel_rfl) rfl rfl rfl rfl (by kernel_rfl) ?_ | refine at_gp (i := 11) (li := #[true, true, true, true, true, true, true, true, true, true, true, true, false, false, false, false, false]) rfl (by kernel_rfl) rfl rfl rfl rfl (fun _ => (q_indexAddr (e := 23) (size := 2) (by kernel_rfl) (by kernel_rfl) rfl rfl (by omega) (by omega))) (by kernel_rfl) ?_
          first | refine at_gskip (i := 12) (li := #[true, true, true, true, true, true, true, true, true, true, true, true, true, false, false, false, false]) rfl (by kernel_rfl) rfl rfl rfl rfl rfl (by kernel_rfl) ?_ | refine at_gskipU (i := 12) (li := #[true, true, true, true, true, true, true, true, true, true, true, true, true, false, false, false, false]) rfl (by kernel_rfl) rfl rfl rfl rfl (by kernel_rfl) ?_ | refine at_gq (i := 12) (li := #[true, true, true, true, true, true, true, true, true, true, true, true, true, false, false, false, false]) (cellsAre _ _ 2 _) rfl (by kernel_rfl) rfl rfl rfl rfl (fun _ h => q_loadc (n := 2) (by kernel_rfl) rfl h) (hd.elem (i := ((p : Nat) : Int)) (by omega) (by omega)) (by kernel_rfl) ?_
          refine at_gh (i := 13) (li := #[true, true, true, true, true, true, true, true, true, true, true, true, true, true, false, false, false]) rfl (by kernel_rfl) rfl rfl rfl rfl rfl (by kernel_rfl) (h_callv (f := 16) (first := []) (cap := []) (by kernel_rfl) rfl rfl rfl ?_)
          refine (srt_compare (a := d5[((a2 - 1 : Nat) : Int).toNat]!) (b := d5[((p : Nat) : Int).toNat]!) hs11.sat).mono ?_
          rintro _ w12 ⟨rfl, hs12⟩
          replace hd := hd.then hs12
          replace hT := hT.then hs12
          refine ⟨(by repeat' first | exact trivial | exact (hd.elem (i := ((a2 - 1 : Nat) : Int)) (by omega) (by omega)) | exact (hd.elem (i := ((p : Nat) : Int)) (by omega) (by omega)) | assumption | refine all_keep ?_ | refine And.intro ?_ ?_), ?_⟩
          first | refine at_gskip (i := 14) (li := #[true, true, true, true, true, true, true, true, true, true, true, true, true, true, true, false, false]) rfl (by kernel_rfl) rfl rfl rfl rfl rfl (by kernel_rfl) ?_ | refine at_gskipU (i := 14) (li := #[true, true, true, true, true, true, true, true, true, true, true, true, true, true, true, false, false]) rfl (by kernel_rfl) rfl rfl rfl rfl (by kernel_rfl) ?_ | refine at_gp (i := 14) (li := #[true, true, true, true, true, true, true, true, true, true, true, true, true, true, true, false, false]) rfl (by kernel_rfl) rfl rfl rfl rfl (fun _ => (q_ltT rfl rfl (by omega))) (by kernel_rfl) ?_ | refine at_gp (i := 14) (li := #[true, true, true, true, true, true, true, true, true, true, true, true, true, true, true, false, false]) rfl (by kernel_rfl) rfl rfl rfl rfl (fun _ => (q_ltF rfl rfl (by omega))) (by kernel_rfl) ?_ | refine at_gp (i := 14) (li := #[true, true, true, true, true, true, true, true, true, true, true, true, true, true, true, false, false]) rfl (by kernel_rfl) rfl rfl rfl rfl (fun _ => (q_lt rfl rfl)) (by kernel_rfl) ?_
          first | refine at_gskip (i := 15) (li := #[true, true, true, true, true, true, true, true, true, true, true, true, true, true, true, true, false]) rfl (by kernel_rfl) rfl rfl rfl rfl rfl (by kernel_rfl) ?_ | refine at_gskipU (i := 15) (li := #[true, true, true, true, true, true, true, true, true, true, true, true, true, true, true, true, false]) rfl (by kernel_rfl) rfl rfl rfl rfl (by kernel_rfl) ?_ | refine at_gp (i := 15) (li := #[true, true, true, true, true, true, true, true, true, true, true, true, true, true, true, true, false]) rfl (by kernel_rfl) rfl rfl rfl rfl (fun _ => (q_not rfl)) (by kernel_rfl) ?_
          first | refine at_q (i := 16) (li := #[true, true, true, true, true, true, true, true, true, true, true, true, true, true, true, true, true]) rfl (by kernel_rfl) rfl (fun _ => (q_pick_t rfl rfl)) (by kernel_rfl) ?_ | refine at_q (i := 16) (li := #[true, true, true, true, true, true, true, true, true, true, true, true, true, true, true, true, true]) rfl (by kernel_rfl) rfl (fun _ => (q_pick_f rfl rfl)) (by kernel_rfl) ?_ | refine at_q (i := 16) (li := #[true, true, true, true, true, true, true, true, true, true, true, true, true, true, true, true, true]) rfl (by kernel_rfl) rfl (fun _ => (q_pick rfl rfl rfl)) (by kernel_rfl) ?_
          refine at_done (by kernel_rfl) (hK28 _ _ ?_)
          clear hK28 K28
          exact ⟨_, (.cons rfl (.cons rfl (.cons rfl (.cons rfl (.cons rfl (.cons rfl (.cons rfl (.cons rfl (.cons rfl (.cons rfl (.cons rfl (.nil _)))))))))))), _, (fun h => ⟨ha0, (Bool.not_eq_true' _).mp h⟩), rfl, hT, hd⟩
      clear hT hd
      rintro l w6 ⟨bb, hbb, rfl, hT, hd⟩
      refine cw_cond rfl (fun hc6 => ?_) (fun hc6 => ?_)
      · skip
        obtain ⟨ha0, hnl⟩ := hbb hc6
        skip
        · skip
          refine cw_rs fun K29 hK29 => ?_
          -- region 18
          refine as_q rfl rfl (q_move rfl) ?_
          refine as_q rfl rfl (q_move rfl) ?_
          refine as_q rfl rfl (q_move rfl) ?_
          refine as_q rfl rfl (q_move rfl) ?_
          refine as_q rfl rfl (q_move rfl) ?_
          refine as_h rfl (h_call (by kernel_rfl) rfl ?_)
          refine (srt_partEq (a := a2) (b := b2) (p := p) hT.sat hn hd (by omega) (by omega) (by omega) (by omega)).mono ?_
          rintro _ w13 ⟨rfl, hs13, hd13⟩
          replace hT := hT.also hs13
          clear hd; have hd := hd13; clear hd13
          obtain ⟨r, hr⟩ : ∃ zz, zz = Go.Sort.partitionEqual ltE d5 a2 b2 p := ⟨_, rfl⟩
          rw [← hr] at hd
          simp only [← hr]
          obtain ⟨g1, g2, hs4, hB4, hfin⟩ := Go.Sort.round_eq swoE (Go.Sort.partitionEqual_holds ltE) (by omega) hp1 hp2 (by omega) B5 hnl (hr.symm : _ = (r.1, r.2))
          refine as_q rfl rfl (q_assign rfl) ?_
          refine as_nil (hK29 _ _ ?_)
          clear hK29 K29
          refine cw_rs fun K30 hK30 => ?_
          -- region 19
          refine as_q rfl rfl (q_move rfl) ?_
          refine as_q rfl rfl (q_assign rfl) ?_
          refine as_nil (hK30 _ _ ?_)
          clear hK30 K30
          refine cw_exit ?_
          refine ⟨_, _, ?_, (.cons rfl (.cons rfl (.cons rfl (.cons rfl (.cons rfl (.cons rfl (.cons rfl (.nil _)))))))), r.1, b2, lim3, wb, wp, r.2, rfl, by omega, by omega, by omega, hl0, hl64, hB4, fun R h1 h2 => ?_, rfl, hT, hd⟩
          · omega
          · obtain ⟨q1, q2⟩ := hfin R h1 h2
            exact fin R (Go.Sort.permIn_trans _ _ _ a2 b2 hP5 q1) q2
      · skip
        skip
        refine cw_skip ?_
        refine hK26 _ _ ?_
        clear hK26 K26
        refine cw_rs fun K31 hK31 => ?_
        -- region 20
        refine as_q rfl rfl (q_move rfl) ?_
        refine as_q rfl rfl (q_move rfl) ?_
        refine as_q rfl rfl (q_move rfl) ?_
        refine as_q rfl rfl (q_move rfl) ?_
        refine as_q rfl rfl (q_move rfl) ?_
        refine as_h rfl (h_call (by kernel_rfl) rfl ?_)
        refine (srt_partition (a := a2) (b := b2) (p := p) hT.sat hn hd (by omega) (by omega) (by omega) (by omega)).mono ?_
        rintro _ w14 ⟨rfl, hs14, hd14⟩
        replace hT := hT.also hs14
        clear hd; have hd := hd14; clear hd14
        obtain ⟨r, hr⟩ : ∃ zz, zz = Go.Sort.partition ltE d5 a2 b2 p := ⟨_, rfl⟩
        rw [← hr] at hd
        simp only [← hr]
        obtain ⟨g1, g2, hs4, hBa, hBr, hleft, hright⟩ := Go.Sort.round_part swoE (Go.Sort.partition_holds ltE) hp1 hp2 (by omega) B5 (hr.symm : _ = (r.1, r.2.1, r.2.2))
        refine as_q rfl rfl (q_move rfl) ?_
        refine as_q rfl rfl (q_extract rfl rfl) ?_
        refine as_q rfl rfl (q_extract rfl rfl) ?_
        refine as_q rfl rfl (q_assign rfl) ?_
        refine as_q rfl rfl (q_assign rfl) ?_
        refine as_nil (hK31 _ _ ?_)
        clear hK31 K31
        refine cw_rs fun K32 hK32 => ?_
        -- region 21
        refine as_q rfl rfl (q_move rfl) ?_
        refine as_q rfl rfl (q_assign rfl) ?_
        refine as_nil (hK32 _ _ ?_)
        clear hK32 K32
        refine cw_rs fun K33 hK33 => ?_
        -- region 22
        refine as_q rfl rfl (q_move rfl) ?_
        refine as_q rfl rfl (q_move rfl) ?_
        refine as_q rfl rfl (q_congr (q_subx rfl rfl (by omega) (by omega)) (v' := .int .i64 (r.1 - a2 : Nat)) (congrArg (Value.int .i64) (by omega))) ?_
        refine as_q rfl rfl (q_move rfl) ?_
        refine as_q rfl rfl (q_move rfl) ?_
        refine as_q rfl rfl (q_congr (q_subx rfl rfl (by omega) (by omega)) (v' := .int .i64 (b2 - r.1 : Nat)) (congrArg (Value.int .i64) (by omega))) ?_
        refine as_q rfl rfl (q_assign rfl) ?_
        refine as_q rfl rfl (q_assign rfl) ?_
        refine as_nil (hK33 _ _ ?_)
        clear hK33 K33
        refine cw_rs fun K34 hK34 => ?_
        -- region 23
        refine as_q rfl rfl (q_move rfl) ?_
        refine as_q rfl rfl (q_congr (q_quo rfl rfl (by decide)) (v' := .int .i64 (((b2 - a2) / 8 : Nat) : Int)) (by rw [Int.tdiv_eq_ediv_of_nonneg (by omega), show (((b2 - a2 : Nat) : Int) / 8) = (((b2 - a2) / 8 : Nat) : Int) from by omega, wrap64_of (by omega) (by omega)])) ?_
        refine as_q rfl rfl (q_assign rfl) ?_
        refine as_nil (hK34 _ _ ?_)
        clear hK34 K34
        refine cw_rs fun K35 hK35 => ?_
        -- region 24
        refine as_q rfl rfl (q_move rfl) ?_
        refine as_q rfl rfl (q_move rfl) ?_
        refine as_q rfl rfl (q_lt rfl rfl) ?_
        refine as_nil (hK35 _ _ ?_)
        clear hK35 K35
        refine cw_cond rfl (fun hc7 => ?_) (fun hc7 => ?_)
        · skip
          skip
          · skip
            refine cw_rs fun K36 hK36 => ?_
            -- region 25
            refine as_q rfl rfl (q_move rfl) ?_
            refine as_q rfl rfl (q_move rfl) ?_
            refine as_q rfl rfl (q_ge rfl rfl) ?_
            refine as_q rfl rfl (q_assign rfl) ?_
            refine as_nil (hK36 _ _ ?_)
            clear hK36 K36
            refine cw_rs fun K37 hK37 => ?_
            -- region 26
            refine as_q rfl rfl (q_move rfl) ?_
            refine as_q rfl rfl (q_move rfl) ?_
            refine as_q rfl rfl (q_move rfl) ?_
            refine as_q rfl rfl (q_move rfl) ?_
            refine as_q rfl rfl (q_move rfl) ?_
            refine as_h rfl (h_call (by kernel_rfl) rfl ?_)
            refine (ih (d := r.2.2) (a := a2) (b := r.1) (lim := lim3) (by omega) hs14.sat h255 hd (by omega) (by omega) hl0 hl64 hBa).mono ?_
            rintro _ w15 ⟨hs15, L, l1, l2, hd15⟩
            replace hT := hT.also hs15
            clear hd; have hd := hd15; clear hd15
            obtain ⟨hBL, hfin⟩ := hleft L l1 l2
            refine as_nil (hK37 _ _ ?_)
            clear hK37 K37
            refine cw_region fun K38 hK38 => ?_
            -- region 27
            refine as_q rfl rfl (q_move rfl) ?_
            refine as_q rfl rfl (q_congr (q_addx rfl rfl (by omega) (by omega)) (v' := .int .i64 (r.1 + 1 : Nat)) (congrArg (Value.int .i64) (by omega))) ?_
            refine as_q rfl rfl (q_assign rfl) ?_
            refine as_nil (hK38 _ _ ?_)
            clear hK38 K38
            refine ⟨_, _, ?_, (.cons rfl (.cons rfl (.cons rfl (.cons rfl (.cons rfl (.cons rfl (.cons rfl (.nil _)))))))), r.1 + 1, b2, lim3, _, _, L, rfl, by omega, by omega, by omega, hl0, hl64, hBL, fun R h1 h2 => ?_, rfl, hT, hd⟩
            · omega
            · obtain ⟨q1, q2⟩ := hfin R h1 h2
              exact fin R (Go.Sort.permIn_trans _ _ _ a2 b2 hP5 q1) q2
        · skip
          skip
          · skip
            refine cw_rs fun K39 hK39 => ?_
            -- region 28
            refine as_q rfl rfl (q_move rfl) ?_
            refine as_q rfl rfl (q_move rfl) ?_
            refine as_q rfl rfl (q_ge rfl rfl) ?_
            refine as_q rfl rfl (q_assign rfl) ?_
            refine as_nil (hK39 _ _ ?_)
            clear hK39 K39
            refine cw_rs fun K40 hK40 => ?_
            -- region 29
            refine as_q rfl rfl (q_move rfl) ?_
            refine as_q rfl rfl (q_move rfl) ?_
            refine as_q rfl rfl (q_congr (q_addx rfl rfl (by omega) (by omega)) (v' := .int .i64 (r.1 + 1 : Nat)) (congrArg (Value.int .i64) (by omega))) ?_
            refine as_q rfl rfl (q_move rfl) ?_
            refine as_q rfl rfl (q_move rfl) ?_
            refine as_q rfl rfl (q_move rfl) ?_
            refine as_h rfl (h_call (by kernel_rfl) rfl ?_)
            refine (ih (d := r.2.2) (a := r.1 + 1) (b := b2) (lim := lim3) (by omega) hs14.sat h255 hd (by omega) (by omega) hl0 hl64 hBr).mono ?_
            rintro _ w16 ⟨hs16, L, l1, l2, hd16⟩
            replace hT := hT.also hs16
            clear hd; have hd := hd16; clear hd16
            obtain ⟨hBL, hfin⟩ := hright L l1 l2
            refine as_nil (hK40 _ _ ?_)
            clear hK40 K40
            refine cw_region fun K41 hK41 => ?_
            -- region 30
            refine as_q rfl rfl (q_move rfl) ?_
            refine as_q rfl rfl (q_assign rfl) ?_
            refine as_nil (hK41 _ _ ?_)
            clear hK41 K41
            refine ⟨_, _, ?_, (.cons rfl (.cons rfl (.cons rfl (.cons rfl (.cons rfl (.cons rfl (.cons rfl (.nil _)))))))), a2, r.1, lim3, _, _, L, rfl, by omega, by omega, by omega, hl0, hl64, hBL, fun R h1 h2 => ?_, rfl, hT, hd⟩
            · omega
            · obtain ⟨q1, q2⟩ := hfin R h1 h2
              exact fin R (Go.Sort.permIn_trans _ _ _ a2 b2 hP5 q1) q2

theorem pdq_all : ∀ k, PdqOk k
  | 0 => fun h => absurd h (by omega)
  | k + 1 => fun h hs hn hd hab hb h0 h1 hB => srt_pdq_step (fun h' => pdq_all k (by omega)) hs hn hd hab hb h0 h1 hB

end Go.Proofs.YtbfjkclijjhlhaaDoor
