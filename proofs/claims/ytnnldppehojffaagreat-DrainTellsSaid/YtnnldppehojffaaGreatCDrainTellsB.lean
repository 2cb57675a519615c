/- Steps of the proof that the law of this claim answers true, part 2. No conditions. -/
import Derived.Lib.LaidTab
import Derived.Laws.Strings
import Derived.Laws.IdiomStrings
import Derived.Below
import Derived.KernelRfl
import Derived.Test.YtnnldppehojffaaGreatCDrainTellsA
/- A meter, that counts the steps of heaps; what each operation of a heap costs, as plain functions. No conditions. -/
namespace Go.Eng
open Go
theorem wrap_add_left (a b : Int) : IntKind.wrap .i64 (IntKind.wrap .i64 a + b) = IntKind.wrap .i64 (a + b) := by simp only [IntKind.wrap_i64]; omega
theorem wrap_add_right (a b : Int) : IntKind.wrap .i64 (a + IntKind.wrap .i64 b) = IntKind.wrap .i64 (a + b) := by simp only [IntKind.wrap_i64]; omega
abbrev mval (mb : Option Nat) : Value := .pointer (mb.map fun b => ⟨b, 0, none⟩)
section
variable {S : Nat → Prop} {w w' : World}
theorem StepC.tk {mb : Option Nat} {i j : Nat} {M M' : Mem mb} (h : StepC S i M w M' w') (e : i = j) : StepC S j M w (M.tick j) w' := by subst e; exact h.forgetC
theorem StepC.ghost {M M' : Mem none} (h : Step S M w M' w') (i : Nat) : StepC S i M w (M'.tick i) w' where
  le := h.le
  sat := ⟨h.sat.blk, fun b hb => by cases hb⟩
  fresh := h.fresh
  kept' := h.kept'
  size := h.size
  os := h.os
  output := h.output
  tape := h.tape
  cnt := by show M'.n + i = _; rw [h.cnt, Nat.add_zero]
  still := fun _ => h.still rfl
theorem StepC.free {i : Nat} {M M' : Mem none} (h : StepC S i M w M' w') : Step S M w ⟨M'.f, M.n⟩ w' where
  le := h.le
  sat := ⟨h.sat.blk, fun b hb => by cases hb⟩
  fresh := h.fresh
  kept' := h.kept'
  size := h.size
  os := h.os
  output := h.output
  tape := h.tape
  cnt := rfl
  still := fun _ k hk hn => h.kept' k hk hn (fun e => by cases e)
def Mem.dis {mb : Option Nat} (M : Mem mb) : Mem none := ⟨M.f, 0⟩
def Mem.arm (M : Mem none) (b n : Nat) : Mem (some b) := ⟨M.f, n⟩
theorem Sat.dis {mb : Option Nat} {M : Mem mb} (h : Sat M w) : Sat M.dis w := ⟨h.blk, fun b hb => by cases hb⟩
theorem Sat.meter {b : Nat} {M : Mem (some b)} (h : Sat M w) : ∃ (x y : Int) (e : TypeId), Own w M.dis b [.int .i64 x, .int .i64 y] e ∧ IntKind.wrap .i64 (x + y) = IntKind.wrap .i64 (M.n : Int) := by
  obtain ⟨h1, x, y, e, h2, h3⟩ := h.mtr b rfl
  exact ⟨x, y, e, ⟨h2, h1, fun h => by cases h⟩, h3⟩
theorem Sat.arm {M : Mem none} (h : Sat M w) {b n : Nat} {x y : Int} {e : TypeId} (ho : Own w M b [.int .i64 x, .int .i64 y] e) (hn : IntKind.wrap .i64 (x + y) = IntKind.wrap .i64 (n : Int)) : Sat (M.arm b n) w :=
  ⟨h.blk, fun k hk => by cases hk; exact ⟨ho.2.1, x, y, e, ho.1, hn⟩⟩
theorem StepC.arm {b i : Nat} {M : Mem (some b)} {M' : Mem none} {x y : Int} {e : TypeId} (h : Step (Just b) M.dis w M' w') (hm : M' = M.dis) (ho : Own w' M' b [.int .i64 x, .int .i64 y] e) (hn : IntKind.wrap .i64 (x + y) = IntKind.wrap .i64 ((M.n + (i + 1) : Nat) : Int)) :
    StepC Nope (i + 1) M w (M.tick (i + 1)) w' := by
  subst hm
  exact {
    le := h.le
    sat := Sat.arm (n := M.n + (i + 1)) h.sat ho hn
    fresh := fun c z h0 h1 => h.fresh c z h0 h1
    kept' := fun k hk _ hb => h.kept' k hk (fun e => hb (by rw [show k = b from e])) (fun e => by cases e)
    size := h.size
    os := h.os
    output := h.output
    tape := h.tape
    cnt := rfl
    still := fun e => by omega }
end
theorem Own.back {mb : Option Nat} {M M' : Mem mb} {w : World} {b : Nat} {cs : List Value} {e : TypeId} (h : Own w M' b cs e) (k : Le M M') : Own w M b cs e := ⟨h.1, (by
  cases hm : M b with
  | none => rfl
  | some x => have := k b x hm; rw [h.2.1] at this; cases this), h.2.2⟩
def Lft.meldC : Lft → Lft → Nat
  | .nil, _ => 0
  | .node _ _ _, .nil => 0
  | .node x l r, .node y l' r' => 2 + if ltE y x then Lft.meldC r' (.node x l r) else Lft.meldC r (.node y l' r')
termination_by a b => a.size + b.size
decreasing_by
  all_goals simp only [Lft.size]; omega
def Lft.insertC (x : El) (t : Lft) : Nat := 1 + (Lft.mk x .nil .nil).meldC t
def Pr.meldC : Pr → Pr → Nat
  | .nil, _ => 0
  | .node _ _, .nil => 0
  | .node _ _, .node _ _ => 2
def Pr.insertC (x : El) (t : Pr) : Nat := 1 + (Pr.node x []).meldC t
def Pr.pairC : List Pr → Nat
  | [] => 0
  | [_] => 0
  | a :: b :: r => a.meldC b + Pr.pairC r + (a.meld b).meldC (Pr.pair r)
def Pr.foldC : List Pr → Pr → Nat
  | [], _ => 0
  | m :: ms, o => Pr.foldC ms o + m.meldC (ms.foldr Pr.meld o)
theorem Pr.foldC_snoc (x o : Pr) : ∀ ms : List Pr, Pr.foldC (ms ++ [x]) o = Pr.foldC ms (x.meld o) + x.meldC o
  | [] => by simp [Pr.foldC]
  | m :: ms => by simp only [List.cons_append, Pr.foldC, Pr.foldC_snoc x o ms, List.foldr_append, List.foldr_cons, List.foldr_nil]; omega
section
variable {α : Type}
def bputC (lt : α → α → Bool) (t : RT α) : List (RT α) → Nat
  | [] => 0
  | f :: r => if t.rank < f.rank then 0 else 2 + bputC lt (RT.link lt t f) r
def bmeldC (lt : α → α → Bool) : List (RT α) → List (RT α) → Nat
  | [], _ => 0
  | _ :: _, [] => 0
  | f :: a, g :: b => if f.rank < g.rank then bmeldC lt a (g :: b) else if g.rank < f.rank then bmeldC lt (f :: a) b else 2 + bmeldC lt a b + bputC lt (RT.link lt f g) (bmeld lt a b)
termination_by a b => a.length + b.length
decreasing_by all_goals simp only [List.length_cons]; omega
def sinsertC : List (RT α) → Nat
  | a :: b :: _ => if a.rank = b.rank then 4 else 1
  | _ => 1
def slevelC (lt : α → α → Bool) : List (RT α) → Nat
  | [] => 0
  | t :: l => bputC lt t l
def smeldC (lt : α → α → Bool) (a b : List (RT α)) : Nat := slevelC lt a + slevelC lt b + bmeldC lt (slevel lt a) (slevel lt b)
def bpopC (lt : α → α → Bool) (l : List (RT α)) (k : RT α) : Nat := l.length - 1 + bmeldC lt k.kids.reverse (l.eraseIdx (leastN lt (l.map RT.root) (l.length - 1)))
def sinsertsC (lt : α → α → Bool) : List α → List (RT α) → Nat
  | [], _ => 0
  | x :: r, h => sinsertC h + sinsertsC lt r (sinsert lt x h)
def spopC (lt : α → α → Bool) (l : List (RT α)) (k : RT α) : Nat :=
  let rest := l.eraseIdx (leastN lt (l.map RT.root) (l.length - 1))
  l.length - 1 + slevelC lt rest + bmeldC lt k.kids.reverse (slevel lt rest) + sinsertsC lt k.beside (bmeld lt k.kids.reverse (slevel lt rest))
theorem sinsertsC_snoc (lt : α → α → Bool) (x : α) : ∀ (l : List α) (h : List (RT α)), sinsertsC lt (l ++ [x]) h = sinsertsC lt l h + sinsertC (l.foldl (fun h x => sinsert lt x h) h)
  | [], h => by simp [sinsertsC]
  | y :: l, h => by simp only [List.cons_append, sinsertsC, List.foldl_cons, sinsertsC_snoc lt x l]; omega
end
def Ro.insertC : Ro → Nat
  | .nil => 1
  | .node _ ts => 2 + sinsertC ts
def Ro.meldC : Ro → Ro → Nat
  | .nil, _ => 0
  | .node _ _, .nil => 0
  | .node r ts, .node s us => 2 + smeldC ltE ts us + sinsertC (smeld ltE ts us)
def Bt.meldC : Bt → Bt → Nat
  | .nil, _ => 0
  | .node _ _, .nil => 0
  | .node x ts, .node y us => 2 + if ltE y x then sinsertC us else sinsertC ts
def Bt.insertC (x : El) (t : Bt) : Nat := 1 + (Bt.node x []).meldC t
end Go.Eng
/- Steps by shorter names. No conditions. -/
namespace Go.Eng
open Go
abbrev T : Bool := true
abbrev F : Bool := false
def lbl : Nat → Nat → List Bool
  | 0, _ => []
  | n + 1, m => (m % 2 == 1) :: lbl n (m / 2)
def lb (n m : Nat) : Array Bool := ⟨lbl n m⟩
theorem lb_of {a : Array Bool} {n m : Nat} (h : (a.toList == lbl n m) = true) : a = lb n m := by
  have h := eq_of_beq h
  rw [lb, ← h]
section
variable {c : Cx} {l : Env} {w : World} {ops : Array Oper} {K : Env → World → Prop} {p : Pend} {fuel : Nat} {listed : Array Bool} {op : Op} {ty : TypeId} {pos : String} {after : Array Edge} {d : Nat} {js : List Oper}
theorem Dq (i m : Nat) {v : Value} (hi : ops[i]? = some ⟨some d, op, ty, pos, after, none⟩) (hb : (mayTake ops listed i && Nat.blt d c.n && (listed.setIfInBounds i true).toList == lbl ops.size m) = true)
    (hq : ∀ w', Quiet c.P l op ty w' v) (h : AT c ops K p fuel (lb ops.size m) ((d, v) :: l) w) : AT c ops K p (fuel + 1) listed l w := by
  simp only [Bool.and_eq_true] at hb
  exact at_q hi hb.1.1 hb.1.2 hq (lb_of hb.2) h
theorem Dm (i m : Nat) {v : Value} {x : Operand} (hi : ops[i]? = some ⟨some d, .move x, ty, pos, after, none⟩) (hb : (mayTake ops listed i && Nat.blt d c.n && (listed.setIfInBounds i true).toList == lbl ops.size m) = true)
    (hx : opv l x = some v) (h : AT c ops K p fuel (lb ops.size m) ((d, v) :: l) w) : AT c ops K p (fuel + 1) listed l w := Dq i m hi hb (fun _ => q_move hx) h
theorem Da (i m : Nat) {v : Value} {x : Operand} (hi : ops[i]? = some ⟨some d, .assign x, ty, pos, after, none⟩) (hb : (mayTake ops listed i && Nat.blt d c.n && (listed.setIfInBounds i true).toList == lbl ops.size m) = true)
    (hx : opv l x = some v) (h : AT c ops K p fuel (lb ops.size m) ((d, v) :: l) w) : AT c ops K p (fuel + 1) listed l w := Dq i m hi hb (fun _ => q_assign hx) h
theorem Df (i m off : Nat) {T k b o : Nat} {x : Operand} (hi : ops[i]? = some ⟨some d, .fieldAddr T x k, ty, pos, after, none⟩) (hb : (mayTake ops listed i && Nat.blt d c.n && (listed.setIfInBounds i true).toList == lbl ops.size m) = true)
    (hT : fieldOff c.P T k = some off) (hx : opv l x = some (.pointer (some ⟨b, o, none⟩))) (h : AT c ops K p fuel (lb ops.size m) ((d, .pointer (some ⟨b, o + off, none⟩)) :: l) w) : AT c ops K p (fuel + 1) listed l w := Dq i m hi hb (fun _ => q_fieldAddr hT hx) h
theorem Dl1 (i m : Nat) {T b o : Nat} {v : Value} {x : Operand} (hi : ops[i]? = some ⟨some d, .load T x, ty, pos, after, none⟩) (hb : (mayTake ops listed i && Nat.blt d c.n && (listed.setIfInBounds i true).toList == lbl ops.size m) = true)
    (hT : aggOf c.P T = some none) (hx : opv l x = some (.pointer (some ⟨b, o, none⟩))) (hc : cellIs b o v w) (h : AT c ops K ((i, cellIs b o v) :: p) fuel (lb ops.size m) ((d, v) :: l) w) : AT c ops K p (fuel + 1) listed l w := by
  simp only [Bool.and_eq_true] at hb
  exact at_l (cellIs b o v) hi hb.1.1 hb.1.2 (fun _ h => q_load1 hT hx h) hc (lb_of hb.2) h
theorem Dlc (i m n : Nat) {T b o : Nat} {vs : List Value} {x : Operand} (hi : ops[i]? = some ⟨some d, .load T x, ty, pos, after, none⟩) (hb : (mayTake ops listed i && Nat.blt d c.n && (listed.setIfInBounds i true).toList == lbl ops.size m) = true)
    (hT : aggOf c.P T = some (some n)) (hx : opv l x = some (.pointer (some ⟨b, o, none⟩))) (hc : cellsAre b o n vs w) (h : AT c ops K ((i, cellsAre b o n vs) :: p) fuel (lb ops.size m) ((d, .agg vs.toArray) :: l) w) : AT c ops K p (fuel + 1) listed l w := by
  simp only [Bool.and_eq_true] at hb
  exact at_l (cellsAre b o n vs) hi hb.1.1 hb.1.2 (fun _ h => q_loadc hT hx h) hc (lb_of hb.2) h
theorem Dgq (i m : Nat) {j gd : Nat} {b : Bool} {v : Value} (hi : ops[i]? = some ⟨some d, op, ty, pos, after, some (j, b)⟩) (hb : (mayTake ops listed i && Nat.blt d c.n && Nat.blt gd c.n && (listed.setIfInBounds i true).toList == lbl ops.size m) = true)
    (hj : ((ops[j]?).bind (·.dst)) = some gd) (hg : look l gd = some (.bool b)) (hq : ∀ w', Quiet c.P l op ty w' v) (h : AT c ops K p fuel (lb ops.size m) ((d, v) :: l) w) : AT c ops K p (fuel + 1) listed l w := by
  simp only [Bool.and_eq_true] at hb
  exact at_gp hi hb.1.1.1 hb.1.1.2 hj hb.1.2 hg hq (lb_of hb.2) h
theorem Dgs (i m : Nat) {j gd : Nat} {b want : Bool} (hi : ops[i]? = some ⟨some d, op, ty, pos, after, some (j, want)⟩) (hb : (mayTake ops listed i && Nat.blt d c.n && Nat.blt gd c.n && !(b == want) && (listed.setIfInBounds i true).toList == lbl ops.size m) = true)
    (hj : ((ops[j]?).bind (·.dst)) = some gd) (hg : look l gd = some (.bool b)) (h : AT c ops K p fuel (lb ops.size m) ((d, undef) :: l) w) : AT c ops K p (fuel + 1) listed l w := by
  simp only [Bool.and_eq_true] at hb
  exact at_gskip hi hb.1.1.1.1 hb.1.1.1.2 hj hb.1.1.2 hg (by simpa using hb.1.2) (lb_of hb.2) h
theorem Dh (i m : Nat) (hi : ops[i]? = some ⟨some d, op, ty, pos, after, none⟩) (hb : (Region.ready .any ops listed == [i] && Nat.blt d c.n && (listed.setIfInBounds i true).toList == lbl ops.size m) = true) {p' : Pend} (hp' : keep ops i p = p')
    (hq : HW c l op ty w fun v w' => All p' w' ∧ AT c ops K p' fuel (lb ops.size m) ((d, v) :: l) w') : AT c ops K p (fuel + 1) listed l w := by
  simp only [Bool.and_eq_true] at hb
  exact at_h hi (eq_of_beq hb.1.1) hb.1.2 hp' (lb_of hb.2) hq
theorem Dh0 (i m : Nat) (hi : ops[i]? = some ⟨none, op, ty, pos, after, none⟩) (hb : (Region.ready .any ops listed == [i] && (listed.setIfInBounds i true).toList == lbl ops.size m) = true) {p' : Pend} (hp' : keep ops i p = p')
    (hq : HW c l op ty w fun _ w' => All p' w' ∧ AT c ops K p' fuel (lb ops.size m) l w') : AT c ops K p (fuel + 1) listed l w := by
  simp only [Bool.and_eq_true] at hb
  exact at_h0 hi (eq_of_beq hb.1) hp' (lb_of hb.2) hq
theorem Dgh (i m : Nat) {j gd : Nat} {b : Bool} (hi : ops[i]? = some ⟨some d, op, ty, pos, after, some (j, b)⟩) (hb : (Region.ready .any ops listed == [i] && Nat.blt d c.n && Nat.blt gd c.n && (listed.setIfInBounds i true).toList == lbl ops.size m) = true)
    (hj : ((ops[j]?).bind (·.dst)) = some gd) (hg : look l gd = some (.bool b)) {p' : Pend} (hp' : keep ops i p = p')
    (hq : HW c l op ty w fun v w' => All p' w' ∧ AT c ops K p' fuel (lb ops.size m) ((d, v) :: l) w') : AT c ops K p (fuel + 1) listed l w := by
  simp only [Bool.and_eq_true] at hb
  exact at_gh hi (eq_of_beq hb.1.1.1) hb.1.1.2 hj hb.1.2 hg hp' (lb_of hb.2) hq
theorem Dah (i m : Nat) (hi : ops[i]? = some ⟨some d, op, ty, pos, after, none⟩) (hb : (Nat.blt d c.n && (listed.setIfInBounds i true).toList == lbl ops.size m) = true) {p' : Pend} (hp' : keep ops i p = p')
    (hq : HW c l op ty w fun v w' => All p' w' ∧ AT c ops K p' fuel (lb ops.size m) ((d, v) :: l) w') : AH c ops K p fuel listed i l w := by
  simp only [Bool.and_eq_true] at hb
  exact ah_h hi hb.1 hp' (lb_of hb.2) hq
theorem Sm {v : Value} {x : Operand} (hlt : Nat.blt d c.n = true) (hx : opv l x = some v) (h : AS c ops K js ((d, v) :: l) w) : AS c ops K (⟨some d, .move x, ty, pos, after, none⟩ :: js) l w := as_q hlt rfl (q_move hx) h
theorem Sa {v : Value} {x : Operand} (hlt : Nat.blt d c.n = true) (hx : opv l x = some v) (h : AS c ops K js ((d, v) :: l) w) : AS c ops K (⟨some d, .assign x, ty, pos, after, none⟩ :: js) l w := as_q hlt rfl (q_assign hx) h
theorem Se {v : Value} {vs : List Value} {i : Nat} {x : Operand} (hlt : Nat.blt d c.n = true) (hx : opv l x = some (.tuple vs.toArray)) (hv : nth vs i = some v) (h : AS c ops K js ((d, v) :: l) w) : AS c ops K (⟨some d, .extract x i, ty, pos, after, none⟩ :: js) l w := as_q hlt rfl (q_extract hx hv) h
theorem Sf (off : Nat) {T k b o : Nat} {x : Operand} (hlt : Nat.blt d c.n = true) (hT : fieldOff c.P T k = some off) (hx : opv l x = some (.pointer (some ⟨b, o, none⟩))) (h : AS c ops K js ((d, .pointer (some ⟨b, o + off, none⟩)) :: l) w) : AS c ops K (⟨some d, .fieldAddr T x k, ty, pos, after, none⟩ :: js) l w := as_q hlt rfl (q_fieldAddr hT hx) h
theorem S1 {T b o : Nat} {v : Value} {x : Operand} (hlt : Nat.blt d c.n = true) (hT : aggOf c.P T = some none) (hx : opv l x = some (.pointer (some ⟨b, o, none⟩))) (hc : w.cell? ⟨b, o, none⟩ = some v) (h : AS c ops K js ((d, v) :: l) w) : AS c ops K (⟨some d, .load T x, ty, pos, after, none⟩ :: js) l w := as_q hlt rfl (q_load1 hT hx hc) h
theorem Sc (n : Nat) {T b o : Nat} {vs : List Value} {x : Operand} (hlt : Nat.blt d c.n = true) (hT : aggOf c.P T = some (some n)) (hx : opv l x = some (.pointer (some ⟨b, o, none⟩))) (hc : vs.length = n ∧ ∀ j v, vs[j]? = some v → w.cell? ⟨b, o + j, none⟩ = some v) (h : AS c ops K js ((d, .agg vs.toArray) :: l) w) : AS c ops K (⟨some d, .load T x, ty, pos, after, none⟩ :: js) l w := as_q hlt rfl (q_loadc hT hx hc) h
theorem cw_dr {id : Nat} {y : Code} {K : Post} (hb : (c.P.follows .mixedOrders && noDefer ops && Region.noSelect ops) = true)
    (h : ∀ K' : Env → World → Prop, (∀ l w, CW c y K l w → K' l w) → AT c ops K' [] ops.size (Array.replicate ops.size false) l w.drew) : CW c (.seq (.region id ops true) y) K l w := by
  simp only [Bool.and_eq_true] at hb
  exact cw_rd hb.1.1 hb.1.2 hb.2 rfl rfl h
theorem Dd (hck : (Region.ready .any ops listed == []) = true) (h : K l w) : AT c ops K p fuel listed l w := at_done (eq_of_beq hck) h
end
end Go.Eng
/- A heap of any kind, as a plain value: its operations, what it holds, what they cost. No conditions. -/
namespace Go.Eng
open Go
theorem els_put {x : El} {l r : List El} (h : r.Perm (x :: l)) : putE (srtE l) x = srtE r := by rw [← srtE_put]; exact srtE_congr h.symm
theorem els_join {l r s : List El} (h : s.Perm (l ++ r)) : srtE (srtE l ++ srtE r) = srtE s := by rw [← srtE_app]; exact srtE_congr h.symm
theorem els_pop {x y : El} {l r s : List El} (h : x :: l = srtE r) (hp : r.Perm (y :: s)) (hg : AllGe y s) : x = y ∧ l = srtE s := by
  rw [srtE_congr hp, srtE_cons hg] at h
  exact ⟨(List.cons.inj h).1, (List.cons.inj h).2⟩
theorem els_none {x : El} {l : List El} {p : Prop} (h : x :: l = srtE []) : p := by cases h
inductive HM where
  | z
  | a (t : Lft)
  | b (t : List (RT El))
  | c (t : Pr)
  | d (t : List (RT El))
  | e (t : Ro)
  | f (t : Bt)
def lst {α : Type} (lt : α → α → Bool) (l : List (RT α)) : Option (RT α) := l[leastN lt (l.map RT.root) (l.length - 1)]?
def Bt.root? : Bt → El × List (RT Bt)
  | .nil => ((0, 0), [])
  | .node y us => (y, us)
namespace HM
def kind : HM → Nat
  | .z => 0
  | .a _ => 1
  | .b _ => 2
  | .c _ => 3
  | .d _ => 4
  | .e _ => 5
  | .f _ => 6
def els : HM → List El
  | .z => []
  | .a t => t.els
  | .b t => RT.alls t
  | .c t => t.els
  | .d t => RT.alls t
  | .e t => t.els
  | .f t => t.els
def ok : HM → Prop
  | .z => True
  | .a t => t.ok
  | .b t => RT.oks ltE t ∧ RT.nobs t
  | .c t => t.ok
  | .d t => RT.oks ltE t
  | .e t => t.ok
  | .f t => t.ok
def empty : Nat → HM
  | 1 => .a .nil
  | 2 => .b []
  | 3 => .c .nil
  | 4 => .d []
  | 5 => .e .nil
  | 6 => .f .nil
  | _ => .z
def insert (x : El) : HM → HM
  | .z => .z
  | .a t => .a (Lft.insert x t)
  | .b t => .b (bput ltE (RT.leaf x) t)
  | .c t => .c (Pr.insert x t)
  | .d t => .d (sinsert ltE x t)
  | .e t => .e (Ro.insert x t)
  | .f t => .f (Bt.insert x t)
def meld : HM → HM → HM
  | .a t, .a u => .a (t.meld u)
  | .b t, .b u => .b (bmeld ltE t u)
  | .c t, .c u => .c (t.meld u)
  | .d t, .d u => .d (smeld ltE t u)
  | .e t, .e u => .e (t.meld u)
  | .f t, .f u => .f (t.meld u)
  | _, _ => .z
def pop : HM → HM
  | .a (.node _ l r) => .a (l.meld r)
  | .b t => match lst ltE t with
    | some k => .b (bpop ltE t k)
    | none => .z
  | .c (.node _ ks) => .c (Pr.pair ks)
  | .d t => match lst ltE t with
    | some k => .d (spop ltE t k)
    | none => .z
  | .e (.node _ t) => match lst ltE t with
    | some k => .e (.node k.root (spop ltE t k))
    | none => .e .nil
  | .f (.node _ ts) => match lst ltB ts with
    | some k => .f (Bt.popped ts k k.root.root?.1 k.root.root?.2)
    | none => .f .nil
  | _ => .z
def minC : HM → Nat
  | .b t => t.length - 1
  | .d t => t.length - 1
  | _ => 0
def popC : HM → Nat
  | .a (.node _ l r) => l.meldC r
  | .b t => match lst ltE t with
    | some k => bpopC ltE t k
    | none => 0
  | .c (.node _ ks) => Pr.pairC ks
  | .d t => match lst ltE t with
    | some k => spopC ltE t k
    | none => 0
  | .e (.node _ t) => match lst ltE t with
    | some k => t.length - 1 + spopC ltE t k + 1
    | none => 0
  | .f (.node _ ts) => match lst ltB ts with
    | some k => ts.length - 1 + spopC ltB ts k + smeldC ltB k.root.root?.2 (spop ltB ts k) + 1
    | none => 0
  | _ => 0
theorem insert_p (x : El) : ∀ {H : HM}, H.ok → (H.insert x).ok ∧ (H.insert x).kind = H.kind ∧ (H.kind ≠ 0 → (H.insert x).els.Perm (x :: H.els))
  | .z, _ => ⟨trivial, rfl, fun h => absurd rfl h⟩
  | .a t, h => ⟨Lft.insert_ok x t h, rfl, fun _ => Lft.insert_els x t⟩
  | .b t, h => ⟨⟨bput_oks swoE (RT.leaf_ok x) h.1, bput_nobs ⟨rfl, trivial⟩ h.2⟩, rfl, fun _ => bput_alls t (RT.leaf x)⟩
  | .c t, h => ⟨Pr.insert_ok x t h, rfl, fun _ => Pr.insert_els x t⟩
  | .d t, h => ⟨sinsert_oks swoE h, rfl, fun _ => sinsert_alls x t⟩
  | .e t, h => ⟨Ro.insert_ok x h, rfl, fun _ => Ro.insert_els x t⟩
  | .f t, h => ⟨Bt.insert_ok x h, rfl, fun _ => Bt.insert_els x t⟩
theorem meld_p : ∀ {H G : HM}, H.ok → G.ok → H.kind = G.kind → (H.meld G).ok ∧ (H.meld G).kind = H.kind ∧ (H.meld G).els.Perm (H.els ++ G.els)
  | .z, .z, _, _, _ => ⟨trivial, rfl, .refl _⟩
  | .a t, .a u, h, g, _ => ⟨Lft.meld_ok _ _ h g, rfl, Lft.meld_els t u⟩
  | .b t, .b u, h, g, _ => ⟨⟨bmeld_oks swoE h.1 g.1, bmeld_nobs h.2 g.2⟩, rfl, bmeld_alls t u⟩
  | .c t, .c u, h, g, _ => ⟨Pr.meld_ok h g, rfl, Pr.meld_els t u⟩
  | .d t, .d u, h, g, _ => ⟨smeld_oks swoE h g, rfl, smeld_alls t u⟩
  | .e t, .e u, h, g, _ => ⟨Ro.meld_ok h g, rfl, Ro.meld_els t u⟩
  | .f t, .f u, h, g, _ => ⟨Bt.meld_ok h g, rfl, Bt.meld_els t u⟩
def min : HM → El
  | .z => (0, 0)
  | .a .nil => (0, 0)
  | .a (.node x _ _) => x
  | .b t => match lst ltE t with
    | some k => k.root
    | none => (0, 0)
  | .c .nil => (0, 0)
  | .c (.node x _) => x
  | .d t => match lst ltE t with
    | some k => k.root
    | none => (0, 0)
  | .e .nil => (0, 0)
  | .e (.node x _) => x
  | .f t => t.key
theorem lst_some {t : List (RT El)} {x : El} {l : List El} (h : x :: l = srtE (RT.alls t)) : ∃ k, lst ltE t = some k :=
  least_is fun e => by subst e; exact els_none h
theorem pop_p {x : El} {l : List El} : ∀ {H : HM}, H.ok → x :: l = srtE H.els → H.min = x ∧ H.pop.ok ∧ H.pop.kind = H.kind ∧ srtE H.pop.els = l
  | .z, _, h => els_none h
  | .a .nil, _, h => els_none h
  | .a (.node y tl tr), hok, h => by
    have he := els_pop h (.refl _) hok.1
    exact ⟨he.1.symm, Lft.meld_ok _ _ hok.2.1 hok.2.2, rfl, by rw [he.2]; exact srtE_congr (Lft.meld_els tl tr)⟩
  | .b t, hok, h => by
    obtain ⟨⟨z, bs, ks⟩, hk⟩ := lst_some h
    have hg := least_tree swoE hok.1 hk
    have hnb := nobs_get hok.2 hk
    have hp := bpop_alls (k := .node z bs ks) hnb.1 hk
    have he := els_pop h hp (fun y hy => hg y (hp.mem_iff.2 (List.mem_cons_of_mem _ hy)))
    simp only [min, pop, hk]
    exact ⟨he.1.symm, ⟨bpop_oks swoE hok.1 hk, bpop_nobs hok.2 hk⟩, rfl, he.2.symm⟩
  | .c .nil, _, h => els_none (by simpa only [els, Pr.els] using h)
  | .c (.node y ks), hok, h => by
    have hok' : AllGe y (Pr.elsL ks) ∧ Pr.okL ks := by simpa only [ok, Pr.ok] using hok
    have he := els_pop h (by simp only [els, Pr.els]; exact .refl _) hok'.1
    exact ⟨he.1.symm, Pr.pair_ok hok'.2, rfl, by rw [he.2]; exact srtE_congr (Pr.pair_els ks)⟩
  | .d t, hok, h => by
    obtain ⟨k, hk⟩ := lst_some h
    have hg := least_tree swoE hok hk
    have hp := spop_alls hk
    have he := els_pop h hp (fun y hy => hg y (hp.mem_iff.2 (List.mem_cons_of_mem _ hy)))
    simp only [min, pop, hk]
    exact ⟨he.1.symm, spop_oks swoE hok hk, rfl, he.2.symm⟩
  | .e .nil, _, h => els_none h
  | .e (.node y ts), hok, h => by
    have he := els_pop h (.refl _) hok.1
    cases hk : lst ltE ts with
    | none =>
      have hn : ts = [] := Classical.byContradiction fun hn => by
        obtain ⟨k, hk2⟩ := least_is (lt := ltE) hn
        rw [show lst ltE ts = some k from hk2] at hk; cases hk
      subst hn
      simp only [pop, hk]
      exact ⟨he.1.symm, trivial, rfl, he.2.symm⟩
    | some k =>
      have hg := least_tree swoE hok.2 hk
      have hp := spop_alls hk
      simp only [pop, hk]
      exact ⟨he.1.symm, ⟨fun w hw => hg w (hp.mem_iff.2 (List.mem_cons_of_mem _ hw)), spop_oks swoE hok.2 hk⟩, rfl, by rw [he.2]; exact (srtE_congr hp).symm⟩
  | .f .nil, _, h => els_none (by simpa only [els, Bt.els] using h)
  | .f (.node y ts), hok, h => by
    have hok' : AllGe y (Bt.elsQ ts) ∧ RT.oks ltB ts ∧ Bt.okQ ts := by simpa only [ok, Bt.ok] using hok
    have he := els_pop h (by simp only [els, Bt.els]; exact .refl _) hok'.1
    cases hk : lst ltB ts with
    | none =>
      have hn : ts = [] := Classical.byContradiction fun hn => by
        obtain ⟨k, hk2⟩ := least_is (lt := ltB) hn
        rw [show lst ltB ts = some k from hk2] at hk; cases hk
      subst hn
      simp only [pop, hk]
      exact ⟨he.1.symm, by simp only [ok, Bt.ok], rfl, by rw [he.2]; simp only [els, Bt.els, Bt.elsQ]⟩
    | some k =>
      obtain ⟨z, bs, ks⟩ := k
      have hp := spop_alls hk
      have hzok := (Bt.okL_iff _).1 ((Bt.okQ_alls ts).2 hok'.2.2) z (hp.mem_iff.2 (List.mem_cons_self ..))
      cases z with
      | nil => exact absurd rfl hzok.1
      | node z us =>
        simp only [pop, hk]
        exact ⟨he.1.symm, Bt.popped_ok hok hk rfl, rfl, by rw [he.2]; exact (srtE_congr (List.Perm.cons_inv (by simpa only [els, Bt.els, RT.root, Bt.root?] using Bt.popped_els (x := y) hk rfl))).symm⟩
theorem empty_p (k : Nat) : (empty k).ok ∧ (empty k).els = [] := by
  unfold empty
  split <;> simp [ok, els, Lft.ok, Lft.els, Pr.ok, Pr.els, Ro.ok, Ro.els, Bt.ok, Bt.els, RT.oks, RT.alls, RT.nobs]
theorem empty_kind {k : Nat} (h : k ≤ 6) : (empty k).kind = k := by
  match k, h with
  | 0, _ | 1, _ | 2, _ | 3, _ | 4, _ | 5, _ | 6, _ => rfl
  | n + 7, h => omega
def drainC : Nat → HM → Nat
  | 0, _ => 0
  | n + 1, H => if H.els = [] then 0 else H.minC + (if n = 0 then 0 else H.popC + drainC n H.pop)
end HM
end Go.Eng
/- The references' heaps: rows of things, as they lie; how rows are put together. No conditions. -/
namespace Go.Eng
open Go
variable {mb : Option Nat}
abbrev wv (n : Nat) : Value := .int .i64 (IntKind.wrap .i64 (n : Int))
section
variable {P : Program} {l : Env} {x y : Operand} {ty t u : TypeId} {w : World}
theorem q_addw {a b : Nat} (hx : opv l x = some (wv a)) (hy : opv l y = some (wv b)) : Quiet P l (.binOp .add t x y u) ty w (wv (a + b)) := by
  have h := q_add (P := P) (ty := ty) (t := t) (u := u) (w := w) hx hy
  rw [wrap_add_left, wrap_add_right] at h
  exact h
theorem q_addwi {a b : Nat} (hx : opv l x = some (wv a)) (hy : opv l y = some (.int .i64 (b : Int))) : Quiet P l (.binOp .add t x y u) ty w (wv (a + b)) := by
  have h := q_add (P := P) (ty := ty) (t := t) (u := u) (w := w) hx hy
  rw [wrap_add_left] at h
  exact h
theorem q_subwi {a b : Nat} (hx : opv l x = some (wv a)) (hy : opv l y = some (.int .i64 (b : Int))) (hb : b ≤ a) : Quiet P l (.binOp .sub t x y u) ty w (wv (a - b)) := by
  have h := q_sub (P := P) (ty := ty) (t := t) (u := u) (w := w) hx hy
  rw [show IntKind.wrap .i64 ((a : Int)) - (b : Int) = IntKind.wrap .i64 (a : Int) + -(b : Int) from rfl, wrap_add_left, show (a : Int) + -(b : Int) = ((a - b : Nat) : Int) by omega] at h
  exact h
end
theorem wv_of {n : Nat} (h : n ≤ 1000000000000) : wv n = .int .i64 (n : Int) := by
  unfold wv
  rw [wrap64_of (by omega) (by omega)]
theorem tup_eq {v : Value} {a b : Nat} (h : a = b) : Value.tuple #[v, wv a] = .tuple #[v, wv b] := by rw [h]
theorem tup_w {v : Value} {z : Int} {n : Nat} (h : z = (n : Int)) (hn : n ≤ 1000000000000) : Value.tuple #[v, .int .i64 z] = .tuple #[v, wv n] := by rw [wv_of hn, h]
theorem tup0 {v : Value} : Value.tuple #[v, .int .i64 0] = .tuple #[v, wv 0] := rfl
theorem tup2 {v : Value} : Value.tuple #[v, .int .i64 2] = .tuple #[v, wv 2] := rfl
theorem tup1 {v : Value} : Value.tuple #[v, .int .i64 1] = .tuple #[v, wv 1] := rfl
theorem tup4 {v : Value} : Value.tuple #[v, .int .i64 4] = .tuple #[v, wv 4] := rfl
structure EncOk {α : Type} (enc : Enc α) (sz : Nat) : Prop where
  mono : enc.Mono
  len : ∀ (M : Raw) x c, enc M x c → c.length = sz
  one : ∀ (M : Raw) x c, enc M x c → ∀ v ∈ c, v.oneCell' = true
section
variable {α : Type} {enc : Enc α} {sz : Nat}
theorem EncL.one (ok : EncOk enc sz) {M : Raw} : ∀ {l : List α} {cs : List Value}, EncL enc sz M l cs → ∀ v ∈ cs, v.oneCell' = true
  | [], _, h, v, hv => by cases h; cases hv
  | _ :: _, _, ⟨c, d, h1, _, h3, h4⟩, v, hv => by
    rw [h1] at hv
    rcases List.mem_append.1 hv with hv | hv
    · exact ok.one _ _ _ h3 v hv
    · exact EncL.one ok h4 v hv
def Row (enc : Enc α) (sz : Nat) (M : Raw) (ts : List α) (v : Value) : Prop :=
  ∃ a c cs, v = .slice a ts.length c ∧ RdM M sz (.slice a ts.length c) ts.length cs ∧ EncL enc sz M ts cs
theorem Row.mono (ok : EncOk enc sz) {M M' : Raw} (k : Le M M') {ts : List α} {v : Value} (h : Row enc sz M ts v) : Row enc sz M' ts v := by
  obtain ⟨a, c, cs, h1, h2, h3⟩ := h
  exact ⟨a, c, cs, h1, h2.mono k, h3.mono ok.mono k⟩
theorem Row.none {M : Raw} : Row enc sz M ([] : List α) (.slice none 0 0) := ⟨Option.none, 0, [], rfl, rdm_nil _ _, rfl⟩
theorem Row.slice {M : Raw} {ts : List α} {v : Value} (h : Row enc sz M ts v) : ∃ a c, v = .slice a ts.length c ∧ ts.length ≤ c := by
  obtain ⟨a, c, cs, h1, h2, h3⟩ := h
  obtain ⟨_, _, h4, h5, _⟩ := h2.slice
  cases h4
  exact ⟨a, c, h1, h5⟩
theorem Row.get (ok : EncOk enc sz) {M : Raw} {ts : List α} {n c : Nat} {a : Option Addr} {i : Nat} {t : α} (h : Row enc sz M ts (.slice a n c)) (hi : ts[i]? = some t) :
    ∃ g o tc, a = some ⟨g, o, Option.none⟩ ∧ n = ts.length ∧ enc M t tc ∧ ∀ {mb : Option Nat} (M' : Mem mb) (w' : World), Le M M' → Sat M' w' → cellsAre g (o + i * sz) sz tc w' := by
  obtain ⟨a', c', cs, h1, h2, h3⟩ := h
  cases h1
  obtain ⟨g, o, rfl⟩ := h2.there (by have := (List.getElem?_eq_some_iff.1 hi).1; omega)
  obtain ⟨tc, h4, h5, h6⟩ := h3.get hi
  exact ⟨g, o, tc, rfl, rfl, h5, fun M' w' k hs => (h2.mono k).elem hs h4 h6⟩
theorem encL_drop {M : Raw} : ∀ {ts : List α} {cs : List Value} (i : Nat), EncL enc sz M ts cs → EncL enc sz M (ts.drop i) (cs.drop (i * sz))
  | _, _, 0, h => by simpa using h
  | [], _, i + 1, h => by cases h; exact (by simp [EncL])
  | _ :: _, _, i + 1, ⟨c, d, h1, h2, _, h4⟩ => by
    subst h1
    rw [List.drop_succ_cons, Nat.add_mul, Nat.one_mul, Nat.add_comm, ← List.drop_drop, List.drop_left' h2]
    exact encL_drop i h4
theorem encL_take {M : Raw} : ∀ {ts : List α} {cs : List Value} (i : Nat), EncL enc sz M ts cs → EncL enc sz M (ts.take i) (cs.take (i * sz))
  | _, _, 0, h => by simp [EncL]
  | [], _, i + 1, h => by cases h; exact (by simp [EncL])
  | _ :: _, _, i + 1, ⟨c, d, h1, h2, h3, h4⟩ => by
    subst h1
    rw [List.take_succ_cons, Nat.add_mul, Nat.one_mul, Nat.add_comm, show sz + i * sz = c.length + i * sz by rw [h2], List.take_length_add_append]
    exact ⟨c, _, rfl, h2, h3, encL_take i h4⟩
theorem Row.sub {M : Raw} {ts : List α} {n c : Nat} {a : Option Addr} (h : Row enc sz M ts (.slice a n c)) (i j : Int) (h0 : 0 ≤ i) (hij : i ≤ j) (hj : j ≤ n) :
    Row enc sz M ((ts.drop i.toNat).take (j.toNat - i.toNat)) (.slice (if c = i.toNat then a else a.map (·.add (i.toNat * sz))) (j.toNat - i.toNat) (c - i.toNat)) := by
  obtain ⟨a', c', cs, h1, h2, h3⟩ := h
  cases h1
  have hl : ((ts.drop i.toNat).take (j.toNat - i.toNat)).length = j.toNat - i.toNat := by rw [List.length_take, List.length_drop]; omega
  refine ⟨_, _, _, by rw [hl], ?_, encL_take _ (encL_drop i.toNat h3)⟩
  rw [hl]
  exact h2.sub i j h0 hij hj
theorem Row.tail {M : Raw} {t : α} {ts : List α} {n c : Nat} {a : Option Addr} (h : Row enc sz M (t :: ts) (.slice a n c)) {j : Int} (hj : j = n) :
    Row enc sz M ts (.slice (if c = (1 : Int).toNat then a else a.map (·.add ((1 : Int).toNat * sz))) (j.toNat - (1 : Int).toNat) (c - (1 : Int).toNat)) := by
  have hn : n = ts.length + 1 := by obtain ⟨_, _, _, h1, _⟩ := h; cases h1; rfl
  have := h.sub 1 j (by omega) (by omega) (by omega)
  simpa [show j.toNat - 1 = ts.length by omega] using this
theorem Row.rd {M : Mem mb} {ts : List α} {v : Value} {w : World} (h : Row enc sz M ts v) (hs : Sat M w) : ∃ cs, Rd w sz v ts.length cs ∧ EncL enc sz M ts cs := by
  obtain ⟨a, c, cs, rfl, h2, h3⟩ := h
  exact ⟨cs, h2.rd hs, h3⟩
theorem EncL.app {M : Raw} : ∀ {l r : List α} {cs ds : List Value}, EncL enc sz M l cs → EncL enc sz M r ds → EncL enc sz M (l ++ r) (cs ++ ds)
  | [], _, _, _, h, h' => by cases h; exact h'
  | _ :: _, _, _, _, ⟨c, d, h1, h2, h3, h4⟩, h' => ⟨c, _, by rw [h1, List.append_assoc], h2, h3, EncL.app h4 h'⟩
theorem Row.cast {M : Raw} {ts us : List α} {v : Value} (h : Row enc sz M ts v) (e : ts = us) : Row enc sz M us v := e ▸ h
theorem Row.one {M : Raw} {t : α} {tc : List Value} {a : Option Addr} {c : Nat} (ok : EncOk enc sz) (hr : RdM M sz (.slice a 1 c) 1 tc) (ht : enc M t tc) : Row enc sz M [t] (.slice a 1 c) := ⟨_, _, tc, rfl, hr, tc, [], by simp, ok.len _ _ _ ht, ht, rfl⟩
theorem cells_in {b o n j k : Nat} {cs ds : List Value} {w : World} (h : cellsAre b o n cs w) (hd : (cs.drop j).take k = ds) (hl : ds.length = k) : cellsAre b (o + j) k ds w := ⟨hl, fun i v hi => by
  subst hd
  rw [List.getElem?_take] at hi
  split at hi
  · rw [List.getElem?_drop] at hi
    rw [Nat.add_assoc]
    exact h.2 _ _ hi
  · cases hi⟩
def RowB (e : TypeId) (enc : Enc α) (sz B : Nat) (w : World) (M : Mem mb) (ts : List α) (v : Value) : Prop :=
  ∃ cs, Buf w M e sz v ts.length cs ∧ EncL enc sz M ts cs ∧ ∀ g, v.ownBlock = some g → B ≤ g
theorem RowB.none {e B : Nat} {w : World} {M : Mem mb} : RowB e enc sz B w M ([] : List α) (.slice none 0 0) := ⟨[], Buf.nil _ _ _ _, rfl, fun g h => by cases h⟩
theorem RowB.own {e B b : Nat} {w : World} {M : Mem mb} {t : α} {tc : List Value} (ho : Own w M b tc e) (ht : enc M t tc) (hl : tc.length = sz) (hB : B ≤ b) : RowB e enc sz B w M [t] (.slice (some ⟨b, 0, Option.none⟩) 1 1) :=
  ⟨tc, Own.buf ho (n := 1) (by omega) (by decide), ⟨tc, [], by simp, hl, ht, rfl⟩, fun g hg => by have h2 : b = g := Option.some.inj hg; omega⟩
theorem RowB.off {e B k : Nat} {w : World} {M : Mem mb} {ts : List α} {v : Value} (h : RowB e enc sz B w M ts v) (hk : k < B) : v.ownBlock ≠ some k := fun e => by
  obtain ⟨_, _, _, h3⟩ := h
  have := h3 _ e
  omega
theorem RowB.cast {e B : Nat} {w : World} {M : Mem mb} {ts us : List α} {v : Value} (h : RowB e enc sz B w M ts v) (e2 : ts = us) : RowB e enc sz B w M us v := e2 ▸ h
theorem RowB.slice {e B : Nat} {w : World} {M : Mem mb} {ts : List α} {v : Value} (h : RowB e enc sz B w M ts v) : ∃ a c, v = .slice a ts.length c := by
  obtain ⟨cs, h1, _⟩ := h
  obtain ⟨a, c, h, _⟩ := h1.slice
  exact ⟨a, c, h⟩
theorem RowB.step {e B i : Nat} {S : Nat → Prop} {w w' : World} {M M' : Mem mb} {ts : List α} {v : Value} (ok : EncOk enc sz) (h : RowB e enc sz B w M ts v) (k : StepC S i M w M' w') (hS : ∀ g, B ≤ g → g < w.heap.size → ¬ S g) : RowB e enc sz B w' M' ts v := by
  obtain ⟨cs, h1, h2, h3⟩ := h
  exact ⟨cs, h1.step k fun g hg => hS g (h3 g hg) (h1.lt g hg), h2.mono ok.mono k.le, h3⟩
theorem RowB.then {e B i : Nat} {w w' : World} {M M' : Mem mb} {ts : List α} {v : Value} (ok : EncOk enc sz) (h : RowB e enc sz B w M ts v) (k : StepC Nope i M w M' w') : RowB e enc sz B w' M' ts v := h.step ok k fun _ _ _ h => h
theorem RowB.freeze {e B i : Nat} {S : Nat → Prop} {w0 w : World} {M0 M : Mem mb} {ts : List α} {v : Value} (ok : EncOk enc sz) (h : RowB e enc sz B w M ts v) (hT : StepC S i M0 w0 M w) (hB : w0.heap.size ≤ B) :
    ∃ M' : Mem mb, StepC S i M0 w0 M' w ∧ Le M M' ∧ Row enc sz M' ts v ∧ ∀ k, v.ownBlock ≠ some k → M' k = M k := by
  obtain ⟨cs, h1, h2, h3⟩ := h
  obtain ⟨a, c, rfl, _, _⟩ := h1.slice
  obtain ⟨M', h4, h5, h6, h7⟩ := hT.freezeB h1 fun g hg => Nat.le_trans hB (h3 g hg)
  exact ⟨M', h4, h5, ⟨a, c, cs, rfl, h6, h2.mono ok.mono h5⟩, h7⟩
section heavy
variable {c : Cx} {l : Env} {ty : TypeId} {w : World} {M : Mem mb} {K : Value → World → Prop} {t e bytes B : Nat} {x y : Operand} {v u : Value} {ts us : List α}
theorem h_appB (ok : EncOk enc sz) (he : elemOk c.P t e sz bytes = true) (hs : Sat M w) (hb : RowB e enc sz B w M ts v) (hr : Row enc sz M us u) (hx : opv l x = some v) (hy : opv l y = some u)
    (hbytes : (ts.length + us.length) * bytes ≤ 140737488355328) (hpos : Nat.blt 0 bytes = true) (hB : B ≤ w.heap.size)
    (hk : ∀ v' w', Step (fun k => v.ownBlock = some k) M w M w' → RowB e enc sz B w' M (ts ++ us) v' → (v'.ownBlock = v.ownBlock ∨ v'.ownBlock = some w.heap.size) → (∀ g, v.ownBlock = some g → B ≤ g) → K v' w') :
    HW c l (.call ⟨.builtin .append, #[x, y], #[t, t]⟩) ty w K := by
  obtain ⟨cs, h1, h2, h3⟩ := hb
  obtain ⟨ds, h4, h5⟩ := hr.rd hs
  refine h_append he hs h1 h4 hx hy (EncL.one ok h5) hbytes hpos fun v' w' k hb2 hor => hk v' w' k ⟨cs ++ ds, by rw [List.length_append]; exact hb2, h2.app h5, fun g hg => ?_⟩ hor h3
  rcases hor with h | h
  · exact h3 g (h ▸ hg)
  · rw [h] at hg; cases hg; exact hB
theorem h_cons {S : Nat → Prop} {i b : Nat} {w0 : World} {M0 : Mem mb} {tc : List Value} {t' : α} (ok : EncOk enc sz) (he : elemOk c.P t e sz bytes = true) (hT : StepC S i M0 w0 M w) (ho : Own w M b tc e) (ht : enc M t' tc) (hr : Row enc sz M us u)
    (hx : opv l x = some (.slice (some ⟨b, 0, Option.none⟩) 1 1)) (hy : opv l y = some u) (hbytes : (1 + us.length) * bytes ≤ 140737488355328) (hpos : Nat.blt 0 bytes = true) (hb : w0.heap.size ≤ b)
    (hk : ∀ (v' : Value) (M' : Mem mb) (w' : World), StepC S i M0 w0 M' w' → Le M M' → (∀ k cs f, k ≠ b → Own w M k cs f → Own w' M' k cs f) → w.heap.size ≤ w'.heap.size → Row enc sz M' (t' :: us) v' → K v' w') :
    HW c l (.call ⟨.builtin .append, #[x, y], #[t, t]⟩) ty w K := by
  have hbl := ho.1.lt
  refine h_appB (B := b) ok he hT.sat (RowB.own ho ht (ok.len _ _ _ ht) (Nat.le_refl _)) hr hx hy hbytes hpos (Nat.le_of_lt hbl) fun v' w' k hb2 hor _ => ?_
  have hT2 := hT.trans k (fun g hg h => by have h2 : b = g := Option.some.inj h; omega)
  obtain ⟨M', h1, h2, h3, h4⟩ := hb2.freeze ok hT2 hb
  refine hk v' M' w' h1 h2 (fun k' cs f hne hok => ?_) k.size h3
  have h5 := hok.step k (fun h => hne (Option.some.inj h).symm)
  refine ⟨h5.1, ?_, h5.2.2⟩
  refine (h4 k' fun hq => ?_).trans h5.2.1
  have hl := hok.1.lt
  rcases hor with h | h
  · rw [hq] at h; exact hne (Option.some.inj h)
  · rw [hq] at h; have h := Option.some.inj h; omega
end heavy
end
end Go.Eng
/- The references' heaps of the kinds, as they lie. No conditions. -/
namespace Go.Eng
open Go
theorem encE_ok : EncOk EncE 2 := ⟨EncE.mono, fun M x c h => by cases h; rfl, fun M x c h v hv => by cases h; simp only [elc, List.mem_cons, List.not_mem_nil, or_false] at hv; rcases hv with rfl | rfl <;> rfl⟩
def H6 (M : Raw) : Lft → List Value → Prop
  | .nil, cs => ∃ (x y : Int) (a : Option Addr) (c : Nat), cs = [.int .i64 x, .int .i64 y, .slice a 0 c]
  | .node e l r, cs => ∃ (a : Option Addr) (c : Nat) (kl kr : List Value), cs = [.int .i64 e.1, .int .i64 e.2, .slice a 2 c] ∧ RdM M 3 (.slice a 2 c) 2 (kl ++ kr) ∧ H6 M l kl ∧ H6 M r kr
theorem H6.len {M : Raw} : ∀ {t : Lft} {cs : List Value}, H6 M t cs → cs.length = 3
  | .nil, _, ⟨_, _, _, _, h⟩ => by rw [h]; rfl
  | .node _ _ _, _, ⟨_, _, _, _, h, _⟩ => by rw [h]; rfl
theorem h6_mono : Enc.Mono H6 := fun M M' x c k h => by
  induction x generalizing c with
  | nil => exact h
  | node e l r ihl ihr =>
    obtain ⟨a, c, kl, kr, h1, h2, h3, h4⟩ := h
    exact ⟨a, c, kl, kr, h1, h2.mono k, ihl _ h3, ihr _ h4⟩
theorem h6_ok : EncOk H6 3 := ⟨h6_mono, fun M x c h => h.len, fun M x c h v hv => by
  cases x with
  | nil => obtain ⟨_, _, _, _, rfl⟩ := h; simp only [List.mem_cons, List.not_mem_nil, or_false] at hv; rcases hv with rfl | rfl | rfl <;> rfl
  | node e l r => obtain ⟨_, _, _, _, rfl, _⟩ := h; simp only [List.mem_cons, List.not_mem_nil, or_false] at hv; rcases hv with rfl | rfl | rfl <;> rfl⟩
theorem h6_node {M : Raw} {e : El} {l r : Lft} {cs : List Value} : H6 M (.node e l r) cs ↔ ∃ (a : Option Addr) (c : Nat), cs = [.int .i64 e.1, .int .i64 e.2, .slice a 2 c] ∧ Row H6 3 M [l, r] (.slice a 2 c) := by
  constructor
  · rintro ⟨a, c, kl, kr, h1, h2, h3, h4⟩
    exact ⟨a, c, h1, a, c, _, rfl, h2, kl, kr, rfl, h3.len, h3, kr, [], by simp, h4.len, h4, rfl⟩
  · rintro ⟨a, c, h1, a', c', cs, h2, h3, kl, d, rfl, _, h4, kr, d2, rfl, _, h5, h6⟩
    cases h2; cases h6
    exact ⟨a, c, kl, kr, h1, by simpa using h3, h4, h5⟩
theorem H6.shape {M : Raw} {t : Lft} {cs : List Value} (h : H6 M t cs) : ∃ (x y : Int) (a : Option Addr) (n c : Nat), cs = [.int .i64 x, .int .i64 y, .slice a n c] := by
  cases t with
  | nil => obtain ⟨x, y, a, c, h⟩ := h; exact ⟨x, y, a, 0, c, h⟩
  | node e l r => obtain ⟨a, c, _, _, h, _⟩ := h; exact ⟨_, _, a, 2, c, h⟩
mutual
def T5 (M : Raw) : RT El → List Value → Prop
  | .node x bs ks, cs => ∃ (ba ka : Option Addr) (bc kc : Nat) (kcs : List Value), cs = [.int .i64 (ks.length : Nat), .int .i64 x.1, .int .i64 x.2, .slice ba bs.length bc, .slice ka ks.length kc, .int .i64 ((1 + bs.length + RT.sizes ks : Nat) : Int)] ∧
      RdM M 2 (.slice ba bs.length bc) bs.length (els bs) ∧ RdM M 6 (.slice ka ks.length kc) ks.length kcs ∧ T5s M ks kcs
def T5s (M : Raw) : List (RT El) → List Value → Prop
  | [], cs => cs = []
  | t :: r, cs => ∃ c d, cs = c ++ d ∧ c.length = 6 ∧ T5 M t c ∧ T5s M r d
end
theorem t5s_iff {M : Raw} : ∀ {l : List (RT El)} {cs : List Value}, T5s M l cs ↔ EncL T5 6 M l cs
  | [], _ => by unfold T5s; rfl
  | t :: r, cs => by
    unfold T5s EncL
    exact ⟨fun ⟨c, d, h1, h2, h3, h4⟩ => ⟨c, d, h1, h2, h3, t5s_iff.1 h4⟩, fun ⟨c, d, h1, h2, h3, h4⟩ => ⟨c, d, h1, h2, h3, t5s_iff.2 h4⟩⟩
theorem t5_iff {M : Raw} {x : El} {bs : List El} {ks : List (RT El)} {cs : List Value} : T5 M (.node x bs ks) cs ↔ ∃ (ba ka : Option Addr) (bc kc : Nat), cs = [.int .i64 (ks.length : Nat), .int .i64 x.1, .int .i64 x.2, .slice ba bs.length bc, .slice ka ks.length kc, .int .i64 ((1 + bs.length + RT.sizes ks : Nat) : Int)] ∧
      Row EncE 2 M bs (.slice ba bs.length bc) ∧ Row T5 6 M ks (.slice ka ks.length kc) := by
  unfold T5
  constructor
  · rintro ⟨ba, ka, bc, kc, kcs, h1, h2, h3, h4⟩
    exact ⟨ba, ka, bc, kc, h1, ⟨_, _, _, rfl, h2, encE_list.2 rfl⟩, _, _, _, rfl, h3, t5s_iff.1 h4⟩
  · rintro ⟨ba, ka, bc, kc, h1, ⟨_, _, _, h2, h3, h4⟩, _, _, kcs, h5, h6, h7⟩
    cases h2; cases h5
    rw [encE_list.1 h4] at h3
    exact ⟨ba, ka, bc, kc, kcs, h1, h3, h6, t5s_iff.2 h7⟩
mutual
theorem t5_mono {M M' : Raw} (k : Le M M') : ∀ {t : RT El} {cs : List Value}, T5 M t cs → T5 M' t cs
  | .node _ _ _, _, h => by
    unfold T5 at h ⊢
    obtain ⟨ba, ka, bc, kc, kcs, h1, h2, h3, h4⟩ := h
    exact ⟨ba, ka, bc, kc, kcs, h1, h2.mono k, h3.mono k, t5s_mono k h4⟩
theorem t5s_mono {M M' : Raw} (k : Le M M') : ∀ {t : List (RT El)} {cs : List Value}, T5s M t cs → T5s M' t cs
  | [], _, h => by unfold T5s at h ⊢; exact h
  | _ :: _, _, h => by
    unfold T5s at h ⊢
    obtain ⟨c, d, h1, h2, h3, h4⟩ := h
    exact ⟨c, d, h1, h2, t5_mono k h3, t5s_mono k h4⟩
end
theorem t5_ok : EncOk T5 6 := ⟨fun _ _ _ _ k h => t5_mono k h, fun M x c h => by
  cases x; obtain ⟨_, _, _, _, rfl, _⟩ := t5_iff.1 h; rfl, fun M x c h v hv => by
  cases x; obtain ⟨_, _, _, _, rfl, _⟩ := t5_iff.1 h; simp only [List.mem_cons, List.not_mem_nil, or_false] at hv; rcases hv with rfl | rfl | rfl | rfl | rfl | rfl <;> rfl⟩
theorem T5.shape {M : Raw} {t : RT El} {cs : List Value} (h : T5 M t cs) : ∃ (ba ka : Option Addr) (nb bc nk kc : Nat), cs = [.int .i64 (t.rank : Nat), .int .i64 t.root.1, .int .i64 t.root.2, .slice ba nb bc, .slice ka nk kc, .int .i64 (t.size : Nat)] := by
  cases t
  obtain ⟨ba, ka, bc, kc, h1, _, _⟩ := t5_iff.1 h
  exact ⟨ba, ka, _, bc, _, kc, by rw [h1, RT.size]; rfl⟩
theorem t5_mk {M : Raw} {x : El} {bs : List El} {ks : List (RT El)} {ba ka : Option Addr} {nb nk bc kc : Nat} {rk sz : Int} (h1 : rk = (ks.length : Nat)) (h2 : sz = ((1 + bs.length + RT.sizes ks : Nat) : Int)) (hb : Row EncE 2 M bs (.slice ba nb bc)) (hk : Row T5 6 M ks (.slice ka nk kc)) :
    T5 M (.node x bs ks) [.int .i64 rk, .int .i64 x.1, .int .i64 x.2, .slice ba nb bc, .slice ka nk kc, .int .i64 sz] := by
  obtain ⟨_, _, h3, _⟩ := hb.slice
  obtain ⟨_, _, h4, _⟩ := hk.slice
  cases h3; cases h4; subst h1; subst h2
  exact t5_iff.2 ⟨_, _, _, _, rfl, hb, hk⟩
mutual
def H8 (M : Raw) : Pr → List Value → Prop
  | .nil, cs => ∃ (x y : Int) (a : Option Addr) (c : Nat), cs = [.int .i64 x, .int .i64 y, .slice a 0 c, .int .i64 0]
  | .node x ks, cs => ∃ (a : Option Addr) (c : Nat) (kcs : List Value), cs = [.int .i64 x.1, .int .i64 x.2, .slice a ks.length c, .int .i64 ((1 + Pr.sizes ks : Nat) : Int)] ∧ RdM M 4 (.slice a ks.length c) ks.length kcs ∧ H8s M ks kcs
def H8s (M : Raw) : List Pr → List Value → Prop
  | [], cs => cs = []
  | t :: r, cs => ∃ c d, cs = c ++ d ∧ c.length = 4 ∧ H8 M t c ∧ H8s M r d
end
theorem h8s_iff {M : Raw} : ∀ {l : List Pr} {cs : List Value}, H8s M l cs ↔ EncL H8 4 M l cs
  | [], _ => by unfold H8s; rfl
  | t :: r, cs => by
    unfold H8s EncL
    exact ⟨fun ⟨c, d, h1, h2, h3, h4⟩ => ⟨c, d, h1, h2, h3, h8s_iff.1 h4⟩, fun ⟨c, d, h1, h2, h3, h4⟩ => ⟨c, d, h1, h2, h3, h8s_iff.2 h4⟩⟩
theorem h8_nil {M : Raw} {cs : List Value} : H8 M .nil cs ↔ ∃ (x y : Int) (a : Option Addr) (c : Nat), cs = [.int .i64 x, .int .i64 y, .slice a 0 c, .int .i64 0] := by unfold H8; rfl
theorem h8_node {M : Raw} {x : El} {ks : List Pr} {cs : List Value} : H8 M (.node x ks) cs ↔ ∃ (a : Option Addr) (c : Nat), cs = [.int .i64 x.1, .int .i64 x.2, .slice a ks.length c, .int .i64 ((1 + Pr.sizes ks : Nat) : Int)] ∧ Row H8 4 M ks (.slice a ks.length c) := by
  unfold H8
  constructor
  · rintro ⟨a, c, kcs, h1, h2, h3⟩
    exact ⟨a, c, h1, _, _, _, rfl, h2, h8s_iff.1 h3⟩
  · rintro ⟨a, c, h1, _, _, kcs, h2, h3, h4⟩
    cases h2
    exact ⟨a, c, kcs, h1, h3, h8s_iff.2 h4⟩
mutual
theorem h8_mono {M M' : Raw} (k : Le M M') : ∀ {t : Pr} {cs : List Value}, H8 M t cs → H8 M' t cs
  | .nil, _, h => h8_nil.2 (h8_nil.1 h)
  | .node _ _, _, h => by
    unfold H8 at h ⊢
    obtain ⟨a, c, kcs, h1, h2, h3⟩ := h
    exact ⟨a, c, kcs, h1, h2.mono k, h8s_mono k h3⟩
theorem h8s_mono {M M' : Raw} (k : Le M M') : ∀ {t : List Pr} {cs : List Value}, H8s M t cs → H8s M' t cs
  | [], _, h => by unfold H8s at h ⊢; exact h
  | _ :: _, _, h => by
    unfold H8s at h ⊢
    obtain ⟨c, d, h1, h2, h3, h4⟩ := h
    exact ⟨c, d, h1, h2, h8_mono k h3, h8s_mono k h4⟩
end
theorem H8.shape {M : Raw} {t : Pr} {cs : List Value} (h : H8 M t cs) : ∃ (x y : Int) (a : Option Addr) (n c : Nat), cs = [.int .i64 x, .int .i64 y, .slice a n c, .int .i64 (t.size : Nat)] := by
  cases t with
  | nil => obtain ⟨x, y, a, c, h⟩ := h8_nil.1 h; exact ⟨x, y, a, 0, c, by rw [h, Pr.size]; rfl⟩
  | node x ks => obtain ⟨a, c, h, _⟩ := h8_node.1 h; exact ⟨_, _, a, _, c, by rw [h, Pr.size]⟩
theorem h8_ok : EncOk H8 4 := ⟨fun _ _ _ _ k h => h8_mono k h, fun M x c h => by
  obtain ⟨_, _, _, _, _, rfl⟩ := h.shape; rfl, fun M x c h v hv => by
  obtain ⟨_, _, _, _, _, rfl⟩ := h.shape; simp only [List.mem_cons, List.not_mem_nil, or_false] at hv; rcases hv with rfl | rfl | rfl | rfl <;> rfl⟩
def H10 (M : Raw) : Ro → List Value → Prop
  | .nil, cs => ∃ (x y : Int) (a : Option Addr) (n c : Nat), cs = [.bool false, .int .i64 x, .int .i64 y, .slice a n c]
  | .node x ts, cs => ∃ (a : Option Addr) (c : Nat), cs = [.bool true, .int .i64 x.1, .int .i64 x.2, .slice a ts.length c] ∧ Row T5 6 M ts (.slice a ts.length c)
mutual
def B11 (M : Raw) : Bt → List Value → Prop
  | .nil, cs => ∃ (x y : Int) (a : Option Addr) (c : Nat), cs = [.bool false, .int .i64 x, .int .i64 y, .slice a 0 c]
  | .node x ts, cs => ∃ (a : Option Addr) (c : Nat) (qcs : List Value), cs = [.bool true, .int .i64 x.1, .int .i64 x.2, .slice a ts.length c] ∧ RdM M 4 (.slice a ts.length c) ts.length qcs ∧ B11Q M ts qcs
def B11Q (M : Raw) : List (RT Bt) → List Value → Prop
  | [], cs => cs = []
  | t :: r, cs => ∃ c d, cs = c ++ d ∧ c.length = 4 ∧ T11 M t c ∧ B11Q M r d
def T11 (M : Raw) : RT Bt → List Value → Prop
  | .node x bs ks, cs => ∃ (ra ba ka : Option Addr) (rc bc kc : Nat) (rcs bcs kcs : List Value), cs = [.int .i64 (ks.length : Nat), .slice ra 1 rc, .slice ba bs.length bc, .slice ka ks.length kc] ∧
      RdM M 4 (.slice ra 1 rc) 1 rcs ∧ B11 M x rcs ∧ RdM M 4 (.slice ba bs.length bc) bs.length bcs ∧ B11L M bs bcs ∧ RdM M 4 (.slice ka ks.length kc) ks.length kcs ∧ B11Q M ks kcs
def B11L (M : Raw) : List Bt → List Value → Prop
  | [], cs => cs = []
  | t :: r, cs => ∃ c d, cs = c ++ d ∧ c.length = 4 ∧ B11 M t c ∧ B11L M r d
end
theorem b11q_iff {M : Raw} : ∀ {l : List (RT Bt)} {cs : List Value}, B11Q M l cs ↔ EncL T11 4 M l cs
  | [], _ => by unfold B11Q; rfl
  | t :: r, cs => by
    unfold B11Q EncL
    exact ⟨fun ⟨c, d, h1, h2, h3, h4⟩ => ⟨c, d, h1, h2, h3, b11q_iff.1 h4⟩, fun ⟨c, d, h1, h2, h3, h4⟩ => ⟨c, d, h1, h2, h3, b11q_iff.2 h4⟩⟩
theorem b11l_iff {M : Raw} : ∀ {l : List Bt} {cs : List Value}, B11L M l cs ↔ EncL B11 4 M l cs
  | [], _ => by unfold B11L; rfl
  | t :: r, cs => by
    unfold B11L EncL
    exact ⟨fun ⟨c, d, h1, h2, h3, h4⟩ => ⟨c, d, h1, h2, h3, b11l_iff.1 h4⟩, fun ⟨c, d, h1, h2, h3, h4⟩ => ⟨c, d, h1, h2, h3, b11l_iff.2 h4⟩⟩
theorem b11_nil {M : Raw} {cs : List Value} : B11 M .nil cs ↔ ∃ (x y : Int) (a : Option Addr) (c : Nat), cs = [.bool false, .int .i64 x, .int .i64 y, .slice a 0 c] := by unfold B11; rfl
theorem b11_node {M : Raw} {x : El} {ts : List (RT Bt)} {cs : List Value} : B11 M (.node x ts) cs ↔ ∃ (a : Option Addr) (c : Nat), cs = [.bool true, .int .i64 x.1, .int .i64 x.2, .slice a ts.length c] ∧ Row T11 4 M ts (.slice a ts.length c) := by
  unfold B11
  constructor
  · rintro ⟨a, c, qcs, h1, h2, h3⟩
    exact ⟨a, c, h1, _, _, _, rfl, h2, b11q_iff.1 h3⟩
  · rintro ⟨a, c, h1, _, _, qcs, h2, h3, h4⟩
    cases h2
    exact ⟨a, c, qcs, h1, h3, b11q_iff.2 h4⟩
mutual
theorem b11_mono {M M' : Raw} (k : Le M M') : ∀ {t : Bt} {cs : List Value}, B11 M t cs → B11 M' t cs
  | .nil, _, h => b11_nil.2 (b11_nil.1 h)
  | .node _ _, _, h => by
    unfold B11 at h ⊢
    obtain ⟨a, c, qcs, h1, h2, h3⟩ := h
    exact ⟨a, c, qcs, h1, h2.mono k, b11q_mono k h3⟩
theorem b11q_mono {M M' : Raw} (k : Le M M') : ∀ {t : List (RT Bt)} {cs : List Value}, B11Q M t cs → B11Q M' t cs
  | [], _, h => by unfold B11Q at h ⊢; exact h
  | _ :: _, _, h => by
    unfold B11Q at h ⊢
    obtain ⟨c, d, h1, h2, h3, h4⟩ := h
    exact ⟨c, d, h1, h2, t11_mono k h3, b11q_mono k h4⟩
theorem t11_mono {M M' : Raw} (k : Le M M') : ∀ {t : RT Bt} {cs : List Value}, T11 M t cs → T11 M' t cs
  | .node _ _ _, _, h => by
    unfold T11 at h ⊢
    obtain ⟨ra, ba, ka, rc, bc, kc, rcs, bcs, kcs, h1, h2, h3, h4, h5, h6, h7⟩ := h
    exact ⟨ra, ba, ka, rc, bc, kc, rcs, bcs, kcs, h1, h2.mono k, b11_mono k h3, h4.mono k, b11l_mono k h5, h6.mono k, b11q_mono k h7⟩
theorem b11l_mono {M M' : Raw} (k : Le M M') : ∀ {t : List Bt} {cs : List Value}, B11L M t cs → B11L M' t cs
  | [], _, h => by unfold B11L at h ⊢; exact h
  | _ :: _, _, h => by
    unfold B11L at h ⊢
    obtain ⟨c, d, h1, h2, h3, h4⟩ := h
    exact ⟨c, d, h1, h2, b11_mono k h3, b11l_mono k h4⟩
end
def Bt.is : Bt → Bool
  | .nil => false
  | .node _ _ => true
theorem B11.shape {M : Raw} {t : Bt} {cs : List Value} (h : B11 M t cs) : ∃ (x y : Int) (a : Option Addr) (n c : Nat), cs = [.bool t.is, .int .i64 x, .int .i64 y, .slice a n c] ∧ ((x, y) = t.key ∨ t = .nil) := by
  cases t with
  | nil => obtain ⟨x, y, a, c, h⟩ := b11_nil.1 h; exact ⟨x, y, a, 0, c, h, .inr rfl⟩
  | node x ts => obtain ⟨a, c, h, _⟩ := b11_node.1 h; exact ⟨_, _, a, _, c, h, .inl rfl⟩
theorem b11_ok : EncOk B11 4 := ⟨fun _ _ _ _ k h => b11_mono k h, fun M x c h => by
  obtain ⟨_, _, _, _, _, rfl, _⟩ := h.shape; rfl, fun M x c h v hv => by
  obtain ⟨_, _, _, _, _, rfl, _⟩ := h.shape; simp only [List.mem_cons, List.not_mem_nil, or_false] at hv; rcases hv with rfl | rfl | rfl | rfl <;> rfl⟩
theorem t11_iff {M : Raw} {x : Bt} {bs : List Bt} {ks : List (RT Bt)} {cs : List Value} : T11 M (.node x bs ks) cs ↔ ∃ (ra ba ka : Option Addr) (rc bc kc : Nat), cs = [.int .i64 (ks.length : Nat), .slice ra 1 rc, .slice ba bs.length bc, .slice ka ks.length kc] ∧
      Row B11 4 M [x] (.slice ra 1 rc) ∧ Row B11 4 M bs (.slice ba bs.length bc) ∧ Row T11 4 M ks (.slice ka ks.length kc) := by
  unfold T11
  constructor
  · rintro ⟨ra, ba, ka, rc, bc, kc, rcs, bcs, kcs, h1, h2, h3, h4, h5, h6, h7⟩
    exact ⟨ra, ba, ka, rc, bc, kc, h1, ⟨_, _, _, rfl, h2, rcs, [], by simp, b11_ok.len _ _ _ h3, h3, rfl⟩, ⟨_, _, _, rfl, h4, b11l_iff.1 h5⟩, _, _, _, rfl, h6, b11q_iff.1 h7⟩
  · rintro ⟨ra, ba, ka, rc, bc, kc, h1, ⟨_, _, _, h2, h3, rcs, d, rfl, _, h4, h5⟩, ⟨_, _, bcs, h6, h7, h8⟩, _, _, kcs, h9, h10, h11⟩
    cases h2; cases h6; cases h9; cases h5
    exact ⟨ra, ba, ka, rc, bc, kc, rcs, bcs, kcs, h1, by simpa using h3, h4, h7, b11l_iff.2 h8, h10, b11q_iff.2 h11⟩
theorem t11_ok : EncOk T11 4 := ⟨fun _ _ _ _ k h => t11_mono k h, fun M x c h => by
  cases x; obtain ⟨_, _, _, _, _, _, rfl, _⟩ := t11_iff.1 h; rfl, fun M x c h v hv => by
  cases x; obtain ⟨_, _, _, _, _, _, rfl, _⟩ := t11_iff.1 h; simp only [List.mem_cons, List.not_mem_nil, or_false] at hv; rcases hv with rfl | rfl | rfl | rfl <;> rfl⟩
theorem H10.mono {M M' : Raw} (k : Le M M') : ∀ {t : Ro} {cs : List Value}, H10 M t cs → H10 M' t cs
  | .nil, _, h => h
  | .node _ _, _, ⟨a, c, h1, h2⟩ => ⟨a, c, h1, h2.mono t5_ok k⟩
theorem h8_mk {M : Raw} {x : El} {ks : List Pr} {a : Option Addr} {nk c : Nat} {sz : Int} (h1 : sz = ((1 + Pr.sizes ks : Nat) : Int)) (hk : Row H8 4 M ks (.slice a nk c)) : H8 M (.node x ks) [.int .i64 x.1, .int .i64 x.2, .slice a nk c, .int .i64 sz] := by
  obtain ⟨_, _, h3, _⟩ := hk.slice
  cases h3; subst h1
  exact h8_node.2 ⟨_, _, rfl, hk⟩
theorem b11_mk {M : Raw} {x : El} {ts : List (RT Bt)} {a : Option Addr} {n c : Nat} (hk : Row T11 4 M ts (.slice a n c)) : B11 M (.node x ts) [.bool true, .int .i64 x.1, .int .i64 x.2, .slice a n c] := by
  obtain ⟨_, _, h3, _⟩ := hk.slice
  cases h3
  exact b11_node.2 ⟨_, _, rfl, hk⟩
theorem h10_mk {M : Raw} {x : El} {ts : List (RT El)} {a : Option Addr} {n c : Nat} (hk : Row T5 6 M ts (.slice a n c)) : H10 M (.node x ts) [.bool true, .int .i64 x.1, .int .i64 x.2, .slice a n c] := by
  obtain ⟨_, _, h3, _⟩ := hk.slice
  cases h3
  exact ⟨_, _, rfl, hk⟩
theorem t11_mk {M : Raw} {x : Bt} {bs : List Bt} {ks : List (RT Bt)} {ra ba ka : Option Addr} {nr nb nk rc bc kc : Nat} {rk : Int} (h1 : rk = (ks.length : Nat)) (hr : Row B11 4 M [x] (.slice ra nr rc)) (hb : Row B11 4 M bs (.slice ba nb bc)) (hk : Row T11 4 M ks (.slice ka nk kc)) :
    T11 M (.node x bs ks) [.int .i64 rk, .slice ra nr rc, .slice ba nb bc, .slice ka nk kc] := by
  obtain ⟨_, _, h3, _⟩ := hb.slice
  obtain ⟨_, _, h4, _⟩ := hk.slice
  obtain ⟨_, _, h5, _⟩ := hr.slice
  cases h3; cases h4; cases h5; subst h1
  exact t11_iff.2 ⟨_, _, _, _, _, _, rfl, hr, hb, hk⟩
end Go.Eng
/- Strings, package-level variables, and the library's contracts. No conditions. -/
namespace Go.Eng
open Go
variable {mb : Option Nat}
section
variable {P : Program} {l : Env} {x y : Operand} {ty t u : TypeId} {w : World}
theorem run_eqIn_nil {ms : Array (String × TypeId)} (ht : P.underlying t = some (.interface ms)) (n : Nat) : (Op.equalIn (n + 1) t .nilIface .nilIface).run P w = .ok true w := by simp [Op.equalIn, run_underlying ht]
theorem run_eqIn_err {ms : Array (String × TypeId)} (ht : P.underlying t = some (.interface ms)) (n : Nat) (d : TypeId) (z : Value) : (Op.equalIn (n + 1) t (.iface d z) .nilIface).run P w = .ok false w := by simp [Op.equalIn, run_underlying ht]
end
end Go.Eng
/- Values of interface types against nil. No conditions. -/
namespace Go.Eng
open Go
section
variable {P : Program} {l : Env} {x y : Operand} {ty t u : TypeId} {w : World}
theorem q_eqIf {v : Value} {b : Bool} {ms : Array (String × TypeId)} (ht : P.underlying t = some (.interface ms)) (hx : opv l x = some v) (hv : (v = .nilIface ∧ b = true) ∨ ∃ d z, v = .iface d z ∧ b = false) :
    Quiet P l (.binOp .eql t x (.const .nilIface) u) ty w (.bool b) := fun ρ h _ _ _ _ => by
  refine run_v ?_
  rw [h x _ hx, h (.const .nilIface) _ rfl]
  rcases hv with ⟨rfl, rfl⟩ | ⟨d, z, rfl, rfl⟩
  · rw [eqGuard_nil_constR]
    simp only [Result.andThen_ok, Sem.run_bind, Sem.run_pure, binOp, Op.equal]
    exact (congrArg (Result.andThen · _) (run_eqIn_nil ht 9999)).trans rfl
  · rw [eqGuard_at_iface]
    simp only [Result.andThen_ok, Sem.run_bind, Sem.run_pure, binOp, Op.equal]
    exact (congrArg (Result.andThen · _) (run_eqIn_err ht 9999 d z)).trans rfl
theorem h_invokeP {r0 : Option Nat} {n : Nat} {D : List Deferred} {K : Value → World → Prop} {x : Operand} {name : String} {f : FuncId} {t : TypeId} {u r : Value} {xs : List Operand} {ats : Array TypeId} {vs : List Value} (hf : callable P f = true) (hx : opv l x = some (.iface t u)) (ha : opvs l xs = some vs)
    (hm : (method (P.types.size + Made.depth) t u name).run P w = .ok (f, r) w) (h : Does P f (r :: vs).toArray w K) : HW ⟨P, r0, n, D⟩ l (.call ⟨.invoke x name, xs.toArray, ats⟩) ty w K := h_invoke (c := ⟨P, r0, n, D⟩) hf hx ha hm h
def isIf (P : Program) (t : TypeId) : Bool := match P.underlying t with | some (.interface _) => true | _ => false
theorem isIf_spec (h : isIf P t = true) : ∃ ms, P.underlying t = some (.interface ms) := by
  unfold isIf at h
  split at h
  · rename_i ms hm; exact ⟨ms, hm⟩
  · cases h
theorem q_ifNil (ht : isIf P t = true) (hx : opv l x = some .nilIface) : Quiet P l (.binOp .eql t x (.const .nilIface) u) ty w (.bool true) := by
  obtain ⟨ms, h⟩ := isIf_spec ht
  exact q_eqIf h hx (.inl ⟨rfl, rfl⟩)
theorem q_ifSome {d : TypeId} {z : Value} (ht : isIf P t = true) (hx : opv l x = some (.iface d z)) : Quiet P l (.binOp .eql t x (.const .nilIface) u) ty w (.bool false) := by
  obtain ⟨ms, h⟩ := isIf_spec ht
  exact q_eqIf h hx (.inr ⟨_, _, rfl, rfl⟩)
end
end Go.Eng
/- Steps by still shorter names: what is plain is found by itself. No conditions. -/
namespace Go.Eng
open Go
variable {mb : Option Nat}
theorem V {α : Sort _} {a b : α} (h : a = b := by kernel_rfl) : a = b := h
theorem O {p : Prop} (h : p := by omega) : p := h
theorem Sat.r {M : Mem mb} {w : World} (h : Sat M w) : Step Nope M w M w := Step.refl Nope h
section
variable {c : Cx} {l : Env} {w : World} {ops : Array Oper} {K : Env → World → Prop} {p : Pend} {fuel : Nat} {listed : Array Bool} {op : Op} {ty : TypeId} {pos : String} {after : Array Edge} {d : Nat} {js : List Oper}
theorem pr1 {α β : Type} {a a' : α} {b b' : β} (h : (a, b) = (a', b')) : a = a' := congrArg Prod.fst h
theorem pr2 {α β : Type} {a a' : α} {b b' : β} (h : (a, b) = (a', b')) : b = b' := congrArg Prod.snd h
theorem Nx {y : Code} {Kp : Post} {K : Env → World → Prop} (κ : ∀ l w, CW c y Kp l w → K l w) (h : CW c y Kp l w) : AS c ops K [] l w := as_nil (κ _ _ h)
theorem Dx {y : Code} {Kp : Post} {K : Env → World → Prop} (κ : ∀ l w, CW c y Kp l w → K l w) (h : CW c y Kp l w) (hck : (Region.ready .any ops listed == []) = true := by kernel_rfl) : AT c ops K p fuel listed l w := Dd hck (κ _ _ h)
theorem Qq {v : Value} (h : (Nat.blt d c.n, isDefer op) = (true, false)) (hq : Quiet c.P l op ty w v) (k : AS c ops K js ((d, v) :: l) w) : AS c ops K (⟨some d, op, ty, pos, after, none⟩ :: js) l w := as_q (pr1 h) (pr2 h) hq k
theorem Qm {v : Value} {x : Operand} (h : (Nat.blt d c.n, opv l x) = (true, some v)) (k : AS c ops K js ((d, v) :: l) w) : AS c ops K (⟨some d, .move x, ty, pos, after, none⟩ :: js) l w := Sm (pr1 h) (pr2 h) k
theorem Qa {v : Value} {x : Operand} (h : (Nat.blt d c.n, opv l x) = (true, some v)) (k : AS c ops K js ((d, v) :: l) w) : AS c ops K (⟨some d, .assign x, ty, pos, after, none⟩ :: js) l w := Sa (pr1 h) (pr2 h) k
theorem Qe {v : Value} {vs : List Value} {i : Nat} {x : Operand} (h : (Nat.blt d c.n, opv l x, nth vs i) = (true, some (.tuple vs.toArray), some v)) (k : AS c ops K js ((d, v) :: l) w) : AS c ops K (⟨some d, .extract x i, ty, pos, after, none⟩ :: js) l w := Se (pr1 h) (pr1 (pr2 h)) (pr2 (pr2 h)) k
theorem Qf (off : Nat) {T k b o : Nat} {x : Operand} (h : (Nat.blt d c.n, opv l x) = (true, some (.pointer (some ⟨b, o, none⟩)))) (k' : AS c ops K js ((d, .pointer (some ⟨b, o + off, none⟩)) :: l) w) (hT : fieldOff c.P T k = some off := by kernel_rfl) : AS c ops K (⟨some d, .fieldAddr T x k, ty, pos, after, none⟩ :: js) l w := Sf off (pr1 h) hT (pr2 h) k'
theorem Q1 {T b o : Nat} {v : Value} {x : Operand} (h : (Nat.blt d c.n, opv l x) = (true, some (.pointer (some ⟨b, o, none⟩)))) (hc : w.cell? ⟨b, o, none⟩ = some v) (k : AS c ops K js ((d, v) :: l) w) (hT : aggOf c.P T = some none := by kernel_rfl) : AS c ops K (⟨some d, .load T x, ty, pos, after, none⟩ :: js) l w := S1 (pr1 h) hT (pr2 h) hc k
theorem Qc (n : Nat) {T b o : Nat} {vs : List Value} {x : Operand} (h : (Nat.blt d c.n, opv l x) = (true, some (.pointer (some ⟨b, o, none⟩)))) (hc : vs.length = n ∧ ∀ j v, vs[j]? = some v → w.cell? ⟨b, o + j, none⟩ = some v) (k : AS c ops K js ((d, .agg vs.toArray) :: l) w) (hT : aggOf c.P T = some (some n) := by kernel_rfl) : AS c ops K (⟨some d, .load T x, ty, pos, after, none⟩ :: js) l w := Sc n (pr1 h) hT (pr2 h) hc k
theorem Ca {f : FuncId} {xs : List Operand} {ats : Array TypeId} {vs : List Value} (h : (Nat.blt d c.n, opvs l xs) = (true, some vs)) (k : Does c.P f vs.toArray w fun v w' => AS c ops K js ((d, v) :: l) w') (hf : callable c.P f = true := by kernel_rfl) :
    AS c ops K (⟨some d, .call ⟨.value (.func f), xs.toArray, ats⟩, ty, pos, after, none⟩ :: js) l w := as_h (pr1 h) (h_call hf (pr2 h) k)
theorem St {M : Mem mb} {x y : Operand} {t b o : Nat} {v : Value} {vs cs cs' : List Value} {e : TypeId} (hs : Sat M w) (ho : Own w M b cs e) (h : (opv l x, opv l y, vcells v, Nat.ble (o + vs.length) cs.length, vs.all (·.oneCell'), puts cs o vs) = (some (.pointer (some ⟨b, o, none⟩)), some v, vs, true, true, cs'))
    (hk : ∀ w', Step (Just b) M w M w' → Own w' M b cs' e → AS c ops K js l w') (hn : sizeB c.P t = some vs.length := by kernel_rfl) : AS c ops K (⟨none, .store t x y, ty, pos, after, none⟩ :: js) l w :=
  as_h0 (h_store hs ho (pr1 h) (pr1 (pr2 h)) (pr1 (pr2 (pr2 h))) hn (pr1 (pr2 (pr2 (pr2 h)))) (pr1 (pr2 (pr2 (pr2 (pr2 h))))) (pr2 (pr2 (pr2 (pr2 (pr2 h))))) hk)
theorem Al {M : Mem mb} {e : TypeId} (z : Value) {cs : List Value} (hs : Sat M w) (h : (Nat.blt d c.n, vcells z) = (true, cs)) (hk : ∀ b w', Step Nope M w M w' → Own w' M b cs e → w.heap.size = b → AS c ops K js ((d, .pointer (some ⟨b, 0, none⟩)) :: l) w') (hz : zeroOf c.P e = some z := by kernel_rfl) :
    AS c ops K (⟨some d, .alloc e, ty, pos, after, none⟩ :: js) l w := as_h (pr1 h) (h_allocO hs hz (pr2 h) hk)
theorem Bm {M : Mem mb} {x : Operand} {e : TypeId} {v : Value} {cs : List Value} (hs : Sat M w) (h : (Nat.blt d c.n, opv l x, vcells v) = (true, some v, cs)) (hk : ∀ b M' w', Step Nope M w M' w' → M' b = some (cs, e) → w.heap.size = b → AS c ops K js ((d, .pointer (some ⟨b, 0, none⟩)) :: l) w') :
    AS c ops K (⟨some d, .box e x, ty, pos, after, none⟩ :: js) l w := as_h (pr1 h) (h_boxM hs (pr1 (pr2 h)) (pr2 (pr2 h)) hk)
theorem Bo {M : Mem mb} {x : Operand} {e : TypeId} {v : Value} {cs : List Value} (hs : Sat M w) (h : (Nat.blt d c.n, opv l x, vcells v) = (true, some v, cs)) (hk : ∀ b w', Step Nope M w M w' → Own w' M b cs e → w.heap.size = b → AS c ops K js ((d, .pointer (some ⟨b, 0, none⟩)) :: l) w') :
    AS c ops K (⟨some d, .box e x, ty, pos, after, none⟩ :: js) l w := as_h (pr1 h) (h_boxO hs (pr1 (pr2 h)) (pr2 (pr2 h)) hk)
theorem Gq (i m : Nat) {v : Value} (hi : ops[i]? = some ⟨some d, op, ty, pos, after, none⟩) (hq : ∀ w', Quiet c.P l op ty w' v) (h : AT c ops K p fuel (lb ops.size m) ((d, v) :: l) w)
    (hb : (mayTake ops listed i && Nat.blt d c.n && (listed.setIfInBounds i true).toList == lbl ops.size m) = true := by kernel_rfl) : AT c ops K p (fuel + 1) listed l w := Dq i m hi hb hq h
theorem Gm (i m : Nat) {v : Value} {x : Operand} (hi : (ops[i]?, opv l x) = (some ⟨some d, .move x, ty, pos, after, none⟩, some v)) (h : AT c ops K p fuel (lb ops.size m) ((d, v) :: l) w)
    (hb : (mayTake ops listed i && Nat.blt d c.n && (listed.setIfInBounds i true).toList == lbl ops.size m) = true := by kernel_rfl) : AT c ops K p (fuel + 1) listed l w := Dm i m (pr1 hi) hb (pr2 hi) h
theorem Ga (i m : Nat) {v : Value} {x : Operand} (hi : (ops[i]?, opv l x) = (some ⟨some d, .assign x, ty, pos, after, none⟩, some v)) (h : AT c ops K p fuel (lb ops.size m) ((d, v) :: l) w)
    (hb : (mayTake ops listed i && Nat.blt d c.n && (listed.setIfInBounds i true).toList == lbl ops.size m) = true := by kernel_rfl) : AT c ops K p (fuel + 1) listed l w := Da i m (pr1 hi) hb (pr2 hi) h
theorem Gf (i m off : Nat) {T k b o : Nat} {x : Operand} (hi : (ops[i]?, opv l x) = (some ⟨some d, .fieldAddr T x k, ty, pos, after, none⟩, some (.pointer (some ⟨b, o, none⟩)))) (h : AT c ops K p fuel (lb ops.size m) ((d, .pointer (some ⟨b, o + off, none⟩)) :: l) w)
    (hb : (mayTake ops listed i && Nat.blt d c.n && (listed.setIfInBounds i true).toList == lbl ops.size m) = true := by kernel_rfl) (hT : fieldOff c.P T k = some off := by kernel_rfl) : AT c ops K p (fuel + 1) listed l w := Df i m off (pr1 hi) hb hT (pr2 hi) h
theorem G1 (i m : Nat) {T b o : Nat} {v : Value} {x : Operand} (hi : (ops[i]?, opv l x) = (some ⟨some d, .load T x, ty, pos, after, none⟩, some (.pointer (some ⟨b, o, none⟩)))) (hc : cellIs b o v w) (h : AT c ops K ((i, cellIs b o v) :: p) fuel (lb ops.size m) ((d, v) :: l) w)
    (hb : (mayTake ops listed i && Nat.blt d c.n && (listed.setIfInBounds i true).toList == lbl ops.size m) = true := by kernel_rfl) (hT : aggOf c.P T = some none := by kernel_rfl) : AT c ops K p (fuel + 1) listed l w := Dl1 i m (pr1 hi) hb hT (pr2 hi) hc h
theorem Gc (i m n : Nat) {T b o : Nat} {vs : List Value} {x : Operand} (hi : (ops[i]?, opv l x) = (some ⟨some d, .load T x, ty, pos, after, none⟩, some (.pointer (some ⟨b, o, none⟩)))) (hc : cellsAre b o n vs w) (h : AT c ops K ((i, cellsAre b o n vs) :: p) fuel (lb ops.size m) ((d, .agg vs.toArray) :: l) w)
    (hb : (mayTake ops listed i && Nat.blt d c.n && (listed.setIfInBounds i true).toList == lbl ops.size m) = true := by kernel_rfl) (hT : aggOf c.P T = some (some n) := by kernel_rfl) : AT c ops K p (fuel + 1) listed l w := Dlc i m n (pr1 hi) hb hT (pr2 hi) hc h
theorem Gh (i m : Nat) (hi : ops[i]? = some ⟨some d, op, ty, pos, after, none⟩) {p' : Pend} (hp' : keep ops i p = p') (hq : HW c l op ty w fun v w' => All p' w' ∧ AT c ops K p' fuel (lb ops.size m) ((d, v) :: l) w')
    (hb : (Region.ready .any ops listed == [i] && Nat.blt d c.n && (listed.setIfInBounds i true).toList == lbl ops.size m) = true := by kernel_rfl) : AT c ops K p (fuel + 1) listed l w := Dh i m hi hb hp' hq
theorem G0 (i m : Nat) (hi : ops[i]? = some ⟨none, op, ty, pos, after, none⟩) {p' : Pend} (hp' : keep ops i p = p') (hq : HW c l op ty w fun _ w' => All p' w' ∧ AT c ops K p' fuel (lb ops.size m) l w')
    (hb : (Region.ready .any ops listed == [i] && (listed.setIfInBounds i true).toList == lbl ops.size m) = true := by kernel_rfl) : AT c ops K p (fuel + 1) listed l w := Dh0 i m hi hb hp' hq
theorem Gi (i m : Nat) (hi : ops[i]? = some ⟨some d, op, ty, pos, after, none⟩) {p' : Pend} (hp' : keep ops i p = p') (hq : HW c l op ty w fun v w' => All p' w' ∧ AT c ops K p' fuel (lb ops.size m) ((d, v) :: l) w')
    (hb : (Nat.blt d c.n && (listed.setIfInBounds i true).toList == lbl ops.size m) = true := by kernel_rfl) : AH c ops K p fuel listed i l w := Dah i m hi hb hp' hq
theorem Ks {j : Nat} (bs : List Bool) (h : p.map (fun x => direct ops x.1 j) = bs := by kernel_rfl) : keep ops j p = sift bs p := keep_sift h
end
section
variable {P : Program} {l : Env} {w : World} {x y : Operand} {ty : TypeId}
theorem Rc (n : Nat) {a T b o : Nat} {vs : List Value} {r : List ResultVar} {us : List Value} (h : look l a = some (.pointer (some ⟨b, o, none⟩))) (hc : vs.length = n ∧ ∀ j v, vs[j]? = some v → w.cell? ⟨b, o + j, none⟩ = some v) (hr : ResL P l w r us) (hT : aggOf P T = some (some n) := by kernel_rfl) : ResL P l w (.cell a T :: r) (.agg vs.toArray :: us) := res_cell h (loadVar_n hT hc) hr
theorem Rt {t : Nat} {v : Value} (h : look l t = some v) : ResL P l w [.tmp t] [v] := res_tmp h res_nil
end
section
variable {c : Cx} {l : Env} {w : World} {ops ops2 : Array Oper} {K : Env → World → Prop} {p : Pend} {fuel : Nat} {listed : Array Bool} {ty : TypeId} {pos : String} {after : Array Edge} {d id : Nat} {js lops : List Oper} {x y : Code} {Kp : Post}
theorem Ri (h : ∀ {K' : Env → World → Prop}, (∀ l w, CW c y Kp l w → K' l w) → AS c lops.toArray K' lops l w) : CW c (.seq (.region id lops.toArray false) y) Kp l w := cw_rs fun _ => h
theorem Rv (h : ∀ {K' : Env → World → Prop}, (∀ l w, CW c y Kp l w → K' l w) → AT c ops K' [] ops.size (Array.replicate ops.size false) l w.drew) (hb : (c.P.follows .mixedOrders && noDefer ops && Region.noSelect ops) = true := by kernel_rfl) : CW c (.seq (.region id ops true) y) Kp l w := cw_dr hb fun _ => h
theorem Nr (κ : ∀ l w, CW c (.seq (.region id lops.toArray false) y) Kp l w → K l w) (h : ∀ {K' : Env → World → Prop}, (∀ l w, CW c y Kp l w → K' l w) → AS c lops.toArray K' lops l w) : AS c ops K [] l w := Nx κ (Ri h)
theorem Na {v : Value} {o : Operand} (h : (Nat.blt d c.n, opv l o) = (true, some v)) (κ : ∀ l w, CW c y Kp l w → K l w) (k : CW c y Kp ((d, v) :: l) w) : AS c ops K [⟨some d, .assign o, ty, pos, after, none⟩] l w := Qa h (Nx κ k)
theorem Nar {v : Value} {o : Operand} (h : (Nat.blt d c.n, opv l o) = (true, some v)) (κ : ∀ l w, CW c (.seq (.region id lops.toArray false) y) Kp l w → K l w) (k : ∀ {K' : Env → World → Prop}, (∀ l w, CW c y Kp l w → K' l w) → AS c lops.toArray K' lops ((d, v) :: l) w) : AS c ops K [⟨some d, .assign o, ty, pos, after, none⟩] l w := Na h κ (Ri k)
end
section
variable {P : Program} {l : Env} {w : World} {x y : Operand} {ty t u : TypeId} {k : IntKind} {a b : Int}
theorem ql {c : Cx} {a : Option Addr} {n cap : Nat} (hx : opv l x = some (.slice a n cap)) (ht : (match c.P.underlying t with | some (.slice _) => true | _ => false) = true := by kernel_rfl) : Quiet c.P l (.call ⟨.builtin .len, #[x], #[t]⟩) ty w (.int .i64 n) := q_len ht hx w
theorem qi (e size : Nat) {T b o n cap : Nat} {i : Int} (h : (opv l x, opv l y) = (some (.slice (some ⟨b, o, none⟩) n cap), some (.int k i))) (h0 : 0 ≤ i := by omega) (h1 : i < n := by omega) (hT : P.underlying T = some (.slice e) := by kernel_rfl) (hz : sizeB P e = some size := by kernel_rfl) : Quiet P l (.indexAddr T x y) ty w (.pointer (some ⟨b, o + i.toNat * size, none⟩)) := q_indexAddr hT hz (pr1 h) (pr2 h) h0 h1
theorem qn {p : Option Addr} (hx : opv l x = some (.pointer p)) (ht : isPtr P t = true := by kernel_rfl) : Quiet P l (.binOp .eql t x (.const (.pointer none)) u) ty w (.bool p.isNone) := q_eqnil ht hx
theorem qf {T : TypeId} {v : Value} (hx : opv l x = some v) (hT : P.concrete T = true := by kernel_rfl) : Quiet P l (.makeInterface T x) ty w (.iface T v) := q_iface hT hx
theorem qA (h : (opv l x, opv l y) = (some (.int .i64 a), some (.int .i64 b))) (h0 : -9223372036854775808 ≤ a + b := by omega) (h1 : a + b ≤ 9223372036854775807 := by omega) : Quiet P l (.binOp .add t x y u) ty w (.int .i64 (a + b)) := q_addx (pr1 h) (pr2 h) h0 h1
theorem qS (h : (opv l x, opv l y) = (some (.int .i64 a), some (.int .i64 b))) (h0 : -9223372036854775808 ≤ a - b := by omega) (h1 : a - b ≤ 9223372036854775807 := by omega) : Quiet P l (.binOp .sub t x y u) ty w (.int .i64 (a - b)) := q_subx (pr1 h) (pr2 h) h0 h1
theorem qET (h : (opv l x, opv l y) = (some (.int k a), some (.int k b))) (h0 : a = b := by omega) : Quiet P l (.binOp .eql t x y u) ty w (.bool true) := q_eqT (pr1 h) (pr2 h) h0
theorem qEF (h : (opv l x, opv l y) = (some (.int k a), some (.int k b))) (h0 : a ≠ b := by omega) : Quiet P l (.binOp .eql t x y u) ty w (.bool false) := q_eqF (pr1 h) (pr2 h) h0
theorem qGT (h : (opv l x, opv l y) = (some (.int k a), some (.int k b))) (h0 : b < a := by omega) : Quiet P l (.binOp .gtr t x y u) ty w (.bool true) := q_gtT (pr1 h) (pr2 h) h0
theorem qGF (h : (opv l x, opv l y) = (some (.int k a), some (.int k b))) (h0 : a ≤ b := by omega) : Quiet P l (.binOp .gtr t x y u) ty w (.bool false) := q_gtF (pr1 h) (pr2 h) h0
theorem qLT (h : (opv l x, opv l y) = (some (.int k a), some (.int k b))) (h0 : a < b := by omega) : Quiet P l (.binOp .lss t x y u) ty w (.bool true) := q_ltT (pr1 h) (pr2 h) h0
theorem qLF (h : (opv l x, opv l y) = (some (.int k a), some (.int k b))) (h0 : b ≤ a := by omega) : Quiet P l (.binOp .lss t x y u) ty w (.bool false) := q_ltF (pr1 h) (pr2 h) h0
theorem Fe {f : FuncId} {fn : Func} {xc : Code} {args : List Value} {K : Value → World → Prop} (hf : P.funcs[f]? = some fn) (rs : List ResultVar) (h : (fn.body, fn.results, Nat.ble args.length fn.ntmps, argEnv args 0) = (some xc, rs.toArray, true, l)) (k : CW ⟨P, none, fn.ntmps, []⟩ xc (fnK P rs K) l w) : Does P f args.toArray w K :=
  fn_enter hf (pr1 h) (pr1 (pr2 h)) rfl (pr1 (pr2 (pr2 h))) (pr2 (pr2 (pr2 h))) k
end
section
variable {i j : Nat} {S S' : Nat → Prop} {M M' M'' : Mem mb} {w w' w'' : World}
theorem BC {b o : Nat} {cs : List Value} {e : TypeId} {v : Value} (h : StepC S i M w M' w') (hb : M' b = some (cs, e)) (hv : nth cs o = some v) : w'.cell? ⟨b, o, none⟩ = some v := (h.sat.blk _ _ _ hb).cell hv
theorem BD {b o n : Nat} {cs vs : List Value} {e : TypeId} (h : StepC S i M w M' w') (hb : M' b = some (cs, e)) (hv : cut cs o n = some vs) : vs.length = n ∧ ∀ j v, vs[j]? = some v → w'.cell? ⟨b, o + j, none⟩ = some v := (h.sat.blk _ _ _ hb).cells hv
theorem OC {b o : Nat} {cs : List Value} {e : TypeId} {v : Value} (h : Own w M b cs e) (hv : nth cs o = some v) : w.cell? ⟨b, o, none⟩ = some v := h.1.cell hv
theorem OD {b o n : Nat} {cs vs : List Value} {e : TypeId} (h : Own w M b cs e) (hv : cut cs o n = some vs) : vs.length = n ∧ ∀ j v, vs[j]? = some v → w.cell? ⟨b, o + j, none⟩ = some v := h.1.cells hv
theorem StepC.t (h : StepC S i M w M' w') (k : StepC Nope j M' w' M'' w'') : StepC S (i + j) M w M'' w'' := h.then k
theorem StepC.o (h : StepC S i M w M' w') {b : Nat} (k : StepC (Just b) j M' w' M'' w'') (hb : w.heap.size ≤ b := by omega) : StepC S (i + j) M w M'' w'' := h.own k hb
theorem Own.t {b : Nat} {cs : List Value} {e : TypeId} (h : Own w M b cs e) (k : StepC Nope i M w M' w') : Own w' M' b cs e := h.then k
theorem Own.u {b : Nat} {cs : List Value} {e : TypeId} (h : Own w M b cs e) (k : StepC S i M w M' w') (hb : ¬ S b := by (intro h; have h : _ = _ := h; omega)) : Own w' M' b cs e := h.step k hb
theorem PtRow.t {E g n cap i : Nat} {l : List (Option Addr)} (h : PtRow E w M g n cap l) (k : StepC Nope i M w M' w') : PtRow E w' M' g n cap l := h.then k
theorem ElRow.t {E g n cap i : Nat} {d : Array El} (h : ElRow E w M g n cap d) (k : StepC Nope i M w M' w') : ElRow E w' M' g n cap d := h.then k
theorem PtRow.u {E g n cap i : Nat} {l : List (Option Addr)} (h : PtRow E w M g n cap l) (k : StepC S i M w M' w') (hb : ¬ S g := by (intro h; have h : _ = _ := h; omega)) : PtRow E w' M' g n cap l := h.step k hb
theorem ElRow.u {E g n cap i : Nat} {d : Array El} (h : ElRow E w M g n cap d) (k : StepC S i M w M' w') (hb : ¬ S g := by (intro h; have h : _ = _ := h; omega)) : ElRow E w' M' g n cap d := h.step k hb
theorem Buf.t {e size n : Nat} {v : Value} {cs : List Value} (h : Buf w M e size v n cs) (k : StepC Nope i M w M' w') : Buf w' M' e size v n cs := h.then k
end
end Go.Eng
