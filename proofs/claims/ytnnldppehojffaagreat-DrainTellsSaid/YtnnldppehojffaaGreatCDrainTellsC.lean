/- Steps of the proof that the law of this claim answers true, part 3. No conditions. -/
import Derived.Test.YtnnldppehojffaaGreatProg
import Derived.KernelRfl
import Derived.Laws.LoneSync
import Derived.Test.YtnnldppehojffaaGreatCDrainTellsB
/- Elements in order, and steps that are counted, part 1. -/
namespace Go.Proofs.YtnnldppehojffaaGreat
open Go Go.Eng
variable {mb:Option Nat} {w:World} {M:Mem mb}
abbrev Dz:=Does Tryz.prog
theorem srt_isNaN {a:Int} (hs:Sat M w):
  Dz 186 #[.int .i64 a] w (fun v w'=>v = .bool false∧Step Nope M w M w'):=by
 have hT:=hs.r
 refine Fe Tryz.func186 [.tmp 2] rfl<|Ri fun Z=>Nar rfl Z fun Z=>Qm rfl<|Qm rfl<|Qq rfl (q_neF rfl rfl O)<|Na rfl Z<|cw_ret ?_
 exact ⟨_,Rt rfl,rfl,hT⟩
theorem srt_cmp1 {a b:Int} (hs:Sat M w):
  Dz 185 #[.int .i64 a, .int .i64 b] w (fun v w'=>v = .int .i64 (cmp1 a b)∧Step Nope M w M w'):=by
 have hT:=hs.r
 refine Fe Tryz.func185 [.tmp 4] rfl<|Ri fun Z=>Nar rfl Z fun Z=>Qm rfl<|Ca rfl ((srt_isNaN hs).mono ?_)
 rintro _ w1 ⟨rfl,hs1⟩
 refine Nar rfl Z fun Z=>Qm rfl<|Ca rfl ((srt_isNaN hs1.sat).mono ?_)
 rintro _ w2 ⟨rfl,hs2⟩
 refine Na rfl Z<|cw_seq fun _ hK4=>Ri fun Z=>Qm rfl<|Nx Z<|cw_false rfl<|cw_skip<|hK4 _ _<|cw_seq fun _ hK6=>Ri fun Z=>Qm rfl<|Nx Z<|cw_false rfl<|cw_skip<|hK6 _ _<|cw_seq fun _ hK8=>Ri fun Z=>Qm rfl<|Qm rfl<|Qq rfl (q_lt rfl rfl)<|Nx Z ?_
 have hT:=hT.t hs1 |>.t hs2
 refine cw_cond rfl (fun hc3=>?_) (fun hc3=>?_)
 ·have hc3:=of_decide_eq_true hc3
  refine Ri fun Z=>Na rfl Z<|cw_ret ?_
  exact ⟨_,Rt rfl,by rw [show cmp1 a b = -1 from if_pos O]; rfl,hT⟩
 ·have hc3:=of_decide_eq_false hc3
  refine cw_skip<|hK8 _ _<|cw_seq fun _ hK11=>Ri fun Z=>Qm rfl<|Qm rfl<|Qq rfl (q_gt rfl rfl)<|Nx Z<|cw_cond rfl (fun hc4=>?_) (fun hc4=>?_)
  ·have hc4:=of_decide_eq_true hc4
   refine Ri fun Z=>Na rfl Z<|cw_ret ?_
   exact ⟨_,Rt rfl,by rw [show cmp1 a b=1 from (if_neg O).trans (if_pos O)]; rfl,hT⟩
  ·have hc4:=of_decide_eq_false hc4
   refine cw_skip<|hK11 _ _<|Ri fun Z=>Na rfl Z<|cw_ret ?_
   exact ⟨_,Rt rfl,by rw [show cmp1 a b=0 from (if_neg O).trans (if_neg O)]; rfl,hT⟩
theorem or_get {x y z:Int} {i:Nat} (h:[x,y][i]? = some z):[Value.int .i64 x,Value.int .i64 y][i]? = some (.int .i64 z):=by
 match i,h with
 | 0,h=>cases h; rfl
 | 1,h=>cases h; rfl
 | _+2,h=>simp at h
theorem or_first {x y z:Int} {i:Nat} (h:[x,y][i]? = some z) (hz:z≠0) (h0:∀ j z,j<i→[x,y][j]? = some z→z=0):(if x=0 then y else x)=z:=by
 match i,h with
 | 0,h=>cases h; exact if_neg hz
 | 1,h=>cases h; exact if_pos (h0 0 x O rfl)
 | _+2,h=>simp at h
theorem or_none {x y:Int} (h0:∀ j z,j<2→[x,y][j]? = some z→z=0):(if x=0 then y else x)=0:=by
 rw [if_pos (h0 0 x O rfl)]
 exact h0 1 y O rfl
theorem srt_or {x y:Int} {g o c:Nat} (hs:Sat M w) (hr:RdM M 1 (.slice (some ⟨g,o,none⟩) 2 c) 2 [.int .i64 x, .int .i64 y]):
  Dz 184 #[.slice (some ⟨g,o,none⟩) 2 c] w (fun v w'=>v = .int .i64 (if x=0 then y else x)∧Step Nope M w M w'):=by
 have hT:=hs.r
 refine Fe Tryz.func184 [.tmp 2] rfl<|Ri fun Z=>Nar rfl Z fun Z=>Na rfl Z<|cw_seq fun _ hK3=>Ri fun Z=>Qm rfl<|Qq rfl (ql rfl)<|Qm rfl<|Nx Z<|cw_block<|cw_loop (fun mm l w1=>∃ i:Nat,mm=2-i∧i≤2∧(∀ j z,j<i→[x,y][j]? = some z→z=0)∧l=[(3, .int .i64 0),(6, .slice (some ⟨g,o,none⟩) 2 c),(7, .int .i64 (2:Nat)),(8, .int .i64 i)]∧Step Nope M w M w1) (2) [(3, .int .i64 0),(6, .slice (some ⟨g,o,none⟩) 2 c),(7, .int .i64 (2:Nat)),(8, .int .i64 (0:Nat))] (.cons rfl (.cons rfl (.cons rfl (.cons rfl (.nil _))))) ?_ ?_
 ·exact ⟨0,rfl,by omega,fun j z hj=>by omega,rfl,hT⟩
 clear hT
 rintro mm l w1 ⟨i,rfl,hi,hx0,rfl,hT⟩
 refine Ri fun Z=>Qq rfl (q_lt rfl rfl)<|Nx Z<|cw_seq fun _ hK6=>cw_cond rfl (fun hc0=>?_) (fun hc0=>?_)
 ·have hlt:i<2:=by have:=of_decide_eq_true hc0; omega
  obtain ⟨z,hz⟩:∃ z,[x,y][i]? = some z:=⟨[x,y][i],by simp⟩
  refine cw_skip<|hK6 _ _<|cw_seq fun _ hK7=>cw_block<|Ri fun Z=>Qq rfl (qi 3 1 rfl)<|Q1 rfl (hr.cell hT.sat (u:= .int .i64 z) (by rw [show (i:Int).toNat*1=i from by omega]; exact or_get hz))<|Nar rfl Z fun Z=>Qm rfl<|Qm rfl<|Qq rfl (q_ne rfl rfl)<|Nx Z<|cw_cond rfl (fun hc1=>?_) (fun hc1=>?_)
  ·have hz0:z≠0:=by simpa using hc1
   refine Ri fun Z=>Qm rfl<|Na rfl Z<|cw_ret ?_
   exact ⟨_,Rt rfl,by rw [or_first hz hz0 hx0]; rfl,hT⟩
  ·have hz0:z=0:=by simpa using hc1
   refine cw_skip<|hK7 _ _<|cw_region fun _ Z=>Qq rfl (qA rfl)<|Qm rfl<|as_nil (Z _ _ ?_)
   refine ⟨_,_,?_,(.cons rfl (.cons rfl (.cons rfl (.cons rfl (.nil _))))),i+1,rfl,by omega,fun j z2 hj hz2=>?_,rfl,hT⟩
   ·omega
   ·rcases Nat.lt_or_ge j i with h | h
    ·exact hx0 j z2 h hz2
    ·obtain rfl:j=i:=by omega
     rw [hz] at hz2
     cases hz2
     exact hz0
 ·have hge:i=2:=by have:=of_decide_eq_false hc0; omega
  refine cw_exit<|hK3 _ _<|Ri fun Z=>Qm rfl<|Na rfl Z<|cw_ret ?_
  subst hge
  exact ⟨_,Rt rfl,by rw [or_none hx0]; rfl,hT⟩
theorem srt_compare {a b:El} (hs:Sat M w):
  Dz 183 #[.agg (elc a).toArray, .agg (elc b).toArray] w (fun v w'=>v = .int .i64 (cmpE a b)∧Step Nope M w M w'):=by
 have hT:=hs.r
 refine Fe Tryz.func183 [.tmp 4] rfl<|Ri fun Z=>?_
 have:=hT.size
 refine Bo hs rfl fun b1 w1 hs1 ho1 e1=>?_
 have:=hs1.size
 have:=ho1.1.lt
 have hT:=hT.t hs1
 have:=hT.size
 refine Bo hs1.sat rfl fun b2 w2 hs2 ho2 e2=>?_
 have:=hs2.size
 have:=ho2.1.lt
 refine Na rfl Z<|cw_seq fun _ hK2=>Ri fun Z=>?_
 have ho1:=ho1.t hs2
 refine Qc 2 rfl (OD ho1 rfl)<|Qc 2 rfl (OD ho2 rfl)<|Qq rfl (q_eqE (a:=a) (b:=b) (e:=2) V V V V V V rfl rfl)<|Nx Z ?_
 have hT:=hT.t hs2
 refine cw_cond rfl (fun hc0=>?_) (fun hc0=>?_)
 ·obtain rfl:=of_decide_eq_true hc0
  refine Ri fun Z=>Na rfl Z<|cw_ret ?_
  exact ⟨_,Rt rfl,by rw [show cmpE a a=0 by unfold cmpE; rw [cmp1_zero.2 rfl,if_pos rfl,cmp1_zero.2 rfl]]; rfl,hT.forget⟩
 ·skip
  refine cw_skip<|hK2 _ _<|Rv fun Z=>?_
  have hs3:=Step.drew hs2.sat
  have:=hs3.size
  refine Gf 0 1 0 rfl ?_
  have ho1:=ho1.t hs3
  refine G1 1 3 rfl (OC ho1 rfl)<|Gf 2 7 0 rfl ?_
  have ho2:=ho2.t hs3
  refine G1 3 15 rfl (OC ho2 rfl)<|Gf 5 47 1 rfl<|G1 6 111 rfl (OC ho1 rfl)<|Gf 7 239 1 rfl<|G1 8 495 rfl (OC ho2 rfl)<|Gh 4 511 rfl (Ks [F,F,T,T]) (h_call V rfl ?_)
  refine (srt_cmp1 hs3.sat).mono ?_
  rintro _ w4 ⟨rfl,hs4⟩
  have:=hs4.size
  have hT:=hT.t hs3 |>.t hs4
  have ho1:=ho1.t hs4
  have ho2:=ho2.t hs4
  refine ⟨(by repeat' first | exact trivial | exact OC ho1 rfl | exact OC ho2 rfl | refine And.intro ?_ ?_),?_⟩
  refine Gh 9 1023 rfl (Ks [T,T]) (h_call V rfl ?_)
  refine (srt_cmp1 hs4.sat).mono ?_
  rintro _ w5 ⟨rfl,hs5⟩
  have:=hs5.size
  refine ⟨trivial,?_⟩
  refine Gh 10 2047 rfl rfl (h_buildM (e:=3) (size:=1) (zs:=[(.int .i64 0),(.int .i64 0)]) (cs:=[_,_]) V V V rfl hs5.sat rfl rfl rfl fun bO MO w6 hs6 hrO eO=>?_)
  have:=hs6.size
  refine ⟨trivial,?_⟩
  refine Gh 11 4095 rfl rfl (h_call V rfl ?_)
  refine (srt_or hs6.sat hrO).mono ?_
  rintro _ w7 ⟨rfl,hs7⟩
  have:=hs7.size
  refine ⟨trivial,?_⟩
  refine Ga 12 8191 rfl<|Dx Z<|cw_ret ?_
  have hT:=hT.t hs5 |>.t hs6 |>.t hs7
  exact ⟨_,Rt rfl,rfl,hT.forget⟩
theorem el_less {a b:El} (hs:Sat M w):
  Dz 181 #[.agg (elc a).toArray, .agg (elc b).toArray] w (fun v w'=>v = .bool (ltE a b)∧Step Nope M w M w'):=by
 have hT:=hs.r
 refine Fe Tryz.func181 [.tmp 4] rfl<|Ri fun Z=>Bm hs rfl fun b1 M1 w1 hs1 hb1 e1=>Bm hs1.sat rfl fun b2 M2 w2 hs2 hb2 e2=>Nar rfl Z fun Z=>?_
 have hb1:=hs2.le _ _ hb1
 refine Qc 2 rfl (BD hs2 hb1 rfl)<|Qc 2 rfl (BD hs2 hb2 rfl)<|Ca rfl ((srt_compare (a:=a) (b:=b) hs2.sat).mono ?_)
 rintro _ w3 ⟨rfl,hs3⟩
 refine Qq rfl (q_lt rfl rfl)<|Na rfl Z<|cw_ret ?_
 have hT:=hT.t hs1 |>.t hs2 |>.t hs3
 exact ⟨_,Rt rfl,rfl,hT.forget⟩
theorem m_less0 {w:World} {M:Mem none} {a b:El} (hs:Sat M w):
  Dz 176 #[.pointer none, .agg (elc a).toArray, .agg (elc b).toArray] w (fun v w'=>v = .bool (ltE a b)∧Step Nope M w M w'):=by
 have hT:=hs.r
 refine Fe Tryz.func176 [.tmp 6] rfl<|Ri fun Z=>Bm hs rfl fun b1 M1 w1 hs1 hb1 e1=>Bm hs1.sat rfl fun b2 M2 w2 hs2 hb2 e2=>Na rfl Z<|cw_seq fun _ hK2=>Ri fun Z=>Qm rfl<|Qq rfl (q_nenil V rfl)<|Nx Z<|cw_false rfl<|cw_skip<|hK2 _ _<|Ri fun Z=>?_
 have hb1:=hs2.le _ _ hb1
 refine Qc 2 rfl (BD hs2 hb1 rfl)<|Qc 2 rfl (BD hs2 hb2 rfl)<|Ca rfl ((el_less (a:=a) (b:=b) hs2.sat).mono ?_)
 rintro _ w3 ⟨rfl,hs3⟩
 refine Na rfl Z<|cw_ret ?_
 have hT:=hT.t hs1 |>.t hs2 |>.t hs3
 exact ⟨_,Rt rfl,rfl,hT.forget⟩
theorem m_made0 {w:World} {M:Mem none} {k:Int} (hs:Sat M w):
  Dz 142 #[.pointer none, .int .i64 k] w (fun _ w'=>Step Nope M w M w'):=by
 have hT:=hs.r
 refine Fe Tryz.func142 [] rfl<|Ri fun Z=>Qm rfl<|Qq rfl (q_nenil V rfl)<|Nx Z<|cw_false rfl<|cw_skip ?_
 exact ⟨_,res_nil,hT⟩
theorem i64_add {w:World} {M:Mem none} {b o T:Nat} {cs:List Value} {z:Int} (hs:Sat M w) (ho:Own w M b cs T) (hc:cs[o]? = some (.int .i64 z)):
  Dz 179 #[.pointer (some ⟨b,o,none⟩), .int .i64 1] w (fun _ w'=>Step (Just b) M w M w'∧Own w' M b (cs.set o (.int .i64 (IntKind.wrap .i64 (z+1)))) T):=by
 have hT:=Step.refl (Just b) hs
 refine Fe Tryz.func179 [.tmp 4] rfl<|Ri fun Z=>Nar rfl Z fun Z=>Qm rfl<|Qq rfl (q_nilp rfl)<|Qf 0 rfl<|Qm rfl<|as_h rfl (h_externO hs ho rfl (run_call_add Tryz.func182 V V V .i64 V (ho.at hc) (ho.1.free _) (s:=IntKind.wrap .i64 (z+1)) rfl) fun w1 hs1 ho1=>?_)
 clear ho; have ho:=ho1; clear ho1
 refine Na rfl Z<|cw_ret ?_
 have hT:=hT.also hs1
 exact ⟨_,Rt rfl,hT,ho⟩
theorem m_less1 {w:World} {M:Mem none} {b T:Nat} {x y:Int} {a1 a2:El} (hs:Sat M w) (ho:Own w M b [.int .i64 x, .int .i64 y] T):
  Dz 176 #[.pointer (some ⟨b,0,none⟩), .agg (elc a1).toArray, .agg (elc a2).toArray] w (fun v w'=>v = .bool (ltE a1 a2)∧Step (Just b) M w M w'∧Own w' M b [.int .i64 (IntKind.wrap .i64 (x+1)), .int .i64 y] T):=by
 have hT:=Step.refl (Just b) hs
 refine Fe Tryz.func176 [.tmp 6] rfl<|Ri fun Z=>Bm hs rfl fun b1 M1 w1 hs1 hb1 e1=>Bm hs1.sat rfl fun b2 M2 w2 hs2 hb2 e2=>Na rfl Z<|cw_seq fun _ hK2=>Ri fun Z=>Qm rfl<|Qq rfl (q_nenil V rfl)<|Nx Z<|cw_true rfl<|cw_region fun _ Z=>Qm rfl<|Qq rfl (q_nilp rfl)<|Qf 0 rfl ?_
 have ho:=ho.t hs1 |>.t hs2
 refine Ca rfl ((i64_add hs2.sat ho rfl).mono ?_)
 rintro _ w3 ⟨hs3,ho3⟩
 clear ho; have ho:=ho3; clear ho3
 refine as_nil (Z _ _ ?_)
 refine hK2 _ _<|Ri fun Z=>?_
 have hb1:=hs2.le _ _ hb1
 refine Qc 2 rfl (BD hs3 hb1 rfl)<|Qc 2 rfl (BD hs3 hb2 rfl)<|Ca rfl ((el_less (a:=a1) (b:=a2) hs3.sat).mono ?_)
 rintro _ w4 ⟨rfl,hs4⟩
 refine Na rfl Z<|cw_ret ?_
 have hT:=hT.t hs1 |>.t hs2 |>.also hs3 |>.t hs4
 have ho:=ho.t hs4
 exact ⟨_,Rt rfl,rfl,hT.forget,ho.back hT.le⟩
theorem m_made1 {w:World} {M:Mem none} {b T:Nat} {x y:Int} (hs:Sat M w) (ho:Own w M b [.int .i64 x, .int .i64 y] T):
  Dz 142 #[.pointer (some ⟨b,0,none⟩), .int .i64 1] w (fun _ w'=>Step (Just b) M w M w'∧Own w' M b [.int .i64 x, .int .i64 (IntKind.wrap .i64 (y+1))] T):=by
 have hT:=Step.refl (Just b) hs
 refine Fe Tryz.func142 [] rfl<|Ri fun Z=>Qm rfl<|Qq rfl (q_nenil V rfl)<|Nx Z<|cw_true rfl<|cw_region fun _ Z=>Qm rfl<|Qq rfl (q_nilp rfl)<|Qf 1 rfl<|Qm rfl<|Qq rfl (q_max2 rfl rfl)<|Ca rfl ((i64_add hs ho rfl).mono ?_)
 rintro _ w1 ⟨hs1,ho1⟩
 clear ho; have ho:=ho1; clear ho1
 refine as_nil (Z _ _ ?_)
 have hT:=hT.also hs1
 exact ⟨_,res_nil,hT.forget,ho.back hT.le⟩
theorem m_less {a b:El} (hs:Sat M w):Dz 176 #[mval mb, .agg (elc a).toArray, .agg (elc b).toArray] w (fun v w'=>v = .bool (ltE a b)∧StepC Nope 1 M w (M.tick 1) w'):=by
 cases mb with
 | none=>exact (m_less0 hs).mono fun v w' ⟨h1,h2⟩=>⟨h1,h2.ghost 1⟩
 | some k=>
  obtain ⟨x,y,e,ho,hn⟩:=hs.meter
  exact (m_less1 hs.dis ho).mono fun v w' ⟨h1,h2,h3⟩=>⟨h1,StepC.arm (i:=0) h2 rfl h3 (by rw [show IntKind.wrap .i64 (x+1)+y=y+IntKind.wrap .i64 (x+1) from Int.add_comm _ _,wrap_add_right,show y+(x+1)=x+y+1 by omega,← wrap_add_left,hn,wrap_add_left]; rfl)⟩
theorem m_made (hs:Sat M w):Dz 142 #[mval mb, .int .i64 1] w (fun _ w'=>StepC Nope 1 M w (M.tick 1) w'):=by
 cases mb with
 | none=>exact (m_made0 hs).mono fun v w' h2=>h2.ghost 1
 | some k=>
  obtain ⟨x,y,e,ho,hn⟩:=hs.meter
  exact (m_made1 hs.dis ho).mono fun v w' ⟨h2,h3⟩=>StepC.arm (i:=0) h2 rfl h3 (by rw [wrap_add_right,show x+(y+1)=x+y+1 by omega,← wrap_add_left,hn,wrap_add_left]; rfl)
end Go.Proofs.YtnnldppehojffaaGreat
/- The reference of elements, part 1. -/
namespace Go.Proofs.YtnnldppehojffaaGreat
open Go Go.Eng
variable {mb:Option Nat} {w:World} {M:Mem mb}
theorem ref_less {a b:El} (hs:Sat M w):
  Dz 84 #[.agg (elc a).toArray, .agg (elc b).toArray] w (fun v w'=>v = .bool (ltE a b)∧Step Nope M w M w'):=by
 have hT:=hs.r
 refine Fe Tryz.func84 [.tmp 4] rfl<|Ri fun Z=>?_
 have:=hT.size
 refine Bo hs rfl fun b1 w1 hs1 ho1 e1=>?_
 have:=hs1.size
 have:=ho1.1.lt
 have hT:=hT.t hs1
 have:=hT.size
 refine Bo hs1.sat rfl fun b2 w2 hs2 ho2 e2=>?_
 have:=hs2.size
 have:=ho2.1.lt
 refine Na rfl Z ?_
 have hc3:a.1<b.1∨(¬ a.1<b.1∧a.1=b.1∧a.2<b.2)∨(¬ a.1<b.1∧a.1=b.1∧¬ a.2<b.2)∨(¬ a.1<b.1∧a.1≠b.1):=by omega
 have ho1:=ho1.t hs2
 have hT:=hT.t hs2
 rcases hc3 with h1 | ⟨h1,h2,h3⟩ | ⟨h1,h2,h3⟩ | ⟨h1,h2⟩
 ·refine Ri fun Z=>Qf 0 rfl<|Q1 rfl (OC ho1 rfl)<|Qf 0 rfl<|Q1 rfl (OC ho2 rfl)<|Qq rfl (qLT rfl)<|Qm rfl<|as_gskip rfl rfl rfl rfl rfl<|as_gskip rfl rfl rfl rfl rfl<|as_gskip rfl rfl rfl rfl rfl<|as_gskip rfl rfl rfl rfl rfl<|as_gskip rfl rfl rfl rfl rfl<|as_gskip rfl rfl rfl rfl rfl<|as_gskipU rfl rfl rfl rfl<|as_gskipU rfl rfl rfl rfl<|as_gskipU rfl rfl rfl rfl<|as_gskipU rfl rfl rfl rfl<|as_gskipU rfl rfl rfl rfl<|as_gskip rfl rfl rfl rfl rfl<|Qq rfl (q_pick_t rfl rfl)<|Na rfl Z<|cw_ret ?_
  exact ⟨_,Rt rfl,by rw [ltE_iff.2 O]; rfl,hT.forget⟩
 ·refine Ri fun Z=>Qf 0 rfl<|Q1 rfl (OC ho1 rfl)<|Qf 0 rfl<|Q1 rfl (OC ho2 rfl)<|Qq rfl (qLF rfl)<|Qm rfl<|as_gh rfl rfl rfl rfl (h_q rfl (q_fieldAddr (off:=0) V rfl) ?_)
  refine as_gh rfl rfl rfl rfl (h_q rfl (q_load1 V rfl (OC ho1 rfl)) ?_)
  refine as_gh rfl rfl rfl rfl (h_q rfl (q_fieldAddr (off:=0) V rfl) ?_)
  refine as_gh rfl rfl rfl rfl (h_q rfl (q_load1 V rfl (OC ho2 rfl)) ?_)
  refine as_gh rfl rfl rfl rfl (h_q rfl (qET rfl) ?_)
  refine as_gh rfl rfl rfl rfl (h_q rfl (q_move rfl) ?_)
  refine as_gh rfl rfl rfl rfl (h_q rfl (q_fieldAddr (off:=1) V rfl) ?_)
  refine as_gh rfl rfl rfl rfl (h_q rfl (q_load1 V rfl (OC ho1 rfl)) ?_)
  refine as_gh rfl rfl rfl rfl (h_q rfl (q_fieldAddr (off:=1) V rfl) ?_)
  refine as_gh rfl rfl rfl rfl (h_q rfl (q_load1 V rfl (OC ho2 rfl)) ?_)
  refine as_gh rfl rfl rfl rfl (h_q rfl (qLT rfl) ?_)
  refine as_gh rfl rfl rfl rfl (h_q rfl (q_pick_t rfl rfl) ?_)
  refine Qq rfl (q_pick_f rfl rfl)<|Na rfl Z<|cw_ret ?_
  exact ⟨_,Rt rfl,by rw [ltE_iff.2 O]; rfl,hT.forget⟩
 ·refine Ri fun Z=>Qf 0 rfl<|Q1 rfl (OC ho1 rfl)<|Qf 0 rfl<|Q1 rfl (OC ho2 rfl)<|Qq rfl (qLF rfl)<|Qm rfl<|as_gh rfl rfl rfl rfl (h_q rfl (q_fieldAddr (off:=0) V rfl) ?_)
  refine as_gh rfl rfl rfl rfl (h_q rfl (q_load1 V rfl (OC ho1 rfl)) ?_)
  refine as_gh rfl rfl rfl rfl (h_q rfl (q_fieldAddr (off:=0) V rfl) ?_)
  refine as_gh rfl rfl rfl rfl (h_q rfl (q_load1 V rfl (OC ho2 rfl)) ?_)
  refine as_gh rfl rfl rfl rfl (h_q rfl (qET rfl) ?_)
  refine as_gh rfl rfl rfl rfl (h_q rfl (q_move rfl) ?_)
  refine as_gh rfl rfl rfl rfl (h_q rfl (q_fieldAddr (off:=1) V rfl) ?_)
  refine as_gh rfl rfl rfl rfl (h_q rfl (q_load1 V rfl (OC ho1 rfl)) ?_)
  refine as_gh rfl rfl rfl rfl (h_q rfl (q_fieldAddr (off:=1) V rfl) ?_)
  refine as_gh rfl rfl rfl rfl (h_q rfl (q_load1 V rfl (OC ho2 rfl)) ?_)
  refine as_gh rfl rfl rfl rfl (h_q rfl (qLF rfl) ?_)
  refine as_gh rfl rfl rfl rfl (h_q rfl (q_pick_t rfl rfl) ?_)
  refine Qq rfl (q_pick_f rfl rfl)<|Na rfl Z<|cw_ret ?_
  exact ⟨_,Rt rfl,by rw [ltE_not.2 O]; rfl,hT.forget⟩
 ·refine Ri fun Z=>Qf 0 rfl<|Q1 rfl (OC ho1 rfl)<|Qf 0 rfl<|Q1 rfl (OC ho2 rfl)<|Qq rfl (qLF rfl)<|Qm rfl<|as_gh rfl rfl rfl rfl (h_q rfl (q_fieldAddr (off:=0) V rfl) ?_)
  refine as_gh rfl rfl rfl rfl (h_q rfl (q_load1 V rfl (OC ho1 rfl)) ?_)
  refine as_gh rfl rfl rfl rfl (h_q rfl (q_fieldAddr (off:=0) V rfl) ?_)
  refine as_gh rfl rfl rfl rfl (h_q rfl (q_load1 V rfl (OC ho2 rfl)) ?_)
  refine as_gh rfl rfl rfl rfl (h_q rfl (qEF rfl) ?_)
  refine as_gh rfl rfl rfl rfl (h_q rfl (q_move rfl) ?_)
  refine as_gskip rfl rfl rfl rfl rfl<|as_gskip rfl rfl rfl rfl rfl<|as_gskip rfl rfl rfl rfl rfl<|as_gskip rfl rfl rfl rfl rfl<|as_gskip rfl rfl rfl rfl rfl<|as_gh rfl rfl rfl rfl (h_q rfl (q_pick_f rfl rfl) ?_)
  refine Qq rfl (q_pick_f rfl rfl)<|Na rfl Z<|cw_ret ?_
  exact ⟨_,Rt rfl,by rw [ltE_not.2 O]; rfl,hT.forget⟩
theorem ref_put {u:Value} {n:Nat} {xs:List El} {x:El} (hs:Sat M w) (hr:RdM M 2 u n (els xs)) (hn:n≤1000000):
  Dz 53 #[u, .agg (elc x).toArray] w (fun v w'=>∃ M',Step Nope M w M' w'∧RdM M' 2 v (n+1) (els (putE xs x))):=by
 have hT:=hs.r
 have hxl:=(hr.rds w).els_len hs
 obtain ⟨sa,sc,rfl,hsc,_⟩:=hr.slice
 refine Fe Tryz.func53 [.tmp 4] rfl<|Ri fun Z=>?_
 have:=hT.size
 refine Bo hs rfl fun b1 w1 hs1 ho1 e1=>?_
 have:=hs1.size
 have:=ho1.1.lt
 refine Nar rfl Z fun Z=>Na rfl Z<|cw_seq fun _ hK3=>cw_block ?_
 have hT:=hT.t hs1
 refine cw_loop (fun mm l w1=>∃ i:Nat,mm=n-i∧i≤n∧(∀ j e,j<i→xs[j]? = some e→ltE e x=true)∧l=[(0, .slice sa n sc),(3, .pointer (some ⟨b1,0,none⟩)),(5, .int .i64 i)]∧Step Nope M w M w1∧Own w1 M b1 (elc x) 29) (n) [(0, .slice sa n sc),(3, .pointer (some ⟨b1,0,none⟩)),(5, .int .i64 (0:Nat))] (.cons rfl (.cons rfl (.cons rfl (.nil _)))) ?_ ?_
 ·exact ⟨0,rfl,Nat.zero_le _,fun j e hj=>by omega,rfl,hT,ho1⟩
 have hb1w:w.heap.size≤b1:=by omega
 clear hT ho1
 rintro mm l w1 ⟨i,rfl,hi,hpre,rfl,hT,ho1⟩
 refine cw_seq fun _ hK4=>cw_cutS (fun l w1=>∃ (bb:Bool),(bb=true→i<n∧∀ e,xs[i]? = some e→ltE e x=true)∧(bb=false→∀ e,xs[i]? = some e→ltE e x=false)∧l=[(0, .slice sa n sc),(3, .pointer (some ⟨b1,0,none⟩)),(5, .int .i64 i),(18, .bool bb)]∧Step Nope M w M w1∧Own w1 M b1 (elc x) 29) ?_ ?_
 ·have hio:i=n∨i<n:=by omega
  rcases hio with hio | hio
  ·refine cw_drawn V V V rfl rfl fun K5 hK5=>?_
   have hs2:=Step.drew hT.sat
   have:=hs2.size
   refine Gm 0 1 rfl<|Gm 1 3 rfl<|Gq 2 7 rfl (fun _=>ql rfl)<|Gq 3 15 rfl (fun _=>qLF rfl)<|Gm 4 31 rfl<|Dgs 5 63 rfl V rfl rfl<|Dgs 6 127 rfl V rfl rfl<|Dgs 7 255 rfl V rfl rfl<|Dgs 8 511 rfl V rfl rfl<|Dgs 9 1023 rfl V rfl rfl<|Dgs 10 2047 rfl V rfl rfl<|Gq 11 4095 rfl (fun _=>q_pick_f rfl rfl)<|Dd V (hK5 _ _ ?_)
   have ho1:=ho1.t hs2
   have hT:=hT.t hs2
   exact ⟨_,(.cons rfl (.cons rfl (.cons rfl (.cons rfl (.nil _))))),_,(fun h=>by cases h),(fun _ e he=>by rw [List.getElem?_eq_none O] at he; cases he),rfl,hT,ho1⟩
  ·obtain ⟨y,hy⟩:∃ y,xs[i]? = some y:=⟨xs[i],by simp⟩
   obtain ⟨g,o,rfl⟩:=hr.there O
   refine cw_drawn V V V rfl rfl fun K6 hK6=>?_
   have hs3:=Step.drew hT.sat
   have:=hs3.size
   refine Gm 0 1 rfl<|Gm 1 3 rfl<|Gq 2 7 rfl (fun _=>ql rfl)<|Gq 3 15 rfl (fun _=>qLT rfl)<|Gm 4 31 rfl<|Dgq 5 63 rfl V rfl rfl (fun _=>q_move rfl)<|Dgq 6 127 rfl V rfl rfl (fun _=>q_move rfl)<|Dgq 7 255 rfl V rfl rfl (fun _=>qi 29 2 rfl) ?_
   have hT:=hT.t hs3
   refine at_gq (i:=8) (li:=lb 12 511) (cellsAre _ _ 2 _) rfl V rfl rfl rfl rfl (fun _ h=>q_loadc (n:=2) V rfl h) ((hr.rd hT.sat).el (j:=(i:Int).toNat) (by simpa using hy)) V ?_
   have ho1:=ho1.t hs3
   refine at_gq (i:=9) (li:=lb 12 1023) (cellsAre _ _ 2 _) rfl V rfl rfl rfl rfl (fun _ h=>q_loadc (n:=2) V rfl h) (OD ho1 rfl) V<|Dgh 10 2047 rfl V rfl rfl rfl (h_call V rfl ?_)
   refine (ref_less (a:=y) (b:=x) hs3.sat).mono ?_
   rintro _ w4 ⟨rfl,hs4⟩
   have:=hs4.size
   have ho1:=ho1.t hs4
   have hT:=hT.t hs4
   refine ⟨(by repeat' first | exact trivial | exact OD ho1 rfl | exact ((hr.rd hT.sat).el (j:=(i:Int).toNat) (by simpa using hy)) | refine all_keep ?_ | refine And.intro ?_ ?_),?_⟩
   refine Gq 11 4095 rfl (fun _=>q_pick_t rfl rfl)<|Dd V (hK6 _ _ ?_)
   exact ⟨_,(.cons rfl (.cons rfl (.cons rfl (.cons rfl (.nil _))))),_,(fun h=>⟨hio,fun e he=>by rw [hy] at he; cases he; exact h⟩),(fun h e he=>by rw [hy] at he; cases he; exact h),rfl,hT,ho1⟩
 clear hT ho1
 rintro l w2 ⟨bb,hbt,hbf,rfl,hT,ho1⟩
 refine cw_cond rfl (fun hc0=>?_) (fun hc0=>?_)
 ·obtain ⟨hlt,hyl⟩:=hbt hc0
  refine cw_skip<|hK4 _ _<|cw_block<|cw_region fun _ Z=>Qm rfl<|Qq rfl (qA rfl)<|Qa rfl<|as_nil (Z _ _ ?_)
  exact ⟨_,_,by omega,(.cons rfl (.cons rfl (.cons rfl (.nil _)))),i+1,rfl,by omega,fun j e hj he=>by
   rcases Nat.lt_or_ge j i with h | h
   ·exact hpre j e h he
   ·obtain rfl:j=i:=by omega
    exact hyl e he,rfl,hT,ho1⟩
 ·have hst:=hbf hc0
  refine cw_exit<|hK3 _ _<|Ri fun Z=>Nar rfl Z fun Z=>Qm rfl<|Qm rfl<|Qm rfl<|Qq rfl (q_slice (e:=29) (size:=2) (k:= .i64) V V rfl rfl rfl O O O) ?_
  have nofl:∀ g,(Value.slice none 0 0).ownBlock=some g→w.heap.size≤g:=fun g hg=>by cases hg
  have:=ho1.1.lt
  have hq5:=hT.size
  refine as_h rfl (h_append (e:=29) (size:=2) (bytes:=16) V hT.sat (Buf.nil _ _ 29 2) (((hr.rd hT.sat).front i O O)) rfl rfl (els_one _) O rfl fun hcv w5 hs5 hcb hco=>?_)
  have hcf:=floor_of hco nofl hq5
  have hT:=hT.trans hs5 (fun k hk h=>absurd (nofl k h) O)
  have:=hs5.size
  have hc1:=lt_of_app (B:=b1) hco (by intro h; cases h) O
  refine Nar rfl Z fun Z=>Qm rfl ?_
  have ho1:=ho1.step hs5 (fun h=>by cases h)
  refine Qc 2 rfl (OD ho1 rfl)<|as_h rfl (h_buildO (e:=29) (size:=2) (zs:=[(.int .i64 0),(.int .i64 0)]) (cs:=[_,_]) V V V rfl hs5.sat rfl rfl fun b6 w6 hs6 ho6 e6=>?_)
  have:=hs6.size
  have:=ho6.1.lt
  have hcb:=hcb.t hs6
  have hlt1:=hcb.lt
  have hT:=hT.t hs6
  have hq7:=hT.size
  refine as_h rfl (h_append (e:=29) (size:=2) (bytes:=16) V hs6.sat hcb ((Own.buf ho6 (n:=1) (size:=2) rfl (by decide)).rd) rfl rfl (by simp [Value.oneCell']) O rfl fun hdv w7 hs7 hdb hdo=>?_)
  clear ho6
  have hdf:=floor_of hdo hcf hq7
  have hT:=hT.trans hs7 (fun k hk h=>absurd (hcf k h) O)
  have:=hs7.size
  refine Nar rfl Z fun Z=>Qm rfl<|Qm rfl<|Qm rfl<|Qq rfl (q_slice (e:=29) (size:=2) (k':= .i64) V V rfl rfl rfl O O O) ?_
  have hq8:=hT.size
  refine as_h rfl (h_append (e:=29) (size:=2) (bytes:=16) V hs7.sat hdb (((hr.rd hs7.sat).rest i O O)) rfl rfl (els_one _) O rfl fun hev w8 hs8 heb heo=>?_)
  have hef:=floor_of heo hdf hq8
  have hT:=hT.trans hs8 (fun k hk h=>absurd (hdf k h) O)
  have:=hs8.size
  refine Na rfl Z<|cw_ret ?_
  obtain ⟨M9,h9,_,hr9,_⟩:=hT.freezeB heb hef
  have hput:=putE_at (x:=x) (i:=i) O hpre hst
  exact ⟨_,Rt rfl,M9,h9,hr9.cast rfl O (by rw [hput,els_append,els_cons]; simp [elc])⟩
theorem rdM_nil (M:Raw) (size:Nat):RdM M size (.slice none 0 0) 0 []:=⟨by simp, .inl ⟨rfl,none,0,rfl,fun _=>rfl⟩⟩
theorem ref_sort {u:Value} {n:Nat} {xs:List El} (hs:Sat M w) (hr:RdM M 2 u n (els xs)) (hn:n≤1000000):
  Dz 24 #[u] w (fun v w'=>∃ M',Step Nope M w M' w'∧RdM M' 2 v n (els (srtE xs))):=by
 have hT:=hs.r
 have hxl:=(hr.rds w).els_len hs
 obtain ⟨sa,sc,rfl,hsc,_⟩:=hr.slice
 refine Fe Tryz.func24 [.tmp 2] rfl<|Ri fun Z=>Nar rfl Z fun Z=>Na rfl Z<|cw_seq fun _ hK3=>Ri fun Z=>Na rfl Z<|cw_block<|cw_loop (fun mm l w1=>∃ (i:Nat) (ov:Value) (M1:Mem mb),mm=n-i∧i≤n∧l=[(0, .slice sa n sc),(3,ov),(4, .int .i64 i)]∧Step Nope M w M1 w1∧RdM M1 2 ov i (els (srtE (xs.take i)))) (n) [(0, .slice sa n sc),(3, .slice none 0 0),(4, .int .i64 (0:Nat))] (.cons rfl (.cons rfl (.cons rfl (.nil _)))) ?_ ?_
 ·exact ⟨0,_,M,rfl,Nat.zero_le _,rfl,hT,rdM_nil M 2⟩
 clear hT
 rintro mm l w1 ⟨i,ov,M1,rfl,hi,rfl,hT,hb⟩
 refine cw_seq fun _ hK5=>Ri fun Z=>Qm rfl<|Qm rfl<|Qq rfl (ql rfl)<|Qq rfl (q_lt rfl rfl)<|Nx Z ?_
 have hr:=hr.mono hT.le
 refine cw_cond rfl (fun hc0=>?_) (fun hc0=>?_)
 ·have hlt:i<n:=by have:=of_decide_eq_true hc0; omega
  obtain ⟨x,hx⟩:∃ y,xs[i]? = some y:=⟨xs[i],by simp⟩
  obtain ⟨g,o,rfl⟩:=hr.there O
  refine cw_skip<|hK5 _ _<|cw_seq fun _ hK7=>cw_block<|cw_region fun _ Z=>Qm rfl<|Qm rfl<|Qm rfl<|Qq rfl (qi 29 2 rfl)<|Qc 2 rfl ((hr.rd hT.sat).el (j:=(i:Int).toNat) (by simpa using hx))<|Ca rfl ((ref_put hT.sat hb O).mono ?_)
  rintro ov2 w1 ⟨M2,hs1,hb2⟩
  refine Qa rfl<|as_nil (Z _ _ ?_)
  refine hK7 _ _<|cw_region fun _ Z=>Qm rfl<|Qq rfl (qA rfl)<|Qa rfl<|as_nil (Z _ _ ?_)
  have hT:=hT.t hs1
  refine ⟨_,_,?_,(.cons rfl (.cons rfl (.cons rfl (.nil _)))),i+1,ov2,M2,rfl,by omega,rfl,hT,?_⟩
  ·omega
  ·rw [List.take_add_one,hx]
   exact hb2.cast rfl rfl (by rw [← srtE_snoc]; rfl)
 ·have hge:i=n:=by have:=of_decide_eq_false hc0; omega
  refine cw_exit<|hK3 _ _<|Ri fun Z=>Qm rfl<|Na rfl Z<|cw_ret ?_
  exact ⟨_,Rt rfl,M1,hT,by rw [hge,show xs.take n=xs from by rw [← hxl,List.take_length]] at hb; exact hb⟩
theorem ref_same {va vb:Value} {n m:Nat} {xs ys:List El} (hs:Sat M w) (hn:n≤1000000) (hr:Rds M w 2 va n (els xs)) (hr2:Rds M w 2 vb m (els ys)):
  Dz 11 #[va,vb] w (fun v w'=>v = .bool (decide (xs=ys))∧Step Nope M w M w'):=by
 have hT:=hs.r
 have hl1:=hr.els_len hs
 have hl2:=hr2.els_len hs
 obtain ⟨a,c,rfl,hac,_⟩:=hr.slice hs
 obtain ⟨b,d,rfl,hbd,_⟩:=hr2.slice hs
 refine Fe Tryz.func11 [.tmp 4] rfl<|Ri fun Z=>Na rfl Z<|cw_seq fun _ hK2=>Ri fun Z=>Qm rfl<|Qq rfl (ql rfl)<|Qm rfl<|Qq rfl (ql rfl)<|Qq rfl (q_ne rfl rfl)<|Nx Z<|cw_cond rfl (fun hc0=>?_) (fun hc0=>?_)
 ·have hne:n≠m:=by simp at hc0; omega
  refine Ri fun Z=>Na rfl Z<|cw_ret ?_
  exact ⟨_,Rt rfl,by rw [decide_eq_false (fun h=>hne (by rw [← hl1,← hl2,h]))]; rfl,hT⟩
 ·have hne:n=m:=by simp at hc0; omega
  refine cw_skip<|hK2 _ _<|cw_seq fun _ hK5=>Ri fun Z=>Na rfl Z<|cw_block<|cw_loop (fun mm l w'=>∃ i:Nat,mm=n-i∧i≤n∧(∀ j,j<i→xs[j]? = ys[j]?)∧l=[(0, .slice a n c),(1, .slice b m d),(5, .int .i64 i)]∧Step Nope M w M w') (n) [(0, .slice a n c),(1, .slice b m d),(5, .int .i64 (0:Nat))] (.cons rfl (.cons rfl (.cons rfl (.nil _)))) ?_ ?_
  ·exact ⟨0,rfl,Nat.zero_le _,fun j hj=>by omega,rfl,hT⟩
  clear hT
  rintro mm l w1 ⟨i,rfl,hi,hpre,rfl,hT⟩
  refine cw_seq fun _ hK7=>Ri fun Z=>Qm rfl<|Qm rfl<|Qq rfl (ql rfl)<|Qq rfl (q_lt rfl rfl)<|Nx Z<|cw_cond rfl (fun hc1=>?_) (fun hc1=>?_)
  ·have hlt:i<n:=by have:=of_decide_eq_true hc1; omega
   obtain ⟨g,o,rfl⟩:=(hr.now hs).there O
   obtain ⟨g2,o2,rfl⟩:=(hr2.now hs).there O
   obtain ⟨x,hx⟩:∃ z,xs[i]? = some z:=⟨xs[i],by simp⟩
   obtain ⟨y,hy⟩:∃ z,ys[i]? = some z:=⟨ys[i],by simp⟩
   refine cw_skip<|hK7 _ _<|cw_seq fun _ hK9=>cw_block<|Rv fun Z=>?_
   have hs1:=Step.drew hT.sat
   refine Gm 0 1 rfl<|Gm 1 3 rfl<|Gq 2 7 rfl (fun _=>qi 29 2 rfl) ?_
   have hT:=hT.t hs1
   refine Gc 3 15 2 rfl ((hr _ _ _ hT).el (j:=(i:Int).toNat) (by simpa using hx))<|Gm 4 31 rfl<|Gm 5 63 rfl<|Gq 6 127 rfl (fun _=>qi 29 2 rfl)<|Gc 7 255 2 rfl ((hr2 _ _ _ hT).el (j:=(i:Int).toNat) (by simpa using hy))<|Gq 8 511 rfl (fun _=>(q_neE (a:=x) (b:=y) (e:=2) V V V V V V rfl rfl))<|Dx Z<|cw_cond rfl (fun hc2=>?_) (fun hc2=>?_)
   ·replace hc2:x≠y:=by simpa using hc2
    refine Ri fun Z=>Na rfl Z<|cw_ret ?_
    exact ⟨_,Rt rfl,by rw [decide_eq_false (fun h=>by subst h; rw [hx] at hy; cases hy; exact hc2 rfl)]; rfl,hT⟩
   ·replace hc2:x=y:=by simpa using hc2
    refine cw_skip<|hK9 _ _<|cw_region fun _ Z=>Qm rfl<|Qq rfl (qA rfl)<|Qa rfl<|as_nil (Z _ _ ?_)
    exact ⟨_,_,by omega,(.cons rfl (.cons rfl (.cons rfl (.nil _)))),i+1,rfl,by omega,fun j hj=>by
     rcases Nat.lt_or_ge j i with h | h
     ·exact hpre j h
     ·obtain rfl:j=i:=by omega
      rw [hx,hy,hc2],rfl,hT⟩
  ·have hge:i=n:=by have:=of_decide_eq_false hc1; omega
   refine cw_exit<|hK5 _ _<|Ri fun Z=>Na rfl Z<|cw_ret ?_
   have hall:∀ j,xs[j]? = ys[j]?:=fun j=>by
    rcases Nat.lt_or_ge j n with hj | hj
    ·exact hpre j O
    ·rw [List.getElem?_eq_none O,List.getElem?_eq_none O]
   exact ⟨_,Rt rfl,by rw [decide_eq_true (List.ext_getElem? fun j=>hall j)]; rfl,hT⟩
theorem ref_sum {va vb:Value} {n m:Nat} {xs ys:List El} (hs:Sat M w) (hr:RdM M 2 va n (els xs)) (hr2:RdM M 2 vb m (els ys)) (hn:n+m≤1000000):
  Dz 23 #[va,vb] w (fun v w'=>∃ M',Step Nope M w M' w'∧RdM M' 2 v (n+m) (els (ys.foldl putE xs))):=by
 have hT:=hs.r
 have hyl:=(hr2.rds w).els_len hs
 obtain ⟨sa,sc,rfl,hsc,_⟩:=hr2.slice
 refine Fe Tryz.func23 [.tmp 4] rfl<|Ri fun Z=>Nar rfl Z fun Z=>Qm rfl<|Na rfl Z<|cw_seq fun _ hK3=>Ri fun Z=>Na rfl Z<|cw_block<|cw_loop (fun mm l w1=>∃ (i:Nat) (ov:Value) (M1:Mem mb),mm=m-i∧i≤m∧l=[(1, .slice sa m sc),(5,ov),(6, .int .i64 i)]∧Step Nope M w M1 w1∧RdM M1 2 ov (n+i) (els ((ys.take i).foldl putE xs))) (m) [(1, .slice sa m sc),(5,va),(6, .int .i64 (0:Nat))] (.cons rfl (.cons rfl (.cons rfl (.nil _)))) ?_ ?_
 ·exact ⟨0,_,M,rfl,Nat.zero_le _,rfl,hT,hr⟩
 clear hT
 rintro mm l w1 ⟨i,ov,M1,rfl,hi,rfl,hT,hb⟩
 refine cw_seq fun _ hK5=>Ri fun Z=>Qm rfl<|Qm rfl<|Qq rfl (ql rfl)<|Qq rfl (q_lt rfl rfl)<|Nx Z ?_
 have hr2:=hr2.mono hT.le
 refine cw_cond rfl (fun hc0=>?_) (fun hc0=>?_)
 ·have hlt:i<m:=by have:=of_decide_eq_true hc0; omega
  obtain ⟨x,hx⟩:∃ y,ys[i]? = some y:=⟨ys[i]'O,by simp⟩
  obtain ⟨g,o,rfl⟩:=hr2.there O
  refine cw_skip<|hK5 _ _<|cw_seq fun _ hK7=>cw_block<|cw_region fun _ Z=>Qm rfl<|Qm rfl<|Qm rfl<|Qq rfl (qi 29 2 rfl)<|Qc 2 rfl ((hr2.rd hT.sat).el (j:=(i:Int).toNat) (by simpa using hx))<|Ca rfl ((ref_put hT.sat hb O).mono ?_)
  rintro ov2 w1 ⟨M2,hs1,hb2⟩
  refine Qa rfl<|as_nil (Z _ _ ?_)
  refine hK7 _ _<|cw_region fun _ Z=>Qm rfl<|Qq rfl (qA rfl)<|Qa rfl<|as_nil (Z _ _ ?_)
  have hT:=hT.t hs1
  refine ⟨_,_,?_,(.cons rfl (.cons rfl (.cons rfl (.nil _)))),i+1,ov2,M2,rfl,by omega,rfl,hT,?_⟩
  ·omega
  ·rw [List.take_add_one,hx,List.foldl_append]
   exact hb2
 ·have hge:i=m:=by have:=of_decide_eq_false hc0; omega
  refine cw_exit<|hK3 _ _<|Ri fun Z=>Qm rfl<|Na rfl Z<|cw_ret ?_
  subst hge
  rw [List.take_of_length_le O] at hb
  exact ⟨_,Rt rfl,M1,hT,hb⟩
theorem foldl_srt (a b:List El):(srtE b).foldl putE (srtE a)=srtE (a++b):=
 srtE_eq ((foldl_perm _ _).trans (((srtE_perm b).append (srtE_perm a)).trans List.perm_append_comm)) (foldl_ord _ _ (srtE_ord a))
end Go.Proofs.YtnnldppehojffaaGreat
/- The reference of trees, part 1. -/
namespace Go.Proofs.YtnnldppehojffaaGreat
open Go Go.Eng
variable {mb:Option Nat} {w:World} {M:Mem mb}
theorem r5_leaf {x:El} (hs:Sat M w):
  Dz 82 #[.agg (elc x).toArray] w (fun v w'=>∃ cv,v = .agg cv.toArray∧Step Nope M w M w'∧T5 M (RT.leaf x) cv):=by
 have hT:=hs.r
 refine Fe Tryz.func82 [.cell 2 196] rfl<|Ri fun Z=>Bm hs rfl fun b1 M1 w1 hs1 hb1 e1=>?_
 have:=hs1.size
 have hT:=hT.t hs1
 have:=hT.size
 refine Al (.agg #[(.int .i64 0),(.int .i64 0),(.int .i64 0),(.slice none 0 0),(.slice none 0 0),(.int .i64 0)]) hs1.sat rfl fun br w2 hs2 hor er=>?_
 have:=hs2.size
 have:=hor.1.lt
 refine Nr Z fun Z=>Qc 2 rfl (BD hs2 hb1 rfl)<|Qq rfl (q_build (zs:=[(.int .i64 0),(.int .i64 0),(.int .i64 0),(.slice none 0 0),(.slice none 0 0),(.int .i64 0)]) (places:=[(0,1),(1,2),(3,1),(4,1),(5,1)]) (cs:=[_,_,_,_,_,_]) V V rfl rfl)<|St hs2.sat hor rfl fun w3 hs3 hor=>?_
 have:=hs3.size
 refine Nx Z<|cw_ret ?_
 have hT:=hT.t hs2 |>.o hs3
 exact ⟨_,(Rc 6 rfl (OD hor rfl) res_nil),_,rfl,hT.forget,t5_iff.2 ⟨none,none,0,0,rfl,Row.none,Row.none⟩⟩
theorem r5_link_n {x y:El} {bs ls:List El} {ks ms:List (RT El)} {ca cb:List Value} (hs:Sat M w) (ha:T5 M (.node x bs ks) ca) (h2:T5 M (.node y ls ms) cb) (hz:(RT.node x bs ks).size+(RT.node y ls ms).size≤1000000000):
  Dz 102 #[.agg ca.toArray, .agg cb.toArray] w (fun v w'=>∃ cv M',v = .tuple #[.agg cv.toArray,wv (2)]∧Step Nope M w M' w'∧T5 M' (RT.link ltE (.node x bs ks) (.node y ls ms)) cv):=by
 have hT:=hs.r
 obtain ⟨ba,ka,bc,kc,rfl,hB,hQ⟩:=t5_iff.1 ha
 obtain ⟨ba2,ka2,bc2,kc2,rfl,hB2,hQ2⟩:=t5_iff.1 h2
 simp only [RT.size] at hz
 have hl1:=RT.sizes_length ks
 have hl2:=RT.sizes_length ms
 refine Fe Tryz.func102 [.cell 4 196, .tmp 5] rfl<|Ri fun Z=>Bm hs rfl fun b1 M1 w1 hs1 hb1 e1=>?_
 have:=hs1.size
 refine Bm hs1.sat rfl fun b2 M2 w2 hs2 hb2 e2=>?_
 have:=hs2.size
 have hT:=hT.t hs1 |>.t hs2
 have:=hT.size
 refine Al (.agg #[(.int .i64 0),(.int .i64 0),(.int .i64 0),(.slice none 0 0),(.slice none 0 0),(.int .i64 0)]) hs2.sat rfl fun br w3 hs3 hor er=>?_
 have:=hs3.size
 have:=hor.1.lt
 refine Na rfl Z<|cw_seq fun _ hK2=>Ri fun Z=>Qf 5 rfl ?_
 have hb1:=hs2.le _ _ hb1
 refine Q1 rfl (BC hs3 hb1 rfl)<|Qq rfl (qEF rfl)<|Nx Z<|cw_false rfl<|cw_skip<|hK2 _ _<|cw_seq fun _ hK4=>Ri fun Z=>Qf 5 rfl<|Q1 rfl (BC hs3 hb2 rfl)<|Qq rfl (qEF rfl)<|Nx Z<|cw_false rfl<|cw_skip<|hK4 _ _<|Ri fun Z=>Qc 6 rfl (BD hs3 hb1 rfl) ?_
 have hT:=hT.t hs3
 have:=hT.size
 refine Al (.agg #[(.int .i64 0),(.int .i64 0),(.int .i64 0),(.slice none 0 0),(.slice none 0 0),(.int .i64 0)]) hs3.sat rfl fun bwi w4 hs4 howi ewi=>?_
 have:=hs4.size
 have:=howi.1.lt
 refine St hs4.sat howi rfl fun w5 hs5 howi=>?_
 have:=hs5.size
 refine Nr Z fun Z=>Qc 6 rfl (BD hs5 hb2 rfl) ?_
 have hT:=hT.t hs4 |>.o hs5
 have:=hT.size
 refine Al (.agg #[(.int .i64 0),(.int .i64 0),(.int .i64 0),(.slice none 0 0),(.slice none 0 0),(.int .i64 0)]) hs5.sat rfl fun blo w6 hs6 holo elo=>?_
 have:=hs6.size
 have:=holo.1.lt
 refine St hs6.sat holo rfl fun w7 hs7 holo=>?_
 have:=hs7.size
 refine Nr Z fun Z=>Qf 1 rfl<|Qc 2 rfl (BD hs7 hb2 rfl)<|Qf 1 rfl<|Qc 2 rfl (BD hs7 hb1 rfl)<|Ca rfl ((ref_less (a:=y) (b:=x) hs7.sat).mono ?_)
 rintro _ w8 ⟨rfl,hs8⟩
 have:=hs8.size
 refine Na rfl Z<|cw_seq fun _ hK9=>Ri fun Z=>Qm rfl<|Nx Z ?_
 have hB:=hB.mono encE_ok hs1.le |>.mono encE_ok hs2.le
 have hQ:=hQ.mono t5_ok hs1.le |>.mono t5_ok hs2.le
 have hB2:=hB2.mono encE_ok hs1.le |>.mono encE_ok hs2.le
 have hQ2:=hQ2.mono t5_ok hs1.le |>.mono t5_ok hs2.le
 have ha:=t5_ok.mono _ _ _ _ hs2.le (t5_ok.mono _ _ _ _ hs1.le ha)
 have h2:=t5_ok.mono _ _ _ _ hs2.le (t5_ok.mono _ _ _ _ hs1.le h2)
 have hor:=hor.t hs4 |>.u hs5 |>.t hs6 |>.u hs7 |>.t hs8
 have howi:=howi.t hs6 |>.u hs7 |>.t hs8
 have hT:=hT.t hs6 |>.o hs7 |>.t hs8
 have holo:=holo.t hs8
 refine cw_cond rfl (fun hc2=>?_) (fun hc2=>?_)
 ·skip
  refine Ri fun Z=>Qc 6 rfl (BD hs8 hb2 rfl)<|St hs8.sat howi rfl fun w9 hs9 howi=>?_
  have:=hs9.size
  refine Nx Z<|cw_region fun _ Z=>Qc 6 rfl (BD hs9 hb1 rfl) ?_
  have holo:=holo.u hs9
  refine St hs9.sat holo rfl fun w10 hs10 holo=>?_
  have:=hs10.size
  refine as_nil (Z _ _ ?_)
  refine hK9 _ _<|Ri fun Z=>Qc 6 rfl (OD holo rfl)<|as_h rfl (h_buildO (e:=196) (size:=6) (zs:=[(.int .i64 0),(.int .i64 0),(.int .i64 0),(.slice none 0 0),(.slice none 0 0),(.int .i64 0)]) (cs:=[_,_,_,_,_,_]) V V V rfl hs10.sat rfl rfl fun bK w11 hs11 hoK eK=>?_)
  have:=hs11.size
  have hlK:=hoK.1.lt
  refine Nar rfl Z fun Z=>Qm rfl<|Qf 4 rfl ?_
  have howi:=howi.u hs10 |>.t hs11
  refine Q1 rfl (OC howi rfl) ?_
  have hT:=hT.o hs9 |>.o hs10 |>.t hs11
  refine as_h rfl (h_cons t5_ok (e:=196) (bytes:=80) V hT hoK ha hQ2 rfl rfl (by have:=hz; omega) rfl O fun vk9 Mk9 w12 hT hle12 hown12 hz12 hk9=>?_)
  have ha:=t5_ok.mono _ _ _ _ hle12 ha
  have h2:=t5_ok.mono _ _ _ _ hle12 h2
  have hb1:=hle12 _ _ hb1
  have hb2:=hle12 _ _ hb2
  have hor:=hor.u hs9 |>.u hs10 |>.t hs11
  have hor:=hown12 _ _ _ O hor
  have howi:=hown12 _ _ _ O howi
  have holo:=holo.t hs11
  have holo:=hown12 _ _ _ O holo
  obtain ⟨ak9,ck9,rfl,_⟩:=hk9.slice
  refine Nar rfl Z fun Z=>Qf 0 rfl<|Q1 rfl (OC howi rfl)<|Qq rfl (qA rfl)<|Qf 1 rfl<|Qc 2 rfl (OD howi rfl)<|Qf 3 rfl<|Q1 rfl (OC howi rfl)<|Qm rfl<|Qf 5 rfl<|Q1 rfl (BC hT hb1 rfl)<|Qf 5 rfl<|Q1 rfl (BC hT hb2 rfl)<|Qq rfl (qA rfl)<|Qq rfl (q_build (zs:=[(.int .i64 0),(.int .i64 0),(.int .i64 0),(.slice none 0 0),(.slice none 0 0),(.int .i64 0)]) (places:=[(0,1),(1,2),(3,1),(4,1),(5,1)]) (cs:=[_,_,_,_,_,_]) V V rfl rfl)<|St hT.sat hor rfl fun w13 hs13 hor=>?_
  have:=hs13.size
  refine Na rfl Z<|cw_ret ?_
  have hB2:=hB2.mono encE_ok hle12
  have hT:=hT.o hs13
  exact ⟨_,(Rc 6 rfl (OD hor rfl) (Rt rfl)),_,_,tup2,hT,by rw [RT.link,if_pos (show ltE (RT.node y ls ms).root (RT.node x bs ks).root=true from hc2)]; exact t5_mk (by simp only [RT.kids,List.length_cons]; omega) (by simp only [RT.kids,RT.beside,RT.sizes,RT.size]; omega) hB2 hk9⟩
 ·skip
  refine cw_skip<|hK9 _ _<|Ri fun Z=>Qc 6 rfl (OD holo rfl)<|as_h rfl (h_buildO (e:=196) (size:=6) (zs:=[(.int .i64 0),(.int .i64 0),(.int .i64 0),(.slice none 0 0),(.slice none 0 0),(.int .i64 0)]) (cs:=[_,_,_,_,_,_]) V V V rfl hs8.sat rfl rfl fun bK w14 hs14 hoK eK=>?_)
  have:=hs14.size
  have hlK:=hoK.1.lt
  refine Nar rfl Z fun Z=>Qm rfl<|Qf 4 rfl ?_
  have howi:=howi.t hs14
  refine Q1 rfl (OC howi rfl) ?_
  have hT:=hT.t hs14
  refine as_h rfl (h_cons t5_ok (e:=196) (bytes:=80) V hT hoK h2 hQ rfl rfl (by have:=hz; omega) rfl O fun vk9 Mk9 w15 hT hle15 hown15 hz15 hk9=>?_)
  have ha:=t5_ok.mono _ _ _ _ hle15 ha
  have h2:=t5_ok.mono _ _ _ _ hle15 h2
  have hb1:=hle15 _ _ hb1
  have hb2:=hle15 _ _ hb2
  have hor:=hor.t hs14
  have hor:=hown15 _ _ _ O hor
  have howi:=hown15 _ _ _ O howi
  have holo:=holo.t hs14
  have holo:=hown15 _ _ _ O holo
  obtain ⟨ak9,ck9,rfl,_⟩:=hk9.slice
  refine Nar rfl Z fun Z=>Qf 0 rfl<|Q1 rfl (OC howi rfl)<|Qq rfl (qA rfl)<|Qf 1 rfl<|Qc 2 rfl (OD howi rfl)<|Qf 3 rfl<|Q1 rfl (OC howi rfl)<|Qm rfl<|Qf 5 rfl<|Q1 rfl (BC hT hb1 rfl)<|Qf 5 rfl<|Q1 rfl (BC hT hb2 rfl)<|Qq rfl (qA rfl)<|Qq rfl (q_build (zs:=[(.int .i64 0),(.int .i64 0),(.int .i64 0),(.slice none 0 0),(.slice none 0 0),(.int .i64 0)]) (places:=[(0,1),(1,2),(3,1),(4,1),(5,1)]) (cs:=[_,_,_,_,_,_]) V V rfl rfl)<|St hT.sat hor rfl fun w16 hs16 hor=>?_
  have:=hs16.size
  refine Na rfl Z<|cw_ret ?_
  have hB:=hB.mono encE_ok hle15
  have hT:=hT.o hs16
  exact ⟨_,(Rc 6 rfl (OD hor rfl) (Rt rfl)),_,_,tup2,hT,by rw [RT.link,if_neg (show ¬ ltE (RT.node y ls ms).root (RT.node x bs ks).root=true by rw [show ltE (RT.node y ls ms).root (RT.node x bs ks).root=false from hc2]; decide)]; exact t5_mk (by simp only [RT.kids,List.length_cons]; omega) (by simp only [RT.kids,RT.beside,RT.sizes,RT.size]; omega) hB hk9⟩
theorem r5_link {a b:RT El} {ca cb:List Value} (hs:Sat M w) (ha:T5 M a ca) (h2:T5 M b cb) (hz:a.size+b.size≤1000000000):
  Dz 102 #[.agg ca.toArray, .agg cb.toArray] w (fun v w'=>∃ cv M',v = .tuple #[.agg cv.toArray,wv (2)]∧Step Nope M w M' w'∧T5 M' (RT.link ltE a b) cv):=by
 cases a; cases b; exact r5_link_n hs ha h2 hz
theorem r5_skew {x:El} {t u:RT El} {ca cb:List Value} (hs:Sat M w) (h:T5 M t ca) (h2:T5 M u cb) (hz:t.size+u.size<1000000000):
  Dz 83 #[.agg (elc x).toArray, .agg ca.toArray, .agg cb.toArray] w (fun v w'=>∃ cv M',v = .tuple #[.agg cv.toArray,wv (4)]∧Step Nope M w M' w'∧T5 M' (RT.skew ltE x t u) cv):=by
 have hT:=hs.r
 obtain ⟨pba,pka,pnb,pbc,pnk,pkc,rfl⟩:=h.shape
 obtain ⟨qba,qka,qnb,qbc,qnk,qkc,rfl⟩:=h2.shape
 refine Fe Tryz.func83 [.cell 6 196, .tmp 7] rfl<|Ri fun Z=>Bm hs rfl fun b1 M1 w1 hs1 hb1 e1=>?_
 have:=hs1.size
 refine Bm hs1.sat rfl fun b2 M2 w2 hs2 hb2 e2=>?_
 have:=hs2.size
 refine Bm hs2.sat rfl fun b3 M3 w3 hs3 hb3 e3=>?_
 have:=hs3.size
 have hT:=hT.t hs1 |>.t hs2 |>.t hs3
 have:=hT.size
 refine Al (.agg #[(.int .i64 0),(.int .i64 0),(.int .i64 0),(.slice none 0 0),(.slice none 0 0),(.int .i64 0)]) hs3.sat rfl fun br w4 hs4 hor er=>?_
 have:=hs4.size
 have:=hor.1.lt
 refine Nar rfl Z fun Z=>?_
 have hb2:=hs3.le _ _ hb2
 refine Qc 6 rfl (BD hs4 hb2 rfl)<|Qc 6 rfl (BD hs4 hb3 rfl) ?_
 have h:=t5_ok.mono _ _ _ _ hs3.le (t5_ok.mono _ _ _ _ hs2.le (t5_ok.mono _ _ _ _ hs1.le h))
 have h2:=t5_ok.mono _ _ _ _ hs3.le (t5_ok.mono _ _ _ _ hs2.le (t5_ok.mono _ _ _ _ hs1.le h2))
 refine Ca rfl ((r5_link hs4.sat h h2 O).mono ?_)
 rintro _ w5 ⟨cm,Mm,rfl,hs5,hm⟩
 have:=hs5.size
 have hls:=RT.link_size ltE t u
 obtain ⟨v,hv⟩:∃ v,RT.link ltE t u=v:=⟨_,rfl⟩
 rw [hv] at hm hls
 obtain ⟨y,cs,ls⟩:=v
 obtain ⟨ba3,ka3,bc3,kc3,rfl,hB3,hQ3⟩:=t5_iff.1 hm
 simp only [RT.size] at hls
 have hl3:=RT.sizes_length ls
 refine Qm rfl<|Qe rfl<|Qe rfl ?_
 have hT:=hT.t hs4 |>.t hs5
 have:=hT.size
 refine Al (.agg #[(.int .i64 0),(.int .i64 0),(.int .i64 0),(.slice none 0 0),(.slice none 0 0),(.int .i64 0)]) hs5.sat rfl fun bt w6 hs6 hot et=>?_
 have:=hs6.size
 have:=hot.1.lt
 refine St hs6.sat hot rfl fun w7 hs7 hot=>?_
 have:=hs7.size
 refine Na rfl Z<|cw_seq fun _ hK3=>Ri fun Z=>Qf 5 rfl<|Q1 rfl (OC hot rfl)<|Qq rfl (qEF rfl)<|Nx Z<|cw_false rfl<|cw_skip<|hK3 _ _<|Ri fun Z=>?_
 have hb1:=hs5.le _ _ (hs3.le _ _ (hs2.le _ _ hb1))
 refine Qc 2 rfl (BD hs7 hb1 rfl) ?_
 have hT:=hT.t hs6 |>.o hs7
 have:=hT.size
 refine Al (.agg #[(.int .i64 0),(.int .i64 0)]) hs7.sat rfl fun bro w8 hs8 horo ero=>?_
 have:=hs8.size
 have:=horo.1.lt
 refine St hs8.sat horo rfl fun w9 hs9 horo=>?_
 have:=hs9.size
 refine Nr Z fun Z=>Qf 1 rfl ?_
 have hot:=hot.t hs8 |>.u hs9
 refine Qc 2 rfl (OD hot rfl) ?_
 have hT:=hT.t hs8 |>.o hs9
 have:=hT.size
 refine Al (.agg #[(.int .i64 0),(.int .i64 0)]) hs9.sat rfl fun bot w10 hs10 hoot eot=>?_
 have:=hs10.size
 have:=hoot.1.lt
 refine St hs10.sat hoot rfl fun w11 hs11 hoot=>?_
 have:=hs11.size
 refine Nr Z fun Z=>Qf 1 rfl ?_
 have hot:=hot.t hs10 |>.u hs11
 refine Qc 2 rfl (OD hot rfl)<|Qc 2 rfl (BD hs11 hb1 rfl)<|Ca rfl ((ref_less (a:=y) (b:=x) hs11.sat).mono ?_)
 rintro _ w12 ⟨rfl,hs12⟩
 have:=hs12.size
 refine Na rfl Z<|cw_seq fun _ hK8=>Ri fun Z=>Qm rfl<|Nx Z ?_
 have hb2:=hs5.le _ _ hb2
 have hb3:=hs5.le _ _ hb3
 have hor:=hor.t hs5 |>.t hs6 |>.u hs7 |>.t hs8 |>.u hs9 |>.t hs10 |>.u hs11 |>.t hs12
 have horo:=horo.t hs10 |>.u hs11 |>.t hs12
 have hT:=hT.t hs10 |>.o hs11 |>.t hs12
 have hot:=hot.t hs12
 have hoot:=hoot.t hs12
 refine cw_cond rfl (fun hc1=>?_) (fun hc1=>?_)
 ·skip
  refine Ri fun Z=>Qf 1 rfl<|Qc 2 rfl (OD hot rfl)<|St hs12.sat horo rfl fun w13 hs13 horo=>?_
  have:=hs13.size
  refine Nx Z<|cw_region fun _ Z=>Qc 2 rfl (BD hs13 hb1 rfl) ?_
  have hoot:=hoot.u hs13
  refine St hs13.sat hoot rfl fun w14 hs14 hoot=>?_
  have:=hs14.size
  refine as_nil (Z _ _ ?_)
  refine hK8 _ _<|Ri fun Z=>Qc 2 rfl (OD hoot rfl)<|as_h rfl (h_buildO (e:=29) (size:=2) (zs:=[(.int .i64 0),(.int .i64 0)]) (cs:=[_,_]) V V V rfl hs14.sat rfl rfl fun bB w15 hs15 hoB eB=>?_)
  have:=hs15.size
  have hlB:=hoB.1.lt
  refine Nar rfl Z fun Z=>Qm rfl<|Qf 3 rfl ?_
  have hot:=hot.u hs13 |>.u hs14 |>.t hs15
  refine Q1 rfl (OC hot rfl) ?_
  have hT:=hT.o hs13 |>.o hs14 |>.t hs15
  refine as_h rfl (h_cons encE_ok (e:=29) (bytes:=16) V hT hoB (show EncE _ x _ from rfl) hB3 rfl rfl (by have:=hz; omega) rfl O fun vB9 MB9 w16 hT hle16 hown16 hz16 hB9=>?_)
  have hb1:=hle16 _ _ hb1
  have hb2:=hle16 _ _ hb2
  have hb3:=hle16 _ _ hb3
  have hor:=hor.u hs13 |>.u hs14 |>.t hs15
  have hor:=hown16 _ _ _ O hor
  have hot:=hown16 _ _ _ O hot
  have horo:=horo.u hs14 |>.t hs15
  have horo:=hown16 _ _ _ O horo
  have hoot:=hoot.t hs15
  have hoot:=hown16 _ _ _ O hoot
  obtain ⟨aB9,cB9,rfl,_⟩:=hB9.slice
  refine Nar rfl Z fun Z=>Qf 0 rfl<|Q1 rfl (OC hot rfl)<|Qc 2 rfl (OD horo rfl)<|Qm rfl<|Qf 4 rfl<|Q1 rfl (OC hot rfl)<|Qf 5 rfl<|Q1 rfl (OC hot rfl)<|Qq rfl (qA rfl)<|Qq rfl (q_build (zs:=[(.int .i64 0),(.int .i64 0),(.int .i64 0),(.slice none 0 0),(.slice none 0 0),(.int .i64 0)]) (places:=[(0,1),(1,2),(3,1),(4,1),(5,1)]) (cs:=[_,_,_,_,_,_]) V V rfl rfl)<|Qm rfl<|Qq rfl (q_addwi (b:=2) rfl rfl)<|St hT.sat hor rfl fun w17 hs17 hor=>?_
  have:=hs17.size
  refine Na rfl Z<|cw_ret ?_
  have hT:=hT.o hs17
  refine ⟨_,(Rc 6 rfl (OD hor rfl) (Rt rfl)),_,_,tup_eq rfl,hT,?_⟩
  unfold RT.skew
  rw [hv,if_pos (show ltE (RT.node y cs ls).root x=true from hc1)]
  have hQ3:=hQ3.mono t5_ok hle16
  exact t5_mk rfl (by simp only [RT.kids,RT.beside,List.length_cons]; omega) hB9 hQ3
 ·skip
  refine cw_skip<|hK8 _ _<|Ri fun Z=>Qc 2 rfl (OD hoot rfl)<|as_h rfl (h_buildO (e:=29) (size:=2) (zs:=[(.int .i64 0),(.int .i64 0)]) (cs:=[_,_]) V V V rfl hs12.sat rfl rfl fun bB w18 hs18 hoB eB=>?_)
  have:=hs18.size
  have hlB:=hoB.1.lt
  refine Nar rfl Z fun Z=>Qm rfl<|Qf 3 rfl ?_
  have hot:=hot.t hs18
  refine Q1 rfl (OC hot rfl) ?_
  have hT:=hT.t hs18
  refine as_h rfl (h_cons encE_ok (e:=29) (bytes:=16) V hT hoB (show EncE _ y _ from rfl) hB3 rfl rfl (by have:=hz; omega) rfl O fun vB9 MB9 w19 hT hle19 hown19 hz19 hB9=>?_)
  have hb1:=hle19 _ _ hb1
  have hb2:=hle19 _ _ hb2
  have hb3:=hle19 _ _ hb3
  have hor:=hor.t hs18
  have hor:=hown19 _ _ _ O hor
  have hot:=hown19 _ _ _ O hot
  have horo:=horo.t hs18
  have horo:=hown19 _ _ _ O horo
  have hoot:=hoot.t hs18
  have hoot:=hown19 _ _ _ O hoot
  obtain ⟨aB9,cB9,rfl,_⟩:=hB9.slice
  refine Nar rfl Z fun Z=>Qf 0 rfl<|Q1 rfl (OC hot rfl)<|Qc 2 rfl (OD horo rfl)<|Qm rfl<|Qf 4 rfl<|Q1 rfl (OC hot rfl)<|Qf 5 rfl<|Q1 rfl (OC hot rfl)<|Qq rfl (qA rfl)<|Qq rfl (q_build (zs:=[(.int .i64 0),(.int .i64 0),(.int .i64 0),(.slice none 0 0),(.slice none 0 0),(.int .i64 0)]) (places:=[(0,1),(1,2),(3,1),(4,1),(5,1)]) (cs:=[_,_,_,_,_,_]) V V rfl rfl)<|Qm rfl<|Qq rfl (q_addwi (b:=2) rfl rfl)<|St hT.sat hor rfl fun w20 hs20 hor=>?_
  have:=hs20.size
  refine Na rfl Z<|cw_ret ?_
  have hT:=hT.o hs20
  refine ⟨_,(Rc 6 rfl (OD hor rfl) (Rt rfl)),_,_,tup_eq rfl,hT,?_⟩
  unfold RT.skew
  rw [hv,if_neg (show ¬ ltE (RT.node y cs ls).root x=true by rw [show ltE (RT.node y cs ls).root x=false from hc1]; decide)]
  have hQ3:=hQ3.mono t5_ok hle19
  exact t5_mk rfl (by simp only [RT.kids,RT.beside,List.length_cons]; omega) hB9 hQ3
end Go.Proofs.YtnnldppehojffaaGreat
/- The reference of binomial heaps, part 1. -/
namespace Go.Proofs.YtnnldppehojffaaGreat
open Go Go.Eng
variable {mb:Option Nat} {w:World} {M:Mem mb}
theorem r7_ahead {t:RT El} {ts:List (RT El)} {tc:List Value} {lv:Value} (hs:Sat M w) (h:T5 M t tc) (hl:Row T5 6 M ts lv) (hz:ts.length≤1000000000):
  Dz 101 #[.agg tc.toArray,lv] w (fun v w'=>∃ M',Step Nope M w M' w'∧Row T5 6 M' (t::ts) v):=by
 have hT:=hs.r
 obtain ⟨ba,ka,nb,bc,nk,kc,rfl⟩:=h.shape
 refine Fe Tryz.func101 [.tmp 4] rfl<|Ri fun Z=>Bm hs rfl fun b1 M1 w1 hs1 hb1 e1=>?_
 have:=hs1.size
 refine Nar rfl Z fun Z=>Qc 6 rfl (BD hs1 hb1 rfl)<|as_h rfl (h_buildO (e:=196) (size:=6) (zs:=[(.int .i64 0),(.int .i64 0),(.int .i64 0),(.slice none 0 0),(.slice none 0 0),(.int .i64 0)]) (cs:=[_,_,_,_,_,_]) V V V rfl hs1.sat rfl rfl fun bK w2 hs2 hoK eK=>?_)
 have:=hs2.size
 have:=hoK.1.lt
 refine Nar rfl Z fun Z=>Qm rfl<|Qm rfl ?_
 have h:=t5_ok.mono _ _ _ _ hs1.le h
 have hl:=hl.mono t5_ok hs1.le
 have hT:=hT.t hs1 |>.t hs2
 refine as_h rfl (h_cons t5_ok (e:=196) (bytes:=80) V hT hoK h hl rfl rfl (by have:=hz; omega) rfl O fun vk9 Mk9 w3 hT hle3 hown3 hz3 hk9=>?_)
 have h:=t5_ok.mono _ _ _ _ hle3 h
 have hb1:=hle3 _ _ hb1
 obtain ⟨ak9,ck9,rfl,_⟩:=hk9.slice
 refine Na rfl Z<|cw_ret ?_
 exact ⟨_,Rt rfl,_,hT,hk9⟩
theorem r7_put_n {t:RT El} {tc:List Value} {lv:Value} (hs:Sat M w) (h:T5 M t tc) (hl:Row T5 6 M [] lv):
  Dz 81 #[.agg tc.toArray,lv] w (fun v w'=>∃ v' M',v = .tuple #[v',wv (0)]∧Step Nope M w M' w'∧Row T5 6 M' [t] v'):=by
 have hT:=hs.r
 obtain ⟨ba,ka,nb,bc,nk,kc,rfl⟩:=h.shape
 obtain ⟨la,lc,rfl,_⟩:=hl.slice
 have hz0:([]:List (RT El)).length=0:=rfl
 refine Fe Tryz.func81 [.tmp 4, .tmp 5] rfl<|Ri fun Z=>Bm hs rfl fun b1 M1 w1 hs1 hb1 e1=>?_
 have:=hs1.size
 refine Qa rfl<|Na rfl Z<|cw_seq fun _ hK2=>Rv fun Z=>?_
 have hs2:=Step.drew hs1.sat
 have:=hs2.size
 refine Gm 0 1 rfl<|Gq 1 3 rfl (fun _=>ql rfl)<|Gq 2 7 rfl (fun _=>(q_eqT rfl rfl (by simp)))<|Gm 3 15 rfl<|Dgs 4 31 rfl V rfl rfl<|Dgs 5 63 rfl V rfl rfl<|Dgs 6 127 rfl V rfl rfl<|Dgs 7 255 rfl V rfl rfl<|Dgs 8 511 rfl V rfl rfl<|Dgs 9 1023 rfl V rfl rfl<|Dgs 10 2047 rfl V rfl rfl<|Gq 11 4095 rfl (fun _=>q_pick_t rfl rfl)<|Dx Z<|cw_true rfl<|Ri fun Z=>Qc 6 rfl (BD hs2 hb1 rfl)<|Qm rfl ?_
 have h:=t5_ok.mono _ _ _ _ hs1.le h
 have hl:=hl.mono t5_ok hs1.le
 refine Ca rfl ((r7_ahead hs2.sat h hl O).mono ?_)
 rintro av w3 ⟨Ma,hs3,hav⟩
 have:=hs3.size
 refine Qa rfl<|Na rfl Z<|cw_ret ?_
 have hT:=hT.t hs1 |>.t hs2 |>.t hs3
 exact ⟨_,(res_tmp rfl (Rt rfl)),_,_,tup0,hT,hav⟩
theorem bput_neg {t f:RT El} {r:List (RT El)} (h:¬ t.rank<f.rank):bput ltE t (f::r)=bput ltE (RT.link ltE t f) r∧bputC ltE t (f::r)=2+bputC ltE (RT.link ltE t f) r:=by
 constructor
 ·conv=>lhs; unfold bput
  rw [if_neg h]
 ·rw [bputC,if_neg h]
theorem bput_pos {t f:RT El} {r:List (RT El)} (h:t.rank<f.rank):bput ltE t (f::r)=t::f::r∧bputC ltE t (f::r)=0:=by
 constructor
 ·unfold bput; rw [if_pos h]
 ·rw [bputC,if_pos h]
theorem r7_put_c {w:World} {M:Mem mb} {t f:RT El} {r:List (RT El)} {tc:List Value} {lv:Value} (ih:∀ {w:World} {M:Mem mb} {t:RT El} {tc:List Value} {lv:Value},Sat M w→T5 M t tc→Row T5 6 M r lv→t.size+RT.sizes r≤1000000000→Dz 81 #[.agg tc.toArray,lv] w (fun v w'=>∃ v' M',v = .tuple #[v',wv (bputC ltE t r)]∧Step Nope M w M' w'∧Row T5 6 M' (bput ltE t r) v')) (hs:Sat M w) (h:T5 M t tc) (hl:Row T5 6 M (f::r) lv) (hz:t.size+RT.sizes (f::r)≤1000000000):
  Dz 81 #[.agg tc.toArray,lv] w (fun v w'=>∃ v' M',v = .tuple #[v',wv (bputC ltE t (f::r))]∧Step Nope M w M' w'∧Row T5 6 M' (bput ltE t (f::r)) v'):=by
 have hT:=hs.r
 obtain ⟨ba,ka,nb,bc,nk,kc,rfl⟩:=h.shape
 obtain ⟨la,lc,rfl,_⟩:=hl.slice
 have hlz:=RT.sizes_length (f::r)
 have hlc:(f::r).length=r.length+1:=rfl
 obtain ⟨g,o,fc,rfl,_,hf,hat⟩:=hl.get t5_ok (i:=0) (t:=f) rfl
 obtain ⟨fba,fka,fnb,fbc,fnk,fkc,rfl⟩:=hf.shape
 refine Fe Tryz.func81 [.tmp 4, .tmp 5] rfl<|Ri fun Z=>Bm hs rfl fun b1 M1 w1 hs1 hb1 e1=>?_
 have:=hs1.size
 refine Qa rfl<|Na rfl Z<|cw_seq fun _ hK2=>Rv fun Z=>?_
 have hs2:=Step.drew hs1.sat
 have:=hs2.size
 refine Gm 0 1 rfl<|Gq 1 3 rfl (fun _=>ql rfl)<|Gq 2 7 rfl (fun _=>(q_eqF rfl rfl (by simp only [List.length_cons]; omega)))<|Gm 3 15 rfl<|Dgq 4 31 rfl V rfl rfl (fun _=>(q_fieldAddr (off:=0) V rfl)) ?_
 have h:=t5_ok.mono _ _ _ _ hs1.le h
 refine at_gq (i:=5) (li:=lb 12 63) (cellIs _ _ _) rfl V rfl rfl rfl rfl (fun _ h=>q_load1 V rfl h) (BC hs2 hb1 rfl) V<|Dgq 6 127 rfl V rfl rfl (fun _=>q_move rfl)<|Dgq 7 255 rfl V rfl rfl (fun _=>qi 196 6 rfl)<|Dgq 8 511 rfl V rfl rfl (fun _=>(q_fieldAddr (off:=0) V rfl)) ?_
 have hT:=hT.t hs1 |>.t hs2
 refine at_gq (i:=9) (li:=lb 12 1023) (cellIs _ _ _) rfl V rfl rfl rfl rfl (fun _ h=>q_load1 V rfl h) ((hat _ _ hT.le hT.sat).2 0 _ rfl) V<|Dgq 10 2047 rfl V rfl rfl (fun _=>q_lt rfl rfl)<|Gq 11 4095 rfl (fun _=>q_pick_f rfl rfl)<|Dx Z ?_
 have hl:=hl.mono t5_ok hs1.le
 have hf:=t5_ok.mono _ _ _ _ hs1.le hf
 refine cw_cond rfl (fun hc0=>?_) (fun hc0=>?_)
 ·skip
  refine Ri fun Z=>Qc 6 rfl (BD hs2 hb1 rfl)<|Qm rfl<|Ca rfl ((r7_ahead hs2.sat h hl O).mono ?_)
  rintro av w3 ⟨Ma,hs3,hav⟩
  have:=hs3.size
  refine Qa rfl<|Na rfl Z<|cw_ret ?_
  rw [(bput_pos (by simpa using hc0)).1,(bput_pos (by simpa using hc0)).2]
  have hT:=hT.t hs3
  exact ⟨_,(res_tmp rfl (Rt rfl)),_,_,tup0,hT,hav⟩
 ·skip
  refine cw_skip<|hK2 _ _ ?_
  have hcut4:=hT.size
  refine cw_rdS (fun l4 w4=>∃ (M4:Mem mb) (bu:Nat) (uba uka:Option Addr) (unb ubc unk ukc:Nat),l4=[(1, .slice (some ⟨g,o,none⟩) (f::r).length lc),(2, .pointer (some ⟨b1,0,none⟩)),(6, .pointer (some ⟨bu,0,none⟩)),(7,wv 2)]∧Step Nope M1 w1.drew M4 w4∧Own w4 M4 bu [.int .i64 ((RT.link ltE t f).rank:Nat), .int .i64 (RT.link ltE t f).root.1, .int .i64 (RT.link ltE t f).root.2, .slice uba unb ubc, .slice uka unk ukc, .int .i64 ((RT.link ltE t f).size:Nat)] 196∧w1.drew.heap.size≤bu∧T5 M4 (RT.link ltE t f) [.int .i64 ((RT.link ltE t f).rank:Nat), .int .i64 (RT.link ltE t f).root.1, .int .i64 (RT.link ltE t f).root.2, .slice uba unb ubc, .slice uka unk ukc, .int .i64 ((RT.link ltE t f).size:Nat)]) V V V rfl rfl ?_ ?_
  ·have hR:=Step.refl Nope hs2.sat
   have hs5:=Step.drew hs2.sat
   have:=hs5.size
   refine Gc 0 1 6 rfl (BD hs5 hb1 rfl)<|Gm 1 3 rfl<|Gq 2 7 rfl (fun _=>qi 196 6 rfl) ?_
   have hT:=hT.t hs5
   refine Gc 3 15 6 rfl (hat _ _ hT.le hT.sat) ?_
   have hR:=hR.t hs5
   refine at_two (i:=4) (j:=8) V ?_ ?_
   ·refine Gi 4 31 rfl (Ks [T,T]) (h_call V rfl ?_)
    refine (r5_link hs5.sat h hf (by simp only [RT.sizes] at hz; omega)).mono ?_
    rintro _ w6 ⟨cm,Mm,rfl,hs6,hm⟩
    obtain ⟨uba,uka,unb,ubc,unk,ukc,rfl⟩:=hm.shape
    have:=hs6.size
    refine ⟨trivial,?_⟩
    refine Gm 5 63 rfl<|Gq 6 127 rfl (fun _=>q_extract rfl rfl)<|Gq 7 255 rfl (fun _=>q_extract rfl rfl) ?_
    have hT:=hT.t hs6
    have hqau:=hT.size
    refine Gh 8 511 rfl rfl (h_allocO (z:=(.agg #[(.int .i64 0),(.int .i64 0),(.int .i64 0),(.slice none 0 0),(.slice none 0 0),(.int .i64 0)])) hs6.sat V rfl fun bu w7 hs7 hou eu=>?_)
    have:=hs7.size
    have hlu:=hou.1.lt
    refine ⟨trivial,?_⟩
    refine G0 9 1023 rfl rfl (h_store hs7.sat hou rfl rfl rfl V rfl rfl rfl fun w8 hs8 hn8=>?_)
    clear hou; have hou:=hn8; clear hn8
    have:=hs8.size
    refine ⟨trivial,?_⟩
    refine Ga 10 2047 rfl<|Dd V ?_
    have hR:=hR.t hs6 |>.t hs7 |>.o hs8
    exact ⟨_,(.cons rfl (.cons rfl (.cons rfl (.cons rfl (.nil _))))),_,_,_,_,_,_,_,_,rfl,hR,hou,by omega,hm⟩
   ·have hqau:=hT.size
    refine Gi 8 271 rfl (Ks [F,F]) (h_allocO (z:=(.agg #[(.int .i64 0),(.int .i64 0),(.int .i64 0),(.slice none 0 0),(.slice none 0 0),(.int .i64 0)])) hs5.sat V rfl fun bu w9 hs9 hou eu=>?_)
    have:=hs9.size
    have hlu:=hou.1.lt
    have hT:=hT.t hs9
    have hR:=hR.t hs9
    refine ⟨(by repeat' first | exact trivial | exact BD hs9 hb1 rfl | exact (hat _ _ hT.le hT.sat) | refine And.intro ?_ ?_),?_⟩
    refine Gh 4 287 rfl (Ks [T,T]) (h_call V rfl ?_)
    refine (r5_link hs9.sat h hf (by simp only [RT.sizes] at hz; omega)).mono ?_
    rintro _ w10 ⟨cm,Mm,rfl,hs10,hm⟩
    obtain ⟨uba,uka,unb,ubc,unk,ukc,rfl⟩:=hm.shape
    have:=hs10.size
    refine ⟨trivial,?_⟩
    refine Gm 5 319 rfl<|Gq 6 383 rfl (fun _=>q_extract rfl rfl)<|Gq 7 511 rfl (fun _=>q_extract rfl rfl) ?_
    have hou:=hou.t hs10
    refine G0 9 1023 rfl rfl (h_store hs10.sat hou rfl rfl rfl V rfl rfl rfl fun w11 hs11 hn11=>?_)
    clear hou; have hou:=hn11; clear hn11
    have:=hs11.size
    refine ⟨trivial,?_⟩
    refine Ga 10 2047 rfl<|Dd V ?_
    have hR:=hR.t hs10 |>.o hs11
    exact ⟨_,(.cons rfl (.cons rfl (.cons rfl (.cons rfl (.nil _))))),_,_,_,_,_,_,_,_,rfl,hR,hou,by omega,hm⟩
  rintro l4 w4 ⟨M4,bu,uba,uka,unb,ubc,unk,ukc,rfl,hs4,hou,hw4,hm⟩
  have:=hs4.size
  have hlu:=hou.1.lt
  refine Rv fun Z=>?_
  have hs12:=Step.drew hs4.sat
  have:=hs12.size
  have hou:=hou.t hs12
  refine Gc 0 1 6 rfl (OD hou rfl)<|Gm 1 3 rfl<|Gq 2 7 rfl (fun _=>(q_slice (e:=196) (size:=6) (k':= .i64) V V rfl rfl rfl O O O))<|Gh 3 15 rfl (Ks [T]) (h_call V rfl ?_)
  have hl:=hl.mono t5_ok hs4.le
  refine (ih hs12.sat hm (hl.tail rfl) (by rw [RT.link_size]; simp only [RT.sizes] at hz; omega)).mono ?_
  rintro _ w13 ⟨pv,Mp,rfl,hs13,hp⟩
  have:=hs13.size
  refine ⟨trivial,?_⟩
  refine Gm 4 31 rfl<|Gq 5 63 rfl (fun _=>q_extract rfl rfl)<|Gq 6 127 rfl (fun _=>q_extract rfl rfl)<|Ga 7 255 rfl<|Ga 8 511 rfl<|Dx Z<|Ri fun Z=>Qm rfl<|Qm rfl<|Qm rfl<|Qq rfl (q_addw rfl rfl)<|Qa rfl<|Na rfl Z<|cw_ret ?_
  rw [(bput_neg (by simpa using hc0)).1,(bput_neg (by simpa using hc0)).2]
  have hT:=hT.t hs4 |>.t hs12 |>.t hs13
  exact ⟨_,(res_tmp rfl (Rt rfl)),_,_,tup_eq rfl,hT,hp⟩
theorem r7_put:∀ {ts:List (RT El)} {w:World} {M:Mem mb} {t:RT El} {tc:List Value} {lv:Value},Sat M w→T5 M t tc→Row T5 6 M ts lv→t.size+RT.sizes ts≤1000000000→Dz 81 #[.agg tc.toArray,lv] w (fun v w'=>∃ v' M',v = .tuple #[v',wv (bputC ltE t ts)]∧Step Nope M w M' w'∧Row T5 6 M' (bput ltE t ts) v')
 | [],_,_,_,_,_,hs,h,hl,_=>r7_put_n hs h hl
 | _::_,_,_,_,_,_,hs,h,hl,hz=>r7_put_c (fun hs h hl hz=>r7_put hs h hl hz) hs h hl hz
theorem r7_insert {x:El} {ts:List (RT El)} {lv:Value} (hs:Sat M w) (hl:Row T5 6 M ts lv) (hz:RT.sizes ts<1000000000):
  Dz 42 #[.agg (elc x).toArray, .agg #[lv]] w (fun v w'=>∃ v' M',v = .tuple #[.agg #[v'],wv (1+bputC ltE (RT.leaf x) ts)]∧Step Nope M w M' w'∧Row T5 6 M' (bput ltE (RT.leaf x) ts) v'):=by
 have hT:=hs.r
 obtain ⟨la,lc,rfl,_⟩:=hl.slice
 refine Fe Tryz.func42 [.cell 4 35, .tmp 5] rfl<|Ri fun Z=>Bm hs rfl fun b1 M1 w1 hs1 hb1 e1=>?_
 have:=hs1.size
 refine Bm hs1.sat rfl fun b2 M2 w2 hs2 hb2 e2=>?_
 have:=hs2.size
 have hT:=hT.t hs1 |>.t hs2
 have:=hT.size
 refine Al (.agg #[(.slice none 0 0)]) hs2.sat rfl fun br w3 hs3 hor er=>?_
 have:=hs3.size
 have:=hor.1.lt
 refine Na rfl Z<|Rv fun Z=>?_
 have hs4:=Step.drew hs3.sat
 have:=hs4.size
 have hb1:=hs2.le _ _ hb1
 refine Gc 0 1 2 rfl (BD hs4 hb1 rfl)<|Gf 2 5 0 rfl<|G1 3 13 rfl (BC hs4 hb2 rfl)<|Gh 1 15 rfl (Ks [F,T]) (h_call V rfl ?_)
 refine (r5_leaf (x:=x) hs4.sat).mono ?_
 rintro _ w5 ⟨cl,rfl,hs5,hlf⟩
 have:=hs5.size
 have hl:=hl.mono t5_ok hs1.le |>.mono t5_ok hs2.le
 have hT:=hT.t hs3 |>.t hs4 |>.t hs5
 have hor:=hor.t hs4 |>.t hs5
 refine ⟨(by repeat' first | exact trivial | exact BC hs5 hb2 rfl | refine And.intro ?_ ?_),?_⟩
 refine Gh 4 31 rfl (Ks [T]) (h_call V rfl ?_)
 refine (r7_put hs5.sat hlf hl (by rw [leaf_size]; omega)).mono ?_
 rintro _ w6 ⟨pv,Mp,rfl,hs6,hp⟩
 obtain ⟨pa,pc,rfl,_⟩:=hp.slice
 have:=hs6.size
 refine ⟨trivial,?_⟩
 refine Gm 5 63 rfl<|Gq 6 127 rfl (fun _=>q_extract rfl rfl)<|Gq 7 255 rfl (fun _=>q_extract rfl rfl)<|Ga 8 511 rfl<|Ga 9 1023 rfl<|Dx Z<|Ri fun Z=>Qm rfl<|Qq rfl (q_build (zs:=[(.slice none 0 0)]) (places:=[(0,1)]) (cs:=[_]) V V rfl rfl)<|Qm rfl<|Qq rfl (q_addwi (b:=1) rfl rfl) ?_
 have hor:=hor.t hs6
 refine St hs6.sat hor rfl fun w7 hs7 hor=>?_
 have:=hs7.size
 refine Na rfl Z<|cw_ret ?_
 have hT:=hT.t hs6 |>.o hs7
 exact ⟨_,(Rc 1 rfl (OD hor rfl) (Rt rfl)),_,_,tup_eq (Nat.add_comm _ _),hT,hp⟩
theorem r7_trees_a {b:List (RT El)} {va vb:Value} (hs:Sat M w) (ha:Row T5 6 M [] va) (hb:Row T5 6 M b vb):
  Dz 86 #[va,vb] w (fun v w'=>∃ v' M',v = .tuple #[v',wv (0)]∧Step Nope M w M' w'∧Row T5 6 M' b v'):=by
 have hT:=hs.r
 obtain ⟨laa,lac,rfl,_⟩:=ha.slice
 refine Fe Tryz.func86 [.tmp 4, .tmp 5] rfl<|Ri fun Z=>Qa rfl<|Na rfl Z<|cw_seq fun _ hK2=>Ri fun Z=>Qm rfl<|Qq rfl (ql rfl)<|Qq rfl (q_eqT rfl rfl (by simp))<|Nx Z<|cw_true rfl<|Ri fun Z=>Qm rfl<|Qa rfl<|Na rfl Z<|cw_ret ?_
 exact ⟨_,(res_tmp rfl (Rt rfl)),_,_,tup0,hT,hb⟩
theorem r7_trees_b {f:RT El} {a:List (RT El)} {va vb:Value} (hs:Sat M w) (ha:Row T5 6 M (f::a) va) (hb:Row T5 6 M [] vb):
  Dz 86 #[va,vb] w (fun v w'=>∃ v' M',v = .tuple #[v',wv (0)]∧Step Nope M w M' w'∧Row T5 6 M' (f::a) v'):=by
 have hT:=hs.r
 obtain ⟨laa,lac,rfl,_⟩:=ha.slice
 obtain ⟨lba,lbc,rfl,_⟩:=hb.slice
 refine Fe Tryz.func86 [.tmp 4, .tmp 5] rfl<|Ri fun Z=>Qa rfl<|Na rfl Z<|cw_seq fun _ hK2=>Ri fun Z=>Qm rfl<|Qq rfl (ql rfl)<|Qq rfl (q_eqF rfl rfl (by simp only [List.length_cons]; omega))<|Nx Z<|cw_false rfl<|cw_skip<|hK2 _ _<|cw_seq fun _ hK4=>Ri fun Z=>Qm rfl<|Qq rfl (ql rfl)<|Qq rfl (q_eqT rfl rfl (by simp))<|Nx Z<|cw_true rfl<|Ri fun Z=>Qm rfl<|Qa rfl<|Na rfl Z<|cw_ret ?_
 exact ⟨_,(res_tmp rfl (Rt rfl)),_,_,tup0,hT,ha⟩
def M7 (mb:Option Nat) (k:Nat):Prop:=∀ (w:World) (M:Mem mb) (a b:List (RT El)) (va vb:Value),Sat M w→Row T5 6 M a va→Row T5 6 M b vb→a.length+b.length<k→RT.sizes a+RT.sizes b≤1000000000→
  Dz 86 #[va,vb] w (fun v w'=>∃ v' M',v = .tuple #[v',wv (bmeldC ltE a b)]∧Step Nope M w M' w'∧Row T5 6 M' (bmeld ltE a b) v')
theorem r7_trees_c {w:World} {M:Mem mb} {f g:RT El} {a b:List (RT El)} {va vb:Value} {k:Nat} (ih:M7 mb k) (hs:Sat M w) (ha:Row T5 6 M (f::a) va) (hb:Row T5 6 M (g::b) vb) (hk:(f::a).length+(g::b).length<k+1) (hz:RT.sizes (f::a)+RT.sizes (g::b)≤1000000000):
  Dz 86 #[va,vb] w (fun v w'=>∃ v' M',v = .tuple #[v',wv (bmeldC ltE (f::a) (g::b))]∧Step Nope M w M' w'∧Row T5 6 M' (bmeld ltE (f::a) (g::b)) v'):=by
 have hT:=hs.r
 obtain ⟨laa,lac,rfl,_⟩:=ha.slice
 obtain ⟨lba,lbc,rfl,_⟩:=hb.slice
 obtain ⟨ga,oa,fca,rfl,_,hfa,hata⟩:=ha.get t5_ok (i:=0) (t:=f) rfl
 obtain ⟨fbaa,fkaa,fnba,fbca,fnka,fkca,rfl⟩:=hfa.shape
 obtain ⟨gb,ob,fcb,rfl,_,hfb,hatb⟩:=hb.get t5_ok (i:=0) (t:=g) rfl
 obtain ⟨fbab,fkab,fnbb,fbcb,fnkb,fkcb,rfl⟩:=hfb.shape
 have hlc:(f::a).length=a.length+1:=rfl
 have hlcb:(g::b).length=b.length+1:=rfl
 have hfp:=f.size_pos
 have hgp:=g.size_pos
 have hmf:=RT.sizes_cons f a
 have hmg:=RT.sizes_cons g b
 have hl1:=RT.sizes_length a
 have hl2:=RT.sizes_length b
 refine Fe Tryz.func86 [.tmp 4, .tmp 5] rfl<|Ri fun Z=>Qa rfl<|Na rfl Z<|cw_seq fun _ hK2=>Ri fun Z=>Qm rfl<|Qq rfl (ql rfl)<|Qq rfl (q_eqF rfl rfl (by simp only [List.length_cons]; omega))<|Nx Z<|cw_false rfl<|cw_skip<|hK2 _ _<|cw_seq fun _ hK4=>Ri fun Z=>Qm rfl<|Qq rfl (ql rfl)<|Qq rfl (q_eqF rfl rfl (by simp only [List.length_cons]; omega))<|Nx Z<|cw_false rfl<|cw_skip<|hK4 _ _<|cw_seq fun _ hK6=>Rv fun Z=>?_
 have hs1:=Step.drew hs
 have:=hs1.size
 refine Gm 0 1 rfl<|Gq 1 3 rfl (fun _=>qi 196 6 rfl)<|Gf 2 7 0 rfl ?_
 have hT:=hT.t hs1
 refine G1 3 15 rfl ((hata _ _ hT.le hT.sat).2 0 _ rfl)<|Gm 4 31 rfl<|Gq 5 63 rfl (fun _=>qi 196 6 rfl)<|Gf 6 127 0 rfl<|G1 7 255 rfl ((hatb _ _ hT.le hT.sat).2 0 _ rfl)<|Gq 8 511 rfl (fun _=>q_lt rfl rfl)<|Dx Z<|cw_cond rfl (fun hc2=>?_) (fun hc2=>?_)
 ·replace hc2:f.rank<g.rank:=by have:=of_decide_eq_true hc2; omega
  refine Ri fun Z=>Qm rfl<|Qq rfl (q_slice (e:=196) (size:=6) (k':= .i64) V V rfl rfl rfl O O O)<|Qm rfl<|Ca rfl ?_
  have hml:=RT.sizes_length (bmeld ltE a (g::b))
  have hms:=bmeld_size ltE a (g::b)
  refine (ih _ _ a (g::b) _ _ hs1.sat (ha.tail rfl) (hb) O O).mono ?_
  rintro _ w2 ⟨mv,Mm,rfl,hs2,hm⟩
  have:=hs2.size
  refine Qm rfl<|Qe rfl<|Qe rfl<|Qa rfl<|Nar rfl Z fun Z=>Qm rfl<|Qq rfl (qi 196 6 rfl) ?_
  have hT:=hT.t hs2
  refine Qc 6 rfl (hata _ _ hT.le hT.sat)<|Qm rfl ?_
  have hfa:=t5_ok.mono _ _ _ _ hs2.le hfa
  refine Ca rfl ((r7_ahead hs2.sat hfa hm O).mono ?_)
  rintro av w3 ⟨Ma,hs3,hav⟩
  have:=hs3.size
  refine Qm rfl<|Qa rfl<|Na rfl Z<|cw_ret ?_
  have hT:=hT.t hs3
  exact ⟨_,(res_tmp rfl (Rt rfl)),_,_,tup_eq (by rw [bmeldC,if_pos hc2]),hT,by rw [bmeld,if_pos hc2]; exact hav⟩
 ·replace hc2:¬ f.rank<g.rank:=by have:=of_decide_eq_false hc2; omega
  refine cw_skip<|hK6 _ _<|cw_seq fun _ hK10=>Rv fun Z=>?_
  have hs4:=Step.drew hs1.sat
  have:=hs4.size
  refine Gm 0 1 rfl<|Gq 1 3 rfl (fun _=>qi 196 6 rfl)<|Gf 2 7 0 rfl ?_
  have hT:=hT.t hs4
  refine G1 3 15 rfl ((hatb _ _ hT.le hT.sat).2 0 _ rfl)<|Gm 4 31 rfl<|Gq 5 63 rfl (fun _=>qi 196 6 rfl)<|Gf 6 127 0 rfl<|G1 7 255 rfl ((hata _ _ hT.le hT.sat).2 0 _ rfl)<|Gq 8 511 rfl (fun _=>q_lt rfl rfl)<|Dx Z<|cw_cond rfl (fun hc3=>?_) (fun hc3=>?_)
  ·replace hc3:g.rank<f.rank:=by have:=of_decide_eq_true hc3; omega
   refine Ri fun Z=>Qm rfl<|Qm rfl<|Qq rfl (q_slice (e:=196) (size:=6) (k':= .i64) V V rfl rfl rfl O O O)<|Ca rfl ?_
   have hml:=RT.sizes_length (bmeld ltE (f::a) b)
   have hms:=bmeld_size ltE (f::a) b
   refine (ih _ _ (f::a) b _ _ hs4.sat (ha) (hb.tail rfl) O O).mono ?_
   rintro _ w5 ⟨mv,Mm,rfl,hs5,hm⟩
   have:=hs5.size
   refine Qm rfl<|Qe rfl<|Qe rfl<|Qa rfl<|Nar rfl Z fun Z=>Qm rfl<|Qq rfl (qi 196 6 rfl) ?_
   have hT:=hT.t hs5
   refine Qc 6 rfl (hatb _ _ hT.le hT.sat)<|Qm rfl ?_
   have hfb:=t5_ok.mono _ _ _ _ hs5.le hfb
   refine Ca rfl ((r7_ahead hs5.sat hfb hm O).mono ?_)
   rintro av w6 ⟨Ma,hs6,hav⟩
   have:=hs6.size
   refine Qm rfl<|Qa rfl<|Na rfl Z<|cw_ret ?_
   have hT:=hT.t hs6
   exact ⟨_,(res_tmp rfl (Rt rfl)),_,_,tup_eq (by rw [bmeldC,if_neg hc2,if_pos hc3]),hT,by rw [bmeld,if_neg hc2,if_pos hc3]; exact hav⟩
  ·replace hc3:¬ g.rank<f.rank:=by have:=of_decide_eq_false hc3; omega
   refine cw_skip<|hK10 _ _ ?_
   have hcut7:=hT.size
   refine cw_rdS (fun l7 w7=>∃ (M7:Mem mb) (bu:Nat) (uba uka:Option Addr) (unb ubc unk ukc:Nat),l7=[(0, .slice (some ⟨ga,oa,none⟩) (f::a).length lac),(1, .slice (some ⟨gb,ob,none⟩) (g::b).length lbc),(10, .pointer (some ⟨bu,0,none⟩)),(11,wv 2)]∧Step Nope M w.drew.drew M7 w7∧Own w7 M7 bu [.int .i64 ((RT.link ltE f g).rank:Nat), .int .i64 (RT.link ltE f g).root.1, .int .i64 (RT.link ltE f g).root.2, .slice uba unb ubc, .slice uka unk ukc, .int .i64 ((RT.link ltE f g).size:Nat)] 196∧w.drew.drew.heap.size≤bu∧T5 M7 (RT.link ltE f g) [.int .i64 ((RT.link ltE f g).rank:Nat), .int .i64 (RT.link ltE f g).root.1, .int .i64 (RT.link ltE f g).root.2, .slice uba unb ubc, .slice uka unk ukc, .int .i64 ((RT.link ltE f g).size:Nat)]) V V V rfl rfl ?_ ?_
   ·have hR:=Step.refl Nope hs4.sat
    have hs8:=Step.drew hs4.sat
    have:=hs8.size
    refine Gm 0 1 rfl<|Gq 1 3 rfl (fun _=>qi 196 6 rfl) ?_
    have hT:=hT.t hs8
    refine Gc 2 7 6 rfl (hata _ _ hT.le hT.sat)<|Gm 3 15 rfl<|Gq 4 31 rfl (fun _=>qi 196 6 rfl)<|Gc 5 63 6 rfl (hatb _ _ hT.le hT.sat) ?_
    have hR:=hR.t hs8
    refine at_two (i:=6) (j:=10) V ?_ ?_
    ·refine Gi 6 127 rfl (Ks [T,T]) (h_call V rfl ?_)
     refine (r5_link hs8.sat hfa hfb O).mono ?_
     rintro _ w9 ⟨cm,Ml,rfl,hs9,hu⟩
     obtain ⟨uba,uka,unb,ubc,unk,ukc,rfl⟩:=hu.shape
     have:=hs9.size
     refine ⟨trivial,?_⟩
     refine Gm 7 255 rfl<|Gq 8 511 rfl (fun _=>q_extract rfl rfl)<|Gq 9 1023 rfl (fun _=>q_extract rfl rfl) ?_
     have hT:=hT.t hs9
     have hqau:=hT.size
     refine Gh 10 2047 rfl rfl (h_allocO (z:=(.agg #[(.int .i64 0),(.int .i64 0),(.int .i64 0),(.slice none 0 0),(.slice none 0 0),(.int .i64 0)])) hs9.sat V rfl fun bu w10 hs10 hou eu=>?_)
     have:=hs10.size
     have hlu:=hou.1.lt
     refine ⟨trivial,?_⟩
     refine G0 11 4095 rfl rfl (h_store hs10.sat hou rfl rfl rfl V rfl rfl rfl fun w11 hs11 hn11=>?_)
     clear hou; have hou:=hn11; clear hn11
     have:=hs11.size
     refine ⟨trivial,?_⟩
     refine Ga 12 8191 rfl<|Dd V ?_
     have hR:=hR.t hs9 |>.t hs10 |>.o hs11
     exact ⟨_,(.cons rfl (.cons rfl (.cons rfl (.cons rfl (.nil _))))),_,_,_,_,_,_,_,_,rfl,hR,hou,by omega,hu⟩
    ·have hqau:=hT.size
     refine Gi 10 1087 rfl (Ks [F,F]) (h_allocO (z:=(.agg #[(.int .i64 0),(.int .i64 0),(.int .i64 0),(.slice none 0 0),(.slice none 0 0),(.int .i64 0)])) hs8.sat V rfl fun bu w12 hs12 hou eu=>?_)
     have:=hs12.size
     have hlu:=hou.1.lt
     have hT:=hT.t hs12
     have hR:=hR.t hs12
     refine ⟨(by repeat' first | exact trivial | exact (hata _ _ hT.le hT.sat) | exact (hatb _ _ hT.le hT.sat) | refine And.intro ?_ ?_),?_⟩
     refine Gh 6 1151 rfl (Ks [T,T]) (h_call V rfl ?_)
     refine (r5_link hs12.sat hfa hfb O).mono ?_
     rintro _ w13 ⟨cm,Ml,rfl,hs13,hu⟩
     obtain ⟨uba,uka,unb,ubc,unk,ukc,rfl⟩:=hu.shape
     have:=hs13.size
     refine ⟨trivial,?_⟩
     refine Gm 7 1279 rfl<|Gq 8 1535 rfl (fun _=>q_extract rfl rfl)<|Gq 9 2047 rfl (fun _=>q_extract rfl rfl) ?_
     have hou:=hou.t hs13
     refine G0 11 4095 rfl rfl (h_store hs13.sat hou rfl rfl rfl V rfl rfl rfl fun w14 hs14 hn14=>?_)
     clear hou; have hou:=hn14; clear hn14
     have:=hs14.size
     refine ⟨trivial,?_⟩
     refine Ga 12 8191 rfl<|Dd V ?_
     have hR:=hR.t hs13 |>.o hs14
     exact ⟨_,(.cons rfl (.cons rfl (.cons rfl (.cons rfl (.nil _))))),_,_,_,_,_,_,_,_,rfl,hR,hou,by omega,hu⟩
   rintro l7 w7 ⟨M7,bu,uba,uka,unb,ubc,unk,ukc,rfl,hs7,hou,hw7,hu⟩
   have:=hs7.size
   have hlu:=hou.1.lt
   refine Rv fun Z=>?_
   have hs15:=Step.drew hs7.sat
   have:=hs15.size
   refine Gm 0 1 rfl<|Gq 1 3 rfl (fun _=>(q_slice (e:=196) (size:=6) (k':= .i64) V V rfl rfl rfl O O O))<|Gm 2 7 rfl<|Gq 3 15 rfl (fun _=>(q_slice (e:=196) (size:=6) (k':= .i64) V V rfl rfl rfl O O O))<|Gh 4 31 rfl rfl (h_call V rfl ?_)
   have hml:=RT.sizes_length (bmeld ltE a b)
   have hms:=bmeld_size ltE a b
   have ha:=ha.mono t5_ok hs7.le
   have hb:=hb.mono t5_ok hs7.le
   refine (ih _ _ a b _ _ hs15.sat (ha.tail rfl) (hb.tail rfl) O O).mono ?_
   rintro _ w16 ⟨mv,Mm,rfl,hs16,hm⟩
   have:=hs16.size
   refine ⟨trivial,?_⟩
   refine Gm 5 63 rfl<|Gq 6 127 rfl (fun _=>q_extract rfl rfl)<|Gq 7 255 rfl (fun _=>q_extract rfl rfl)<|Ga 8 511 rfl<|Ga 9 1023 rfl<|Dx Z<|Ri fun Z=>?_
   have hou:=hou.t hs15 |>.t hs16
   refine Qc 6 rfl (OD hou rfl)<|Qm rfl ?_
   have hu:=t5_ok.mono _ _ _ _ hs16.le hu
   refine Ca rfl ((r7_put hs16.sat hu hm (by rw [RT.link_size]; omega)).mono ?_)
   rintro _ w17 ⟨pv,Mp,rfl,hs17,hp⟩
   have:=hs17.size
   refine Qm rfl<|Qe rfl<|Qe rfl<|Qa rfl<|Nar rfl Z fun Z=>Qm rfl<|Qm rfl<|Qm rfl<|Qq rfl (q_addw rfl rfl)<|Qm rfl<|Qq rfl (q_addw rfl rfl)<|Qa rfl<|Na rfl Z<|cw_ret ?_
   have hT:=hT.t hs7 |>.t hs15 |>.t hs16 |>.t hs17
   exact ⟨_,(res_tmp rfl (Rt rfl)),_,_,tup_eq (by rw [bmeldC,if_neg hc2,if_neg hc3]),hT,by rw [bmeld,if_neg hc2,if_neg hc3]; exact hp⟩
theorem r7_trees_all:∀ k,M7 mb k
 | 0=>fun _ _ _ _ _ _ _ _ _ h _=>absurd h (Nat.not_lt_zero _)
 | k+1=>fun w M a b va vb hs ha hb hk hz=>by
  cases a with
  | nil=>rw [show bmeld ltE [] b=b by rw [bmeld],show bmeldC ltE [] b=0 by rw [bmeldC]]; exact r7_trees_a hs ha hb
  | cons f a=>
   cases b with
   | nil=>rw [show bmeld ltE (f::a) []=f::a by rw [bmeld],show bmeldC ltE (f::a) []=0 by rw [bmeldC]]; exact r7_trees_b hs ha hb
   | cons g b=>exact r7_trees_c (r7_trees_all k) hs ha hb hk hz
theorem r7_trees {a b:List (RT El)} {va vb:Value} (hs:Sat M w) (ha:Row T5 6 M a va) (hb:Row T5 6 M b vb) (hz:RT.sizes a+RT.sizes b≤1000000000):
  Dz 86 #[va,vb] w (fun v w'=>∃ v' M',v = .tuple #[v',wv (bmeldC ltE a b)]∧Step Nope M w M' w'∧Row T5 6 M' (bmeld ltE a b) v'):=r7_trees_all _ _ _ _ _ _ _ hs ha hb (Nat.lt_succ_self _) hz
end Go.Proofs.YtnnldppehojffaaGreat
/- The reference of binomial heaps, part 2. -/
namespace Go.Proofs.YtnnldppehojffaaGreat
open Go Go.Eng
variable {mb:Option Nat} {w:World} {M:Mem mb}
theorem r7_meld {a b:List (RT El)} {va vb:Value} (hs:Sat M w) (ha:Row T5 6 M a va) (hb:Row T5 6 M b vb) (hz:RT.sizes a+RT.sizes b≤1000000000):
  Dz 48 #[.agg #[va], .agg #[vb]] w (fun v w'=>∃ v' M',v = .tuple #[.agg #[v'],wv (bmeldC ltE a b)]∧Step Nope M w M' w'∧Row T5 6 M' (bmeld ltE a b) v'):=by
 have hT:=hs.r
 obtain ⟨laa,lac,rfl,_⟩:=ha.slice
 obtain ⟨lba,lbc,rfl,_⟩:=hb.slice
 refine Fe Tryz.func48 [.cell 4 35, .tmp 5] rfl<|Ri fun Z=>Bm hs rfl fun b1 M1 w1 hs1 hb1 e1=>?_
 have:=hs1.size
 refine Bm hs1.sat rfl fun b2 M2 w2 hs2 hb2 e2=>?_
 have:=hs2.size
 have hT:=hT.t hs1 |>.t hs2
 have:=hT.size
 refine Al (.agg #[(.slice none 0 0)]) hs2.sat rfl fun br w3 hs3 hor er=>?_
 have:=hs3.size
 have:=hor.1.lt
 refine Nar rfl Z fun Z=>Qf 0 rfl ?_
 have hb1:=hs2.le _ _ hb1
 refine Q1 rfl (BC hs3 hb1 rfl)<|Qf 0 rfl<|Q1 rfl (BC hs3 hb2 rfl) ?_
 have ha:=ha.mono t5_ok hs1.le |>.mono t5_ok hs2.le
 have hb:=hb.mono t5_ok hs1.le |>.mono t5_ok hs2.le
 refine Ca rfl ((r7_trees hs3.sat ha hb hz).mono ?_)
 rintro _ w4 ⟨mv,Mm,rfl,hs4,hm⟩
 obtain ⟨ma,mc,rfl,_⟩:=hm.slice
 have:=hs4.size
 refine Qm rfl<|Qe rfl<|Qe rfl<|Qa rfl<|Nar rfl Z fun Z=>Qm rfl<|Qq rfl (q_build (zs:=[(.slice none 0 0)]) (places:=[(0,1)]) (cs:=[_]) V V rfl rfl)<|Qm rfl ?_
 have hor:=hor.t hs4
 refine St hs4.sat hor rfl fun w5 hs5 hor=>?_
 have:=hs5.size
 refine Na rfl Z<|cw_ret ?_
 have hT:=hT.t hs3 |>.t hs4 |>.o hs5
 exact ⟨_,(Rc 1 rfl (OD hor rfl) (Rt rfl)),_,_,tup_eq rfl,hT,hm⟩
end Go.Proofs.YtnnldppehojffaaGreat
/- Lists of trees of heaps, part 1. -/
namespace Go.Proofs.YtnnldppehojffaaGreat
open Go Go.Eng
variable {mb:Option Nat} {w:World} {M:Mem mb}
theorem ch_len_n (hs:Sat M w):
  Dz 278 #[.agg #[.pointer none]] w (fun v w'=>v = .int .i64 0∧Step Nope M w M w'):=by
 have hT:=hs.r
 refine Fe Tryz.func278 [.tmp 2] rfl<|Ri fun Z=>Bm hs rfl fun b1 M1 w1 hs1 hb1 e1=>Na rfl Z<|cw_seq fun _ hK2=>Ri fun Z=>Qf 0 rfl<|Q1 rfl (BC hs1 hb1 rfl)<|Qq rfl (qn rfl)<|Nx Z<|cw_true rfl<|Ri fun Z=>Na rfl Z<|cw_ret ?_
 have hT:=hT.t hs1
 exact ⟨_,Rt rfl,rfl,hT.forget⟩
theorem ch_len_c {x:Option Addr} {r:List (Option Addr)} {p:Value} (hs:Sat M w) (h:CRep 381 M (x::r) p):
  Dz 278 #[.agg #[p]] w (fun v w'=>v = .int .i64 ((r.length:Int)+1)∧Step Nope M w M w'):=by
 have hT:=hs.r
 obtain ⟨b,q,rfl,hb,hc⟩:=h
 refine Fe Tryz.func278 [.tmp 2] rfl<|Ri fun Z=>Bm hs rfl fun b1 M1 w1 hs1 hb1 e1=>Na rfl Z<|cw_seq fun _ hK2=>Ri fun Z=>Qf 0 rfl<|Q1 rfl (BC hs1 hb1 rfl)<|Qq rfl (qn rfl)<|Nx Z<|cw_false rfl<|cw_skip<|hK2 _ _<|Ri fun Z=>Qf 0 rfl<|Q1 rfl (BC hs1 hb1 rfl)<|Qq rfl (q_nilp rfl)<|Qf 2 rfl ?_
 have hb:=hs1.le _ _ hb
 refine Q1 rfl (BC hs1 hb rfl)<|Na rfl Z<|cw_ret ?_
 have hT:=hT.t hs1
 exact ⟨_,Rt rfl,rfl,hT.forget⟩
theorem ch_len {vs:List (Option Addr)} {p:Value} (hs:Sat M w) (h:CRep 381 M vs p):Dz 278 #[.agg #[p]] w (fun v w'=>v = .int .i64 (vs.length:Nat)∧Step Nope M w M w'):=by
 cases vs with
 | nil=>cases h; exact ch_len_n hs
 | cons x r=>exact (ch_len_c hs h).mono fun v w' ⟨h1,h2⟩=>⟨by rw [h1]; simp,h2⟩
theorem ch_first_n (hs:Sat M w):
  Dz 259 #[.agg #[.pointer none]] w (fun v w'=>v = .tuple #[.pointer none, .bool false]∧Step Nope M w M w'):=by
 have hT:=hs.r
 refine Fe Tryz.func259 [.tmp 2, .tmp 3] rfl<|Ri fun Z=>Bm hs rfl fun b1 M1 w1 hs1 hb1 e1=>Qa rfl<|Na rfl Z<|cw_seq fun _ hK2=>Ri fun Z=>Qf 0 rfl<|Q1 rfl (BC hs1 hb1 rfl)<|Qq rfl (qn rfl)<|Nx Z<|cw_true rfl<|Ri fun Z=>Nar rfl Z fun Z=>Qm rfl<|Qa rfl<|Na rfl Z<|cw_ret ?_
 have hT:=hT.t hs1
 exact ⟨_,(res_tmp rfl (Rt rfl)),rfl,hT.forget⟩
theorem ch_first {x:Option Addr} {r:List (Option Addr)} {p:Value} (hs:Sat M w) (h:CRep 381 M (x::r) p):
  Dz 259 #[.agg #[p]] w (fun v w'=>v = .tuple #[.pointer x, .bool true]∧Step Nope M w M w'):=by
 have hT:=hs.r
 obtain ⟨b,q,rfl,hb,hc⟩:=h
 refine Fe Tryz.func259 [.tmp 2, .tmp 3] rfl<|Ri fun Z=>Bm hs rfl fun b1 M1 w1 hs1 hb1 e1=>Qa rfl<|Na rfl Z<|cw_seq fun _ hK2=>Ri fun Z=>Qf 0 rfl<|Q1 rfl (BC hs1 hb1 rfl)<|Qq rfl (qn rfl)<|Nx Z<|cw_false rfl<|cw_skip<|hK2 _ _<|Ri fun Z=>Qf 0 rfl<|Q1 rfl (BC hs1 hb1 rfl)<|Qq rfl (q_nilp rfl)<|Qf 0 rfl ?_
 have hb:=hs1.le _ _ hb
 refine Q1 rfl (BC hs1 hb rfl)<|Qa rfl<|Na rfl Z<|cw_ret ?_
 have hT:=hT.t hs1
 exact ⟨_,(res_tmp rfl (Rt rfl)),rfl,hT.forget⟩
theorem ch_rest_n (hs:Sat M w):
  Dz 260 #[.agg #[.pointer none]] w (fun v w'=>v = .agg #[.pointer none]∧Step Nope M w M w'):=by
 have hT:=hs.r
 refine Fe Tryz.func260 [.cell 2 343] rfl<|Ri fun Z=>Bm hs rfl fun b1 M1 w1 hs1 hb1 e1=>?_
 have:=hs1.size
 have hT:=hT.t hs1
 have:=hT.size
 refine Al (.agg #[(.pointer none)]) hs1.sat rfl fun br w2 hs2 hor er=>?_
 have:=hs2.size
 have:=hor.1.lt
 refine Nx Z<|cw_seq fun _ hK2=>Ri fun Z=>Qf 0 rfl<|Q1 rfl (BC hs2 hb1 rfl)<|Qq rfl (qn rfl)<|Nx Z<|cw_true rfl<|Ri fun Z=>Qc 1 rfl (BD hs2 hb1 rfl)<|St hs2.sat hor rfl fun w3 hs3 hor=>?_
 have:=hs3.size
 refine Nx Z<|cw_ret ?_
 have hT:=hT.t hs2 |>.o hs3
 exact ⟨_,(Rc 1 rfl (OD hor rfl) res_nil),rfl,hT.forget⟩
theorem ch_rest {x:Option Addr} {r:List (Option Addr)} {p:Value} (hs:Sat M w) (h:CRep 381 M (x::r) p):
  Dz 260 #[.agg #[p]] w (fun v w'=>∃ q,v = .agg #[.pointer q]∧Step Nope M w M w'∧CRep 381 M r (.pointer q)):=by
 have hT:=hs.r
 obtain ⟨b,q,rfl,hb,hc⟩:=h
 have hc0:=hc
 refine Fe Tryz.func260 [.cell 2 343] rfl<|Ri fun Z=>Bm hs rfl fun b1 M1 w1 hs1 hb1 e1=>?_
 have:=hs1.size
 have hT:=hT.t hs1
 have:=hT.size
 refine Al (.agg #[(.pointer none)]) hs1.sat rfl fun br w2 hs2 hor er=>?_
 have:=hs2.size
 have:=hor.1.lt
 refine Nx Z<|cw_seq fun _ hK2=>Ri fun Z=>Qf 0 rfl<|Q1 rfl (BC hs2 hb1 rfl)<|Qq rfl (qn rfl)<|Nx Z<|cw_false rfl<|cw_skip<|hK2 _ _<|Ri fun Z=>Qf 0 rfl<|Q1 rfl (BC hs2 hb1 rfl)<|Qq rfl (q_nilp rfl)<|Qf 1 rfl ?_
 have hb:=hs1.le _ _ hb
 refine Q1 rfl (BC hs2 hb rfl)<|Qq rfl (q_build (zs:=[(.pointer none)]) (places:=[(0,1)]) (cs:=[_]) V V rfl rfl)<|St hs2.sat hor rfl fun w3 hs3 hor=>?_
 have:=hs3.size
 refine Nx Z<|cw_ret ?_
 have hT:=hT.t hs2 |>.o hs3
 exact ⟨_,(Rc 1 rfl (OD hor rfl) res_nil),q,rfl,hT.forget,hc0⟩
theorem ch_push {x:Option Addr} {vs:List (Option Addr)} {p:Value} (hs:Sat M w) (h:CRep 381 M vs p) (hz:vs.length≤1000000000):
  Dz 263 #[.agg #[p], .pointer x] w (fun v w'=>∃ q M',v = .agg #[.pointer q]∧Step Nope M w M' w'∧CRep 381 M' (x::vs) (.pointer q)):=by
 have hT:=hs.r
 obtain ⟨q,rfl⟩:=h.ptr
 refine Fe Tryz.func263 [.cell 4 343] rfl<|Ri fun Z=>Bm hs rfl fun b1 M1 w1 hs1 hb1 e1=>?_
 have:=hs1.size
 have hT:=hT.t hs1
 have:=hT.size
 refine Al (.agg #[(.pointer none)]) hs1.sat rfl fun br w2 hs2 hor er=>?_
 have:=hs2.size
 have:=hor.1.lt
 refine Nx Z<|Rv fun Z=>?_
 have hs3:=Step.drew hs2.sat
 have:=hs3.size
 refine Gm 0 1 rfl<|Gf 1 3 0 rfl<|G1 2 7 rfl (BC hs3 hb1 rfl)<|Gc 3 15 1 rfl (BD hs3 hb1 rfl)<|Gh 4 31 rfl (Ks [T,F]) (h_call V rfl ?_)
 have h:=h.mono hs1.le
 refine (ch_len hs3.sat h).mono ?_
 rintro _ w4 ⟨rfl,hs4⟩
 have:=hs4.size
 have hT:=hT.t hs2 |>.t hs3 |>.t hs4
 have hor:=hor.t hs3 |>.t hs4
 refine ⟨(by repeat' first | exact trivial | exact BC hs4 hb1 rfl | refine And.intro ?_ ?_),?_⟩
 refine Gq 5 63 rfl (fun _=>qA rfl)<|Gq 6 127 rfl (fun _=>(q_build (zs:=[(.pointer none),(.pointer none),(.int .i64 0)]) (places:=[(0,1),(1,1),(2,1)]) (cs:=[_,_,_]) V V rfl rfl))<|Gh 7 255 rfl (Ks [F]) (h_boxM hs4.sat rfl rfl fun b5 M5 w5 hs5 hb5 e5=>?_)
 have:=hs5.size
 have h:=h.mono hs5.le
 have hb1:=hs5.le _ _ hb1
 have hor:=hor.t hs5
 have hT:=hT.t hs5
 refine ⟨(by repeat' first | exact trivial | exact BC hs5 hb1 rfl | refine And.intro ?_ ?_),?_⟩
 refine Gq 8 511 rfl (fun _=>(q_build (zs:=[(.pointer none)]) (places:=[(0,1)]) (cs:=[_]) V V rfl rfl))<|G0 9 1023 rfl (Ks [T]) (h_store hs5.sat hor rfl rfl rfl V rfl rfl rfl fun w6 hs6 hn6=>?_)
 clear hor; have hor:=hn6; clear hn6
 have:=hs6.size
 refine ⟨trivial,?_⟩
 refine Dx Z<|cw_ret ?_
 have hT:=hT.o hs6
 exact ⟨_,(Rc 1 rfl (OD hor rfl) res_nil),_,_,rfl,hT,_,_,rfl,hb5,h⟩
theorem ch_drop {vs:List (Option Addr)} {q:Option Addr} {n:Nat} (hs:Sat M w) (h:CRep 381 M vs (.pointer q)) (hn:n≤1000000000):
  Dz 262 #[.agg #[.pointer q], .int .i64 n] w (fun v w'=>∃ q,v = .agg #[.pointer q]∧Step Nope M w M w'∧CRep 381 M (vs.drop n) (.pointer q)):=by
 have hT:=hs.r
 have hzn:(0:Int)≤n:=Int.natCast_nonneg n
 refine Fe Tryz.func262 [.cell 4 343] rfl<|Ri fun Z=>?_
 have:=hT.size
 refine Bo hs rfl fun bl w1 hs1 hol el=>?_
 have:=hs1.size
 have:=hol.1.lt
 have hT:=hT.t hs1
 have:=hT.size
 refine Al (.agg #[(.pointer none)]) hs1.sat rfl fun br w2 hs2 hor er=>?_
 have:=hs2.size
 have:=hor.1.lt
 refine Nx Z<|cw_seq fun _ hK2=>cw_block ?_
 have hol:=hol.t hs2
 have hT:=hT.t hs2
 refine cw_loop (fun mm l w1=>∃ (i:Nat) (z:Int) (rest:List (Option Addr)) (p1:Option Addr),mm=rest.length∧z=n-i∧0≤z∧vs.drop i=rest∧CRep 381 M rest (.pointer p1)∧l=[(2, .pointer (some ⟨bl,0,none⟩)),(4, .pointer (some ⟨br,0,none⟩)),(1, .int .i64 z)]∧Step Nope M w M w1∧Own w1 M bl [.pointer p1] 343∧Own w1 M br [.pointer none] 343) (vs.length) [(2, .pointer (some ⟨bl,0,none⟩)),(4, .pointer (some ⟨br,0,none⟩)),(1, .int .i64 (n:Int))] (.cons rfl (.cons rfl (.cons rfl (.nil _)))) ?_ ?_
 ·exact ⟨0,n,vs,q,rfl,by simp,by omega,rfl,h,rfl,hT,hol,hor⟩
 have hblw:w.heap.size≤bl:=by omega
 have hbrw:w.heap.size≤br∧bl≠br:=by omega
 clear hT hol hor
 rintro mm l w1 ⟨i,z,rest,p1,rfl,hz,hz0,hdr,hc,rfl,hT,hol,hor⟩
 refine cw_seq fun _ hK3=>?_
 have hcs:(z=0)∨(0<z∧p1=none)∨(0<z∧∃ a,p1=some a):=by
  rcases p1 with _ | a
  ·rcases Int.lt_or_le 0 z with h | h
   ·exact .inr (.inl ⟨h,rfl⟩)
   ·left; omega
  ·rcases Int.lt_or_le 0 z with h | h
   ·exact .inr (.inr ⟨h,a,rfl⟩)
   ·left; omega
 rcases hcs with h0 | ⟨h0,rfl⟩ | ⟨h0,a,rfl⟩
 ·refine Ri fun Z=>Qm rfl<|Qq rfl (qGF rfl)<|Qm rfl<|as_gskip rfl rfl rfl rfl rfl<|as_gskip rfl rfl rfl rfl rfl<|as_gskip rfl rfl rfl rfl rfl<|Qq rfl (q_pick_f rfl rfl)<|Nx Z<|cw_false rfl<|cw_exit<|hK2 _ _<|Ri fun Z=>Qc 1 rfl (OD hol rfl)<|St hT.sat hor rfl fun w3 hs3 hor=>?_
  have:=hs3.size
  refine Nx Z<|cw_ret ?_
  have e:vs.drop n=rest:=by rw [← hdr]; congr 1; omega
  have hT:=hT.o hs3
  exact ⟨_,(Rc 1 rfl (OD hor rfl) res_nil),_,rfl,hT,by rw [e]; exact hc⟩
 ·refine Ri fun Z=>Qm rfl<|Qq rfl (qGT rfl)<|Qm rfl<|as_gh rfl rfl rfl rfl (h_q rfl (q_fieldAddr (off:=0) V rfl) ?_)
  refine as_gh rfl rfl rfl rfl (h_q rfl (q_load1 V rfl (OC hol rfl)) ?_)
  refine as_gh rfl rfl rfl rfl (h_q rfl (q_nenil V rfl) ?_)
  refine Qq rfl (q_pick_t rfl rfl)<|Nx Z<|cw_false rfl<|cw_exit<|hK2 _ _<|Ri fun Z=>Qc 1 rfl (OD hol rfl)<|St hT.sat hor rfl fun w4 hs4 hor=>?_
  have:=hs4.size
  refine Nx Z<|cw_ret ?_
  have hol:=hol.u hs4
  have hT:=hT.o hs4
  have e:vs.drop n=rest:=by
   have h2:rest=[]:=by
    rcases rest with _ | ⟨x,rest⟩
    ·rfl
    ·obtain ⟨_,_,h,_⟩:=hc; cases h
   subst h2
   refine List.drop_eq_nil_of_le ?_
   have:=List.drop_eq_nil_iff.1 hdr
   omega
  exact ⟨_,(Rc 1 rfl (OD hor rfl) res_nil),_,rfl,hT,by rw [e]; exact hc⟩
 ·refine Ri fun Z=>Qm rfl<|Qq rfl (qGT rfl)<|Qm rfl<|as_gh rfl rfl rfl rfl (h_q rfl (q_fieldAddr (off:=0) V rfl) ?_)
  refine as_gh rfl rfl rfl rfl (h_q rfl (q_load1 V rfl (OC hol rfl)) ?_)
  refine as_gh rfl rfl rfl rfl (h_q rfl (q_nenil V rfl) ?_)
  refine Qq rfl (q_pick_t rfl rfl)<|Nx Z<|cw_true rfl<|cw_skip<|hK3 _ _<|cw_seq fun _ hK9=>cw_block<|cw_region fun _ Z=>Qc 1 rfl (OD hol rfl)<|Ca rfl ?_
  rcases rest with _ | ⟨x,rest⟩
  ·have h:Value.pointer (some a) = .pointer none:=hc
   cases h
  refine (ch_rest hT.sat hc).mono ?_
  rintro _ w5 ⟨q,rfl,hs5,hc⟩
  have:=hs5.size
  have hol:=hol.t hs5
  refine St hs5.sat hol rfl fun w6 hs6 hol=>?_
  have:=hs6.size
  refine as_nil (Z _ _ ?_)
  refine hK9 _ _<|cw_region fun _ Z=>Qm rfl<|Qq rfl (qS rfl)<|Qa rfl<|as_nil (Z _ _ ?_)
  have hor:=hor.t hs5 |>.u hs6
  have hT:=hT.t hs5 |>.o hs6
  refine ⟨_,_,?_,(.cons rfl (.cons rfl (.cons rfl (.nil _)))),i+1,_,rest,q,rfl,by omega,by omega,by rw [← List.drop_drop,hdr]; rfl,hc,rfl,hT,hol,hor⟩
  simp
theorem ch_each1 {vs:List (Option Addr)} {bx:Nat} {p:Option Addr} (hb:M bx=some ([.pointer p],343)) (hc:CRep 381 M vs (.pointer p)):
  IterOk Tryz.prog 289 [.pointer (some ⟨bx,0,none⟩)] Nope (vs.map fun q=> .pointer q) M w:=by
 intro r J M0 W0 h0 _ _ hround hJ
 have hb:=h0.le _ _ hb
 refine Fe Tryz.func289 [] rfl<|Ri fun Z=>Qf 0 rfl<|Q1 rfl (BC h0 hb rfl)<|Na rfl Z<|cw_block ?_
 have hc:=hc.mono h0.le
 refine cw_loop (fun mm l w1=>∃ (i:Nat) (rest:List (Option Addr)) (p1:Option Addr) (M1:Mem mb),mm=rest.length∧vs.drop i=rest∧i+rest.length=vs.length∧CRep 381 M1 rest (.pointer p1)∧l=[(0, .func (.yield r) #[] #[]),(1, .pointer (some ⟨bx,0,none⟩)),(3, .pointer p1)]∧Le M0 M1∧Sat M1 w1∧J i M1 w1) (vs.length) [(0, .func (.yield r) #[] #[]),(1, .pointer (some ⟨bx,0,none⟩)),(3, .pointer p)] (.cons rfl (.cons rfl (.cons rfl (.nil _)))) ?_ ?_
 ·exact ⟨0,vs,p,M0,rfl,rfl,by omega,hc,rfl,Le.refl _,h0.sat,hJ⟩
 clear hc hJ
 rintro mm l w1 ⟨i,rest,p1,M1,rfl,hdr,hi,hc,rfl,hle,hst,hJ⟩
 refine cw_seq fun _ hK2=>Ri fun Z=>Qm rfl<|Qq rfl (q_nenil V rfl)<|Nx Z<|cw_cond rfl (fun hc0=>?_) (fun hc0=>?_)
 ·rcases rest with _ | ⟨x,rest⟩
  ·have h:Value.pointer p1 = .pointer none:=hc
   cases h; cases hc0
  obtain ⟨b,q,hpb,hb1,hc⟩:=hc
  cases hpb
  have hx:vs[i]? = some x:=by rw [← List.head?_drop,hdr]; rfl
  refine cw_skip<|hK2 _ _<|cw_seq fun _ hK4=>cw_block<|Ri fun Z=>Qm rfl<|Qm rfl<|Qq rfl (q_nilp rfl)<|Qf 0 rfl<|Q1 rfl (BlkR.cell (hst _ _ _ hb1) rfl)<|as_h rfl (h_yield rfl rfl ?_)
  obtain ⟨fn_,tm_,as_,bo_,hy1,hy2⟩:=hround i (.pointer x) M1 w1 (by show (vs.map _)[i]? = _; rw [List.getElem?_map,hx]; rfl) hJ hst hle
  refine ⟨fn_,tm_,as_,bo_,hy1,RoundIn.mono hy2 fun e w1 he=>?_⟩
  cases e <;> try exact (he:False).elim
  obtain ⟨rfl,M2,hs1,hJ2⟩:=he
  refine Qq rfl (q_not rfl)<|Nx Z<|cw_false rfl<|cw_skip<|hK4 _ _<|cw_region fun _ Z=>Qm rfl<|Qq rfl (q_nilp rfl)<|Qf 1 rfl ?_
  have hb1:=hs1.le _ _ hb1
  refine Q1 rfl (BC hs1 hb1 rfl)<|Qa rfl<|as_nil (Z _ _ ?_)
  have hc:=hc.mono hs1.le
  refine ⟨_,_,?_,(.cons rfl (.cons rfl (.cons rfl (.nil _)))),i+1,rest,q,_,rfl,by rw [← List.drop_drop,hdr]; rfl,by simp only [List.length_cons] at hi ⊢; omega,hc,rfl,hle.trans hs1.le,hs1.sat,hJ2⟩
  simp
 ·have hrn:rest=[]:=by
   rcases rest with _ | ⟨x,rest⟩
   ·rfl
   ·obtain ⟨b,q,h,_⟩:=hc
    cases h; cases hc0
  subst hrn
  refine cw_exit ?_
  have e:i=vs.length:=by simpa using hi
  exact ⟨_,res_nil,M1,hst,hle,by rw [List.length_map,← e]; exact hJ⟩
theorem ch_each {p:Option Addr} (hs:Sat M w):
  Dz 282 #[.agg #[.pointer p]] w (fun v w'=>∃ bx M',v = .func (.func 289) #[] #[.pointer (some ⟨bx,0,none⟩)]∧Step Nope M w M' w'∧M' bx=some ([.pointer p],343)):=by
 have hT:=hs.r
 refine Fe Tryz.func282 [.tmp 2] rfl<|Ri fun Z=>Bm hs rfl fun b1 M1 w1 hs1 hb1 e1=>Nar rfl Z fun Z=>Qq rfl (q_func rfl rfl)<|Na rfl Z<|cw_ret ?_
 have hT:=hT.t hs1
 exact ⟨_,Rt rfl,_,_,rfl,hT,hb1⟩
theorem ch_all {vs:List (Option Addr)} {p:Value} (hs:Sat M w) (h:CRep 381 M vs p) (hz:vs.length≤1000000000):
  Dz 266 #[.agg #[p]] w (fun v w'=>∃ M',Step Nope M w M' w'∧Buf w' M' 360 1 v vs.length (ptrs vs)∧∀ g,v.ownBlock=some g→w.heap.size≤g):=by
 have hT:=hs.r
 obtain ⟨p,rfl⟩:=h.ptr
 refine fn_enterM (K':=fun v w'=>∃ M',Step Nope M w M' w'∧Buf w' M' 360 1 v vs.length (ptrs vs)∧∀ g,v.ownBlock=some g→w.heap.size≤g) Tryz.func266 rfl (rs:=[.tmp 2]) rfl rfl rfl rfl ?_ (fun _ _ _ _ _ _ h=>resT rfl h) ?_
 ·refine cm_seq fun K0a hK0a=>cw_region fun K0b hK0b=>Bm hs rfl fun b1 M1 w1 hs1 hb1 e1=>?_
  have:=hs1.size
  refine Qa rfl<|as_nil (hK0b _ _ (hK0a _ _ ?_))
  clear hK0b hK0a K0b K0a
  refine cm_seq fun K1a hK1a=>cw_region fun K1b hK1b=>?_
  have hT:=hT.t hs1
  have:=hT.size
  refine Al (.slice none 0 0) hs1.sat rfl fun bo w2 hs2 hoo eo=>?_
  have:=hs2.size
  have:=hoo.1.lt
  refine as_nil (hK1b _ _ (hK1a _ _ ?_))
  clear hK1b hK1a K1b K1a
  refine cm_seqM<|cm_seq fun K2a hK2a=>cw_region fun K2b hK2b=>Qc 1 rfl (BD hs2 hb1 rfl)<|Ca rfl ((ch_each hs2.sat).mono ?_)
  rintro _ w3 ⟨bx,Mx,rfl,hs3,hbx⟩
  have:=hs3.size
  refine as_nil (hK2b _ _ (hK2a _ _ ?_))
  clear hK2b hK2a K2b K2a
  have hT:=hT.t hs2 |>.t hs3
  have hTs:=hT.size
  have hoo:=hoo.t hs3
  have hbo:=hoo.1.lt
  have hboo:w.heap.size≤bo:=by omega
  refine cm_block ?_
  have h:=h.mono hs1.le |>.mono hs3.le
  refine cm_rangeC (M:=Mx) (S:=Nope) (vs:=vs.map fun q=> .pointer q) (lb:=[.pointer (some ⟨bx,0,none⟩)]) (gf:=289) rfl rfl rfl V rfl hs3.sat hTs (ch_each1 hbx h) (fun _ h=>h.elim) (fun i M' W'=>∃ sv,Own W' M' bo [sv] 368∧Buf W' M' 360 1 sv i (ptrs (vs.take i))∧Step Nope M w M' W'∧∀ g,sv.ownBlock=some g→w.heap.size≤g∧g≠bo∧g≠w3.heap.size∧g≠w3.heap.size+1) (fun i v la M' W'=>la=[(3, .pointer (some ⟨bo,0,none⟩)),(4,v)]∧∃ sv,Own W' M' bo [sv] 368∧Buf W' M' 360 1 sv i (ptrs (vs.take i))∧Step Nope M w M' W'∧∀ g,sv.ownBlock=some g→w.heap.size≤g∧g≠bo∧g≠w3.heap.size∧g≠w3.heap.size+1) ?_ ?_ ?_ ?_ ?_ ?_
  ·rintro i M' W' M'' W'' ⟨sv,h1,h2,h3,h4⟩ k
   refine ⟨sv,h1.step k (by rintro (h | h | h); exact h; all_goals omega),h2.step k (fun g hg=>by rintro (h | h | h); exact h; exact (h4 g hg).2.2.1 h; exact (h4 g hg).2.2.2 h),h3.trans k (fun b hb=>by rintro (h | h | h); exact h; all_goals omega),h4⟩
  ·exact ⟨_,hoo,by rw [List.take_zero]; exact Buf.nil _ _ _ _,hT,fun g hg=>by cases hg⟩
  ·rintro i v la M' W' M'' W'' ⟨rfl,sv,h1,h2,h3,h4⟩ k
   refine ⟨rfl,?_⟩
   refine ⟨sv,h1.step k (by rintro (h | h | h); exact h; all_goals omega),h2.step k (fun g hg=>by rintro (h | h | h); exact h; exact (h4 g hg).2.2.1 h; exact (h4 g hg).2.2.2 h),h3.trans k (fun b hb=>by rintro (h | h | h); exact h; all_goals omega),h4⟩
  ·rintro i v r M' W' hv ⟨sv,h1,h2,h3,h4⟩ hs' hle hlt
   refine cw_region fun _ Z=>Qa rfl<|as_nil (Z _ _ ⟨_,M', .cons rfl (.cons rfl (.nil _)),Step.refl _ hs',rfl,sv,h1,h2,h3,h4⟩)
  ·rintro i v la r M' W' hv ⟨rfl,sv,h1,h2,h3,h4⟩ hs' hle hlt
   obtain ⟨x,hx,hxv⟩:∃ x,vs[i]? = some x∧ .pointer x=v:=by
    rw [List.getElem?_map] at hv
    exact Option.map_eq_some_iff.1 hv
   have h1l:=h1.1.lt
   have h2l:=h2.lt
   have hin:i<vs.length:=(List.getElem?_eq_some_iff.1 hx).1
   subst hxv
   refine cw_block (cw_region fun K4 hK4=>?_)
   refine Q1 rfl (OC h1 rfl)<|Qm rfl<|as_h rfl (h_buildO (e:=360) (size:=1) (zs:=[.pointer none]) (cs:=[_]) V V V rfl hs' rfl rfl fun b4 w4 hs4 ho4 e4=>?_)
   have hsB:=hs4
   have:=hs4.size
   have hrx:=Buf.rd (Own.buf ho4 (n:=1) (size:=1) rfl (by decide))
   have h2b:=h2.then hsB
   refine as_h rfl (h_append (e:=360) (size:=1) (bytes:=8) V hs4.sat h2b hrx rfl rfl (fun y hy=>by obtain rfl:=List.mem_singleton.1 hy; rfl) O rfl fun sv2 w5 hs5 h2c hor=>?_)
   have hsv:∃ a k c,sv2 = .slice a k c:=by obtain ⟨a,c,h,_⟩:=h2c.slice; exact ⟨a,_,c,h⟩
   obtain ⟨sa,sk,sc,rfl⟩:=hsv
   have h1:=h1.t hs4 |>.step hs5 (fun h=>(h4 _ h).2.1 rfl)
   refine St hs5.sat h1 rfl fun w6 hs6 h1n=>?_
   have:=hs4.size
   have:=hs5.size
   have hownf:∀ g,(Value.slice sa sk sc).ownBlock=some g→w.heap.size≤g∧g≠bo∧g≠w3.heap.size∧g≠w3.heap.size+1:=fun g hg=>by
    rcases hor with h | h
    ·rw [h] at hg; exact h4 g hg
    ·rw [h] at hg; have hg:=Option.some.inj hg; omega
   have k1:Step (fun k=>¬ Nope k∧k≠w3.heap.size∧k≠w3.heap.size+1) M' w4 M' w5:=hs5.wide fun k _ h=>⟨id,(h4 k h).2.2.1,(h4 k h).2.2.2⟩
   have k2:Step (fun k=>¬ Nope k∧k≠w3.heap.size∧k≠w3.heap.size+1) M' w5 M' w6:=hs6.wide fun k _ h=>by have h:k=bo:=h; exact ⟨id,by omega,by omega⟩
   refine as_nil (hK4 _ _ ⟨M',((hs4.any _).also k1).also k2,_,h1n,?_,?_,hownf⟩)
   ·have h5:=h2c.step hs6 (fun g hg h=>(hownf g hg).2.1 h)
    rw [ptrs_take hx] at h5
    exact h5
   ·exact ((h3.also hs4).trans hs5 (fun k hk h=>by have:=(h4 k h).1; omega)).trans hs6 (fun k hk h=>by have h:k=bo:=h; omega)
  ·rintro M' W' hs' hle ⟨sv,h1,h2,h3,h4⟩ D hD hDd
   refine Ri fun Z=>Q1 rfl (OC h1 rfl)<|Na rfl Z<|cw_ret ⟨hDd,_,res_tmp rfl res_nil,M',h3,?_,fun g hg=>(h4 g hg).1⟩
   rw [List.length_map] at h2
   rw [List.take_length] at h2
   exact h2
 ·rintro v w' D hB hD ⟨M',h1,h2,h3⟩
  have k:=Step.putObj h1.sat hD (by simp) (.deferred none)
  refine ⟨M',h1.trans k (fun b hb h=>by have h:b=D:=h; omega),h2.step k (fun g hg h=>?_),h3⟩
  have h:g=D:=h
  subst h
  obtain ⟨⟨_,hh⟩,_⟩:=h2
  rcases hh with ⟨rfl,_⟩ | ⟨g2,cap,cur,rfl,_,hh,_⟩
  ·cases hg
  ·cases hg; rw [hD] at hh; cases hh
end Go.Proofs.YtnnldppehojffaaGreat
/- Lists of trees of elements, part 1. -/
namespace Go.Proofs.YtnnldppehojffaaGreat
open Go Go.Eng
variable {mb:Option Nat} {w:World} {M:Mem mb}
theorem ce_len_n (hs:Sat M w):
  Dz 151 #[.agg #[.pointer none]] w (fun v w'=>v = .int .i64 0∧Step Nope M w M w'):=by
 have hT:=hs.r
 refine Fe Tryz.func151 [.tmp 2] rfl<|Ri fun Z=>Bm hs rfl fun b1 M1 w1 hs1 hb1 e1=>Na rfl Z<|cw_seq fun _ hK2=>Ri fun Z=>Qf 0 rfl<|Q1 rfl (BC hs1 hb1 rfl)<|Qq rfl (qn rfl)<|Nx Z<|cw_true rfl<|Ri fun Z=>Na rfl Z<|cw_ret ?_
 have hT:=hT.t hs1
 exact ⟨_,Rt rfl,rfl,hT.forget⟩
theorem ce_len_c {x:Option Addr} {r:List (Option Addr)} {p:Value} (hs:Sat M w) (h:CRep 266 M (x::r) p):
  Dz 151 #[.agg #[p]] w (fun v w'=>v = .int .i64 ((r.length:Int)+1)∧Step Nope M w M w'):=by
 have hT:=hs.r
 obtain ⟨b,q,rfl,hb,hc⟩:=h
 refine Fe Tryz.func151 [.tmp 2] rfl<|Ri fun Z=>Bm hs rfl fun b1 M1 w1 hs1 hb1 e1=>Na rfl Z<|cw_seq fun _ hK2=>Ri fun Z=>Qf 0 rfl<|Q1 rfl (BC hs1 hb1 rfl)<|Qq rfl (qn rfl)<|Nx Z<|cw_false rfl<|cw_skip<|hK2 _ _<|Ri fun Z=>Qf 0 rfl<|Q1 rfl (BC hs1 hb1 rfl)<|Qq rfl (q_nilp rfl)<|Qf 2 rfl ?_
 have hb:=hs1.le _ _ hb
 refine Q1 rfl (BC hs1 hb rfl)<|Na rfl Z<|cw_ret ?_
 have hT:=hT.t hs1
 exact ⟨_,Rt rfl,rfl,hT.forget⟩
theorem ce_len {vs:List (Option Addr)} {p:Value} (hs:Sat M w) (h:CRep 266 M vs p):Dz 151 #[.agg #[p]] w (fun v w'=>v = .int .i64 (vs.length:Nat)∧Step Nope M w M w'):=by
 cases vs with
 | nil=>cases h; exact ce_len_n hs
 | cons x r=>exact (ce_len_c hs h).mono fun v w' ⟨h1,h2⟩=>⟨by rw [h1]; simp,h2⟩
theorem ce_first_n (hs:Sat M w):
  Dz 169 #[.agg #[.pointer none]] w (fun v w'=>v = .tuple #[.pointer none, .bool false]∧Step Nope M w M w'):=by
 have hT:=hs.r
 refine Fe Tryz.func169 [.tmp 2, .tmp 3] rfl<|Ri fun Z=>Bm hs rfl fun b1 M1 w1 hs1 hb1 e1=>Qa rfl<|Na rfl Z<|cw_seq fun _ hK2=>Ri fun Z=>Qf 0 rfl<|Q1 rfl (BC hs1 hb1 rfl)<|Qq rfl (qn rfl)<|Nx Z<|cw_true rfl<|Ri fun Z=>Nar rfl Z fun Z=>Qm rfl<|Qa rfl<|Na rfl Z<|cw_ret ?_
 have hT:=hT.t hs1
 exact ⟨_,(res_tmp rfl (Rt rfl)),rfl,hT.forget⟩
theorem ce_first {x:Option Addr} {r:List (Option Addr)} {p:Value} (hs:Sat M w) (h:CRep 266 M (x::r) p):
  Dz 169 #[.agg #[p]] w (fun v w'=>v = .tuple #[.pointer x, .bool true]∧Step Nope M w M w'):=by
 have hT:=hs.r
 obtain ⟨b,q,rfl,hb,hc⟩:=h
 refine Fe Tryz.func169 [.tmp 2, .tmp 3] rfl<|Ri fun Z=>Bm hs rfl fun b1 M1 w1 hs1 hb1 e1=>Qa rfl<|Na rfl Z<|cw_seq fun _ hK2=>Ri fun Z=>Qf 0 rfl<|Q1 rfl (BC hs1 hb1 rfl)<|Qq rfl (qn rfl)<|Nx Z<|cw_false rfl<|cw_skip<|hK2 _ _<|Ri fun Z=>Qf 0 rfl<|Q1 rfl (BC hs1 hb1 rfl)<|Qq rfl (q_nilp rfl)<|Qf 0 rfl ?_
 have hb:=hs1.le _ _ hb
 refine Q1 rfl (BC hs1 hb rfl)<|Qa rfl<|Na rfl Z<|cw_ret ?_
 have hT:=hT.t hs1
 exact ⟨_,(res_tmp rfl (Rt rfl)),rfl,hT.forget⟩
theorem ce_rest_n (hs:Sat M w):
  Dz 172 #[.agg #[.pointer none]] w (fun v w'=>v = .agg #[.pointer none]∧Step Nope M w M w'):=by
 have hT:=hs.r
 refine Fe Tryz.func172 [.cell 2 151] rfl<|Ri fun Z=>Bm hs rfl fun b1 M1 w1 hs1 hb1 e1=>?_
 have:=hs1.size
 have hT:=hT.t hs1
 have:=hT.size
 refine Al (.agg #[(.pointer none)]) hs1.sat rfl fun br w2 hs2 hor er=>?_
 have:=hs2.size
 have:=hor.1.lt
 refine Nx Z<|cw_seq fun _ hK2=>Ri fun Z=>Qf 0 rfl<|Q1 rfl (BC hs2 hb1 rfl)<|Qq rfl (qn rfl)<|Nx Z<|cw_true rfl<|Ri fun Z=>Qc 1 rfl (BD hs2 hb1 rfl)<|St hs2.sat hor rfl fun w3 hs3 hor=>?_
 have:=hs3.size
 refine Nx Z<|cw_ret ?_
 have hT:=hT.t hs2 |>.o hs3
 exact ⟨_,(Rc 1 rfl (OD hor rfl) res_nil),rfl,hT.forget⟩
theorem ce_rest {x:Option Addr} {r:List (Option Addr)} {p:Value} (hs:Sat M w) (h:CRep 266 M (x::r) p):
  Dz 172 #[.agg #[p]] w (fun v w'=>∃ q,v = .agg #[.pointer q]∧Step Nope M w M w'∧CRep 266 M r (.pointer q)):=by
 have hT:=hs.r
 obtain ⟨b,q,rfl,hb,hc⟩:=h
 have hc0:=hc
 refine Fe Tryz.func172 [.cell 2 151] rfl<|Ri fun Z=>Bm hs rfl fun b1 M1 w1 hs1 hb1 e1=>?_
 have:=hs1.size
 have hT:=hT.t hs1
 have:=hT.size
 refine Al (.agg #[(.pointer none)]) hs1.sat rfl fun br w2 hs2 hor er=>?_
 have:=hs2.size
 have:=hor.1.lt
 refine Nx Z<|cw_seq fun _ hK2=>Ri fun Z=>Qf 0 rfl<|Q1 rfl (BC hs2 hb1 rfl)<|Qq rfl (qn rfl)<|Nx Z<|cw_false rfl<|cw_skip<|hK2 _ _<|Ri fun Z=>Qf 0 rfl<|Q1 rfl (BC hs2 hb1 rfl)<|Qq rfl (q_nilp rfl)<|Qf 1 rfl ?_
 have hb:=hs1.le _ _ hb
 refine Q1 rfl (BC hs2 hb rfl)<|Qq rfl (q_build (zs:=[(.pointer none)]) (places:=[(0,1)]) (cs:=[_]) V V rfl rfl)<|St hs2.sat hor rfl fun w3 hs3 hor=>?_
 have:=hs3.size
 refine Nx Z<|cw_ret ?_
 have hT:=hT.t hs2 |>.o hs3
 exact ⟨_,(Rc 1 rfl (OD hor rfl) res_nil),q,rfl,hT.forget,hc0⟩
theorem ce_push {x:Option Addr} {vs:List (Option Addr)} {p:Value} (hs:Sat M w) (h:CRep 266 M vs p) (hz:vs.length≤1000000000):
  Dz 173 #[.agg #[p], .pointer x] w (fun v w'=>∃ q M',v = .agg #[.pointer q]∧Step Nope M w M' w'∧CRep 266 M' (x::vs) (.pointer q)):=by
 have hT:=hs.r
 obtain ⟨q,rfl⟩:=h.ptr
 refine Fe Tryz.func173 [.cell 4 151] rfl<|Ri fun Z=>Bm hs rfl fun b1 M1 w1 hs1 hb1 e1=>?_
 have:=hs1.size
 have hT:=hT.t hs1
 have:=hT.size
 refine Al (.agg #[(.pointer none)]) hs1.sat rfl fun br w2 hs2 hor er=>?_
 have:=hs2.size
 have:=hor.1.lt
 refine Nx Z<|Rv fun Z=>?_
 have hs3:=Step.drew hs2.sat
 have:=hs3.size
 refine Gm 0 1 rfl<|Gf 1 3 0 rfl<|G1 2 7 rfl (BC hs3 hb1 rfl)<|Gc 3 15 1 rfl (BD hs3 hb1 rfl)<|Gh 4 31 rfl (Ks [T,F]) (h_call V rfl ?_)
 have h:=h.mono hs1.le
 refine (ce_len hs3.sat h).mono ?_
 rintro _ w4 ⟨rfl,hs4⟩
 have:=hs4.size
 have hT:=hT.t hs2 |>.t hs3 |>.t hs4
 have hor:=hor.t hs3 |>.t hs4
 refine ⟨(by repeat' first | exact trivial | exact BC hs4 hb1 rfl | refine And.intro ?_ ?_),?_⟩
 refine Gq 5 63 rfl (fun _=>qA rfl)<|Gq 6 127 rfl (fun _=>(q_build (zs:=[(.pointer none),(.pointer none),(.int .i64 0)]) (places:=[(0,1),(1,1),(2,1)]) (cs:=[_,_,_]) V V rfl rfl))<|Gh 7 255 rfl (Ks [F]) (h_boxM hs4.sat rfl rfl fun b5 M5 w5 hs5 hb5 e5=>?_)
 have:=hs5.size
 have h:=h.mono hs5.le
 have hb1:=hs5.le _ _ hb1
 have hor:=hor.t hs5
 have hT:=hT.t hs5
 refine ⟨(by repeat' first | exact trivial | exact BC hs5 hb1 rfl | refine And.intro ?_ ?_),?_⟩
 refine Gq 8 511 rfl (fun _=>(q_build (zs:=[(.pointer none)]) (places:=[(0,1)]) (cs:=[_]) V V rfl rfl))<|G0 9 1023 rfl (Ks [T]) (h_store hs5.sat hor rfl rfl rfl V rfl rfl rfl fun w6 hs6 hn6=>?_)
 clear hor; have hor:=hn6; clear hn6
 have:=hs6.size
 refine ⟨trivial,?_⟩
 refine Dx Z<|cw_ret ?_
 have hT:=hT.o hs6
 exact ⟨_,(Rc 1 rfl (OD hor rfl) res_nil),_,_,rfl,hT,_,_,rfl,hb5,h⟩
theorem ce_drop {vs:List (Option Addr)} {q:Option Addr} {n:Nat} (hs:Sat M w) (h:CRep 266 M vs (.pointer q)) (hn:n≤1000000000):
  Dz 217 #[.agg #[.pointer q], .int .i64 n] w (fun v w'=>∃ q,v = .agg #[.pointer q]∧Step Nope M w M w'∧CRep 266 M (vs.drop n) (.pointer q)):=by
 have hT:=hs.r
 have hzn:(0:Int)≤n:=Int.natCast_nonneg n
 refine Fe Tryz.func217 [.cell 4 151] rfl<|Ri fun Z=>?_
 have:=hT.size
 refine Bo hs rfl fun bl w1 hs1 hol el=>?_
 have:=hs1.size
 have:=hol.1.lt
 have hT:=hT.t hs1
 have:=hT.size
 refine Al (.agg #[(.pointer none)]) hs1.sat rfl fun br w2 hs2 hor er=>?_
 have:=hs2.size
 have:=hor.1.lt
 refine Nx Z<|cw_seq fun _ hK2=>cw_block ?_
 have hol:=hol.t hs2
 have hT:=hT.t hs2
 refine cw_loop (fun mm l w1=>∃ (i:Nat) (z:Int) (rest:List (Option Addr)) (p1:Option Addr),mm=rest.length∧z=n-i∧0≤z∧vs.drop i=rest∧CRep 266 M rest (.pointer p1)∧l=[(2, .pointer (some ⟨bl,0,none⟩)),(4, .pointer (some ⟨br,0,none⟩)),(1, .int .i64 z)]∧Step Nope M w M w1∧Own w1 M bl [.pointer p1] 151∧Own w1 M br [.pointer none] 151) (vs.length) [(2, .pointer (some ⟨bl,0,none⟩)),(4, .pointer (some ⟨br,0,none⟩)),(1, .int .i64 (n:Int))] (.cons rfl (.cons rfl (.cons rfl (.nil _)))) ?_ ?_
 ·exact ⟨0,n,vs,q,rfl,by simp,by omega,rfl,h,rfl,hT,hol,hor⟩
 have hblw:w.heap.size≤bl:=by omega
 have hbrw:w.heap.size≤br∧bl≠br:=by omega
 clear hT hol hor
 rintro mm l w1 ⟨i,z,rest,p1,rfl,hz,hz0,hdr,hc,rfl,hT,hol,hor⟩
 refine cw_seq fun _ hK3=>?_
 have hcs:(z=0)∨(0<z∧p1=none)∨(0<z∧∃ a,p1=some a):=by
  rcases p1 with _ | a
  ·rcases Int.lt_or_le 0 z with h | h
   ·exact .inr (.inl ⟨h,rfl⟩)
   ·left; omega
  ·rcases Int.lt_or_le 0 z with h | h
   ·exact .inr (.inr ⟨h,a,rfl⟩)
   ·left; omega
 rcases hcs with h0 | ⟨h0,rfl⟩ | ⟨h0,a,rfl⟩
 ·refine Ri fun Z=>Qm rfl<|Qq rfl (qGF rfl)<|Qm rfl<|as_gskip rfl rfl rfl rfl rfl<|as_gskip rfl rfl rfl rfl rfl<|as_gskip rfl rfl rfl rfl rfl<|Qq rfl (q_pick_f rfl rfl)<|Nx Z<|cw_false rfl<|cw_exit<|hK2 _ _<|Ri fun Z=>Qc 1 rfl (OD hol rfl)<|St hT.sat hor rfl fun w3 hs3 hor=>?_
  have:=hs3.size
  refine Nx Z<|cw_ret ?_
  have e:vs.drop n=rest:=by rw [← hdr]; congr 1; omega
  have hT:=hT.o hs3
  exact ⟨_,(Rc 1 rfl (OD hor rfl) res_nil),_,rfl,hT,by rw [e]; exact hc⟩
 ·refine Ri fun Z=>Qm rfl<|Qq rfl (qGT rfl)<|Qm rfl<|as_gh rfl rfl rfl rfl (h_q rfl (q_fieldAddr (off:=0) V rfl) ?_)
  refine as_gh rfl rfl rfl rfl (h_q rfl (q_load1 V rfl (OC hol rfl)) ?_)
  refine as_gh rfl rfl rfl rfl (h_q rfl (q_nenil V rfl) ?_)
  refine Qq rfl (q_pick_t rfl rfl)<|Nx Z<|cw_false rfl<|cw_exit<|hK2 _ _<|Ri fun Z=>Qc 1 rfl (OD hol rfl)<|St hT.sat hor rfl fun w4 hs4 hor=>?_
  have:=hs4.size
  refine Nx Z<|cw_ret ?_
  have hol:=hol.u hs4
  have hT:=hT.o hs4
  have e:vs.drop n=rest:=by
   have h2:rest=[]:=by
    rcases rest with _ | ⟨x,rest⟩
    ·rfl
    ·obtain ⟨_,_,h,_⟩:=hc; cases h
   subst h2
   refine List.drop_eq_nil_of_le ?_
   have:=List.drop_eq_nil_iff.1 hdr
   omega
  exact ⟨_,(Rc 1 rfl (OD hor rfl) res_nil),_,rfl,hT,by rw [e]; exact hc⟩
 ·refine Ri fun Z=>Qm rfl<|Qq rfl (qGT rfl)<|Qm rfl<|as_gh rfl rfl rfl rfl (h_q rfl (q_fieldAddr (off:=0) V rfl) ?_)
  refine as_gh rfl rfl rfl rfl (h_q rfl (q_load1 V rfl (OC hol rfl)) ?_)
  refine as_gh rfl rfl rfl rfl (h_q rfl (q_nenil V rfl) ?_)
  refine Qq rfl (q_pick_t rfl rfl)<|Nx Z<|cw_true rfl<|cw_skip<|hK3 _ _<|cw_seq fun _ hK9=>cw_block<|cw_region fun _ Z=>Qc 1 rfl (OD hol rfl)<|Ca rfl ?_
  rcases rest with _ | ⟨x,rest⟩
  ·have h:Value.pointer (some a) = .pointer none:=hc
   cases h
  refine (ce_rest hT.sat hc).mono ?_
  rintro _ w5 ⟨q,rfl,hs5,hc⟩
  have:=hs5.size
  have hol:=hol.t hs5
  refine St hs5.sat hol rfl fun w6 hs6 hol=>?_
  have:=hs6.size
  refine as_nil (Z _ _ ?_)
  refine hK9 _ _<|cw_region fun _ Z=>Qm rfl<|Qq rfl (qS rfl)<|Qa rfl<|as_nil (Z _ _ ?_)
  have hor:=hor.t hs5 |>.u hs6
  have hT:=hT.t hs5 |>.o hs6
  refine ⟨_,_,?_,(.cons rfl (.cons rfl (.cons rfl (.nil _)))),i+1,_,rest,q,rfl,by omega,by omega,by rw [← List.drop_drop,hdr]; rfl,hc,rfl,hT,hol,hor⟩
  simp
theorem ce_each1 {vs:List (Option Addr)} {bx:Nat} {p:Option Addr} (hb:M bx=some ([.pointer p],151)) (hc:CRep 266 M vs (.pointer p)):
  IterOk Tryz.prog 180 [.pointer (some ⟨bx,0,none⟩)] Nope (vs.map fun q=> .pointer q) M w:=by
 intro r J M0 W0 h0 _ _ hround hJ
 have hb:=h0.le _ _ hb
 refine Fe Tryz.func180 [] rfl<|Ri fun Z=>Qf 0 rfl<|Q1 rfl (BC h0 hb rfl)<|Na rfl Z<|cw_block ?_
 have hc:=hc.mono h0.le
 refine cw_loop (fun mm l w1=>∃ (i:Nat) (rest:List (Option Addr)) (p1:Option Addr) (M1:Mem mb),mm=rest.length∧vs.drop i=rest∧i+rest.length=vs.length∧CRep 266 M1 rest (.pointer p1)∧l=[(0, .func (.yield r) #[] #[]),(1, .pointer (some ⟨bx,0,none⟩)),(3, .pointer p1)]∧Le M0 M1∧Sat M1 w1∧J i M1 w1) (vs.length) [(0, .func (.yield r) #[] #[]),(1, .pointer (some ⟨bx,0,none⟩)),(3, .pointer p)] (.cons rfl (.cons rfl (.cons rfl (.nil _)))) ?_ ?_
 ·exact ⟨0,vs,p,M0,rfl,rfl,by omega,hc,rfl,Le.refl _,h0.sat,hJ⟩
 clear hc hJ
 rintro mm l w1 ⟨i,rest,p1,M1,rfl,hdr,hi,hc,rfl,hle,hst,hJ⟩
 refine cw_seq fun _ hK2=>Ri fun Z=>Qm rfl<|Qq rfl (q_nenil V rfl)<|Nx Z<|cw_cond rfl (fun hc0=>?_) (fun hc0=>?_)
 ·rcases rest with _ | ⟨x,rest⟩
  ·have h:Value.pointer p1 = .pointer none:=hc
   cases h; cases hc0
  obtain ⟨b,q,hpb,hb1,hc⟩:=hc
  cases hpb
  have hx:vs[i]? = some x:=by rw [← List.head?_drop,hdr]; rfl
  refine cw_skip<|hK2 _ _<|cw_seq fun _ hK4=>cw_block<|Ri fun Z=>Qm rfl<|Qm rfl<|Qq rfl (q_nilp rfl)<|Qf 0 rfl<|Q1 rfl (BlkR.cell (hst _ _ _ hb1) rfl)<|as_h rfl (h_yield rfl rfl ?_)
  obtain ⟨fn_,tm_,as_,bo_,hy1,hy2⟩:=hround i (.pointer x) M1 w1 (by show (vs.map _)[i]? = _; rw [List.getElem?_map,hx]; rfl) hJ hst hle
  refine ⟨fn_,tm_,as_,bo_,hy1,RoundIn.mono hy2 fun e w1 he=>?_⟩
  cases e <;> try exact (he:False).elim
  obtain ⟨rfl,M2,hs1,hJ2⟩:=he
  refine Qq rfl (q_not rfl)<|Nx Z<|cw_false rfl<|cw_skip<|hK4 _ _<|cw_region fun _ Z=>Qm rfl<|Qq rfl (q_nilp rfl)<|Qf 1 rfl ?_
  have hb1:=hs1.le _ _ hb1
  refine Q1 rfl (BC hs1 hb1 rfl)<|Qa rfl<|as_nil (Z _ _ ?_)
  have hc:=hc.mono hs1.le
  refine ⟨_,_,?_,(.cons rfl (.cons rfl (.cons rfl (.nil _)))),i+1,rest,q,_,rfl,by rw [← List.drop_drop,hdr]; rfl,by simp only [List.length_cons] at hi ⊢; omega,hc,rfl,hle.trans hs1.le,hs1.sat,hJ2⟩
  simp
 ·have hrn:rest=[]:=by
   rcases rest with _ | ⟨x,rest⟩
   ·rfl
   ·obtain ⟨b,q,h,_⟩:=hc
    cases h; cases hc0
  subst hrn
  refine cw_exit ?_
  have e:i=vs.length:=by simpa using hi
  exact ⟨_,res_nil,M1,hst,hle,by rw [List.length_map,← e]; exact hJ⟩
theorem ce_each {p:Option Addr} (hs:Sat M w):
  Dz 175 #[.agg #[.pointer p]] w (fun v w'=>∃ bx M',v = .func (.func 180) #[] #[.pointer (some ⟨bx,0,none⟩)]∧Step Nope M w M' w'∧M' bx=some ([.pointer p],151)):=by
 have hT:=hs.r
 refine Fe Tryz.func175 [.tmp 2] rfl<|Ri fun Z=>Bm hs rfl fun b1 M1 w1 hs1 hb1 e1=>Nar rfl Z fun Z=>Qq rfl (q_func rfl rfl)<|Na rfl Z<|cw_ret ?_
 have hT:=hT.t hs1
 exact ⟨_,Rt rfl,_,_,rfl,hT,hb1⟩
theorem ce_all {vs:List (Option Addr)} {p:Value} (hs:Sat M w) (h:CRep 266 M vs p) (hz:vs.length≤1000000000):
  Dz 161 #[.agg #[p]] w (fun v w'=>∃ M',Step Nope M w M' w'∧Buf w' M' 264 1 v vs.length (ptrs vs)∧∀ g,v.ownBlock=some g→w.heap.size≤g):=by
 have hT:=hs.r
 obtain ⟨p,rfl⟩:=h.ptr
 refine fn_enterM (K':=fun v w'=>∃ M',Step Nope M w M' w'∧Buf w' M' 264 1 v vs.length (ptrs vs)∧∀ g,v.ownBlock=some g→w.heap.size≤g) Tryz.func161 rfl (rs:=[.tmp 2]) rfl rfl rfl rfl ?_ (fun _ _ _ _ _ _ h=>resT rfl h) ?_
 ·refine cm_seq fun K0a hK0a=>cw_region fun K0b hK0b=>Bm hs rfl fun b1 M1 w1 hs1 hb1 e1=>?_
  have:=hs1.size
  refine Qa rfl<|as_nil (hK0b _ _ (hK0a _ _ ?_))
  clear hK0b hK0a K0b K0a
  refine cm_seq fun K1a hK1a=>cw_region fun K1b hK1b=>?_
  have hT:=hT.t hs1
  have:=hT.size
  refine Al (.slice none 0 0) hs1.sat rfl fun bo w2 hs2 hoo eo=>?_
  have:=hs2.size
  have:=hoo.1.lt
  refine as_nil (hK1b _ _ (hK1a _ _ ?_))
  clear hK1b hK1a K1b K1a
  refine cm_seqM<|cm_seq fun K2a hK2a=>cw_region fun K2b hK2b=>Qc 1 rfl (BD hs2 hb1 rfl)<|Ca rfl ((ce_each hs2.sat).mono ?_)
  rintro _ w3 ⟨bx,Mx,rfl,hs3,hbx⟩
  have:=hs3.size
  refine as_nil (hK2b _ _ (hK2a _ _ ?_))
  clear hK2b hK2a K2b K2a
  have hT:=hT.t hs2 |>.t hs3
  have hTs:=hT.size
  have hoo:=hoo.t hs3
  have hbo:=hoo.1.lt
  have hboo:w.heap.size≤bo:=by omega
  refine cm_block ?_
  have h:=h.mono hs1.le |>.mono hs3.le
  refine cm_rangeC (M:=Mx) (S:=Nope) (vs:=vs.map fun q=> .pointer q) (lb:=[.pointer (some ⟨bx,0,none⟩)]) (gf:=180) rfl rfl rfl V rfl hs3.sat hTs (ce_each1 hbx h) (fun _ h=>h.elim) (fun i M' W'=>∃ sv,Own W' M' bo [sv] 273∧Buf W' M' 264 1 sv i (ptrs (vs.take i))∧Step Nope M w M' W'∧∀ g,sv.ownBlock=some g→w.heap.size≤g∧g≠bo∧g≠w3.heap.size∧g≠w3.heap.size+1) (fun i v la M' W'=>la=[(3, .pointer (some ⟨bo,0,none⟩)),(4,v)]∧∃ sv,Own W' M' bo [sv] 273∧Buf W' M' 264 1 sv i (ptrs (vs.take i))∧Step Nope M w M' W'∧∀ g,sv.ownBlock=some g→w.heap.size≤g∧g≠bo∧g≠w3.heap.size∧g≠w3.heap.size+1) ?_ ?_ ?_ ?_ ?_ ?_
  ·rintro i M' W' M'' W'' ⟨sv,h1,h2,h3,h4⟩ k
   refine ⟨sv,h1.step k (by rintro (h | h | h); exact h; all_goals omega),h2.step k (fun g hg=>by rintro (h | h | h); exact h; exact (h4 g hg).2.2.1 h; exact (h4 g hg).2.2.2 h),h3.trans k (fun b hb=>by rintro (h | h | h); exact h; all_goals omega),h4⟩
  ·exact ⟨_,hoo,by rw [List.take_zero]; exact Buf.nil _ _ _ _,hT,fun g hg=>by cases hg⟩
  ·rintro i v la M' W' M'' W'' ⟨rfl,sv,h1,h2,h3,h4⟩ k
   refine ⟨rfl,?_⟩
   refine ⟨sv,h1.step k (by rintro (h | h | h); exact h; all_goals omega),h2.step k (fun g hg=>by rintro (h | h | h); exact h; exact (h4 g hg).2.2.1 h; exact (h4 g hg).2.2.2 h),h3.trans k (fun b hb=>by rintro (h | h | h); exact h; all_goals omega),h4⟩
  ·rintro i v r M' W' hv ⟨sv,h1,h2,h3,h4⟩ hs' hle hlt
   refine cw_region fun _ Z=>Qa rfl<|as_nil (Z _ _ ⟨_,M', .cons rfl (.cons rfl (.nil _)),Step.refl _ hs',rfl,sv,h1,h2,h3,h4⟩)
  ·rintro i v la r M' W' hv ⟨rfl,sv,h1,h2,h3,h4⟩ hs' hle hlt
   obtain ⟨x,hx,hxv⟩:∃ x,vs[i]? = some x∧ .pointer x=v:=by
    rw [List.getElem?_map] at hv
    exact Option.map_eq_some_iff.1 hv
   have h1l:=h1.1.lt
   have h2l:=h2.lt
   have hin:i<vs.length:=(List.getElem?_eq_some_iff.1 hx).1
   subst hxv
   refine cw_block (cw_region fun K4 hK4=>?_)
   refine Q1 rfl (OC h1 rfl)<|Qm rfl<|as_h rfl (h_buildO (e:=264) (size:=1) (zs:=[.pointer none]) (cs:=[_]) V V V rfl hs' rfl rfl fun b4 w4 hs4 ho4 e4=>?_)
   have hsB:=hs4
   have:=hs4.size
   have hrx:=Buf.rd (Own.buf ho4 (n:=1) (size:=1) rfl (by decide))
   have h2b:=h2.then hsB
   refine as_h rfl (h_append (e:=264) (size:=1) (bytes:=8) V hs4.sat h2b hrx rfl rfl (fun y hy=>by obtain rfl:=List.mem_singleton.1 hy; rfl) O rfl fun sv2 w5 hs5 h2c hor=>?_)
   have hsv:∃ a k c,sv2 = .slice a k c:=by obtain ⟨a,c,h,_⟩:=h2c.slice; exact ⟨a,_,c,h⟩
   obtain ⟨sa,sk,sc,rfl⟩:=hsv
   have h1:=h1.t hs4 |>.step hs5 (fun h=>(h4 _ h).2.1 rfl)
   refine St hs5.sat h1 rfl fun w6 hs6 h1n=>?_
   have:=hs4.size
   have:=hs5.size
   have hownf:∀ g,(Value.slice sa sk sc).ownBlock=some g→w.heap.size≤g∧g≠bo∧g≠w3.heap.size∧g≠w3.heap.size+1:=fun g hg=>by
    rcases hor with h | h
    ·rw [h] at hg; exact h4 g hg
    ·rw [h] at hg; have hg:=Option.some.inj hg; omega
   have k1:Step (fun k=>¬ Nope k∧k≠w3.heap.size∧k≠w3.heap.size+1) M' w4 M' w5:=hs5.wide fun k _ h=>⟨id,(h4 k h).2.2.1,(h4 k h).2.2.2⟩
   have k2:Step (fun k=>¬ Nope k∧k≠w3.heap.size∧k≠w3.heap.size+1) M' w5 M' w6:=hs6.wide fun k _ h=>by have h:k=bo:=h; exact ⟨id,by omega,by omega⟩
   refine as_nil (hK4 _ _ ⟨M',((hs4.any _).also k1).also k2,_,h1n,?_,?_,hownf⟩)
   ·have h5:=h2c.step hs6 (fun g hg h=>(hownf g hg).2.1 h)
    rw [ptrs_take hx] at h5
    exact h5
   ·exact ((h3.also hs4).trans hs5 (fun k hk h=>by have:=(h4 k h).1; omega)).trans hs6 (fun k hk h=>by have h:k=bo:=h; omega)
  ·rintro M' W' hs' hle ⟨sv,h1,h2,h3,h4⟩ D hD hDd
   refine Ri fun Z=>Q1 rfl (OC h1 rfl)<|Na rfl Z<|cw_ret ⟨hDd,_,res_tmp rfl res_nil,M',h3,?_,fun g hg=>(h4 g hg).1⟩
   rw [List.length_map] at h2
   rw [List.take_length] at h2
   exact h2
 ·rintro v w' D hB hD ⟨M',h1,h2,h3⟩
  have k:=Step.putObj h1.sat hD (by simp) (.deferred none)
  refine ⟨M',h1.trans k (fun b hb h=>by have h:b=D:=h; omega),h2.step k (fun g hg h=>?_),h3⟩
  have h:g=D:=h
  subst h
  obtain ⟨⟨_,hh⟩,_⟩:=h2
  rcases hh with ⟨rfl,_⟩ | ⟨g2,cap,cur,rfl,_,hh,_⟩
  ·cases hg
  ·cases hg; rw [hD] at hh; cases hh
end Go.Proofs.YtnnldppehojffaaGreat
/- Trees of elements, part 1. -/
namespace Go.Proofs.YtnnldppehojffaaGreat
open Go Go.Eng
variable {mb:Option Nat} {w:World} {M:Mem mb}
theorem te_rank_n {x:El} {bs:List El} {ks:List (RT El)} {q:Option Addr} (hs:Sat M w) (h:TRep 287 2 EncE M (.node x bs ks) q):
  Dz 170 #[.pointer q] w (fun v w'=>v = .int .i64 (ks.length:Int)∧Step Nope M w M w'):=by
 have hT:=hs.r
 obtain ⟨b,xc,bv,bcs,kv,ka,rfl,hb,hx,hxl,hbs,hbl,hks,hkl⟩:=trep_node.1 h
 obtain rfl:=(show xc=elc _ from hx)
 obtain ⟨ba,bk,rfl,_,_⟩:=hbs.slice
 obtain ⟨kp,kk,rfl,_,_⟩:=hks.slice
 refine Fe Tryz.func170 [.tmp 2] rfl<|Ri fun Z=>Na rfl Z<|cw_seq fun _ hK2=>Ri fun Z=>Qm rfl<|Qq rfl (qn rfl)<|Nx Z<|cw_false rfl<|cw_skip<|hK2 _ _<|Ri fun Z=>Qm rfl<|Qq rfl (q_nilp rfl)<|Qf 0 rfl<|Q1 rfl (BlkR.cell (hs _ _ _ hb) rfl)<|Na rfl Z<|cw_ret ?_
 exact ⟨_,Rt rfl,rfl,hT.forget⟩
theorem te_rank {t:RT El} {q:Option Addr} (hs:Sat M w) (h:TRep 287 2 EncE M t q):Dz 170 #[.pointer q] w (fun v w'=>v = .int .i64 (t.rank:Nat)∧Step Nope M w M w'):=by
 cases t with
 | node x bs ks=>exact te_rank_n hs h
theorem te_size_n {x:El} {bs:List El} {ks:List (RT El)} {q:Option Addr} (hs:Sat M w) (h:TRep 287 2 EncE M (.node x bs ks) q):
  Dz 168 #[.pointer q] w (fun v w'=>v = .int .i64 ((1+bs.length+RT.sizes ks:Nat):Int)∧Step Nope M w M w'):=by
 have hT:=hs.r
 obtain ⟨b,xc,bv,bcs,kv,ka,rfl,hb,hx,hxl,hbs,hbl,hks,hkl⟩:=trep_node.1 h
 obtain rfl:=(show xc=elc _ from hx)
 obtain ⟨ba,bk,rfl,_,_⟩:=hbs.slice
 obtain ⟨kp,kk,rfl,_,_⟩:=hks.slice
 refine Fe Tryz.func168 [.tmp 2] rfl<|Ri fun Z=>Na rfl Z<|cw_seq fun _ hK2=>Ri fun Z=>Qm rfl<|Qq rfl (qn rfl)<|Nx Z<|cw_false rfl<|cw_skip<|hK2 _ _<|Ri fun Z=>Qm rfl<|Qq rfl (q_nilp rfl)<|Qf 5 rfl<|Q1 rfl (BlkR.cell (hs _ _ _ hb) rfl)<|Na rfl Z<|cw_ret ?_
 exact ⟨_,Rt rfl,rfl,hT.forget⟩
theorem te_size {t:RT El} {q:Option Addr} (hs:Sat M w) (h:TRep 287 2 EncE M t q):Dz 168 #[.pointer q] w (fun v w'=>v = .int .i64 (t.size:Nat)∧Step Nope M w M w'):=by
 cases t with
 | node x bs ks=>rw [RT.size]; exact te_size_n hs h
theorem te_root_n {x:El} {bs:List El} {ks:List (RT El)} {q:Option Addr} (hs:Sat M w) (h:TRep 287 2 EncE M (.node x bs ks) q):
  Dz 163 #[.pointer q] w (fun v w'=>v = .tuple #[.agg (elc x).toArray, .bool true]∧Step Nope M w M w'):=by
 have hT:=hs.r
 obtain ⟨b,xc,bv,bcs,kv,ka,rfl,hb,hx,hxl,hbs,hbl,hks,hkl⟩:=trep_node.1 h
 obtain rfl:=(show xc=elc _ from hx)
 obtain ⟨ba,bk,rfl,_,_⟩:=hbs.slice
 obtain ⟨kp,kk,rfl,_,_⟩:=hks.slice
 refine Fe Tryz.func163 [.cell 2 29, .tmp 3] rfl<|Ri fun Z=>?_
 have:=hT.size
 refine Al (.agg #[(.int .i64 0),(.int .i64 0)]) hs rfl fun br w1 hs1 hor er=>?_
 have:=hs1.size
 have:=hor.1.lt
 refine Na rfl Z<|cw_seq fun _ hK2=>Ri fun Z=>Qm rfl<|Qq rfl (qn rfl)<|Nx Z<|cw_false rfl<|cw_skip<|hK2 _ _<|Ri fun Z=>Qm rfl<|Qq rfl (q_nilp rfl)<|Qf 1 rfl<|Qc 2 rfl (BD hs1 hb rfl)<|St hs1.sat hor rfl fun w2 hs2 hor=>?_
 have:=hs2.size
 refine Na rfl Z<|cw_ret ?_
 have hT:=hT.t hs1 |>.o hs2
 exact ⟨_,(Rc 2 rfl (OD hor rfl) (Rt rfl)),rfl,hT.forget⟩
theorem te_root {t:RT El} {q:Option Addr} (hs:Sat M w) (h:TRep 287 2 EncE M t q):Dz 163 #[.pointer q] w (fun v w'=>v = .tuple #[.agg (elc t.root).toArray, .bool true]∧Step Nope M w M w'):=by
 cases t with
 | node x bs ks=>exact te_root_n hs h
theorem te_made {x:El} {bs:List El} {ks:List (RT El)} {ba kp:Option Addr} {bk kk:Nat} {bcs:List Value} {ka:List (Option Addr)} {s0:Int} (hs:Sat M w) (hbs:RdM M 2 (.slice ba bs.length bk) bs.length bcs) (hbl:EncL EncE 2 M bs bcs) (hks:RdM M 1 (.slice kp ks.length kk) ks.length (ptrs ka)) (hkl:TReps 287 2 EncE M ks ka) (hz:1+bs.length+RT.sizes ks≤1000000000):
  Dz 174 #[mval mb, .agg (.int .i64 (ks.length:Int)::(elc x++[.slice ba bs.length bk, .slice kp ks.length kk, .int .i64 s0])).toArray] w (fun v w'=>∃ q M',v = .pointer q∧StepC Nope 1 M w M' w'∧TRep 287 2 EncE M' (.node x bs ks) q):=by
 have hT:=hs.r
 have hzk:=fun i=>RT.sizes_take_le ks i
 refine Fe Tryz.func174 [.tmp 4] rfl<|Ri fun Z=>?_
 have:=hT.size
 refine Bo hs rfl fun bt w1 hs1 hot et=>?_
 have:=hs1.size
 have hlt:=hot.1.lt
 refine Nar rfl Z fun Z=>Qm rfl<|Ca rfl ((m_made hs1.sat).mono ?_)
 rintro _ w2 hs2
 have:=hs2.size
 refine Nr Z fun Z=>Qf 3 rfl ?_
 have hot:=hot.t hs2
 refine Q1 rfl (OC hot rfl)<|Qq rfl (ql rfl)<|Qq rfl (qA rfl)<|Qf 5 rfl<|St hs2.sat hot rfl fun w3 hs3 hot=>?_
 have:=hs3.size
 refine Nx Z<|cw_seq fun _ hK4=>Ri fun Z=>Qf 4 rfl<|Q1 rfl (OC hot rfl)<|Qq rfl (ql rfl)<|Qm rfl<|Nx Z<|cw_block ?_
 have hT:=hT.t hs1 |>.t hs2 |>.o hs3
 refine cw_loop (fun mm l w1=>∃ i:Nat,mm=ks.length-i∧i≤ks.length∧l=[(0,mval mb),(3, .pointer (some ⟨bt,0,none⟩)),(15, .slice kp ks.length kk),(16, .int .i64 (ks.length:Nat)),(17, .int .i64 i)]∧StepC Nope 1 M w (M.tick 1) w1∧Own w1 (M.tick 1) bt (.int .i64 (ks.length:Int)::(elc x++[.slice ba bs.length bk, .slice kp ks.length kk, .int .i64 ((1+bs.length+RT.sizes (ks.take i):Nat):Int)])) 287) (ks.length) [(0,mval mb),(3, .pointer (some ⟨bt,0,none⟩)),(15, .slice kp ks.length kk),(16, .int .i64 (ks.length:Nat)),(17, .int .i64 (0:Nat))] (.cons rfl (.cons rfl (.cons rfl (.cons rfl (.cons rfl (.nil _)))))) ?_ ?_
 ·refine ⟨0,rfl,Nat.zero_le _,rfl,hT,?_⟩
  exact hot
 have hbtw:w.heap.size≤bt:=by omega
 clear hT hot
 rintro mm l w1 ⟨i,rfl,hi,rfl,hT,hot⟩
 refine Ri fun Z=>Qq rfl (q_lt rfl rfl)<|Nx Z<|cw_seq fun _ hK7=>cw_cond rfl (fun hc0=>?_) (fun hc0=>?_)
 ·have hlt:i<ks.length:=by have:=of_decide_eq_true hc0; omega
  obtain ⟨k,hk⟩:∃ k,ks[i]? = some k:=⟨ks[i],by simp [hlt]⟩
  obtain ⟨kq,hkq,hkr⟩:=hkl.get hk
  obtain ⟨kb,ko,hkp⟩:=hks.there O
  subst hkp
  obtain ⟨c,rfl,hksz⟩:=trep_size hkr
  have hks1:=RT.sizes_take hk
  have hks2:=RT.sizes_take_le ks (i+1)
  have hksl:=RT.sizes_length ks
  refine cw_skip<|hK7 _ _<|cw_seq fun _ hK8=>cw_block<|Ri fun Z=>Qq rfl (qi 264 1 rfl)<|Q1 rfl (hks.cell (M:=M.tick 1) hT.sat (u:= .pointer (some ⟨c,0,none⟩)) (by rw [show (i:Int).toNat*1=i from by omega]; simp [ptrs,hkq]))<|Na rfl Z<|cw_drawn V V V rfl rfl fun K10 hK10=>?_
  have hs4:=Step.drew hT.sat
  have:=hs4.size
  refine Gf 0 1 5 rfl ?_
  have hot:=hot.t hs4
  refine G1 1 3 rfl (OC hot rfl)<|Gm 2 7 rfl<|Gq 3 15 rfl (fun _=>q_nilp rfl)<|Gf 4 31 5 rfl ?_
  have hT:=hT.t hs4
  refine G1 5 63 rfl (cellM_cell hT.sat hksz)<|Gq 6 127 rfl (fun _=>qA rfl)<|Gf 7 255 5 rfl<|G0 8 511 rfl (Ks [T,T]) (h_store hs4.sat hot rfl rfl rfl V rfl rfl rfl fun w5 hs5 hn5=>?_)
  clear hot; have hot:=hn5; clear hn5
  have:=hs5.size
  refine ⟨trivial,?_⟩
  refine Dd V (hK10 _ _ ?_)
  refine hK8 _ _<|cw_region fun _ Z=>Qq rfl (qA rfl)<|Qm rfl<|as_nil (Z _ _ ?_)
  have hT:=hT.o hs5
  refine ⟨_,_,?_,(.cons rfl (.cons rfl (.cons rfl (.cons rfl (.cons rfl (.nil _)))))),i+1,rfl,by omega,rfl,hT,?_⟩
  ·omega
  ·rw [show ((1+bs.length+RT.sizes (ks.take (i+1)):Nat):Int)=((1+bs.length+RT.sizes (ks.take i):Nat):Int)+(k.size:Int) by omega]; exact hot
 ·have hge:i=ks.length:=by have:=of_decide_eq_false hc0; omega
  refine cw_exit<|hK4 _ _<|Ri fun Z=>Na rfl Z<|cw_ret ?_
  subst hge
  rw [List.take_length] at hot
  obtain ⟨hbx,hTx⟩:=own_freeze hT hot hbtw
  exact ⟨_,Rt rfl,_,_,rfl,hTx,trep_node.2 ⟨_,_,_,_,_,_,rfl,hbx,rfl,rfl,hbs.mono hTx.le,hbl.mono EncE.mono hTx.le,hks.mono hTx.le,hkl.mono' EncE.mono hTx.le⟩⟩
theorem te_aheadk {a:Option Addr} {l:Value} {n:Nat} {ka:List (Option Addr)} (hs:Sat M w) (hl:RdM M 1 l n (ptrs ka)) (hz:n≤1000000000):
  Dz 178 #[.pointer a,l] w (fun v w'=>∃ sa sc M',v = .slice sa (n+1) sc∧Step Nope M w M' w'∧RdM M' 1 (.slice sa (n+1) sc) (n+1) (ptrs (a::ka))):=by
 have hT:=hs.r
 obtain ⟨la,lc,rfl,_,_⟩:=hl.slice
 refine Fe Tryz.func178 [.tmp 4] rfl<|Ri fun Z=>Nar rfl Z fun Z=>Qm rfl<|as_h rfl (h_buildO (e:=264) (size:=1) (zs:=[(.pointer none)]) (cs:=[_]) V V V rfl hs rfl rfl fun bB w1 hs1 hoB eB=>?_)
 have:=hs1.size
 refine Qm rfl ?_
 have hbb:=Own.buf hoB (n:=1) (size:=1) rfl (by decide)
 refine as_h rfl (h_append (e:=264) (size:=1) (bytes:=8) V hs1.sat hbb (hl.rd hs1.sat) rfl rfl (ptrs_one _) O rfl fun sv w2 hs2 hbu hor=>?_)
 have hT:=hT.t hs1
 have:=hT.size
 have:=hs2.size
 have hT:=hT.trans hs2 (fun k hk h=>by have h2:bB=k:=Option.some.inj h; omega)
 obtain ⟨M2,hT2,hle,hrd,_⟩:=hT.freezeB hbu (fun g hg=>by
  rcases hor with h | h
  ·rw [h] at hg; have h2:bB=g:=Option.some.inj hg; omega
  ·rw [h] at hg; have h2:=Option.some.inj hg; omega)
 obtain ⟨sa,sc,rfl,_,_⟩:=hrd.slice
 refine Na rfl Z<|cw_ret ?_
 rw [show 1+n=n+1 by omega] at hrd
 exact ⟨_,Rt rfl,_,_,_,congrArg (fun k=>Value.slice sa k sc) (Nat.add_comm 1 n),hT2,hrd⟩
theorem te_aheadx {x:El} {l:Value} {n:Nat} {bcs:List Value} (hs:Sat M w) (hl:RdM M 2 l n bcs) (h1:∀ x ∈ bcs,x.oneCell'=true) (hz:n≤1000000000):
  Dz 223 #[.agg (elc x).toArray,l] w (fun v w'=>∃ sa sc M',v = .slice sa (n+1) sc∧Step Nope M w M' w'∧RdM M' 2 (.slice sa (n+1) sc) (n+1) (elc x++bcs)):=by
 have hT:=hs.r
 obtain ⟨la,lc,rfl,_,_⟩:=hl.slice
 refine Fe Tryz.func223 [.tmp 4] rfl<|Ri fun Z=>Bm hs rfl fun b1 M1 w1 hs1 hb1 e1=>?_
 have:=hs1.size
 refine Nar rfl Z fun Z=>Qc 2 rfl (BD hs1 hb1 rfl)<|as_h rfl (h_buildO (e:=29) (size:=2) (zs:=[(.int .i64 0),(.int .i64 0)]) (cs:=[_,_]) V V V rfl hs1.sat rfl rfl fun bB w2 hs2 hoB eB=>?_)
 have:=hs2.size
 refine Qm rfl ?_
 have hbb:=Own.buf hoB (n:=1) (size:=2) rfl (by decide)
 have hl:=hl.mono hs1.le
 refine as_h rfl (h_append (e:=29) (size:=2) (bytes:=16) V hs2.sat hbb (hl.rd hs2.sat) rfl rfl h1 O rfl fun sv w3 hs3 hbu hor=>?_)
 have hT:=hT.t hs1 |>.t hs2
 have:=hT.size
 have:=hs3.size
 have hT:=hT.trans hs3 (fun k hk h=>by have h2:bB=k:=Option.some.inj h; omega)
 obtain ⟨M2,hT2,hle,hrd,_⟩:=hT.freezeB hbu (fun g hg=>by
  rcases hor with h | h
  ·rw [h] at hg; have h2:bB=g:=Option.some.inj hg; omega
  ·rw [h] at hg; have h2:=Option.some.inj hg; omega)
 obtain ⟨sa,sc,rfl,_,_⟩:=hrd.slice
 refine Na rfl Z<|cw_ret ?_
 rw [show 1+n=n+1 by omega] at hrd
 exact ⟨_,Rt rfl,_,_,_,congrArg (fun k=>Value.slice sa k sc) (Nat.add_comm 1 n),hT2,hrd⟩
theorem te_leaf {x:El} (hs:Sat M w):
  Dz 159 #[mval mb, .agg (elc x).toArray] w (fun v w'=>∃ q M',v = .pointer q∧StepC Nope (1) M w M' w'∧TRep 287 2 EncE M' (RT.leaf x) q):=by
 have hT:=hs.r
 refine Fe Tryz.func159 [.tmp 4] rfl<|Ri fun Z=>Bm hs rfl fun b1 M1 w1 hs1 hb1 e1=>?_
 have:=hs1.size
 refine Nar rfl Z fun Z=>Qm rfl<|Qc 2 rfl (BD hs1 hb1 rfl)<|Qq rfl (q_build (zs:=[(.int .i64 0),(.int .i64 0),(.int .i64 0),(.slice none 0 0),(.slice none 0 0),(.int .i64 0)]) (places:=[(0,1),(1,2),(3,1),(4,1),(5,1)]) (cs:=[_,_,_,_,_,_]) V V rfl rfl)<|Ca rfl ((te_made (x:=x) (bs:=[]) (ks:=[]) (ba:=none) (kp:=none) (bk:=0) (kk:=0) (bcs:=[]) (ka:=[]) hs1.sat (rdm_nil _ _) rfl (rdm_nil _ _) (treps_nil.2 rfl) (by simp [RT.sizes])).mono ?_)
 rintro _ w2 ⟨qn,Mn,rfl,hs2,hn⟩
 have:=hs2.size
 refine Na rfl Z<|cw_ret ?_
 have hT:=hT.t hs1 |>.t hs2
 exact ⟨_,Rt rfl,_,_,rfl,hT,hn⟩
theorem el_key {x:El} (hs:Sat M w):
  Dz 141 #[.agg (elc x).toArray] w (fun v w'=>v = .agg (elc x).toArray∧Step Nope M w M w'):=by
 have hT:=hs.r
 refine Fe Tryz.func141 [.cell 2 29] rfl<|Ri fun Z=>Bm hs rfl fun b1 M1 w1 hs1 hb1 e1=>?_
 have:=hs1.size
 have hT:=hT.t hs1
 have:=hT.size
 refine Al (.agg #[(.int .i64 0),(.int .i64 0)]) hs1.sat rfl fun br w2 hs2 hor er=>?_
 have:=hs2.size
 have:=hor.1.lt
 refine Nr Z fun Z=>Qc 2 rfl (BD hs2 hb1 rfl)<|St hs2.sat hor rfl fun w3 hs3 hor=>?_
 have:=hs3.size
 refine Nx Z<|cw_ret ?_
 have hT:=hT.t hs2 |>.o hs3
 exact ⟨_,(Rc 2 rfl (OD hor rfl) res_nil),rfl,hT.forget⟩
theorem te_link_n {x y:El} {bs ls:List El} {ks ms:List (RT El)} {q q2:Option Addr} (hs:Sat M w) (h:TRep 287 2 EncE M (.node x bs ks) q) (h2:TRep 287 2 EncE M (.node y ls ms) q2) (hz:(RT.node x bs ks).size+(RT.node y ls ms).size≤1000000000):
  Dz 171 #[mval mb, .pointer q, .pointer q2] w (fun v w'=>∃ q M',v = .pointer q∧StepC Nope (2) M w M' w'∧TRep 287 2 EncE M' (RT.link ltE (.node x bs ks) (.node y ls ms)) q):=by
 have hT:=hs.r
 obtain ⟨b,xc,bv,bcs,kv,ka,rfl,hb,hx,hxl,hbs,hbl,hks,hkl⟩:=trep_node.1 h
 obtain rfl:=(show xc=elc _ from hx)
 obtain ⟨ba,bk,rfl,_,_⟩:=hbs.slice
 obtain ⟨kp,kk,rfl,_,_⟩:=hks.slice
 obtain ⟨b2,xc2,bv2,bcs2,kv2,ka2,rfl,hb2,hx2,hxl2,hbs2,hbl2,hks2,hkl2⟩:=trep_node.1 h2
 obtain rfl:=(show xc2=elc _ from hx2)
 obtain ⟨ba2,bk2,rfl,_,_⟩:=hbs2.slice
 obtain ⟨kp2,kk2,rfl,_,_⟩:=hks2.slice
 simp only [RT.size] at hz
 have hl1:=RT.sizes_length ks
 have hl2:=RT.sizes_length ms
 refine Fe Tryz.func171 [.tmp 6] rfl<|Ri fun Z=>Na rfl Z<|cw_seq fun _ hK2=>cw_block<|Ri fun Z=>Qm rfl<|Qq rfl (qn rfl)<|Na rfl Z<|cw_false rfl<|Ri fun Z=>Qm rfl<|Qq rfl (qn rfl)<|Na rfl Z<|cw_false rfl<|cw_skip<|hK2 _ _<|cw_seq fun _ hK5=>Rv fun Z=>?_
 have hs1:=Step.drew hs
 have:=hs1.size
 refine Gm 0 1 rfl<|Gm 1 3 rfl<|Gq 2 7 rfl (fun _=>q_nilp rfl)<|Gf 3 15 1 rfl<|Gc 4 31 2 rfl (BD hs1 hb2 rfl)<|Gq 5 63 rfl (fun _=>qf rfl)<|Gm 7 191 rfl<|Gq 8 447 rfl (fun _=>q_nilp rfl)<|Gf 9 959 1 rfl<|Gc 10 1983 2 rfl (BD hs1 hb rfl)<|Gq 11 4031 rfl (fun _=>qf rfl)<|Gh 6 4095 rfl (Ks [F,F]) (h_invoke (f:=141) (r:= .agg (elc y).toArray) V rfl rfl V ?_)
 refine (el_key (x:=y) hs1.sat).mono ?_
 rintro _ w2 ⟨rfl,hs2⟩
 have:=hs2.size
 have hT:=hT.t hs1 |>.t hs2
 refine ⟨(by repeat' first | exact trivial | exact BD hs2 hb rfl | exact BD hs2 hb2 rfl | refine And.intro ?_ ?_),?_⟩
 refine Gh 12 8191 rfl (Ks [F,F]) (h_invoke (f:=141) (r:= .agg (elc x).toArray) V rfl rfl V ?_)
 refine (el_key (x:=x) hs2.sat).mono ?_
 rintro _ w3 ⟨rfl,hs3⟩
 have:=hs3.size
 have hT:=hT.t hs3
 refine ⟨(by repeat' first | exact trivial | exact BD hs3 hb rfl | exact BD hs3 hb2 rfl | refine And.intro ?_ ?_),?_⟩
 refine Gh 13 16383 rfl (Ks [F,F]) (h_call V rfl ?_)
 refine (m_less (a:=y) (b:=x) hs3.sat).mono ?_
 rintro _ w4 ⟨rfl,hs4⟩
 have hkl:=hkl.mono' EncE.mono hs4.le
 have hkl2:=hkl2.mono' EncE.mono hs4.le
 have h:=h.mono' EncE.mono hs4.le
 have h2:=h2.mono' EncE.mono hs4.le
 have:=hs4.size
 have hb:=hs4.le _ _ hb
 have hbs:=hbs.mono hs4.le
 have hbl:=hbl.mono EncE.mono hs4.le
 have hks:=hks.mono hs4.le
 have hb2:=hs4.le _ _ hb2
 have hbs2:=hbs2.mono hs4.le
 have hbl2:=hbl2.mono EncE.mono hs4.le
 have hks2:=hks2.mono hs4.le
 have hT:=hT.t hs4
 refine ⟨(by repeat' first | exact trivial | exact BD hs4 hb rfl | exact BD hs4 hb2 rfl | refine And.intro ?_ ?_),?_⟩
 refine Dx Z<|cw_cond rfl (fun hc2=>?_) (fun hc2=>?_)
 ·skip
  refine cw_region fun _ Z=>Qm rfl<|Qm rfl<|Qa rfl<|Qa rfl<|as_nil (Z _ _ ?_)
  refine hK5 _ _<|Rv fun Z=>?_
  have hs5:=Step.drew hs4.sat
  have:=hs5.size
  refine Gm 0 1 rfl<|Gm 1 3 rfl<|Gq 2 7 rfl (fun _=>q_nilp rfl)<|Gf 3 15 0 rfl<|G1 4 31 rfl (BC hs5 hb2 rfl)<|Gq 5 63 rfl (fun _=>qA rfl)<|Gm 6 127 rfl<|Gq 7 255 rfl (fun _=>q_nilp rfl)<|Gf 8 511 1 rfl<|Gc 9 1023 2 rfl (BD hs5 hb2 rfl)<|Gm 10 2047 rfl<|Gq 11 4095 rfl (fun _=>q_nilp rfl)<|Gf 12 8191 3 rfl<|G1 13 16383 rfl (BC hs5 hb2 rfl)<|Gm 14 32767 rfl<|Gm 15 65535 rfl<|Gq 16 131071 rfl (fun _=>q_nilp rfl)<|Gf 17 262143 4 rfl<|G1 18 524287 rfl (BC hs5 hb2 rfl)<|Gh 19 1048575 rfl (Ks [T,F,F,F]) (h_call V rfl ?_)
  refine (te_aheadk hs5.sat hks2 O).mono ?_
  rintro _ w6 ⟨sa,sc,Mn,rfl,hs6,hn⟩
  have hkl:=hkl.mono' EncE.mono hs6.le
  have hkl2:=hkl2.mono' EncE.mono hs6.le
  have h:=h.mono' EncE.mono hs6.le
  have h2:=h2.mono' EncE.mono hs6.le
  have:=hs6.size
  have hT:=hT.t hs5 |>.t hs6
  have hb:=hs6.le _ _ hb
  have hbs:=hbs.mono hs6.le
  have hbl:=hbl.mono EncE.mono hs6.le
  have hks:=hks.mono hs6.le
  have hb2:=hs6.le _ _ hb2
  have hbs2:=hbs2.mono hs6.le
  have hbl2:=hbl2.mono EncE.mono hs6.le
  refine ⟨(by repeat' first | exact trivial | exact BC hs6 hb2 rfl | exact BD hs6 hb2 rfl | refine And.intro ?_ ?_),?_⟩
  refine Gq 20 2097151 rfl (fun _=>(q_build (zs:=[(.int .i64 0),(.int .i64 0),(.int .i64 0),(.slice none 0 0),(.slice none 0 0),(.int .i64 0)]) (places:=[(0,1),(1,2),(3,1),(4,1),(5,1)]) (cs:=[_,_,_,_,_,_]) V V rfl rfl))<|Gh 21 4194303 rfl (Ks [F,F,F]) (h_call V rfl ?_)
  refine (te_made (x:=y) (bs:=ls) (ks:=(.node x bs ks)::ms) hs6.sat hbs2 hbl2 hn (treps_cons.2 ⟨_,_,rfl,h,hkl2⟩) (by simp only [RT.sizes,RT.size]; omega)).mono ?_
  rintro _ w7 ⟨qn,Mn2,rfl,hs7,hm⟩
  have hkl:=hkl.mono' EncE.mono hs7.le
  have h:=h.mono' EncE.mono hs7.le
  have h2:=h2.mono' EncE.mono hs7.le
  have:=hs7.size
  have hb:=hs7.le _ _ hb
  have hbs:=hbs.mono hs7.le
  have hbl:=hbl.mono EncE.mono hs7.le
  have hks:=hks.mono hs7.le
  have hb2:=hs7.le _ _ hb2
  have hn:=hn.mono hs7.le
  have hT:=hT.t hs7
  refine ⟨(by repeat' first | exact trivial | exact BC hs7 hb2 rfl | exact BD hs7 hb2 rfl | refine And.intro ?_ ?_),?_⟩
  refine Ga 22 8388607 rfl<|Dx Z<|cw_ret<|⟨_,Rt rfl,_,_,rfl,hT,?_⟩
  rw [RT.link,if_pos (show ltE (RT.node y ls ms).root (RT.node x bs ks).root=true from hc2)]
  exact hm
 ·skip
  refine cw_skip<|hK5 _ _<|Rv fun Z=>?_
  have hs8:=Step.drew hs4.sat
  have:=hs8.size
  refine Gm 0 1 rfl<|Gm 1 3 rfl<|Gq 2 7 rfl (fun _=>q_nilp rfl)<|Gf 3 15 0 rfl<|G1 4 31 rfl (BC hs8 hb rfl)<|Gq 5 63 rfl (fun _=>qA rfl)<|Gm 6 127 rfl<|Gq 7 255 rfl (fun _=>q_nilp rfl)<|Gf 8 511 1 rfl<|Gc 9 1023 2 rfl (BD hs8 hb rfl)<|Gm 10 2047 rfl<|Gq 11 4095 rfl (fun _=>q_nilp rfl)<|Gf 12 8191 3 rfl<|G1 13 16383 rfl (BC hs8 hb rfl)<|Gm 14 32767 rfl<|Gm 15 65535 rfl<|Gq 16 131071 rfl (fun _=>q_nilp rfl)<|Gf 17 262143 4 rfl<|G1 18 524287 rfl (BC hs8 hb rfl)<|Gh 19 1048575 rfl (Ks [T,F,F,F]) (h_call V rfl ?_)
  refine (te_aheadk hs8.sat hks O).mono ?_
  rintro _ w9 ⟨sa,sc,Mn,rfl,hs9,hn⟩
  have hkl:=hkl.mono' EncE.mono hs9.le
  have h:=h.mono' EncE.mono hs9.le
  have h2:=h2.mono' EncE.mono hs9.le
  have:=hs9.size
  have hT:=hT.t hs8 |>.t hs9
  have hb:=hs9.le _ _ hb
  have hbs:=hbs.mono hs9.le
  have hbl:=hbl.mono EncE.mono hs9.le
  refine ⟨(by repeat' first | exact trivial | exact BC hs9 hb rfl | exact BD hs9 hb rfl | refine And.intro ?_ ?_),?_⟩
  refine Gq 20 2097151 rfl (fun _=>(q_build (zs:=[(.int .i64 0),(.int .i64 0),(.int .i64 0),(.slice none 0 0),(.slice none 0 0),(.int .i64 0)]) (places:=[(0,1),(1,2),(3,1),(4,1),(5,1)]) (cs:=[_,_,_,_,_,_]) V V rfl rfl))<|Gh 21 4194303 rfl (Ks [F,F,F]) (h_call V rfl ?_)
  refine (te_made (x:=x) (bs:=bs) (ks:=(.node y ls ms)::ks) hs9.sat hbs hbl hn (treps_cons.2 ⟨_,_,rfl,h2,hkl⟩) (by simp only [RT.sizes,RT.size]; omega)).mono ?_
  rintro _ w10 ⟨qn,Mn2,rfl,hs10,hm⟩
  have h:=h.mono' EncE.mono hs10.le
  have:=hs10.size
  have hb:=hs10.le _ _ hb
  have hT:=hT.t hs10
  refine ⟨(by repeat' first | exact trivial | exact BC hs10 hb rfl | exact BD hs10 hb rfl | refine And.intro ?_ ?_),?_⟩
  refine Ga 22 8388607 rfl<|Dx Z<|cw_ret<|⟨_,Rt rfl,_,_,rfl,hT,?_⟩
  rw [RT.link,if_neg (show ¬ ltE (RT.node y ls ms).root (RT.node x bs ks).root=true by rw [show ltE (RT.node y ls ms).root (RT.node x bs ks).root=false from hc2]; decide)]
  exact hm
theorem te_link {a b:RT El} {q q2:Option Addr} (hs:Sat M w) (h:TRep 287 2 EncE M a q) (h2:TRep 287 2 EncE M b q2) (hz:a.size+b.size≤1000000000):
  Dz 171 #[mval mb, .pointer q, .pointer q2] w (fun v w'=>∃ q M',v = .pointer q∧StepC Nope (2) M w M' w'∧TRep 287 2 EncE M' (RT.link ltE a b) q):=by
 cases a; cases b; exact te_link_n hs h h2 hz
theorem te_skew {x:El} {t u:RT El} {q q2:Option Addr} (hs:Sat M w) (h:TRep 287 2 EncE M t q) (h2:TRep 287 2 EncE M u q2) (hz:t.size+u.size<1000000000):
  Dz 218 #[mval mb, .agg (elc x).toArray, .pointer q, .pointer q2] w (fun v w'=>∃ q M',v = .pointer q∧StepC Nope (4) M w M' w'∧TRep 287 2 EncE M' (RT.skew ltE x t u) q):=by
 have hT:=hs.r
 obtain ⟨qa,rfl⟩:=h.some
 obtain ⟨qb,rfl⟩:=h2.some
 refine Fe Tryz.func218 [.tmp 8] rfl<|Ri fun Z=>?_
 have:=hT.size
 refine Bo hs rfl fun bx w1 hs1 hox ex=>?_
 have:=hs1.size
 have:=hox.1.lt
 refine Nar rfl Z fun Z=>Qm rfl<|Qm rfl<|Qm rfl<|Ca rfl ((te_link hs1.sat h h2 O).mono ?_)
 rintro _ w2 ⟨qn,Mn,rfl,hs2,hn⟩
 have h:=h.mono' EncE.mono hs2.le
 have h2:=h2.mono' EncE.mono hs2.le
 have:=hs2.size
 have hls:=RT.link_size ltE t u
 obtain ⟨v,hv⟩:∃ v,RT.link ltE t u=v:=⟨_,rfl⟩
 rw [hv] at hn hls
 obtain ⟨y,cs,ls⟩:=v
 obtain ⟨b3,xc3,bv3,bcs3,kv3,ka3,rfl,hb3,hx3,hxl3,hbs3,hbl3,hks3,hkl3⟩:=trep_node.1 hn
 obtain rfl:=(show xc3=elc _ from hx3)
 obtain ⟨ba3,bk3,rfl,_,_⟩:=hbs3.slice
 obtain ⟨kp3,kk3,rfl,_,_⟩:=hks3.slice
 simp only [RT.size] at hls
 have hl3:=RT.sizes_length ls
 clear h h2
 refine Na rfl Z<|cw_seq fun _ hK3=>Ri fun Z=>Qm rfl<|Qq rfl (qn rfl)<|Nx Z<|cw_false rfl<|cw_skip<|hK3 _ _<|Ri fun Z=>Qm rfl<|Qq rfl (q_nilp rfl)<|Qf 1 rfl<|Qc 2 rfl (BD hs2 hb3 rfl) ?_
 have hT:=hT.t hs1 |>.t hs2
 have:=hT.size
 refine Al (.agg #[(.int .i64 0),(.int .i64 0)]) hs2.sat rfl fun br w3 hs3 hor er=>?_
 have:=hs3.size
 have:=hor.1.lt
 refine St hs3.sat hor rfl fun w4 hs4 hor=>?_
 have:=hs4.size
 refine Nx Z<|cw_seq fun _ hK6=>Rv fun Z=>?_
 have hs5:=Step.drew hs4.sat
 have:=hs5.size
 refine Gm 0 1 rfl<|Gm 1 3 rfl<|Gq 2 7 rfl (fun _=>q_nilp rfl)<|Gf 3 15 1 rfl<|Gc 4 31 2 rfl (BD hs5 hb3 rfl)<|Gq 5 63 rfl (fun _=>qf rfl) ?_
 have hox:=hox.t hs2 |>.t hs3 |>.u hs4 |>.t hs5
 refine Gc 7 191 2 rfl (OD hox rfl)<|Gq 8 447 rfl (fun _=>qf rfl)<|Gh 6 511 rfl (Ks [F,F]) (h_invoke (f:=141) (r:= .agg (elc y).toArray) V rfl rfl V ?_)
 refine (el_key (x:=y) hs5.sat).mono ?_
 rintro _ w6 ⟨rfl,hs6⟩
 have:=hs6.size
 have hT:=hT.t hs3 |>.o hs4 |>.t hs5 |>.t hs6
 have hor:=hor.t hs5 |>.t hs6
 have hox:=hox.t hs6
 refine ⟨(by repeat' first | exact trivial | exact OD hox rfl | exact BD hs6 hb3 rfl | refine And.intro ?_ ?_),?_⟩
 refine Gh 9 1023 rfl (Ks [F,F]) (h_invoke (f:=141) (r:= .agg (elc x).toArray) V rfl rfl V ?_)
 refine (el_key (x:=x) hs6.sat).mono ?_
 rintro _ w7 ⟨rfl,hs7⟩
 have:=hs7.size
 have hox:=hox.t hs7
 have hor:=hor.t hs7
 have hT:=hT.t hs7
 refine ⟨(by repeat' first | exact trivial | exact OD hox rfl | exact BD hs7 hb3 rfl | refine And.intro ?_ ?_),?_⟩
 refine Gh 10 2047 rfl (Ks [F,F]) (h_call V rfl ?_)
 refine (m_less (a:=y) (b:=x) hs7.sat).mono ?_
 rintro _ w8 ⟨rfl,hs8⟩
 have hkl3:=hkl3.mono' EncE.mono hs8.le
 have:=hs8.size
 have hox:=hox.t hs8
 have hb3:=hs8.le _ _ hb3
 have hbs3:=hbs3.mono hs8.le
 have hbl3:=hbl3.mono EncE.mono hs8.le
 have hks3:=hks3.mono hs8.le
 have hor:=hor.t hs8
 have hT:=hT.t hs8
 refine ⟨(by repeat' first | exact trivial | exact OD hox rfl | exact BD hs8 hb3 rfl | refine And.intro ?_ ?_),?_⟩
 refine Gq 11 4095 rfl (fun _=>q_not rfl)<|Dx Z<|cw_cond rfl (fun hc1=>?_) (fun hc1=>?_)
 ·skip
  refine cw_region fun _ Z=>Qc 2 rfl (OD hox rfl)<|Qc 2 rfl (OD hor rfl)<|St hs8.sat hor rfl fun w9 hs9 hor=>?_
  have:=hs9.size
  have hox:=hox.u hs9
  refine St hs9.sat hox rfl fun w10 hs10 hox=>?_
  have:=hs10.size
  refine as_nil (Z _ _ ?_)
  refine hK6 _ _<|Rv fun Z=>?_
  have hs11:=Step.drew hs10.sat
  have:=hs11.size
  refine Gm 0 1 rfl<|Gm 1 3 rfl<|Gq 2 7 rfl (fun _=>q_nilp rfl)<|Gf 3 15 0 rfl<|G1 4 31 rfl (BC hs11 hb3 rfl) ?_
  have hor:=hor.u hs10 |>.t hs11
  refine Gc 5 63 2 rfl (OD hor rfl) ?_
  have hox:=hox.t hs11
  refine Gc 6 127 2 rfl (OD hox rfl)<|Gm 7 255 rfl<|Gq 8 511 rfl (fun _=>q_nilp rfl)<|Gf 9 1023 3 rfl<|G1 10 2047 rfl (BC hs11 hb3 rfl)<|Gm 12 6143 rfl<|Gq 13 14335 rfl (fun _=>q_nilp rfl)<|Gf 14 30719 4 rfl<|G1 15 63487 rfl (BC hs11 hb3 rfl)<|Gh 11 65535 rfl (Ks [F,T,T,F,F]) (h_call V rfl ?_)
  refine (te_aheadx (x:=y) hs11.sat hbs3 (by rw [encE_list.1 hbl3]; exact els_one _) O).mono ?_
  rintro _ w12 ⟨sa,sc,Mn3,rfl,hs12,hn⟩
  have hkl3:=hkl3.mono' EncE.mono hs12.le
  have:=hs12.size
  have hT:=hT.o hs9 |>.o hs10 |>.t hs11 |>.t hs12
  have hox:=hox.t hs12
  have hb3:=hs12.le _ _ hb3
  have hbs3:=hbs3.mono hs12.le
  have hbl3:=hbl3.mono EncE.mono hs12.le
  have hks3:=hks3.mono hs12.le
  have hor:=hor.t hs12
  refine ⟨(by repeat' first | exact trivial | exact BC hs12 hb3 rfl | exact OD hor rfl | refine And.intro ?_ ?_),?_⟩
  refine Gq 16 131071 rfl (fun _=>(q_build (zs:=[(.int .i64 0),(.int .i64 0),(.int .i64 0),(.slice none 0 0),(.slice none 0 0),(.int .i64 0)]) (places:=[(0,1),(1,2),(3,1),(4,1),(5,1)]) (cs:=[_,_,_,_,_,_]) V V rfl rfl))<|Gh 17 262143 rfl (Ks [F,F,F]) (h_call V rfl ?_)
  refine (te_made (x:=x) (bs:=y::cs) (ks:=ls) hs12.sat hn ⟨_,_,rfl,rfl,rfl,hbl3⟩ hks3 hkl3 (by simp only [List.length_cons]; omega)).mono ?_
  rintro _ w13 ⟨qn2,Mn4,rfl,hs13,hm⟩
  have hkl3:=hkl3.mono' EncE.mono hs13.le
  have:=hs13.size
  have hox:=hox.t hs13
  have hb3:=hs13.le _ _ hb3
  have hbs3:=hbs3.mono hs13.le
  have hbl3:=hbl3.mono EncE.mono hs13.le
  have hks3:=hks3.mono hs13.le
  have hor:=hor.t hs13
  have hn:=hn.mono hs13.le
  have hT:=hT.t hs13
  refine ⟨(by repeat' first | exact trivial | exact BC hs13 hb3 rfl | exact OD hor rfl | refine And.intro ?_ ?_),?_⟩
  refine Ga 18 524287 rfl<|Dx Z<|cw_ret<|⟨_,Rt rfl,_,_,rfl,hT,?_⟩
  unfold RT.skew
  rw [hv,if_neg (show ¬ (ltE (RT.node y cs ls).root x=true) from fun h6=>by have h5:(ltE y x)=false:=(by simpa using hc1); have h6:(ltE y x)=true:=h6; rw [h5] at h6; cases h6)]
  exact hm
 ·skip
  refine cw_skip<|hK6 _ _<|Rv fun Z=>?_
  have hs14:=Step.drew hs8.sat
  have:=hs14.size
  refine Gm 0 1 rfl<|Gm 1 3 rfl<|Gq 2 7 rfl (fun _=>q_nilp rfl)<|Gf 3 15 0 rfl<|G1 4 31 rfl (BC hs14 hb3 rfl) ?_
  have hor:=hor.t hs14
  refine Gc 5 63 2 rfl (OD hor rfl) ?_
  have hox:=hox.t hs14
  refine Gc 6 127 2 rfl (OD hox rfl)<|Gm 7 255 rfl<|Gq 8 511 rfl (fun _=>q_nilp rfl)<|Gf 9 1023 3 rfl<|G1 10 2047 rfl (BC hs14 hb3 rfl)<|Gm 12 6143 rfl<|Gq 13 14335 rfl (fun _=>q_nilp rfl)<|Gf 14 30719 4 rfl<|G1 15 63487 rfl (BC hs14 hb3 rfl)<|Gh 11 65535 rfl (Ks [F,T,T,F,F]) (h_call V rfl ?_)
  refine (te_aheadx (x:=x) hs14.sat hbs3 (by rw [encE_list.1 hbl3]; exact els_one _) O).mono ?_
  rintro _ w15 ⟨sa,sc,Mn3,rfl,hs15,hn⟩
  have hkl3:=hkl3.mono' EncE.mono hs15.le
  have:=hs15.size
  have hT:=hT.t hs14 |>.t hs15
  have hb3:=hs15.le _ _ hb3
  have hbl3:=hbl3.mono EncE.mono hs15.le
  have hks3:=hks3.mono hs15.le
  have hor:=hor.t hs15
  refine ⟨(by repeat' first | exact trivial | exact BC hs15 hb3 rfl | exact OD hor rfl | refine And.intro ?_ ?_),?_⟩
  refine Gq 16 131071 rfl (fun _=>(q_build (zs:=[(.int .i64 0),(.int .i64 0),(.int .i64 0),(.slice none 0 0),(.slice none 0 0),(.int .i64 0)]) (places:=[(0,1),(1,2),(3,1),(4,1),(5,1)]) (cs:=[_,_,_,_,_,_]) V V rfl rfl))<|Gh 17 262143 rfl (Ks [F,F,F]) (h_call V rfl ?_)
  refine (te_made (x:=y) (bs:=x::cs) (ks:=ls) hs15.sat hn ⟨_,_,rfl,rfl,rfl,hbl3⟩ hks3 hkl3 (by simp only [List.length_cons]; omega)).mono ?_
  rintro _ w16 ⟨qn2,Mn4,rfl,hs16,hm⟩
  have:=hs16.size
  have hb3:=hs16.le _ _ hb3
  have hor:=hor.t hs16
  have hT:=hT.t hs16
  refine ⟨(by repeat' first | exact trivial | exact BC hs16 hb3 rfl | exact OD hor rfl | refine And.intro ?_ ?_),?_⟩
  refine Ga 18 524287 rfl<|Dx Z<|cw_ret<|⟨_,Rt rfl,_,_,rfl,hT,?_⟩
  unfold RT.skew
  rw [hv,if_pos (show (ltE (RT.node y cs ls).root x=true) from (show (ltE y x)=true by simpa using hc1))]
  exact hm
end Go.Proofs.YtnnldppehojffaaGreat
/- Binomial heaps, part 1. -/
namespace Go.Proofs.YtnnldppehojffaaGreat
open Go Go.Eng
variable {mb:Option Nat} {w:World} {M:Mem mb}
theorem b_size {ts:List (RT El)} {q:Option Addr} (hs:Sat M w) (h:FRep 266 287 2 EncE M ts q) (hz:RT.sizes ts≤1000000000):
  Dz 157 #[.agg #[.pointer q]] w (fun v w'=>v = .int .i64 (RT.sizes ts:Nat)∧Step Nope M w M w'):=by
 have hT:=hs.r
 obtain ⟨l,hc,hk,hll,hlz⟩:=h.len
 refine Fe Tryz.func157 [.tmp 2] rfl<|Ri fun Z=>Bm hs rfl fun b1 M1 w1 hs1 hb1 e1=>?_
 have hk:=hk.mono' EncE.mono hs1.le
 have:=hs1.size
 refine Nar rfl Z fun Z=>Na rfl Z<|cw_seq fun _ hK3=>Ri fun Z=>Qf 0 rfl<|Qc 1 rfl (BD hs1 hb1 rfl) ?_
 have hc:=hc.mono hs1.le
 refine Ca rfl ((ce_all hs1.sat hc O).mono ?_)
 rintro av w2 ⟨Ma,hs2,hba,hfa⟩
 have hk:=hk.mono' EncE.mono hs2.le
 have:=hs2.size
 obtain ⟨aa,ac,rfl,_,_⟩:=hba.slice
 refine Qq rfl (ql rfl)<|Qm rfl<|Nx Z<|cw_block ?_
 have hT:=hT.t hs1 |>.t hs2
 refine cw_loop (fun mm l1 w1=>∃ (i:Nat) (z:Int),mm=l.length-i∧i≤l.length∧z=(RT.sizes (ts.take i):Nat)∧l1=[(8, .slice aa l.length ac),(9, .int .i64 (l.length:Nat)),(10, .int .i64 i),(3, .int .i64 z)]∧Step Nope M w Ma w1∧Buf w1 Ma 264 1 (.slice aa l.length ac) l.length (ptrs l)) (l.length) [(8, .slice aa l.length ac),(9, .int .i64 (l.length:Nat)),(10, .int .i64 (0:Nat)),(3, .int .i64 (0:Nat))] (.cons rfl (.cons rfl (.cons rfl (.cons rfl (.nil _))))) ?_ ?_
 ·exact ⟨0,_,rfl,Nat.zero_le _,rfl,rfl,hT,hba⟩
 clear hT hba
 rintro mm l1 w1 ⟨i,z,rfl,hi,rfl,rfl,hT,hba⟩
 refine Ri fun Z=>Qq rfl (q_lt rfl rfl)<|Nx Z<|cw_seq fun _ hK6=>cw_cond rfl (fun hc0=>?_) (fun hc0=>?_)
 ·have hlt:i<l.length:=by have:=of_decide_eq_true hc0; omega
  obtain ⟨k,hkk⟩:∃ k,ts[i]? = some k:=⟨ts[i]'O,by simp⟩
  obtain ⟨kq,hkq,hkr⟩:=hk.get hkk
  obtain ⟨g,o,rfl⟩:=hba.rd.there O
  have hks1:=RT.sizes_take hkk
  have hks2:=RT.sizes_take_le ts (i+1)
  refine cw_skip<|hK6 _ _<|cw_seq fun _ hK7=>cw_block<|Ri fun Z=>Qq rfl (qi 264 1 rfl)<|Q1 rfl (Buf.cell hba (u:= .pointer kq) (j:=(i:Int).toNat*1) (by rw [show (i:Int).toNat*1=i from by omega]; simp [ptrs,hkq]))<|Na rfl Z<|cw_region fun _ Z=>Qm rfl<|Qm rfl<|Ca rfl ((te_size hT.sat hkr).mono ?_)
  rintro _ w3 ⟨rfl,hs3⟩
  have:=hs3.size
  refine Qq rfl (qA rfl)<|Qa rfl<|as_nil (Z _ _ ?_)
  refine hK7 _ _<|cw_region fun _ Z=>Qq rfl (qA rfl)<|Qm rfl<|as_nil (Z _ _ ?_)
  have hba:=hba.t hs3
  have hT:=hT.t hs3
  refine ⟨_,_,?_,(.cons rfl (.cons rfl (.cons rfl (.cons rfl (.nil _))))),i+1,_,rfl,by omega,?_,rfl,hT,hba⟩
  ·omega
  ·omega
 ·have hge:i=l.length:=by have:=of_decide_eq_false hc0; omega
  refine cw_exit<|hK3 _ _<|Ri fun Z=>Qm rfl<|Na rfl Z<|cw_ret ?_
  subst hge
  exact ⟨_,Rt rfl,by rw [List.take_of_length_le O]; rfl,hT.forget⟩
theorem b_least {ts:List (RT El)} {l:List (Option Addr)} {sa:Option Addr} {sc:Nat} (hs:Sat M w) (hr:Rds M w 1 (.slice sa ts.length sc) ts.length (ptrs l)) (hk:TReps 287 2 EncE M ts l) (hz:ts.length≤1000000000):
  Dz 162 #[mval mb, .slice sa ts.length sc] w (fun v w'=>v = .int .i64 (leastN ltE (ts.map RT.root) (ts.length-1):Nat)∧StepC Nope (ts.length-1) M w (M.tick (ts.length-1)) w'):=by
 have hT:=hs.r
 have hrts:∀ (j:Nat) (t:RT El),ts[j]? = some t→(ts.map RT.root)[j]? = some t.root:=fun j t h=>by rw [List.getElem?_map,h]; rfl
 have hr0:=hr
 refine Fe Tryz.func162 [.tmp 4] rfl<|Ri fun Z=>Nar rfl Z fun Z=>Na rfl Z<|cw_seq fun _ hK3=>Ri fun Z=>Na rfl Z<|cw_block<|cw_loop (fun mm l1 w1=>∃ (i:Nat) (z:Int),mm=ts.length-i∧1≤i∧(i≤ts.length∨i=1)∧z=(leastN ltE (ts.map RT.root) (i-1):Nat)∧l1=[(0,mval mb),(1, .slice sa ts.length sc),(5, .int .i64 z),(6, .int .i64 i)]∧StepC Nope (i-1) M w (M.tick (i-1)) w1) (ts.length-1) [(0,mval mb),(1, .slice sa ts.length sc),(5, .int .i64 (0:Nat)),(6, .int .i64 (1:Nat))] (.cons rfl (.cons rfl (.cons rfl (.cons rfl (.nil _))))) ?_ ?_
 ·exact ⟨1,_,by omega,by omega,by omega,rfl,rfl,hT⟩
 clear hT
 rintro mm l1 w1 ⟨i,z,rfl,hi1,hi,rfl,rfl,hT⟩
 refine cw_seq fun _ hK5=>Ri fun Z=>Qm rfl<|Qm rfl<|Qq rfl (ql rfl)<|Qq rfl (q_lt rfl rfl)<|Nx Z<|cw_cond rfl (fun hc0=>?_) (fun hc0=>?_)
 ·have hlt:i<ts.length:=by have:=of_decide_eq_true hc0; omega
  obtain ⟨k,hkk⟩:∃ k,ts[i]? = some k:=⟨ts[i],by simp⟩
  obtain ⟨kq,hkq,hkr⟩:=hk.get hkk
  have hbl:=leastN_le ltE (ts.map RT.root) (i-1)
  obtain ⟨kb,hkb0⟩:∃ k,ts[leastN ltE (ts.map RT.root) (i-1)]? = some k:=⟨ts[leastN ltE (ts.map RT.root) (i-1)]'O,by simp⟩
  obtain ⟨kbq,hkbq,hkb⟩:=hk.get hkb0
  obtain ⟨g,o,rfl⟩:=(hr0 _ _ _ hT).there O
  have hstep:=leastN_step (lt:=ltE) (i:=i-1) (hrts _ k (by rw [show i-1+1=i by omega]; exact hkk)) (hrts _ kb hkb0)
  rw [show i-1+1=i by omega] at hstep
  refine cw_skip<|hK5 _ _<|cw_seq fun _ hK7=>cw_block<|Ri fun Z=>Qm rfl<|Qm rfl<|Qq rfl (qi 264 1 rfl)<|Q1 rfl ((hr0 _ _ _ hT).cell (u:= .pointer kq) (j:=((i:Nat):Int).toNat*1) (by rw [show ((i:Nat):Int).toNat*1=i from by omega]; simp [ptrs,hkq]))<|Ca rfl ((te_root hT.sat hkr).mono ?_)
  rintro _ w1 ⟨rfl,hs1⟩
  have:=hs1.size
  refine Qm rfl<|Qe rfl<|Qe rfl ?_
  have hT:=hT.t hs1
  have:=hT.size
  refine Al (.agg #[(.int .i64 0),(.int .i64 0)]) hs1.sat rfl fun bu w2 hs2 hou eu=>?_
  have:=hs2.size
  have:=hou.1.lt
  refine St hs2.sat hou rfl fun w3 hs3 hou=>?_
  have:=hs3.size
  refine Nar rfl Z fun Z=>Qm rfl<|Qm rfl<|Qq rfl (qi 264 1 rfl) ?_
  have hT:=hT.t hs2 |>.o hs3
  refine Q1 rfl ((hr0 _ _ _ hT).cell (u:= .pointer kbq) (j:=((leastN ltE (ts.map RT.root) (i-1):Nat):Int).toNat*1) (by rw [show ((leastN ltE (ts.map RT.root) (i-1):Nat):Int).toNat*1=leastN ltE (ts.map RT.root) (i-1) from by omega]; simp [ptrs,hkbq]))<|Ca rfl ((te_root hs3.sat hkb).mono ?_)
  rintro _ w4 ⟨rfl,hs4⟩
  have:=hs4.size
  refine Qm rfl<|Qe rfl<|Qe rfl ?_
  have hT:=hT.t hs4
  have:=hT.size
  refine Al (.agg #[(.int .i64 0),(.int .i64 0)]) hs4.sat rfl fun bv w5 hs5 hov ev=>?_
  have:=hs5.size
  have:=hov.1.lt
  refine St hs5.sat hov rfl fun w6 hs6 hov=>?_
  have:=hs6.size
  refine Nar rfl Z fun Z=>Qm rfl ?_
  have hou:=hou.t hs4 |>.t hs5 |>.u hs6
  refine Qc 2 rfl (OD hou rfl)<|Qc 2 rfl (OD hov rfl)<|Ca rfl ((m_less (a:=k.root) (b:=kb.root) hs6.sat).mono ?_)
  rintro _ w7 ⟨rfl,hs7⟩
  have:=hs7.size
  refine Nx Z ?_
  have hT:=hT.t hs5 |>.o hs6 |>.t hs7
  refine cw_cond rfl (fun hc1=>?_) (fun hc1=>?_)
  ·rw [if_pos hc1] at hstep
   refine cw_region fun _ Z=>Qm rfl<|Qa rfl<|as_nil (Z _ _ ?_)
   refine hK7 _ _<|cw_region fun _ Z=>Qm rfl<|Qq rfl (qA rfl)<|Qa rfl<|as_nil (Z _ _ ?_)
   refine ⟨_,_,?_,(.cons rfl (.cons rfl (.cons rfl (.cons rfl (.nil _))))),i+1,_,rfl,by omega,by omega,?_,rfl,hT.tk O⟩
   ·omega
   ·rw [show i+1-1=i by omega,hstep]
  ·rw [if_neg (by rw [hc1]; decide)] at hstep
   refine cw_skip<|hK7 _ _<|cw_region fun _ Z=>Qm rfl<|Qq rfl (qA rfl)<|Qa rfl<|as_nil (Z _ _ ?_)
   refine ⟨_,_,?_,(.cons rfl (.cons rfl (.cons rfl (.cons rfl (.nil _))))),i+1,_,rfl,by omega,by omega,?_,rfl,hT.tk O⟩
   ·omega
   ·rw [show i+1-1=i by omega,hstep]
 ·have hge:i-1=ts.length-1:=by have:=of_decide_eq_false hc0; omega
  refine cw_exit<|hK3 _ _<|Ri fun Z=>Qm rfl<|Na rfl Z<|cw_ret ?_
  exact ⟨_,Rt rfl,by rw [hge]; rfl,hT.tk O⟩
theorem b_min {ts:List (RT El)} {t:RT El} {q:Option Addr} (hs:Sat M w) (h:FRep 266 287 2 EncE M ts q) (ht:ts[leastN ltE (ts.map RT.root) (ts.length-1)]? = some t) (hz:RT.sizes ts≤1000000000):
  Dz 154 #[.agg #[.pointer q],mval mb] w (fun v w'=>v = .tuple #[.agg (elc t.root).toArray, .bool true]∧StepC Nope (ts.length-1) M w (M.tick (ts.length-1)) w'):=by
 have hT:=hs.r
 obtain ⟨l,hc,hk,hll,hlz⟩:=h.len
 obtain ⟨kq,hkq,hkr⟩:=hk.get ht
 have hpos:0<ts.length:=Nat.lt_of_le_of_lt (Nat.zero_le _) (List.getElem?_eq_some_iff.1 ht).1
 have hbl:=leastN_le ltE (ts.map RT.root) (ts.length-1)
 refine Fe Tryz.func154 [.cell 4 29, .tmp 5] rfl<|Ri fun Z=>Bm hs rfl fun b1 M1 w1 hs1 hb1 e1=>?_
 have hk:=hk.mono' EncE.mono hs1.le
 have hkr:=hkr.mono' EncE.mono hs1.le
 have:=hs1.size
 have hT:=hT.t hs1
 have:=hT.size
 refine Al (.agg #[(.int .i64 0),(.int .i64 0)]) hs1.sat rfl fun br w2 hs2 hor er=>?_
 have:=hs2.size
 have:=hor.1.lt
 refine Nar rfl Z fun Z=>Qf 0 rfl<|Qc 1 rfl (BD hs2 hb1 rfl) ?_
 have hc:=hc.mono hs1.le
 refine Ca rfl ((ce_all hs2.sat hc O).mono ?_)
 rintro av w3 ⟨Ma,hs3,hba,hfa⟩
 have hk:=hk.mono' EncE.mono hs3.le
 have hkr:=hkr.mono' EncE.mono hs3.le
 have:=hs3.size
 rw [hll] at hba
 obtain ⟨aa,ac,rfl,_,_⟩:=hba.slice
 obtain ⟨g,o,rfl⟩:=hba.rd.there O
 refine Na rfl Z<|cw_seq fun _ hK3=>Ri fun Z=>Qm rfl<|Qq rfl (ql rfl)<|Qq rfl (qEF rfl)<|Nx Z<|cw_false rfl<|cw_skip<|hK3 _ _<|Ri fun Z=>Qm rfl<|Qm rfl<|Qm rfl<|Ca rfl ((b_least hs3.sat hba.rds hk O).mono ?_)
 rintro _ w4 ⟨rfl,hs4⟩
 have hkr:=hkr.mono' EncE.mono hs4.le
 have:=hs4.size
 refine Qq rfl (qi 264 1 rfl) ?_
 have hba:=hba.t hs4
 refine Q1 rfl (Buf.cell hba (u:= .pointer kq) (j:=((leastN ltE (ts.map RT.root) (ts.length-1):Nat):Int).toNat*1) (by rw [show ((leastN ltE (ts.map RT.root) (ts.length-1):Nat):Int).toNat*1=leastN ltE (ts.map RT.root) (ts.length-1) from by omega]; simp [ptrs,hkq]))<|Ca rfl ((te_root hs4.sat hkr).mono ?_)
 rintro _ w5 ⟨rfl,hs5⟩
 have:=hs5.size
 refine Qe rfl<|Qe rfl ?_
 have hor:=hor.t hs3 |>.t hs4 |>.t hs5
 refine St hs5.sat hor rfl fun w6 hs6 hor=>?_
 have:=hs6.size
 refine Na rfl Z<|cw_ret ?_
 have hT:=hT.t hs2 |>.t hs3 |>.t hs4 |>.t hs5 |>.o hs6
 exact ⟨_,(Rc 2 rfl (OD hor rfl) (Rt rfl)),rfl,hT.tk O⟩
theorem b_put {t0:RT El} {ts0:List (RT El)} {qt0 q0:Option Addr} (hs:Sat M w) (ht:TRep 287 2 EncE M t0 qt0) (h:FRep 266 287 2 EncE M ts0 q0) (hz:t0.size+RT.sizes ts0≤1000000000):
  Dz 158 #[mval mb, .pointer qt0, .agg #[.pointer q0]] w (fun v w'=>∃ q M',v = .agg #[.pointer q]∧StepC Nope (bputC ltE t0 ts0) M w M' w'∧FRep 266 287 2 EncE M' (bput ltE t0 ts0) q):=by
 have hT:=hs.r
 obtain ⟨l,hcl,hk⟩:=h
 refine Fe Tryz.func158 [.cell 6 151] rfl<|Ri fun Z=>?_
 have:=hT.size
 refine Bo hs rfl fun bl w1 hs1 hol el=>?_
 have:=hs1.size
 have:=hol.1.lt
 have hT:=hT.t hs1
 have:=hT.size
 refine Al (.agg #[(.pointer none)]) hs1.sat rfl fun br w2 hs2 hor er=>?_
 have:=hs2.size
 have:=hor.1.lt
 refine Nx Z<|cw_scope<|cw_seq fun _ hK2=>cw_label<|hK2 _ _<|cw_seq fun _ hK3=>cw_block ?_
 have hol:=hol.t hs2
 have hT:=hT.t hs2
 refine cw_loop (fun mm l1 w1=>∃ (t:RT El) (ts:List (RT El)) (l:List (Option Addr)) (qt q:Option Addr) (c:Nat) (M1:Mem mb),bputC ltE t0 ts0=c+bputC ltE t ts∧mm=ts.length∧bput ltE t ts=bput ltE t0 ts0∧t.size+RT.sizes ts≤1000000000∧l1=[(0,mval mb),(1, .pointer qt),(5, .pointer (some ⟨bl,0,none⟩)),(6, .pointer (some ⟨br,0,none⟩))]∧StepC Nope c M w M1 w1∧CRep 266 M1 l (.pointer q)∧TReps 287 2 EncE M1 ts l∧TRep 287 2 EncE M1 t qt∧Own w1 M1 bl [.pointer q] 151∧Own w1 M1 br [.pointer none] 151) (ts0.length) [(0,mval mb),(1, .pointer qt0),(5, .pointer (some ⟨bl,0,none⟩)),(6, .pointer (some ⟨br,0,none⟩))] (.cons rfl (.cons rfl (.cons rfl (.cons rfl (.nil _))))) ?_ ?_
 ·exact ⟨t0,ts0,l,qt0,q0,0,M,(Nat.zero_add _).symm,rfl,rfl,hz,rfl,hT,hcl,hk,ht,hol,hor⟩
 have hblw:w.heap.size≤bl:=by omega
 have hbrw:w.heap.size≤br∧bl≠br:=by omega
 clear hT hcl hk ht hol hor hz
 rintro mm l1 w1 ⟨t,ts,l,qt,q,c,M1,hcst,rfl,hmod,hz,rfl,hT,hcl,hk,ht,hol,hor⟩
 refine cw_block ?_
 rcases ts with _ | ⟨f,r⟩
 ·have hl0:l=[]:=treps_nil.1 hk
  subst hl0
  have hq0:q=none:=by
   have h:Value.pointer q = .pointer none:=hcl
   cases h; rfl
  subst hq0
  refine Ri fun Z=>Qc 1 rfl (OD hol rfl)<|Ca rfl ((ce_first_n hT.sat).mono ?_)
  rintro _ w3 ⟨rfl,hs3⟩
  have:=hs3.size
  refine Qm rfl<|Qe rfl<|Qe rfl<|Qa rfl<|Na rfl Z<|cw_seq fun _ hK5=>cw_block<|Ri fun Z=>Qm rfl<|Qq rfl (q_not rfl)<|Qm rfl<|as_gskip rfl rfl rfl rfl rfl<|as_gskip rfl rfl rfl rfl rfl<|as_gskip rfl rfl rfl rfl rfl<|as_gskip rfl rfl rfl rfl rfl<|as_gskip rfl rfl rfl rfl rfl<|Qq rfl (q_pick_t rfl rfl)<|Na rfl Z<|cw_true rfl<|cw_exit<|hK3 _ _<|Ri fun Z=>?_
  have hol:=hol.t hs3
  refine Qc 1 rfl (OD hol rfl)<|Qm rfl<|Ca rfl ?_
  have hpl:=hk.length
  have hpz:=RT.sizes_length ([]:List (RT El))
  refine (ce_push hs3.sat hcl (by rw [hpl]; omega)).mono ?_
  rintro _ w4 ⟨qp,Mp,rfl,hs4,hp⟩
  have hk:=hk.mono' EncE.mono hs4.le
  have ht:=ht.mono' EncE.mono hs4.le
  have:=hs4.size
  have hor:=hor.t hs3 |>.t hs4
  refine St hs4.sat hor rfl fun w5 hs5 hor=>?_
  have:=hs5.size
  refine Nx Z<|cw_ret ?_
  rw [show bput ltE t0 ts0=[t] from by rw [← hmod]; rfl]
  have hT:=hT.t hs3 |>.t hs4 |>.o hs5
  exact ⟨_,(Rc 1 rfl (OD hor rfl) res_nil),_,_,rfl,hT.to (by rw [hcst,bputC]),_,hp,treps_cons.2 ⟨_,_,rfl,ht,hk⟩⟩
 ·obtain ⟨fq,lr,rfl,hf,hk2⟩:=treps_cons.1 hk
  refine Ri fun Z=>Qc 1 rfl (OD hol rfl)<|Ca rfl ((ce_first hT.sat hcl).mono ?_)
  rintro _ w6 ⟨rfl,hs6⟩
  have:=hs6.size
  refine Qm rfl<|Qe rfl<|Qe rfl<|Qa rfl<|Na rfl Z<|cw_seq fun _ hK9=>cw_block<|Ri fun Z=>Qm rfl<|Qq rfl (q_not rfl)<|Qm rfl<|as_gh rfl rfl rfl rfl (h_q rfl (q_move rfl) ?_)
  refine as_gh rfl rfl rfl rfl (h_call V rfl ?_)
  refine (te_rank hs6.sat ht).mono ?_
  rintro _ w7 ⟨rfl,hs7⟩
  have:=hs7.size
  refine as_gh rfl rfl rfl rfl (h_q rfl (q_move rfl) ?_)
  refine as_gh rfl rfl rfl rfl (h_call V rfl ?_)
  refine (te_rank hs7.sat hf).mono ?_
  rintro _ w8 ⟨rfl,hs8⟩
  have:=hs8.size
  refine as_gh rfl rfl rfl rfl (h_q rfl (q_lt rfl rfl) ?_)
  refine Qq rfl (q_pick_f rfl rfl)<|Na rfl Z ?_
  have hol:=hol.t hs6 |>.t hs7 |>.t hs8
  have hor:=hor.t hs6 |>.t hs7 |>.t hs8
  have hT:=hT.t hs6 |>.t hs7 |>.t hs8
  refine cw_cond rfl (fun hc0=>?_) (fun hc0=>?_)
  ·skip
   refine cw_exit<|hK3 _ _<|Ri fun Z=>Qc 1 rfl (OD hol rfl)<|Qm rfl<|Ca rfl ?_
   have hpl:=hk.length
   have hpz:=RT.sizes_length (f::r)
   refine (ce_push hs8.sat hcl (by rw [hpl]; omega)).mono ?_
   rintro _ w9 ⟨qp,Mp,rfl,hs9,hp⟩
   have hk:=hk.mono' EncE.mono hs9.le
   have ht:=ht.mono' EncE.mono hs9.le
   have hf:=hf.mono' EncE.mono hs9.le
   have hk2:=hk2.mono' EncE.mono hs9.le
   have:=hs9.size
   have hor:=hor.t hs9
   refine St hs9.sat hor rfl fun w10 hs10 hor=>?_
   have:=hs10.size
   refine Nx Z<|cw_ret ?_
   rw [show bput ltE t0 ts0=t::f::r from by rw [← hmod]; unfold bput; rw [if_pos (by simpa using hc0)]]
   have hT:=hT.t hs9 |>.o hs10
   exact ⟨_,(Rc 1 rfl (OD hor rfl) res_nil),_,_,rfl,hT.to (by rw [hcst,bputC,if_pos (by simpa using hc0)]),_,hp,treps_cons.2 ⟨_,_,rfl,ht,hk⟩⟩
  ·skip
   refine cw_skip<|hK9 _ _<|cw_drawn V V V rfl rfl fun K12 hK12=>?_
   have hs11:=Step.drew hs8.sat
   have:=hs11.size
   refine Gm 0 1 rfl<|Gm 1 3 rfl<|Gm 2 7 rfl ?_
   have hol:=hol.t hs11
   refine Gc 4 23 1 rfl (OD hol rfl)<|Gh 3 31 rfl (Ks [F]) (h_call V rfl ?_)
   refine (te_link hs11.sat ht hf (by simp only [RT.sizes] at hz; omega)).mono ?_
   rintro _ w12 ⟨qn,Mn,rfl,hs12,hn⟩
   have hk2:=hk2.mono' EncE.mono hs12.le
   have:=hs12.size
   have hor:=hor.t hs11 |>.t hs12
   have hT:=hT.t hs11 |>.t hs12
   have hcl:=hcl.mono hs12.le
   have hol:=hol.t hs12
   refine ⟨(by repeat' first | exact trivial | exact OD hol rfl | refine And.intro ?_ ?_),?_⟩
   refine Gh 5 63 rfl (Ks [T]) (h_call V rfl ?_)
   refine (ce_rest hs12.sat hcl).mono ?_
   rintro _ w13 ⟨qr,rfl,hs13,hcl⟩
   have:=hs13.size
   refine ⟨trivial,?_⟩
   refine Ga 6 127 rfl ?_
   have hol:=hol.t hs13
   refine G0 7 255 rfl rfl (h_store hs13.sat hol rfl rfl rfl V rfl rfl rfl fun w14 hs14 hn14=>?_)
   clear hol; have hol:=hn14; clear hn14
   have:=hs14.size
   refine ⟨trivial,?_⟩
   refine Dd V (hK12 _ _ ?_)
   have hor:=hor.t hs13 |>.u hs14
   have hT:=hT.t hs13 |>.o hs14
   refine ⟨_,_,?_,(.cons rfl (.cons rfl (.cons rfl (.cons rfl (.nil _))))),_,r,_,_,_,_,_,?_,rfl,?_,?_,rfl,hT,hcl,hk2,hn,hol,hor⟩
   ·simp
   ·rw [hcst,bputC,if_neg (by simpa using hc0)]; omega
   ·rw [← hmod]
    conv=>rhs; unfold bput
    rw [if_neg (by simpa using hc0)]
   ·rw [RT.link_size]; simp only [RT.sizes] at hz; omega
theorem b_insert {x:El} {ts:List (RT El)} {q:Option Addr} (hs:Sat M w) (h:FRep 266 287 2 EncE M ts q) (hz:RT.sizes ts<1000000000):
  Dz 152 #[.agg #[.pointer q],mval mb, .agg (elc x).toArray] w (fun v w'=>∃ q M',v = .agg #[.pointer q]∧StepC Nope (1+bputC ltE (RT.leaf x) ts) M w M' w'∧FRep 266 287 2 EncE M' (bput ltE (RT.leaf x) ts) q):=by
 have hT:=hs.r
 refine Fe Tryz.func152 [.cell 6 153] rfl<|Ri fun Z=>Bm hs rfl fun b1 M1 w1 hs1 hb1 e1=>?_
 have h:=h.mono' EncE.mono hs1.le
 have:=hs1.size
 refine Bm hs1.sat rfl fun b2 M2 w2 hs2 hb2 e2=>?_
 have h:=h.mono' EncE.mono hs2.le
 have:=hs2.size
 have hT:=hT.t hs1 |>.t hs2
 have:=hT.size
 refine Al (.agg #[(.pointer none)]) hs2.sat rfl fun br w3 hs3 hor er=>?_
 have:=hs3.size
 have:=hor.1.lt
 refine Nx Z<|Rv fun Z=>?_
 have hs4:=Step.drew hs3.sat
 have:=hs4.size
 refine Gm 0 1 rfl<|Gm 1 3 rfl<|Gc 2 7 2 rfl (BD hs4 hb2 rfl)<|Gf 4 23 0 rfl ?_
 have hb1:=hs2.le _ _ hb1
 refine Gc 5 55 1 rfl (BD hs4 hb1 rfl)<|Gh 3 63 rfl (Ks [F,T]) (h_call V rfl ?_)
 refine (te_leaf (x:=x) hs4.sat).mono ?_
 rintro _ w5 ⟨qn,Mn,rfl,hs5,hn⟩
 have h:=h.mono' EncE.mono hs5.le
 have:=hs5.size
 have hT:=hT.t hs3 |>.t hs4 |>.t hs5
 have hor:=hor.t hs4 |>.t hs5
 have hb1:=hs5.le _ _ hb1
 refine ⟨(by repeat' first | exact trivial | exact BD hs5 hb1 rfl | refine And.intro ?_ ?_),?_⟩
 refine Gh 6 127 rfl (Ks [T]) (h_call V rfl ?_)
 refine (b_put hs5.sat hn h (by rw [leaf_size]; omega)).mono ?_
 rintro _ w6 ⟨qm,Mm,rfl,hs6,hm⟩
 have h:=h.mono' EncE.mono hs6.le
 have:=hs6.size
 refine ⟨trivial,?_⟩
 refine Gq 7 255 rfl (fun _=>(q_build (zs:=[(.pointer none)]) (places:=[(0,1)]) (cs:=[_]) V V rfl rfl)) ?_
 have hor:=hor.t hs6
 refine G0 8 511 rfl rfl (h_store hs6.sat hor rfl rfl rfl V rfl rfl rfl fun w7 hs7 hn7=>?_)
 clear hor; have hor:=hn7; clear hn7
 have:=hs7.size
 refine ⟨trivial,?_⟩
 refine Dx Z<|cw_ret ?_
 have hT:=hT.t hs6 |>.o hs7
 exact ⟨_,(Rc 1 rfl (OD hor rfl) res_nil),_,_,rfl,hT.to O,hm⟩
def BMeld (mb:Option Nat) (k:Nat):Prop:=∀ (w:World) (M:Mem mb) (a b:List (RT El)) (qa qb:Option Addr),Sat M w→FRep 266 287 2 EncE M a qa→FRep 266 287 2 EncE M b qb→a.length+b.length<k→RT.sizes a+RT.sizes b≤1000000000→
  Dz 160 #[mval mb, .agg #[.pointer qa], .agg #[.pointer qb]] w (fun v w'=>∃ q M',v = .agg #[.pointer q]∧StepC Nope (bmeldC ltE a b) M w M' w'∧FRep 266 287 2 EncE M' (bmeld ltE a b) q)
theorem b_meld_00 (hs:Sat M w):
  Dz 160 #[mval mb, .agg #[.pointer none], .agg #[.pointer none]] w (fun v w'=>∃ q M',v = .agg #[.pointer q]∧StepC Nope (0) M w M' w'∧FRep 266 287 2 EncE M' ([]:List (RT El)) q):=by
 have hT:=hs.r
 refine Fe Tryz.func160 [.cell 6 151] rfl<|Ri fun Z=>Bm hs rfl fun b1 M1 w1 hs1 hb1 e1=>?_
 have:=hs1.size
 refine Bm hs1.sat rfl fun b2 M2 w2 hs2 hb2 e2=>?_
 have:=hs2.size
 have hT:=hT.t hs1 |>.t hs2
 have:=hT.size
 refine Al (.agg #[(.pointer none)]) hs2.sat rfl fun br w3 hs3 hor er=>?_
 have:=hs3.size
 have:=hor.1.lt
 refine Nr Z fun Z=>?_
 have hb1:=hs2.le _ _ hb1
 refine Qc 1 rfl (BD hs3 hb1 rfl)<|Ca rfl ((ce_first_n hs3.sat).mono ?_)
 rintro _ w4 ⟨rfl,hs4⟩
 have:=hs4.size
 refine Qm rfl<|Qe rfl<|Qe rfl<|Qa rfl<|Nar rfl Z fun Z=>Qc 1 rfl (BD hs4 hb2 rfl)<|Ca rfl ((ce_first_n hs4.sat).mono ?_)
 rintro _ w5 ⟨rfl,hs5⟩
 have:=hs5.size
 refine Qm rfl<|Qe rfl<|Qe rfl<|Qa rfl<|Na rfl Z<|cw_seq fun _ hK4=>cw_block<|Ri fun Z=>Qm rfl<|Qq rfl (q_not rfl)<|Na rfl Z<|cw_true rfl<|Ri fun Z=>Qc 1 rfl (BD hs5 hb2 rfl) ?_
 have hor:=hor.t hs4 |>.t hs5
 refine St hs5.sat hor rfl fun w6 hs6 hor=>?_
 have:=hs6.size
 refine Nx Z<|cw_ret ?_
 have hT:=hT.t hs3 |>.t hs4 |>.t hs5 |>.o hs6
 exact ⟨_,(Rc 1 rfl (OD hor rfl) res_nil),_,_,rfl,hT,frep_nil.2 rfl⟩
theorem b_meld_01 {g:RT El} {b:List (RT El)} {qb:Option Addr} (hs:Sat M w) (h2:FRep 266 287 2 EncE M (g::b) qb):
  Dz 160 #[mval mb, .agg #[.pointer none], .agg #[.pointer qb]] w (fun v w'=>∃ q M',v = .agg #[.pointer q]∧StepC Nope (0) M w M' w'∧FRep 266 287 2 EncE M' (g::b) q):=by
 have hT:=hs.r
 obtain ⟨lb,hcb,hkb⟩:=h2
 have hlnb:=hkb.length
 obtain ⟨gq,lbr,rfl,hg,hkb2⟩:=treps_cons.1 hkb
 have hlcb:(g::b).length=b.length+1:=rfl
 have hgp:=g.size_pos
 have hmg:=RT.sizes_cons g b
 refine Fe Tryz.func160 [.cell 6 151] rfl<|Ri fun Z=>Bm hs rfl fun b1 M1 w1 hs1 hb1 e1=>?_
 have hkb:=hkb.mono' EncE.mono hs1.le
 have:=hs1.size
 refine Bm hs1.sat rfl fun b2 M2 w2 hs2 hb2 e2=>?_
 have hkb:=hkb.mono' EncE.mono hs2.le
 have:=hs2.size
 have hT:=hT.t hs1 |>.t hs2
 have:=hT.size
 refine Al (.agg #[(.pointer none)]) hs2.sat rfl fun br w3 hs3 hor er=>?_
 have:=hs3.size
 have:=hor.1.lt
 refine Nr Z fun Z=>?_
 have hb1:=hs2.le _ _ hb1
 refine Qc 1 rfl (BD hs3 hb1 rfl)<|Ca rfl ((ce_first_n hs3.sat).mono ?_)
 rintro _ w4 ⟨rfl,hs4⟩
 have:=hs4.size
 refine Qm rfl<|Qe rfl<|Qe rfl<|Qa rfl<|Nar rfl Z fun Z=>Qc 1 rfl (BD hs4 hb2 rfl) ?_
 have hcb:=hcb.mono hs1.le |>.mono hs2.le
 refine Ca rfl ((ce_first hs4.sat hcb).mono ?_)
 rintro _ w5 ⟨rfl,hs5⟩
 have:=hs5.size
 refine Qm rfl<|Qe rfl<|Qe rfl<|Qa rfl<|Na rfl Z<|cw_seq fun _ hK4=>cw_block<|Ri fun Z=>Qm rfl<|Qq rfl (q_not rfl)<|Na rfl Z<|cw_true rfl<|Ri fun Z=>Qc 1 rfl (BD hs5 hb2 rfl) ?_
 have hor:=hor.t hs4 |>.t hs5
 refine St hs5.sat hor rfl fun w6 hs6 hor=>?_
 have:=hs6.size
 refine Nx Z<|cw_ret ?_
 have hT:=hT.t hs3 |>.t hs4 |>.t hs5 |>.o hs6
 exact ⟨_,(Rc 1 rfl (OD hor rfl) res_nil),_,_,rfl,hT,_,hcb,hkb⟩
theorem b_meld_10 {f:RT El} {a:List (RT El)} {qa:Option Addr} (hs:Sat M w) (h:FRep 266 287 2 EncE M (f::a) qa):
  Dz 160 #[mval mb, .agg #[.pointer qa], .agg #[.pointer none]] w (fun v w'=>∃ q M',v = .agg #[.pointer q]∧StepC Nope (0) M w M' w'∧FRep 266 287 2 EncE M' (f::a) q):=by
 have hT:=hs.r
 obtain ⟨la,hca,hka⟩:=h
 have hlna:=hka.length
 obtain ⟨fq,lr,rfl,hf,hka2⟩:=treps_cons.1 hka
 have hlc:(f::a).length=a.length+1:=rfl
 have hfp:=f.size_pos
 have hmf:=RT.sizes_cons f a
 refine Fe Tryz.func160 [.cell 6 151] rfl<|Ri fun Z=>Bm hs rfl fun b1 M1 w1 hs1 hb1 e1=>?_
 have hka:=hka.mono' EncE.mono hs1.le
 have:=hs1.size
 refine Bm hs1.sat rfl fun b2 M2 w2 hs2 hb2 e2=>?_
 have hka:=hka.mono' EncE.mono hs2.le
 have:=hs2.size
 have hT:=hT.t hs1 |>.t hs2
 have:=hT.size
 refine Al (.agg #[(.pointer none)]) hs2.sat rfl fun br w3 hs3 hor er=>?_
 have:=hs3.size
 have:=hor.1.lt
 refine Nr Z fun Z=>?_
 have hb1:=hs2.le _ _ hb1
 refine Qc 1 rfl (BD hs3 hb1 rfl) ?_
 have hca:=hca.mono hs1.le |>.mono hs2.le
 refine Ca rfl ((ce_first hs3.sat hca).mono ?_)
 rintro _ w4 ⟨rfl,hs4⟩
 have:=hs4.size
 refine Qm rfl<|Qe rfl<|Qe rfl<|Qa rfl<|Nar rfl Z fun Z=>Qc 1 rfl (BD hs4 hb2 rfl)<|Ca rfl ((ce_first_n hs4.sat).mono ?_)
 rintro _ w5 ⟨rfl,hs5⟩
 have:=hs5.size
 refine Qm rfl<|Qe rfl<|Qe rfl<|Qa rfl<|Na rfl Z<|cw_seq fun _ hK4=>cw_block<|Ri fun Z=>Qm rfl<|Qq rfl (q_not rfl)<|Na rfl Z<|cw_false rfl<|Ri fun Z=>Qm rfl<|Qq rfl (q_not rfl)<|Na rfl Z<|cw_true rfl<|Ri fun Z=>Qc 1 rfl (BD hs5 hb1 rfl) ?_
 have hor:=hor.t hs4 |>.t hs5
 refine St hs5.sat hor rfl fun w6 hs6 hor=>?_
 have:=hs6.size
 refine Nx Z<|cw_ret ?_
 have hT:=hT.t hs3 |>.t hs4 |>.t hs5 |>.o hs6
 exact ⟨_,(Rc 1 rfl (OD hor rfl) res_nil),_,_,rfl,hT,_,hca,hka⟩
theorem b_meld_11 {w:World} {M:Mem mb} {f:RT El} {a:List (RT El)} {qa:Option Addr} {g:RT El} {b:List (RT El)} {qb:Option Addr} {k:Nat} (ih:BMeld mb k) (hs:Sat M w) (h:FRep 266 287 2 EncE M (f::a) qa) (h2:FRep 266 287 2 EncE M (g::b) qb) (hk:(f::a).length+(g::b).length<k+1) (hz:RT.sizes (f::a)+RT.sizes (g::b)≤1000000000):
  Dz 160 #[mval mb, .agg #[.pointer qa], .agg #[.pointer qb]] w (fun v w'=>∃ q M',v = .agg #[.pointer q]∧StepC Nope (bmeldC ltE (f::a) (g::b)) M w M' w'∧FRep 266 287 2 EncE M' (bmeld ltE (f::a) (g::b)) q):=by
 have hT:=hs.r
 obtain ⟨la,hca,hka⟩:=h
 have hlna:=hka.length
 obtain ⟨fq,lr,rfl,hf,hka2⟩:=treps_cons.1 hka
 have hlc:(f::a).length=a.length+1:=rfl
 have hfp:=f.size_pos
 have hmf:=RT.sizes_cons f a
 obtain ⟨lb,hcb,hkb⟩:=h2
 have hlnb:=hkb.length
 obtain ⟨gq,lbr,rfl,hg,hkb2⟩:=treps_cons.1 hkb
 have hlcb:(g::b).length=b.length+1:=rfl
 have hgp:=g.size_pos
 have hmg:=RT.sizes_cons g b
 refine Fe Tryz.func160 [.cell 6 151] rfl<|Ri fun Z=>Bm hs rfl fun b1 M1 w1 hs1 hb1 e1=>?_
 have hka:=hka.mono' EncE.mono hs1.le
 have hka2:=hka2.mono' EncE.mono hs1.le
 have hf:=hf.mono' EncE.mono hs1.le
 have hkb:=hkb.mono' EncE.mono hs1.le
 have hkb2:=hkb2.mono' EncE.mono hs1.le
 have hg:=hg.mono' EncE.mono hs1.le
 have:=hs1.size
 refine Bm hs1.sat rfl fun b2 M2 w2 hs2 hb2 e2=>?_
 have hka:=hka.mono' EncE.mono hs2.le
 have hka2:=hka2.mono' EncE.mono hs2.le
 have hf:=hf.mono' EncE.mono hs2.le
 have hkb:=hkb.mono' EncE.mono hs2.le
 have hkb2:=hkb2.mono' EncE.mono hs2.le
 have hg:=hg.mono' EncE.mono hs2.le
 have:=hs2.size
 have hT:=hT.t hs1 |>.t hs2
 have:=hT.size
 refine Al (.agg #[(.pointer none)]) hs2.sat rfl fun br w3 hs3 hor er=>?_
 have:=hs3.size
 have:=hor.1.lt
 refine Nr Z fun Z=>?_
 have hb1:=hs2.le _ _ hb1
 refine Qc 1 rfl (BD hs3 hb1 rfl) ?_
 have hca:=hca.mono hs1.le |>.mono hs2.le
 refine Ca rfl ((ce_first hs3.sat hca).mono ?_)
 rintro _ w4 ⟨rfl,hs4⟩
 have:=hs4.size
 refine Qm rfl<|Qe rfl<|Qe rfl<|Qa rfl<|Nar rfl Z fun Z=>Qc 1 rfl (BD hs4 hb2 rfl) ?_
 have hcb:=hcb.mono hs1.le |>.mono hs2.le
 refine Ca rfl ((ce_first hs4.sat hcb).mono ?_)
 rintro _ w5 ⟨rfl,hs5⟩
 have:=hs5.size
 refine Qm rfl<|Qe rfl<|Qe rfl<|Qa rfl<|Na rfl Z<|cw_seq fun _ hK4=>cw_block<|Ri fun Z=>Qm rfl<|Qq rfl (q_not rfl)<|Na rfl Z<|cw_false rfl<|Ri fun Z=>Qm rfl<|Qq rfl (q_not rfl)<|Na rfl Z<|cw_false rfl<|Ri fun Z=>Qm rfl<|Ca rfl ((te_rank hs5.sat hf).mono ?_)
 rintro _ w6 ⟨rfl,hs6⟩
 have:=hs6.size
 refine Qm rfl<|Ca rfl ((te_rank hs6.sat hg).mono ?_)
 rintro _ w7 ⟨rfl,hs7⟩
 have:=hs7.size
 refine Qq rfl (q_lt rfl rfl)<|Na rfl Z ?_
 have hT:=hT.t hs3 |>.t hs4 |>.t hs5 |>.t hs6 |>.t hs7
 have hor:=hor.t hs4 |>.t hs5 |>.t hs6 |>.t hs7
 refine cw_cond rfl (fun hc2=>?_) (fun hc2=>?_)
 ·replace hc2:f.rank<g.rank:=by have:=of_decide_eq_true hc2; omega
  refine Rv fun Z=>?_
  have hs8:=Step.drew hs7.sat
  have:=hs8.size
  refine Gm 0 1 rfl<|Gc 1 3 1 rfl (BD hs8 hb1 rfl)<|Gc 3 11 1 rfl (BD hs8 hb2 rfl)<|Gm 5 43 rfl<|Gh 2 47 rfl (Ks [F,T]) (h_call V rfl ?_)
  refine (ce_rest hs8.sat hca).mono ?_
  rintro _ w9 ⟨qa2,rfl,hs9,hca2⟩
  have:=hs9.size
  have hor:=hor.t hs8 |>.t hs9
  have hT:=hT.t hs8 |>.t hs9
  refine ⟨(by repeat' first | exact trivial | exact BD hs9 hb2 rfl | refine And.intro ?_ ?_),?_⟩
  refine Gh 4 63 rfl (Ks [T]) (h_call V rfl ?_)
  have hml:=RT.sizes_length (bmeld ltE a (g::b))
  have hms:=bmeld_size ltE a (g::b)
  refine (ih _ _ a (g::b) _ _ hs9.sat ⟨_,hca2,hka2⟩ ⟨_,hcb,hkb⟩ O O).mono ?_
  rintro v w10 ⟨qm,Mm,rfl,hs10,hm⟩
  obtain ⟨lm,hm1,hm2⟩:=hm
  have hmn:=hm2.length
  have hka:=hka.mono' EncE.mono hs10.le
  have hka2:=hka2.mono' EncE.mono hs10.le
  have hf:=hf.mono' EncE.mono hs10.le
  have hkb2:=hkb2.mono' EncE.mono hs10.le
  have hg:=hg.mono' EncE.mono hs10.le
  have:=hs10.size
  refine ⟨trivial,?_⟩
  refine Gh 6 127 rfl rfl (h_call V rfl ?_)
  refine (ce_push hs10.sat hm1 O).mono ?_
  rintro _ w11 ⟨qp,Mp,rfl,hs11,hp⟩
  have hka:=hka.mono' EncE.mono hs11.le
  have hka2:=hka2.mono' EncE.mono hs11.le
  have hf:=hf.mono' EncE.mono hs11.le
  have hkb2:=hkb2.mono' EncE.mono hs11.le
  have hg:=hg.mono' EncE.mono hs11.le
  have hm2:=hm2.mono' EncE.mono hs11.le
  have:=hs11.size
  refine ⟨trivial,?_⟩
  have hor:=hor.t hs10 |>.t hs11
  refine G0 7 255 rfl rfl (h_store hs11.sat hor rfl rfl rfl V rfl rfl rfl fun w12 hs12 hn12=>?_)
  clear hor; have hor:=hn12; clear hn12
  have:=hs12.size
  refine ⟨trivial,?_⟩
  refine Dx Z<|cw_ret ?_
  rw [show bmeld ltE (f::a) (g::b)=f::bmeld ltE a (g::b) from by rw [bmeld,if_pos hc2]]
  have hT:=hT.t hs10 |>.t hs11 |>.o hs12
  exact ⟨_,(Rc 1 rfl (OD hor rfl) res_nil),_,_,rfl,hT.to (by rw [bmeldC,if_pos hc2]; omega),_,hp,treps_cons.2 ⟨_,_,rfl,hf,hm2⟩⟩
 ·replace hc2:¬ f.rank<g.rank:=by have:=of_decide_eq_false hc2; omega
  refine Ri fun Z=>Qm rfl<|Ca rfl ((te_rank hs7.sat hg).mono ?_)
  rintro _ w13 ⟨rfl,hs13⟩
  have:=hs13.size
  refine Qm rfl<|Ca rfl ((te_rank hs13.sat hf).mono ?_)
  rintro _ w14 ⟨rfl,hs14⟩
  have:=hs14.size
  refine Qq rfl (q_lt rfl rfl)<|Na rfl Z ?_
  have hor:=hor.t hs13 |>.t hs14
  have hT:=hT.t hs13 |>.t hs14
  refine cw_cond rfl (fun hc3=>?_) (fun hc3=>?_)
  ·replace hc3:g.rank<f.rank:=by have:=of_decide_eq_true hc3; omega
   refine Rv fun Z=>?_
   have hs15:=Step.drew hs14.sat
   have:=hs15.size
   refine Gm 0 1 rfl<|Gc 1 3 1 rfl (BD hs15 hb1 rfl)<|Gc 2 7 1 rfl (BD hs15 hb2 rfl)<|Gm 5 39 rfl<|Gh 3 47 rfl (Ks [T,F]) (h_call V rfl ?_)
   refine (ce_rest hs15.sat hcb).mono ?_
   rintro _ w16 ⟨qb2,rfl,hs16,hcb2⟩
   have:=hs16.size
   have hor:=hor.t hs15 |>.t hs16
   have hT:=hT.t hs15 |>.t hs16
   refine ⟨(by repeat' first | exact trivial | exact BD hs16 hb1 rfl | refine And.intro ?_ ?_),?_⟩
   refine Gh 4 63 rfl (Ks [T]) (h_call V rfl ?_)
   have hml:=RT.sizes_length (bmeld ltE (f::a) b)
   have hms:=bmeld_size ltE (f::a) b
   refine (ih _ _ (f::a) b _ _ hs16.sat ⟨_,hca,hka⟩ ⟨_,hcb2,hkb2⟩ O O).mono ?_
   rintro v w17 ⟨qm,Mm,rfl,hs17,hm⟩
   obtain ⟨lm,hm1,hm2⟩:=hm
   have hmn:=hm2.length
   have hka2:=hka2.mono' EncE.mono hs17.le
   have hf:=hf.mono' EncE.mono hs17.le
   have hkb2:=hkb2.mono' EncE.mono hs17.le
   have hg:=hg.mono' EncE.mono hs17.le
   have:=hs17.size
   refine ⟨trivial,?_⟩
   refine Gh 6 127 rfl rfl (h_call V rfl ?_)
   refine (ce_push hs17.sat hm1 O).mono ?_
   rintro _ w18 ⟨qp,Mp,rfl,hs18,hp⟩
   have hka2:=hka2.mono' EncE.mono hs18.le
   have hf:=hf.mono' EncE.mono hs18.le
   have hkb2:=hkb2.mono' EncE.mono hs18.le
   have hg:=hg.mono' EncE.mono hs18.le
   have hm2:=hm2.mono' EncE.mono hs18.le
   have:=hs18.size
   refine ⟨trivial,?_⟩
   have hor:=hor.t hs17 |>.t hs18
   refine G0 7 255 rfl rfl (h_store hs18.sat hor rfl rfl rfl V rfl rfl rfl fun w19 hs19 hn19=>?_)
   clear hor; have hor:=hn19; clear hn19
   have:=hs19.size
   refine ⟨trivial,?_⟩
   refine Dx Z<|cw_ret ?_
   rw [show bmeld ltE (f::a) (g::b)=g::bmeld ltE (f::a) b from by rw [bmeld,if_neg hc2,if_pos hc3]]
   have hT:=hT.t hs17 |>.t hs18 |>.o hs19
   exact ⟨_,(Rc 1 rfl (OD hor rfl) res_nil),_,_,rfl,hT.to (by rw [bmeldC,if_neg hc2,if_pos hc3]; omega),_,hp,treps_cons.2 ⟨_,_,rfl,hg,hm2⟩⟩
  ·replace hc3:¬ g.rank<f.rank:=by have:=of_decide_eq_false hc3; omega
   refine cw_skip<|hK4 _ _<|cw_rdS (fun l2 w5=>∃ (M5:Mem mb) (bs:Nat) (qm:Option Addr) (lm:List (Option Addr)),bs≠br∧w.heap.size≤bs∧l2=[(0,mval mb),(6, .pointer (some ⟨br,0,none⟩)),(7, .pointer fq),(9, .pointer gq),(11, .pointer (some ⟨bs,0,none⟩))]∧StepC Nope (bmeldC ltE a b) M w M5 w5∧Own w5 M5 bs [.pointer qm] 151∧Own w5 M5 br [.pointer none] 151∧CRep 266 M5 lm (.pointer qm)∧TReps 287 2 EncE M5 (bmeld ltE a b) lm∧TRep 287 2 EncE M5 f fq∧TRep 287 2 EncE M5 g gq) V V V rfl rfl ?_ ?_
   ·have hs20:=Step.drew hs14.sat
    have:=hs20.size
    refine Gm 0 1 rfl<|Gc 1 3 1 rfl (BD hs20 hb1 rfl)<|Gc 3 11 1 rfl (BD hs20 hb2 rfl) ?_
    have hor:=hor.t hs20
    have hT:=hT.t hs20
    refine at_two (i:=2) (j:=6) V ?_ ?_
    ·refine Gi 2 15 rfl (Ks [F,T]) (h_call V rfl ?_)
     refine (ce_rest hs20.sat hca).mono ?_
     rintro _ w21 ⟨qa2,rfl,hs21,hca2⟩
     have:=hs21.size
     have hor:=hor.t hs21
     have hT:=hT.t hs21
     refine ⟨(by repeat' first | exact trivial | exact BD hs21 hb2 rfl | refine And.intro ?_ ?_),?_⟩
     refine at_two (i:=4) (j:=6) V ?_ ?_
     ·refine Gi 4 31 rfl (Ks [T]) (h_call V rfl ?_)
      refine (ce_rest hs21.sat hcb).mono ?_
      rintro _ w22 ⟨qb2,rfl,hs22,hcb2⟩
      have:=hs22.size
      refine ⟨trivial,?_⟩
      have hor:=hor.t hs22
      have hT:=hT.t hs22
      refine at_two (i:=5) (j:=6) V ?_ ?_
      ·refine Gi 5 63 rfl rfl (h_call V rfl ?_)
       have hml:=RT.sizes_length (bmeld ltE a b)
       have hms:=bmeld_size ltE a b
       refine (ih _ _ a b _ _ hs22.sat ⟨_,hca2,hka2⟩ ⟨_,hcb2,hkb2⟩ O O).mono ?_
       rintro v w23 ⟨qm,Mm,rfl,hs23,hm⟩
       obtain ⟨lm,hm1,hm2⟩:=hm
       have hmn:=hm2.length
       have hka2:=hka2.mono' EncE.mono hs23.le
       have hf:=hf.mono' EncE.mono hs23.le
       have hkb2:=hkb2.mono' EncE.mono hs23.le
       have hg:=hg.mono' EncE.mono hs23.le
       have:=hs23.size
       refine ⟨trivial,?_⟩
       have hT:=hT.t hs23
       have hqas:=hT.size
       refine Gh 6 127 rfl rfl (h_allocO (z:=(.agg #[(.pointer none)])) hs23.sat V rfl fun bs w24 hs24 hos es=>?_)
       have:=hs24.size
       have hls:=hos.1.lt
       refine ⟨trivial,?_⟩
       refine G0 7 255 rfl rfl (h_store hs24.sat hos rfl rfl rfl V rfl rfl rfl fun w25 hs25 hn25=>?_)
       clear hos; have hos:=hn25; clear hn25
       have:=hs25.size
       refine ⟨trivial,?_⟩
       refine Dd V ?_
       have hT:=hT.t hs24 |>.o hs25
       have hTs:=hT.size
       have hor:=hor.t hs23 |>.t hs24 |>.u hs25
       exact ⟨_,(.cons rfl (.cons rfl (.cons rfl (.cons rfl (.cons rfl (.nil _)))))),_,bs,_,_,by omega,by omega,rfl,hT.to O,hos,hor,hm1,hm2,hf,hg⟩
      ·have hqas:=hT.size
       refine Gi 6 95 rfl rfl (h_allocO (z:=(.agg #[(.pointer none)])) hs22.sat V rfl fun bs w26 hs26 hos es=>?_)
       have:=hs26.size
       have hls:=hos.1.lt
       refine ⟨trivial,?_⟩
       refine Gh 5 127 rfl rfl (h_call V rfl ?_)
       have hml:=RT.sizes_length (bmeld ltE a b)
       have hms:=bmeld_size ltE a b
       refine (ih _ _ a b _ _ hs26.sat ⟨_,hca2,hka2⟩ ⟨_,hcb2,hkb2⟩ O O).mono ?_
       rintro v w27 ⟨qm,Mm,rfl,hs27,hm⟩
       obtain ⟨lm,hm1,hm2⟩:=hm
       have hmn:=hm2.length
       have hka2:=hka2.mono' EncE.mono hs27.le
       have hf:=hf.mono' EncE.mono hs27.le
       have hkb2:=hkb2.mono' EncE.mono hs27.le
       have hg:=hg.mono' EncE.mono hs27.le
       have:=hs27.size
       refine ⟨trivial,?_⟩
       have hos:=hos.t hs27
       refine G0 7 255 rfl rfl (h_store hs27.sat hos rfl rfl rfl V rfl rfl rfl fun w28 hs28 hn28=>?_)
       clear hos; have hos:=hn28; clear hn28
       have:=hs28.size
       refine ⟨trivial,?_⟩
       refine Dd V ?_
       have hT:=hT.t hs26 |>.t hs27 |>.o hs28
       have hTs:=hT.size
       have hor:=hor.t hs26 |>.t hs27 |>.u hs28
       exact ⟨_,(.cons rfl (.cons rfl (.cons rfl (.cons rfl (.cons rfl (.nil _)))))),_,bs,_,_,by omega,by omega,rfl,hT.to O,hos,hor,hm1,hm2,hf,hg⟩
     ·have hqas:=hT.size
      refine Gi 6 79 rfl (Ks [F]) (h_allocO (z:=(.agg #[(.pointer none)])) hs21.sat V rfl fun bs w29 hs29 hos es=>?_)
      have:=hs29.size
      have hls:=hos.1.lt
      have hor:=hor.t hs29
      have hT:=hT.t hs29
      refine ⟨(by repeat' first | exact trivial | exact BD hs29 hb2 rfl | refine And.intro ?_ ?_),?_⟩
      refine Gh 4 95 rfl (Ks [T]) (h_call V rfl ?_)
      refine (ce_rest hs29.sat hcb).mono ?_
      rintro _ w30 ⟨qb2,rfl,hs30,hcb2⟩
      have:=hs30.size
      refine ⟨trivial,?_⟩
      refine Gh 5 127 rfl rfl (h_call V rfl ?_)
      have hml:=RT.sizes_length (bmeld ltE a b)
      have hms:=bmeld_size ltE a b
      refine (ih _ _ a b _ _ hs30.sat ⟨_,hca2,hka2⟩ ⟨_,hcb2,hkb2⟩ O O).mono ?_
      rintro v w31 ⟨qm,Mm,rfl,hs31,hm⟩
      obtain ⟨lm,hm1,hm2⟩:=hm
      have hmn:=hm2.length
      have hka2:=hka2.mono' EncE.mono hs31.le
      have hf:=hf.mono' EncE.mono hs31.le
      have hkb2:=hkb2.mono' EncE.mono hs31.le
      have hg:=hg.mono' EncE.mono hs31.le
      have:=hs31.size
      refine ⟨trivial,?_⟩
      have hos:=hos.t hs30 |>.t hs31
      refine G0 7 255 rfl rfl (h_store hs31.sat hos rfl rfl rfl V rfl rfl rfl fun w32 hs32 hn32=>?_)
      clear hos; have hos:=hn32; clear hn32
      have:=hs32.size
      refine ⟨trivial,?_⟩
      refine Dd V ?_
      have hT:=hT.t hs30 |>.t hs31 |>.o hs32
      have hTs:=hT.size
      have hor:=hor.t hs30 |>.t hs31 |>.u hs32
      exact ⟨_,(.cons rfl (.cons rfl (.cons rfl (.cons rfl (.cons rfl (.nil _)))))),_,bs,_,_,by omega,by omega,rfl,hT.to O,hos,hor,hm1,hm2,hf,hg⟩
    ·have hqas:=hT.size
     refine Gi 6 75 rfl (Ks [F,F]) (h_allocO (z:=(.agg #[(.pointer none)])) hs20.sat V rfl fun bs w33 hs33 hos es=>?_)
     have:=hs33.size
     have hls:=hos.1.lt
     have hor:=hor.t hs33
     have hT:=hT.t hs33
     refine ⟨(by repeat' first | exact trivial | exact BD hs33 hb1 rfl | exact BD hs33 hb2 rfl | refine And.intro ?_ ?_),?_⟩
     refine Gh 2 79 rfl (Ks [F,T]) (h_call V rfl ?_)
     refine (ce_rest hs33.sat hca).mono ?_
     rintro _ w34 ⟨qa2,rfl,hs34,hca2⟩
     have:=hs34.size
     have hor:=hor.t hs34
     have hos:=hos.t hs34
     have hT:=hT.t hs34
     refine ⟨(by repeat' first | exact trivial | exact BD hs34 hb2 rfl | refine And.intro ?_ ?_),?_⟩
     refine Gh 4 95 rfl (Ks [T]) (h_call V rfl ?_)
     refine (ce_rest hs34.sat hcb).mono ?_
     rintro _ w35 ⟨qb2,rfl,hs35,hcb2⟩
     have:=hs35.size
     refine ⟨trivial,?_⟩
     refine Gh 5 127 rfl rfl (h_call V rfl ?_)
     have hml:=RT.sizes_length (bmeld ltE a b)
     have hms:=bmeld_size ltE a b
     refine (ih _ _ a b _ _ hs35.sat ⟨_,hca2,hka2⟩ ⟨_,hcb2,hkb2⟩ O O).mono ?_
     rintro v w36 ⟨qm,Mm,rfl,hs36,hm⟩
     obtain ⟨lm,hm1,hm2⟩:=hm
     have hmn:=hm2.length
     have hf:=hf.mono' EncE.mono hs36.le
     have hg:=hg.mono' EncE.mono hs36.le
     have:=hs36.size
     refine ⟨trivial,?_⟩
     have hos:=hos.t hs35 |>.t hs36
     refine G0 7 255 rfl rfl (h_store hs36.sat hos rfl rfl rfl V rfl rfl rfl fun w37 hs37 hn37=>?_)
     clear hos; have hos:=hn37; clear hn37
     have:=hs37.size
     refine ⟨trivial,?_⟩
     refine Dd V ?_
     have hT:=hT.t hs35 |>.t hs36 |>.o hs37
     have hTs:=hT.size
     have hor:=hor.t hs35 |>.t hs36 |>.u hs37
     exact ⟨_,(.cons rfl (.cons rfl (.cons rfl (.cons rfl (.cons rfl (.nil _)))))),_,bs,_,_,by omega,by omega,rfl,hT.to O,hos,hor,hm1,hm2,hf,hg⟩
   have hml:=RT.sizes_length (bmeld ltE a b)
   have hms:=bmeld_size ltE a b
   have hbrw:w.heap.size≤br:=by omega
   clear hT hor hf hg
   rintro l2 w5 ⟨M5,bs,qm,lm,hne,hbsw,rfl,hT,hos,hor,hm1,hm2,hf,hg⟩
   refine Rv fun Z=>?_
   have hs38:=Step.drew hT.sat
   have:=hs38.size
   refine Gm 0 1 rfl<|Gm 1 3 rfl<|Gm 2 7 rfl<|Gm 3 15 rfl ?_
   have hos:=hos.t hs38
   refine Gc 5 47 1 rfl (OD hos rfl)<|Gh 4 63 rfl (Ks [F]) (h_call V rfl ?_)
   refine (te_link hs38.sat hf hg O).mono ?_
   rintro _ w39 ⟨qn,Mn,rfl,hs39,hn⟩
   have hm2:=hm2.mono' EncE.mono hs39.le
   have:=hs39.size
   have hor:=hor.t hs38 |>.t hs39
   have hT:=hT.t hs38 |>.t hs39
   have hos:=hos.t hs39
   have hm1:=hm1.mono hs39.le
   refine ⟨(by repeat' first | exact trivial | exact OD hos rfl | refine And.intro ?_ ?_),?_⟩
   refine Gh 6 127 rfl (Ks [T]) (h_call V rfl ?_)
   refine (b_put hs39.sat hn ⟨_,hm1,hm2⟩ (by rw [RT.link_size]; omega)).mono ?_
   rintro _ w40 ⟨qz,Mz,rfl,hs40,hzz⟩
   have:=hs40.size
   refine ⟨trivial,?_⟩
   have hor:=hor.t hs40
   refine G0 7 255 rfl rfl (h_store hs40.sat hor rfl rfl rfl V rfl rfl rfl fun w41 hs41 hn41=>?_)
   clear hor; have hor:=hn41; clear hn41
   have:=hs41.size
   refine ⟨trivial,?_⟩
   refine Dx Z<|cw_ret ?_
   rw [show bmeld ltE (f::a) (g::b)=bput ltE (RT.link ltE f g) (bmeld ltE a b) from by rw [bmeld,if_neg hc2,if_neg hc3]]
   have hT:=hT.t hs40 |>.o hs41
   exact ⟨_,(Rc 1 rfl (OD hor rfl) res_nil),_,_,rfl,hT.to (by rw [bmeldC,if_neg hc2,if_neg hc3]; omega),hzz⟩
theorem b_meld_all:∀ k,BMeld mb k
 | 0=>fun _ _ _ _ _ _ _ _ _ h _=>absurd h (Nat.not_lt_zero _)
 | k+1=>fun w M a b qa qb hs ha hb hk hz=>by
  cases a with
  | nil=>
   obtain rfl:=frep_nil.1 ha
   cases b with
   | nil=>obtain rfl:=frep_nil.1 hb; rw [show bmeld ltE ([]:List (RT El)) []=[] by rw [bmeld],show bmeldC ltE ([]:List (RT El)) []=0 by rw [bmeldC]]; exact b_meld_00 hs
   | cons g b=>rw [show bmeld ltE [] (g::b)=g::b by rw [bmeld],show bmeldC ltE [] (g::b)=0 by rw [bmeldC]]; exact b_meld_01 hs hb
  | cons f a=>
   cases b with
   | nil=>obtain rfl:=frep_nil.1 hb; rw [show bmeld ltE (f::a) []=f::a by rw [bmeld],show bmeldC ltE (f::a) []=0 by rw [bmeldC]]; exact b_meld_10 hs ha
   | cons g b=>exact b_meld_11 (b_meld_all k) hs ha hb hk hz
theorem b_meld {ts us:List (RT El)} {q q2:Option Addr} (hs:Sat M w) (h:FRep 266 287 2 EncE M ts q) (h2:FRep 266 287 2 EncE M us q2) (hz:RT.sizes ts+RT.sizes us≤1000000000):
  Dz 153 #[.agg #[.pointer q],mval mb, .agg #[.pointer q2]] w (fun v w'=>∃ q M',v = .agg #[.pointer q]∧StepC Nope (bmeldC ltE ts us) M w M' w'∧FRep 266 287 2 EncE M' (bmeld ltE ts us) q):=by
 have hT:=hs.r
 refine Fe Tryz.func153 [.cell 6 153] rfl<|Ri fun Z=>Bm hs rfl fun b1 M1 w1 hs1 hb1 e1=>?_
 have h:=h.mono' EncE.mono hs1.le
 have h2:=h2.mono' EncE.mono hs1.le
 have:=hs1.size
 refine Bm hs1.sat rfl fun b2 M2 w2 hs2 hb2 e2=>?_
 have h:=h.mono' EncE.mono hs2.le
 have h2:=h2.mono' EncE.mono hs2.le
 have:=hs2.size
 have hT:=hT.t hs1 |>.t hs2
 have:=hT.size
 refine Al (.agg #[(.pointer none)]) hs2.sat rfl fun br w3 hs3 hor er=>?_
 have:=hs3.size
 have:=hor.1.lt
 refine Nr Z fun Z=>Qm rfl<|Qf 0 rfl ?_
 have hb1:=hs2.le _ _ hb1
 refine Qc 1 rfl (BD hs3 hb1 rfl)<|Qf 0 rfl<|Qc 1 rfl (BD hs3 hb2 rfl)<|Ca rfl ((b_meld_all _ _ _ ts us _ _ hs3.sat h h2 (Nat.lt_succ_self _) hz).mono ?_)
 rintro v w4 ⟨qm,Mm,rfl,hs4,hm⟩
 have h:=h.mono' EncE.mono hs4.le
 have:=hs4.size
 refine Qq rfl (q_build (zs:=[(.pointer none)]) (places:=[(0,1)]) (cs:=[_]) V V rfl rfl) ?_
 have hor:=hor.t hs4
 refine St hs4.sat hor rfl fun w5 hs5 hor=>?_
 have:=hs5.size
 refine Nx Z<|cw_ret ?_
 have hT:=hT.t hs3 |>.t hs4 |>.o hs5
 exact ⟨_,(Rc 1 rfl (OD hor rfl) res_nil),_,_,rfl,hT.to O,hm⟩
end Go.Proofs.YtnnldppehojffaaGreat
/- Skew binomial heaps of elements, part 1. -/
namespace Go.Proofs.YtnnldppehojffaaGreat
open Go Go.Eng
variable {mb:Option Nat} {w:World} {M:Mem mb}
theorem se_size {ts:List (RT El)} {q:Option Addr} (hs:Sat M w) (h:FRep 266 287 2 EncE M ts q) (hz:RT.sizes ts≤1000000000):
  Dz 216 #[.agg #[.pointer q]] w (fun v w'=>v = .int .i64 (RT.sizes ts:Nat)∧Step Nope M w M w'):=by
 have hT:=hs.r
 obtain ⟨l,hc,hk,hll,hlz⟩:=h.len
 refine Fe Tryz.func216 [.tmp 2] rfl<|Ri fun Z=>Bm hs rfl fun b1 M1 w1 hs1 hb1 e1=>?_
 have hk:=hk.mono' EncE.mono hs1.le
 have:=hs1.size
 refine Nar rfl Z fun Z=>Na rfl Z<|cw_seq fun _ hK3=>Ri fun Z=>Qf 0 rfl<|Qc 1 rfl (BD hs1 hb1 rfl) ?_
 have hc:=hc.mono hs1.le
 refine Ca rfl ((ce_all hs1.sat hc O).mono ?_)
 rintro av w2 ⟨Ma,hs2,hba,hfa⟩
 have hk:=hk.mono' EncE.mono hs2.le
 have:=hs2.size
 obtain ⟨aa,ac,rfl,_,_⟩:=hba.slice
 refine Qq rfl (ql rfl)<|Qm rfl<|Nx Z<|cw_block ?_
 have hT:=hT.t hs1 |>.t hs2
 refine cw_loop (fun mm l1 w1=>∃ (i:Nat) (z:Int),mm=l.length-i∧i≤l.length∧z=(RT.sizes (ts.take i):Nat)∧l1=[(8, .slice aa l.length ac),(9, .int .i64 (l.length:Nat)),(10, .int .i64 i),(3, .int .i64 z)]∧Step Nope M w Ma w1∧Buf w1 Ma 264 1 (.slice aa l.length ac) l.length (ptrs l)) (l.length) [(8, .slice aa l.length ac),(9, .int .i64 (l.length:Nat)),(10, .int .i64 (0:Nat)),(3, .int .i64 (0:Nat))] (.cons rfl (.cons rfl (.cons rfl (.cons rfl (.nil _))))) ?_ ?_
 ·exact ⟨0,_,rfl,Nat.zero_le _,rfl,rfl,hT,hba⟩
 clear hT hba
 rintro mm l1 w1 ⟨i,z,rfl,hi,rfl,rfl,hT,hba⟩
 refine Ri fun Z=>Qq rfl (q_lt rfl rfl)<|Nx Z<|cw_seq fun _ hK6=>cw_cond rfl (fun hc0=>?_) (fun hc0=>?_)
 ·have hlt:i<l.length:=by have:=of_decide_eq_true hc0; omega
  obtain ⟨k,hkk⟩:∃ k,ts[i]? = some k:=⟨ts[i]'O,by simp⟩
  obtain ⟨kq,hkq,hkr⟩:=hk.get hkk
  obtain ⟨g,o,rfl⟩:=hba.rd.there O
  have hks1:=RT.sizes_take hkk
  have hks2:=RT.sizes_take_le ts (i+1)
  refine cw_skip<|hK6 _ _<|cw_seq fun _ hK7=>cw_block<|Ri fun Z=>Qq rfl (qi 264 1 rfl)<|Q1 rfl (Buf.cell hba (u:= .pointer kq) (j:=(i:Int).toNat*1) (by rw [show (i:Int).toNat*1=i from by omega]; simp [ptrs,hkq]))<|Na rfl Z<|cw_region fun _ Z=>Qm rfl<|Qm rfl<|Ca rfl ((te_size hT.sat hkr).mono ?_)
  rintro _ w3 ⟨rfl,hs3⟩
  have:=hs3.size
  refine Qq rfl (qA rfl)<|Qa rfl<|as_nil (Z _ _ ?_)
  refine hK7 _ _<|cw_region fun _ Z=>Qq rfl (qA rfl)<|Qm rfl<|as_nil (Z _ _ ?_)
  have hba:=hba.t hs3
  have hT:=hT.t hs3
  refine ⟨_,_,?_,(.cons rfl (.cons rfl (.cons rfl (.cons rfl (.nil _))))),i+1,_,rfl,by omega,?_,rfl,hT,hba⟩
  ·omega
  ·omega
 ·have hge:i=l.length:=by have:=of_decide_eq_false hc0; omega
  refine cw_exit<|hK3 _ _<|Ri fun Z=>Qm rfl<|Na rfl Z<|cw_ret ?_
  subst hge
  exact ⟨_,Rt rfl,by rw [List.take_of_length_le O]; rfl,hT.forget⟩
theorem se_least1 {ts:List (RT El)} {l:List (Option Addr)} {sa:Option Addr} {sc:Nat} {b1 b2 b3 i j:Nat} {ki kb:RT El} (hs:Sat M w) (hl:M b1=some ([.slice sa ts.length sc],273)) (hm:M b3=some ([mval mb],49)) (hob:Own w M b2 [.int .i64 j] 3) (hr:Rds M w 1 (.slice sa ts.length sc) ts.length (ptrs l)) (hk:TReps 287 2 EncE M ts l) (hi:ts[i]? = some ki) (hj:ts[j]? = some kb):
  Dz 225 #[.int .i64 i, .pointer (some ⟨b1,0,none⟩), .pointer (some ⟨b2,0,none⟩), .pointer (some ⟨b3,0,none⟩)] w (fun v w'=>v = .bool (ltE ki.root kb.root)∧StepC Nope 1 M w (M.tick 1) w'):=by
 have hT:=hs.r
 have hr0:=hr
 have hil:i<ts.length:=(List.getElem?_eq_some_iff.1 hi).1
 have hjl:j<ts.length:=(List.getElem?_eq_some_iff.1 hj).1
 obtain ⟨iq,hiq,hki⟩:=hk.get hi
 obtain ⟨bq,hbq,hkb⟩:=hk.get hj
 obtain ⟨g,o,rfl⟩:=(hr0 _ _ _ hT).there O
 have hbl2:=hob.1.lt
 refine Fe Tryz.func225 [.tmp 5] rfl<|Ri fun Z=>Nar rfl Z fun Z=>Q1 rfl (BlkR.cell (hs _ _ _ hl) rfl)<|Qm rfl<|Qq rfl (qi 264 1 rfl)<|Q1 rfl ((hr0 _ _ _ hT).cell (u:= .pointer iq) (j:=((i:Nat):Int).toNat*1) (by rw [show ((i:Nat):Int).toNat*1=i from by omega]; simp [ptrs,hiq]))<|Ca rfl ((te_root hs hki).mono ?_)
 rintro _ w1 ⟨rfl,hs1⟩
 have:=hs1.size
 refine Qm rfl<|Qe rfl<|Qe rfl ?_
 have hT:=hT.t hs1
 have:=hT.size
 refine Al (.agg #[(.int .i64 0),(.int .i64 0)]) hs1.sat rfl fun bu w2 hs2 hou eu=>?_
 have:=hs2.size
 have:=hou.1.lt
 refine St hs2.sat hou rfl fun w3 hs3 hou=>?_
 have:=hs3.size
 refine Nar rfl Z fun Z=>Q1 rfl (BC hs3 hl rfl) ?_
 have hob:=hob.t hs1 |>.t hs2 |>.u hs3
 refine Q1 rfl (OC hob rfl)<|Qq rfl (qi 264 1 rfl) ?_
 have hT:=hT.t hs2 |>.o hs3
 refine Q1 rfl ((hr0 _ _ _ hT).cell (u:= .pointer bq) (j:=((j:Nat):Int).toNat*1) (by rw [show ((j:Nat):Int).toNat*1=j from by omega]; simp [ptrs,hbq]))<|Ca rfl ((te_root hs3.sat hkb).mono ?_)
 rintro _ w4 ⟨rfl,hs4⟩
 have:=hs4.size
 refine Qm rfl<|Qe rfl<|Qe rfl ?_
 have hT:=hT.t hs4
 have:=hT.size
 refine Al (.agg #[(.int .i64 0),(.int .i64 0)]) hs4.sat rfl fun bv w5 hs5 hov ev=>?_
 have:=hs5.size
 have:=hov.1.lt
 refine St hs5.sat hov rfl fun w6 hs6 hov=>?_
 have:=hs6.size
 refine Na rfl Z<|Rv fun Z=>?_
 have hs7:=Step.drew hs6.sat
 have:=hs7.size
 refine G1 0 1 rfl (BC hs7 hm rfl) ?_
 have hou:=hou.t hs4 |>.t hs5 |>.u hs6 |>.t hs7
 refine Gc 1 3 2 rfl (OD hou rfl)<|Gq 2 7 rfl (fun _=>qf rfl) ?_
 have hov:=hov.t hs7
 refine Gc 4 23 2 rfl (OD hov rfl)<|Gq 5 55 rfl (fun _=>qf rfl)<|Gh 3 63 rfl (Ks [F,F,F]) (h_invoke (f:=141) (r:= .agg (elc ki.root).toArray) V rfl rfl V ?_)
 refine (el_key (x:=ki.root) hs7.sat).mono ?_
 rintro _ w8 ⟨rfl,hs8⟩
 have:=hs8.size
 have hT:=hT.t hs5 |>.o hs6 |>.t hs7 |>.t hs8
 have hou:=hou.t hs8
 have hov:=hov.t hs8
 refine ⟨(by repeat' first | exact trivial | exact BC hs8 hm rfl | exact OD hou rfl | exact OD hov rfl | refine And.intro ?_ ?_),?_⟩
 refine Gh 6 127 rfl (Ks [F,F,F]) (h_invoke (f:=141) (r:= .agg (elc kb.root).toArray) V rfl rfl V ?_)
 refine (el_key (x:=kb.root) hs8.sat).mono ?_
 rintro _ w9 ⟨rfl,hs9⟩
 have:=hs9.size
 have hou:=hou.t hs9
 have hov:=hov.t hs9
 have hT:=hT.t hs9
 refine ⟨(by repeat' first | exact trivial | exact BC hs9 hm rfl | exact OD hou rfl | exact OD hov rfl | refine And.intro ?_ ?_),?_⟩
 refine Gh 7 255 rfl (Ks [F,F,T]) (h_call V rfl ?_)
 refine (m_less (a:=ki.root) (b:=kb.root) hs9.sat).mono ?_
 rintro _ w10 ⟨rfl,hs10⟩
 have:=hs10.size
 have hou:=hou.t hs10
 have hov:=hov.t hs10
 have hT:=hT.t hs10
 refine ⟨(by repeat' first | exact trivial | exact OD hou rfl | exact OD hov rfl | refine And.intro ?_ ?_),?_⟩
 refine Ga 8 511 rfl<|Dx Z<|cw_ret ?_
 exact ⟨_,Rt rfl,rfl,hT.tk rfl⟩
theorem se_least {ts:List (RT El)} {l:List (Option Addr)} {sa:Option Addr} {sc:Nat} (hs:Sat M w) (hr:Rds M w 1 (.slice sa ts.length sc) ts.length (ptrs l)) (hk:TReps 287 2 EncE M ts l) (hz:ts.length≤1000000000):
  Dz 221 #[mval mb, .slice sa ts.length sc] w (fun v w'=>v = .int .i64 (leastN ltE (ts.map RT.root) (ts.length-1):Nat)∧StepC Nope (ts.length-1) M w (M.tick (ts.length-1)) w'):=by
 have hT:=hs.r
 have hrts:∀ (j:Nat) (t:RT El),ts[j]? = some t→(ts.map RT.root)[j]? = some t.root:=fun j t h=>by rw [List.getElem?_map,h]; rfl
 have hr0:=hr
 refine Fe Tryz.func221 [.tmp 4] rfl<|Ri fun Z=>Bm hs rfl fun b1 M1 w1 hs1 hb1 e1=>?_
 have hk:=hk.mono' EncE.mono hs1.le
 have:=hs1.size
 refine Bm hs1.sat rfl fun b2 M2 w2 hs2 hb2 e2=>?_
 have hk:=hk.mono' EncE.mono hs2.le
 have:=hs2.size
 refine Nar rfl Z fun Z=>?_
 have hT:=hT.t hs1 |>.t hs2
 have:=hT.size
 refine Al (.int .i64 0) hs2.sat rfl fun bb w3 hs3 hob eb=>?_
 have:=hs3.size
 have:=hob.1.lt
 refine St hs3.sat hob rfl fun w4 hs4 hob=>?_
 have:=hs4.size
 refine Nr Z fun Z=>Qq rfl (q_func rfl rfl)<|Na rfl Z<|cw_seq fun _ hK4=>Ri fun Z=>Na rfl Z<|cw_block ?_
 have hb1:=hs2.le _ _ hb1
 have hT:=hT.t hs3 |>.o hs4
 refine cw_loop (fun mm l1 w1=>∃ (i:Nat) (z:Int) (M3:Mem mb),mm=ts.length-i∧1≤i∧(i≤ts.length∨i=1)∧z=(leastN ltE (ts.map RT.root) (i-1):Nat)∧l1=[(3, .pointer (some ⟨b2,0,none⟩)),(5, .pointer (some ⟨bb,0,none⟩)),(6, .func (.func 225) #[] #[.pointer (some ⟨b2,0,none⟩), .pointer (some ⟨bb,0,none⟩), .pointer (some ⟨b1,0,none⟩)]),(7, .int .i64 i)]∧Le M2 M3∧StepC Nope (i-1) M w M3 w1∧Own w1 M3 bb [.int .i64 z] 3) (ts.length-1) [(3, .pointer (some ⟨b2,0,none⟩)),(5, .pointer (some ⟨bb,0,none⟩)),(6, .func (.func 225) #[] #[.pointer (some ⟨b2,0,none⟩), .pointer (some ⟨bb,0,none⟩), .pointer (some ⟨b1,0,none⟩)]),(7, .int .i64 (1:Nat))] (.cons rfl (.cons rfl (.cons rfl (.cons rfl (.nil _))))) ?_ ?_
 ·exact ⟨1,_,_,by omega,by omega,by omega,rfl,rfl,Le.refl _,hT,hob⟩
 have hbw0:w.heap.size≤bb:=by omega
 clear hT hob
 rintro mm l1 w1 ⟨i,z,M3,rfl,hi1,hi,rfl,rfl,hle,hT,hob⟩
 have hk:=hk.mono' EncE.mono hle
 have hb1:=hle _ _ hb1
 have hb2:=hle _ _ hb2
 refine cw_seq fun _ hK6=>Ri fun Z=>Qm rfl<|Q1 rfl (BC hT hb2 rfl)<|Qq rfl (ql rfl)<|Qq rfl (q_lt rfl rfl)<|Nx Z<|cw_cond rfl (fun hc0=>?_) (fun hc0=>?_)
 ·have hlt:i<ts.length:=by have:=of_decide_eq_true hc0; omega
  obtain ⟨k,hkk⟩:∃ k,ts[i]? = some k:=⟨ts[i],by simp⟩
  have hbl:=leastN_le ltE (ts.map RT.root) (i-1)
  obtain ⟨kb,hkb0⟩:∃ k,ts[leastN ltE (ts.map RT.root) (i-1)]? = some k:=⟨ts[leastN ltE (ts.map RT.root) (i-1)]'O,by simp⟩
  have hstep:=leastN_step (lt:=ltE) (i:=i-1) (hrts _ k (by rw [show i-1+1=i by omega]; exact hkk)) (hrts _ kb hkb0)
  rw [show i-1+1=i by omega] at hstep
  refine cw_skip<|hK6 _ _<|cw_seq fun _ hK8=>cw_block<|Ri fun Z=>Qm rfl<|Qm rfl<|as_h rfl (h_callv (f:=225) (first:=[]) (cap:=[.pointer (some ⟨b2,0,none⟩), .pointer (some ⟨bb,0,none⟩), .pointer (some ⟨b1,0,none⟩)]) V rfl rfl rfl ?_)
  refine (se_least1 hT.sat hb2 hb1 hob (hr0.step hT) hk hkk hkb0).mono ?_
  rintro _ w5 ⟨rfl,hs5⟩
  have:=hs5.size
  refine Nx Z ?_
  have hob:=hob.t hs5
  have hT:=hT.t hs5
  refine cw_cond rfl (fun hc1=>?_) (fun hc1=>?_)
  ·rw [if_pos hc1] at hstep
   refine cw_region fun _ Z=>Qm rfl<|St hs5.sat hob rfl fun w6 hs6 hob=>?_
   have:=hs6.size
   refine as_nil (Z _ _ ?_)
   refine hK8 _ _<|cw_region fun _ Z=>Qm rfl<|Qq rfl (qA rfl)<|Qa rfl<|as_nil (Z _ _ ?_)
   have hT:=hT.o hs6
   refine ⟨_,_,?_,(.cons rfl (.cons rfl (.cons rfl (.cons rfl (.nil _))))),i+1,_,M3.tick 1,rfl,by omega,by omega,?_,rfl,hle,hT.to O,hob⟩
   ·omega
   ·rw [show i+1-1=i by omega,hstep]
  ·rw [if_neg (by rw [hc1]; decide)] at hstep
   refine cw_skip<|hK8 _ _<|cw_region fun _ Z=>Qm rfl<|Qq rfl (qA rfl)<|Qa rfl<|as_nil (Z _ _ ?_)
   refine ⟨_,_,?_,(.cons rfl (.cons rfl (.cons rfl (.cons rfl (.nil _))))),i+1,_,M3.tick 1,rfl,by omega,by omega,?_,rfl,hle,hT.to O,hob⟩
   ·omega
   ·rw [show i+1-1=i by omega,hstep]
 ·have hge:i-1=ts.length-1:=by have:=of_decide_eq_false hc0; omega
  refine cw_exit<|hK4 _ _<|Ri fun Z=>Q1 rfl (OC hob rfl)<|Na rfl Z<|cw_ret ?_
  exact ⟨_,Rt rfl,by rw [hge]; rfl,hT.tk O⟩
theorem se_insert_n {x:El} (hs:Sat M w):
  Dz 211 #[.agg #[.pointer none],mval mb, .agg (elc x).toArray] w (fun v w'=>∃ q M',v = .agg #[.pointer q]∧StepC Nope (sinsertC ([]:List (RT El))) M w M' w'∧FRep 266 287 2 EncE M' (sinsert ltE x []) q):=by
 have hT:=hs.r
 refine Fe Tryz.func211 [.cell 6 162] rfl<|Ri fun Z=>Bm hs rfl fun b1 M1 w1 hs1 hb1 e1=>?_
 have:=hs1.size
 refine Bm hs1.sat rfl fun b2 M2 w2 hs2 hb2 e2=>?_
 have:=hs2.size
 have hT:=hT.t hs1 |>.t hs2
 have:=hT.size
 refine Al (.agg #[(.pointer none)]) hs2.sat rfl fun br w3 hs3 hor er=>?_
 have:=hs3.size
 have:=hor.1.lt
 refine Nr Z fun Z=>Qf 0 rfl ?_
 have hb1:=hs2.le _ _ hb1
 refine Qc 1 rfl (BD hs3 hb1 rfl)<|Ca rfl ((ce_first_n hs3.sat).mono ?_)
 rintro _ w4 ⟨rfl,hs4⟩
 have:=hs4.size
 refine Qm rfl<|Qe rfl<|Qe rfl<|Qa rfl<|Nar rfl Z fun Z=>Qf 0 rfl<|Qc 1 rfl (BD hs4 hb1 rfl)<|Ca rfl ((ce_rest_n hs4.sat).mono ?_)
 rintro _ w5 ⟨rfl,hs5⟩
 have:=hs5.size
 refine Ca rfl ((ce_first_n hs5.sat).mono ?_)
 rintro _ w6 ⟨rfl,hs6⟩
 have:=hs6.size
 refine Qm rfl<|Qe rfl<|Qe rfl<|Qa rfl<|Na rfl Z<|cw_seq fun _ hK4=>Ri fun Z=>Qm rfl<|Qm rfl<|as_gskip rfl rfl rfl rfl rfl<|as_gskip rfl rfl rfl rfl rfl<|as_gskip rfl rfl rfl rfl rfl<|as_gskip rfl rfl rfl rfl rfl<|as_gskip rfl rfl rfl rfl rfl<|Qq rfl (q_pick_f rfl rfl)<|Nx Z<|cw_false rfl<|cw_skip<|hK4 _ _<|Rv fun Z=>?_
 have hs7:=Step.drew hs6.sat
 have:=hs7.size
 refine Gf 0 1 0 rfl<|Gc 1 3 1 rfl (BD hs7 hb1 rfl)<|Gm 2 7 rfl<|Gc 3 15 2 rfl (BD hs7 hb2 rfl)<|Gh 4 31 rfl (Ks [T,F]) (h_call V rfl ?_)
 refine (te_leaf (x:=x) hs7.sat).mono ?_
 rintro _ w8 ⟨qn,Mn,rfl,hs8,hn⟩
 have:=hs8.size
 have hT:=hT.t hs3 |>.t hs4 |>.t hs5 |>.t hs6 |>.t hs7 |>.t hs8
 have hor:=hor.t hs4 |>.t hs5 |>.t hs6 |>.t hs7 |>.t hs8
 have hb1:=hs8.le _ _ hb1
 refine ⟨(by repeat' first | exact trivial | exact BD hs8 hb1 rfl | refine And.intro ?_ ?_),?_⟩
 refine Gh 5 63 rfl (Ks [T]) (h_call V rfl ?_)
 refine (ce_push hs8.sat (show CRep 266 _ [] (.pointer none) from rfl) (by simp)).mono ?_
 rintro _ w9 ⟨qp,Mp,rfl,hs9,hp⟩
 have hn:=hn.mono' EncE.mono hs9.le
 have:=hs9.size
 refine ⟨trivial,?_⟩
 refine Gq 6 127 rfl (fun _=>(q_build (zs:=[(.pointer none)]) (places:=[(0,1)]) (cs:=[_]) V V rfl rfl)) ?_
 have hor:=hor.t hs9
 refine G0 7 255 rfl rfl (h_store hs9.sat hor rfl rfl rfl V rfl rfl rfl fun w10 hs10 hn10=>?_)
 clear hor; have hor:=hn10; clear hn10
 have:=hs10.size
 refine ⟨trivial,?_⟩
 refine Dx Z<|cw_ret ?_
 have hT:=hT.t hs9 |>.o hs10
 exact ⟨_,(Rc 1 rfl (OD hor rfl) res_nil),_,_,rfl,hT.to rfl,_,hp,treps_cons.2 ⟨_,_,rfl,hn,treps_nil.2 rfl⟩⟩
theorem se_insert_1 {x:El} {ta:RT El} {q:Option Addr} (hs:Sat M w) (h:FRep 266 287 2 EncE M [ta] q):
  Dz 211 #[.agg #[.pointer q],mval mb, .agg (elc x).toArray] w (fun v w'=>∃ q M',v = .agg #[.pointer q]∧StepC Nope (sinsertC ([ta]:List (RT El))) M w M' w'∧FRep 266 287 2 EncE M' (sinsert ltE x [ta]) q):=by
 have hT:=hs.r
 obtain ⟨l,hc,hk⟩:=h
 obtain ⟨qa,l2,rfl,hka,hk2⟩:=treps_cons.1 hk
 obtain rfl:=treps_nil.1 hk2
 clear hk2
 refine Fe Tryz.func211 [.cell 6 162] rfl<|Ri fun Z=>Bm hs rfl fun b1 M1 w1 hs1 hb1 e1=>?_
 have hk:=hk.mono' EncE.mono hs1.le
 have:=hs1.size
 refine Bm hs1.sat rfl fun b2 M2 w2 hs2 hb2 e2=>?_
 have hk:=hk.mono' EncE.mono hs2.le
 have:=hs2.size
 have hT:=hT.t hs1 |>.t hs2
 have:=hT.size
 refine Al (.agg #[(.pointer none)]) hs2.sat rfl fun br w3 hs3 hor er=>?_
 have:=hs3.size
 have:=hor.1.lt
 refine Nr Z fun Z=>Qf 0 rfl ?_
 have hb1:=hs2.le _ _ hb1
 refine Qc 1 rfl (BD hs3 hb1 rfl) ?_
 have hc:=hc.mono hs1.le |>.mono hs2.le
 refine Ca rfl ((ce_first hs3.sat hc).mono ?_)
 rintro _ w4 ⟨rfl,hs4⟩
 have:=hs4.size
 refine Qm rfl<|Qe rfl<|Qe rfl<|Qa rfl<|Nar rfl Z fun Z=>Qf 0 rfl<|Qc 1 rfl (BD hs4 hb1 rfl)<|Ca rfl ((ce_rest hs4.sat hc).mono ?_)
 rintro _ w5 ⟨qr,rfl,hs5,hcr⟩
 have:=hs5.size
 have hT:=hT.t hs3 |>.t hs4 |>.t hs5
 have hor:=hor.t hs4 |>.t hs5
 have hqr:qr=none:=by
  have h:Value.pointer qr = .pointer none:=hcr
  cases h; rfl
 subst hqr
 refine Ca rfl ((ce_first_n hs5.sat).mono ?_)
 rintro _ w6 ⟨rfl,hs6⟩
 have:=hs6.size
 refine Qm rfl<|Qe rfl<|Qe rfl<|Qa rfl<|Na rfl Z<|cw_seq fun _ hK4=>Ri fun Z=>Qm rfl<|Qm rfl<|as_gskip rfl rfl rfl rfl rfl<|as_gskip rfl rfl rfl rfl rfl<|as_gskip rfl rfl rfl rfl rfl<|as_gskip rfl rfl rfl rfl rfl<|as_gskip rfl rfl rfl rfl rfl<|Qq rfl (q_pick_f rfl rfl)<|Nx Z<|cw_false rfl<|cw_skip<|hK4 _ _<|Rv fun Z=>?_
 have hs7:=Step.drew hs6.sat
 have:=hs7.size
 refine Gf 0 1 0 rfl<|Gc 1 3 1 rfl (BD hs7 hb1 rfl)<|Gm 2 7 rfl<|Gc 3 15 2 rfl (BD hs7 hb2 rfl)<|Gh 4 31 rfl (Ks [T,F]) (h_call V rfl ?_)
 refine (te_leaf (x:=x) hs7.sat).mono ?_
 rintro _ w8 ⟨qn,Mn,rfl,hs8,hn⟩
 have hk:=hk.mono' EncE.mono hs8.le
 have:=hs8.size
 have hor:=hor.t hs6 |>.t hs7 |>.t hs8
 have hT:=hT.t hs6 |>.t hs7 |>.t hs8
 have hc:=hc.mono hs8.le
 have hb1:=hs8.le _ _ hb1
 refine ⟨(by repeat' first | exact trivial | exact BD hs8 hb1 rfl | refine And.intro ?_ ?_),?_⟩
 refine Gh 5 63 rfl (Ks [T]) (h_call V rfl ?_)
 refine (ce_push hs8.sat hc (by simp)).mono ?_
 rintro _ w9 ⟨qp,Mp,rfl,hs9,hp⟩
 have hk:=hk.mono' EncE.mono hs9.le
 have hn:=hn.mono' EncE.mono hs9.le
 have:=hs9.size
 refine ⟨trivial,?_⟩
 refine Gq 6 127 rfl (fun _=>(q_build (zs:=[(.pointer none)]) (places:=[(0,1)]) (cs:=[_]) V V rfl rfl)) ?_
 have hor:=hor.t hs9
 refine G0 7 255 rfl rfl (h_store hs9.sat hor rfl rfl rfl V rfl rfl rfl fun w10 hs10 hn10=>?_)
 clear hor; have hor:=hn10; clear hn10
 have:=hs10.size
 refine ⟨trivial,?_⟩
 refine Dx Z<|cw_ret ?_
 have hT:=hT.t hs9 |>.o hs10
 exact ⟨_,(Rc 1 rfl (OD hor rfl) res_nil),_,_,rfl,hT.to rfl,_,hp,treps_cons.2 ⟨_,_,rfl,hn,hk⟩⟩
theorem se_insert_2 {x:El} {ta tb:RT El} {ts:List (RT El)} {q:Option Addr} (hs:Sat M w) (h:FRep 266 287 2 EncE M (ta::tb::ts) q) (hz:RT.sizes (ta::tb::ts)<1000000000):
  Dz 211 #[.agg #[.pointer q],mval mb, .agg (elc x).toArray] w (fun v w'=>∃ q M',v = .agg #[.pointer q]∧StepC Nope (sinsertC ((ta::tb::ts):List (RT El))) M w M' w'∧FRep 266 287 2 EncE M' (sinsert ltE x (ta::tb::ts)) q):=by
 have hT:=hs.r
 obtain ⟨l,hc,hk⟩:=h
 obtain ⟨qa,l2,rfl,hka,hk2⟩:=treps_cons.1 hk
 obtain ⟨qb,lt,rfl,hkb,hkt⟩:=treps_cons.1 hk2
 clear hk2
 refine Fe Tryz.func211 [.cell 6 162] rfl<|Ri fun Z=>Bm hs rfl fun b1 M1 w1 hs1 hb1 e1=>?_
 have hk:=hk.mono' EncE.mono hs1.le
 have hka:=hka.mono' EncE.mono hs1.le
 have hkb:=hkb.mono' EncE.mono hs1.le
 have hkt:=hkt.mono' EncE.mono hs1.le
 have:=hs1.size
 refine Bm hs1.sat rfl fun b2 M2 w2 hs2 hb2 e2=>?_
 have hk:=hk.mono' EncE.mono hs2.le
 have hka:=hka.mono' EncE.mono hs2.le
 have hkb:=hkb.mono' EncE.mono hs2.le
 have hkt:=hkt.mono' EncE.mono hs2.le
 have:=hs2.size
 have hT:=hT.t hs1 |>.t hs2
 have:=hT.size
 refine Al (.agg #[(.pointer none)]) hs2.sat rfl fun br w3 hs3 hor er=>?_
 have:=hs3.size
 have:=hor.1.lt
 refine Nr Z fun Z=>Qf 0 rfl ?_
 have hb1:=hs2.le _ _ hb1
 refine Qc 1 rfl (BD hs3 hb1 rfl) ?_
 have hc:=hc.mono hs1.le |>.mono hs2.le
 refine Ca rfl ((ce_first hs3.sat hc).mono ?_)
 rintro _ w4 ⟨rfl,hs4⟩
 have:=hs4.size
 refine Qm rfl<|Qe rfl<|Qe rfl<|Qa rfl<|Nar rfl Z fun Z=>Qf 0 rfl<|Qc 1 rfl (BD hs4 hb1 rfl)<|Ca rfl ((ce_rest hs4.sat hc).mono ?_)
 rintro _ w5 ⟨qr,rfl,hs5,hcr⟩
 have:=hs5.size
 refine Ca rfl ((ce_first hs5.sat hcr).mono ?_)
 rintro _ w6 ⟨rfl,hs6⟩
 have:=hs6.size
 refine Qm rfl<|Qe rfl<|Qe rfl<|Qa rfl<|Na rfl Z<|cw_seq fun _ hK4=>Ri fun Z=>Qm rfl<|Qm rfl<|as_gh rfl rfl rfl rfl (h_q rfl (q_move rfl) ?_)
 refine as_gh rfl rfl rfl rfl (h_call V rfl ?_)
 refine (te_rank hs6.sat hka).mono ?_
 rintro _ w7 ⟨rfl,hs7⟩
 have:=hs7.size
 refine as_gh rfl rfl rfl rfl (h_q rfl (q_move rfl) ?_)
 refine as_gh rfl rfl rfl rfl (h_call V rfl ?_)
 refine (te_rank hs7.sat hkb).mono ?_
 rintro _ w8 ⟨rfl,hs8⟩
 have:=hs8.size
 refine as_gh rfl rfl rfl rfl (h_q rfl (q_eq rfl rfl) ?_)
 refine Qq rfl (q_pick_t rfl rfl)<|Nx Z ?_
 have hT:=hT.t hs3 |>.t hs4 |>.t hs5 |>.t hs6 |>.t hs7 |>.t hs8
 have hor:=hor.t hs4 |>.t hs5 |>.t hs6 |>.t hs7 |>.t hs8
 refine cw_cond rfl (fun hc0=>?_) (fun hc0=>?_)
 ·replace hc0:ta.rank=tb.rank:=by have:=of_decide_eq_true hc0; omega
  refine Rv fun Z=>?_
  have hs9:=Step.drew hs8.sat
  have:=hs9.size
  refine Gf 0 1 0 rfl<|Gc 1 3 1 rfl (BD hs9 hb1 rfl)<|Gm 3 11 rfl<|Gc 4 27 2 rfl (BD hs9 hb2 rfl)<|Gm 5 59 rfl<|Gm 6 123 rfl<|Gh 2 127 rfl (Ks [F,T]) (h_call V rfl ?_)
  refine (ce_drop (n:=2) hs9.sat hc (by decide)).mono ?_
  rintro _ w10 ⟨qd,rfl,hs10,hcd⟩
  replace hcd:CRep 266 _ lt (.pointer qd):=hcd
  have:=hs10.size
  have hor:=hor.t hs9 |>.t hs10
  have hT:=hT.t hs9 |>.t hs10
  refine ⟨(by repeat' first | exact trivial | exact BD hs10 hb2 rfl | refine And.intro ?_ ?_),?_⟩
  refine Gh 7 255 rfl (Ks [T]) (h_call V rfl ?_)
  refine (te_skew (x:=x) hs10.sat hka hkb (by simp only [RT.sizes] at hz; omega)).mono ?_
  rintro _ w11 ⟨qn,Mn,rfl,hs11,hn⟩
  have hk:=hk.mono' EncE.mono hs11.le
  have hkt:=hkt.mono' EncE.mono hs11.le
  have:=hs11.size
  refine ⟨trivial,?_⟩
  refine Gh 8 511 rfl rfl (h_call V rfl ?_)
  have hcd:=hcd.mono hs11.le
  refine (ce_push hs11.sat hcd (by have:=RT.sizes_length ts; have:=hkt.length; simp only [RT.sizes] at hz; simp; omega)).mono ?_
  rintro _ w12 ⟨qp,Mp,rfl,hs12,hp⟩
  have hk:=hk.mono' EncE.mono hs12.le
  have hkt:=hkt.mono' EncE.mono hs12.le
  have hn:=hn.mono' EncE.mono hs12.le
  have:=hs12.size
  refine ⟨trivial,?_⟩
  refine Gq 9 1023 rfl (fun _=>(q_build (zs:=[(.pointer none)]) (places:=[(0,1)]) (cs:=[_]) V V rfl rfl)) ?_
  have hor:=hor.t hs11 |>.t hs12
  refine G0 10 2047 rfl rfl (h_store hs12.sat hor rfl rfl rfl V rfl rfl rfl fun w13 hs13 hn13=>?_)
  clear hor; have hor:=hn13; clear hn13
  have:=hs13.size
  refine ⟨trivial,?_⟩
  refine Dx Z<|cw_ret ?_
  rw [show sinsert ltE x (ta::tb::ts)=RT.skew ltE x ta tb::ts from if_pos hc0]
  have hT:=hT.t hs11 |>.t hs12 |>.o hs13
  exact ⟨_,(Rc 1 rfl (OD hor rfl) res_nil),_,_,rfl,hT.to (by simp [sinsertC,hc0]),_,hp,treps_cons.2 ⟨_,_,rfl,hn,hkt⟩⟩
 ·replace hc0:¬ ta.rank=tb.rank:=by have:=of_decide_eq_false hc0; omega
  refine cw_skip<|hK4 _ _<|Rv fun Z=>?_
  have hs14:=Step.drew hs8.sat
  have:=hs14.size
  refine Gf 0 1 0 rfl<|Gc 1 3 1 rfl (BD hs14 hb1 rfl)<|Gm 2 7 rfl<|Gc 3 15 2 rfl (BD hs14 hb2 rfl)<|Gh 4 31 rfl (Ks [T,F]) (h_call V rfl ?_)
  refine (te_leaf (x:=x) hs14.sat).mono ?_
  rintro _ w15 ⟨qn,Mn,rfl,hs15,hn⟩
  have hk:=hk.mono' EncE.mono hs15.le
  have hkt:=hkt.mono' EncE.mono hs15.le
  have:=hs15.size
  have hor:=hor.t hs14 |>.t hs15
  have hT:=hT.t hs14 |>.t hs15
  have hc:=hc.mono hs15.le
  have hb1:=hs15.le _ _ hb1
  refine ⟨(by repeat' first | exact trivial | exact BD hs15 hb1 rfl | refine And.intro ?_ ?_),?_⟩
  refine Gh 5 63 rfl (Ks [T]) (h_call V rfl ?_)
  refine (ce_push hs15.sat hc (by simp; have:=RT.sizes_length ts; have:=ta.size_pos; have:=tb.size_pos; have:=hkt.length; simp only [RT.sizes] at hz; omega)).mono ?_
  rintro _ w16 ⟨qp,Mp,rfl,hs16,hp⟩
  have hk:=hk.mono' EncE.mono hs16.le
  have hn:=hn.mono' EncE.mono hs16.le
  have:=hs16.size
  refine ⟨trivial,?_⟩
  refine Gq 6 127 rfl (fun _=>(q_build (zs:=[(.pointer none)]) (places:=[(0,1)]) (cs:=[_]) V V rfl rfl)) ?_
  have hor:=hor.t hs16
  refine G0 7 255 rfl rfl (h_store hs16.sat hor rfl rfl rfl V rfl rfl rfl fun w17 hs17 hn17=>?_)
  clear hor; have hor:=hn17; clear hn17
  have:=hs17.size
  refine ⟨trivial,?_⟩
  refine Dx Z<|cw_ret ?_
  rw [show sinsert ltE x (ta::tb::ts)=RT.leaf x::ta::tb::ts from if_neg hc0]
  have hT:=hT.t hs16 |>.o hs17
  exact ⟨_,(Rc 1 rfl (OD hor rfl) res_nil),_,_,rfl,hT.to (by simp [sinsertC,hc0]),_,hp,treps_cons.2 ⟨_,_,rfl,hn,hk⟩⟩
theorem se_insert {x:El} {ts:List (RT El)} {q:Option Addr} (hs:Sat M w) (h:FRep 266 287 2 EncE M ts q) (hz:RT.sizes ts<1000000000):
  Dz 211 #[.agg #[.pointer q],mval mb, .agg (elc x).toArray] w (fun v w'=>∃ q M',v = .agg #[.pointer q]∧StepC Nope (sinsertC ts) M w M' w'∧FRep 266 287 2 EncE M' (sinsert ltE x ts) q):=by
 match ts,h,hz with
 | [],h,_=>obtain rfl:=frep_nil.1 h; exact se_insert_n hs
 | [ta],h,_=>exact se_insert_1 hs h
 | ta::tb::ts,h,hz=>exact se_insert_2 hs h hz
theorem se_min {ts:List (RT El)} {t:RT El} {q:Option Addr} (hs:Sat M w) (h:FRep 266 287 2 EncE M ts q) (ht:ts[leastN ltE (ts.map RT.root) (ts.length-1)]? = some t) (hz:RT.sizes ts≤1000000000):
  Dz 213 #[.agg #[.pointer q],mval mb] w (fun v w'=>v = .tuple #[.agg (elc t.root).toArray, .bool true]∧StepC Nope (ts.length-1) M w (M.tick (ts.length-1)) w'):=by
 have hT:=hs.r
 obtain ⟨l,hc,hk,hll,hlz⟩:=h.len
 obtain ⟨kq,hkq,hkr⟩:=hk.get ht
 have hpos:0<ts.length:=Nat.lt_of_le_of_lt (Nat.zero_le _) (List.getElem?_eq_some_iff.1 ht).1
 have hbl:=leastN_le ltE (ts.map RT.root) (ts.length-1)
 refine Fe Tryz.func213 [.cell 4 29, .tmp 5] rfl<|Ri fun Z=>Bm hs rfl fun b1 M1 w1 hs1 hb1 e1=>?_
 have hk:=hk.mono' EncE.mono hs1.le
 have hkr:=hkr.mono' EncE.mono hs1.le
 have:=hs1.size
 have hT:=hT.t hs1
 have:=hT.size
 refine Al (.agg #[(.int .i64 0),(.int .i64 0)]) hs1.sat rfl fun br w2 hs2 hor er=>?_
 have:=hs2.size
 have:=hor.1.lt
 refine Nar rfl Z fun Z=>Qf 0 rfl<|Qc 1 rfl (BD hs2 hb1 rfl) ?_
 have hc:=hc.mono hs1.le
 refine Ca rfl ((ce_all hs2.sat hc O).mono ?_)
 rintro av w3 ⟨Ma,hs3,hba,hfa⟩
 have hk:=hk.mono' EncE.mono hs3.le
 have hkr:=hkr.mono' EncE.mono hs3.le
 have:=hs3.size
 rw [hll] at hba
 obtain ⟨aa,ac,rfl,_,_⟩:=hba.slice
 obtain ⟨g,o,rfl⟩:=hba.rd.there O
 refine Na rfl Z<|cw_seq fun _ hK3=>Ri fun Z=>Qm rfl<|Qq rfl (ql rfl)<|Qq rfl (qEF rfl)<|Nx Z<|cw_false rfl<|cw_skip<|hK3 _ _<|Ri fun Z=>Qm rfl<|Qm rfl<|Qm rfl<|Ca rfl ((se_least hs3.sat hba.rds hk O).mono ?_)
 rintro _ w4 ⟨rfl,hs4⟩
 have hkr:=hkr.mono' EncE.mono hs4.le
 have:=hs4.size
 refine Qq rfl (qi 264 1 rfl) ?_
 have hba:=hba.t hs4
 refine Q1 rfl (Buf.cell hba (u:= .pointer kq) (j:=((leastN ltE (ts.map RT.root) (ts.length-1):Nat):Int).toNat*1) (by rw [show ((leastN ltE (ts.map RT.root) (ts.length-1):Nat):Int).toNat*1=leastN ltE (ts.map RT.root) (ts.length-1) from by omega]; simp [ptrs,hkq]))<|Ca rfl ((te_root hs4.sat hkr).mono ?_)
 rintro _ w5 ⟨rfl,hs5⟩
 have:=hs5.size
 refine Qe rfl<|Qe rfl ?_
 have hor:=hor.t hs3 |>.t hs4 |>.t hs5
 refine St hs5.sat hor rfl fun w6 hs6 hor=>?_
 have:=hs6.size
 refine Na rfl Z<|cw_ret ?_
 have hT:=hT.t hs2 |>.t hs3 |>.t hs4 |>.t hs5 |>.o hs6
 exact ⟨_,(Rc 2 rfl (OD hor rfl) (Rt rfl)),rfl,hT.tk O⟩
end Go.Proofs.YtnnldppehojffaaGreat
/- Skew binomial heaps of elements, part 2. -/
namespace Go.Proofs.YtnnldppehojffaaGreat
open Go Go.Eng
variable {mb:Option Nat} {w:World} {M:Mem mb}
theorem se_put {t0:RT El} {ts0:List (RT El)} {qt0:Option Addr} {v0:Value} (hs:Sat M w) (ht:TRep 287 2 EncE M t0 qt0) (h:SRow 287 2 EncE M w ts0 v0) (hz:t0.size+RT.sizes ts0≤1000000000):
  Dz 224 #[mval mb, .pointer qt0,v0] w (fun v w'=>∃ M',StepC Nope (bputC ltE t0 ts0) M w M' w'∧SRow 287 2 EncE M' w' (bput ltE t0 ts0) v):=by
 have hT:=hs.r
 obtain ⟨sa,sc,l,rfl,hr,hk⟩:=h
 refine Fe Tryz.func224 [.tmp 6] rfl<|Ri fun Z=>Na rfl Z<|cw_seq fun _ hK2=>cw_block<|cw_loop (fun mm l1 w1=>∃ (t:RT El) (ts:List (RT El)) (l:List (Option Addr)) (qt sa:Option Addr) (sc c:Nat) (M1:Mem mb),bputC ltE t0 ts0=c+bputC ltE t ts∧mm=ts.length∧bput ltE t ts=bput ltE t0 ts0∧t.size+RT.sizes ts≤1000000000∧l1=[(0,mval mb),(1, .pointer qt),(2, .slice sa ts.length sc)]∧StepC Nope c M w M1 w1∧Rds M1 w1 1 (.slice sa ts.length sc) ts.length (ptrs l)∧TReps 287 2 EncE M1 ts l∧TRep 287 2 EncE M1 t qt) (ts0.length) [(0,mval mb),(1, .pointer qt0),(2, .slice sa ts0.length sc)] (.cons rfl (.cons rfl (.cons rfl (.nil _)))) ?_ ?_
 ·exact ⟨t0,ts0,l,qt0,sa,sc,0,M,(Nat.zero_add _).symm,rfl,rfl,hz,rfl,hT,hr,hk,ht⟩
 clear hT hr hk ht hz
 rintro mm l1 w1 ⟨t,ts,l,qt,sa,sc,c,M1,hcst,rfl,hmod,hz,rfl,hT,hr,hk,ht⟩
 have hln:=hk.length
 have hlz:=RT.sizes_length ts
 have hcap:ts.length≤sc:=by
  obtain ⟨_,_,h,h2,_⟩:=hr.slice hT.sat
  cases h; exact h2
 refine cw_seq fun _ hK3=>?_
 rcases ts with _ | ⟨f,r⟩
 ·obtain rfl:=treps_nil.1 hk
  have hlc:([]:List (RT El)).length=0:=rfl
  refine Rv fun Z=>?_
  have hs1:=Step.drew hT.sat
  have:=hs1.size
  refine Gm 0 1 rfl<|Gq 1 3 rfl (fun _=>ql rfl)<|Gq 2 7 rfl (fun _=>qGF rfl)<|Gm 3 15 rfl<|Dgs 4 31 rfl V rfl rfl<|Dgs 5 63 rfl V rfl rfl<|Dgs 6 127 rfl V rfl rfl<|Dgs 7 255 rfl V rfl rfl<|Dgs 8 511 rfl V rfl rfl<|Dgs 9 1023 rfl V rfl rfl<|Dgs 10 2047 rfl V rfl rfl<|Gq 11 4095 rfl (fun _=>q_pick_f rfl rfl)<|Dx Z<|cw_false rfl<|cw_exit<|hK2 _ _<|Ri fun Z=>Qm rfl ?_
  have hT:=hT.t hs1
  have hTz:=hT.size
  refine as_h rfl (h_buildO (e:=264) (size:=1) (zs:=[(.pointer none)]) (cs:=[_]) V V V rfl hs1.sat rfl rfl fun bB w2 hs2 hoB eB=>?_)
  have:=hs2.size
  refine Qm rfl ?_
  have hbb:=Own.buf hoB (n:=1) (size:=1) rfl (by decide)
  have hr:=hr.step hs1 |>.step hs2
  refine as_h rfl (h_append (e:=264) (size:=1) (bytes:=8) V hs2.sat hbb (hr.now hs2.sat) rfl rfl (ptrs_one _) O rfl fun sv w3 hs3 hbu hor=>?_)
  have hT:=hT.t hs2
  have hT:=hT.trans hs3 (fun k hk h=>by have h2:bB=k:=Option.some.inj h; omega)
  have hbs:=hbu.rds
  have hk:=hk.mono' EncE.mono hs3.le
  have ht:=ht.mono' EncE.mono hs3.le
  obtain ⟨sva,svc,rfl,_,_⟩:=hbu.slice
  refine Na rfl Z<|cw_ret ?_
  rw [show bput ltE t0 ts0=[t] from by rw [← hmod]; rfl]
  exact ⟨_,Rt rfl,_,hT.to (by rw [hcst,bputC]),sva,svc,_,congrArg (fun k=>Value.slice sva k svc) (by simp <;> omega),hbs.cast (congrArg (fun k=>Value.slice sva k svc) (by simp <;> omega)) (by simp <;> omega) rfl,treps_cons.2 ⟨_,_,rfl,ht,hk⟩⟩
 ·obtain ⟨fq,lr,rfl,hf,hk2⟩:=treps_cons.1 hk
  obtain ⟨g,o,rfl⟩:=(hr.now hT.sat).there (by simp)
  have hlc:(f::r).length=r.length+1:=rfl
  refine Rv fun Z=>?_
  have hs4:=Step.drew hT.sat
  have:=hs4.size
  refine Gm 0 1 rfl<|Gq 1 3 rfl (fun _=>ql rfl)<|Gq 2 7 rfl (fun _=>qGT rfl)<|Gm 3 15 rfl<|Dgq 4 31 rfl V rfl rfl (fun _=>q_move rfl)<|Dgq 6 95 rfl V rfl rfl (fun _=>q_move rfl)<|Dgq 7 223 rfl V rfl rfl (fun _=>qi 264 1 rfl) ?_
  have hr:=hr.step hs4
  have hT:=hT.t hs4
  refine at_gq (i:=8) (li:=lb 12 479) (cellIs _ _ _) rfl V rfl rfl rfl rfl (fun _ h=>q_load1 V rfl h) ((hr _ _ _ (Step.refl _ hT.sat)).cell (u:= .pointer fq) (j:=(0:Int).toNat*1) rfl) V<|Dgh 5 511 rfl V rfl rfl (keep_sift (bs:=[F]) V) (h_call V rfl ?_)
  refine (te_rank hs4.sat ht).mono ?_
  rintro _ w5 ⟨rfl,hs5⟩
  have:=hs5.size
  have hr:=hr.step hs5
  have hT:=hT.t hs5
  refine ⟨(by repeat' first | exact trivial | exact ((hr _ _ _ (Step.refl _ hT.sat)).cell (u:= .pointer fq) (j:=(0:Int).toNat*1) rfl) | refine And.intro ?_ ?_),?_⟩
  refine Dgh 9 1023 rfl V rfl rfl (keep_sift (bs:=[T]) V) (h_call V rfl ?_)
  refine (te_rank hs5.sat hf).mono ?_
  rintro _ w6 ⟨rfl,hs6⟩
  have:=hs6.size
  refine ⟨trivial,?_⟩
  refine Dgq 10 2047 rfl V rfl rfl (fun _=>q_ge rfl rfl)<|Gq 11 4095 rfl (fun _=>q_pick_t rfl rfl)<|Dx Z ?_
  have hr:=hr.step hs6
  have hT:=hT.t hs6
  refine cw_cond rfl (fun hc0=>?_) (fun hc0=>?_)
  ·skip
   refine cw_skip<|hK3 _ _<|cw_block<|cw_drawn V V V rfl rfl fun K7 hK7=>?_
   have hs7:=Step.drew hs6.sat
   have:=hs7.size
   refine Gm 0 1 rfl<|Gm 1 3 rfl<|Gm 2 7 rfl<|Gq 3 15 rfl (fun _=>qi 264 1 rfl) ?_
   have hr:=hr.step hs7
   have hT:=hT.t hs7
   refine G1 4 31 rfl ((hr _ _ _ (Step.refl _ hT.sat)).cell (u:= .pointer fq) (j:=(0:Int).toNat*1) rfl)<|Gm 6 95 rfl<|Gq 7 223 rfl (fun _=>(q_slice (e:=264) (size:=1) (k':= .i64) V V rfl rfl rfl O O O))<|Gh 5 255 rfl (Ks [T]) (h_call V rfl ?_)
   refine (te_link hs7.sat ht hf (by simp only [RT.sizes] at hz; omega)).mono ?_
   rintro _ w8 ⟨qn,Mn,rfl,hs8,hn⟩
   have hk:=hk.mono' EncE.mono hs8.le
   have ht:=ht.mono' EncE.mono hs8.le
   have hk2:=hk2.mono' EncE.mono hs8.le
   have:=hs8.size
   refine ⟨trivial,?_⟩
   refine Ga 8 511 rfl<|Ga 9 1023 rfl<|Dd V (hK7 _ _ ?_)
   have hr:=hr.step hs8
   have hT:=hT.t hs8
   refine ⟨_,_,?_,(.cons rfl (.cons rfl (.cons rfl (.nil _)))),_,r,lr,_,_,_,_,_,?_,rfl,?_,?_,rfl,hT,hr.tail (by simpa using hln),hk2,hn⟩
   ·simp
   ·rw [hcst,bputC,if_neg (by simpa using hc0)]; omega
   ·rw [← hmod]
    conv=>rhs; unfold bput
    rw [if_neg (by simpa using hc0)]
   ·rw [RT.link_size]; simp only [RT.sizes] at hz; omega
  ·skip
   refine cw_exit<|hK2 _ _<|Ri fun Z=>Qm rfl ?_
   have hTz:=hT.size
   refine as_h rfl (h_buildO (e:=264) (size:=1) (zs:=[(.pointer none)]) (cs:=[_]) V V V rfl hs6.sat rfl rfl fun bB w9 hs9 hoB eB=>?_)
   have:=hs9.size
   refine Qm rfl ?_
   have hbb:=Own.buf hoB (n:=1) (size:=1) rfl (by decide)
   have hr:=hr.step hs9
   refine as_h rfl (h_append (e:=264) (size:=1) (bytes:=8) V hs9.sat hbb (hr.now hs9.sat) rfl rfl (ptrs_one _) O rfl fun sv w10 hs10 hbu hor=>?_)
   have hT:=hT.t hs9
   have hT:=hT.trans hs10 (fun k hk h=>by have h2:bB=k:=Option.some.inj h; omega)
   have hbs:=hbu.rds
   have hk:=hk.mono' EncE.mono hs10.le
   have ht:=ht.mono' EncE.mono hs10.le
   obtain ⟨sva,svc,rfl,_,_⟩:=hbu.slice
   refine Na rfl Z<|cw_ret ?_
   rw [show bput ltE t0 ts0=t::f::r from by rw [← hmod]; unfold bput; rw [if_pos (by simpa using hc0)]]
   exact ⟨_,Rt rfl,_,hT.to (by rw [hcst,bputC,if_pos (by simpa using hc0)]),sva,svc,_,congrArg (fun k=>Value.slice sva k svc) (by simp <;> omega),hbs.cast (congrArg (fun k=>Value.slice sva k svc) (by simp <;> omega)) (by simp <;> omega) rfl,treps_cons.2 ⟨_,_,rfl,ht,hk⟩⟩
theorem se_level_n {sa:Option Addr} {sc:Nat} (hs:Sat M w):
  Dz 219 #[mval mb, .slice sa (0:Nat) sc] w (fun v w'=>∃ M',StepC Nope (0) M w M' w'∧SRow 287 2 EncE M' w' ([]:List (RT El)) v):=by
 have hT:=hs.r
 refine Fe Tryz.func219 [.tmp 4] rfl<|Ri fun Z=>Na rfl Z<|cw_seq fun _ hK2=>Ri fun Z=>Qm rfl<|Qq rfl (ql rfl)<|Qq rfl (q_eqT rfl rfl (by simp))<|Nx Z<|cw_true rfl<|Ri fun Z=>Na rfl Z<|cw_ret ?_
 exact ⟨_,Rt rfl,M,hT,srow_nil _ _ _ _ (fun _=>rfl)⟩
theorem se_level_c {f:RT El} {r:List (RT El)} {v0:Value} (hs:Sat M w) (h:SRow 287 2 EncE M w (f::r) v0) (hz:RT.sizes (f::r)≤1000000000):
  Dz 219 #[mval mb,v0] w (fun v w'=>∃ M',StepC Nope (bputC ltE f r) M w M' w'∧SRow 287 2 EncE M' w' (bput ltE f r) v):=by
 have hT:=hs.r
 obtain ⟨sa,sc,l,rfl,hr,hk⟩:=h
 have hln:=hk.length
 have hlz:=RT.sizes_length (f::r)
 have hcaphr:(f::r).length≤sc:=by
  obtain ⟨_,_,h,h2,_⟩:=hr.slice hs
  cases h; exact h2
 obtain ⟨fq,lr,rfl,hf,hk2⟩:=treps_cons.1 hk
 obtain ⟨g,o,rfl⟩:=(hr.now hs).there (by simp)
 have hlc:(f::r).length=r.length+1:=rfl
 refine Fe Tryz.func219 [.tmp 4] rfl<|Ri fun Z=>Na rfl Z<|cw_seq fun _ hK2=>Ri fun Z=>Qm rfl<|Qq rfl (ql rfl)<|Qq rfl (qEF rfl)<|Nx Z<|cw_false rfl<|cw_skip<|hK2 _ _<|Rv fun Z=>?_
 have hs1:=Step.drew hs
 have:=hs1.size
 refine Gm 0 1 rfl<|Gm 1 3 rfl<|Gq 2 7 rfl (fun _=>qi 264 1 rfl) ?_
 have hr:=hr.step hs1
 have hT:=hT.t hs1
 refine G1 3 15 rfl ((hr _ _ _ (Step.refl _ hT.sat)).cell (u:= .pointer fq) (j:=(0:Int).toNat*1) rfl)<|Gm 4 31 rfl<|Gq 5 63 rfl (fun _=>(q_slice (e:=264) (size:=1) (k':= .i64) V V rfl rfl rfl O O O))<|Gh 6 127 rfl (Ks [T]) (h_call V rfl ?_)
 refine (se_put hs1.sat hf ⟨_,_,_,rfl,hr.tail (by simpa using hln),hk2⟩ (by simp only [RT.sizes] at hz; omega)).mono ?_
 rintro v w2 ⟨Mn,hs2,hn⟩
 obtain ⟨va,vc,vl,rfl,hv1,hv2⟩:=hn
 have:=hs2.size
 refine ⟨trivial,?_⟩
 refine Ga 7 255 rfl<|Dx Z<|cw_ret ?_
 have hT:=hT.t hs2
 exact ⟨_,Rt rfl,_,hT.to O,_,_,_,rfl,hv1,hv2⟩
theorem se_level {ts:List (RT El)} {v0:Value} (hs:Sat M w) (h:SRow 287 2 EncE M w ts v0) (hz:RT.sizes ts≤1000000000):Dz 219 #[mval mb,v0] w (fun v w'=>∃ M',StepC Nope (slevelC ltE ts) M w M' w'∧SRow 287 2 EncE M' w' (slevel ltE ts) v):=by
 cases ts with
 | nil=>obtain ⟨sa,sc,l,rfl,_,_⟩:=h; exact se_level_n hs
 | cons f r=>exact se_level_c hs h hz
theorem ce_of {l:List (Option Addr)} {sa:Option Addr} {sc:Nat} (hs:Sat M w) (hr:Rds M w 1 (.slice sa l.length sc) l.length (ptrs l)) (hz:l.length≤1000000000):
  Dz 166 #[.slice sa l.length sc] w (fun v w'=>∃ q M',v = .agg #[.pointer q]∧Step Nope M w M' w'∧CRep 266 M' l (.pointer q)):=by
 have hT:=hs.r
 have hr0:=hr
 refine Fe Tryz.func166 [.cell 2 151] rfl<|Ri fun Z=>?_
 have:=hT.size
 refine Al (.agg #[(.pointer none)]) hs rfl fun br w1 hs1 hor er=>?_
 have hz1:=hs1.size
 have:=hor.1.lt
 refine Nr Z fun Z=>Qq rfl (q_build (zs:=[(.pointer none)]) (places:=[(0,1)]) (cs:=[_]) V V rfl rfl) ?_
 have hT:=hT.t hs1
 have:=hT.size
 refine Al (.agg #[(.pointer none)]) hs1.sat rfl fun bo w2 hs2 hoo eo=>?_
 have hz2:=hs2.size
 have:=hoo.1.lt
 refine St hs2.sat hoo rfl fun w3 hs3 hoo=>?_
 have:=hs3.size
 refine Nx Z<|cw_seq fun _ hK3=>Ri fun Z=>Qm rfl<|Qq rfl (ql rfl)<|Qq rfl (qS rfl)<|Na rfl Z<|cw_block ?_
 have hor:=hor.t hs2 |>.u hs3
 have hT:=hT.t hs2 |>.o hs3
 refine cw_loop (fun mm l1 w1=>∃ (z:Int) (q:Option Addr) (M1:Mem mb),mm=(z+1).toNat∧ -1≤z∧z<l.length∧l1=[(0, .slice sa l.length sc),(2, .pointer (some ⟨br,0,none⟩)),(3, .pointer (some ⟨bo,0,none⟩)),(4, .int .i64 z)]∧Step Nope M w M1 w1∧CRep 266 M1 (l.drop (z+1).toNat) (.pointer q)∧Own w1 M1 bo [.pointer q] 151∧Own w1 M1 br [.pointer none] 151) (l.length) [(0, .slice sa l.length sc),(2, .pointer (some ⟨br,0,none⟩)),(3, .pointer (some ⟨bo,0,none⟩)),(4, .int .i64 ((l.length:Int)-1))] (.cons rfl (.cons rfl (.cons rfl (.cons rfl (.nil _))))) ?_ ?_
 ·refine ⟨(l.length:Int)-1,none,M,by omega,by omega,by omega,rfl,hT,?_,hoo,hor⟩
  rw [List.drop_eq_nil_of_le O]
  rfl
 have hbw:w.heap.size≤bo∧w.heap.size≤br∧br≠bo:=by omega
 clear hT hoo hor
 rintro mm l1 w1 ⟨z,q,M1,rfl,hz1,hz2,rfl,hT,hcc,hoo,hor⟩
 refine cw_seq fun _ hK5=>Ri fun Z=>Qm rfl<|Qq rfl (q_ge rfl rfl)<|Nx Z<|cw_cond rfl (fun hc0=>?_) (fun hc0=>?_)
 ·have hc0:=of_decide_eq_true hc0
  obtain ⟨x,hx⟩:∃ x,l[z.toNat]? = some x:=⟨l[z.toNat]'O,by simp⟩
  obtain ⟨g,o,rfl⟩:=(hr0 _ _ _ hT).there O
  refine cw_skip<|hK5 _ _<|cw_seq fun _ hK7=>cw_block<|cw_drawn V V V rfl rfl fun K8 hK8=>?_
  have hs4:=Step.drew hT.sat
  have:=hs4.size
  have hoo:=hoo.t hs4
  refine Gc 0 1 1 rfl (OD hoo rfl)<|Gm 1 3 rfl<|Gm 2 7 rfl<|Gq 3 15 rfl (fun _=>qi 264 1 rfl) ?_
  have hT:=hT.t hs4
  refine G1 4 31 rfl ((hr0 _ _ _ hT).cell (u:= .pointer x) (j:=z.toNat*1) (by simp [ptrs,hx]))<|Gh 5 63 rfl (Ks [T,T]) (h_call V rfl ?_)
  refine (ce_push hs4.sat hcc (by rw [List.length_drop]; omega)).mono ?_
  rintro _ w5 ⟨qp,Mp,rfl,hs5,hp⟩
  have:=hs5.size
  refine ⟨trivial,?_⟩
  have hoo:=hoo.t hs5
  refine G0 6 127 rfl rfl (h_store hs5.sat hoo rfl rfl rfl V rfl rfl rfl fun w6 hs6 hn6=>?_)
  clear hoo; have hoo:=hn6; clear hn6
  have:=hs6.size
  refine ⟨trivial,?_⟩
  refine Dd V (hK8 _ _ ?_)
  refine hK7 _ _<|cw_region fun _ Z=>Qm rfl<|Qq rfl (qS rfl)<|Qa rfl<|as_nil (Z _ _ ?_)
  have hor:=hor.t hs4 |>.t hs5 |>.u hs6
  have hcc:=hcc.mono hs5.le
  have hT:=hT.t hs5 |>.o hs6
  refine ⟨_,_,?_,(.cons rfl (.cons rfl (.cons rfl (.cons rfl (.nil _))))),_,_,_,rfl,?_,?_,rfl,hT,?_,hoo,hor⟩
  ·omega
  ·omega
  ·omega
  ·rw [show (z-1+1).toNat=z.toNat by omega,List.drop_eq_getElem_cons (i:=z.toNat) O,show l[z.toNat]=x from by rw [List.getElem?_eq_getElem O] at hx; exact Option.some.inj hx,show z.toNat+1=(z+1).toNat by omega]
   exact hp
 ·have hc0:=of_decide_eq_false hc0
  refine cw_exit<|hK3 _ _<|Ri fun Z=>Qc 1 rfl (OD hoo rfl)<|St hT.sat hor rfl fun w7 hs7 hor=>?_
  have:=hs7.size
  refine Nx Z<|cw_ret ?_
  rw [show (z+1).toNat=0 by omega,List.drop_zero] at hcc
  have hT:=hT.o hs7
  exact ⟨_,(Rc 1 rfl (OD hor rfl) res_nil),_,_,rfl,hT,hcc⟩
def SMelde (mb:Option Nat) (k:Nat):Prop:=∀ (w:World) (M:Mem mb) (a b:List (RT El)) (va vb:Value),Sat M w→SRow 287 2 EncE M w a va→SRow 287 2 EncE M w b vb→a.length+b.length<k→RT.sizes a+RT.sizes b≤1000000000→
  Dz 220 #[mval mb,va,vb] w (fun v w'=>∃ M',StepC Nope (bmeldC ltE a b) M w M' w'∧SRow 287 2 EncE M' w' (bmeld ltE a b) v)
theorem se_meld_a {b:List (RT El)} {vb:Value} {sa:Option Addr} {sc:Nat} (hs:Sat M w) (hb:SRow 287 2 EncE M w b vb):
  Dz 220 #[mval mb, .slice sa (0:Nat) sc,vb] w (fun v w'=>∃ M',StepC Nope (0) M w M' w'∧SRow 287 2 EncE M' w' b v):=by
 have hT:=hs.r
 obtain ⟨ba,bc,lb,rfl,h1,h2⟩:=hb
 have hb:SRow 287 2 EncE M w b (.slice ba b.length bc):=⟨ba,bc,lb,rfl,h1,h2⟩
 refine Fe Tryz.func220 [.tmp 6] rfl<|Ri fun Z=>Na rfl Z<|cw_seq fun _ hK2=>cw_block<|Ri fun Z=>Qm rfl<|Qq rfl (ql rfl)<|Qq rfl (qET rfl)<|Na rfl Z<|cw_true rfl<|Ri fun Z=>Qm rfl<|Na rfl Z<|cw_ret ?_
 exact ⟨_,Rt rfl,_,hT,hb⟩
theorem se_meld_b {f:RT El} {a:List (RT El)} {va:Value} {sb:Option Addr} {sc:Nat} (hs:Sat M w) (ha:SRow 287 2 EncE M w (f::a) va):
  Dz 220 #[mval mb,va, .slice sb (0:Nat) sc] w (fun v w'=>∃ M',StepC Nope (0) M w M' w'∧SRow 287 2 EncE M' w' (f::a) v):=by
 have hT:=hs.r
 obtain ⟨ba,bc,lb,rfl,h1,h2⟩:=ha
 have ha:SRow 287 2 EncE M w (f::a) (.slice ba (f::a).length bc):=⟨ba,bc,lb,rfl,h1,h2⟩
 have hlc:(f::a).length=a.length+1:=rfl
 refine Fe Tryz.func220 [.tmp 6] rfl<|Ri fun Z=>Na rfl Z<|cw_seq fun _ hK2=>cw_block<|Ri fun Z=>Qm rfl<|Qq rfl (ql rfl)<|Qq rfl (qEF rfl)<|Na rfl Z<|cw_false rfl<|Ri fun Z=>Qm rfl<|Qq rfl (ql rfl)<|Qq rfl (qET rfl)<|Na rfl Z<|cw_true rfl<|Ri fun Z=>Qm rfl<|Na rfl Z<|cw_ret ?_
 exact ⟨_,Rt rfl,_,hT,ha⟩
theorem se_meld_c {w:World} {M:Mem mb} {f g:RT El} {a b:List (RT El)} {va vb:Value} {k:Nat} (ih:SMelde mb k) (hs:Sat M w) (ha:SRow 287 2 EncE M w (f::a) va) (hb:SRow 287 2 EncE M w (g::b) vb) (hk:(f::a).length+(g::b).length<k+1) (hz:RT.sizes (f::a)+RT.sizes (g::b)≤1000000000):
  Dz 220 #[mval mb,va,vb] w (fun v w'=>∃ M',StepC Nope (bmeldC ltE (f::a) (g::b)) M w M' w'∧SRow 287 2 EncE M' w' (bmeld ltE (f::a) (g::b)) v):=by
 have hT:=hs.r
 obtain ⟨sa,sc,l,rfl,hr,hka⟩:=ha
 obtain ⟨sb,sd,lb,rfl,hrb,hkb⟩:=hb
 have hln:=hka.length
 have hlnb:=hkb.length
 have hcaphr:(f::a).length≤sc:=by
  obtain ⟨_,_,h,h2,_⟩:=hr.slice hs
  cases h; exact h2
 have hcaphrb:(g::b).length≤sd:=by
  obtain ⟨_,_,h,h2,_⟩:=hrb.slice hs
  cases h; exact h2
 obtain ⟨fq,lr,rfl,hf,hk2⟩:=treps_cons.1 hka
 obtain ⟨gq,lbr,rfl,hg,hkb2⟩:=treps_cons.1 hkb
 obtain ⟨g1,o,rfl⟩:=(hr.now hs).there (by simp)
 obtain ⟨g2,o2,rfl⟩:=(hrb.now hs).there (by simp)
 have hlc:(f::a).length=a.length+1:=rfl
 have hlcb:(g::b).length=b.length+1:=rfl
 have hfp:=f.size_pos
 have hgp:=g.size_pos
 have hmf:=RT.sizes_cons f a
 have hmg:=RT.sizes_cons g b
 refine Fe Tryz.func220 [.tmp 6] rfl<|Ri fun Z=>Na rfl Z<|cw_seq fun _ hK2=>cw_block<|Ri fun Z=>Qm rfl<|Qq rfl (ql rfl)<|Qq rfl (qEF rfl)<|Na rfl Z<|cw_false rfl<|Ri fun Z=>Qm rfl<|Qq rfl (ql rfl)<|Qq rfl (qEF rfl)<|Na rfl Z<|cw_false rfl<|Rv fun Z=>?_
 have hs1:=Step.drew hs
 have:=hs1.size
 refine Gm 0 1 rfl<|Gq 1 3 rfl (fun _=>qi 264 1 rfl) ?_
 have hr:=hr.step hs1
 have hT:=hT.t hs1
 refine G1 2 7 rfl ((hr _ _ _ (Step.refl _ hT.sat)).cell (u:= .pointer fq) (j:=(0:Int).toNat*1) rfl)<|Gm 4 23 rfl<|Gq 5 55 rfl (fun _=>qi 264 1 rfl) ?_
 have hrb:=hrb.step hs1
 refine G1 6 119 rfl ((hrb _ _ _ (Step.refl _ hT.sat)).cell (u:= .pointer gq) (j:=(0:Int).toNat*1) rfl)<|Gh 3 127 rfl (Ks [F,T]) (h_call V rfl ?_)
 refine (te_rank hs1.sat hf).mono ?_
 rintro _ w2 ⟨rfl,hs2⟩
 have:=hs2.size
 have hr:=hr.step hs2
 have hrb:=hrb.step hs2
 have hT:=hT.t hs2
 refine ⟨(by repeat' first | exact trivial | exact ((hrb _ _ _ (Step.refl _ hT.sat)).cell (u:= .pointer gq) (j:=(0:Int).toNat*1) rfl) | refine And.intro ?_ ?_),?_⟩
 refine Gh 7 255 rfl (Ks [T]) (h_call V rfl ?_)
 refine (te_rank hs2.sat hg).mono ?_
 rintro _ w3 ⟨rfl,hs3⟩
 have:=hs3.size
 refine ⟨trivial,?_⟩
 refine Gq 8 511 rfl (fun _=>q_lt rfl rfl)<|Ga 9 1023 rfl<|Dx Z ?_
 have hr:=hr.step hs3
 have hrb:=hrb.step hs3
 have hT:=hT.t hs3
 refine cw_cond rfl (fun hc2=>?_) (fun hc2=>?_)
 ·replace hc2:f.rank<g.rank:=by have:=of_decide_eq_true hc2; omega
  refine cw_rdS (fun l2 w2=>∃ v,l2=[(6,v)]∧∃ M2,StepC Nope (bmeldC ltE (f::a) (g::b)) M w M2 w2∧SRow 287 2 EncE M2 w2 (bmeld ltE (f::a) (g::b)) v) V V V rfl rfl ?_ ?_
  ·have hs4:=Step.drew hs3.sat
   have:=hs4.size
   refine Gm 0 1 rfl<|Gq 1 3 rfl (fun _=>qi 264 1 rfl) ?_
   have hr:=hr.step hs4
   have hT:=hT.t hs4
   refine G1 2 7 rfl ((hr _ _ _ (Step.refl _ hT.sat)).cell (u:= .pointer fq) (j:=(0:Int).toNat*1) rfl)<|Gm 4 23 rfl<|Gm 5 55 rfl<|Gq 6 119 rfl (fun _=>(q_slice (e:=264) (size:=1) (k':= .i64) V V rfl rfl rfl O O O))<|Gm 7 247 rfl ?_
   have hrb:=hrb.step hs4
   refine at_two (i:=3) (j:=8) V ?_ ?_
   ·have hTz:=hT.size
    refine Gi 3 255 rfl (Ks [T]) (h_buildO (e:=264) (size:=1) (zs:=[(.pointer none)]) (cs:=[_]) V V V rfl hs4.sat rfl rfl fun bB w5 hs5 hoB eB=>?_)
    have:=hs5.size
    refine ⟨trivial,?_⟩
    refine Gh 8 511 rfl rfl (h_call V rfl ?_)
    have hml:=RT.sizes_length (bmeld ltE a (g::b))
    have hms:=bmeld_size ltE a (g::b)
    have hmf:=RT.sizes_cons f a
    have hmg:=RT.sizes_cons g b
    have hr:=hr.step hs5
    have hrb:=hrb.step hs5
    refine (ih _ _ a (g::b) _ _ hs5.sat ⟨_,_,_,rfl,hr.tail (by simpa using hln),hk2⟩ ⟨_,_,_,rfl,hrb,hkb⟩ O O).mono ?_
    rintro v w6 ⟨Mn,hs6,hn⟩
    obtain ⟨va,vc,vl,rfl,hv1,hv2⟩:=hn
    have hka:=hka.mono' EncE.mono hs6.le
    have hk2:=hk2.mono' EncE.mono hs6.le
    have hf:=hf.mono' EncE.mono hs6.le
    have hkb:=hkb.mono' EncE.mono hs6.le
    have hkb2:=hkb2.mono' EncE.mono hs6.le
    have hg:=hg.mono' EncE.mono hs6.le
    have:=hs6.size
    refine ⟨trivial,?_⟩
    have hoB:=hoB.t hs6
    have hbb:=Own.buf hoB (n:=1) (size:=1) rfl (by decide)
    refine Gh 9 1023 rfl rfl (h_append (e:=264) (size:=1) (bytes:=8) V hs6.sat hbb (hv1.now hs6.sat) rfl rfl (ptrs_one _) O rfl fun sv w7 hs7 hbu hor=>?_)
    have hT:=hT.t hs5 |>.t hs6
    have hT:=hT.trans hs7 (fun k hk h=>by have h2:bB=k:=Option.some.inj h; omega)
    have hbs:=hbu.rds
    have hka:=hka.mono' EncE.mono hs7.le
    have hk2:=hk2.mono' EncE.mono hs7.le
    have hf:=hf.mono' EncE.mono hs7.le
    have hkb:=hkb.mono' EncE.mono hs7.le
    have hkb2:=hkb2.mono' EncE.mono hs7.le
    have hg:=hg.mono' EncE.mono hs7.le
    have hv2:=hv2.mono' EncE.mono hs7.le
    obtain ⟨sva,svc,rfl,_,_⟩:=hbu.slice
    refine ⟨trivial,?_⟩
    refine Ga 10 2047 rfl<|Dd V<|⟨_,(.cons rfl (.nil _)),_,rfl,_,hT.to (by rw [bmeldC,if_pos hc2]; omega),?_⟩
    rw [show bmeld ltE (f::a) (g::b)=f::bmeld ltE a (g::b) from by rw [bmeld,if_pos hc2]]
    exact ⟨sva,svc,_,congrArg (fun k=>Value.slice sva k svc) (by simp <;> omega),hbs.cast (congrArg (fun k=>Value.slice sva k svc) (by simp <;> omega)) (by simp <;> omega) rfl,treps_cons.2 ⟨_,_,rfl,hf,hv2⟩⟩
   ·refine Gi 8 503 rfl (Ks [F]) (h_call V rfl ?_)
    have hml:=RT.sizes_length (bmeld ltE a (g::b))
    have hms:=bmeld_size ltE a (g::b)
    have hmf:=RT.sizes_cons f a
    have hmg:=RT.sizes_cons g b
    refine (ih _ _ a (g::b) _ _ hs4.sat ⟨_,_,_,rfl,hr.tail (by simpa using hln),hk2⟩ ⟨_,_,_,rfl,hrb,hkb⟩ O O).mono ?_
    rintro v w8 ⟨Mn,hs8,hn⟩
    obtain ⟨va,vc,vl,rfl,hv1,hv2⟩:=hn
    have hka:=hka.mono' EncE.mono hs8.le
    have hk2:=hk2.mono' EncE.mono hs8.le
    have hf:=hf.mono' EncE.mono hs8.le
    have hkb2:=hkb2.mono' EncE.mono hs8.le
    have hg:=hg.mono' EncE.mono hs8.le
    have:=hs8.size
    have hr:=hr.step hs8
    have hrb:=hrb.step hs8
    have hT:=hT.t hs8
    refine ⟨(by repeat' first | exact trivial | exact ((hr _ _ _ (Step.refl _ hT.sat)).cell (u:= .pointer fq) (j:=(0:Int).toNat*1) rfl) | refine And.intro ?_ ?_),?_⟩
    have hTz:=hT.size
    refine Gh 3 511 rfl (Ks [T]) (h_buildO (e:=264) (size:=1) (zs:=[(.pointer none)]) (cs:=[_]) V V V rfl hs8.sat rfl rfl fun bB w9 hs9 hoB eB=>?_)
    have:=hs9.size
    refine ⟨trivial,?_⟩
    have hbb:=Own.buf hoB (n:=1) (size:=1) rfl (by decide)
    have hv1:=hv1.step hs9
    refine Gh 9 1023 rfl rfl (h_append (e:=264) (size:=1) (bytes:=8) V hs9.sat hbb (hv1.now hs9.sat) rfl rfl (ptrs_one _) O rfl fun sv w10 hs10 hbu hor=>?_)
    have hT:=hT.t hs9
    have hT:=hT.trans hs10 (fun k hk h=>by have h2:bB=k:=Option.some.inj h; omega)
    have hbs:=hbu.rds
    have hka:=hka.mono' EncE.mono hs10.le
    have hk2:=hk2.mono' EncE.mono hs10.le
    have hf:=hf.mono' EncE.mono hs10.le
    have hkb2:=hkb2.mono' EncE.mono hs10.le
    have hg:=hg.mono' EncE.mono hs10.le
    have hv2:=hv2.mono' EncE.mono hs10.le
    obtain ⟨sva,svc,rfl,_,_⟩:=hbu.slice
    refine ⟨trivial,?_⟩
    refine Ga 10 2047 rfl<|Dd V<|⟨_,(.cons rfl (.nil _)),_,rfl,_,hT.to (by rw [bmeldC,if_pos hc2]; omega),?_⟩
    rw [show bmeld ltE (f::a) (g::b)=f::bmeld ltE a (g::b) from by rw [bmeld,if_pos hc2]]
    exact ⟨sva,svc,_,congrArg (fun k=>Value.slice sva k svc) (by simp <;> omega),hbs.cast (congrArg (fun k=>Value.slice sva k svc) (by simp <;> omega)) (by simp <;> omega) rfl,treps_cons.2 ⟨_,_,rfl,hf,hv2⟩⟩
  rintro l2 w2 ⟨v,rfl,M2,hT2,hsr⟩
  refine cw_ret ?_
  exact ⟨_,Rt rfl,M2,hT2,hsr⟩
 ·replace hc2:¬ f.rank<g.rank:=by have:=of_decide_eq_false hc2; omega
  refine Rv fun Z=>?_
  have hs11:=Step.drew hs3.sat
  have:=hs11.size
  refine Gm 0 1 rfl<|Gq 1 3 rfl (fun _=>qi 264 1 rfl) ?_
  have hrb:=hrb.step hs11
  have hT:=hT.t hs11
  refine G1 2 7 rfl ((hrb _ _ _ (Step.refl _ hT.sat)).cell (u:= .pointer gq) (j:=(0:Int).toNat*1) rfl)<|Gm 4 23 rfl<|Gq 5 55 rfl (fun _=>qi 264 1 rfl) ?_
  have hr:=hr.step hs11
  refine G1 6 119 rfl ((hr _ _ _ (Step.refl _ hT.sat)).cell (u:= .pointer fq) (j:=(0:Int).toNat*1) rfl)<|Gh 3 127 rfl (Ks [F,T]) (h_call V rfl ?_)
  refine (te_rank hs11.sat hg).mono ?_
  rintro _ w12 ⟨rfl,hs12⟩
  have:=hs12.size
  have hr:=hr.step hs12
  have hrb:=hrb.step hs12
  have hT:=hT.t hs12
  refine ⟨(by repeat' first | exact trivial | exact ((hr _ _ _ (Step.refl _ hT.sat)).cell (u:= .pointer fq) (j:=(0:Int).toNat*1) rfl) | refine And.intro ?_ ?_),?_⟩
  refine Gh 7 255 rfl (Ks [T]) (h_call V rfl ?_)
  refine (te_rank hs12.sat hf).mono ?_
  rintro _ w13 ⟨rfl,hs13⟩
  have:=hs13.size
  refine ⟨trivial,?_⟩
  refine Gq 8 511 rfl (fun _=>q_lt rfl rfl)<|Ga 9 1023 rfl<|Dx Z ?_
  have hr:=hr.step hs13
  have hrb:=hrb.step hs13
  have hT:=hT.t hs13
  refine cw_cond rfl (fun hc3=>?_) (fun hc3=>?_)
  ·replace hc3:g.rank<f.rank:=by have:=of_decide_eq_true hc3; omega
   refine cw_rdS (fun l2 w2=>∃ v,l2=[(6,v)]∧∃ M2,StepC Nope (bmeldC ltE (f::a) (g::b)) M w M2 w2∧SRow 287 2 EncE M2 w2 (bmeld ltE (f::a) (g::b)) v) V V V rfl rfl ?_ ?_
   ·have hs14:=Step.drew hs13.sat
    have:=hs14.size
    refine Gm 0 1 rfl<|Gq 1 3 rfl (fun _=>qi 264 1 rfl) ?_
    have hrb:=hrb.step hs14
    have hT:=hT.t hs14
    refine G1 2 7 rfl ((hrb _ _ _ (Step.refl _ hT.sat)).cell (u:= .pointer gq) (j:=(0:Int).toNat*1) rfl)<|Gm 4 23 rfl<|Gm 5 55 rfl<|Gm 6 119 rfl<|Gq 7 247 rfl (fun _=>(q_slice (e:=264) (size:=1) (k':= .i64) V V rfl rfl rfl O O O)) ?_
    have hr:=hr.step hs14
    refine at_two (i:=3) (j:=8) V ?_ ?_
    ·have hTz:=hT.size
     refine Gi 3 255 rfl (Ks [T]) (h_buildO (e:=264) (size:=1) (zs:=[(.pointer none)]) (cs:=[_]) V V V rfl hs14.sat rfl rfl fun bB w15 hs15 hoB eB=>?_)
     have:=hs15.size
     refine ⟨trivial,?_⟩
     refine Gh 8 511 rfl rfl (h_call V rfl ?_)
     have hml:=RT.sizes_length (bmeld ltE (f::a) b)
     have hms:=bmeld_size ltE (f::a) b
     have hmf:=RT.sizes_cons f a
     have hmg:=RT.sizes_cons g b
     have hr:=hr.step hs15
     have hrb:=hrb.step hs15
     refine (ih _ _ (f::a) b _ _ hs15.sat ⟨_,_,_,rfl,hr,hka⟩ ⟨_,_,_,rfl,hrb.tail (by simpa using hlnb),hkb2⟩ O O).mono ?_
     rintro v w16 ⟨Mn,hs16,hn⟩
     obtain ⟨va,vc,vl,rfl,hv1,hv2⟩:=hn
     have hka:=hka.mono' EncE.mono hs16.le
     have hk2:=hk2.mono' EncE.mono hs16.le
     have hf:=hf.mono' EncE.mono hs16.le
     have hkb2:=hkb2.mono' EncE.mono hs16.le
     have hg:=hg.mono' EncE.mono hs16.le
     have:=hs16.size
     refine ⟨trivial,?_⟩
     have hoB:=hoB.t hs16
     have hbb:=Own.buf hoB (n:=1) (size:=1) rfl (by decide)
     refine Gh 9 1023 rfl rfl (h_append (e:=264) (size:=1) (bytes:=8) V hs16.sat hbb (hv1.now hs16.sat) rfl rfl (ptrs_one _) O rfl fun sv w17 hs17 hbu hor=>?_)
     have hT:=hT.t hs15 |>.t hs16
     have hT:=hT.trans hs17 (fun k hk h=>by have h2:bB=k:=Option.some.inj h; omega)
     have hbs:=hbu.rds
     have hka:=hka.mono' EncE.mono hs17.le
     have hk2:=hk2.mono' EncE.mono hs17.le
     have hf:=hf.mono' EncE.mono hs17.le
     have hkb2:=hkb2.mono' EncE.mono hs17.le
     have hg:=hg.mono' EncE.mono hs17.le
     have hv2:=hv2.mono' EncE.mono hs17.le
     obtain ⟨sva,svc,rfl,_,_⟩:=hbu.slice
     refine ⟨trivial,?_⟩
     refine Ga 10 2047 rfl<|Dd V<|⟨_,(.cons rfl (.nil _)),_,rfl,_,hT.to (by rw [bmeldC,if_neg hc2,if_pos hc3]; omega),?_⟩
     rw [show bmeld ltE (f::a) (g::b)=g::bmeld ltE (f::a) b from by rw [bmeld,if_neg hc2,if_pos hc3]]
     exact ⟨sva,svc,_,congrArg (fun k=>Value.slice sva k svc) (by simp <;> omega),hbs.cast (congrArg (fun k=>Value.slice sva k svc) (by simp <;> omega)) (by simp <;> omega) rfl,treps_cons.2 ⟨_,_,rfl,hg,hv2⟩⟩
    ·refine Gi 8 503 rfl (Ks [F]) (h_call V rfl ?_)
     have hml:=RT.sizes_length (bmeld ltE (f::a) b)
     have hms:=bmeld_size ltE (f::a) b
     have hmf:=RT.sizes_cons f a
     have hmg:=RT.sizes_cons g b
     refine (ih _ _ (f::a) b _ _ hs14.sat ⟨_,_,_,rfl,hr,hka⟩ ⟨_,_,_,rfl,hrb.tail (by simpa using hlnb),hkb2⟩ O O).mono ?_
     rintro v w18 ⟨Mn,hs18,hn⟩
     obtain ⟨va,vc,vl,rfl,hv1,hv2⟩:=hn
     have hk2:=hk2.mono' EncE.mono hs18.le
     have hf:=hf.mono' EncE.mono hs18.le
     have hkb2:=hkb2.mono' EncE.mono hs18.le
     have hg:=hg.mono' EncE.mono hs18.le
     have:=hs18.size
     have hr:=hr.step hs18
     have hrb:=hrb.step hs18
     have hT:=hT.t hs18
     refine ⟨(by repeat' first | exact trivial | exact ((hrb _ _ _ (Step.refl _ hT.sat)).cell (u:= .pointer gq) (j:=(0:Int).toNat*1) rfl) | refine And.intro ?_ ?_),?_⟩
     have hTz:=hT.size
     refine Gh 3 511 rfl (Ks [T]) (h_buildO (e:=264) (size:=1) (zs:=[(.pointer none)]) (cs:=[_]) V V V rfl hs18.sat rfl rfl fun bB w19 hs19 hoB eB=>?_)
     have:=hs19.size
     refine ⟨trivial,?_⟩
     have hbb:=Own.buf hoB (n:=1) (size:=1) rfl (by decide)
     have hv1:=hv1.step hs19
     refine Gh 9 1023 rfl rfl (h_append (e:=264) (size:=1) (bytes:=8) V hs19.sat hbb (hv1.now hs19.sat) rfl rfl (ptrs_one _) O rfl fun sv w20 hs20 hbu hor=>?_)
     have hT:=hT.t hs19
     have hT:=hT.trans hs20 (fun k hk h=>by have h2:bB=k:=Option.some.inj h; omega)
     have hbs:=hbu.rds
     have hk2:=hk2.mono' EncE.mono hs20.le
     have hf:=hf.mono' EncE.mono hs20.le
     have hkb2:=hkb2.mono' EncE.mono hs20.le
     have hg:=hg.mono' EncE.mono hs20.le
     have hv2:=hv2.mono' EncE.mono hs20.le
     obtain ⟨sva,svc,rfl,_,_⟩:=hbu.slice
     refine ⟨trivial,?_⟩
     refine Ga 10 2047 rfl<|Dd V<|⟨_,(.cons rfl (.nil _)),_,rfl,_,hT.to (by rw [bmeldC,if_neg hc2,if_pos hc3]; omega),?_⟩
     rw [show bmeld ltE (f::a) (g::b)=g::bmeld ltE (f::a) b from by rw [bmeld,if_neg hc2,if_pos hc3]]
     exact ⟨sva,svc,_,congrArg (fun k=>Value.slice sva k svc) (by simp <;> omega),hbs.cast (congrArg (fun k=>Value.slice sva k svc) (by simp <;> omega)) (by simp <;> omega) rfl,treps_cons.2 ⟨_,_,rfl,hg,hv2⟩⟩
   rintro l2 w2 ⟨v,rfl,M2,hT2,hsr⟩
   refine cw_ret ?_
   exact ⟨_,Rt rfl,M2,hT2,hsr⟩
  ·replace hc3:¬ g.rank<f.rank:=by have:=of_decide_eq_false hc3; omega
   refine cw_skip<|hK2 _ _<|Rv fun Z=>?_
   have hs21:=Step.drew hs13.sat
   have:=hs21.size
   refine Gm 0 1 rfl<|Gm 1 3 rfl<|Gq 2 7 rfl (fun _=>(q_slice (e:=264) (size:=1) (k':= .i64) V V rfl rfl rfl O O O))<|Gm 3 15 rfl<|Gq 4 31 rfl (fun _=>(q_slice (e:=264) (size:=1) (k':= .i64) V V rfl rfl rfl O O O))<|Gh 5 63 rfl rfl (h_call V rfl ?_)
   have hml:=RT.sizes_length (bmeld ltE a b)
   have hms:=bmeld_size ltE a b
   have hmf:=RT.sizes_cons f a
   have hmg:=RT.sizes_cons g b
   have hr:=hr.step hs21
   have hrb:=hrb.step hs21
   refine (ih _ _ a b _ _ hs21.sat ⟨_,_,_,rfl,hr.tail (by simpa using hln),hk2⟩ ⟨_,_,_,rfl,hrb.tail (by simpa using hlnb),hkb2⟩ O O).mono ?_
   rintro v w22 ⟨Mn,hs22,hn⟩
   obtain ⟨va,vc,vl,rfl,hv1,hv2⟩:=hn
   have hf:=hf.mono' EncE.mono hs22.le
   have hg:=hg.mono' EncE.mono hs22.le
   have:=hs22.size
   refine ⟨trivial,?_⟩
   refine Ga 6 127 rfl<|Dx Z<|Rv fun Z=>?_
   have hs23:=Step.drew hs22.sat
   have:=hs23.size
   refine Gm 0 1 rfl<|Gm 1 3 rfl<|Gm 2 7 rfl<|Gq 3 15 rfl (fun _=>qi 264 1 rfl) ?_
   have hT:=hT.t hs21 |>.t hs22 |>.t hs23
   have hr:=hr.step hs22 |>.step hs23
   refine G1 4 31 rfl ((hr _ _ _ (Step.refl _ hT.sat)).cell (u:= .pointer fq) (j:=(0:Int).toNat*1) rfl)<|Gm 5 63 rfl<|Gq 6 127 rfl (fun _=>qi 264 1 rfl) ?_
   have hrb:=hrb.step hs22 |>.step hs23
   refine G1 7 255 rfl ((hrb _ _ _ (Step.refl _ hT.sat)).cell (u:= .pointer gq) (j:=(0:Int).toNat*1) rfl)<|Gm 9 767 rfl<|Gh 8 1023 rfl (Ks [T,T]) (h_call V rfl ?_)
   refine (te_link hs23.sat hf hg O).mono ?_
   rintro _ w24 ⟨qn,Mn,rfl,hs24,hn⟩
   have hv2:=hv2.mono' EncE.mono hs24.le
   have:=hs24.size
   refine ⟨trivial,?_⟩
   refine Gh 10 2047 rfl rfl (h_call V rfl ?_)
   have hv1:=hv1.step hs23 |>.step hs24
   refine (se_put hs24.sat hn ⟨_,_,_,rfl,hv1,hv2⟩ (by rw [RT.link_size]; omega)).mono ?_
   rintro v w25 ⟨Mp,hs25,hp⟩
   obtain ⟨pa,pc,pl,rfl,hp1,hp2⟩:=hp
   have:=hs25.size
   refine ⟨trivial,?_⟩
   refine Ga 11 4095 rfl<|Dx Z<|cw_ret ?_
   rw [show bmeld ltE (f::a) (g::b)=bput ltE (RT.link ltE f g) (bmeld ltE a b) from by rw [bmeld,if_neg hc2,if_neg hc3]]
   have hT:=hT.t hs24 |>.t hs25
   exact ⟨_,Rt rfl,_,hT.to (by rw [bmeldC,if_neg hc2,if_neg hc3]; omega),_,_,_,rfl,hp1,hp2⟩
theorem se_meld_all:∀ k,SMelde mb k
 | 0=>fun _ _ _ _ _ _ _ _ _ h _=>absurd h (Nat.not_lt_zero _)
 | k+1=>fun w M a b va vb hs ha hb hk hz=>by
  cases a with
  | nil=>obtain ⟨_,_,_,rfl,_,_⟩:=ha; rw [show bmeld ltE [] b=b by rw [bmeld],show bmeldC ltE [] b=0 by rw [bmeldC]]; exact se_meld_a hs hb
  | cons f a=>
   cases b with
   | nil=>obtain ⟨_,_,_,rfl,_,_⟩:=hb; rw [show bmeld ltE (f::a) []=f::a by rw [bmeld],show bmeldC ltE (f::a) []=0 by rw [bmeldC]]; exact se_meld_b hs ha
   | cons g b=>exact se_meld_c (se_meld_all k) hs ha hb hk hz
theorem se_rmeld {a b:List (RT El)} {va vb:Value} (hs:Sat M w) (ha:SRow 287 2 EncE M w a va) (hb:SRow 287 2 EncE M w b vb) (hz:RT.sizes a+RT.sizes b≤1000000000):
  Dz 220 #[mval mb,va,vb] w (fun v w'=>∃ M',StepC Nope (bmeldC ltE a b) M w M' w'∧SRow 287 2 EncE M' w' (bmeld ltE a b) v):=se_meld_all _ _ _ _ _ _ _ hs ha hb (Nat.lt_succ_self _) hz
theorem ce_ofn {l:List (Option Addr)} {sa:Option Addr} {n sc:Nat} (hs:Sat M w) (hn:l.length=n) (hr:Rds M w 1 (.slice sa n sc) n (ptrs l)) (hz:n≤1000000000):
  Dz 166 #[.slice sa n sc] w (fun v w'=>∃ q M',v = .agg #[.pointer q]∧Step Nope M w M' w'∧CRep 266 M' l (.pointer q)):=by
 subst hn; exact ce_of hs hr hz
theorem se_meld {ts us:List (RT El)} {q q2:Option Addr} (hs:Sat M w) (h:FRep 266 287 2 EncE M ts q) (h2:FRep 266 287 2 EncE M us q2) (hz:RT.sizes ts+RT.sizes us≤1000000000):
  Dz 212 #[.agg #[.pointer q],mval mb, .agg #[.pointer q2]] w (fun v w'=>∃ q M',v = .agg #[.pointer q]∧StepC Nope (smeldC ltE ts us) M w M' w'∧FRep 266 287 2 EncE M' (smeld ltE ts us) q):=by
 have hT:=hs.r
 refine Fe Tryz.func212 [.cell 6 162] rfl<|Ri fun Z=>Bm hs rfl fun b1 M1 w1 hs1 hb1 e1=>?_
 have h:=h.mono' EncE.mono hs1.le
 have h2:=h2.mono' EncE.mono hs1.le
 have:=hs1.size
 refine Bm hs1.sat rfl fun b2 M2 w2 hs2 hb2 e2=>?_
 have h:=h.mono' EncE.mono hs2.le
 have h2:=h2.mono' EncE.mono hs2.le
 have:=hs2.size
 have hT:=hT.t hs1 |>.t hs2
 have:=hT.size
 refine Al (.agg #[(.pointer none)]) hs2.sat rfl fun br w3 hs3 hor er=>?_
 have:=hs3.size
 have:=hor.1.lt
 refine Nr Z fun Z=>Qm rfl<|Qf 0 rfl ?_
 have hb1:=hs2.le _ _ hb1
 refine Qc 1 rfl (BD hs3 hb1 rfl)<|Ca rfl ?_
 obtain ⟨l0,hc0,hk0,hll0,hlz0⟩:=h.len
 refine (ce_all hs3.sat hc0 O).mono ?_
 rintro av w4 ⟨Ma0,hs4,hba,hfa⟩
 have h:=h.mono' EncE.mono hs4.le
 have h2:=h2.mono' EncE.mono hs4.le
 have hk0:=hk0.mono' EncE.mono hs4.le
 have:=hs4.size
 rw [hll0] at hba
 obtain ⟨aa,ac,rfl,_,_⟩:=hba.slice
 have hrr:=hba.rds
 refine Ca rfl ((se_level hs4.sat ⟨_,_,_,rfl,hrr,hk0⟩ O).mono ?_)
 rintro v0 w5 ⟨Ml0,hs5,hlv⟩
 obtain ⟨xa0,xc0,xl0,rfl,hx0,hy0⟩:=hlv
 have h:=h.mono' EncE.mono hs5.le
 have h2:=h2.mono' EncE.mono hs5.le
 have:=hs5.size
 refine Nar rfl Z fun Z=>Qm rfl<|Qf 0 rfl ?_
 have hb2:=hs5.le _ _ (hs4.le _ _ hb2)
 refine Qc 1 rfl (BD hs5 hb2 rfl)<|Ca rfl ?_
 obtain ⟨l1,hc1,hk1,hll1,hlz1⟩:=h2.len
 refine (ce_all hs5.sat hc1 O).mono ?_
 rintro av w6 ⟨Ma1,hs6,hba,hfa⟩
 have h:=h.mono' EncE.mono hs6.le
 have hy0:=hy0.mono' EncE.mono hs6.le
 have hk1:=hk1.mono' EncE.mono hs6.le
 have:=hs6.size
 rw [hll1] at hba
 obtain ⟨aa,ac,rfl,_,_⟩:=hba.slice
 have hrr:=hrr.step hs5 |>.step hs6
 have hrr:=hba.rds
 refine Ca rfl ((se_level hs6.sat ⟨_,_,_,rfl,hrr,hk1⟩ O).mono ?_)
 rintro v1 w7 ⟨Ml1,hs7,hlv⟩
 obtain ⟨xa1,xc1,xl1,rfl,hx1,hy1⟩:=hlv
 have h:=h.mono' EncE.mono hs7.le
 have hy0:=hy0.mono' EncE.mono hs7.le
 have:=hs7.size
 refine Nar rfl Z fun Z=>Qm rfl<|Qm rfl<|Qm rfl<|Ca rfl ?_
 have hs1_:=slevel_size ltE ts
 have hs2_:=slevel_size ltE us
 have hx0:=hx0.step hs6 |>.step hs7
 refine (se_rmeld hs7.sat ⟨_,_,_,rfl,hx0,hy0⟩ ⟨_,_,_,rfl,hx1,hy1⟩ O).mono ?_
 rintro vm w8 ⟨Mm,hs8,hm⟩
 obtain ⟨ma,mc,ml,rfl,hm1,hm2⟩:=hm
 have h:=h.mono' EncE.mono hs8.le
 have:=hs8.size
 refine Ca rfl ?_
 have hml:=hm2.length
 have hmz:=RT.sizes_length (bmeld ltE (slevel ltE ts) (slevel ltE us))
 have hms:=bmeld_size ltE (slevel ltE ts) (slevel ltE us)
 refine (ce_ofn hs8.sat hml hm1 O).mono ?_
 rintro _ w9 ⟨qf,Mf,rfl,hs9,hf⟩
 have h:=h.mono' EncE.mono hs9.le
 have hm2:=hm2.mono' EncE.mono hs9.le
 have:=hs9.size
 refine Qq rfl (q_build (zs:=[(.pointer none)]) (places:=[(0,1)]) (cs:=[_]) V V rfl rfl) ?_
 have hor:=hor.t hs4 |>.t hs5 |>.t hs6 |>.t hs7 |>.t hs8 |>.t hs9
 refine St hs9.sat hor rfl fun w10 hs10 hor=>?_
 have:=hs10.size
 refine Nx Z<|cw_ret ?_
 have hT:=hT.t hs3 |>.t hs4 |>.t hs5 |>.t hs6 |>.t hs7 |>.t hs8 |>.t hs9 |>.o hs10
 exact ⟨_,(Rc 1 rfl (OD hor rfl) res_nil),_,_,rfl,hT.to (by unfold smeldC; omega),_,hf,hm2⟩
end Go.Proofs.YtnnldppehojffaaGreat
/- Heaps with their least element apart, part 1. -/
namespace Go.Proofs.YtnnldppehojffaaGreat
open Go Go.Eng
variable {mb:Option Nat} {w:World} {M:Mem mb}
theorem r_made {x:El} {ts:List (RT El)} {q:Option Addr} (hs:Sat M w) (ht:FRep 266 287 2 EncE M ts q):
  Dz 238 #[mval mb, .agg (elc x).toArray, .agg #[.pointer q]] w (fun v w'=>∃ q M',v = .agg #[.pointer q]∧StepC Nope (1) M w M' w'∧RoRep 334 266 287 M' (.node x ts) q):=by
 have hT:=hs.r
 refine Fe Tryz.func238 [.cell 6 167] rfl<|Ri fun Z=>Bm hs rfl fun b1 M1 w1 hs1 hb1 e1=>?_
 have ht:=ht.mono' EncE.mono hs1.le
 have:=hs1.size
 refine Bm hs1.sat rfl fun b2 M2 w2 hs2 hb2 e2=>?_
 have ht:=ht.mono' EncE.mono hs2.le
 have:=hs2.size
 have hT:=hT.t hs1 |>.t hs2
 have:=hT.size
 refine Al (.agg #[(.pointer none)]) hs2.sat rfl fun br w3 hs3 hor er=>?_
 have:=hs3.size
 have:=hor.1.lt
 refine Nr Z fun Z=>Qm rfl<|Ca rfl ((m_made hs3.sat).mono ?_)
 rintro _ w4 hs4
 have ht:=ht.mono' EncE.mono hs4.le
 have:=hs4.size
 refine Nr Z fun Z=>?_
 have hb2:=hs4.le _ _ hb2
 refine Qc 1 rfl (BD hs4 hb2 rfl) ?_
 have hb1:=hs4.le _ _ (hs2.le _ _ hb1)
 refine Qc 2 rfl (BD hs4 hb1 rfl)<|Qq rfl (q_build (zs:=[(.pointer none),(.int .i64 0),(.int .i64 0)]) (places:=[(0,1),(1,2)]) (cs:=[_,_,_]) V V rfl rfl)<|Bm hs4.sat rfl fun b5 M5 w5 hs5 hb5 e5=>?_
 have ht:=ht.mono' EncE.mono hs5.le
 have:=hs5.size
 refine Qq rfl (q_build (zs:=[(.pointer none)]) (places:=[(0,1)]) (cs:=[_]) V V rfl rfl) ?_
 have hor:=hor.t hs4 |>.t hs5
 refine St hs5.sat hor rfl fun w6 hs6 hor=>?_
 have:=hs6.size
 refine Nx Z<|cw_ret ?_
 have hT:=hT.t hs3 |>.t hs4 |>.t hs5 |>.o hs6
 exact ⟨_,(Rc 1 rfl (OD hor rfl) res_nil),_,_,rfl,hT,_,_,rfl,hb5,ht⟩
theorem r_size_n (hs:Sat M w):
  Dz 237 #[.agg #[.pointer none]] w (fun v w'=>v = .int .i64 (Ro.nil.size:Nat)∧Step Nope M w M w'):=by
 have hT:=hs.r
 refine Fe Tryz.func237 [.tmp 2] rfl<|Ri fun Z=>Bm hs rfl fun b1 M1 w1 hs1 hb1 e1=>Na rfl Z<|cw_seq fun _ hK2=>Ri fun Z=>Qf 0 rfl<|Q1 rfl (BC hs1 hb1 rfl)<|Qq rfl (qn rfl)<|Nx Z<|cw_true rfl<|Ri fun Z=>Na rfl Z<|cw_ret ?_
 have hT:=hT.t hs1
 exact ⟨_,Rt rfl,rfl,hT.forget⟩
theorem r_size_c {x:El} {ts:List (RT El)} {q:Option Addr} (hs:Sat M w) (h:RoRep 334 266 287 M (.node x ts) q) (hz:(Ro.node x ts).size≤1000000000):
  Dz 237 #[.agg #[.pointer q]] w (fun v w'=>v = .int .i64 ((Ro.node x ts).size:Nat)∧Step Nope M w M w'):=by
 have hT:=hs.r
 obtain ⟨b,qs,rfl,hb,ht⟩:=h
 have hz1:1+RT.sizes ts≤1000000000:=hz
 refine Fe Tryz.func237 [.tmp 2] rfl<|Ri fun Z=>Bm hs rfl fun b1 M1 w1 hs1 hb1 e1=>?_
 have ht:=ht.mono' EncE.mono hs1.le
 refine Na rfl Z<|cw_seq fun _ hK2=>Ri fun Z=>Qf 0 rfl<|Q1 rfl (BC hs1 hb1 rfl)<|Qq rfl (qn rfl)<|Nx Z<|cw_false rfl<|cw_skip<|hK2 _ _<|Ri fun Z=>Qf 0 rfl<|Q1 rfl (BC hs1 hb1 rfl)<|Qq rfl (q_nilp rfl)<|Qf 0 rfl ?_
 have hb:=hs1.le _ _ hb
 refine Qc 1 rfl (BD hs1 hb rfl)<|Ca rfl ((se_size hs1.sat ht (by simp only [Ro.size] at hz; omega)).mono ?_)
 rintro _ w2 ⟨rfl,hs2⟩
 refine Qq rfl (qA rfl)<|Na rfl Z<|cw_ret ?_
 have hT:=hT.t hs1 |>.t hs2
 exact ⟨_,Rt rfl,congrArg (Value.int .i64) (by simp only [Ro.size]; omega),hT.forget⟩
theorem r_size {t:Ro} {q:Option Addr} (hs:Sat M w) (h:RoRep 334 266 287 M t q) (hz:t.size≤1000000000):Dz 237 #[.agg #[.pointer q]] w (fun v w'=>v = .int .i64 (t.size:Nat)∧Step Nope M w M w'):=by
 cases t with
 | nil=>cases h; exact r_size_n hs
 | node x ts=>exact r_size_c hs h hz
theorem r_min {x:El} {ts:List (RT El)} {q:Option Addr} (hs:Sat M w) (h:RoRep 334 266 287 M (.node x ts) q):
  Dz 234 #[.agg #[.pointer q],mval mb] w (fun v w'=>v = .tuple #[.agg (elc x).toArray, .bool true]∧Step Nope M w M w'):=by
 have hT:=hs.r
 obtain ⟨b,qs,rfl,hb,ht⟩:=h
 refine Fe Tryz.func234 [.cell 4 29, .tmp 5] rfl<|Ri fun Z=>Bm hs rfl fun b1 M1 w1 hs1 hb1 e1=>?_
 have:=hs1.size
 have hT:=hT.t hs1
 have:=hT.size
 refine Al (.agg #[(.int .i64 0),(.int .i64 0)]) hs1.sat rfl fun br w2 hs2 hor er=>?_
 have:=hs2.size
 have:=hor.1.lt
 refine Na rfl Z<|cw_seq fun _ hK2=>Ri fun Z=>Qf 0 rfl<|Q1 rfl (BC hs2 hb1 rfl)<|Qq rfl (qn rfl)<|Nx Z<|cw_false rfl<|cw_skip<|hK2 _ _<|Ri fun Z=>Qf 0 rfl<|Q1 rfl (BC hs2 hb1 rfl)<|Qq rfl (q_nilp rfl)<|Qf 1 rfl ?_
 have hb:=hs1.le _ _ hb
 refine Qc 2 rfl (BD hs2 hb rfl)<|St hs2.sat hor rfl fun w3 hs3 hor=>?_
 have:=hs3.size
 refine Na rfl Z<|cw_ret ?_
 have hT:=hT.t hs2 |>.o hs3
 exact ⟨_,(Rc 2 rfl (OD hor rfl) (Rt rfl)),rfl,hT.forget⟩
theorem r_insert_n {x:El} (hs:Sat M w):
  Dz 232 #[.agg #[.pointer none],mval mb, .agg (elc x).toArray] w (fun v w'=>∃ q M',v = .agg #[.pointer q]∧StepC Nope (1) M w M' w'∧RoRep 334 266 287 M' (Ro.insert x .nil) q):=by
 have hT:=hs.r
 refine Fe Tryz.func232 [.cell 6 167] rfl<|Ri fun Z=>Bm hs rfl fun b1 M1 w1 hs1 hb1 e1=>?_
 have:=hs1.size
 refine Bm hs1.sat rfl fun b2 M2 w2 hs2 hb2 e2=>?_
 have:=hs2.size
 have hT:=hT.t hs1 |>.t hs2
 have:=hT.size
 refine Al (.agg #[(.pointer none)]) hs2.sat rfl fun br w3 hs3 hor er=>?_
 have:=hs3.size
 have:=hor.1.lt
 refine Nx Z<|cw_seq fun _ hK2=>Ri fun Z=>Qf 0 rfl ?_
 have hb1:=hs2.le _ _ hb1
 refine Q1 rfl (BC hs3 hb1 rfl)<|Qq rfl (qn rfl)<|Nx Z<|cw_true rfl<|Ri fun Z=>Qm rfl<|Qc 2 rfl (BD hs3 hb2 rfl)<|Qq rfl (q_build (zs:=[(.pointer none)]) (places:=[(0,1)]) (cs:=[_]) V V rfl rfl)<|Ca rfl ((r_made (x:=x) (ts:=[]) hs3.sat (frep_nil.2 rfl)).mono ?_)
 rintro _ w4 ⟨qm,Mm,rfl,hs4,hm⟩
 have:=hs4.size
 have hor:=hor.t hs4
 refine St hs4.sat hor rfl fun w5 hs5 hor=>?_
 have:=hs5.size
 refine Nx Z<|cw_ret ?_
 have hT:=hT.t hs3 |>.t hs4 |>.o hs5
 exact ⟨_,(Rc 1 rfl (OD hor rfl) res_nil),_,_,rfl,hT,hm⟩
theorem r_insert_c {x r:El} {ts:List (RT El)} {q:Option Addr} (hs:Sat M w) (h:RoRep 334 266 287 M (.node r ts) q) (hz:(Ro.node r ts).size<1000000000):
  Dz 232 #[.agg #[.pointer q],mval mb, .agg (elc x).toArray] w (fun v w'=>∃ q M',v = .agg #[.pointer q]∧StepC Nope ((Ro.node r ts).insertC) M w M' w'∧RoRep 334 266 287 M' (Ro.insert x (.node r ts)) q):=by
 have hT:=hs.r
 obtain ⟨b,qs,rfl,hb,ht⟩:=h
 have hz1:1+RT.sizes ts<1000000000:=hz
 refine Fe Tryz.func232 [.cell 6 167] rfl<|Ri fun Z=>Bm hs rfl fun b1 M1 w1 hs1 hb1 e1=>?_
 have ht:=ht.mono' EncE.mono hs1.le
 have hz1:=hs1.size
 have hT:=hT.t hs1
 have:=hT.size
 refine Bo hs1.sat rfl fun bx w2 hs2 hox ex=>?_
 have:=hs2.size
 have:=hox.1.lt
 have hT:=hT.t hs2
 have:=hT.size
 refine Al (.agg #[(.pointer none)]) hs2.sat rfl fun br w3 hs3 hor er=>?_
 have:=hs3.size
 have:=hor.1.lt
 refine Nx Z<|cw_seq fun _ hK2=>Ri fun Z=>Qf 0 rfl<|Q1 rfl (BC hs3 hb1 rfl)<|Qq rfl (qn rfl)<|Nx Z<|cw_false rfl<|cw_skip<|hK2 _ _<|Ri fun Z=>Qf 0 rfl<|Q1 rfl (BC hs3 hb1 rfl)<|Qq rfl (q_nilp rfl)<|Qf 1 rfl ?_
 have hb:=hs1.le _ _ hb
 refine Qc 2 rfl (BD hs3 hb rfl) ?_
 have hT:=hT.t hs3
 have:=hT.size
 refine Al (.agg #[(.int .i64 0),(.int .i64 0)]) hs3.sat rfl fun bt w4 hs4 hot et=>?_
 have:=hs4.size
 have:=hot.1.lt
 refine St hs4.sat hot rfl fun w5 hs5 hot=>?_
 have:=hs5.size
 refine Nx Z<|cw_seq fun _ hK5=>Ri fun Z=>Qm rfl ?_
 have hox:=hox.t hs3 |>.t hs4 |>.u hs5
 refine Qc 2 rfl (OD hox rfl)<|Qc 2 rfl (OD hot rfl)<|Ca rfl ((m_less (a:=x) (b:=r) hs5.sat).mono ?_)
 rintro _ w6 ⟨rfl,hs6⟩
 have ht:=ht.mono' EncE.mono hs6.le
 have:=hs6.size
 refine Nx Z ?_
 have hor:=hor.t hs4 |>.u hs5 |>.t hs6
 have hT:=hT.t hs4 |>.o hs5 |>.t hs6
 have hb:=hs6.le _ _ hb
 have hb1:=hs6.le _ _ hb1
 have hox:=hox.t hs6
 have hot:=hot.t hs6
 refine cw_cond rfl (fun hc1=>?_) (fun hc1=>?_)
 ·skip
  refine cw_region fun _ Z=>Qc 2 rfl (OD hox rfl)<|Qc 2 rfl (OD hot rfl)<|St hs6.sat hot rfl fun w7 hs7 hot=>?_
  have:=hs7.size
  have hox:=hox.u hs7
  refine St hs7.sat hox rfl fun w8 hs8 hox=>?_
  have:=hs8.size
  refine as_nil (Z _ _ ?_)
  refine hK5 _ _<|Rv fun Z=>?_
  have hs9:=Step.drew hs8.sat
  have:=hs9.size
  refine Gm 0 1 rfl ?_
  have hot:=hot.u hs8 |>.t hs9
  refine Gc 1 3 2 rfl (OD hot rfl)<|Gf 2 7 0 rfl<|G1 3 15 rfl (BC hs9 hb1 rfl)<|Gq 4 31 rfl (fun _=>q_nilp rfl)<|Gf 5 63 0 rfl<|Gc 6 127 1 rfl (BD hs9 hb rfl)<|Gm 7 255 rfl ?_
  have hox:=hox.t hs9
  refine Gc 8 511 2 rfl (OD hox rfl)<|Gh 9 1023 rfl (Ks [T,T,F,F]) (h_call V rfl ?_)
  refine (se_insert (x:=r) hs9.sat ht O).mono ?_
  rintro _ w10 ⟨qi,Mi,rfl,hs10,hi⟩
  have ht:=ht.mono' EncE.mono hs10.le
  have:=hs10.size
  have hor:=hor.u hs7 |>.u hs8 |>.t hs9 |>.t hs10
  have hT:=hT.o hs7 |>.o hs8 |>.t hs9 |>.t hs10
  have hb:=hs10.le _ _ hb
  have hb1:=hs10.le _ _ hb1
  have hox:=hox.t hs10
  have hot:=hot.t hs10
  refine ⟨(by repeat' first | exact trivial | exact BC hs10 hb1 rfl | exact OD hot rfl | refine And.intro ?_ ?_),?_⟩
  refine Gh 10 2047 rfl (Ks [F,T]) (h_call V rfl ?_)
  refine (r_made (x:=x) (ts:=sinsert ltE r ts) hs10.sat hi).mono ?_
  rintro _ w11 ⟨qm,Mm,rfl,hs11,hm⟩
  have ht:=ht.mono' EncE.mono hs11.le
  have hi:=hi.mono' EncE.mono hs11.le
  have:=hs11.size
  have hb:=hs11.le _ _ hb
  have hb1:=hs11.le _ _ hb1
  have hox:=hox.t hs11
  have hor:=hor.t hs11
  have hot:=hot.t hs11
  have hT:=hT.t hs11
  refine ⟨(by repeat' first | exact trivial | exact BC hs11 hb1 rfl | refine And.intro ?_ ?_),?_⟩
  refine G0 11 4095 rfl (Ks [T]) (h_store hs11.sat hor rfl rfl rfl V rfl rfl rfl fun w12 hs12 hn12=>?_)
  clear hor; have hor:=hn12; clear hn12
  have:=hs12.size
  refine ⟨trivial,?_⟩
  refine Dx Z<|cw_ret ?_
  rw [Ro.insert,if_pos hc1]
  have hT:=hT.o hs12
  exact ⟨_,(Rc 1 rfl (OD hor rfl) res_nil),_,_,rfl,hT.to (by rw [Ro.insertC]; omega),hm⟩
 ·skip
  refine cw_skip<|hK5 _ _<|Rv fun Z=>?_
  have hs13:=Step.drew hs6.sat
  have:=hs13.size
  refine Gm 0 1 rfl ?_
  have hot:=hot.t hs13
  refine Gc 1 3 2 rfl (OD hot rfl)<|Gf 2 7 0 rfl<|G1 3 15 rfl (BC hs13 hb1 rfl)<|Gq 4 31 rfl (fun _=>q_nilp rfl)<|Gf 5 63 0 rfl<|Gc 6 127 1 rfl (BD hs13 hb rfl)<|Gm 7 255 rfl ?_
  have hox:=hox.t hs13
  refine Gc 8 511 2 rfl (OD hox rfl)<|Gh 9 1023 rfl (Ks [T,T,F,F]) (h_call V rfl ?_)
  refine (se_insert (x:=x) hs13.sat ht O).mono ?_
  rintro _ w14 ⟨qi,Mi,rfl,hs14,hi⟩
  have:=hs14.size
  have hor:=hor.t hs13 |>.t hs14
  have hT:=hT.t hs13 |>.t hs14
  have hb1:=hs14.le _ _ hb1
  have hot:=hot.t hs14
  refine ⟨(by repeat' first | exact trivial | exact BC hs14 hb1 rfl | exact OD hot rfl | refine And.intro ?_ ?_),?_⟩
  refine Gh 10 2047 rfl (Ks [F,T]) (h_call V rfl ?_)
  refine (r_made (x:=r) (ts:=sinsert ltE x ts) hs14.sat hi).mono ?_
  rintro _ w15 ⟨qm,Mm,rfl,hs15,hm⟩
  have:=hs15.size
  have hb1:=hs15.le _ _ hb1
  have hor:=hor.t hs15
  have hT:=hT.t hs15
  refine ⟨(by repeat' first | exact trivial | exact BC hs15 hb1 rfl | refine And.intro ?_ ?_),?_⟩
  refine G0 11 4095 rfl (Ks [T]) (h_store hs15.sat hor rfl rfl rfl V rfl rfl rfl fun w16 hs16 hn16=>?_)
  clear hor; have hor:=hn16; clear hn16
  have:=hs16.size
  refine ⟨trivial,?_⟩
  refine Dx Z<|cw_ret ?_
  rw [Ro.insert,if_neg (by rw [hc1]; decide)]
  have hT:=hT.o hs16
  exact ⟨_,(Rc 1 rfl (OD hor rfl) res_nil),_,_,rfl,hT.to (by rw [Ro.insertC]; omega),hm⟩
theorem r_insert {x:El} {t:Ro} {q:Option Addr} (hs:Sat M w) (h:RoRep 334 266 287 M t q) (hz:t.size<1000000000):Dz 232 #[.agg #[.pointer q],mval mb, .agg (elc x).toArray] w (fun v w'=>∃ q M',v = .agg #[.pointer q]∧StepC Nope (t.insertC) M w M' w'∧RoRep 334 266 287 M' (Ro.insert x t) q):=by
 cases t with
 | nil=>cases h; exact r_insert_n hs
 | node r ts=>exact r_insert_c hs h hz
theorem r_meld_a {u:Ro} {q2:Option Addr} (hs:Sat M w) (h2:RoRep 334 266 287 M u q2):
  Dz 233 #[.agg #[.pointer none],mval mb, .agg #[.pointer q2]] w (fun v w'=>∃ q M',v = .agg #[.pointer q]∧StepC Nope (0) M w M' w'∧RoRep 334 266 287 M' u q):=by
 have hT:=hs.r
 refine Fe Tryz.func233 [.cell 6 167] rfl<|Ri fun Z=>Bm hs rfl fun b1 M1 w1 hs1 hb1 e1=>?_
 have:=hs1.size
 refine Bm hs1.sat rfl fun b2 M2 w2 hs2 hb2 e2=>?_
 have:=hs2.size
 have hT:=hT.t hs1 |>.t hs2
 have:=hT.size
 refine Al (.agg #[(.pointer none)]) hs2.sat rfl fun br w3 hs3 hor er=>?_
 have:=hs3.size
 have:=hor.1.lt
 refine Nx Z<|cw_seq fun _ hK2=>cw_block<|Ri fun Z=>Qf 0 rfl ?_
 have hb1:=hs2.le _ _ hb1
 refine Q1 rfl (BC hs3 hb1 rfl)<|Qq rfl (qn rfl)<|Na rfl Z<|cw_true rfl<|Ri fun Z=>Qc 1 rfl (BD hs3 hb2 rfl)<|St hs3.sat hor rfl fun w4 hs4 hor=>?_
 have:=hs4.size
 refine Nx Z<|cw_ret ?_
 have h2:=h2.mono hs1.le |>.mono hs2.le
 have hT:=hT.t hs3 |>.o hs4
 exact ⟨_,(Rc 1 rfl (OD hor rfl) res_nil),_,_,rfl,hT,h2⟩
theorem r_meld_b {t:Ro} {a:Addr} (hs:Sat M w) (h:RoRep 334 266 287 M t (some a)):
  Dz 233 #[.agg #[.pointer (some a)],mval mb, .agg #[.pointer none]] w (fun v w'=>∃ q M',v = .agg #[.pointer q]∧StepC Nope (0) M w M' w'∧RoRep 334 266 287 M' t q):=by
 have hT:=hs.r
 refine Fe Tryz.func233 [.cell 6 167] rfl<|Ri fun Z=>Bm hs rfl fun b1 M1 w1 hs1 hb1 e1=>?_
 have:=hs1.size
 refine Bm hs1.sat rfl fun b2 M2 w2 hs2 hb2 e2=>?_
 have:=hs2.size
 have hT:=hT.t hs1 |>.t hs2
 have:=hT.size
 refine Al (.agg #[(.pointer none)]) hs2.sat rfl fun br w3 hs3 hor er=>?_
 have:=hs3.size
 have:=hor.1.lt
 refine Nx Z<|cw_seq fun _ hK2=>cw_block<|Ri fun Z=>Qf 0 rfl ?_
 have hb1:=hs2.le _ _ hb1
 refine Q1 rfl (BC hs3 hb1 rfl)<|Qq rfl (qn rfl)<|Na rfl Z<|cw_false rfl<|Ri fun Z=>Qf 0 rfl<|Q1 rfl (BC hs3 hb2 rfl)<|Qq rfl (qn rfl)<|Na rfl Z<|cw_true rfl<|Ri fun Z=>Qc 1 rfl (BD hs3 hb1 rfl)<|St hs3.sat hor rfl fun w4 hs4 hor=>?_
 have:=hs4.size
 refine Nx Z<|cw_ret ?_
 have h:=h.mono hs1.le |>.mono hs2.le
 have hT:=hT.t hs3 |>.o hs4
 exact ⟨_,(Rc 1 rfl (OD hor rfl) res_nil),_,_,rfl,hT,h⟩
theorem r_meld_c {r s:El} {ts us:List (RT El)} {q q2:Option Addr} (hs:Sat M w) (h:RoRep 334 266 287 M (.node r ts) q) (h2:RoRep 334 266 287 M (.node s us) q2) (hz:(Ro.node r ts).size+(Ro.node s us).size≤1000000000):
  Dz 233 #[.agg #[.pointer q],mval mb, .agg #[.pointer q2]] w (fun v w'=>∃ q M',v = .agg #[.pointer q]∧StepC Nope ((Ro.node r ts).meldC (.node s us)) M w M' w'∧RoRep 334 266 287 M' ((Ro.node r ts).meld (.node s us)) q):=by
 have hT:=hs.r
 obtain ⟨b,qs,rfl,hb,ht⟩:=h
 obtain ⟨bb,qs2,rfl,hbb,hu⟩:=h2
 have hz1:1+RT.sizes ts+(1+RT.sizes us)≤1000000000:=hz
 refine Fe Tryz.func233 [.cell 6 167] rfl<|Ri fun Z=>Bm hs rfl fun b1 M1 w1 hs1 hb1 e1=>?_
 have ht:=ht.mono' EncE.mono hs1.le
 have hu:=hu.mono' EncE.mono hs1.le
 have hz1:=hs1.size
 refine Bm hs1.sat rfl fun b2 M2 w2 hs2 hb2 e2=>?_
 have ht:=ht.mono' EncE.mono hs2.le
 have hu:=hu.mono' EncE.mono hs2.le
 have:=hs2.size
 have hT:=hT.t hs1 |>.t hs2
 have:=hT.size
 refine Al (.agg #[(.pointer none)]) hs2.sat rfl fun br w3 hs3 hor er=>?_
 have:=hs3.size
 have:=hor.1.lt
 refine Nx Z<|cw_seq fun _ hK2=>cw_block<|Ri fun Z=>Qf 0 rfl ?_
 have hb1:=hs2.le _ _ hb1
 refine Q1 rfl (BC hs3 hb1 rfl)<|Qq rfl (qn rfl)<|Na rfl Z<|cw_false rfl<|Ri fun Z=>Qf 0 rfl<|Q1 rfl (BC hs3 hb2 rfl)<|Qq rfl (qn rfl)<|Na rfl Z<|cw_false rfl<|cw_skip<|hK2 _ _ ?_
 have hb:=hs2.le _ _ (hs1.le _ _ hb)
 have hbb:=hs2.le _ _ (hs1.le _ _ hbb)
 have hT:=hT.t hs3
 refine cw_rdS (fun l2 w5=>∃ (bp bl:Nat),bp≠bl∧bp≠br∧bl≠br∧w.heap.size≤bp∧w.heap.size≤bl∧l2=[(1,mval mb),(3, .pointer (some ⟨b1,0,none⟩)),(5, .pointer (some ⟨b2,0,none⟩)),(6, .pointer (some ⟨br,0,none⟩)),(7, .pointer (some ⟨bp,0,none⟩)),(8, .pointer (some ⟨bl,0,none⟩))]∧Step Nope M w M2 w5∧Own w5 M2 bp [.int .i64 r.1, .int .i64 r.2] 29∧Own w5 M2 bl [.int .i64 s.1, .int .i64 s.2] 29∧Own w5 M2 br [.pointer none] 167) V V V rfl rfl ?_ ?_
 ·have hs4:=Step.drew hs3.sat
  have:=hs4.size
  refine Gf 0 1 0 rfl<|G1 1 3 rfl (BC hs4 hb1 rfl)<|Gq 2 7 rfl (fun _=>q_nilp rfl)<|Gf 3 15 1 rfl<|Gc 4 31 2 rfl (BD hs4 hb rfl)<|Gf 5 63 0 rfl<|G1 6 127 rfl (BC hs4 hb2 rfl)<|Gq 7 255 rfl (fun _=>q_nilp rfl)<|Gf 8 511 1 rfl<|Gc 9 1023 2 rfl (BD hs4 hbb rfl) ?_
  have hor:=hor.t hs4
  have hT:=hT.t hs4
  refine at_two (i:=10) (j:=11) V ?_ ?_
  ·have hqap:=hT.size
   refine Gi 10 2047 rfl (Ks [F,F,F,F]) (h_allocO (z:=(.agg #[(.int .i64 0),(.int .i64 0)])) hs4.sat V rfl fun bp w5 hs5 hop ep=>?_)
   have:=hs5.size
   have hlp:=hop.1.lt
   have hor:=hor.t hs5
   have hT:=hT.t hs5
   refine ⟨(by repeat' first | exact trivial | exact BD hs5 hb rfl | exact BD hs5 hbb rfl | exact BC hs5 hb1 rfl | exact BC hs5 hb2 rfl | refine And.intro ?_ ?_),?_⟩
   have hqal:=hT.size
   refine Gh 11 4095 rfl (Ks [F,F,F,F]) (h_allocO (z:=(.agg #[(.int .i64 0),(.int .i64 0)])) hs5.sat V rfl fun bl w6 hs6 hol el=>?_)
   have:=hs6.size
   have hll:=hol.1.lt
   have hor:=hor.t hs6
   have hop:=hop.t hs6
   have hT:=hT.t hs6
   refine ⟨(by repeat' first | exact trivial | exact BD hs6 hb rfl | exact BD hs6 hbb rfl | exact BC hs6 hb1 rfl | exact BC hs6 hb2 rfl | refine And.intro ?_ ?_),?_⟩
   refine G0 12 8191 rfl (Ks [F,F,T,T]) (h_store hs6.sat hop rfl rfl rfl V rfl rfl rfl fun w7 hs7 hn7=>?_)
   clear hop; have hop:=hn7; clear hn7
   have:=hs7.size
   have hor:=hor.u hs7
   have hol:=hol.u hs7
   have hT:=hT.o hs7
   refine ⟨(by repeat' first | exact trivial | exact BD hs7 hbb rfl | exact BC hs7 hb2 rfl | refine And.intro ?_ ?_),?_⟩
   refine G0 13 16383 rfl (Ks [T,T]) (h_store hs7.sat hol rfl rfl rfl V rfl rfl rfl fun w8 hs8 hn8=>?_)
   clear hol; have hol:=hn8; clear hn8
   have:=hs8.size
   refine ⟨trivial,?_⟩
   refine Dd V ?_
   have hT:=hT.o hs8
   have hTs:=hT.size
   have hor:=hor.u hs8
   have hop:=hop.u hs8
   exact ⟨_,(.cons rfl (.cons rfl (.cons rfl (.cons rfl (.cons rfl (.cons rfl (.nil _))))))),bp,bl,by omega,by omega,by omega,by omega,by omega,rfl,hT,hop,hol,hor⟩
  ·have hqal:=hT.size
   refine Gi 11 3071 rfl (Ks [F,F,F,F]) (h_allocO (z:=(.agg #[(.int .i64 0),(.int .i64 0)])) hs4.sat V rfl fun bl w9 hs9 hol el=>?_)
   have:=hs9.size
   have hll:=hol.1.lt
   have hor:=hor.t hs9
   have hT:=hT.t hs9
   refine ⟨(by repeat' first | exact trivial | exact BD hs9 hb rfl | exact BD hs9 hbb rfl | exact BC hs9 hb1 rfl | exact BC hs9 hb2 rfl | refine And.intro ?_ ?_),?_⟩
   have hqap:=hT.size
   refine Gh 10 4095 rfl (Ks [F,F,F,F]) (h_allocO (z:=(.agg #[(.int .i64 0),(.int .i64 0)])) hs9.sat V rfl fun bp w10 hs10 hop ep=>?_)
   have:=hs10.size
   have hlp:=hop.1.lt
   have hor:=hor.t hs10
   have hol:=hol.t hs10
   have hT:=hT.t hs10
   refine ⟨(by repeat' first | exact trivial | exact BD hs10 hb rfl | exact BD hs10 hbb rfl | exact BC hs10 hb1 rfl | exact BC hs10 hb2 rfl | refine And.intro ?_ ?_),?_⟩
   refine G0 12 8191 rfl (Ks [F,F,T,T]) (h_store hs10.sat hop rfl rfl rfl V rfl rfl rfl fun w11 hs11 hn11=>?_)
   clear hop; have hop:=hn11; clear hn11
   have:=hs11.size
   have hor:=hor.u hs11
   have hol:=hol.u hs11
   have hT:=hT.o hs11
   refine ⟨(by repeat' first | exact trivial | exact BD hs11 hbb rfl | exact BC hs11 hb2 rfl | refine And.intro ?_ ?_),?_⟩
   refine G0 13 16383 rfl (Ks [T,T]) (h_store hs11.sat hol rfl rfl rfl V rfl rfl rfl fun w12 hs12 hn12=>?_)
   clear hol; have hol:=hn12; clear hn12
   have:=hs12.size
   refine ⟨trivial,?_⟩
   refine Dd V ?_
   have hT:=hT.o hs12
   have hTs:=hT.size
   have hor:=hor.u hs12
   have hop:=hop.u hs12
   exact ⟨_,(.cons rfl (.cons rfl (.cons rfl (.cons rfl (.cons rfl (.cons rfl (.nil _))))))),bp,bl,by omega,by omega,by omega,by omega,by omega,rfl,hT,hop,hol,hor⟩
 have hbrw:w.heap.size≤br:=by omega
 clear hT hor
 rintro l2 w5 ⟨bp,bl,hn1,hn2,hn3,hn4,hn5,rfl,hT,hop,hol,hor⟩
 refine cw_seq fun _ hK6=>Ri fun Z=>Qm rfl<|Qc 2 rfl (OD hol rfl)<|Qc 2 rfl (OD hop rfl)<|Ca rfl ((m_less (a:=s) (b:=r) hT.sat).mono ?_)
 rintro _ w13 ⟨rfl,hs13⟩
 have ht:=ht.mono' EncE.mono hs13.le
 have hu:=hu.mono' EncE.mono hs13.le
 have:=hs13.size
 refine Nx Z ?_
 have hb:=hs13.le _ _ hb
 have hbb:=hs13.le _ _ hbb
 have hb1:=hs13.le _ _ hb1
 have hb2:=hs13.le _ _ hb2
 have hop:=hop.t hs13
 have hol:=hol.t hs13
 have hor:=hor.t hs13
 have hT:=hT.t hs13
 refine cw_cond rfl (fun hc2=>?_) (fun hc2=>?_)
 ·skip
  refine cw_region fun _ Z=>Qc 2 rfl (OD hol rfl)<|Qc 2 rfl (OD hop rfl)<|St hs13.sat hop rfl fun w14 hs14 hop=>?_
  have:=hs14.size
  have hol:=hol.u hs14
  refine St hs14.sat hol rfl fun w15 hs15 hol=>?_
  have:=hs15.size
  refine as_nil (Z _ _ ?_)
  refine hK6 _ _<|Rv fun Z=>?_
  have hs16:=Step.drew hs15.sat
  have:=hs16.size
  refine Gm 0 1 rfl ?_
  have hop:=hop.u hs15 |>.t hs16
  refine Gc 1 3 2 rfl (OD hop rfl)<|Gf 2 7 0 rfl<|G1 3 15 rfl (BC hs16 hb1 rfl)<|Gq 4 31 rfl (fun _=>q_nilp rfl)<|Gf 5 63 0 rfl<|Gc 6 127 1 rfl (BD hs16 hb rfl)<|Gm 7 255 rfl<|Gf 8 511 0 rfl<|G1 9 1023 rfl (BC hs16 hb2 rfl)<|Gq 10 2047 rfl (fun _=>q_nilp rfl)<|Gf 11 4095 0 rfl<|Gc 12 8191 1 rfl (BD hs16 hbb rfl)<|Gm 14 24575 rfl ?_
  have hol:=hol.t hs16
  refine Gc 15 57343 2 rfl (OD hol rfl)<|Gh 13 65535 rfl (Ks [F,T,F,T,F,F]) (h_call V rfl ?_)
  refine (se_meld hs16.sat ht hu O).mono ?_
  rintro _ w17 ⟨qm,Mm,rfl,hs17,hm⟩
  have ht:=ht.mono' EncE.mono hs17.le
  have hu:=hu.mono' EncE.mono hs17.le
  have:=hs17.size
  have hor:=hor.u hs14 |>.u hs15 |>.t hs16 |>.t hs17
  have hT:=hT.o hs14 |>.o hs15 |>.t hs16 |>.t hs17
  have hb:=hs17.le _ _ hb
  have hbb:=hs17.le _ _ hbb
  have hb1:=hs17.le _ _ hb1
  have hb2:=hs17.le _ _ hb2
  have hop:=hop.t hs17
  have hol:=hol.t hs17
  refine ⟨(by repeat' first | exact trivial | exact BC hs17 hb1 rfl | exact BC hs17 hb2 rfl | exact OD hop rfl | exact OD hol rfl | refine And.intro ?_ ?_),?_⟩
  refine Gh 16 131071 rfl (Ks [T,F,F,F]) (h_call V rfl ?_)
  have hsm:=smeld_size ltE ts us
  refine (se_insert (x:=r) hs17.sat hm O).mono ?_
  rintro _ w18 ⟨qi,Mi,rfl,hs18,hi⟩
  have ht:=ht.mono' EncE.mono hs18.le
  have hu:=hu.mono' EncE.mono hs18.le
  have hm:=hm.mono' EncE.mono hs18.le
  have:=hs18.size
  have hb:=hs18.le _ _ hb
  have hbb:=hs18.le _ _ hbb
  have hb1:=hs18.le _ _ hb1
  have hb2:=hs18.le _ _ hb2
  have hop:=hop.t hs18
  have hol:=hol.t hs18
  have hor:=hor.t hs18
  have hT:=hT.t hs18
  refine ⟨(by repeat' first | exact trivial | exact BC hs18 hb1 rfl | exact BC hs18 hb2 rfl | exact OD hop rfl | refine And.intro ?_ ?_),?_⟩
  refine Gh 17 262143 rfl (Ks [F,F,T]) (h_call V rfl ?_)
  refine (r_made (x:=s) (ts:=sinsert ltE r (smeld ltE ts us)) hs18.sat hi).mono ?_
  rintro _ w19 ⟨qz,Mz,rfl,hs19,hzz⟩
  have ht:=ht.mono' EncE.mono hs19.le
  have hu:=hu.mono' EncE.mono hs19.le
  have hm:=hm.mono' EncE.mono hs19.le
  have hi:=hi.mono' EncE.mono hs19.le
  have:=hs19.size
  have hb:=hs19.le _ _ hb
  have hbb:=hs19.le _ _ hbb
  have hb1:=hs19.le _ _ hb1
  have hb2:=hs19.le _ _ hb2
  have hop:=hop.t hs19
  have hol:=hol.t hs19
  have hor:=hor.t hs19
  have hT:=hT.t hs19
  refine ⟨(by repeat' first | exact trivial | exact BC hs19 hb1 rfl | exact BC hs19 hb2 rfl | refine And.intro ?_ ?_),?_⟩
  refine G0 18 524287 rfl (Ks [T,T]) (h_store hs19.sat hor rfl rfl rfl V rfl rfl rfl fun w20 hs20 hn20=>?_)
  clear hor; have hor:=hn20; clear hn20
  have:=hs20.size
  refine ⟨trivial,?_⟩
  refine Dx Z<|cw_ret ?_
  rw [Ro.meld,if_pos hc2]
  have hT:=hT.o hs20
  exact ⟨_,(Rc 1 rfl (OD hor rfl) res_nil),_,_,rfl,hT.to (by rw [Ro.meldC]; omega),hzz⟩
 ·skip
  refine cw_skip<|hK6 _ _<|Rv fun Z=>?_
  have hs21:=Step.drew hs13.sat
  have:=hs21.size
  refine Gm 0 1 rfl ?_
  have hop:=hop.t hs21
  refine Gc 1 3 2 rfl (OD hop rfl)<|Gf 2 7 0 rfl<|G1 3 15 rfl (BC hs21 hb1 rfl)<|Gq 4 31 rfl (fun _=>q_nilp rfl)<|Gf 5 63 0 rfl<|Gc 6 127 1 rfl (BD hs21 hb rfl)<|Gm 7 255 rfl<|Gf 8 511 0 rfl<|G1 9 1023 rfl (BC hs21 hb2 rfl)<|Gq 10 2047 rfl (fun _=>q_nilp rfl)<|Gf 11 4095 0 rfl<|Gc 12 8191 1 rfl (BD hs21 hbb rfl)<|Gm 14 24575 rfl ?_
  have hol:=hol.t hs21
  refine Gc 15 57343 2 rfl (OD hol rfl)<|Gh 13 65535 rfl (Ks [F,T,F,T,F,F]) (h_call V rfl ?_)
  refine (se_meld hs21.sat ht hu O).mono ?_
  rintro _ w22 ⟨qm,Mm,rfl,hs22,hm⟩
  have:=hs22.size
  have hor:=hor.t hs21 |>.t hs22
  have hT:=hT.t hs21 |>.t hs22
  have hb1:=hs22.le _ _ hb1
  have hb2:=hs22.le _ _ hb2
  have hop:=hop.t hs22
  have hol:=hol.t hs22
  refine ⟨(by repeat' first | exact trivial | exact BC hs22 hb1 rfl | exact BC hs22 hb2 rfl | exact OD hop rfl | exact OD hol rfl | refine And.intro ?_ ?_),?_⟩
  refine Gh 16 131071 rfl (Ks [T,F,F,F]) (h_call V rfl ?_)
  have hsm:=smeld_size ltE ts us
  refine (se_insert (x:=s) hs22.sat hm O).mono ?_
  rintro _ w23 ⟨qi,Mi,rfl,hs23,hi⟩
  have:=hs23.size
  have hb1:=hs23.le _ _ hb1
  have hb2:=hs23.le _ _ hb2
  have hop:=hop.t hs23
  have hor:=hor.t hs23
  have hT:=hT.t hs23
  refine ⟨(by repeat' first | exact trivial | exact BC hs23 hb1 rfl | exact BC hs23 hb2 rfl | exact OD hop rfl | refine And.intro ?_ ?_),?_⟩
  refine Gh 17 262143 rfl (Ks [F,F,T]) (h_call V rfl ?_)
  refine (r_made (x:=r) (ts:=sinsert ltE s (smeld ltE ts us)) hs23.sat hi).mono ?_
  rintro _ w24 ⟨qz,Mz,rfl,hs24,hzz⟩
  have:=hs24.size
  have hb1:=hs24.le _ _ hb1
  have hb2:=hs24.le _ _ hb2
  have hor:=hor.t hs24
  have hT:=hT.t hs24
  refine ⟨(by repeat' first | exact trivial | exact BC hs24 hb1 rfl | exact BC hs24 hb2 rfl | refine And.intro ?_ ?_),?_⟩
  refine G0 18 524287 rfl (Ks [T,T]) (h_store hs24.sat hor rfl rfl rfl V rfl rfl rfl fun w25 hs25 hn25=>?_)
  clear hor; have hor:=hn25; clear hn25
  have:=hs25.size
  refine ⟨trivial,?_⟩
  refine Dx Z<|cw_ret ?_
  rw [Ro.meld,if_neg (by rw [hc2]; decide)]
  have hT:=hT.o hs25
  exact ⟨_,(Rc 1 rfl (OD hor rfl) res_nil),_,_,rfl,hT.to (by rw [Ro.meldC]; omega),hzz⟩
theorem r_meld {t u:Ro} {q q2:Option Addr} (hs:Sat M w) (h:RoRep 334 266 287 M t q) (h2:RoRep 334 266 287 M u q2) (hz:t.size+u.size≤1000000000):Dz 233 #[.agg #[.pointer q],mval mb, .agg #[.pointer q2]] w (fun v w'=>∃ q M',v = .agg #[.pointer q]∧StepC Nope (t.meldC u) M w M' w'∧RoRep 334 266 287 M' (t.meld u) q):=by
 cases t with
 | nil=>cases h; exact r_meld_a hs h2
 | node r ts=>
  cases u with
  | nil=>cases h2; obtain ⟨b,_,rfl,_⟩:=id h; exact r_meld_b hs h
  | node s us=>exact r_meld_c hs h h2 hz
end Go.Proofs.YtnnldppehojffaaGreat
