/- Steps of the proof that the law of this claim answers true, part 7. No conditions. -/
import Derived.Test.YtnnldppehojffaaGreatRows
import Derived.KernelRfl
import Derived.Test.YtnnldppehojffaaGreatCDrainTellsF
/- What the law makes, part 1. -/
namespace Go.Proofs.YtnnldppehojffaaGreat
open Go Go.Eng
variable {mb:Option Nat} {w:World} {M:Mem mb}
set_option maxRecDepth 8000 in
theorem made16 {w:World} {M:Mem none} {k:Nat} {u:Int} {xs ys:List El} {va vb:Value} (hs:Sat M w) (hx:Row EncE 2 M xs va) (hy:Row EncE 2 M ys vb) (hk0:k≠0) (hk6:k≤6) (hn:xs.length≤40) (hm:ys.length≤40) (hu0:0≤u) (hu:u≤255):
  Dz 5 #[.int .i64 (k:Nat),va,vb, .int .u8 u] w (fun v w'=>∃ v' cs rv H l M',v = .tuple #[.agg #[v'], .agg cs.toArray,rv]∧Step Nope M w M' w'∧HVal M' H k l v'∧H15 M' H cs∧Row EncE 2 M' l rv∧l.length≤80):=by
 have hT:=hs.r
 obtain ⟨sa,ca,rfl,_⟩:=hx.slice
 obtain ⟨sb,cb,rfl,_⟩:=hy.slice
 have hx0:=hx
 have hy0:=hy
 obtain ⟨L,hL⟩:∃ L,L=srtE (xs++ys):=⟨_,rfl⟩
 have hLl:L.length=xs.length+ys.length:=by rw [hL,srtE_length,List.length_append]
 refine Fe Tryz.func5 [.cell 8 27, .cell 9 46, .tmp 10] rfl<|Ri fun Z=>?_
 have:=hT.size
 refine Al (.agg #[.nilIface]) hs rfl fun brh w1 hs1 horh erh=>?_
 have:=hs1.size
 have:=horh.1.lt
 have hT:=hT.t hs1
 have:=hT.size
 refine Al (.agg #[(.int .i64 0),(.int .i64 0),(.int .i64 0),(.slice none 0 0),(.slice none 0 0),(.int .i64 0),(.int .i64 0),(.slice none 0 0),(.int .i64 0),(.slice none 0 0),(.bool false),(.int .i64 0),(.int .i64 0),(.slice none 0 0),(.bool false),(.int .i64 0),(.int .i64 0),(.slice none 0 0)]) hs1.sat rfl fun brg w2 hs2 horg erg=>?_
 have:=hs2.size
 have:=horg.1.lt
 refine Nar rfl Z fun Z=>Qm rfl<|Qm rfl<|Ca rfl ((hp_of0 hs2.sat hx O hk0 hk6).mono ?_)
 rintro _ w3 ⟨da,ua,Ma,rfl,hs3,hva⟩
 have:=hs3.size
 refine Qm rfl<|Qe rfl<|Qe rfl ?_
 have hT:=hT.t hs2 |>.t hs3
 have:=hT.size
 refine Al (.agg #[.nilIface]) hs3.sat rfl fun boa w4 hs4 hooa eoa=>?_
 have:=hs4.size
 have:=hooa.1.lt
 refine St hs4.sat hooa rfl fun w5 hs5 hooa=>?_
 have:=hs5.size
 refine Nar rfl Z fun Z=>Qm rfl<|Qm rfl ?_
 have hy:=hy.mono encE_ok hs3.le
 refine Ca rfl ((hp_of0 hs5.sat hy O hk0 hk6).mono ?_)
 rintro _ w6 ⟨db,ub,Mb,rfl,hs6,hvb⟩
 have:=hs6.size
 refine Qm rfl<|Qe rfl<|Qe rfl ?_
 have hT:=hT.t hs4 |>.o hs5 |>.t hs6
 have:=hT.size
 refine Al (.agg #[.nilIface]) hs6.sat rfl fun bob w7 hs7 hoob eob=>?_
 have:=hs7.size
 have:=hoob.1.lt
 refine St hs7.sat hoob rfl fun w8 hs8 hoob=>?_
 have:=hs8.size
 refine Nar rfl Z fun Z=>?_
 have hooa:=hooa.t hs6 |>.t hs7 |>.u hs8
 refine Qc 1 rfl (OD hooa rfl)<|Qc 1 rfl (OD hoob rfl) ?_
 have hva:=hva.mono hs6.le
 refine Ca rfl ((hp_meld0 hs8.sat hva hvb hk0 (by rw [srtE_length,srtE_length]; omega)).mono ?_)
 rintro _ w9 ⟨dm,um,Mm,rfl,hs9,hvm⟩
 rw [show srtE (srtE xs++srtE ys)=L from (srtE_app xs ys).symm.trans hL.symm] at hvm
 have:=hs9.size
 refine Qm rfl<|Qe rfl<|Qe rfl ?_
 have hT:=hT.t hs7 |>.o hs8 |>.t hs9
 have:=hT.size
 refine Al (.agg #[.nilIface]) hs9.sat rfl fun boh w10 hs10 hooh eoh=>?_
 have:=hs10.size
 have:=hooh.1.lt
 refine St hs10.sat hooh rfl fun w11 hs11 hooh=>?_
 have:=hs11.size
 refine Nar rfl Z fun Z=>Qm rfl<|Qq rfl (q_build (zs:=[(.int .i64 0),(.int .i64 0),(.int .i64 0),(.slice none 0 0),(.slice none 0 0),(.int .i64 0),(.int .i64 0),(.slice none 0 0),(.int .i64 0),(.slice none 0 0),(.bool false),(.int .i64 0),(.int .i64 0),(.slice none 0 0),(.bool false),(.int .i64 0),(.int .i64 0),(.slice none 0 0)]) (places:=[(0,1),(1,3),(4,1),(5,4),(9,1),(10,4),(14,4)]) (cs:=[_,_,_,_,_,_,_,_,_,_,_,_,_,_,_,_,_,_]) V V rfl rfl) ?_
 have hT:=hT.t hs10 |>.o hs11
 have:=hT.size
 refine Al (.agg #[(.int .i64 0),(.int .i64 0),(.int .i64 0),(.slice none 0 0),(.slice none 0 0),(.int .i64 0),(.int .i64 0),(.slice none 0 0),(.int .i64 0),(.slice none 0 0),(.bool false),(.int .i64 0),(.int .i64 0),(.slice none 0 0),(.bool false),(.int .i64 0),(.int .i64 0),(.slice none 0 0)]) hs11.sat rfl fun bga w12 hs12 hoga ega=>?_
 have:=hs12.size
 have:=hoga.1.lt
 refine St hs12.sat hoga rfl fun w13 hs13 hoga=>?_
 have:=hs13.size
 have hoga:=hoga.all rfl
 refine Nr Z fun Z=>Qm rfl<|Qq rfl (q_build (zs:=[(.int .i64 0),(.int .i64 0),(.int .i64 0),(.slice none 0 0),(.slice none 0 0),(.int .i64 0),(.int .i64 0),(.slice none 0 0),(.int .i64 0),(.slice none 0 0),(.bool false),(.int .i64 0),(.int .i64 0),(.slice none 0 0),(.bool false),(.int .i64 0),(.int .i64 0),(.slice none 0 0)]) (places:=[(0,1),(1,3),(4,1),(5,4),(9,1),(10,4),(14,4)]) (cs:=[_,_,_,_,_,_,_,_,_,_,_,_,_,_,_,_,_,_]) V V rfl rfl) ?_
 have hT:=hT.t hs12 |>.o hs13
 have:=hT.size
 refine Al (.agg #[(.int .i64 0),(.int .i64 0),(.int .i64 0),(.slice none 0 0),(.slice none 0 0),(.int .i64 0),(.int .i64 0),(.slice none 0 0),(.int .i64 0),(.slice none 0 0),(.bool false),(.int .i64 0),(.int .i64 0),(.slice none 0 0),(.bool false),(.int .i64 0),(.int .i64 0),(.slice none 0 0)]) hs13.sat rfl fun bgb w14 hs14 hogb egb=>?_
 have:=hs14.size
 have:=hogb.1.lt
 refine St hs14.sat hogb rfl fun w15 hs15 hogb=>?_
 have:=hs15.size
 have hogb:=hogb.all rfl
 refine Nx Z<|cw_seq fun _ hK7=>Ri fun Z=>?_
 have hga:H15 Mm (insAll (xs.take 0) (HM.empty k)) [.int .i64 (k:Nat), .int .i64 0, .int .i64 0, .slice none 0 0, .slice none 0 0, .int .i64 0, .int .i64 0, .slice none 0 0, .int .i64 0, .slice none 0 0, .bool false, .int .i64 0, .int .i64 0, .slice none 0 0, .bool false, .int .i64 0, .int .i64 0, .slice none 0 0]:=by rw [List.take_zero]; exact h15_empty hk0 hk6
 have hgb:H15 Mm (insAll (ys.take 0) (HM.empty k)) [.int .i64 (k:Nat), .int .i64 0, .int .i64 0, .slice none 0 0, .slice none 0 0, .int .i64 0, .int .i64 0, .slice none 0 0, .int .i64 0, .slice none 0 0, .bool false, .int .i64 0, .int .i64 0, .slice none 0 0, .bool false, .int .i64 0, .int .i64 0, .slice none 0 0]:=by rw [List.take_zero]; exact h15_empty hk0 hk6
 refine Na rfl Z<|cw_block ?_
 have horh:=horh.t hs2 |>.t hs3 |>.t hs4 |>.u hs5 |>.t hs6 |>.t hs7 |>.u hs8 |>.t hs9 |>.t hs10 |>.u hs11 |>.t hs12 |>.u hs13 |>.t hs14 |>.u hs15
 have hx:=hx.mono encE_ok hs3.le |>.mono encE_ok hs6.le |>.mono encE_ok hs9.le
 have horg:=horg.t hs3 |>.t hs4 |>.u hs5 |>.t hs6 |>.t hs7 |>.u hs8 |>.t hs9 |>.t hs10 |>.u hs11 |>.t hs12 |>.u hs13 |>.t hs14 |>.u hs15
 have hy:=hy.mono encE_ok hs6.le |>.mono encE_ok hs9.le
 have hooh:=hooh.t hs12 |>.u hs13 |>.t hs14 |>.u hs15
 have hoga:=hoga.t hs14 |>.u hs15
 have hT:=hT.t hs14 |>.o hs15
 refine cw_loop (fun mm l1 wL=>∃ (i:Nat) (cs:List Value) (ML:Mem none),mm=xs.length-i∧i≤xs.length∧l1=[(1, .slice sa xs.length ca),(2, .slice sb ys.length cb),(3, .int .u8 u),(8, .pointer (some ⟨brh,0,none⟩)),(9, .pointer (some ⟨brg,0,none⟩)),(15, .pointer (some ⟨boh,0,none⟩)),(17, .pointer (some ⟨bga,0,none⟩)),(18, .pointer (some ⟨bgb,0,none⟩)),(19, .int .i64 (i:Nat))]∧Step Nope M w ML wL∧Own wL ML brh [.nilIface] 27∧Own wL ML brg [.int .i64 0, .int .i64 0, .int .i64 0, .slice none 0 0, .slice none 0 0, .int .i64 0, .int .i64 0, .slice none 0 0, .int .i64 0, .slice none 0 0, .bool false, .int .i64 0, .int .i64 0, .slice none 0 0, .bool false, .int .i64 0, .int .i64 0, .slice none 0 0] 46∧Own wL ML boh [.iface dm um] 27∧HVal ML ((insAll xs (HM.empty k)).meld (insAll ys (HM.empty k))) k L (.iface dm um)∧Own wL ML bga cs 46∧Own wL ML bgb [.int .i64 (k:Nat), .int .i64 0, .int .i64 0, .slice none 0 0, .slice none 0 0, .int .i64 0, .int .i64 0, .slice none 0 0, .int .i64 0, .slice none 0 0, .bool false, .int .i64 0, .int .i64 0, .slice none 0 0, .bool false, .int .i64 0, .int .i64 0, .slice none 0 0] 46∧H15 ML (insAll (xs.take i) (HM.empty k)) cs∧H15 ML (insAll (ys.take 0) (HM.empty k)) [.int .i64 (k:Nat), .int .i64 0, .int .i64 0, .slice none 0 0, .slice none 0 0, .int .i64 0, .int .i64 0, .slice none 0 0, .int .i64 0, .slice none 0 0, .bool false, .int .i64 0, .int .i64 0, .slice none 0 0, .bool false, .int .i64 0, .int .i64 0, .slice none 0 0]) (xs.length) [(1, .slice sa xs.length ca),(2, .slice sb ys.length cb),(3, .int .u8 u),(8, .pointer (some ⟨brh,0,none⟩)),(9, .pointer (some ⟨brg,0,none⟩)),(15, .pointer (some ⟨boh,0,none⟩)),(17, .pointer (some ⟨bga,0,none⟩)),(18, .pointer (some ⟨bgb,0,none⟩)),(19, .int .i64 ((0:Nat):Int))] (.cons rfl (.cons rfl (.cons rfl (.cons rfl (.cons rfl (.cons rfl (.cons rfl (.cons rfl (.cons rfl (.nil _)))))))))) ?_ ?_
 ·exact ⟨0,_,_,rfl,Nat.zero_le _,rfl,hT,horh,horg,hooh,hvm,hoga,hogb,hga,hgb⟩
 have hB0:w.heap.size≤brh∧brh<brg∧brg<boh∧boh<bga∧bga<bgb:=by omega
 clear hT hx hy horh horg hooh hvm hoga hogb hga hgb
 rintro mm l1 wL ⟨i,cs,ML,rfl,hi,rfl,hT,horh,horg,hooh,hvm,hoga,hogb,hga,hgb⟩
 have hx:=hx0
 have hy:=hy0
 obtain ⟨x0a,x1a,x2a,x5a,x6a,x8a,x11a,x12a,x15a,x16a,a3a,a4a,a7a,a9a,a13a,a17a,n3a,n4a,n7a,n9a,n13a,n17a,c3a,c4a,c7a,c9a,c13a,c17a,b10a,b14a,rfl⟩:=hga.shape
 have hqrh:=horh.1.lt
 have hqrg:=horg.1.lt
 have hqoh:=hooh.1.lt
 have hqga:=hoga.1.lt
 have hqgb:=hogb.1.lt
 refine cw_seq fun _ hK9=>Ri fun Z=>Qm rfl<|Qm rfl<|Qq rfl (ql rfl)<|Qq rfl (q_lt rfl rfl)<|Nx Z ?_
 have hx:=hx.mono encE_ok hT.le
 have hy:=hy.mono encE_ok hT.le
 refine cw_cond rfl (fun hc0=>?_) (fun hc0=>?_)
 ·have hlt:i<xs.length:=by have:=of_decide_eq_true hc0; omega
  obtain ⟨y,hy0_⟩:∃ y,xs[i]? = some y:=⟨xs[i],by simp⟩
  obtain ⟨gy,oy,yc,e_,_,hyy,haty⟩:=hx0.get encE_ok hy0_
  subst e_
  cases hyy
  have hpga:=insAll_e hk0 hk6 (xs.take i)
  have hsn:insAll (xs.take (i+1)) (HM.empty k)=(insAll (xs.take i) (HM.empty k)).insert y:=by rw [List.take_add_one,hy0_]; exact insAll_snoc _ _ _
  refine cw_skip<|hK9 _ _<|cw_seq fun _ hK11=>cw_block ?_
  have hcut16:=hT.size
  refine cw_rdS (fun l16 w16=>∃ (M16:Mem none) (bna:Nat) (x0p x1p x2p x5p x6p x8p x11p x12p x15p x16p:Int) (a3p a4p a7p a9p a13p a17p:Option Addr) (n3p n4p n7p n9p n13p n17p:Nat) (c3p c4p c7p c9p c13p c17p:Nat) (b10p b14p:Bool),l16=[(1, .slice (some ⟨gy,oy,none⟩) xs.length ca),(2, .slice sb ys.length cb),(3, .int .u8 u),(8, .pointer (some ⟨brh,0,none⟩)),(9, .pointer (some ⟨brg,0,none⟩)),(15, .pointer (some ⟨boh,0,none⟩)),(17, .pointer (some ⟨bga,0,none⟩)),(18, .pointer (some ⟨bgb,0,none⟩)),(19, .int .i64 (i:Nat)),(20, .pointer (some ⟨bna,0,none⟩))]∧Step Nope ML wL M16 w16∧Own w16 M16 bna [.int .i64 x0p, .int .i64 x1p, .int .i64 x2p, .slice a3p n3p c3p, .slice a4p n4p c4p, .int .i64 x5p, .int .i64 x6p, .slice a7p n7p c7p, .int .i64 x8p, .slice a9p n9p c9p, .bool b10p, .int .i64 x11p, .int .i64 x12p, .slice a13p n13p c13p, .bool b14p, .int .i64 x15p, .int .i64 x16p, .slice a17p n17p c17p] 46∧wL.heap.size≤bna∧H15 M16 (insAll (xs.take (i+1)) (HM.empty k)) [.int .i64 x0p, .int .i64 x1p, .int .i64 x2p, .slice a3p n3p c3p, .slice a4p n4p c4p, .int .i64 x5p, .int .i64 x6p, .slice a7p n7p c7p, .int .i64 x8p, .slice a9p n9p c9p, .bool b10p, .int .i64 x11p, .int .i64 x12p, .slice a13p n13p c13p, .bool b14p, .int .i64 x15p, .int .i64 x16p, .slice a17p n17p c17p]) V V V rfl rfl ?_ ?_
  ·have hR:=Step.refl Nope hT.sat
   have hs17:=Step.drew hT.sat
   have:=hs17.size
   refine Gm 0 1 rfl<|Gm 1 3 rfl<|Gq 2 7 rfl (fun _=>qi 29 2 rfl) ?_
   have hT:=hT.t hs17
   refine Gc 3 15 2 rfl (haty _ _ hT.le hT.sat) ?_
   have hoga:=hoga.t hs17
   refine Gc 4 31 18 rfl (OD hoga rfl) ?_
   have horh:=horh.t hs17
   have horg:=horg.t hs17
   have hooh:=hooh.t hs17
   have hogb:=hogb.t hs17
   have hR:=hR.t hs17
   refine at_two (i:=5) (j:=9) V ?_ ?_
   ·refine Gi 5 63 rfl (Ks [T,T]) (h_call V rfl ?_)
    refine (r15_insert (x0:=y) hs17.sat hga hpga.1 (by rw [hpga.2.2,List.length_take]; omega)).mono ?_
    rintro _ w18 ⟨ics,ic,Mi,rfl,hs18,hi⟩
    rw [← hsn] at hi
    obtain ⟨x0p,x1p,x2p,x5p,x6p,x8p,x11p,x12p,x15p,x16p,a3p,a4p,a7p,a9p,a13p,a17p,n3p,n4p,n7p,n9p,n13p,n17p,c3p,c4p,c7p,c9p,c13p,c17p,b10p,b14p,rfl⟩:=hi.shape
    have:=hs18.size
    refine ⟨trivial,?_⟩
    refine Gm 6 127 rfl<|Gq 7 255 rfl (fun _=>q_extract rfl rfl)<|Gq 8 511 rfl (fun _=>q_extract rfl rfl) ?_
    have hT:=hT.t hs18
    have hqana:=hT.size
    refine Gh 9 1023 rfl rfl (h_allocO (z:=(.agg #[(.int .i64 0),(.int .i64 0),(.int .i64 0),(.slice none 0 0),(.slice none 0 0),(.int .i64 0),(.int .i64 0),(.slice none 0 0),(.int .i64 0),(.slice none 0 0),(.bool false),(.int .i64 0),(.int .i64 0),(.slice none 0 0),(.bool false),(.int .i64 0),(.int .i64 0),(.slice none 0 0)])) hs18.sat V rfl fun bna w19 hs19 hona ena=>?_)
    have:=hs19.size
    have hlna:=hona.1.lt
    refine ⟨trivial,?_⟩
    refine G0 10 2047 rfl rfl (h_store hs19.sat hona rfl rfl rfl V rfl rfl rfl fun w20 hs20 hn20=>?_)
    clear hona; have hona:=hn20; clear hn20
    have:=hs20.size
    have hona:=hona.all rfl
    refine ⟨trivial,?_⟩
    refine Ga 11 4095 rfl<|Dd V ?_
    have hR:=hR.t hs18 |>.t hs19 |>.o hs20
    exact ⟨_,(.cons rfl (.cons rfl (.cons rfl (.cons rfl (.cons rfl (.cons rfl (.cons rfl (.cons rfl (.cons rfl (.cons rfl (.nil _))))))))))),_,_,_,_,_,_,_,_,_,_,_,_,_,_,_,_,_,_,_,_,_,_,_,_,_,_,_,_,_,_,_,_,rfl,hR,hona,by omega,hi⟩
   ·have hqana:=hT.size
    refine Gi 9 543 rfl (Ks [F,F]) (h_allocO (z:=(.agg #[(.int .i64 0),(.int .i64 0),(.int .i64 0),(.slice none 0 0),(.slice none 0 0),(.int .i64 0),(.int .i64 0),(.slice none 0 0),(.int .i64 0),(.slice none 0 0),(.bool false),(.int .i64 0),(.int .i64 0),(.slice none 0 0),(.bool false),(.int .i64 0),(.int .i64 0),(.slice none 0 0)])) hs17.sat V rfl fun bna w21 hs21 hona ena=>?_)
    have:=hs21.size
    have hlna:=hona.1.lt
    have horh:=horh.t hs21
    have horg:=horg.t hs21
    have hooh:=hooh.t hs21
    have hoga:=hoga.t hs21
    have hogb:=hogb.t hs21
    have hT:=hT.t hs21
    have hR:=hR.t hs21
    refine ⟨(by repeat' first | exact trivial | exact OD hoga rfl | exact (haty _ _ hT.le hT.sat) | refine And.intro ?_ ?_),?_⟩
    refine Gh 5 575 rfl (Ks [T,T]) (h_call V rfl ?_)
    refine (r15_insert (x0:=y) hs21.sat hga hpga.1 (by rw [hpga.2.2,List.length_take]; omega)).mono ?_
    rintro _ w22 ⟨ics,ic,Mi,rfl,hs22,hi⟩
    rw [← hsn] at hi
    obtain ⟨x0p,x1p,x2p,x5p,x6p,x8p,x11p,x12p,x15p,x16p,a3p,a4p,a7p,a9p,a13p,a17p,n3p,n4p,n7p,n9p,n13p,n17p,c3p,c4p,c7p,c9p,c13p,c17p,b10p,b14p,rfl⟩:=hi.shape
    have:=hs22.size
    refine ⟨trivial,?_⟩
    refine Gm 6 639 rfl<|Gq 7 767 rfl (fun _=>q_extract rfl rfl)<|Gq 8 1023 rfl (fun _=>q_extract rfl rfl) ?_
    have hona:=hona.t hs22
    refine G0 10 2047 rfl rfl (h_store hs22.sat hona rfl rfl rfl V rfl rfl rfl fun w23 hs23 hn23=>?_)
    clear hona; have hona:=hn23; clear hn23
    have:=hs23.size
    have hona:=hona.all rfl
    refine ⟨trivial,?_⟩
    refine Ga 11 4095 rfl<|Dd V ?_
    have hR:=hR.t hs22 |>.o hs23
    exact ⟨_,(.cons rfl (.cons rfl (.cons rfl (.cons rfl (.cons rfl (.cons rfl (.cons rfl (.cons rfl (.cons rfl (.cons rfl (.nil _))))))))))),_,_,_,_,_,_,_,_,_,_,_,_,_,_,_,_,_,_,_,_,_,_,_,_,_,_,_,_,_,_,_,_,rfl,hR,hona,by omega,hi⟩
  rintro l16 w16 ⟨M16,bna,x0p,x1p,x2p,x5p,x6p,x8p,x11p,x12p,x15p,x16p,a3p,a4p,a7p,a9p,a13p,a17p,n3p,n4p,n7p,n9p,n13p,n17p,c3p,c4p,c7p,c9p,c13p,c17p,b10p,b14p,rfl,hs16,hona,hw16,hi⟩
  have:=hs16.size
  have hlna:=hona.1.lt
  refine cw_region fun _ Z=>Qc 18 rfl (OD hona rfl) ?_
  have hoga:=hoga.t hs16
  refine St hs16.sat hoga rfl fun w24 hs24 hoga=>?_
  have:=hs24.size
  have hoga:=hoga.all rfl
  refine as_nil (Z _ _ ?_)
  refine hK11 _ _<|cw_region fun _ Z=>Qm rfl<|Qq rfl (qA rfl)<|Qa rfl<|as_nil (Z _ _ ?_)
  have horh:=horh.t hs16 |>.u hs24
  have horg:=horg.t hs16 |>.u hs24
  have hooh:=hooh.t hs16 |>.u hs24
  have hvm:=hvm.mono hs16.le
  have hogb:=hogb.t hs16 |>.u hs24
  have hgb:=h15_ok.mono _ _ _ _ hs16.le hgb
  have hT:=hT.t hs16 |>.o hs24
  refine ⟨_,_,?_,(.cons rfl (.cons rfl (.cons rfl (.cons rfl (.cons rfl (.cons rfl (.cons rfl (.cons rfl (.cons rfl (.nil _)))))))))),i+1,_,_,rfl,by omega,rfl,hT,horh,horg,hooh,hvm,hoga,hogb,hi,hgb⟩
  omega
 ·have hge:i=xs.length:=by have:=of_decide_eq_false hc0; omega
  subst hge
  rw [List.take_length] at hga
  refine cw_exit<|hK7 _ _<|cw_seq fun _ hK15=>Ri fun Z=>Na rfl Z<|cw_block<|cw_loop (fun mm l1 wL=>∃ (i:Nat) (cs ds:List Value) (ML:Mem none),mm=ys.length-i∧i≤ys.length∧l1=[(1, .slice sa xs.length ca),(2, .slice sb ys.length cb),(3, .int .u8 u),(8, .pointer (some ⟨brh,0,none⟩)),(9, .pointer (some ⟨brg,0,none⟩)),(15, .pointer (some ⟨boh,0,none⟩)),(17, .pointer (some ⟨bga,0,none⟩)),(18, .pointer (some ⟨bgb,0,none⟩)),(22, .int .i64 (i:Nat))]∧Step Nope M w ML wL∧Own wL ML brh [.nilIface] 27∧Own wL ML brg [.int .i64 0, .int .i64 0, .int .i64 0, .slice none 0 0, .slice none 0 0, .int .i64 0, .int .i64 0, .slice none 0 0, .int .i64 0, .slice none 0 0, .bool false, .int .i64 0, .int .i64 0, .slice none 0 0, .bool false, .int .i64 0, .int .i64 0, .slice none 0 0] 46∧Own wL ML boh [.iface dm um] 27∧HVal ML ((insAll xs (HM.empty k)).meld (insAll ys (HM.empty k))) k L (.iface dm um)∧Own wL ML bga cs 46∧Own wL ML bgb ds 46∧H15 ML (insAll xs (HM.empty k)) cs∧H15 ML (insAll (ys.take i) (HM.empty k)) ds) (ys.length) [(1, .slice sa xs.length ca),(2, .slice sb ys.length cb),(3, .int .u8 u),(8, .pointer (some ⟨brh,0,none⟩)),(9, .pointer (some ⟨brg,0,none⟩)),(15, .pointer (some ⟨boh,0,none⟩)),(17, .pointer (some ⟨bga,0,none⟩)),(18, .pointer (some ⟨bgb,0,none⟩)),(22, .int .i64 ((0:Nat):Int))] (.cons rfl (.cons rfl (.cons rfl (.cons rfl (.cons rfl (.cons rfl (.cons rfl (.cons rfl (.cons rfl (.nil _)))))))))) ?_ ?_
  ·exact ⟨0,_,_,_,rfl,Nat.zero_le _,rfl,hT,horh,horg,hooh,hvm,hoga,hogb,hga,hgb⟩
  clear hT hx hy horh horg hooh hvm hoga hogb hga hgb
  rintro mm l1 wL ⟨i,cs,ds,ML,rfl,hi,rfl,hT,horh,horg,hooh,hvm,hoga,hogb,hga,hgb⟩
  have hx:=hx0
  have hy:=hy0
  obtain ⟨x0a2,x1a2,x2a2,x5a2,x6a2,x8a2,x11a2,x12a2,x15a2,x16a2,a3a2,a4a2,a7a2,a9a2,a13a2,a17a2,n3a2,n4a2,n7a2,n9a2,n13a2,n17a2,c3a2,c4a2,c7a2,c9a2,c13a2,c17a2,b10a2,b14a2,rfl⟩:=hga.shape
  obtain ⟨x0b2,x1b2,x2b2,x5b2,x6b2,x8b2,x11b2,x12b2,x15b2,x16b2,a3b2,a4b2,a7b2,a9b2,a13b2,a17b2,n3b2,n4b2,n7b2,n9b2,n13b2,n17b2,c3b2,c4b2,c7b2,c9b2,c13b2,c17b2,b10b2,b14b2,rfl⟩:=hgb.shape
  have hqrh:=horh.1.lt
  have hqrg:=horg.1.lt
  have hqoh:=hooh.1.lt
  have hqga:=hoga.1.lt
  have hqgb:=hogb.1.lt
  refine cw_seq fun _ hK17=>Ri fun Z=>Qm rfl<|Qm rfl<|Qq rfl (ql rfl)<|Qq rfl (q_lt rfl rfl)<|Nx Z ?_
  have hx:=hx.mono encE_ok hT.le
  have hy:=hy.mono encE_ok hT.le
  refine cw_cond rfl (fun hc1=>?_) (fun hc1=>?_)
  ·have hlt:i<ys.length:=by have:=of_decide_eq_true hc1; omega
   obtain ⟨y,hy0_⟩:∃ y,ys[i]? = some y:=⟨ys[i],by simp⟩
   obtain ⟨gy,oy,yc,e_,_,hyy,haty⟩:=hy0.get encE_ok hy0_
   subst e_
   cases hyy
   have hpgb:=insAll_e hk0 hk6 (ys.take i)
   have hsn:insAll (ys.take (i+1)) (HM.empty k)=(insAll (ys.take i) (HM.empty k)).insert y:=by rw [List.take_add_one,hy0_]; exact insAll_snoc _ _ _
   refine cw_skip<|hK17 _ _<|cw_seq fun _ hK19=>cw_block ?_
   have hcut25:=hT.size
   refine cw_rdS (fun l25 w25=>∃ (M25:Mem none) (bnb:Nat) (x0p x1p x2p x5p x6p x8p x11p x12p x15p x16p:Int) (a3p a4p a7p a9p a13p a17p:Option Addr) (n3p n4p n7p n9p n13p n17p:Nat) (c3p c4p c7p c9p c13p c17p:Nat) (b10p b14p:Bool),l25=[(1, .slice sa xs.length ca),(2, .slice (some ⟨gy,oy,none⟩) ys.length cb),(3, .int .u8 u),(8, .pointer (some ⟨brh,0,none⟩)),(9, .pointer (some ⟨brg,0,none⟩)),(15, .pointer (some ⟨boh,0,none⟩)),(17, .pointer (some ⟨bga,0,none⟩)),(18, .pointer (some ⟨bgb,0,none⟩)),(22, .int .i64 (i:Nat)),(23, .pointer (some ⟨bnb,0,none⟩))]∧Step Nope ML wL M25 w25∧Own w25 M25 bnb [.int .i64 x0p, .int .i64 x1p, .int .i64 x2p, .slice a3p n3p c3p, .slice a4p n4p c4p, .int .i64 x5p, .int .i64 x6p, .slice a7p n7p c7p, .int .i64 x8p, .slice a9p n9p c9p, .bool b10p, .int .i64 x11p, .int .i64 x12p, .slice a13p n13p c13p, .bool b14p, .int .i64 x15p, .int .i64 x16p, .slice a17p n17p c17p] 46∧wL.heap.size≤bnb∧H15 M25 (insAll (ys.take (i+1)) (HM.empty k)) [.int .i64 x0p, .int .i64 x1p, .int .i64 x2p, .slice a3p n3p c3p, .slice a4p n4p c4p, .int .i64 x5p, .int .i64 x6p, .slice a7p n7p c7p, .int .i64 x8p, .slice a9p n9p c9p, .bool b10p, .int .i64 x11p, .int .i64 x12p, .slice a13p n13p c13p, .bool b14p, .int .i64 x15p, .int .i64 x16p, .slice a17p n17p c17p]) V V V rfl rfl ?_ ?_
   ·have hR:=Step.refl Nope hT.sat
    have hs26:=Step.drew hT.sat
    have:=hs26.size
    refine Gm 0 1 rfl<|Gm 1 3 rfl<|Gq 2 7 rfl (fun _=>qi 29 2 rfl) ?_
    have hT:=hT.t hs26
    refine Gc 3 15 2 rfl (haty _ _ hT.le hT.sat) ?_
    have hogb:=hogb.t hs26
    refine Gc 4 31 18 rfl (OD hogb rfl) ?_
    have horh:=horh.t hs26
    have horg:=horg.t hs26
    have hooh:=hooh.t hs26
    have hoga:=hoga.t hs26
    have hR:=hR.t hs26
    refine at_two (i:=5) (j:=9) V ?_ ?_
    ·refine Gi 5 63 rfl (Ks [T,T]) (h_call V rfl ?_)
     refine (r15_insert (x0:=y) hs26.sat hgb hpgb.1 (by rw [hpgb.2.2,List.length_take]; omega)).mono ?_
     rintro _ w27 ⟨ics,ic,Mi,rfl,hs27,hi⟩
     rw [← hsn] at hi
     obtain ⟨x0p,x1p,x2p,x5p,x6p,x8p,x11p,x12p,x15p,x16p,a3p,a4p,a7p,a9p,a13p,a17p,n3p,n4p,n7p,n9p,n13p,n17p,c3p,c4p,c7p,c9p,c13p,c17p,b10p,b14p,rfl⟩:=hi.shape
     have:=hs27.size
     refine ⟨trivial,?_⟩
     refine Gm 6 127 rfl<|Gq 7 255 rfl (fun _=>q_extract rfl rfl)<|Gq 8 511 rfl (fun _=>q_extract rfl rfl) ?_
     have hT:=hT.t hs27
     have hqanb:=hT.size
     refine Gh 9 1023 rfl rfl (h_allocO (z:=(.agg #[(.int .i64 0),(.int .i64 0),(.int .i64 0),(.slice none 0 0),(.slice none 0 0),(.int .i64 0),(.int .i64 0),(.slice none 0 0),(.int .i64 0),(.slice none 0 0),(.bool false),(.int .i64 0),(.int .i64 0),(.slice none 0 0),(.bool false),(.int .i64 0),(.int .i64 0),(.slice none 0 0)])) hs27.sat V rfl fun bnb w28 hs28 honb enb=>?_)
     have:=hs28.size
     have hlnb:=honb.1.lt
     refine ⟨trivial,?_⟩
     refine G0 10 2047 rfl rfl (h_store hs28.sat honb rfl rfl rfl V rfl rfl rfl fun w29 hs29 hn29=>?_)
     clear honb; have honb:=hn29; clear hn29
     have:=hs29.size
     have honb:=honb.all rfl
     refine ⟨trivial,?_⟩
     refine Ga 11 4095 rfl<|Dd V ?_
     have hR:=hR.t hs27 |>.t hs28 |>.o hs29
     exact ⟨_,(.cons rfl (.cons rfl (.cons rfl (.cons rfl (.cons rfl (.cons rfl (.cons rfl (.cons rfl (.cons rfl (.cons rfl (.nil _))))))))))),_,_,_,_,_,_,_,_,_,_,_,_,_,_,_,_,_,_,_,_,_,_,_,_,_,_,_,_,_,_,_,_,rfl,hR,honb,by omega,hi⟩
    ·have hqanb:=hT.size
     refine Gi 9 543 rfl (Ks [F,F]) (h_allocO (z:=(.agg #[(.int .i64 0),(.int .i64 0),(.int .i64 0),(.slice none 0 0),(.slice none 0 0),(.int .i64 0),(.int .i64 0),(.slice none 0 0),(.int .i64 0),(.slice none 0 0),(.bool false),(.int .i64 0),(.int .i64 0),(.slice none 0 0),(.bool false),(.int .i64 0),(.int .i64 0),(.slice none 0 0)])) hs26.sat V rfl fun bnb w30 hs30 honb enb=>?_)
     have:=hs30.size
     have hlnb:=honb.1.lt
     have horh:=horh.t hs30
     have horg:=horg.t hs30
     have hooh:=hooh.t hs30
     have hoga:=hoga.t hs30
     have hogb:=hogb.t hs30
     have hT:=hT.t hs30
     have hR:=hR.t hs30
     refine ⟨(by repeat' first | exact trivial | exact OD hogb rfl | exact (haty _ _ hT.le hT.sat) | refine And.intro ?_ ?_),?_⟩
     refine Gh 5 575 rfl (Ks [T,T]) (h_call V rfl ?_)
     refine (r15_insert (x0:=y) hs30.sat hgb hpgb.1 (by rw [hpgb.2.2,List.length_take]; omega)).mono ?_
     rintro _ w31 ⟨ics,ic,Mi,rfl,hs31,hi⟩
     rw [← hsn] at hi
     obtain ⟨x0p,x1p,x2p,x5p,x6p,x8p,x11p,x12p,x15p,x16p,a3p,a4p,a7p,a9p,a13p,a17p,n3p,n4p,n7p,n9p,n13p,n17p,c3p,c4p,c7p,c9p,c13p,c17p,b10p,b14p,rfl⟩:=hi.shape
     have:=hs31.size
     refine ⟨trivial,?_⟩
     refine Gm 6 639 rfl<|Gq 7 767 rfl (fun _=>q_extract rfl rfl)<|Gq 8 1023 rfl (fun _=>q_extract rfl rfl) ?_
     have honb:=honb.t hs31
     refine G0 10 2047 rfl rfl (h_store hs31.sat honb rfl rfl rfl V rfl rfl rfl fun w32 hs32 hn32=>?_)
     clear honb; have honb:=hn32; clear hn32
     have:=hs32.size
     have honb:=honb.all rfl
     refine ⟨trivial,?_⟩
     refine Ga 11 4095 rfl<|Dd V ?_
     have hR:=hR.t hs31 |>.o hs32
     exact ⟨_,(.cons rfl (.cons rfl (.cons rfl (.cons rfl (.cons rfl (.cons rfl (.cons rfl (.cons rfl (.cons rfl (.cons rfl (.nil _))))))))))),_,_,_,_,_,_,_,_,_,_,_,_,_,_,_,_,_,_,_,_,_,_,_,_,_,_,_,_,_,_,_,_,rfl,hR,honb,by omega,hi⟩
   rintro l25 w25 ⟨M25,bnb,x0p,x1p,x2p,x5p,x6p,x8p,x11p,x12p,x15p,x16p,a3p,a4p,a7p,a9p,a13p,a17p,n3p,n4p,n7p,n9p,n13p,n17p,c3p,c4p,c7p,c9p,c13p,c17p,b10p,b14p,rfl,hs25,honb,hw25,hi⟩
   have:=hs25.size
   have hlnb:=honb.1.lt
   refine cw_region fun _ Z=>Qc 18 rfl (OD honb rfl) ?_
   have hogb:=hogb.t hs25
   refine St hs25.sat hogb rfl fun w33 hs33 hogb=>?_
   have:=hs33.size
   have hogb:=hogb.all rfl
   refine as_nil (Z _ _ ?_)
   refine hK19 _ _<|cw_region fun _ Z=>Qm rfl<|Qq rfl (qA rfl)<|Qa rfl<|as_nil (Z _ _ ?_)
   have horh:=horh.t hs25 |>.u hs33
   have horg:=horg.t hs25 |>.u hs33
   have hooh:=hooh.t hs25 |>.u hs33
   have hvm:=hvm.mono hs25.le
   have hoga:=hoga.t hs25 |>.u hs33
   have hga:=h15_ok.mono _ _ _ _ hs25.le hga
   have hT:=hT.t hs25 |>.o hs33
   refine ⟨_,_,?_,(.cons rfl (.cons rfl (.cons rfl (.cons rfl (.cons rfl (.cons rfl (.cons rfl (.cons rfl (.cons rfl (.nil _)))))))))),i+1,_,_,_,rfl,by omega,rfl,hT,horh,horg,hooh,hvm,hoga,hogb,hga,hi⟩
   omega
  ·have hge:i=ys.length:=by have:=of_decide_eq_false hc1; omega
   subst hge
   rw [List.take_length] at hgb
   refine cw_exit<|hK15 _ _<|Ri fun Z=>?_
   have hpA:=insAll_e hk0 hk6 xs
   have hpB:=insAll_e hk0 hk6 ys
   refine Qc 18 rfl (OD hoga rfl)<|Qc 18 rfl (OD hogb rfl)<|Ca rfl ((r15_meld hT.sat hga hgb (hpA.2.1.trans hpB.2.1.symm) hpA.1 hpB.1 (by rw [hpA.2.2,hpB.2.2]; omega)).mono ?_)
   rintro _ w34 ⟨mcs,mc,Mq,rfl,hs34,hgm⟩
   obtain ⟨x0m,x1m,x2m,x5m,x6m,x8m,x11m,x12m,x15m,x16m,a3m,a4m,a7m,a9m,a13m,a17m,n3m,n4m,n7m,n9m,n13m,n17m,c3m,c4m,c7m,c9m,c13m,c17m,b10m,b14m,rfl⟩:=hgm.shape
   have:=hs34.size
   refine Qm rfl<|Qe rfl<|Qe rfl ?_
   have hT:=hT.t hs34
   have:=hT.size
   refine Al (.agg #[(.int .i64 0),(.int .i64 0),(.int .i64 0),(.slice none 0 0),(.slice none 0 0),(.int .i64 0),(.int .i64 0),(.slice none 0 0),(.int .i64 0),(.slice none 0 0),(.bool false),(.int .i64 0),(.int .i64 0),(.slice none 0 0),(.bool false),(.int .i64 0),(.int .i64 0),(.slice none 0 0)]) hs34.sat rfl fun bgm w35 hs35 hogm egm=>?_
   have:=hs35.size
   have:=hogm.1.lt
   refine St hs35.sat hogm rfl fun w36 hs36 hogm=>?_
   have:=hs36.size
   have hogm:=hogm.all rfl
   refine Nar rfl Z fun Z=>Qm rfl ?_
   have hx:=hx.mono encE_ok hs34.le
   refine Ca rfl ((ref_sort hs36.sat (row_rd hx) O).mono ?_)
   rintro sx w37 ⟨Msx,hs37,hsx⟩
   have:=hs37.size
   refine Qm rfl ?_
   have hy:=hy.mono encE_ok hs34.le |>.mono encE_ok hs37.le
   refine Ca rfl ((ref_sort hs37.sat (row_rd hy) O).mono ?_)
   rintro sy w38 ⟨Msy,hs38,hsy⟩
   have:=hs38.size
   have hsx:=hsx.mono hs38.le
   refine Ca rfl ((ref_sum hs38.sat hsx hsy O).mono ?_)
   rintro sv w39 ⟨Mv,hs39,hsv⟩
   rw [foldl_srt,← hL] at hsv
   obtain ⟨va_,vc_,rfl,_⟩:=hsv.slice
   have hre:=rd_row hsv hLl
   have:=hs39.size
   refine Na rfl Z<|cw_seq fun _ hK25=>Ri fun Z=>Na rfl Z<|cw_block ?_
   have horh:=horh.t hs34 |>.t hs35 |>.u hs36 |>.t hs37 |>.t hs38 |>.t hs39
   have horg:=horg.t hs34 |>.t hs35 |>.u hs36 |>.t hs37 |>.t hs38 |>.t hs39
   have hooh:=hooh.t hs34 |>.t hs35 |>.u hs36 |>.t hs37 |>.t hs38 |>.t hs39
   have hvm:=hvm.mono hs34.le |>.mono hs37.le |>.mono hs38.le |>.mono hs39.le
   have hoga:=hoga.t hs34 |>.t hs35 |>.u hs36 |>.t hs37 |>.t hs38 |>.t hs39
   have hogb:=hogb.t hs34 |>.t hs35 |>.u hs36 |>.t hs37 |>.t hs38 |>.t hs39
   have hga:=h15_ok.mono _ _ _ _ hs39.le (h15_ok.mono _ _ _ _ hs38.le (h15_ok.mono _ _ _ _ hs37.le (h15_ok.mono _ _ _ _ hs34.le hga)))
   have hgb:=h15_ok.mono _ _ _ _ hs39.le (h15_ok.mono _ _ _ _ hs38.le (h15_ok.mono _ _ _ _ hs37.le (h15_ok.mono _ _ _ _ hs34.le hgb)))
   have hT:=hT.t hs35 |>.o hs36 |>.t hs37 |>.t hs38 |>.t hs39
   have hx:=hx.mono encE_ok hs37.le |>.mono encE_ok hs38.le |>.mono encE_ok hs39.le
   have hgm:=h15_ok.mono _ _ _ _ hs39.le (h15_ok.mono _ _ _ _ hs38.le (h15_ok.mono _ _ _ _ hs37.le hgm))
   have hogm:=hogm.t hs37 |>.t hs38 |>.t hs39
   have hy:=hy.mono encE_ok hs38.le |>.mono encE_ok hs39.le
   have hsx:=hsx.mono hs39.le
   have hsy:=hsy.mono hs39.le
   refine cw_loop (fun mm l1 wL=>∃ (j:Nat) (l:List El) (H:HM) (d:TypeId) (q rv:Value) (cs:List Value) (ML:Mem none),mm=l.length∧j+l.length=L.length∧l1=[(3, .int .u8 u),(8, .pointer (some ⟨brh,0,none⟩)),(9, .pointer (some ⟨brg,0,none⟩)),(15, .pointer (some ⟨boh,0,none⟩)),(25, .pointer (some ⟨bgm,0,none⟩)),(27,rv),(28, .int .i64 (j:Nat))]∧Step Nope M w ML wL∧Own wL ML brh [.nilIface] 27∧Own wL ML brg [.int .i64 0, .int .i64 0, .int .i64 0, .slice none 0 0, .slice none 0 0, .int .i64 0, .int .i64 0, .slice none 0 0, .int .i64 0, .slice none 0 0, .bool false, .int .i64 0, .int .i64 0, .slice none 0 0, .bool false, .int .i64 0, .int .i64 0, .slice none 0 0] 46∧Own wL ML boh [.iface d q] 27∧HVal ML H k l (.iface d q)∧Own wL ML bgm cs 46∧H15 ML H cs∧Row EncE 2 ML l rv) (L.length) [(3, .int .u8 u),(8, .pointer (some ⟨brh,0,none⟩)),(9, .pointer (some ⟨brg,0,none⟩)),(15, .pointer (some ⟨boh,0,none⟩)),(25, .pointer (some ⟨bgm,0,none⟩)),(27, .slice va_ (xs.length+ys.length) vc_),(28, .int .i64 ((0:Nat):Int))] (.cons rfl (.cons rfl (.cons rfl (.cons rfl (.cons rfl (.cons rfl (.cons rfl (.nil _)))))))) ?_ ?_
   ·exact ⟨0,L,_,_,_,_,_,_,rfl,Nat.zero_add _,rfl,hT,horh,horg,hooh,hvm,hogm,hgm,hre⟩
   have hB1:bgb<bgm:=by omega
   clear hT hx hy horh horg hooh hvm hogm hgm hre hoga hogb hga hgb hsx hsy hsv
   rintro mm l1 wL ⟨j,l,H,d,q,rv,cs,ML,rfl,hjl,rfl,hT,horh,horg,hooh,hv,hogm,hg,hre⟩
   obtain ⟨x0g,x1g,x2g,x5g,x6g,x8g,x11g,x12g,x15g,x16g,a3g,a4g,a7g,a9g,a13g,a17g,n3g,n4g,n7g,n9g,n13g,n17g,c3g,c4g,c7g,c9g,c13g,c17g,b10g,b14g,rfl⟩:=hg.shape
   obtain ⟨ra,rc,rfl,_⟩:=hre.slice
   have hrrh:=horh.1.lt
   have hrrg:=horg.1.lt
   have hroh:=hooh.1.lt
   have hrgm:=hogm.1.lt
   refine cw_seq fun _ hK27=>?_
   rcases Decidable.em ((j:Int)<Int.tmod u 5) with hj | hj
   ·refine Ri fun Z=>Qm rfl<|Qm rfl<|Qq rfl (q_convx V V rfl (wrap64_of O O))<|Qq rfl (q_rem rfl rfl (by decide))<|Qq rfl (q_ltT rfl rfl hj)<|Qm rfl<|as_gh rfl rfl rfl rfl (h_q rfl (q_move rfl) ?_)
    refine as_gh rfl rfl rfl rfl (h_q rfl (ql rfl) ?_)
    refine as_gh rfl rfl rfl rfl (h_q rfl (q_gt rfl rfl) ?_)
    refine Qq rfl (q_pick_t rfl rfl)<|Nx Z<|cw_cond rfl (fun hc2=>?_) (fun hc2=>?_)
    ·have hlp:0<l.length:=by have:=of_decide_eq_true hc2; omega
     obtain ⟨x,l',rfl⟩:∃ x l',l=x::l':=by
      cases l with
      | nil=>exact absurd hlp (Nat.lt_irrefl 0)
      | cons x l'=>exact ⟨x,l',rfl⟩
     have hv0:=hv
     have hvl:=hv.len
     have hne:H.els≠[]:=fun h=>by rw [h,List.length_nil,List.length_cons] at hvl; omega
     refine cw_skip<|hK27 _ _<|cw_seq fun _ hK29=>cw_block<|Ri fun Z=>Qc 1 rfl (OD hooh rfl)<|Ca rfl ((hp_pop0 hT.sat hv O).mono ?_)
     rintro _ w40 ⟨dn,un,Mn,rfl,hs40,hvn⟩
     have:=hs40.size
     refine Qm rfl<|Qe rfl<|Qe rfl ?_
     have hT:=hT.t hs40
     have:=hT.size
     refine Al (.agg #[.nilIface]) hs40.sat rfl fun bpn w41 hs41 hopn epn=>?_
     have:=hs41.size
     have:=hopn.1.lt
     refine St hs41.sat hopn rfl fun w42 hs42 hopn=>?_
     have:=hs42.size
     refine Nar rfl Z fun Z=>Qc 1 rfl (OD hopn rfl) ?_
     have hooh:=hooh.t hs40 |>.t hs41 |>.u hs42
     refine St hs42.sat hooh rfl fun w43 hs43 hooh=>?_
     have:=hs43.size
     refine Nr Z fun Z=>?_
     have hogm:=hogm.t hs40 |>.t hs41 |>.u hs42 |>.u hs43
     refine Qc 18 rfl (OD hogm rfl) ?_
     have hg:=h15_ok.mono _ _ _ _ hs40.le hg
     refine Ca rfl ((r15_pop hs43.sat hg hv0.ok hne O).mono ?_)
     rintro _ w44 ⟨pcs,Mp,rfl,hs44,hgn⟩
     obtain ⟨x0q,x1q,x2q,x5q,x6q,x8q,x11q,x12q,x15q,x16q,a3q,a4q,a7q,a9q,a13q,a17q,n3q,n4q,n7q,n9q,n13q,n17q,c3q,c4q,c7q,c9q,c13q,c17q,b10q,b14q,rfl⟩:=hgn.shape
     have:=hs44.size
     refine Qm rfl<|Qe rfl<|Qe rfl ?_
     have hT:=hT.t hs41 |>.o hs42 |>.o hs43 |>.t hs44
     have:=hT.size
     refine Al (.agg #[(.int .i64 0),(.int .i64 0),(.int .i64 0),(.slice none 0 0),(.slice none 0 0),(.int .i64 0),(.int .i64 0),(.slice none 0 0),(.int .i64 0),(.slice none 0 0),(.bool false),(.int .i64 0),(.int .i64 0),(.slice none 0 0),(.bool false),(.int .i64 0),(.int .i64 0),(.slice none 0 0)]) hs44.sat rfl fun bpg w45 hs45 hopg epg=>?_
     have:=hs45.size
     have:=hopg.1.lt
     refine St hs45.sat hopg rfl fun w46 hs46 hopg=>?_
     have:=hs46.size
     have hopg:=hopg.all rfl
     refine Nar rfl Z fun Z=>Qc 18 rfl (OD hopg rfl) ?_
     have hogm:=hogm.t hs44 |>.t hs45 |>.u hs46
     refine St hs46.sat hogm rfl fun w47 hs47 hogm=>?_
     have:=hs47.size
     have hogm:=hogm.all rfl
     refine Nx Z<|cw_region fun _ Z=>Qm rfl<|Qq rfl (q_slice (e:=29) (size:=2) (k':= .i64) V V rfl rfl rfl O O O)<|Qa rfl<|as_nil (Z _ _ ?_)
     refine hK29 _ _<|cw_region fun _ Z=>Qm rfl<|Qq rfl (qA rfl)<|Qa rfl<|as_nil (Z _ _ ?_)
     have horh:=horh.t hs40 |>.t hs41 |>.u hs42 |>.u hs43 |>.t hs44 |>.t hs45 |>.u hs46 |>.u hs47
     have horg:=horg.t hs40 |>.t hs41 |>.u hs42 |>.u hs43 |>.t hs44 |>.t hs45 |>.u hs46 |>.u hs47
     have hv:=hv.mono hs40.le |>.mono hs44.le
     have hre:=hre.mono encE_ok hs40.le |>.mono encE_ok hs44.le
     have hooh:=hooh.t hs44 |>.t hs45 |>.u hs46 |>.u hs47
     have hg:=h15_ok.mono _ _ _ _ hs44.le hg
     have hvn:=hvn.mono hs44.le
     have hT:=hT.t hs45 |>.o hs46 |>.o hs47
     refine ⟨_,_,?_,(.cons rfl (.cons rfl (.cons rfl (.cons rfl (.cons rfl (.cons rfl (.cons rfl (.nil _)))))))),j+1,l',_,_,_,_,_,_,rfl,?_,rfl,hT,horh,horg,hooh,hvn,hogm,hgn,hre.tail rfl⟩
     ·rw [List.length_cons]; omega
     ·rw [List.length_cons] at hjl; omega
    ·skip
     refine cw_exit<|hK25 _ _<|Rv fun Z=>?_
     have hs48:=Step.drew hT.sat
     have:=hs48.size
     have hooh:=hooh.t hs48
     refine Gc 0 1 1 rfl (OD hooh rfl) ?_
     have hogm:=hogm.t hs48
     refine Gc 1 3 18 rfl (OD hogm rfl)<|Gm 2 7 rfl ?_
     have horh:=horh.t hs48
     refine G0 3 15 rfl (Ks [F,T]) (h_store hs48.sat horh rfl rfl rfl V rfl rfl rfl fun w49 hs49 hn49=>?_)
     clear horh; have horh:=hn49; clear hn49
     have:=hs49.size
     have horg:=horg.t hs48 |>.u hs49
     have hT:=hT.t hs48 |>.o hs49
     have hooh:=hooh.u hs49
     have hogm:=hogm.u hs49
     refine ⟨(by repeat' first | exact trivial | exact OD hogm rfl | refine And.intro ?_ ?_),?_⟩
     refine G0 4 31 rfl (Ks [T]) (h_store hs49.sat horg rfl rfl rfl V rfl rfl rfl fun w50 hs50 hn50=>?_)
     clear horg; have horg:=hn50; clear hn50
     have:=hs50.size
     have horg:=horg.all rfl
     refine ⟨trivial,?_⟩
     refine Ga 5 63 rfl<|Dx Z<|cw_ret ?_
     have horh:=horh.u hs50
     have hT:=hT.o hs50
     exact ⟨_,(Rc 1 rfl (OD horh rfl) (Rc 18 rfl (OD horg rfl) (Rt rfl))),_,_,_,_,_,_,rfl,hT,hv,hg,hre,by omega⟩
   ·refine Ri fun Z=>Qm rfl<|Qm rfl<|Qq rfl (q_convx V V rfl (wrap64_of O O))<|Qq rfl (q_rem rfl rfl (by decide))<|Qq rfl (qLF rfl)<|Qm rfl<|as_gskip rfl rfl rfl rfl rfl<|as_gskip rfl rfl rfl rfl rfl<|as_gskip rfl rfl rfl rfl rfl<|Qq rfl (q_pick_f rfl rfl)<|Nx Z<|cw_false rfl<|cw_exit<|hK25 _ _<|Rv fun Z=>?_
    have hs51:=Step.drew hT.sat
    have:=hs51.size
    have hooh:=hooh.t hs51
    refine Gc 0 1 1 rfl (OD hooh rfl) ?_
    have hogm:=hogm.t hs51
    refine Gc 1 3 18 rfl (OD hogm rfl)<|Gm 2 7 rfl ?_
    have horh:=horh.t hs51
    refine G0 3 15 rfl (Ks [F,T]) (h_store hs51.sat horh rfl rfl rfl V rfl rfl rfl fun w52 hs52 hn52=>?_)
    clear horh; have horh:=hn52; clear hn52
    have:=hs52.size
    have horg:=horg.t hs51 |>.u hs52
    have hT:=hT.t hs51 |>.o hs52
    have hogm:=hogm.u hs52
    refine ⟨(by repeat' first | exact trivial | exact OD hogm rfl | refine And.intro ?_ ?_),?_⟩
    refine G0 4 31 rfl (Ks [T]) (h_store hs52.sat horg rfl rfl rfl V rfl rfl rfl fun w53 hs53 hn53=>?_)
    clear horg; have horg:=hn53; clear hn53
    have:=hs53.size
    have horg:=horg.all rfl
    refine ⟨trivial,?_⟩
    refine Ga 5 63 rfl<|Dx Z<|cw_ret ?_
    have horh:=horh.u hs53
    have hT:=hT.o hs53
    exact ⟨_,(Rc 1 rfl (OD horh rfl) (Rc 18 rfl (OD horg rfl) (Rt rfl))),_,_,_,_,_,_,rfl,hT,hv,hg,hre,by omega⟩
end Go.Proofs.YtnnldppehojffaaGreat
/- The law DrainTells, part 1. -/
namespace Go.Proofs.YtnnldppehojffaaGreat
open Go Go.Eng
variable {mb:Option Nat} {w:World} {M:Mem mb}
set_option maxRecDepth 4000 in
theorem drainTells_b {w:World} {M:Mem none} {z u p:Int} {xs ys:List El} {va vb:Value} (hs:Sat M w) (hx:Row EncE 2 M xs va) (hy:Row EncE 2 M ys vb) (hz:40<xs.length∨40<ys.length∨z<1∨6<z):
  Dz 3 #[.int .i64 z,va,vb, .int .u8 u, .int .i64 p] w (fun v w'=>v = .bool true∧Step Nope M w M w'):=by
 have hT:=hs.r
 obtain ⟨sa,ca,rfl,_⟩:=hx.slice
 obtain ⟨sb,cb,rfl,_⟩:=hy.slice
 refine Fe Tryz.func3 [.tmp 10] rfl<|Ri fun Z=>Nar rfl Z fun Z=>Ca rfl ((awake16 hs).mono ?_)
 rintro _ w1 ⟨rfl,hs1⟩
 refine Na rfl Z<|cw_seq fun _ hK3=>Ri fun Z=>Qm rfl<|Qq rfl (q_not rfl)<|Nx Z<|cw_false rfl<|cw_skip<|hK3 _ _<|cw_seq fun _ hK5=>?_
 have hT:=hT.t hs1
 rcases (show (40<xs.length)∨(¬ (40<xs.length)∧40<ys.length)∨(¬ (40<xs.length)∧¬ (40<ys.length)∧z<1)∨(¬ (40<xs.length)∧¬ (40<ys.length)∧¬ (z<1)∧6<z) by omega) with h0 | ⟨h0,h1⟩ | ⟨h0,h1,h2⟩ | ⟨h0,h1,h2,h3⟩
 ·refine Ri fun Z=>Qm rfl<|Qq rfl (ql rfl)<|Qq rfl (qGT rfl)<|Qm rfl<|as_gskip rfl rfl rfl rfl rfl<|as_gskip rfl rfl rfl rfl rfl<|as_gskip rfl rfl rfl rfl rfl<|Qq rfl (q_pick_t rfl rfl)<|Qm rfl<|as_gskip rfl rfl rfl rfl rfl<|as_gskip rfl rfl rfl rfl rfl<|Qq rfl (q_pick_t rfl rfl)<|Qm rfl<|as_gskip rfl rfl rfl rfl rfl<|as_gskip rfl rfl rfl rfl rfl<|Qq rfl (q_pick_t rfl rfl)<|Nx Z<|cw_true rfl<|Ri fun Z=>Na rfl Z<|cw_ret ?_
  exact ⟨_,Rt rfl,rfl,hT.forget⟩
 ·refine Ri fun Z=>Qm rfl<|Qq rfl (ql rfl)<|Qq rfl (qGF rfl)<|Qm rfl<|as_gh rfl rfl rfl rfl (h_q rfl (q_move rfl) ?_)
  refine as_gh rfl rfl rfl rfl (h_q rfl (ql rfl) ?_)
  refine as_gh rfl rfl rfl rfl (h_q rfl (qGT rfl) ?_)
  refine Qq rfl (q_pick_f rfl rfl)<|Qm rfl<|as_gskip rfl rfl rfl rfl rfl<|as_gskip rfl rfl rfl rfl rfl<|Qq rfl (q_pick_t rfl rfl)<|Qm rfl<|as_gskip rfl rfl rfl rfl rfl<|as_gskip rfl rfl rfl rfl rfl<|Qq rfl (q_pick_t rfl rfl)<|Nx Z<|cw_true rfl<|Ri fun Z=>Na rfl Z<|cw_ret ?_
  exact ⟨_,Rt rfl,rfl,hT.forget⟩
 ·refine Ri fun Z=>Qm rfl<|Qq rfl (ql rfl)<|Qq rfl (qGF rfl)<|Qm rfl<|as_gh rfl rfl rfl rfl (h_q rfl (q_move rfl) ?_)
  refine as_gh rfl rfl rfl rfl (h_q rfl (ql rfl) ?_)
  refine as_gh rfl rfl rfl rfl (h_q rfl (qGF rfl) ?_)
  refine Qq rfl (q_pick_f rfl rfl)<|Qm rfl<|as_gh rfl rfl rfl rfl (h_q rfl (q_move rfl) ?_)
  refine as_gh rfl rfl rfl rfl (h_q rfl (qLT rfl) ?_)
  refine Qq rfl (q_pick_f rfl rfl)<|Qm rfl<|as_gskip rfl rfl rfl rfl rfl<|as_gskip rfl rfl rfl rfl rfl<|Qq rfl (q_pick_t rfl rfl)<|Nx Z<|cw_true rfl<|Ri fun Z=>Na rfl Z<|cw_ret ?_
  exact ⟨_,Rt rfl,rfl,hT.forget⟩
 ·refine Ri fun Z=>Qm rfl<|Qq rfl (ql rfl)<|Qq rfl (qGF rfl)<|Qm rfl<|as_gh rfl rfl rfl rfl (h_q rfl (q_move rfl) ?_)
  refine as_gh rfl rfl rfl rfl (h_q rfl (ql rfl) ?_)
  refine as_gh rfl rfl rfl rfl (h_q rfl (qGF rfl) ?_)
  refine Qq rfl (q_pick_f rfl rfl)<|Qm rfl<|as_gh rfl rfl rfl rfl (h_q rfl (q_move rfl) ?_)
  refine as_gh rfl rfl rfl rfl (h_q rfl (qLF rfl) ?_)
  refine Qq rfl (q_pick_f rfl rfl)<|Qm rfl<|as_gh rfl rfl rfl rfl (h_q rfl (q_move rfl) ?_)
  refine as_gh rfl rfl rfl rfl (h_q rfl (qGT rfl) ?_)
  refine Qq rfl (q_pick_f rfl rfl)<|Nx Z<|cw_true rfl<|Ri fun Z=>Na rfl Z<|cw_ret ?_
  exact ⟨_,Rt rfl,rfl,hT.forget⟩
set_option maxRecDepth 8000 in
theorem drainTells_g {w:World} {M:Mem none} {k:Nat} {u p:Int} {xs ys:List El} {va vb:Value} (hs:Sat M w) (hx:Row EncE 2 M xs va) (hy:Row EncE 2 M ys vb) (hk0:k≠0) (hk6:k≤6) (hn:xs.length≤40) (hm:ys.length≤40) (hu0:0≤u) (hu:u≤255) (hp9:p≤9223372036854775807):
  Dz 3 #[.int .i64 (k:Nat),va,vb, .int .u8 u, .int .i64 p] w (fun v w'=>v = .bool true∧Step Nope M w M w'):=by
 have hT:=hs.r
 obtain ⟨sa,ca,rfl,_⟩:=hx.slice
 obtain ⟨sb,cb,rfl,_⟩:=hy.slice
 refine Fe Tryz.func3 [.tmp 10] rfl<|Ri fun Z=>Nar rfl Z fun Z=>Ca rfl ((awake16 hs).mono ?_)
 rintro _ w1 ⟨rfl,hs1⟩
 have:=hs1.size
 refine Na rfl Z<|cw_seq fun _ hK3=>Ri fun Z=>Qm rfl<|Qq rfl (q_not rfl)<|Nx Z<|cw_false rfl<|cw_skip<|hK3 _ _<|cw_seq fun _ hK5=>Ri fun Z=>Qm rfl<|Qq rfl (ql rfl)<|Qq rfl (qGF rfl)<|Qm rfl<|as_gh rfl rfl rfl rfl (h_q rfl (q_move rfl) ?_)
 refine as_gh rfl rfl rfl rfl (h_q rfl (ql rfl) ?_)
 refine as_gh rfl rfl rfl rfl (h_q rfl (qGF rfl) ?_)
 refine Qq rfl (q_pick_f rfl rfl)<|Qm rfl<|as_gh rfl rfl rfl rfl (h_q rfl (q_move rfl) ?_)
 refine as_gh rfl rfl rfl rfl (h_q rfl (qLF rfl) ?_)
 refine Qq rfl (q_pick_f rfl rfl)<|Qm rfl<|as_gh rfl rfl rfl rfl (h_q rfl (q_move rfl) ?_)
 refine as_gh rfl rfl rfl rfl (h_q rfl (qGF rfl) ?_)
 refine Qq rfl (q_pick_f rfl rfl)<|Nx Z<|cw_false rfl<|cw_skip<|hK5 _ _<|Ri fun Z=>Qm rfl<|Qm rfl<|Qm rfl<|Qm rfl<|Ca rfl ((made16 hs1.sat hx hy hk0 hk6 O O hu0 hu).mono ?_)
 rintro _ w2 ⟨v0,cs,rv,H,l,Mm,rfl,hs2,hv,hg,hre,hl80⟩
 obtain ⟨dv,uv,rfl⟩:=hv.iface hk0
 obtain ⟨x0g,x1g,x2g,x5g,x6g,x8g,x11g,x12g,x15g,x16g,a3g,a4g,a7g,a9g,a13g,a17g,n3g,n4g,n7g,n9g,n13g,n17g,c3g,c4g,c7g,c9g,c13g,c17g,b10g,b14g,rfl⟩:=hg.shape
 obtain ⟨ra,rc,rfl,_⟩:=hre.slice
 have:=hs2.size
 refine Qm rfl<|Qe rfl<|Qe rfl<|Qe rfl ?_
 have hT:=hT.t hs1 |>.t hs2
 have:=hT.size
 refine Al (.agg #[.nilIface]) hs2.sat rfl fun boh w3 hs3 hooh eoh=>?_
 have:=hs3.size
 have:=hooh.1.lt
 have hT:=hT.t hs3
 have:=hT.size
 refine Al (.agg #[(.int .i64 0),(.int .i64 0),(.int .i64 0),(.slice none 0 0),(.slice none 0 0),(.int .i64 0),(.int .i64 0),(.slice none 0 0),(.int .i64 0),(.slice none 0 0),(.bool false),(.int .i64 0),(.int .i64 0),(.slice none 0 0),(.bool false),(.int .i64 0),(.int .i64 0),(.slice none 0 0)]) hs3.sat rfl fun bog w4 hs4 hoog eog=>?_
 have:=hs4.size
 have:=hoog.1.lt
 have hooh:=hooh.t hs4
 refine St hs4.sat hooh rfl fun w5 hs5 hooh=>?_
 have:=hs5.size
 have hoog:=hoog.u hs5
 refine St hs5.sat hoog rfl fun w6 hs6 hoog=>?_
 have:=hs6.size
 have hoog:=hoog.all rfl
 refine Nar rfl Z fun Z=>Ca rfl ((m_new hs6.sat).mono ?_)
 rintro _ w7 ⟨b,rfl,hs7,hob,hbw⟩
 have:=hs7.size
 refine Nar rfl Z fun Z=>?_
 have hT:=hT.t hs4 |>.o hs5 |>.o hs6 |>.t hs7
 have hTa:=hT
 have hbb:w.heap.size≤b:=by have:=hT.size; omega
 have hsA:=Sat.arm (n:=0) hs7.sat hob rfl
 have hooh:=hooh.u hs6 |>.t hs7
 have hooh2:=Own.arm (b:=b) (n:=0) hooh O
 have hoog:=hoog.t hs7
 have hoog2:=Own.arm (b:=b) (n:=0) hoog O
 clear hooh hoog hob hT
 obtain ⟨MA,hMA⟩:∃ MA:Mem (some b),MA=Mem.arm Mm b 0:=⟨_,rfl⟩
 rw [← hMA] at hsA hooh2 hoog2
 have hooh:=hooh2
 have hoog:=hoog2
 have hleA:Le Mm MA:=by rw [hMA]; exact fun _ _ h=>h
 have hT:=Step.refl Nope hsA
 have hg:=h15_ok.mono _ _ _ _ hleA hg
 have hv:=hv.mono hleA
 have hHl:=hv.len
 have hHe:=hv.el
 have hok:=hv.ok
 clear hooh2 hoog2
 refine Qm rfl<|Qc 1 rfl (OD hooh rfl)<|Ca rfl ((dr_sorted hsA hv O).mono ?_)
 rintro vS w8 ⟨MS,hs8,hbS,hfS⟩
 have hn1:MS.n=HM.drainC (l.length+1) H:=by rw [hs8.cnt,hMA]; exact Nat.zero_add _
 obtain ⟨aS,cS,rfl,_,_⟩:=hbS.slice
 have:=hs8.size
 refine Nar rfl Z fun Z=>Qm rfl<|Ca rfl ((m_steps hs8.sat).mono ?_)
 rintro _ w9 ⟨hv9,hs9⟩
 rw [hn1] at hv9
 subst hv9
 have:=hs9.size
 refine Na rfl Z ?_
 have hre:=hre.mono encE_ok hleA |>.mono encE_ok hs8.le
 have hv:=hv.mono hs8.le
 have hg:=h15_ok.mono _ _ _ _ hs8.le hg
 have hooh:=hooh.t hs8 |>.t hs9
 have hoog:=hoog.t hs8 |>.t hs9
 have hT:=hT.t hs8 |>.t hs9
 have hbS:=hbS.t hs9
 rcases Int.lt_or_le p 0 with hp | hp
 ·refine Ri fun Z=>Qm rfl<|Qc 1 rfl (OD hooh rfl)<|Qm rfl<|Ca rfl ((dr_top_1 (z:=p) hs9.sat hv hk0 hp).mono ?_)
  rintro _ w10 ⟨vT,MT,rfl,hs10,hbT,hfT⟩
  have hn2:MT.n=HM.drainC (l.length+1) H:=by rw [hs10.cnt,hn1]; rfl
  obtain ⟨aT,cT,rfl,_,_⟩:=hbT.slice
  have:=hs10.size
  refine Qm rfl<|Qe rfl<|Qe rfl<|Qa rfl<|Nar rfl Z fun Z=>?_
  have hoog:=hoog.t hs10
  refine Qc 18 rfl (OD hoog rfl) ?_
  have hg:=h15_ok.mono _ _ _ _ hs10.le hg
  refine Ca rfl ((r16_sorted hs10.sat hg hok O).mono ?_)
  rintro _ w11 ⟨vR,MR,hvR,hs11,hrow⟩
  rw [hHl] at hvR
  rw [← hHe] at hrow
  subst hvR
  have hn3:=hs11.cnt
  rw [hn2] at hn3
  obtain ⟨aR,cR,rfl,_⟩:=hrow.slice
  have:=hs11.size
  refine Qm rfl<|Qe rfl<|Qe rfl<|Qa rfl<|Na rfl Z<|cw_seq fun _ hK13=>Ri fun Z=>Qm rfl<|Qm rfl ?_
  have hbS:=hbS.t hs10 |>.t hs11
  refine Ca rfl ((ref_same hs11.sat O hbS.rds ((row_rd hrow).rds _)).mono ?_)
  rintro _ w12 ⟨hv12,hs12⟩
  rw [decide_eq_true rfl] at hv12
  subst hv12
  have:=hs12.size
  refine Qq rfl (q_not rfl)<|Qm rfl<|as_gh rfl rfl rfl rfl (h_q rfl (q_move rfl) ?_)
  refine as_gh rfl rfl rfl rfl (h_q rfl (q_move rfl) ?_)
  refine as_gh rfl rfl rfl rfl (h_q rfl (q_neF rfl rfl rfl) ?_)
  refine Qq rfl (q_pick_f rfl rfl)<|Qm rfl<|as_gh rfl rfl rfl rfl (h_q rfl (q_move rfl) ?_)
  refine as_gh rfl rfl rfl rfl (h_q rfl (q_move rfl) ?_)
  refine as_gh rfl rfl rfl rfl (h_call V rfl ?_)
  have hre:=hre.mono encE_ok hs10.le |>.mono encE_ok hs11.le
  have hbS:=hbS.t hs12
  refine (ref_same hs12.sat O hbS.rds ((row_rd hre).rds _)).mono ?_
  rintro _ w13 ⟨hv13,hs13⟩
  rw [decide_eq_true rfl] at hv13
  subst hv13
  have:=hs13.size
  refine as_gh rfl rfl rfl rfl (h_q rfl (q_not rfl) ?_)
  refine Qq rfl (q_pick_f rfl rfl)<|Nx Z<|cw_false rfl<|cw_skip<|hK13 _ _<|cw_seq fun _ hK15=>Ri fun Z=>Qm rfl<|Qq rfl (qLT rfl)<|Nx Z<|cw_true rfl<|Ri fun Z=>Qm rfl<|Qq rfl (q_eqT rfl rfl rfl)<|Qm rfl<|as_gh rfl rfl rfl rfl (h_q rfl (q_move rfl) ?_)
  refine as_gh rfl rfl rfl rfl (h_q rfl (ql rfl) ?_)
  refine as_gh rfl rfl rfl rfl (h_q rfl (q_eqT rfl rfl rfl) ?_)
  refine Qq rfl (q_pick_t rfl rfl)<|Qm rfl<|as_gh rfl rfl rfl rfl (h_q rfl (q_move rfl) ?_)
  refine as_gh rfl rfl rfl rfl (h_call V rfl ?_)
  refine (m_steps hs13.sat).mono ?_
  rintro _ w14 ⟨hv14,hs14⟩
  rw [hn3] at hv14
  subst hv14
  have:=hs14.size
  refine as_gh rfl rfl rfl rfl (h_q rfl (q_move rfl) ?_)
  refine as_gh rfl rfl rfl rfl (h_q rfl (q_eqT rfl rfl rfl) ?_)
  refine Qq rfl (q_pick_t rfl rfl)<|Na rfl Z<|cw_ret ?_
  subst hMA
  have hT:=hT.t hs10 |>.t hs11 |>.t hs12 |>.t hs13 |>.t hs14
  exact ⟨_,Rt rfl,rfl,(Step.disarm hTa hbb hT).forget⟩
 ·refine Ri fun Z=>Qm rfl<|Qc 1 rfl (OD hooh rfl)<|Qm rfl<|Ca rfl ((dr_top_2 (z:=p) hs9.sat hv hk0 hp hp9 O).mono ?_)
  rintro _ w15 ⟨vT,MT,rfl,hs15,hbT,hfT⟩
  have hn2:MT.n=HM.drainC (l.length+1) H+HM.drainC p.toNat H:=by rw [hs15.cnt,hn1]
  obtain ⟨aT,cT,rfl,_,_⟩:=hbT.slice
  have:=hs15.size
  refine Qm rfl<|Qe rfl<|Qe rfl<|Qa rfl<|Nar rfl Z fun Z=>?_
  have hoog:=hoog.t hs15
  refine Qc 18 rfl (OD hoog rfl) ?_
  have hg:=h15_ok.mono _ _ _ _ hs15.le hg
  refine Ca rfl ((r16_sorted hs15.sat hg hok O).mono ?_)
  rintro _ w16 ⟨vR,MR,hvR,hs16,hrow⟩
  rw [hHl] at hvR
  rw [← hHe] at hrow
  subst hvR
  have hn3:=hs16.cnt
  rw [hn2] at hn3
  obtain ⟨aR,cR,rfl,_⟩:=hrow.slice
  have:=hs16.size
  refine Qm rfl<|Qe rfl<|Qe rfl<|Qa rfl<|Na rfl Z<|cw_seq fun _ hK20=>Ri fun Z=>Qm rfl<|Qm rfl ?_
  have hbS:=hbS.t hs15 |>.t hs16
  refine Ca rfl ((ref_same hs16.sat O hbS.rds ((row_rd hrow).rds _)).mono ?_)
  rintro _ w17 ⟨hv17,hs17⟩
  rw [decide_eq_true rfl] at hv17
  subst hv17
  have:=hs17.size
  refine Qq rfl (q_not rfl)<|Qm rfl<|as_gh rfl rfl rfl rfl (h_q rfl (q_move rfl) ?_)
  refine as_gh rfl rfl rfl rfl (h_q rfl (q_move rfl) ?_)
  refine as_gh rfl rfl rfl rfl (h_q rfl (q_neF rfl rfl rfl) ?_)
  refine Qq rfl (q_pick_f rfl rfl)<|Qm rfl<|as_gh rfl rfl rfl rfl (h_q rfl (q_move rfl) ?_)
  refine as_gh rfl rfl rfl rfl (h_q rfl (q_move rfl) ?_)
  refine as_gh rfl rfl rfl rfl (h_call V rfl ?_)
  have hre:=hre.mono encE_ok hs15.le |>.mono encE_ok hs16.le
  have hbS:=hbS.t hs17
  refine (ref_same hs17.sat O hbS.rds ((row_rd hre).rds _)).mono ?_
  rintro _ w18 ⟨hv18,hs18⟩
  rw [decide_eq_true rfl] at hv18
  subst hv18
  have:=hs18.size
  refine as_gh rfl rfl rfl rfl (h_q rfl (q_not rfl) ?_)
  refine Qq rfl (q_pick_f rfl rfl)<|Nx Z<|cw_false rfl<|cw_skip<|hK20 _ _<|cw_seq fun _ hK22=>Ri fun Z=>Qm rfl<|Qq rfl (qLF rfl)<|Nx Z<|cw_false rfl<|cw_skip<|hK22 _ _<|Ri fun Z=>?_
  have hoog:=hoog.t hs16 |>.t hs17 |>.t hs18
  refine Qc 18 rfl (OD hoog rfl)<|Qm rfl ?_
  have hg:=h15_ok.mono _ _ _ _ hs16.le hg
  refine Ca rfl ((r16_top (z:=p) hs18.sat hg hok O hp).mono ?_)
  rintro _ w19 ⟨vQ,MQ,rfl,hs19,hrow2⟩
  rw [← hHe] at hrow2
  have hn4:=hs19.cnt
  rw [hn3] at hn4
  obtain ⟨aQ,cQ,rfl,_⟩:=hrow2.slice
  have:=hs19.size
  refine Qm rfl<|Qe rfl<|Qe rfl<|Qa rfl<|Nar rfl Z fun Z=>Qm rfl<|Qq rfl (q_eqT rfl rfl rfl)<|Qm rfl<|as_gh rfl rfl rfl rfl (h_q rfl (q_move rfl) ?_)
  refine as_gh rfl rfl rfl rfl (h_q rfl (q_move rfl) ?_)
  refine as_gh rfl rfl rfl rfl (h_call V rfl ?_)
  have hbT:=hbT.t hs16 |>.t hs17 |>.t hs18 |>.t hs19
  refine (ref_same hs19.sat (by rw [List.length_take]; omega) hbT.rds ((row_rd hrow2).rds _)).mono ?_
  rintro _ w20 ⟨hv20,hs20⟩
  rw [decide_eq_true rfl] at hv20
  subst hv20
  have:=hs20.size
  refine Qq rfl (q_pick_t rfl rfl)<|Qm rfl<|as_gh rfl rfl rfl rfl (h_q rfl (q_move rfl) ?_)
  refine as_gh rfl rfl rfl rfl (h_q rfl (q_move rfl) ?_)
  refine as_gh rfl rfl rfl rfl (h_call V rfl ?_)
  refine (m_since (c:=HM.drainC (l.length+1) H) hs20.sat (by rw [hn4]; omega)).mono ?_
  rintro _ w21 ⟨hv21,hs21⟩
  rw [hn4,show HM.drainC (l.length+1) H+HM.drainC p.toNat H+0+0-HM.drainC (l.length+1) H=HM.drainC p.toNat H by omega] at hv21
  subst hv21
  have:=hs21.size
  refine as_gh rfl rfl rfl rfl (h_q rfl (q_move rfl) ?_)
  refine as_gh rfl rfl rfl rfl (h_q rfl (q_eqT rfl rfl rfl) ?_)
  refine Qq rfl (q_pick_t rfl rfl)<|Na rfl Z<|cw_ret ?_
  subst hMA
  have hT:=hT.t hs15 |>.t hs16 |>.t hs17 |>.t hs18 |>.t hs19 |>.t hs20 |>.t hs21
  exact ⟨_,Rt rfl,rfl,(Step.disarm hTa hbb hT).forget⟩
theorem drainTells_walk {w:World} {M:Mem none} {z u p:Int} {va vb:Value} {n m:Nat} {xs ys:List El} (hs:Sat M w) (hr:RdM M 2 va n (els xs)) (hr2:RdM M 2 vb m (els ys)) (hu0:0≤u) (hu:u≤255) (hp9:p≤9223372036854775807):
  Dz 3 #[.int .i64 z,va,vb, .int .u8 u, .int .i64 p] w (fun v w'=>v = .bool true∧Step Nope M w M w'):=by
 have hxl:=(hr.rds w).els_len hs
 have hyl:=(hr2.rds w).els_len hs
 obtain ⟨sa,ca,rfl,_,_⟩:=hr.slice
 obtain ⟨sb,cb,rfl,_,_⟩:=hr2.slice
 have hx:=rd_row hr hxl
 have hy:=rd_row hr2 hyl
 by_cases hz:40<xs.length∨40<ys.length∨z<1∨6<z
 ·exact drainTells_b hs hx hy hz
 ·obtain ⟨k,rfl⟩:∃ k:Nat,z=(k:Int):=⟨z.toNat,by omega⟩
  exact drainTells_g hs hx hy O O O O hu0 hu hp9
end Go.Proofs.YtnnldppehojffaaGreat
/- Elements, and rows of them, among a law s arguments. -/
namespace Go.Proofs.YtnnldppehojffaaGreat
open Go Go.Eng Go.ChangeShapes Go.WideShapes Go.RowKit
theorem two_cells {α : Type} : ∀ {cs : List α}, cs.length = 2 → ∃ a b, cs = [a, b]
  | [a, b], _ => ⟨a, b, rfl⟩
def ElOk (e : El) : Prop := (-9223372036854775808 ≤ e.1 ∧ e.1 ≤ 9223372036854775807) ∧ (-9223372036854775808 ≤ e.2 ∧ e.2 ≤ 9223372036854775807)
section
variable {H : Type} {enc : TypeId × Value → H} {W : World} {spare : Nat → Bool} {held : Bool} {v : Value} {x : DataW H × List MemPlace} {fuel : Nat} {d : DataW H} {p : List MemPlace}
theorem read_el {cs : List Value} (h : DataW.trod enc Tryz.prog W 0 spare held fuel 29 cs = some x) : ∃ e : El, cs = elc e ∧ ElOk e := by
  obtain ⟨xs, n, _, _, hl, hx, hf⟩ := DataW.trod_struct Tryz.underlying29 h
  rw [show Tryz.prog.cellsOf 29 = 2 by kernel_rfl] at hl
  obtain ⟨a, b, rfl⟩ := two_cells hl
  have h0 := hf 0 _ rfl
  have h1 := hf 1 _ rfl
  rw [show Tryz.prog.cellsOf _ = 1 by kernel_rfl] at h0 h1
  rw [List.getElem?_eq_getElem (by rw [hx]; decide)] at h0 h1
  obtain ⟨m, hm, wm⟩ := DataW.trod_int Tryz.underlying2 h0
  obtain ⟨k, hk, wk⟩ := DataW.trod_int Tryz.underlying2 h1
  cases hm
  cases hk
  exact ⟨(m, k), rfl, by simpa [Lit.wf, IntKind.min, IntKind.max, IntKind.signed, IntKind.bits] using wm.2, by simpa [Lit.wf, IntKind.min, IntKind.max, IntKind.signed, IntKind.bits] using wk.2⟩
theorem read_els (hv : ∃ a n c, v = .slice a n c) (h : DataW.Trod enc Tryz.prog W 0 spare held 22 v d p) : ∃ (n : Nat) (xs : List El), RdM (memOf W) 2 v n (els xs) ∧ ∀ e ∈ xs, ElOk e := by
  obtain ⟨fuel, h⟩ := h
  obtain ⟨a, k, c, rfl⟩ := hv
  obtain ⟨n, ys, _, h1, h2⟩ := read_rows elc ElOk elc_length Tryz.underlying22 (show Tryz.prog.cellsOf 29 = 2 by kernel_rfl) (by decide) (fun _ cs x hx => read_el hx) (v := .slice a k c) h
  exact ⟨n, ys, h1, h2⟩
end
end Go.Proofs.YtnnldppehojffaaGreat
