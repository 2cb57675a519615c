/- Steps of the proof that the law of this claim answers true, part 6. No conditions. -/
import Derived.Test.YtnnldppehojffaaGreatCDrainTellsE
/- All heaps behind a heap, part 2. -/
namespace Go.Proofs.YtnnldppehojffaaGreat
open Go Go.Eng
variable {mb:Option Nat} {w:World} {M:Mem mb}
theorem front_val {a:Option Addr} {sc k:Nat} {z:Int} (h:z.toNat=k):Value.slice (if sc=(0:Int).toNat then a else a.map (·.add ((0:Int).toNat*1))) (z.toNat-(0:Int).toNat) (sc-(0:Int).toNat) = .slice a k sc:=by
 subst h
 cases a <;> simp [Addr.add]
theorem bo_each1 {t:Bt} {bx0:Nat} {q:Option Addr} (hb0:M bx0=some ([.pointer q],172)) (hr:BRep 347 381 383 M t q) (hz:Bt.cnt 1 t≤1000000000):
  IterP Tryz.prog 276 [.pointer (some ⟨bx0,0,none⟩)] (fun k=>w.heap.size+2≤k) (Bt.cnt 0 t) (fun i _=>i<Bt.cnt 0 t) M w:=by
 intro r J M0 W0 h0 hW habide hround hJ
 have hb0:=h0.le _ _ hb0
 have hrp:=encB_iff.2 ⟨q,rfl,hr.mono h0.le⟩
 refine Fe Tryz.func276 [] rfl<|Ri fun Z=>Qc 1 rfl (BD h0 hb0 rfl)<|as_h rfl (h_buildO (e:=172) (size:=1) (zs:=[.pointer none]) (cs:=[_]) V V V rfl h0.sat rfl rfl fun bB w1 hs1 hoB eB=>?_)
 have:=hs1.size
 refine Na rfl Z<|cw_block<|cw_loop (fun mm l1 w1=>∃ (i:Nat) (st:List Bt) (sa:Option Addr) (sc:Nat) (M1:Mem mb) (cs:List Value),mm=Bt.cntL 1 st∧i+Bt.cntL 0 st=Bt.cnt 0 t∧Bt.cntL 1 st≤1000000000∧l1=[(0, .func (.yield r) #[] #[]),(1, .pointer (some ⟨bx0,0,none⟩)),(3, .slice sa st.length sc)]∧Le M0 M1∧Sat M1 w1∧W0.heap.size≤w1.heap.size∧J i M1 w1∧Buf w1 M1 172 1 (.slice sa st.length sc) st.length cs∧EncL EncB 1 M1 st cs∧∀ g,(Value.slice sa st.length sc).ownBlock=some g→W0.heap.size≤g) (Bt.cnt 1 t) [(0, .func (.yield r) #[] #[]),(1, .pointer (some ⟨bx0,0,none⟩)),(3, .slice (some ⟨bB,0,none⟩) 1 1)] (.cons rfl (.cons rfl (.cons rfl (.nil _)))) ?_ ?_
 ·refine ⟨0,[t],some ⟨bB,0,none⟩,1,M0,_,by simp [Bt.cntL],by simp [Bt.cntL],by simpa [Bt.cntL] using hz,rfl,Le.refl _,hs1.sat,hs1.size,habide _ _ _ _ _ hJ (hs1.any _),Own.buf hoB (n:=1) (size:=1) rfl (by decide),⟨_,_,rfl,rfl,hrp,rfl⟩,fun g hg=>?_⟩
  have h2:bB=g:=Option.some.inj hg
  omega
 clear hJ hoB
 rintro mm l1 w1 ⟨i,st,sa,sc,M1,cs,rfl,hcn,hcz,rfl,hle,hst,hw01,hJ,hbu,hcl,hfr⟩
 have hstl:=Bt.cntL_length st
 refine cw_seq fun _ hK2=>?_
 have hcs:st=[]∨(∃ st1,st=st1++[Bt.nil])∨∃ st1 x ts,st=st1++[Bt.node x ts]:=by
  rcases List.eq_nil_or_concat st with h | ⟨s1,b,h⟩
  ·exact .inl h
  ·cases b with
   | nil=>exact .inr (.inl ⟨s1,by simpa using h⟩)
   | node x ts=>exact .inr (.inr ⟨s1,x,ts,by simpa using h⟩)
 rcases hcs with rfl | ⟨st1,rfl⟩ | ⟨st1,x,ts,rfl⟩
 ·have hlc:([]:List Bt).length=0:=rfl
  refine Ri fun Z=>Qm rfl<|Qq rfl (ql rfl)<|Qq rfl (qGF rfl)<|Nx Z<|cw_false rfl<|cw_exit ?_
  have e:i=Bt.cnt 0 t:=by simpa [Bt.cntL] using hcn
  exact ⟨_,res_nil,M1,hst,hle,by rw [← e]; exact hJ⟩
 ·have hlc:(st1++[Bt.nil]).length=st1.length+1:=by simp
  obtain ⟨ds,c,rfl,hcl1,hxc⟩:=hcl.last
  obtain ⟨xq,hcq,hxr⟩:=encB_iff.1 hxc
  obtain rfl:c = .pointer xq:=by simpa using hcq
  have hds:=hcl1.length
  obtain ⟨g,o,rfl⟩:=hbu.rd.there O
  have hcap:(st1++[Bt.nil]).length≤sc:=by
   obtain ⟨_,_,h,h2,_⟩:=hbu.slice
   cases h; exact h2
  have hbs:=hbu.front1 (j:=st1.length) O
  rw [List.take_append_of_le_length O,List.take_of_length_le O] at hbs
  have hfr1:∀ g2,(Value.slice (some ⟨g,o,none⟩) st1.length sc).ownBlock=some g2→W0.heap.size≤g2:=fun g2 hg=>hfr g2 hg
  have hct0:Bt.cntL 0 (st1++[Bt.nil])=Bt.cntL 0 st1+(Bt.cnt 0 (Bt.nil)+0):=by rw [Bt.cntL_append]; rfl
  have hct1:Bt.cntL 1 (st1++[Bt.nil])=Bt.cntL 1 st1+(Bt.cnt 1 (Bt.nil)+0):=by rw [Bt.cntL_append]; rfl
  obtain rfl:=brep_nil.1 hxr
  have hn0:Bt.cnt 0 Bt.nil=0:=rfl
  have hn1:Bt.cnt 1 Bt.nil=1:=rfl
  have hT:=Step.refl (fun k=>w.heap.size+2≤k) hst
  have hblt:=hbu.lt
  have hb0:=hle _ _ hb0
  refine Ri fun Z=>Qm rfl<|Qq rfl (ql rfl)<|Qq rfl (qGT rfl)<|Nx Z<|cw_true rfl<|cw_skip<|hK2 _ _<|cw_block<|Ri fun Z=>Qm rfl<|Qm rfl<|Qq rfl (ql rfl)<|Qq rfl (qS rfl)<|Qq rfl (qi 172 1 rfl)<|Qc 1 rfl (cells_oneB (Buf.cell hbu (u:= .pointer none) (j:=((((st1++[Bt.nil]).length:Nat):Int)-1).toNat*1) (by rw [show ((((st1++[Bt.nil]).length:Nat):Int)-1).toNat*1=ds.length by omega]; simp))) ?_
  have hblt2:=hbu.lt
  have hqax:=hT.size
  refine Al (.agg #[(.pointer none)]) hst rfl fun bx w2 hs2 hox ex=>?_
  have:=hs2.size
  have hlx:=hox.1.lt
  refine St hs2.sat hox rfl fun w3 hs3 hox=>?_
  have:=hs3.size
  refine Nr Z fun Z=>Qm rfl<|Qm rfl<|Qq rfl (ql rfl)<|Qq rfl (qS rfl)<|Qq rfl (q_congr (q_slice (e:=172) (size:=1) (k:= .i64) V V rfl rfl rfl O O O) (v':= .slice (some ⟨g,o,none⟩) st1.length sc) (front_val O))<|Na rfl Z<|cw_seq fun _ hK7=>Ri fun Z=>Qf 0 rfl<|Q1 rfl (OC hox rfl)<|Qq rfl (qn rfl)<|Nx Z<|cw_true rfl<|cw_exit ?_
  have hbu:=hbu.t hs2 |>.step hs3 (fun g2 hg h=>by have h:g2=bx:=h; have:=hblt g2 hg; omega)
  have hT:=hT.t hs2 |>.o hs3
  refine ⟨_,_,?_,(.cons rfl (.cons rfl (.cons rfl (.nil _)))),i,st1,_,_,_,_,rfl,?_,?_,rfl,hle,hT.sat,by omega,habide _ _ _ _ _ hJ hT,(by have h:=hbu.front1 (j:=st1.length) O; rw [List.take_append_of_le_length O,List.take_of_length_le O] at h; exact h),hcl1.mono EncB.mono hT.le,hfr1⟩
  ·omega
  ·omega
  ·omega
 ·have hlc:(st1++[Bt.node x ts]).length=st1.length+1:=by simp
  obtain ⟨ds,c,rfl,hcl1,hxc⟩:=hcl.last
  obtain ⟨xq,hcq,hxr⟩:=encB_iff.1 hxc
  obtain rfl:c = .pointer xq:=by simpa using hcq
  have hds:=hcl1.length
  obtain ⟨g,o,rfl⟩:=hbu.rd.there O
  have hcap:(st1++[Bt.node x ts]).length≤sc:=by
   obtain ⟨_,_,h,h2,_⟩:=hbu.slice
   cases h; exact h2
  have hbs:=hbu.front1 (j:=st1.length) O
  rw [List.take_append_of_le_length O,List.take_of_length_le O] at hbs
  have hfr1:∀ g2,(Value.slice (some ⟨g,o,none⟩) st1.length sc).ownBlock=some g2→W0.heap.size≤g2:=fun g2 hg=>hfr g2 hg
  have hct0:Bt.cntL 0 (st1++[Bt.node x ts])=Bt.cntL 0 st1+(Bt.cnt 0 (Bt.node x ts)+0):=by rw [Bt.cntL_append]; rfl
  have hct1:Bt.cntL 1 (st1++[Bt.node x ts])=Bt.cntL 1 st1+(Bt.cnt 1 (Bt.node x ts)+0):=by rw [Bt.cntL_append]; rfl
  obtain ⟨xb,qs,rfl,hxb,hxts⟩:=brep_node.1 hxr
  have hn0:Bt.cnt 0 (Bt.node x ts)=1+Bt.cntQ 0 ts:=rfl
  have hn1:Bt.cnt 1 (Bt.node x ts)=1+Bt.cntQ 1 ts:=rfl
  have hal:=Bt.cntL_length (RT.alls ts)
  rw [RT.alls_length,Bt.cntQ_alls] at hal
  have hT:=Step.refl (fun k=>w.heap.size+2≤k) hst
  have hblt:=hbu.lt
  have hb0:=hle _ _ hb0
  refine Ri fun Z=>Qm rfl<|Qq rfl (ql rfl)<|Qq rfl (qGT rfl)<|Nx Z<|cw_true rfl<|cw_skip<|hK2 _ _<|cw_block<|Ri fun Z=>Qm rfl<|Qm rfl<|Qq rfl (ql rfl)<|Qq rfl (qS rfl)<|Qq rfl (qi 172 1 rfl)<|Qc 1 rfl (cells_oneB (Buf.cell hbu (u:= .pointer (some ⟨xb,0,none⟩)) (j:=((((st1++[Bt.node x ts]).length:Nat):Int)-1).toNat*1) (by rw [show ((((st1++[Bt.node x ts]).length:Nat):Int)-1).toNat*1=ds.length by omega]; simp))) ?_
  have hblt2:=hbu.lt
  have hqax:=hT.size
  refine Al (.agg #[(.pointer none)]) hst rfl fun bx w4 hs4 hox ex=>?_
  have:=hs4.size
  have hlx:=hox.1.lt
  refine St hs4.sat hox rfl fun w5 hs5 hox=>?_
  have:=hs5.size
  refine Nr Z fun Z=>Qm rfl<|Qm rfl<|Qq rfl (ql rfl)<|Qq rfl (qS rfl)<|Qq rfl (q_congr (q_slice (e:=172) (size:=1) (k:= .i64) V V rfl rfl rfl O O O) (v':= .slice (some ⟨g,o,none⟩) st1.length sc) (front_val O))<|Na rfl Z<|cw_seq fun _ hK12=>Ri fun Z=>Qf 0 rfl<|Q1 rfl (OC hox rfl)<|Qq rfl (qn rfl)<|Nx Z<|cw_false rfl<|cw_skip<|hK12 _ _<|cw_seq fun _ hK14=>Ri fun Z=>Qm rfl<|Qc 1 rfl (OD hox rfl) ?_
  have hT:=hT.t hs4 |>.o hs5
  have hJ2:=habide _ _ _ _ _ hJ hT
  have hTz:=hT.size
  refine as_h rfl (h_yield rfl rfl ?_)
  obtain ⟨fn_,tm_,as_,bo_,hy1,hy2⟩:=hround i (.agg #[.pointer (some ⟨xb,0,none⟩)]) _ _ (show i<Bt.cnt 0 t by omega) hJ2 hT.sat (hle.trans hT.le)
  refine ⟨fn_,tm_,as_,bo_,hy1,RoundIn.mono hy2 fun e w6 he=>?_⟩
  cases e <;> try exact (he:False).elim
  obtain ⟨rfl,M2,hs6,hJ3⟩:=he
  have hxts:=hxts.mono' EncB.mono hs6.le
  have hle2:=(hle.trans hT.le).trans hs6.le
  have:=hs6.size
  clear hT
  have hT:=Step.refl (fun k=>w.heap.size+2≤k) hs6.sat
  refine Qq rfl (q_not rfl)<|Nx Z<|cw_false rfl<|cw_skip<|hK14 _ _<|cw_region fun _ Z=>Qm rfl<|Qf 0 rfl ?_
  have hox:=hox.step hs6 (fun hn=>hn (by show _≤_; omega))
  refine Q1 rfl (OC hox rfl)<|Qq rfl (q_nilp rfl)<|Qf 2 rfl ?_
  have hxb:=hs6.le _ _ hxb
  refine Qc 1 rfl (BD hs6 hxb rfl)<|Ca rfl ((sh_all hs6.sat hxts O).mono ?_)
  rintro _ w7 ⟨ra,rc,Mr,es,rfl,hs7,hrb,hrl,_⟩
  have:=hs7.size
  have hbu:=hbu.t hs4 |>.step hs5 (fun g2 hg h=>by have h:g2=bx:=h; have:=hblt g2 hg; omega) |>.step hs6 (fun g2 hg hn=>hn (by have:=hfr g2 hg; show _≤_; omega)) |>.t hs7
  have hb2:=hbu.front1 (j:=st1.length) O
  rw [List.take_append_of_le_length O,List.take_of_length_le O] at hb2
  have hT:=hT.t hs7
  have hTq:=hT.size
  refine as_h rfl (h_append (e:=172) (size:=1) (bytes:=8) V hs7.sat hb2 hrb.rd rfl rfl (encB_one hrl) O rfl fun sv w8 hs8 hbu3 hor=>?_)
  have hT:=hT.trans hs8 (fun k hk h=>by have:=hfr1 k h; show _≤_; omega)
  have:=hs8.size
  have hcl1:=hcl1.mono EncB.mono hs6.le |>.mono EncB.mono hs7.le |>.mono EncB.mono hs8.le
  have hrl:=hrl.mono EncB.mono hs8.le
  have hfr2:∀ g2,sv.ownBlock=some g2→W0.heap.size≤g2:=fun g2 hg=>by
   rcases hor with h | h
   ·rw [h] at hg; exact hfr1 g2 hg
   ·rw [h] at hg; have h2:=Option.some.inj hg; omega
  have hlen2:st1.length+RT.sizes ts=(st1++RT.alls ts).length:=by rw [List.length_append,RT.alls_length]
  rw [hlen2] at hbu3
  obtain ⟨sva,svc,rfl,_,_⟩:=hbu3.slice
  have hbu2:=hbu3
  refine Qa rfl<|as_nil (Z _ _ ?_)
  refine ⟨_,_,?_,(.cons rfl (.cons rfl (.cons rfl (.nil _)))),i+1,st1++RT.alls ts,_,_,_,_,rfl,?_,?_,rfl,hle2.trans hT.le,hT.sat,by omega,habide _ _ _ _ _ hJ3 hT,hbu2,hcl1.append hrl,hfr2⟩
  ·rw [Bt.cntL_append,Bt.cntQ_alls]; omega
  ·rw [Bt.cntL_append,Bt.cntQ_alls]; omega
  ·rw [Bt.cntL_append,Bt.cntQ_alls]; omega
end Go.Proofs.YtnnldppehojffaaGreat
/- Heaps without their least element, and sizes, part 1. -/
namespace Go.Proofs.YtnnldppehojffaaGreat
open Go Go.Eng
variable {mb:Option Nat} {w:World} {M:Mem mb}
mutual
theorem Bt.cnt_le:∀ t:Bt,Bt.cnt 0 t≤Bt.cnt 1 t
 | .nil=>Nat.zero_le _
 | .node _ ts=>by have:=Bt.cntQ_le ts; simp only [Bt.cnt]; omega
theorem Bt.cntQ_le:∀ l:List (RT Bt),Bt.cntQ 0 l≤Bt.cntQ 1 l
 | []=>Nat.le_refl _
 | t::r=>by have:=Bt.cntT_le t; have:=Bt.cntQ_le r; simp only [Bt.cntQ]; omega
theorem Bt.cntT_le:∀ t:RT Bt,Bt.cntT 0 t≤Bt.cntT 1 t
 | .node x bs ks=>by have:=Bt.cnt_le x; have:=Bt.cntL_le bs; have:=Bt.cntQ_le ks; simp only [Bt.cntT]; omega
theorem Bt.cntL_le:∀ l:List Bt,Bt.cntL 0 l≤Bt.cntL 1 l
 | []=>Nat.le_refl _
 | t::r=>by have:=Bt.cnt_le t; have:=Bt.cntL_le r; simp only [Bt.cntL]; omega
end
theorem se_min0 (hs:Sat M w):
  Dz 213 #[.agg #[.pointer none],mval mb] w (fun v w'=>v = .tuple #[.agg (elc (0,0)).toArray, .bool false]∧Step Nope M w M w'):=by
 have hT:=hs.r
 refine Fe Tryz.func213 [.cell 4 29, .tmp 5] rfl<|Ri fun Z=>Bm hs rfl fun b1 M1 w1 hs1 hb1 e1=>?_
 have:=hs1.size
 have hT:=hT.t hs1
 have:=hT.size
 refine Al (.agg #[(.int .i64 0),(.int .i64 0)]) hs1.sat rfl fun br w2 hs2 hor er=>?_
 have:=hs2.size
 have:=hor.1.lt
 refine Nar rfl Z fun Z=>Qf 0 rfl<|Qc 1 rfl (BD hs2 hb1 rfl)<|Ca rfl ((ce_all (vs:=[]) hs2.sat rfl (by decide)).mono ?_)
 rintro av w3 ⟨Ma,hs3,hba,hfa⟩
 have:=hs3.size
 obtain ⟨aa,ac,rfl,_,_⟩:=hba.slice
 refine Na rfl Z<|cw_seq fun _ hK3=>Ri fun Z=>Qm rfl<|Qq rfl (ql rfl)<|Qq rfl (q_eq rfl rfl)<|Nx Z<|cw_true rfl<|Ri fun Z=>?_
 have hT:=hT.t hs2 |>.t hs3
 have:=hT.size
 refine Al (.agg #[(.int .i64 0),(.int .i64 0)]) hs3.sat rfl fun bz w4 hs4 hoz ez=>?_
 have:=hs4.size
 have:=hoz.1.lt
 refine Nr Z fun Z=>Qc 2 rfl (OD hoz rfl) ?_
 have hor:=hor.t hs3 |>.t hs4
 refine St hs4.sat hor rfl fun w5 hs5 hor=>?_
 have:=hs5.size
 refine Na rfl Z<|cw_ret ?_
 have hT:=hT.t hs4 |>.o hs5
 exact ⟨_,(Rc 2 rfl (OD hor rfl) (Rt rfl)),rfl,hT.forget⟩
theorem sh_min0 (hs:Sat M w):
  Dz 254 #[.agg #[.pointer none],mval mb] w (fun v w'=>v = .tuple #[.agg #[.pointer none], .bool false]∧Step Nope M w M w'):=by
 have hT:=hs.r
 refine Fe Tryz.func254 [.cell 4 172, .tmp 5] rfl<|Ri fun Z=>Bm hs rfl fun b1 M1 w1 hs1 hb1 e1=>?_
 have:=hs1.size
 have hT:=hT.t hs1
 have:=hT.size
 refine Al (.agg #[(.pointer none)]) hs1.sat rfl fun br w2 hs2 hor er=>?_
 have:=hs2.size
 have:=hor.1.lt
 refine Nar rfl Z fun Z=>Qf 0 rfl<|Qc 1 rfl (BD hs2 hb1 rfl)<|Ca rfl ((ch_all (vs:=[]) hs2.sat rfl (by decide)).mono ?_)
 rintro av w3 ⟨Ma,hs3,hba,hfa⟩
 have:=hs3.size
 obtain ⟨aa,ac,rfl,_,_⟩:=hba.slice
 refine Na rfl Z<|cw_seq fun _ hK3=>Ri fun Z=>Qm rfl<|Qq rfl (ql rfl)<|Qq rfl (q_eq rfl rfl)<|Nx Z<|cw_true rfl<|Ri fun Z=>?_
 have hT:=hT.t hs2 |>.t hs3
 have:=hT.size
 refine Al (.agg #[(.pointer none)]) hs3.sat rfl fun bz w4 hs4 hoz ez=>?_
 have:=hs4.size
 have:=hoz.1.lt
 refine Nr Z fun Z=>Qc 1 rfl (OD hoz rfl) ?_
 have hor:=hor.t hs3 |>.t hs4
 refine St hs4.sat hor rfl fun w5 hs5 hor=>?_
 have:=hs5.size
 refine Na rfl Z<|cw_ret ?_
 have hT:=hT.t hs4 |>.o hs5
 exact ⟨_,(Rc 1 rfl (OD hor rfl) (Rt rfl)),rfl,hT.forget⟩
theorem r_pop_1 {x:El} {q:Option Addr} (hs:Sat M w) (h:RoRep 334 266 287 M (.node x []) q):
  Dz 235 #[.agg #[.pointer q],mval mb] w (fun v w'=>∃ q M',v = .tuple #[.agg #[.pointer q], .bool true]∧StepC Nope (0) M w M' w'∧RoRep 334 266 287 M' .nil q):=by
 have hT:=hs.r
 obtain ⟨b,qs,rfl,hb,ht⟩:=h
 obtain rfl:=frep_nil.1 ht
 refine Fe Tryz.func235 [.cell 4 167, .tmp 5] rfl<|Ri fun Z=>Bm hs rfl fun b1 M1 w1 hs1 hb1 e1=>?_
 have:=hs1.size
 have hT:=hT.t hs1
 have:=hT.size
 refine Al (.agg #[(.pointer none)]) hs1.sat rfl fun br w2 hs2 hor er=>?_
 have:=hs2.size
 have:=hor.1.lt
 refine Na rfl Z<|cw_seq fun _ hK2=>Ri fun Z=>Qf 0 rfl<|Q1 rfl (BC hs2 hb1 rfl)<|Qq rfl (qn rfl)<|Nx Z<|cw_false rfl<|cw_skip<|hK2 _ _<|Ri fun Z=>Qf 0 rfl<|Q1 rfl (BC hs2 hb1 rfl)<|Qq rfl (q_nilp rfl)<|Qf 0 rfl ?_
 have hb:=hs1.le _ _ hb
 refine Qc 1 rfl (BD hs2 hb rfl)<|Qm rfl<|Ca rfl ((se_min0 hs2.sat).mono ?_)
 rintro _ w3 ⟨rfl,hs3⟩
 have:=hs3.size
 refine Qm rfl<|Qe rfl<|Qe rfl ?_
 have hT:=hT.t hs2 |>.t hs3
 have:=hT.size
 refine Al (.agg #[(.int .i64 0),(.int .i64 0)]) hs3.sat rfl fun bm w4 hs4 hom em=>?_
 have:=hs4.size
 have:=hom.1.lt
 refine St hs4.sat hom rfl fun w5 hs5 hom=>?_
 have:=hs5.size
 refine Na rfl Z<|cw_seq fun _ hK5=>Ri fun Z=>Qm rfl<|Qq rfl (q_not rfl)<|Nx Z<|cw_true rfl<|Ri fun Z=>Qq rfl (q_build (zs:=[(.pointer none)]) (places:=[(0,1)]) (cs:=[_]) V V rfl rfl) ?_
 have hor:=hor.t hs3 |>.t hs4 |>.u hs5
 refine St hs5.sat hor rfl fun w6 hs6 hor=>?_
 have:=hs6.size
 refine Na rfl Z<|cw_ret ?_
 have hT:=hT.t hs4 |>.o hs5 |>.o hs6
 exact ⟨_,(Rc 1 rfl (OD hor rfl) (Rt rfl)),_,_,rfl,hT,rfl⟩
theorem r_pop_2 {x y:El} {bs:List El} {ks ts:List (RT El)} {q:Option Addr} (hs:Sat M w) (h:RoRep 334 266 287 M (.node x ts) q) (hk:ts[leastN ltE (ts.map RT.root) (ts.length-1)]? = some (.node y bs ks)) (hz:RT.sizes ts≤1000000000):
  Dz 235 #[.agg #[.pointer q],mval mb] w (fun v w'=>∃ q M',v = .tuple #[.agg #[.pointer q], .bool true]∧StepC Nope (ts.length-1+spopC ltE ts (.node y bs ks)+1) M w M' w'∧RoRep 334 266 287 M' (.node y (spop ltE ts (.node y bs ks))) q):=by
 have hT:=hs.r
 obtain ⟨b,qs,rfl,hb,ht⟩:=h
 refine Fe Tryz.func235 [.cell 4 167, .tmp 5] rfl<|Ri fun Z=>Bm hs rfl fun b1 M1 w1 hs1 hb1 e1=>?_
 have ht:=ht.mono' EncE.mono hs1.le
 have:=hs1.size
 have hT:=hT.t hs1
 have:=hT.size
 refine Al (.agg #[(.pointer none)]) hs1.sat rfl fun br w2 hs2 hor er=>?_
 have:=hs2.size
 have:=hor.1.lt
 refine Na rfl Z<|cw_seq fun _ hK2=>Ri fun Z=>Qf 0 rfl<|Q1 rfl (BC hs2 hb1 rfl)<|Qq rfl (qn rfl)<|Nx Z<|cw_false rfl<|cw_skip<|hK2 _ _<|Ri fun Z=>Qf 0 rfl<|Q1 rfl (BC hs2 hb1 rfl)<|Qq rfl (q_nilp rfl)<|Qf 0 rfl ?_
 have hb:=hs1.le _ _ hb
 refine Qc 1 rfl (BD hs2 hb rfl)<|Qm rfl<|Ca rfl ((se_min hs2.sat ht hk hz).mono ?_)
 rintro _ w3 ⟨rfl,hs3⟩
 have ht:=ht.mono' EncE.mono hs3.le
 have:=hs3.size
 refine Qm rfl<|Qe rfl<|Qe rfl ?_
 have hT:=hT.t hs2 |>.t hs3
 have:=hT.size
 refine Al (.agg #[(.int .i64 0),(.int .i64 0)]) hs3.sat rfl fun bm w4 hs4 hom em=>?_
 have:=hs4.size
 have:=hom.1.lt
 refine St hs4.sat hom rfl fun w5 hs5 hom=>?_
 have:=hs5.size
 refine Na rfl Z<|cw_seq fun _ hK5=>Ri fun Z=>Qm rfl<|Qq rfl (q_not rfl)<|Nx Z<|cw_false rfl<|cw_skip<|hK5 _ _<|Ri fun Z=>Qf 0 rfl ?_
 have hb1:=hs3.le _ _ hb1
 refine Q1 rfl (BC hs5 hb1 rfl)<|Qq rfl (q_nilp rfl)<|Qf 0 rfl ?_
 have hb:=hs3.le _ _ hb
 refine Qc 1 rfl (BD hs5 hb rfl)<|Qm rfl<|Ca rfl ((se_pop (ts:=ts) hs5.sat ht hk hz).mono ?_)
 rintro _ w6 ⟨qp,Mp,rfl,hs6,hpp⟩
 have:=hs6.size
 refine Qm rfl<|Qe rfl<|Qe rfl ?_
 have hT:=hT.t hs4 |>.o hs5 |>.t hs6
 have:=hT.size
 refine Al (.agg #[(.pointer none)]) hs6.sat rfl fun bl w7 hs7 hol el=>?_
 have:=hs7.size
 have:=hol.1.lt
 refine St hs7.sat hol rfl fun w8 hs8 hol=>?_
 have:=hs8.size
 refine Nar rfl Z fun Z=>Qm rfl ?_
 have hom:=hom.t hs6 |>.t hs7 |>.u hs8
 refine Qc 2 rfl (OD hom rfl)<|Qc 1 rfl (OD hol rfl)<|Ca rfl ((r_made (x:=y) hs8.sat hpp).mono ?_)
 rintro _ w9 ⟨qm,Mm,rfl,hs9,hm⟩
 have:=hs9.size
 have hor:=hor.t hs3 |>.t hs4 |>.u hs5 |>.t hs6 |>.t hs7 |>.u hs8 |>.t hs9
 refine St hs9.sat hor rfl fun w10 hs10 hor=>?_
 have:=hs10.size
 refine Na rfl Z<|cw_ret ?_
 have hT:=hT.t hs7 |>.o hs8 |>.t hs9 |>.o hs10
 exact ⟨_,(Rc 1 rfl (OD hor rfl) (Rt rfl)),_,_,rfl,hT.to O,hm⟩
theorem bo_pop_1 {x:El} {q:Option Addr} (hs:Sat M w) (h:BRep 347 381 383 M (.node x []) q):
  Dz 249 #[.agg #[.pointer q],mval mb] w (fun v w'=>∃ q M',v = .tuple #[.agg #[.pointer q], .bool true]∧StepC Nope (0) M w M' w'∧BRep 347 381 383 M' .nil q):=by
 have hT:=hs.r
 obtain ⟨b,qs,rfl,hb,ht⟩:=brep_node.1 h
 obtain rfl:=frep_nil.1 ht
 refine Fe Tryz.func249 [.cell 4 172, .tmp 5] rfl<|Ri fun Z=>Bm hs rfl fun b1 M1 w1 hs1 hb1 e1=>?_
 have:=hs1.size
 have hT:=hT.t hs1
 have:=hT.size
 refine Al (.agg #[(.pointer none)]) hs1.sat rfl fun br w2 hs2 hor er=>?_
 have:=hs2.size
 have:=hor.1.lt
 refine Na rfl Z<|cw_seq fun _ hK2=>Ri fun Z=>Qf 0 rfl<|Q1 rfl (BC hs2 hb1 rfl)<|Qq rfl (qn rfl)<|Nx Z<|cw_false rfl<|cw_skip<|hK2 _ _<|Ri fun Z=>Qf 0 rfl<|Q1 rfl (BC hs2 hb1 rfl)<|Qq rfl (q_nilp rfl)<|Qf 2 rfl ?_
 have hb:=hs1.le _ _ hb
 refine Qc 1 rfl (BD hs2 hb rfl)<|Qm rfl<|Ca rfl ((sh_min0 hs2.sat).mono ?_)
 rintro _ w3 ⟨rfl,hs3⟩
 have:=hs3.size
 refine Qm rfl<|Qe rfl<|Qe rfl ?_
 have hT:=hT.t hs2 |>.t hs3
 have:=hT.size
 refine Al (.agg #[(.pointer none)]) hs3.sat rfl fun bf w4 hs4 hof ef=>?_
 have:=hs4.size
 have:=hof.1.lt
 refine St hs4.sat hof rfl fun w5 hs5 hof=>?_
 have:=hs5.size
 refine Na rfl Z<|cw_seq fun _ hK5=>Ri fun Z=>Qm rfl<|Qq rfl (q_not rfl)<|Nx Z<|cw_true rfl<|Ri fun Z=>Qq rfl (q_build (zs:=[(.pointer none)]) (places:=[(0,1)]) (cs:=[_]) V V rfl rfl) ?_
 have hor:=hor.t hs3 |>.t hs4 |>.u hs5
 refine St hs5.sat hor rfl fun w6 hs6 hor=>?_
 have:=hs6.size
 refine Na rfl Z<|cw_ret ?_
 have hT:=hT.t hs4 |>.o hs5 |>.o hs6
 exact ⟨_,(Rc 1 rfl (OD hor rfl) (Rt rfl)),_,_,rfl,hT,brep_nil.2 rfl⟩
theorem bo_pop_2 {x y:El} {bs:List Bt} {ks ts us:List (RT Bt)} {q:Option Addr} (hs:Sat M w) (h:BRep 347 381 383 M (.node x ts) q) (hk:ts[leastN ltB (ts.map RT.root) (ts.length-1)]? = some (.node (.node y us) bs ks)) (hz:RT.sizes ts≤1000000000) (hzm:RT.sizes us+RT.sizes (spop ltB ts (.node (.node y us) bs ks))≤1000000000):
  Dz 249 #[.agg #[.pointer q],mval mb] w (fun v w'=>∃ q M',v = .tuple #[.agg #[.pointer q], .bool true]∧StepC Nope (ts.length-1+spopC ltB ts (.node (.node y us) bs ks)+smeldC ltB us (spop ltB ts (.node (.node y us) bs ks))+1) M w M' w'∧BRep 347 381 383 M' (Bt.popped ts (.node (.node y us) bs ks) y us) q):=by
 have hT:=hs.r
 obtain ⟨b,qs,rfl,hb,ht⟩:=brep_node.1 h
 refine Fe Tryz.func249 [.cell 4 172, .tmp 5] rfl<|Ri fun Z=>Bm hs rfl fun b1 M1 w1 hs1 hb1 e1=>?_
 have ht:=ht.mono' encB_mono hs1.le
 have:=hs1.size
 have hT:=hT.t hs1
 have:=hT.size
 refine Al (.agg #[(.pointer none)]) hs1.sat rfl fun br w2 hs2 hor er=>?_
 have:=hs2.size
 have:=hor.1.lt
 refine Na rfl Z<|cw_seq fun _ hK2=>Ri fun Z=>Qf 0 rfl<|Q1 rfl (BC hs2 hb1 rfl)<|Qq rfl (qn rfl)<|Nx Z<|cw_false rfl<|cw_skip<|hK2 _ _<|Ri fun Z=>Qf 0 rfl<|Q1 rfl (BC hs2 hb1 rfl)<|Qq rfl (q_nilp rfl)<|Qf 2 rfl ?_
 have hb:=hs1.le _ _ hb
 refine Qc 1 rfl (BD hs2 hb rfl)<|Qm rfl<|Ca rfl ((sh_min hs2.sat ht hk hz).mono ?_)
 rintro _ w3 ⟨qx,Mx,rfl,hs3,hqx⟩
 obtain ⟨qy,hqy,hqx⟩:=encB_iff.1 hqx
 obtain rfl:qx=qy:=by simpa using hqy
 obtain ⟨by_,qys,rfl,hby,hus⟩:=brep_node.1 hqx
 have ht:=ht.mono' encB_mono hs3.le
 have:=hs3.size
 refine Qm rfl<|Qe rfl<|Qe rfl ?_
 have hT:=hT.t hs2 |>.t hs3
 have:=hT.size
 refine Al (.agg #[(.pointer none)]) hs3.sat rfl fun bf w4 hs4 hof ef=>?_
 have:=hs4.size
 have:=hof.1.lt
 refine St hs4.sat hof rfl fun w5 hs5 hof=>?_
 have:=hs5.size
 refine Na rfl Z<|cw_seq fun _ hK5=>Ri fun Z=>Qm rfl<|Qq rfl (q_not rfl)<|Nx Z<|cw_false rfl<|cw_skip<|hK5 _ _<|Ri fun Z=>Qf 0 rfl ?_
 have hb1:=hs3.le _ _ hb1
 refine Q1 rfl (BC hs5 hb1 rfl)<|Qq rfl (q_nilp rfl)<|Qf 2 rfl ?_
 have hb:=hs3.le _ _ hb
 refine Qc 1 rfl (BD hs5 hb rfl)<|Qm rfl<|Ca rfl ((sh_pop (ts:=ts) hs5.sat ht hk hz).mono ?_)
 rintro _ w6 ⟨qp,Mp,rfl,hs6,hpp⟩
 have hby:=hs6.le _ _ hby
 have hus:=hus.mono' encB_mono hs6.le
 have:=hs6.size
 refine Qm rfl<|Qe rfl<|Qe rfl ?_
 have hT:=hT.t hs4 |>.o hs5 |>.t hs6
 have:=hT.size
 refine Al (.agg #[(.pointer none)]) hs6.sat rfl fun bl w7 hs7 hol el=>?_
 have:=hs7.size
 have:=hol.1.lt
 refine St hs7.sat hol rfl fun w8 hs8 hol=>?_
 have:=hs8.size
 refine Na rfl Z<|Rv fun Z=>?_
 have hs9:=Step.drew hs8.sat
 have:=hs9.size
 refine Gm 0 1 rfl<|Gf 1 3 0 rfl ?_
 have hof:=hof.t hs6 |>.t hs7 |>.u hs8 |>.t hs9
 refine G1 2 7 rfl (OC hof rfl)<|Gq 3 15 rfl (fun _=>q_nilp rfl)<|Gf 4 31 0 rfl<|Gc 5 63 2 rfl (BD hs9 hby rfl)<|Gf 6 127 0 rfl<|G1 7 255 rfl (OC hof rfl)<|Gq 8 511 rfl (fun _=>q_nilp rfl)<|Gf 9 1023 2 rfl<|Gc 10 2047 1 rfl (BD hs9 hby rfl)<|Gm 11 4095 rfl ?_
 have hol:=hol.t hs9
 refine Gc 12 8191 1 rfl (OD hol rfl)<|Gh 13 16383 rfl (Ks [T,T,F,F,F]) (h_call V rfl ?_)
 refine (sh_meld hs9.sat hus hpp hzm).mono ?_
 rintro _ w10 ⟨ql,Ml,rfl,hs10,hml⟩
 have hby:=hs10.le _ _ hby
 have:=hs10.size
 have hor:=hor.t hs3 |>.t hs4 |>.u hs5 |>.t hs6 |>.t hs7 |>.u hs8 |>.t hs9 |>.t hs10
 have hT:=hT.t hs7 |>.o hs8 |>.t hs9 |>.t hs10
 have hof:=hof.t hs10
 refine ⟨(by repeat' first | exact trivial | exact BD hs10 hby rfl | exact OC hof rfl | refine And.intro ?_ ?_),?_⟩
 refine Gh 14 32767 rfl (Ks [F,T,F]) (h_call V rfl ?_)
 refine (bo_made (x:=y) hs10.sat hml).mono ?_
 rintro _ w11 ⟨qm,Mm,rfl,hs11,hm⟩
 have hby:=hs11.le _ _ hby
 have:=hs11.size
 have hor:=hor.t hs11
 have hof:=hof.t hs11
 have hT:=hT.t hs11
 refine ⟨(by repeat' first | exact trivial | exact OC hof rfl | refine And.intro ?_ ?_),?_⟩
 refine G0 15 65535 rfl (Ks [T,T]) (h_store hs11.sat hor rfl rfl rfl V rfl rfl rfl fun w12 hs12 hn12=>?_)
 clear hor; have hor:=hn12; clear hn12
 have:=hs12.size
 refine ⟨trivial,?_⟩
 refine Ga 16 131071 rfl<|Dx Z<|cw_ret ?_
 have hT:=hT.o hs12
 exact ⟨_,(Rc 1 rfl (OD hor rfl) (Rt rfl)),_,_,rfl,hT.to O,hm⟩
theorem bo_each {p:Option Addr} (hs:Sat M w):
  Dz 258 #[.agg #[.pointer p]] w (fun v w'=>∃ bx M',v = .func (.func 276) #[] #[.pointer (some ⟨bx,0,none⟩)]∧Step Nope M w M' w'∧M' bx=some ([.pointer p],172)):=by
 have hT:=hs.r
 refine Fe Tryz.func258 [.tmp 2] rfl<|Ri fun Z=>Bm hs rfl fun b1 M1 w1 hs1 hb1 e1=>Nar rfl Z fun Z=>Qq rfl (q_func rfl rfl)<|Na rfl Z<|cw_ret ?_
 have hT:=hT.t hs1
 exact ⟨_,Rt rfl,_,_,rfl,hT,hb1⟩
theorem bo_size1 {b:Nat} {z:Int} (hs:Sat M w) (ho:Own w M b [.int .i64 z] 3) (h0:0≤z) (h1:z≤1000000000):
  Dz 257 #[.pointer (some ⟨b,0,none⟩)] w (fun _ w'=>Step (Just b) M w M w'∧Own w' M b [.int .i64 (z+1)] 3):=by
 have hT:=Step.refl (Just b) hs
 refine Fe Tryz.func257 [] rfl<|cw_region fun _ Z=>Q1 rfl (OC ho rfl)<|Qq rfl (qA rfl)<|St hs ho rfl fun w1 hs1 ho=>as_nil (Z _ _ ?_)
 have hT:=hT.also hs1
 exact ⟨_,res_nil,hT,ho⟩
theorem bo_size {t:Bt} {q:Option Addr} (hs:Sat M w) (h:BRep 347 381 383 M t q) (hz:Bt.cnt 1 t≤1000000000):
  Dz 251 #[.agg #[.pointer q]] w (fun v w'=>v = .int .i64 (Bt.cnt 0 t:Nat)∧Step Nope M w M w'):=by
 have hzz:=Bt.cnt_le t
 have hT:=hs.r
 refine fn_enterM (K':=fun v w'=>v = .int .i64 (Bt.cnt 0 t:Nat)∧∃ M',Step Nope M w M' w') Tryz.func251 rfl (rs:=[.tmp 2]) rfl rfl rfl rfl ?_ (fun _ _ _ _ _ _ h=>resT rfl h) ?_
 ·refine cm_seq fun K0a hK0a=>cw_region fun K0b hK0b=>Bm hs rfl fun b1 M1 w1 hs1 hb1 e1=>?_
  have:=hs1.size
  refine Qa rfl<|as_nil (hK0b _ _ (hK0a _ _ ?_))
  clear hK0b hK0a K0b K0a
  refine cm_seq fun K1a hK1a=>cw_region fun K1b hK1b=>?_
  have hT:=hT.t hs1
  have:=hT.size
  refine Al (.int .i64 0) hs1.sat rfl fun bn w2 hs2 hon en=>?_
  have:=hs2.size
  have hln:=hon.1.lt
  refine St hs2.sat hon rfl fun w3 hs3 hon=>?_
  have:=hs3.size
  refine as_nil (hK1b _ _ (hK1a _ _ ?_))
  clear hK1b hK1a K1b K1a
  refine cm_seq fun K2a hK2a=>cw_region fun K2b hK2b=>Qq rfl (q_func rfl rfl) ?_
  have hT:=hT.t hs2 |>.o hs3
  have:=hT.size
  refine Al .nilFunc hs3.sat rfl fun bf w4 hs4 hof ef=>?_
  have:=hs4.size
  have hlf:=hof.1.lt
  refine St hs4.sat hof rfl fun w5 hs5 hof=>?_
  have h:=h.mono hs1.le
  have:=hs5.size
  refine as_nil (hK2b _ _ (hK2a _ _ ?_))
  clear hK2b hK2a K2b K2a
  refine cm_seqM<|cm_seq fun K2a hK2a=>cw_region fun K2b hK2b=>Qc 1 rfl (BD hs5 hb1 rfl)<|Ca rfl ((bo_each hs5.sat).mono ?_)
  rintro _ w6 ⟨bx,Mx,rfl,hs6,hbx⟩
  have:=hs6.size
  refine as_nil (hK2b _ _ (hK2a _ _ ?_))
  clear hK2b hK2a K2b K2a
  have hT:=hT.t hs4 |>.o hs5 |>.t hs6
  have hTs:=hT.size
  have hon:=hon.t hs4 |>.u hs5 |>.t hs6
  have hln:=hon.1.lt
  have hof:=hof.t hs6
  have hlf:=hof.1.lt
  have hbw:w.heap.size≤bn∧w.heap.size≤bf∧bn≠bf:=by omega
  refine cm_block ?_
  have h:=h.mono hs6.le
  refine cm_rangeP (M:=Mx) (S:=fun k=>w6.heap.size+2≤k) (N:=Bt.cnt 0 t) (ok:=fun i _=>i<Bt.cnt 0 t) (lb:=[.pointer (some ⟨bx,0,none⟩)]) (gf:=276) rfl rfl rfl V rfl hs6.sat hTs (bo_each1 hbx h hz) (fun k hk=>by constructor <;> omega) (fun i M' W'=>(Own W' M' bn [.int .i64 ((i:Nat):Int)] 3∧Own W' M' bf [.func (.func 257) #[] #[.pointer (some ⟨bn,0,none⟩)]] 1∧Step Nope M w M' W')) (fun i v la M' W'=>la=[(3, .pointer (some ⟨bn,0,none⟩)),(4, .pointer (some ⟨bf,0,none⟩))]∧(Own W' M' bn [.int .i64 ((i:Nat):Int)] 3∧Own W' M' bf [.func (.func 257) #[] #[.pointer (some ⟨bn,0,none⟩)]] 1∧Step Nope M w M' W')) ?_ ?_ ?_ ?_ ?_ ?_
  ·rintro i M' W' M'' W'' ⟨h1,h2,h3⟩ k
   exact ⟨h1.step k (by rintro (h | h | h) <;> omega),h2.step k (by rintro (h | h | h) <;> omega),h3.trans k (fun b hb h=>by rcases h with h | h | h <;> omega)⟩
  ·exact ⟨hon,hof,hT⟩
  ·rintro i v la M' W' M'' W'' ⟨rfl,h1,h2,h3⟩ k
   exact ⟨rfl,h1.step k (by rintro (h | h | h) <;> omega),h2.step k (by rintro (h | h | h) <;> omega),h3.trans k (fun b hb h=>by rcases h with h | h | h <;> omega)⟩
  ·rintro i v r M' W' hv ⟨h1,h2,h3⟩ hs' hle hlt
   exact cw_skip ⟨_,M', .cons rfl (.cons rfl (.nil _)),Step.refl _ hs',rfl,h1,h2,h3⟩
  ·rintro i v la r M' W' hv ⟨rfl,h1,h2,h3⟩ hs' hle hlt
   have:=h1.1.lt
   refine cw_block (cw_region fun K4 hK4=>?_)
   refine Q1 rfl (OC h2 rfl)<|as_h rfl (h_callv (f:=257) (first:=[]) (cap:=[.pointer (some ⟨bn,0,none⟩)]) V rfl rfl rfl ?_)
   refine (bo_size1 hs' h1 O O).mono ?_
   rintro _ w7 ⟨hs7,h1n⟩
   refine as_nil (hK4 _ _ ⟨M',hs7.wide fun k _ h=>by have h:k=bn:=h; exact ⟨by omega,by omega,by omega⟩,by rw [show (((i+1:Nat)):Int)=(i:Int)+1 from by omega]; exact h1n,h2.step hs7 (fun h=>by have h:bf=bn:=h; omega),h3.trans hs7 (fun k hk h=>by have h:k=bn:=h; omega)⟩)
  ·rintro M' W' hs' hle ⟨h1,h2,h3⟩ D hD hDd
   refine Ri fun Z=>Q1 rfl (OC h1 rfl)<|Qa rfl ?_
   exact as_nil (Z _ _ (cw_ret ⟨hDd,_,res_tmp rfl res_nil,rfl,M',h3⟩))
 ·rintro v w' D hB hD ⟨h0,M',h1⟩
  have k:=Step.putObj h1.sat hD (by simp) (.deferred none)
  exact ⟨h0,(h1.trans k (fun b hb h=>by have h:b=D:=h; omega)).forget⟩
end Go.Proofs.YtnnldppehojffaaGreat
/- Leftist heaps, part 1. -/
namespace Go.Proofs.YtnnldppehojffaaGreat
open Go Go.Eng
variable {mb:Option Nat} {w:World} {M:Mem mb}
theorem l_rank_nil (hs:Sat M w):
  Dz 312 #[.agg #[.pointer none]] w (fun v w'=>v = .int .i64 ((Lft.nil.rank:Nat):Int)∧Step Nope M w M w'):=by
 have hT:=hs.r
 refine Fe Tryz.func312 [.tmp 2] rfl<|Ri fun Z=>Bm hs rfl fun b1 M1 w1 hs1 hb1 e1=>Na rfl Z<|cw_seq fun _ hK2=>Ri fun Z=>Qf 0 rfl<|Q1 rfl (BC hs1 hb1 rfl)<|Qq rfl (qn rfl)<|Nx Z<|cw_true rfl<|Ri fun Z=>Na rfl Z<|cw_ret ?_
 have hT:=hT.t hs1
 exact ⟨_,Rt rfl,rfl,hT.forget⟩
theorem l_rank_node {x:El} {l r:Lft} {p:Value} (hs:Sat M w) (h:LRep 258 M (.node x l r) p):
  Dz 312 #[.agg #[p]] w (fun v w'=>v = .int .i64 (((Lft.node x l r).rank:Nat):Int)∧Step Nope M w M w'):=by
 have hT:=hs.r
 obtain ⟨b,pl,pr,rfl,hb,hl,hr⟩:=h
 refine Fe Tryz.func312 [.tmp 2] rfl<|Ri fun Z=>Bm hs rfl fun b1 M1 w1 hs1 hb1 e1=>Na rfl Z<|cw_seq fun _ hK2=>Ri fun Z=>Qf 0 rfl<|Q1 rfl (BC hs1 hb1 rfl)<|Qq rfl (qn rfl)<|Nx Z<|cw_false rfl<|cw_skip<|hK2 _ _<|Ri fun Z=>Qf 0 rfl<|Q1 rfl (BC hs1 hb1 rfl)<|Qq rfl (q_nilp rfl)<|Qf 4 rfl ?_
 have hb:=hs1.le _ _ hb
 refine Q1 rfl (BC hs1 hb rfl)<|Na rfl Z<|cw_ret ?_
 have hT:=hT.t hs1
 exact ⟨_,Rt rfl,congrArg (Value.int .i64) (by simp [Lft.rank]),hT.forget⟩
theorem l_rank {t:Lft} {p:Value} (hs:Sat M w) (h:LRep 258 M t p):
  Dz 312 #[.agg #[p]] w (fun v w'=>v = .int .i64 (t.rank:Nat)∧Step Nope M w M w'):=by
 cases t with
 | nil=>cases h; exact l_rank_nil hs
 | node x l r=>exact l_rank_node hs h
theorem l_size_nil (hs:Sat M w):
  Dz 310 #[.agg #[.pointer none]] w (fun v w'=>v = .int .i64 ((Lft.nil.size:Nat):Int)∧Step Nope M w M w'):=by
 have hT:=hs.r
 refine Fe Tryz.func310 [.tmp 2] rfl<|Ri fun Z=>Bm hs rfl fun b1 M1 w1 hs1 hb1 e1=>Na rfl Z<|cw_seq fun _ hK2=>Ri fun Z=>Qf 0 rfl<|Q1 rfl (BC hs1 hb1 rfl)<|Qq rfl (qn rfl)<|Nx Z<|cw_true rfl<|Ri fun Z=>Na rfl Z<|cw_ret ?_
 have hT:=hT.t hs1
 exact ⟨_,Rt rfl,rfl,hT.forget⟩
theorem l_size_node {x:El} {l r:Lft} {p:Value} (hs:Sat M w) (h:LRep 258 M (.node x l r) p):
  Dz 310 #[.agg #[p]] w (fun v w'=>v = .int .i64 (((Lft.node x l r).size:Nat):Int)∧Step Nope M w M w'):=by
 have hT:=hs.r
 obtain ⟨b,pl,pr,rfl,hb,hl,hr⟩:=h
 refine Fe Tryz.func310 [.tmp 2] rfl<|Ri fun Z=>Bm hs rfl fun b1 M1 w1 hs1 hb1 e1=>Na rfl Z<|cw_seq fun _ hK2=>Ri fun Z=>Qf 0 rfl<|Q1 rfl (BC hs1 hb1 rfl)<|Qq rfl (qn rfl)<|Nx Z<|cw_false rfl<|cw_skip<|hK2 _ _<|Ri fun Z=>Qf 0 rfl<|Q1 rfl (BC hs1 hb1 rfl)<|Qq rfl (q_nilp rfl)<|Qf 5 rfl ?_
 have hb:=hs1.le _ _ hb
 refine Q1 rfl (BC hs1 hb rfl)<|Na rfl Z<|cw_ret ?_
 have hT:=hT.t hs1
 exact ⟨_,Rt rfl,congrArg (Value.int .i64) (by simp [Lft.size]),hT.forget⟩
theorem l_size {t:Lft} {p:Value} (hs:Sat M w) (h:LRep 258 M t p):
  Dz 310 #[.agg #[p]] w (fun v w'=>v = .int .i64 (t.size:Nat)∧Step Nope M w M w'):=by
 cases t with
 | nil=>cases h; exact l_size_nil hs
 | node x l r=>exact l_size_node hs h
theorem l_made {x:El} {a b:Lft} {pa pb:Value} (hs:Sat M w) (ha:LRep 258 M a pa) (hb:LRep 258 M b pb) (hz:a.size+b.size≤1000000000):
  Dz 311 #[mval mb, .agg (elc x).toArray, .agg #[pa], .agg #[pb]] w (fun v w'=>∃ p M',v = .agg #[p]∧StepC Nope 1 M w M' w'∧LRep 258 M' (Lft.mk x a b) p):=by
 have hT:=hs.r
 have hra:=a.rank_le
 have hrb:=b.rank_le
 obtain ⟨qa,rfl⟩:=ha.ptr
 obtain ⟨qb,rfl⟩:=hb.ptr
 refine Fe Tryz.func311 [.cell 8 146] rfl<|Ri fun Z=>Bm hs rfl fun b1 M1 w1 hs1 hb1 e1=>?_
 have:=hs1.size
 have hT:=hT.t hs1
 have:=hT.size
 refine Bo hs1.sat rfl fun ba w2 hs2 hoa ea=>?_
 have:=hs2.size
 have:=hoa.1.lt
 have hT:=hT.t hs2
 have:=hT.size
 refine Bo hs2.sat rfl fun bb w3 hs3 hob eb=>?_
 have:=hs3.size
 have:=hob.1.lt
 have hT:=hT.t hs3
 have:=hT.size
 refine Al (.agg #[(.pointer none)]) hs3.sat rfl fun br w4 hs4 hor er=>?_
 have:=hs4.size
 have:=hor.1.lt
 refine Nr Z fun Z=>Qm rfl<|Ca rfl ((m_made hs4.sat).mono ?_)
 rintro _ w5 hs5
 have:=hs5.size
 refine Nx Z<|cw_seq fun _ hK3=>Rv fun Z=>?_
 have hs6:=Step.drew hs5.sat
 have:=hs6.size
 have hoa:=hoa.t hs3 |>.t hs4 |>.t hs5 |>.t hs6
 refine Gc 0 1 1 rfl (OD hoa rfl) ?_
 have hob:=hob.t hs4 |>.t hs5 |>.t hs6
 refine Gc 2 5 1 rfl (OD hob rfl)<|Gh 1 7 rfl (Ks [F,T]) (h_call V rfl ?_)
 have ha:=ha.mono hs1.le |>.mono hs5.le
 refine (l_rank hs6.sat ha).mono ?_
 rintro _ w7 ⟨rfl,hs7⟩
 have:=hs7.size
 have hb:=hb.mono hs1.le |>.mono hs5.le
 have hT:=hT.t hs4 |>.t hs5 |>.t hs6 |>.t hs7
 have hb1:=hs5.le _ _ hb1
 have hor:=hor.t hs5 |>.t hs6 |>.t hs7
 have hoa:=hoa.t hs7
 have hob:=hob.t hs7
 refine ⟨(by repeat' first | exact trivial | exact OD hob rfl | refine And.intro ?_ ?_),?_⟩
 refine Gh 3 15 rfl (Ks [T]) (h_call V rfl ?_)
 refine (l_rank hs7.sat hb).mono ?_
 rintro _ w8 ⟨rfl,hs8⟩
 have:=hs8.size
 refine ⟨trivial,?_⟩
 refine Gq 4 31 rfl (fun _=>q_lt rfl rfl)<|Dx Z ?_
 have hoa:=hoa.t hs8
 have hob:=hob.t hs8
 have hor:=hor.t hs8
 have hT:=hT.t hs8
 refine cw_cond rfl (fun hc0=>?_) (fun hc0=>?_)
 ·have hc0:=of_decide_eq_true hc0
  refine cw_region fun _ Z=>Qc 1 rfl (OD hob rfl)<|Qc 1 rfl (OD hoa rfl)<|St hs8.sat hoa rfl fun w9 hs9 hoa=>?_
  have:=hs9.size
  have hob:=hob.u hs9
  refine St hs9.sat hob rfl fun w10 hs10 hob=>?_
  have:=hs10.size
  refine as_nil (Z _ _ ?_)
  refine hK3 _ _<|Rv fun Z=>?_
  have hs11:=Step.drew hs10.sat
  have:=hs11.size
  refine Gc 0 1 2 rfl (BD hs11 hb1 rfl) ?_
  have hoa:=hoa.u hs10 |>.t hs11
  refine Gc 1 3 1 rfl (OD hoa rfl) ?_
  have hob:=hob.t hs11
  refine Gc 2 7 1 rfl (OD hob rfl)<|Gc 3 15 1 rfl (OD hob rfl)<|Gc 6 79 1 rfl (OD hoa rfl)<|Gc 9 591 1 rfl (OD hob rfl)<|Gh 4 607 rfl (Ks [F,F,T,F,F,F]) (h_call V rfl ?_)
  refine (l_rank hs11.sat ha).mono ?_
  rintro _ w12 ⟨rfl,hs12⟩
  have:=hs12.size
  have hor:=hor.u hs9 |>.u hs10 |>.t hs11 |>.t hs12
  have hT:=hT.o hs9 |>.o hs10 |>.t hs11 |>.t hs12
  have hoa:=hoa.t hs12
  have hob:=hob.t hs12
  refine ⟨(by repeat' first | exact trivial | exact BD hs12 hb1 rfl | exact OD hoa rfl | exact OD hob rfl | refine And.intro ?_ ?_),?_⟩
  refine Gq 5 639 rfl (fun _=>qA rfl)<|Gh 7 767 rfl (Ks [F,T,F,F,F]) (h_call V rfl ?_)
  refine (l_size hs12.sat hb).mono ?_
  rintro _ w13 ⟨rfl,hs13⟩
  have:=hs13.size
  have hoa:=hoa.t hs13
  have hob:=hob.t hs13
  have hor:=hor.t hs13
  have hT:=hT.t hs13
  refine ⟨(by repeat' first | exact trivial | exact BD hs13 hb1 rfl | exact OD hoa rfl | exact OD hob rfl | refine And.intro ?_ ?_),?_⟩
  refine Gq 8 1023 rfl (fun _=>qA rfl)<|Gh 10 2047 rfl (Ks [T,F,F,F]) (h_call V rfl ?_)
  refine (l_size hs13.sat ha).mono ?_
  rintro _ w14 ⟨rfl,hs14⟩
  have:=hs14.size
  have hoa:=hoa.t hs14
  have hob:=hob.t hs14
  have hor:=hor.t hs14
  have hT:=hT.t hs14
  refine ⟨(by repeat' first | exact trivial | exact BD hs14 hb1 rfl | exact OD hoa rfl | exact OD hob rfl | refine And.intro ?_ ?_),?_⟩
  refine Gq 11 4095 rfl (fun _=>qA rfl)<|Gq 12 8191 rfl (fun _=>(q_build (zs:=[(.int .i64 0),(.int .i64 0),(.pointer none),(.pointer none),(.int .i64 0),(.int .i64 0)]) (places:=[(0,2),(2,1),(3,1),(4,1),(5,1)]) (cs:=[_,_,_,_,_,_]) V V rfl rfl))<|Gh 13 16383 rfl (Ks [F,F,F]) (h_boxM hs14.sat rfl rfl fun b15 M15 w15 hs15 hb15 e15=>?_)
  have:=hs15.size
  have ha:=ha.mono hs15.le
  have hb:=hb.mono hs15.le
  have hb1:=hs15.le _ _ hb1
  have hoa:=hoa.t hs15
  have hob:=hob.t hs15
  have hor:=hor.t hs15
  have hT:=hT.t hs15
  refine ⟨(by repeat' first | exact trivial | exact BD hs15 hb1 rfl | exact OD hoa rfl | exact OD hob rfl | refine And.intro ?_ ?_),?_⟩
  refine Gq 14 32767 rfl (fun _=>(q_build (zs:=[(.pointer none)]) (places:=[(0,1)]) (cs:=[_]) V V rfl rfl))<|G0 15 65535 rfl (Ks [T,T,T]) (h_store hs15.sat hor rfl rfl rfl V rfl rfl rfl fun w16 hs16 hn16=>?_)
  clear hor; have hor:=hn16; clear hn16
  have:=hs16.size
  refine ⟨trivial,?_⟩
  refine Dx Z<|cw_ret ?_
  have hT:=hT.o hs16
  exact ⟨_,(Rc 1 rfl (OD hor rfl) res_nil),_,_,rfl,hT,by rw [Lft.mk,if_pos O]; exact ⟨_,_,_,rfl,hb15,hb,ha⟩⟩
 ·have hc0:=of_decide_eq_false hc0
  refine cw_skip<|hK3 _ _<|Rv fun Z=>?_
  have hs17:=Step.drew hs8.sat
  have:=hs17.size
  refine Gc 0 1 2 rfl (BD hs17 hb1 rfl) ?_
  have hoa:=hoa.t hs17
  refine Gc 1 3 1 rfl (OD hoa rfl) ?_
  have hob:=hob.t hs17
  refine Gc 2 7 1 rfl (OD hob rfl)<|Gc 3 15 1 rfl (OD hob rfl)<|Gc 6 79 1 rfl (OD hoa rfl)<|Gc 9 591 1 rfl (OD hob rfl)<|Gh 4 607 rfl (Ks [F,F,T,F,F,F]) (h_call V rfl ?_)
  refine (l_rank hs17.sat hb).mono ?_
  rintro _ w18 ⟨rfl,hs18⟩
  have:=hs18.size
  have hor:=hor.t hs17 |>.t hs18
  have hT:=hT.t hs17 |>.t hs18
  have hoa:=hoa.t hs18
  have hob:=hob.t hs18
  refine ⟨(by repeat' first | exact trivial | exact BD hs18 hb1 rfl | exact OD hoa rfl | exact OD hob rfl | refine And.intro ?_ ?_),?_⟩
  refine Gq 5 639 rfl (fun _=>qA rfl)<|Gh 7 767 rfl (Ks [F,T,F,F,F]) (h_call V rfl ?_)
  refine (l_size hs18.sat ha).mono ?_
  rintro _ w19 ⟨rfl,hs19⟩
  have:=hs19.size
  have hoa:=hoa.t hs19
  have hob:=hob.t hs19
  have hor:=hor.t hs19
  have hT:=hT.t hs19
  refine ⟨(by repeat' first | exact trivial | exact BD hs19 hb1 rfl | exact OD hoa rfl | exact OD hob rfl | refine And.intro ?_ ?_),?_⟩
  refine Gq 8 1023 rfl (fun _=>qA rfl)<|Gh 10 2047 rfl (Ks [T,F,F,F]) (h_call V rfl ?_)
  refine (l_size hs19.sat hb).mono ?_
  rintro _ w20 ⟨rfl,hs20⟩
  have:=hs20.size
  have hoa:=hoa.t hs20
  have hob:=hob.t hs20
  have hor:=hor.t hs20
  have hT:=hT.t hs20
  refine ⟨(by repeat' first | exact trivial | exact BD hs20 hb1 rfl | exact OD hoa rfl | exact OD hob rfl | refine And.intro ?_ ?_),?_⟩
  refine Gq 11 4095 rfl (fun _=>qA rfl)<|Gq 12 8191 rfl (fun _=>(q_build (zs:=[(.int .i64 0),(.int .i64 0),(.pointer none),(.pointer none),(.int .i64 0),(.int .i64 0)]) (places:=[(0,2),(2,1),(3,1),(4,1),(5,1)]) (cs:=[_,_,_,_,_,_]) V V rfl rfl))<|Gh 13 16383 rfl (Ks [F,F,F]) (h_boxM hs20.sat rfl rfl fun b21 M21 w21 hs21 hb21 e21=>?_)
  have:=hs21.size
  have ha:=ha.mono hs21.le
  have hb:=hb.mono hs21.le
  have hb1:=hs21.le _ _ hb1
  have hoa:=hoa.t hs21
  have hob:=hob.t hs21
  have hor:=hor.t hs21
  have hT:=hT.t hs21
  refine ⟨(by repeat' first | exact trivial | exact BD hs21 hb1 rfl | exact OD hoa rfl | exact OD hob rfl | refine And.intro ?_ ?_),?_⟩
  refine Gq 14 32767 rfl (fun _=>(q_build (zs:=[(.pointer none)]) (places:=[(0,1)]) (cs:=[_]) V V rfl rfl))<|G0 15 65535 rfl (Ks [T,T,T]) (h_store hs21.sat hor rfl rfl rfl V rfl rfl rfl fun w22 hs22 hn22=>?_)
  clear hor; have hor:=hn22; clear hn22
  have:=hs22.size
  refine ⟨trivial,?_⟩
  refine Dx Z<|cw_ret ?_
  have hT:=hT.o hs22
  exact ⟨_,(Rc 1 rfl (OD hor rfl) res_nil),_,_,rfl,hT,by rw [Lft.mk,if_neg O]; exact ⟨_,_,_,rfl,hb21,ha,hb⟩⟩
theorem l_meld_a {o:Lft} {po:Value} (hs:Sat M w) (ho:LRep 258 M o po):
  Dz 307 #[.agg #[.pointer none],mval mb, .agg #[po]] w (fun v w'=>∃ p M',v = .agg #[p]∧StepC Nope (0) M w M' w'∧LRep 258 M' o p):=by
 have hT:=hs.r
 obtain ⟨qo,rfl⟩:=ho.ptr
 refine Fe Tryz.func307 [.cell 6 146] rfl<|Ri fun Z=>?_
 have:=hT.size
 refine Bo hs rfl fun bh w1 hs1 hoh eh=>?_
 have:=hs1.size
 have:=hoh.1.lt
 have hT:=hT.t hs1
 have:=hT.size
 refine Bo hs1.sat rfl fun bo w2 hs2 hoo eo=>?_
 have:=hs2.size
 have:=hoo.1.lt
 have hT:=hT.t hs2
 have:=hT.size
 refine Al (.agg #[(.pointer none)]) hs2.sat rfl fun br w3 hs3 hor er=>?_
 have:=hs3.size
 have:=hor.1.lt
 refine Nx Z<|cw_seq fun _ hK2=>cw_block<|Ri fun Z=>Qf 0 rfl ?_
 have hoh:=hoh.t hs2 |>.t hs3
 refine Q1 rfl (OC hoh rfl)<|Qq rfl (qn rfl)<|Na rfl Z<|cw_true rfl<|Ri fun Z=>?_
 have hoo:=hoo.t hs3
 refine Qc 1 rfl (OD hoo rfl)<|St hs3.sat hor rfl fun w4 hs4 hor=>?_
 have:=hs4.size
 refine Nx Z<|cw_ret ?_
 have hT:=hT.t hs3 |>.o hs4
 exact ⟨_,(Rc 1 rfl (OD hor rfl) res_nil),_,_,rfl,hT,ho⟩
theorem l_meld_b {x:El} {l r:Lft} {p:Value} (hs:Sat M w) (h:LRep 258 M (.node x l r) p):
  Dz 307 #[.agg #[p],mval mb, .agg #[.pointer none]] w (fun v w'=>∃ p M',v = .agg #[p]∧StepC Nope (0) M w M' w'∧LRep 258 M' (.node x l r) p):=by
 have hT:=hs.r
 obtain ⟨b,pl,pr,rfl,hb,hl,hr⟩:=h
 refine Fe Tryz.func307 [.cell 6 146] rfl<|Ri fun Z=>?_
 have:=hT.size
 refine Bo hs rfl fun bh w1 hs1 hoh eh=>?_
 have:=hs1.size
 have:=hoh.1.lt
 have hT:=hT.t hs1
 have:=hT.size
 refine Bo hs1.sat rfl fun bo w2 hs2 hoo eo=>?_
 have:=hs2.size
 have:=hoo.1.lt
 have hT:=hT.t hs2
 have:=hT.size
 refine Al (.agg #[(.pointer none)]) hs2.sat rfl fun br w3 hs3 hor er=>?_
 have:=hs3.size
 have:=hor.1.lt
 refine Nx Z<|cw_seq fun _ hK2=>cw_block<|Ri fun Z=>Qf 0 rfl ?_
 have hoh:=hoh.t hs2 |>.t hs3
 refine Q1 rfl (OC hoh rfl)<|Qq rfl (qn rfl)<|Na rfl Z<|cw_false rfl<|Ri fun Z=>Qf 0 rfl ?_
 have hoo:=hoo.t hs3
 refine Q1 rfl (OC hoo rfl)<|Qq rfl (qn rfl)<|Na rfl Z<|cw_true rfl<|Ri fun Z=>Qc 1 rfl (OD hoh rfl)<|St hs3.sat hor rfl fun w4 hs4 hor=>?_
 have:=hs4.size
 refine Nx Z<|cw_ret ?_
 have hT:=hT.t hs3 |>.o hs4
 exact ⟨_,(Rc 1 rfl (OD hor rfl) res_nil),_,_,rfl,hT,_,_,_,rfl,hb,hl,hr⟩
def LMeld (mb:Option Nat) (k:Nat):Prop:=∀ (w:World) (M:Mem mb) (a b:Lft) (pa pb:Value),Sat M w→LRep 258 M a pa→LRep 258 M b pb→a.size+b.size<k→a.size+b.size≤1000000000→
  Dz 307 #[.agg #[pa],mval mb, .agg #[pb]] w (fun v w'=>∃ p M',v = .agg #[p]∧StepC Nope (a.meldC b) M w M' w'∧LRep 258 M' (a.meld b) p)
theorem l_meld_c {w:World} {M:Mem mb} {x y:El} {l r l2 r2:Lft} {p p2:Value} {k:Nat} (ih:LMeld mb k) (hs:Sat M w) (h:LRep 258 M (.node x l r) p) (h2:LRep 258 M (.node y l2 r2) p2) (hk:(Lft.node x l r).size+(Lft.node y l2 r2).size<k+1) (hz:(Lft.node x l r).size+(Lft.node y l2 r2).size≤1000000000):
  Dz 307 #[.agg #[p],mval mb, .agg #[p2]] w (fun v w'=>∃ p M',v = .agg #[p]∧StepC Nope ((Lft.node x l r).meldC (.node y l2 r2)) M w M' w'∧LRep 258 M' ((Lft.node x l r).meld (.node y l2 r2)) p):=by
 have hT:=hs.r
 obtain ⟨b,pl,pr,rfl,hb,hl,hr⟩:=h
 obtain ⟨b2,pl2,pr2,rfl,hb2,hl2,hr2⟩:=h2
 obtain ⟨ql,rfl⟩:=hl.ptr
 obtain ⟨qr,rfl⟩:=hr.ptr
 obtain ⟨ql2,rfl⟩:=hl2.ptr
 obtain ⟨qr2,rfl⟩:=hr2.ptr
 refine Fe Tryz.func307 [.cell 6 146] rfl<|Ri fun Z=>?_
 have:=hT.size
 refine Bo hs rfl fun bh w1 hs1 hoh eh=>?_
 have:=hs1.size
 have:=hoh.1.lt
 have hT:=hT.t hs1
 have:=hT.size
 refine Bo hs1.sat rfl fun bo w2 hs2 hoo eo=>?_
 have:=hs2.size
 have:=hoo.1.lt
 have hT:=hT.t hs2
 have:=hT.size
 refine Al (.agg #[(.pointer none)]) hs2.sat rfl fun br w3 hs3 hor er=>?_
 have:=hs3.size
 have:=hor.1.lt
 refine Nx Z<|cw_seq fun _ hK2=>cw_block<|Ri fun Z=>Qf 0 rfl ?_
 have hoh:=hoh.t hs2 |>.t hs3
 refine Q1 rfl (OC hoh rfl)<|Qq rfl (qn rfl)<|Na rfl Z<|cw_false rfl<|Ri fun Z=>Qf 0 rfl ?_
 have hoo:=hoo.t hs3
 refine Q1 rfl (OC hoo rfl)<|Qq rfl (qn rfl)<|Na rfl Z<|cw_false rfl<|cw_skip<|hK2 _ _<|cw_seq fun _ hK5=>Rv fun Z=>?_
 have hs4:=Step.drew hs3.sat
 have:=hs4.size
 refine Gm 0 1 rfl<|Gf 1 3 0 rfl ?_
 have hoo:=hoo.t hs4
 refine G1 2 7 rfl (OC hoo rfl)<|Gq 3 15 rfl (fun _=>q_nilp rfl)<|Gf 4 31 0 rfl<|Gc 5 63 2 rfl (BD hs4 hb2 rfl)<|Gf 6 127 0 rfl ?_
 have hoh:=hoh.t hs4
 refine G1 7 255 rfl (OC hoh rfl)<|Gq 8 511 rfl (fun _=>q_nilp rfl)<|Gf 9 1023 0 rfl<|Gc 10 2047 2 rfl (BD hs4 hb rfl)<|Gh 11 4095 rfl (Ks [T,F,T,F]) (h_call V rfl ?_)
 refine (m_less (a:=y) (b:=x) hs4.sat).mono ?_
 rintro _ w5 ⟨rfl,hs5⟩
 have:=hs5.size
 have hT:=hT.t hs3 |>.t hs4 |>.t hs5
 have hor:=hor.t hs4 |>.t hs5
 have hb:=hs5.le _ _ hb
 have hl:=hl.mono hs5.le
 have hr:=hr.mono hs5.le
 have hb2:=hs5.le _ _ hb2
 have hl2:=hl2.mono hs5.le
 have hr2:=hr2.mono hs5.le
 have hoh:=hoh.t hs5
 have hoo:=hoo.t hs5
 refine ⟨(by repeat' first | exact trivial | exact OC hoh rfl | exact OC hoo rfl | refine And.intro ?_ ?_),?_⟩
 refine Dx Z<|cw_cond rfl (fun hc2=>?_) (fun hc2=>?_)
 ·skip
  refine cw_region fun _ Z=>Qc 1 rfl (OD hoo rfl)<|Qc 1 rfl (OD hoh rfl)<|St hs5.sat hoh rfl fun w6 hs6 hoh=>?_
  have:=hs6.size
  have hoo:=hoo.u hs6
  refine St hs6.sat hoo rfl fun w7 hs7 hoo=>?_
  have:=hs7.size
  refine as_nil (Z _ _ ?_)
  refine hK5 _ _<|Rv fun Z=>?_
  have hs8:=Step.drew hs7.sat
  have:=hs8.size
  refine Gm 0 1 rfl<|Gf 1 3 0 rfl ?_
  have hoh:=hoh.u hs7 |>.t hs8
  refine G1 2 7 rfl (OC hoh rfl)<|Gq 3 15 rfl (fun _=>q_nilp rfl)<|Gf 4 31 0 rfl<|Gc 5 63 2 rfl (BD hs8 hb2 rfl)<|Gf 6 127 0 rfl<|G1 7 255 rfl (OC hoh rfl)<|Gq 8 511 rfl (fun _=>q_nilp rfl)<|Gf 9 1023 2 rfl<|Gc 10 2047 1 rfl (BD hs8 hb2 rfl)<|Gf 11 4095 0 rfl<|G1 12 8191 rfl (OC hoh rfl)<|Gq 13 16383 rfl (fun _=>q_nilp rfl)<|Gf 14 32767 3 rfl<|Gc 15 65535 1 rfl (BD hs8 hb2 rfl)<|Gm 16 131071 rfl ?_
  have hoo:=hoo.t hs8
  refine Gc 17 262143 1 rfl (OD hoo rfl)<|Gh 18 524287 rfl (Ks [T,T,F,F,F,F,F]) (h_call V rfl ?_)
  refine (ih _ _ _ _ _ _ hs8.sat hr2 (show LRep _ _ (.node x l r) _ from ⟨_,_,_,rfl,hb,hl,hr⟩) (by simp only [Lft.size] at hk ⊢; omega) (by simp only [Lft.size] at hz ⊢; omega)).mono ?_
  rintro _ w9 ⟨pm,Mm,rfl,hs9,hm⟩
  obtain ⟨qm,rfl⟩:=hm.ptr
  have:=hs9.size
  have hor:=hor.u hs6 |>.u hs7 |>.t hs8 |>.t hs9
  have hT:=hT.o hs6 |>.o hs7 |>.t hs8 |>.t hs9
  have hb:=hs9.le _ _ hb
  have hl:=hl.mono hs9.le
  have hr:=hr.mono hs9.le
  have hb2:=hs9.le _ _ hb2
  have hl2:=hl2.mono hs9.le
  have hr2:=hr2.mono hs9.le
  have hoh:=hoh.t hs9
  have hoo:=hoo.t hs9
  refine ⟨(by repeat' first | exact trivial | exact BD hs9 hb2 rfl | exact OC hoh rfl | refine And.intro ?_ ?_),?_⟩
  refine Gh 19 1048575 rfl (Ks [F,T,F,T,F]) (h_call V rfl ?_)
  refine (l_made (x:=y) hs9.sat hl2 hm (by rw [Lft.meld_size]; simp only [Lft.size] at hz ⊢; omega)).mono ?_
  rintro _ w10 ⟨pn,Mn,rfl,hs10,hn⟩
  obtain ⟨qn,rfl⟩:=hn.ptr
  have:=hs10.size
  have hb:=hs10.le _ _ hb
  have hl:=hl.mono hs10.le
  have hr:=hr.mono hs10.le
  have hb2:=hs10.le _ _ hb2
  have hl2:=hl2.mono hs10.le
  have hr2:=hr2.mono hs10.le
  have hoh:=hoh.t hs10
  have hoo:=hoo.t hs10
  have hor:=hor.t hs10
  have hm:=hm.mono hs10.le
  have hT:=hT.t hs10
  refine ⟨(by repeat' first | exact trivial | exact OC hoh rfl | refine And.intro ?_ ?_),?_⟩
  refine G0 20 2097151 rfl (Ks [T,T,T]) (h_store hs10.sat hor rfl rfl rfl V rfl rfl rfl fun w11 hs11 hn11=>?_)
  clear hor; have hor:=hn11; clear hn11
  have:=hs11.size
  refine ⟨trivial,?_⟩
  refine Dx Z<|cw_ret ?_
  have hT:=hT.o hs11
  exact ⟨_,(Rc 1 rfl (OD hor rfl) res_nil),_,_,rfl,hT.to (by rw [Lft.meldC,if_pos hc2]; omega),by rw [Lft.meld,if_pos hc2]; exact hn⟩
 ·skip
  refine cw_skip<|hK5 _ _<|Rv fun Z=>?_
  have hs12:=Step.drew hs5.sat
  have:=hs12.size
  refine Gm 0 1 rfl<|Gf 1 3 0 rfl ?_
  have hoh:=hoh.t hs12
  refine G1 2 7 rfl (OC hoh rfl)<|Gq 3 15 rfl (fun _=>q_nilp rfl)<|Gf 4 31 0 rfl<|Gc 5 63 2 rfl (BD hs12 hb rfl)<|Gf 6 127 0 rfl<|G1 7 255 rfl (OC hoh rfl)<|Gq 8 511 rfl (fun _=>q_nilp rfl)<|Gf 9 1023 2 rfl<|Gc 10 2047 1 rfl (BD hs12 hb rfl)<|Gf 11 4095 0 rfl<|G1 12 8191 rfl (OC hoh rfl)<|Gq 13 16383 rfl (fun _=>q_nilp rfl)<|Gf 14 32767 3 rfl<|Gc 15 65535 1 rfl (BD hs12 hb rfl)<|Gm 16 131071 rfl ?_
  have hoo:=hoo.t hs12
  refine Gc 17 262143 1 rfl (OD hoo rfl)<|Gh 18 524287 rfl (Ks [T,T,F,F,F,F,F]) (h_call V rfl ?_)
  refine (ih _ _ _ _ _ _ hs12.sat hr (show LRep _ _ (.node y l2 r2) _ from ⟨_,_,_,rfl,hb2,hl2,hr2⟩) (by simp only [Lft.size] at hk ⊢; omega) (by simp only [Lft.size] at hz ⊢; omega)).mono ?_
  rintro _ w13 ⟨pm,Mm,rfl,hs13,hm⟩
  obtain ⟨qm,rfl⟩:=hm.ptr
  have:=hs13.size
  have hor:=hor.t hs12 |>.t hs13
  have hT:=hT.t hs12 |>.t hs13
  have hb:=hs13.le _ _ hb
  have hl:=hl.mono hs13.le
  have hoh:=hoh.t hs13
  refine ⟨(by repeat' first | exact trivial | exact BD hs13 hb rfl | exact OC hoh rfl | refine And.intro ?_ ?_),?_⟩
  refine Gh 19 1048575 rfl (Ks [F,T,F,T,F]) (h_call V rfl ?_)
  refine (l_made (x:=x) hs13.sat hl hm (by rw [Lft.meld_size]; simp only [Lft.size] at hz ⊢; omega)).mono ?_
  rintro _ w14 ⟨pn,Mn,rfl,hs14,hn⟩
  obtain ⟨qn,rfl⟩:=hn.ptr
  have:=hs14.size
  have hoh:=hoh.t hs14
  have hor:=hor.t hs14
  have hT:=hT.t hs14
  refine ⟨(by repeat' first | exact trivial | exact OC hoh rfl | refine And.intro ?_ ?_),?_⟩
  refine G0 20 2097151 rfl (Ks [T,T,T]) (h_store hs14.sat hor rfl rfl rfl V rfl rfl rfl fun w15 hs15 hn15=>?_)
  clear hor; have hor:=hn15; clear hn15
  have:=hs15.size
  refine ⟨trivial,?_⟩
  refine Dx Z<|cw_ret ?_
  have hT:=hT.o hs15
  exact ⟨_,(Rc 1 rfl (OD hor rfl) res_nil),_,_,rfl,hT.to (by rw [Lft.meldC,if_neg (by rw [hc2]; decide)]; omega),by rw [Lft.meld,if_neg (by rw [hc2]; decide)]; exact hn⟩
theorem l_meld_all:∀ k,LMeld mb k
 | 0=>fun _ _ _ _ _ _ _ _ _ h _=>absurd h (Nat.not_lt_zero _)
 | k+1=>fun w M a b pa pb hs ha hb hk hz=>by
  cases a with
  | nil=>cases ha; rw [show Lft.nil.meld b=b by rw [Lft.meld],show Lft.nil.meldC b=0 by rw [Lft.meldC]]; exact l_meld_a hs hb
  | node x l r=>
   cases b with
   | nil=>cases hb; rw [show (Lft.node x l r).meld .nil = .node x l r by rw [Lft.meld],show (Lft.node x l r).meldC .nil=0 by rw [Lft.meldC]]; exact l_meld_b hs ha
   | node y l2 r2=>exact l_meld_c (l_meld_all k) hs ha hb hk hz
theorem l_meld {a b:Lft} {pa pb:Value} (hs:Sat M w) (ha:LRep 258 M a pa) (hb:LRep 258 M b pb) (hz:a.size+b.size≤1000000000):
  Dz 307 #[.agg #[pa],mval mb, .agg #[pb]] w (fun v w'=>∃ p M',v = .agg #[p]∧StepC Nope (a.meldC b) M w M' w'∧LRep 258 M' (a.meld b) p):=l_meld_all _ _ _ _ _ _ _ hs ha hb (Nat.lt_succ_self _) hz
theorem l_insert {x:El} {t:Lft} {p:Value} (hs:Sat M w) (h:LRep 258 M t p) (hz:t.size<1000000000):
  Dz 306 #[.agg #[p],mval mb, .agg (elc x).toArray] w (fun v w'=>∃ p M',v = .agg #[p]∧StepC Nope (t.insertC x) M w M' w'∧LRep 258 M' (t.insert x) p):=by
 have hT:=hs.r
 obtain ⟨q,rfl⟩:=h.ptr
 refine Fe Tryz.func306 [.cell 6 146] rfl<|Ri fun Z=>Bm hs rfl fun b1 M1 w1 hs1 hb1 e1=>?_
 have:=hs1.size
 refine Bm hs1.sat rfl fun b2 M2 w2 hs2 hb2 e2=>?_
 have:=hs2.size
 have hT:=hT.t hs1 |>.t hs2
 have:=hT.size
 refine Al (.agg #[(.pointer none)]) hs2.sat rfl fun br w3 hs3 hor er=>?_
 have:=hs3.size
 have:=hor.1.lt
 refine Nx Z<|Rv fun Z=>?_
 have hs4:=Step.drew hs3.sat
 have:=hs4.size
 refine Gm 0 1 rfl<|Gc 1 3 2 rfl (BD hs4 hb2 rfl)<|Gq 2 7 rfl (fun _=>(q_build (zs:=[(.pointer none)]) (places:=[(0,1)]) (cs:=[_]) V V rfl rfl))<|Gq 3 15 rfl (fun _=>(q_build (zs:=[(.pointer none)]) (places:=[(0,1)]) (cs:=[_]) V V rfl rfl))<|Gm 5 47 rfl ?_
 have hb1:=hs2.le _ _ hb1
 refine Gc 6 111 1 rfl (BD hs4 hb1 rfl)<|Gh 4 127 rfl (Ks [F,T]) (h_call V rfl ?_)
 refine (l_made (x:=x) (a:= .nil) (b:= .nil) hs4.sat rfl rfl (by decide)).mono ?_
 rintro _ w5 ⟨pn,Mn,rfl,hs5,hn⟩
 obtain ⟨qn,rfl⟩:=hn.ptr
 have:=hs5.size
 have h:=h.mono hs1.le |>.mono hs2.le |>.mono hs5.le
 have hT:=hT.t hs3 |>.t hs4 |>.t hs5
 have hor:=hor.t hs4 |>.t hs5
 have hb1:=hs5.le _ _ hb1
 refine ⟨(by repeat' first | exact trivial | exact BD hs5 hb1 rfl | refine And.intro ?_ ?_),?_⟩
 refine Gh 7 255 rfl (Ks [T]) (h_call V rfl ?_)
 refine (l_meld hs5.sat hn h (by rw [Lft.mk_size]; simp only [Lft.size]; omega)).mono ?_
 rintro _ w6 ⟨pm,Mm,rfl,hs6,hm⟩
 obtain ⟨qm,rfl⟩:=hm.ptr
 have:=hs6.size
 refine ⟨trivial,?_⟩
 have hor:=hor.t hs6
 refine G0 8 511 rfl rfl (h_store hs6.sat hor rfl rfl rfl V rfl rfl rfl fun w7 hs7 hn7=>?_)
 clear hor; have hor:=hn7; clear hn7
 have:=hs7.size
 refine ⟨trivial,?_⟩
 refine Dx Z<|cw_ret ?_
 have hT:=hT.t hs6 |>.o hs7
 exact ⟨_,(Rc 1 rfl (OD hor rfl) res_nil),_,_,rfl,hT.to (by unfold Lft.insertC; omega),hm⟩
theorem l_min {x:El} {l r:Lft} {p:Value} (hs:Sat M w) (h:LRep 258 M (.node x l r) p):
  Dz 308 #[.agg #[p],mval mb] w (fun v w'=>v = .tuple #[.agg (elc x).toArray, .bool true]∧Step Nope M w M w'):=by
 have hT:=hs.r
 obtain ⟨b,pl,pr,rfl,hb,hl,hr⟩:=h
 refine Fe Tryz.func308 [.cell 4 29, .tmp 5] rfl<|Ri fun Z=>Bm hs rfl fun b1 M1 w1 hs1 hb1 e1=>?_
 have:=hs1.size
 have hT:=hT.t hs1
 have:=hT.size
 refine Al (.agg #[(.int .i64 0),(.int .i64 0)]) hs1.sat rfl fun br w2 hs2 hor er=>?_
 have:=hs2.size
 have:=hor.1.lt
 refine Na rfl Z<|cw_seq fun _ hK2=>Ri fun Z=>Qf 0 rfl<|Q1 rfl (BC hs2 hb1 rfl)<|Qq rfl (qn rfl)<|Nx Z<|cw_false rfl<|cw_skip<|hK2 _ _<|Ri fun Z=>Qf 0 rfl<|Q1 rfl (BC hs2 hb1 rfl)<|Qq rfl (q_nilp rfl)<|Qf 0 rfl ?_
 have hb:=hs1.le _ _ hb
 refine Qc 2 rfl (BD hs2 hb rfl)<|St hs2.sat hor rfl fun w3 hs3 hor=>?_
 have:=hs3.size
 refine Na rfl Z<|cw_ret ?_
 have hT:=hT.t hs2 |>.o hs3
 exact ⟨_,(Rc 2 rfl (OD hor rfl) (Rt rfl)),rfl,hT.forget⟩
theorem l_pop {x:El} {l r:Lft} {p:Value} (hs:Sat M w) (h:LRep 258 M (.node x l r) p) (hz:(Lft.node x l r).size≤1000000000):
  Dz 309 #[.agg #[p],mval mb] w (fun v w'=>∃ p M',v = .tuple #[.agg #[p], .bool true]∧StepC Nope (l.meldC r) M w M' w'∧LRep 258 M' (l.meld r) p):=by
 have hT:=hs.r
 obtain ⟨b,pl,pr,rfl,hb,hl,hr⟩:=h
 obtain ⟨ql,rfl⟩:=hl.ptr
 obtain ⟨qr,rfl⟩:=hr.ptr
 refine Fe Tryz.func309 [.cell 4 146, .tmp 5] rfl<|Ri fun Z=>Bm hs rfl fun b1 M1 w1 hs1 hb1 e1=>?_
 have:=hs1.size
 have hT:=hT.t hs1
 have:=hT.size
 refine Al (.agg #[(.pointer none)]) hs1.sat rfl fun br w2 hs2 hor er=>?_
 have:=hs2.size
 have:=hor.1.lt
 refine Na rfl Z<|cw_seq fun _ hK2=>Ri fun Z=>Qf 0 rfl<|Q1 rfl (BC hs2 hb1 rfl)<|Qq rfl (qn rfl)<|Nx Z<|cw_false rfl<|cw_skip<|hK2 _ _<|Rv fun Z=>?_
 have hs3:=Step.drew hs2.sat
 have:=hs3.size
 refine Gf 0 1 0 rfl<|G1 1 3 rfl (BC hs3 hb1 rfl)<|Gq 2 7 rfl (fun _=>q_nilp rfl)<|Gf 3 15 2 rfl ?_
 have hb:=hs1.le _ _ hb
 refine Gc 4 31 1 rfl (BD hs3 hb rfl)<|Gm 5 63 rfl<|Gf 6 127 0 rfl<|G1 7 255 rfl (BC hs3 hb1 rfl)<|Gq 8 511 rfl (fun _=>q_nilp rfl)<|Gf 9 1023 3 rfl<|Gc 10 2047 1 rfl (BD hs3 hb rfl)<|Gh 11 4095 rfl (Ks [T,F,T,F]) (h_call V rfl ?_)
 have hl:=hl.mono hs1.le
 have hr:=hr.mono hs1.le
 refine (l_meld hs3.sat hl hr (by simp only [Lft.size] at hz; omega)).mono ?_
 rintro _ w4 ⟨pm,Mm,rfl,hs4,hm⟩
 obtain ⟨qm,rfl⟩:=hm.ptr
 have:=hs4.size
 have hT:=hT.t hs2 |>.t hs3 |>.t hs4
 have hor:=hor.t hs3 |>.t hs4
 have hb1:=hs4.le _ _ hb1
 refine ⟨(by repeat' first | exact trivial | exact BC hs4 hb1 rfl | refine And.intro ?_ ?_),?_⟩
 refine G0 12 8191 rfl (Ks [T,T]) (h_store hs4.sat hor rfl rfl rfl V rfl rfl rfl fun w5 hs5 hn5=>?_)
 clear hor; have hor:=hn5; clear hn5
 have:=hs5.size
 refine ⟨trivial,?_⟩
 refine Ga 13 16383 rfl<|Dx Z<|cw_ret ?_
 have hT:=hT.o hs5
 exact ⟨_,(Rc 1 rfl (OD hor rfl) (Rt rfl)),_,_,rfl,hT.to O,hm⟩
end Go.Proofs.YtnnldppehojffaaGreat
/- Lists of heaps, part 1. -/
namespace Go.Proofs.YtnnldppehojffaaGreat
open Go Go.Eng
variable {mb:Option Nat} {w:World} {M:Mem mb}
theorem cp_len_n (hs:Sat M w):
  Dz 201 #[.agg #[.pointer none]] w (fun v w'=>v = .int .i64 0∧Step Nope M w M w'):=by
 have hT:=hs.r
 refine Fe Tryz.func201 [.tmp 2] rfl<|Ri fun Z=>Bm hs rfl fun b1 M1 w1 hs1 hb1 e1=>Na rfl Z<|cw_seq fun _ hK2=>Ri fun Z=>Qf 0 rfl<|Q1 rfl (BC hs1 hb1 rfl)<|Qq rfl (qn rfl)<|Nx Z<|cw_true rfl<|Ri fun Z=>Na rfl Z<|cw_ret ?_
 have hT:=hT.t hs1
 exact ⟨_,Rt rfl,rfl,hT.forget⟩
theorem cp_len_c {x:Option Addr} {r:List (Option Addr)} {p:Value} (hs:Sat M w) (h:CRep 314 M (x::r) p):
  Dz 201 #[.agg #[p]] w (fun v w'=>v = .int .i64 ((r.length:Int)+1)∧Step Nope M w M w'):=by
 have hT:=hs.r
 obtain ⟨b,q,rfl,hb,hc⟩:=h
 refine Fe Tryz.func201 [.tmp 2] rfl<|Ri fun Z=>Bm hs rfl fun b1 M1 w1 hs1 hb1 e1=>Na rfl Z<|cw_seq fun _ hK2=>Ri fun Z=>Qf 0 rfl<|Q1 rfl (BC hs1 hb1 rfl)<|Qq rfl (qn rfl)<|Nx Z<|cw_false rfl<|cw_skip<|hK2 _ _<|Ri fun Z=>Qf 0 rfl<|Q1 rfl (BC hs1 hb1 rfl)<|Qq rfl (q_nilp rfl)<|Qf 2 rfl ?_
 have hb:=hs1.le _ _ hb
 refine Q1 rfl (BC hs1 hb rfl)<|Na rfl Z<|cw_ret ?_
 have hT:=hT.t hs1
 exact ⟨_,Rt rfl,rfl,hT.forget⟩
theorem cp_len {vs:List (Option Addr)} {p:Value} (hs:Sat M w) (h:CRep 314 M vs p):Dz 201 #[.agg #[p]] w (fun v w'=>v = .int .i64 (vs.length:Nat)∧Step Nope M w M w'):=by
 cases vs with
 | nil=>cases h; exact cp_len_n hs
 | cons x r=>exact (cp_len_c hs h).mono fun v w' ⟨h1,h2⟩=>⟨by rw [h1]; simp,h2⟩
theorem cp_first_n (hs:Sat M w):
  Dz 202 #[.agg #[.pointer none]] w (fun v w'=>v = .tuple #[(Value.agg #[.pointer none]), .bool false]∧Step Nope M w M w'):=by
 have hT:=hs.r
 refine Fe Tryz.func202 [.cell 2 158, .tmp 3] rfl<|Ri fun Z=>Bm hs rfl fun b1 M1 w1 hs1 hb1 e1=>?_
 have:=hs1.size
 have hT:=hT.t hs1
 have:=hT.size
 refine Al (.agg #[(.pointer none)]) hs1.sat rfl fun br w2 hs2 hor er=>?_
 have:=hs2.size
 have:=hor.1.lt
 refine Na rfl Z<|cw_seq fun _ hK2=>Ri fun Z=>Qf 0 rfl<|Q1 rfl (BC hs2 hb1 rfl)<|Qq rfl (qn rfl)<|Nx Z<|cw_true rfl<|Ri fun Z=>?_
 have hT:=hT.t hs2
 have:=hT.size
 refine Al (.agg #[(.pointer none)]) hs2.sat rfl fun bz w3 hs3 hoz ez=>?_
 have:=hs3.size
 have:=hoz.1.lt
 refine Nr Z fun Z=>Qc 1 rfl (OD hoz rfl) ?_
 have hor:=hor.t hs3
 refine St hs3.sat hor rfl fun w4 hs4 hor=>?_
 have:=hs4.size
 refine Na rfl Z<|cw_ret ?_
 have hT:=hT.t hs3 |>.o hs4
 exact ⟨_,(Rc 1 rfl (OD hor rfl) (Rt rfl)),rfl,hT.forget⟩
theorem cp_first {x:Option Addr} {r:List (Option Addr)} {p:Value} (hs:Sat M w) (h:CRep 314 M (x::r) p):
  Dz 202 #[.agg #[p]] w (fun v w'=>v = .tuple #[(Value.agg #[.pointer x]), .bool true]∧Step Nope M w M w'):=by
 have hT:=hs.r
 obtain ⟨b,q,rfl,hb,hc⟩:=h
 refine Fe Tryz.func202 [.cell 2 158, .tmp 3] rfl<|Ri fun Z=>Bm hs rfl fun b1 M1 w1 hs1 hb1 e1=>?_
 have:=hs1.size
 have hT:=hT.t hs1
 have:=hT.size
 refine Al (.agg #[(.pointer none)]) hs1.sat rfl fun br w2 hs2 hor er=>?_
 have:=hs2.size
 have:=hor.1.lt
 refine Na rfl Z<|cw_seq fun _ hK2=>Ri fun Z=>Qf 0 rfl<|Q1 rfl (BC hs2 hb1 rfl)<|Qq rfl (qn rfl)<|Nx Z<|cw_false rfl<|cw_skip<|hK2 _ _<|Ri fun Z=>Qf 0 rfl<|Q1 rfl (BC hs2 hb1 rfl)<|Qq rfl (q_nilp rfl)<|Qf 0 rfl ?_
 have hb:=hs1.le _ _ hb
 refine Qc 1 rfl (BD hs2 hb rfl)<|St hs2.sat hor rfl fun w3 hs3 hor=>?_
 have:=hs3.size
 refine Na rfl Z<|cw_ret ?_
 have hT:=hT.t hs2 |>.o hs3
 exact ⟨_,(Rc 1 rfl (OD hor rfl) (Rt rfl)),rfl,hT.forget⟩
theorem cp_rest {x:Option Addr} {r:List (Option Addr)} {p:Value} (hs:Sat M w) (h:CRep 314 M (x::r) p):
  Dz 203 #[.agg #[p]] w (fun v w'=>∃ q,v = .agg #[.pointer q]∧Step Nope M w M w'∧CRep 314 M r (.pointer q)):=by
 have hT:=hs.r
 obtain ⟨b,q,rfl,hb,hc⟩:=h
 have hc0:=hc
 refine Fe Tryz.func203 [.cell 2 305] rfl<|Ri fun Z=>Bm hs rfl fun b1 M1 w1 hs1 hb1 e1=>?_
 have:=hs1.size
 have hT:=hT.t hs1
 have:=hT.size
 refine Al (.agg #[(.pointer none)]) hs1.sat rfl fun br w2 hs2 hor er=>?_
 have:=hs2.size
 have:=hor.1.lt
 refine Nx Z<|cw_seq fun _ hK2=>Ri fun Z=>Qf 0 rfl<|Q1 rfl (BC hs2 hb1 rfl)<|Qq rfl (qn rfl)<|Nx Z<|cw_false rfl<|cw_skip<|hK2 _ _<|Ri fun Z=>Qf 0 rfl<|Q1 rfl (BC hs2 hb1 rfl)<|Qq rfl (q_nilp rfl)<|Qf 1 rfl ?_
 have hb:=hs1.le _ _ hb
 refine Q1 rfl (BC hs2 hb rfl)<|Qq rfl (q_build (zs:=[(.pointer none)]) (places:=[(0,1)]) (cs:=[_]) V V rfl rfl)<|St hs2.sat hor rfl fun w3 hs3 hor=>?_
 have:=hs3.size
 refine Nx Z<|cw_ret ?_
 have hT:=hT.t hs2 |>.o hs3
 exact ⟨_,(Rc 1 rfl (OD hor rfl) res_nil),q,rfl,hT.forget,hc0⟩
theorem cp_push {x:Option Addr} {vs:List (Option Addr)} {p:Value} (hs:Sat M w) (h:CRep 314 M vs p) (hz:vs.length≤1000000000):
  Dz 199 #[.agg #[p],(Value.agg #[.pointer x])] w (fun v w'=>∃ q M',v = .agg #[.pointer q]∧Step Nope M w M' w'∧CRep 314 M' (x::vs) (.pointer q)):=by
 have hT:=hs.r
 obtain ⟨q,rfl⟩:=h.ptr
 refine Fe Tryz.func199 [.cell 4 305] rfl<|Ri fun Z=>Bm hs rfl fun b1 M1 w1 hs1 hb1 e1=>?_
 have:=hs1.size
 refine Bm hs1.sat rfl fun b2 M2 w2 hs2 hb2 e2=>?_
 have:=hs2.size
 have hT:=hT.t hs1 |>.t hs2
 have:=hT.size
 refine Al (.agg #[(.pointer none)]) hs2.sat rfl fun br w3 hs3 hor er=>?_
 have:=hs3.size
 have:=hor.1.lt
 refine Nx Z<|Rv fun Z=>?_
 have hs4:=Step.drew hs3.sat
 have:=hs4.size
 refine Gc 0 1 1 rfl (BD hs4 hb2 rfl)<|Gf 1 3 0 rfl ?_
 have hb1:=hs2.le _ _ hb1
 refine G1 2 7 rfl (BC hs4 hb1 rfl)<|Gc 3 15 1 rfl (BD hs4 hb1 rfl)<|Gh 4 31 rfl (Ks [T,F,F]) (h_call V rfl ?_)
 have h:=h.mono hs1.le |>.mono hs2.le
 refine (cp_len hs4.sat h).mono ?_
 rintro _ w5 ⟨rfl,hs5⟩
 have:=hs5.size
 have hT:=hT.t hs3 |>.t hs4 |>.t hs5
 have hor:=hor.t hs4 |>.t hs5
 refine ⟨(by repeat' first | exact trivial | exact BC hs5 hb1 rfl | exact BD hs5 hb2 rfl | refine And.intro ?_ ?_),?_⟩
 refine Gq 5 63 rfl (fun _=>qA rfl)<|Gq 6 127 rfl (fun _=>(q_build (zs:=[(.pointer none),(.pointer none),(.int .i64 0)]) (places:=[(0,1),(1,1),(2,1)]) (cs:=[_,_,_]) V V rfl rfl))<|Gh 7 255 rfl (Ks [F,F]) (h_boxM hs5.sat rfl rfl fun b6 M6 w6 hs6 hb6 e6=>?_)
 have:=hs6.size
 have h:=h.mono hs6.le
 have hb1:=hs6.le _ _ hb1
 have hb2:=hs6.le _ _ hb2
 have hor:=hor.t hs6
 have hT:=hT.t hs6
 refine ⟨(by repeat' first | exact trivial | exact BC hs6 hb1 rfl | exact BD hs6 hb2 rfl | refine And.intro ?_ ?_),?_⟩
 refine Gq 8 511 rfl (fun _=>(q_build (zs:=[(.pointer none)]) (places:=[(0,1)]) (cs:=[_]) V V rfl rfl))<|G0 9 1023 rfl (Ks [T,T]) (h_store hs6.sat hor rfl rfl rfl V rfl rfl rfl fun w7 hs7 hn7=>?_)
 clear hor; have hor:=hn7; clear hn7
 have:=hs7.size
 refine ⟨trivial,?_⟩
 refine Dx Z<|cw_ret ?_
 have hT:=hT.o hs7
 exact ⟨_,(Rc 1 rfl (OD hor rfl) res_nil),_,_,rfl,hT,_,_,rfl,hb6,h⟩
theorem cp_drop {vs:List (Option Addr)} {q:Option Addr} {n:Nat} (hs:Sat M w) (h:CRep 314 M vs (.pointer q)) (hn:n≤1000000000):
  Dz 204 #[.agg #[.pointer q], .int .i64 n] w (fun v w'=>∃ q,v = .agg #[.pointer q]∧Step Nope M w M w'∧CRep 314 M (vs.drop n) (.pointer q)):=by
 have hT:=hs.r
 have hzn:(0:Int)≤n:=Int.natCast_nonneg n
 refine Fe Tryz.func204 [.cell 4 305] rfl<|Ri fun Z=>?_
 have:=hT.size
 refine Bo hs rfl fun bl w1 hs1 hol el=>?_
 have:=hs1.size
 have:=hol.1.lt
 have hT:=hT.t hs1
 have:=hT.size
 refine Al (.agg #[(.pointer none)]) hs1.sat rfl fun br w2 hs2 hor er=>?_
 have:=hs2.size
 have:=hor.1.lt
 refine Nx Z<|cw_seq fun _ hK2=>cw_block ?_
 have hol:=hol.t hs2
 have hT:=hT.t hs2
 refine cw_loop (fun mm l w1=>∃ (i:Nat) (z:Int) (rest:List (Option Addr)) (p1:Option Addr),mm=rest.length∧z=n-i∧0≤z∧vs.drop i=rest∧CRep 314 M rest (.pointer p1)∧l=[(2, .pointer (some ⟨bl,0,none⟩)),(4, .pointer (some ⟨br,0,none⟩)),(1, .int .i64 z)]∧Step Nope M w M w1∧Own w1 M bl [.pointer p1] 305∧Own w1 M br [.pointer none] 305) (vs.length) [(2, .pointer (some ⟨bl,0,none⟩)),(4, .pointer (some ⟨br,0,none⟩)),(1, .int .i64 (n:Int))] (.cons rfl (.cons rfl (.cons rfl (.nil _)))) ?_ ?_
 ·exact ⟨0,n,vs,q,rfl,by simp,by omega,rfl,h,rfl,hT,hol,hor⟩
 have hblw:w.heap.size≤bl:=by omega
 have hbrw:w.heap.size≤br∧bl≠br:=by omega
 clear hT hol hor
 rintro mm l w1 ⟨i,z,rest,p1,rfl,hz,hz0,hdr,hc,rfl,hT,hol,hor⟩
 refine cw_seq fun _ hK3=>?_
 have hcs:(z=0)∨(0<z∧p1=none)∨(0<z∧∃ a,p1=some a):=by
  rcases p1 with _ | a
  ·rcases Int.lt_or_le 0 z with h | h
   ·exact .inr (.inl ⟨h,rfl⟩)
   ·left; omega
  ·rcases Int.lt_or_le 0 z with h | h
   ·exact .inr (.inr ⟨h,a,rfl⟩)
   ·left; omega
 rcases hcs with h0 | ⟨h0,rfl⟩ | ⟨h0,a,rfl⟩
 ·refine Ri fun Z=>Qm rfl<|Qq rfl (qGF rfl)<|Qm rfl<|as_gskip rfl rfl rfl rfl rfl<|as_gskip rfl rfl rfl rfl rfl<|as_gskip rfl rfl rfl rfl rfl<|Qq rfl (q_pick_f rfl rfl)<|Nx Z<|cw_false rfl<|cw_exit<|hK2 _ _<|Ri fun Z=>Qc 1 rfl (OD hol rfl)<|St hT.sat hor rfl fun w3 hs3 hor=>?_
  have:=hs3.size
  refine Nx Z<|cw_ret ?_
  have e:vs.drop n=rest:=by rw [← hdr]; congr 1; omega
  have hT:=hT.o hs3
  exact ⟨_,(Rc 1 rfl (OD hor rfl) res_nil),_,rfl,hT,by rw [e]; exact hc⟩
 ·refine Ri fun Z=>Qm rfl<|Qq rfl (qGT rfl)<|Qm rfl<|as_gh rfl rfl rfl rfl (h_q rfl (q_fieldAddr (off:=0) V rfl) ?_)
  refine as_gh rfl rfl rfl rfl (h_q rfl (q_load1 V rfl (OC hol rfl)) ?_)
  refine as_gh rfl rfl rfl rfl (h_q rfl (q_nenil V rfl) ?_)
  refine Qq rfl (q_pick_t rfl rfl)<|Nx Z<|cw_false rfl<|cw_exit<|hK2 _ _<|Ri fun Z=>Qc 1 rfl (OD hol rfl)<|St hT.sat hor rfl fun w4 hs4 hor=>?_
  have:=hs4.size
  refine Nx Z<|cw_ret ?_
  have hol:=hol.u hs4
  have hT:=hT.o hs4
  have e:vs.drop n=rest:=by
   have h2:rest=[]:=by
    rcases rest with _ | ⟨x,rest⟩
    ·rfl
    ·obtain ⟨_,_,h,_⟩:=hc; cases h
   subst h2
   refine List.drop_eq_nil_of_le ?_
   have:=List.drop_eq_nil_iff.1 hdr
   omega
  exact ⟨_,(Rc 1 rfl (OD hor rfl) res_nil),_,rfl,hT,by rw [e]; exact hc⟩
 ·refine Ri fun Z=>Qm rfl<|Qq rfl (qGT rfl)<|Qm rfl<|as_gh rfl rfl rfl rfl (h_q rfl (q_fieldAddr (off:=0) V rfl) ?_)
  refine as_gh rfl rfl rfl rfl (h_q rfl (q_load1 V rfl (OC hol rfl)) ?_)
  refine as_gh rfl rfl rfl rfl (h_q rfl (q_nenil V rfl) ?_)
  refine Qq rfl (q_pick_t rfl rfl)<|Nx Z<|cw_true rfl<|cw_skip<|hK3 _ _<|cw_seq fun _ hK9=>cw_block<|cw_region fun _ Z=>Qc 1 rfl (OD hol rfl)<|Ca rfl ?_
  rcases rest with _ | ⟨x,rest⟩
  ·have h:Value.pointer (some a) = .pointer none:=hc
   cases h
  refine (cp_rest hT.sat hc).mono ?_
  rintro _ w5 ⟨q,rfl,hs5,hc⟩
  have:=hs5.size
  have hol:=hol.t hs5
  refine St hs5.sat hol rfl fun w6 hs6 hol=>?_
  have:=hs6.size
  refine as_nil (Z _ _ ?_)
  refine hK9 _ _<|cw_region fun _ Z=>Qm rfl<|Qq rfl (qS rfl)<|Qa rfl<|as_nil (Z _ _ ?_)
  have hor:=hor.t hs5 |>.u hs6
  have hT:=hT.t hs5 |>.o hs6
  refine ⟨_,_,?_,(.cons rfl (.cons rfl (.cons rfl (.nil _)))),i+1,_,rest,q,rfl,by omega,by omega,by rw [← List.drop_drop,hdr]; rfl,hc,rfl,hT,hol,hor⟩
  simp
end Go.Proofs.YtnnldppehojffaaGreat
/- Pairing heaps, part 1. -/
namespace Go.Proofs.YtnnldppehojffaaGreat
open Go Go.Eng
variable {mb:Option Nat} {w:World} {M:Mem mb}
theorem p_size_n (hs:Sat M w):
  Dz 198 #[.agg #[.pointer none]] w (fun v w'=>v = .int .i64 (Pr.nil.size:Nat)∧Step Nope M w M w'):=by
 have hT:=hs.r
 refine Fe Tryz.func198 [.tmp 2] rfl<|Ri fun Z=>Bm hs rfl fun b1 M1 w1 hs1 hb1 e1=>Na rfl Z<|cw_seq fun _ hK2=>Ri fun Z=>Qf 0 rfl<|Q1 rfl (BC hs1 hb1 rfl)<|Qq rfl (qn rfl)<|Nx Z<|cw_true rfl<|Ri fun Z=>Na rfl Z<|cw_ret ?_
 have hT:=hT.t hs1
 exact ⟨_,Rt rfl,rfl,hT.forget⟩
theorem p_size_c {x:El} {ks:List Pr} {q:Option Addr} (hs:Sat M w) (h:PRep 307 314 M (.node x ks) q):
  Dz 198 #[.agg #[.pointer q]] w (fun v w'=>v = .int .i64 ((Pr.node x ks).size:Nat)∧Step Nope M w M w'):=by
 have hT:=hs.r
 obtain ⟨b,kq,al,rfl,hb,hc,hk⟩:=prep_node.1 h
 refine Fe Tryz.func198 [.tmp 2] rfl<|Ri fun Z=>Bm hs rfl fun b1 M1 w1 hs1 hb1 e1=>Na rfl Z<|cw_seq fun _ hK2=>Ri fun Z=>Qf 0 rfl<|Q1 rfl (BC hs1 hb1 rfl)<|Qq rfl (qn rfl)<|Nx Z<|cw_false rfl<|cw_skip<|hK2 _ _<|Ri fun Z=>Qf 0 rfl<|Q1 rfl (BC hs1 hb1 rfl)<|Qq rfl (q_nilp rfl)<|Qf 3 rfl ?_
 have hb:=hs1.le _ _ hb
 refine Q1 rfl (BC hs1 hb rfl)<|Na rfl Z<|cw_ret ?_
 have hT:=hT.t hs1
 exact ⟨_,Rt rfl,by rw [Pr.size]; rfl,hT.forget⟩
theorem p_size {t:Pr} {q:Option Addr} (hs:Sat M w) (h:PRep 307 314 M t q):Dz 198 #[.agg #[.pointer q]] w (fun v w'=>v = .int .i64 (t.size:Nat)∧Step Nope M w M w'):=by
 cases t with
 | nil=>obtain rfl:=prep_nil.1 h; exact p_size_n hs
 | node x ks=>exact p_size_c hs h
theorem p_min {x:El} {ks:List Pr} {q:Option Addr} (hs:Sat M w) (h:PRep 307 314 M (.node x ks) q):
  Dz 195 #[.agg #[.pointer q],mval mb] w (fun v w'=>v = .tuple #[.agg (elc x).toArray, .bool true]∧Step Nope M w M w'):=by
 have hT:=hs.r
 obtain ⟨b,kq,al,rfl,hb,hc,hk⟩:=prep_node.1 h
 refine Fe Tryz.func195 [.cell 4 29, .tmp 5] rfl<|Ri fun Z=>Bm hs rfl fun b1 M1 w1 hs1 hb1 e1=>?_
 have:=hs1.size
 have hT:=hT.t hs1
 have:=hT.size
 refine Al (.agg #[(.int .i64 0),(.int .i64 0)]) hs1.sat rfl fun br w2 hs2 hor er=>?_
 have:=hs2.size
 have:=hor.1.lt
 refine Na rfl Z<|cw_seq fun _ hK2=>Ri fun Z=>Qf 0 rfl<|Q1 rfl (BC hs2 hb1 rfl)<|Qq rfl (qn rfl)<|Nx Z<|cw_false rfl<|cw_skip<|hK2 _ _<|Ri fun Z=>Qf 0 rfl<|Q1 rfl (BC hs2 hb1 rfl)<|Qq rfl (q_nilp rfl)<|Qf 0 rfl ?_
 have hb:=hs1.le _ _ hb
 refine Qc 2 rfl (BD hs2 hb rfl)<|St hs2.sat hor rfl fun w3 hs3 hor=>?_
 have:=hs3.size
 refine Na rfl Z<|cw_ret ?_
 have hT:=hT.t hs2 |>.o hs3
 exact ⟨_,(Rc 2 rfl (OD hor rfl) (Rt rfl)),rfl,hT.forget⟩
theorem p_meld_a {o:Pr} {qo:Option Addr} (hs:Sat M w) (ho:PRep 307 314 M o qo):
  Dz 194 #[.agg #[.pointer none],mval mb, .agg #[.pointer qo]] w (fun v w'=>∃ q M',v = .agg #[.pointer q]∧StepC Nope (0) M w M' w'∧PRep 307 314 M' o q):=by
 have hT:=hs.r
 refine Fe Tryz.func194 [.cell 6 158] rfl<|Ri fun Z=>?_
 have:=hT.size
 refine Bo hs rfl fun bh w1 hs1 hoh eh=>?_
 have:=hs1.size
 have:=hoh.1.lt
 have hT:=hT.t hs1
 have:=hT.size
 refine Bo hs1.sat rfl fun bo w2 hs2 hoo eo=>?_
 have:=hs2.size
 have:=hoo.1.lt
 have hT:=hT.t hs2
 have:=hT.size
 refine Al (.agg #[(.pointer none)]) hs2.sat rfl fun br w3 hs3 hor er=>?_
 have:=hs3.size
 have:=hor.1.lt
 refine Nx Z<|cw_seq fun _ hK2=>cw_block<|Ri fun Z=>Qf 0 rfl ?_
 have hoh:=hoh.t hs2 |>.t hs3
 refine Q1 rfl (OC hoh rfl)<|Qq rfl (qn rfl)<|Na rfl Z<|cw_true rfl<|Ri fun Z=>?_
 have hoo:=hoo.t hs3
 refine Qc 1 rfl (OD hoo rfl)<|St hs3.sat hor rfl fun w4 hs4 hor=>?_
 have:=hs4.size
 refine Nx Z<|cw_ret ?_
 have hT:=hT.t hs3 |>.o hs4
 exact ⟨_,(Rc 1 rfl (OD hor rfl) res_nil),_,_,rfl,hT,ho⟩
theorem p_meld_b {t:Pr} {a:Addr} (hs:Sat M w) (h:PRep 307 314 M t (some a)):
  Dz 194 #[.agg #[.pointer (some a)],mval mb, .agg #[.pointer none]] w (fun v w'=>∃ q M',v = .agg #[.pointer q]∧StepC Nope (0) M w M' w'∧PRep 307 314 M' t q):=by
 have hT:=hs.r
 refine Fe Tryz.func194 [.cell 6 158] rfl<|Ri fun Z=>?_
 have:=hT.size
 refine Bo hs rfl fun bh w1 hs1 hoh eh=>?_
 have:=hs1.size
 have:=hoh.1.lt
 have hT:=hT.t hs1
 have:=hT.size
 refine Bo hs1.sat rfl fun bo w2 hs2 hoo eo=>?_
 have:=hs2.size
 have:=hoo.1.lt
 have hT:=hT.t hs2
 have:=hT.size
 refine Al (.agg #[(.pointer none)]) hs2.sat rfl fun br w3 hs3 hor er=>?_
 have:=hs3.size
 have:=hor.1.lt
 refine Nx Z<|cw_seq fun _ hK2=>cw_block<|Ri fun Z=>Qf 0 rfl ?_
 have hoh:=hoh.t hs2 |>.t hs3
 refine Q1 rfl (OC hoh rfl)<|Qq rfl (qn rfl)<|Na rfl Z<|cw_false rfl<|Ri fun Z=>Qf 0 rfl ?_
 have hoo:=hoo.t hs3
 refine Q1 rfl (OC hoo rfl)<|Qq rfl (qn rfl)<|Na rfl Z<|cw_true rfl<|Ri fun Z=>Qc 1 rfl (OD hoh rfl)<|St hs3.sat hor rfl fun w4 hs4 hor=>?_
 have:=hs4.size
 refine Nx Z<|cw_ret ?_
 have hT:=hT.t hs3 |>.o hs4
 exact ⟨_,(Rc 1 rfl (OD hor rfl) res_nil),_,_,rfl,hT,h⟩
theorem p_meld_c {x y:El} {ks ls:List Pr} {q q2:Option Addr} (hs:Sat M w) (h:PRep 307 314 M (.node x ks) q) (h2:PRep 307 314 M (.node y ls) q2) (hz:(Pr.node x ks).size+(Pr.node y ls).size≤1000000000):
  Dz 194 #[.agg #[.pointer q],mval mb, .agg #[.pointer q2]] w (fun v w'=>∃ q M',v = .agg #[.pointer q]∧StepC Nope (2) M w M' w'∧PRep 307 314 M' ((Pr.node x ks).meld (.node y ls)) q):=by
 have hT:=hs.r
 obtain ⟨b,kq,al,rfl,hb,hc,hk⟩:=prep_node.1 h
 obtain ⟨b2,kq2,al2,rfl,hb2,hc2,hk2⟩:=prep_node.1 h2
 have hz0:(1+Pr.sizes ks)+(1+Pr.sizes ls)≤1000000000:=by simpa only [Pr.size] using hz
 refine Fe Tryz.func194 [.cell 6 158] rfl<|Ri fun Z=>?_
 have:=hT.size
 refine Bo hs rfl fun bh w1 hs1 hoh eh=>?_
 have:=hs1.size
 have:=hoh.1.lt
 have hT:=hT.t hs1
 have:=hT.size
 refine Bo hs1.sat rfl fun bo w2 hs2 hoo eo=>?_
 have:=hs2.size
 have:=hoo.1.lt
 have hT:=hT.t hs2
 have:=hT.size
 refine Al (.agg #[(.pointer none)]) hs2.sat rfl fun br w3 hs3 hor er=>?_
 have:=hs3.size
 have:=hor.1.lt
 refine Nx Z<|cw_seq fun _ hK2=>cw_block<|Ri fun Z=>Qf 0 rfl ?_
 have hoh:=hoh.t hs2 |>.t hs3
 refine Q1 rfl (OC hoh rfl)<|Qq rfl (qn rfl)<|Na rfl Z<|cw_false rfl<|Ri fun Z=>Qf 0 rfl ?_
 have hoo:=hoo.t hs3
 refine Q1 rfl (OC hoo rfl)<|Qq rfl (qn rfl)<|Na rfl Z<|cw_false rfl<|cw_skip<|hK2 _ _<|cw_seq fun _ hK5=>Rv fun Z=>?_
 have hs4:=Step.drew hs3.sat
 have:=hs4.size
 refine Gm 0 1 rfl<|Gf 1 3 0 rfl ?_
 have hoo:=hoo.t hs4
 refine G1 2 7 rfl (OC hoo rfl)<|Gq 3 15 rfl (fun _=>q_nilp rfl)<|Gf 4 31 0 rfl<|Gc 5 63 2 rfl (BD hs4 hb2 rfl)<|Gf 6 127 0 rfl ?_
 have hoh:=hoh.t hs4
 refine G1 7 255 rfl (OC hoh rfl)<|Gq 8 511 rfl (fun _=>q_nilp rfl)<|Gf 9 1023 0 rfl<|Gc 10 2047 2 rfl (BD hs4 hb rfl)<|Gh 11 4095 rfl (Ks [T,F,T,F]) (h_call V rfl ?_)
 refine (m_less (a:=y) (b:=x) hs4.sat).mono ?_
 rintro _ w5 ⟨rfl,hs5⟩
 have:=hs5.size
 have hT:=hT.t hs3 |>.t hs4 |>.t hs5
 have hor:=hor.t hs4 |>.t hs5
 have hb:=hs5.le _ _ hb
 have hc:=hc.mono hs5.le
 have hk:=hk.mono hs5.le
 have hb2:=hs5.le _ _ hb2
 have hc2:=hc2.mono hs5.le
 have hk2:=hk2.mono hs5.le
 have hoh:=hoh.t hs5
 have hoo:=hoo.t hs5
 refine ⟨(by repeat' first | exact trivial | exact OC hoh rfl | exact OC hoo rfl | refine And.intro ?_ ?_),?_⟩
 refine Dx Z<|cw_cond rfl (fun hC2=>?_) (fun hC2=>?_)
 ·have hc2_:=hC2
  refine cw_region fun _ Z=>Qc 1 rfl (OD hoo rfl)<|Qc 1 rfl (OD hoh rfl)<|St hs5.sat hoh rfl fun w6 hs6 hoh=>?_
  have:=hs6.size
  have hoo:=hoo.u hs6
  refine St hs6.sat hoo rfl fun w7 hs7 hoo=>?_
  have:=hs7.size
  refine as_nil (Z _ _ ?_)
  refine hK5 _ _<|Ri fun Z=>Qm rfl<|Ca rfl ((m_made hs7.sat).mono ?_)
  rintro _ w8 hs8
  have:=hs8.size
  refine Nx Z<|Rv fun Z=>?_
  have hs9:=Step.drew hs8.sat
  have:=hs9.size
  refine Gf 0 1 0 rfl ?_
  have hoh:=hoh.u hs7 |>.t hs8 |>.t hs9
  refine G1 1 3 rfl (OC hoh rfl)<|Gq 2 7 rfl (fun _=>q_nilp rfl)<|Gf 3 15 0 rfl ?_
  have hb2:=hs8.le _ _ hb2
  refine Gc 4 31 2 rfl (BD hs9 hb2 rfl)<|Gf 5 63 0 rfl<|G1 6 127 rfl (OC hoh rfl)<|Gq 7 255 rfl (fun _=>q_nilp rfl)<|Gf 8 511 2 rfl<|Gc 9 1023 1 rfl (BD hs9 hb2 rfl) ?_
  have hoo:=hoo.t hs8 |>.t hs9
  refine Gc 10 2047 1 rfl (OD hoo rfl)<|Gf 12 6143 0 rfl<|G1 13 14335 rfl (OC hoh rfl)<|Gq 14 30719 rfl (fun _=>q_nilp rfl)<|Gf 15 63487 3 rfl<|G1 16 129023 rfl (BC hs9 hb2 rfl)<|Gf 17 260095 0 rfl<|G1 18 522239 rfl (OC hoo rfl)<|Gq 19 1046527 rfl (fun _=>q_nilp rfl)<|Gf 20 2095103 3 rfl ?_
  have hb:=hs8.le _ _ hb
  refine G1 21 4192255 rfl (BC hs9 hb rfl)<|Gq 22 8386559 rfl (fun _=>qA rfl)<|Gh 11 8388607 rfl (Ks [F,F,F,F,T,T,F,F,F]) (h_call V rfl ?_)
  have hc2:=hc2.mono hs8.le
  have hk2:=hk2.mono hs8.le
  refine (cp_push hs9.sat hc2 (by have:=hk2.small; simp only [Pr.size] at hz; omega)).mono ?_
  rintro _ w10 ⟨qn,Mn,rfl,hs10,hn⟩
  have:=hs10.size
  have hor:=hor.u hs6 |>.u hs7 |>.t hs8 |>.t hs9 |>.t hs10
  have hT:=hT.o hs6 |>.o hs7 |>.t hs8 |>.t hs9 |>.t hs10
  have hc:=hc.mono hs8.le |>.mono hs10.le
  have hk:=hk.mono hs8.le |>.mono hs10.le
  have hb:=hs10.le _ _ hb
  have hb2:=hs10.le _ _ hb2
  have hc2:=hc2.mono hs10.le
  have hk2:=hk2.mono hs10.le
  have hoh:=hoh.t hs10
  have hoo:=hoo.t hs10
  refine ⟨(by repeat' first | exact trivial | exact BC hs10 hb rfl | exact BC hs10 hb2 rfl | exact BD hs10 hb2 rfl | exact OC hoh rfl | exact OC hoo rfl | refine And.intro ?_ ?_),?_⟩
  refine Gq 23 16777215 rfl (fun _=>(q_build (zs:=[(.int .i64 0),(.int .i64 0),(.pointer none),(.int .i64 0)]) (places:=[(0,2),(2,1),(3,1)]) (cs:=[_,_,_,_]) V V rfl rfl))<|Gh 24 33554431 rfl (Ks [F,F,F,F,F,F,F]) (h_boxM hs10.sat rfl rfl fun b11 M11 w11 hs11 hb11 e11=>?_)
  have:=hs11.size
  have hb:=hs11.le _ _ hb
  have hc:=hc.mono hs11.le
  have hk:=hk.mono hs11.le
  have hb2:=hs11.le _ _ hb2
  have hc2:=hc2.mono hs11.le
  have hk2:=hk2.mono hs11.le
  have hoh:=hoh.t hs11
  have hoo:=hoo.t hs11
  have hor:=hor.t hs11
  have hn:=hn.mono hs11.le
  have hT:=hT.t hs11
  refine ⟨(by repeat' first | exact trivial | exact BC hs11 hb rfl | exact BC hs11 hb2 rfl | exact BD hs11 hb2 rfl | exact OC hoh rfl | exact OC hoo rfl | refine And.intro ?_ ?_),?_⟩
  refine Gq 25 67108863 rfl (fun _=>(q_build (zs:=[(.pointer none)]) (places:=[(0,1)]) (cs:=[_]) V V rfl rfl))<|G0 26 134217727 rfl (Ks [T,T,T,T,T,T,T]) (h_store hs11.sat hor rfl rfl rfl V rfl rfl rfl fun w12 hs12 hn12=>?_)
  clear hor; have hor:=hn12; clear hn12
  have:=hs12.size
  refine ⟨trivial,?_⟩
  refine Dx Z<|cw_ret ?_
  have hT:=hT.o hs12
  refine ⟨_,(Rc 1 rfl (OD hor rfl) res_nil),_,_,rfl,hT,?_⟩
  rw [Pr.meld,if_pos hc2_]
  exact prep_node.2 ⟨_,_,_,rfl,hb11.trans (cell4 (by simp only [Pr.sizes,Pr.size]; omega)),hn,preps_cons.2 ⟨by simp,_,_,rfl,(prep_node.2 ⟨_,_,_,rfl,hb,hc,hk⟩),hk2⟩⟩
 ·have hc2_:=hC2
  refine cw_skip<|hK5 _ _<|Ri fun Z=>Qm rfl<|Ca rfl ((m_made hs5.sat).mono ?_)
  rintro _ w13 hs13
  have:=hs13.size
  refine Nx Z<|Rv fun Z=>?_
  have hs14:=Step.drew hs13.sat
  have:=hs14.size
  refine Gf 0 1 0 rfl ?_
  have hoh:=hoh.t hs13 |>.t hs14
  refine G1 1 3 rfl (OC hoh rfl)<|Gq 2 7 rfl (fun _=>q_nilp rfl)<|Gf 3 15 0 rfl ?_
  have hb:=hs13.le _ _ hb
  refine Gc 4 31 2 rfl (BD hs14 hb rfl)<|Gf 5 63 0 rfl<|G1 6 127 rfl (OC hoh rfl)<|Gq 7 255 rfl (fun _=>q_nilp rfl)<|Gf 8 511 2 rfl<|Gc 9 1023 1 rfl (BD hs14 hb rfl) ?_
  have hoo:=hoo.t hs13 |>.t hs14
  refine Gc 10 2047 1 rfl (OD hoo rfl)<|Gf 12 6143 0 rfl<|G1 13 14335 rfl (OC hoh rfl)<|Gq 14 30719 rfl (fun _=>q_nilp rfl)<|Gf 15 63487 3 rfl<|G1 16 129023 rfl (BC hs14 hb rfl)<|Gf 17 260095 0 rfl<|G1 18 522239 rfl (OC hoo rfl)<|Gq 19 1046527 rfl (fun _=>q_nilp rfl)<|Gf 20 2095103 3 rfl ?_
  have hb2:=hs13.le _ _ hb2
  refine G1 21 4192255 rfl (BC hs14 hb2 rfl)<|Gq 22 8386559 rfl (fun _=>qA rfl)<|Gh 11 8388607 rfl (Ks [F,F,F,F,T,T,F,F,F]) (h_call V rfl ?_)
  have hc:=hc.mono hs13.le
  have hk:=hk.mono hs13.le
  refine (cp_push hs14.sat hc (by have:=hk.small; simp only [Pr.size] at hz; omega)).mono ?_
  rintro _ w15 ⟨qn,Mn,rfl,hs15,hn⟩
  have:=hs15.size
  have hc2:=hc2.mono hs13.le |>.mono hs15.le
  have hk2:=hk2.mono hs13.le |>.mono hs15.le
  have hor:=hor.t hs13 |>.t hs14 |>.t hs15
  have hT:=hT.t hs13 |>.t hs14 |>.t hs15
  have hb:=hs15.le _ _ hb
  have hk:=hk.mono hs15.le
  have hb2:=hs15.le _ _ hb2
  have hoh:=hoh.t hs15
  have hoo:=hoo.t hs15
  refine ⟨(by repeat' first | exact trivial | exact BC hs15 hb rfl | exact BD hs15 hb rfl | exact BC hs15 hb2 rfl | exact OC hoh rfl | exact OC hoo rfl | refine And.intro ?_ ?_),?_⟩
  refine Gq 23 16777215 rfl (fun _=>(q_build (zs:=[(.int .i64 0),(.int .i64 0),(.pointer none),(.int .i64 0)]) (places:=[(0,2),(2,1),(3,1)]) (cs:=[_,_,_,_]) V V rfl rfl))<|Gh 24 33554431 rfl (Ks [F,F,F,F,F,F,F]) (h_boxM hs15.sat rfl rfl fun b16 M16 w16 hs16 hb16 e16=>?_)
  have:=hs16.size
  have hb:=hs16.le _ _ hb
  have hk:=hk.mono hs16.le
  have hb2:=hs16.le _ _ hb2
  have hc2:=hc2.mono hs16.le
  have hk2:=hk2.mono hs16.le
  have hoh:=hoh.t hs16
  have hoo:=hoo.t hs16
  have hor:=hor.t hs16
  have hn:=hn.mono hs16.le
  have hT:=hT.t hs16
  refine ⟨(by repeat' first | exact trivial | exact BC hs16 hb rfl | exact BD hs16 hb rfl | exact BC hs16 hb2 rfl | exact OC hoh rfl | exact OC hoo rfl | refine And.intro ?_ ?_),?_⟩
  refine Gq 25 67108863 rfl (fun _=>(q_build (zs:=[(.pointer none)]) (places:=[(0,1)]) (cs:=[_]) V V rfl rfl))<|G0 26 134217727 rfl (Ks [T,T,T,T,T,T,T]) (h_store hs16.sat hor rfl rfl rfl V rfl rfl rfl fun w17 hs17 hn17=>?_)
  clear hor; have hor:=hn17; clear hn17
  have:=hs17.size
  refine ⟨trivial,?_⟩
  refine Dx Z<|cw_ret ?_
  have hT:=hT.o hs17
  refine ⟨_,(Rc 1 rfl (OD hor rfl) res_nil),_,_,rfl,hT,?_⟩
  rw [Pr.meld,if_neg (by rw [hc2_]; decide)]
  exact prep_node.2 ⟨_,_,_,rfl,hb16.trans (cell4 (by simp only [Pr.sizes,Pr.size]; omega)),hn,preps_cons.2 ⟨by simp,_,_,rfl,(prep_node.2 ⟨_,_,_,rfl,hb2,hc2,hk2⟩),hk⟩⟩
theorem p_meld {t o:Pr} {q q2:Option Addr} (hs:Sat M w) (h:PRep 307 314 M t q) (h2:PRep 307 314 M o q2) (hz:t.size+o.size≤1000000000):
  Dz 194 #[.agg #[.pointer q],mval mb, .agg #[.pointer q2]] w (fun v w'=>∃ q M',v = .agg #[.pointer q]∧StepC Nope (t.meldC o) M w M' w'∧PRep 307 314 M' (t.meld o) q):=by
 cases t with
 | nil=>obtain rfl:=prep_nil.1 h; rw [show Pr.nil.meld o=o from rfl]; exact p_meld_a hs h2
 | node x ks=>
  cases o with
  | nil=>
   obtain rfl:=prep_nil.1 h2
   obtain ⟨b,_,_,rfl,_⟩:=prep_node.1 h
   exact p_meld_b hs h
  | node y ls=>exact p_meld_c hs h h2 hz
theorem p_insert {x:El} {t:Pr} {q:Option Addr} (hs:Sat M w) (h:PRep 307 314 M t q) (hz:t.size<1000000000):
  Dz 193 #[.agg #[.pointer q],mval mb, .agg (elc x).toArray] w (fun v w'=>∃ q M',v = .agg #[.pointer q]∧StepC Nope (t.insertC x) M w M' w'∧PRep 307 314 M' (t.insert x) q):=by
 have hT:=hs.r
 refine Fe Tryz.func193 [.cell 6 158] rfl<|Ri fun Z=>Bm hs rfl fun b1 M1 w1 hs1 hb1 e1=>?_
 have:=hs1.size
 refine Bm hs1.sat rfl fun b2 M2 w2 hs2 hb2 e2=>?_
 have:=hs2.size
 have hT:=hT.t hs1 |>.t hs2
 have:=hT.size
 refine Al (.agg #[(.pointer none)]) hs2.sat rfl fun br w3 hs3 hor er=>?_
 have:=hs3.size
 have:=hor.1.lt
 refine Nr Z fun Z=>Qm rfl<|Ca rfl ((m_made hs3.sat).mono ?_)
 rintro _ w4 hs4
 have:=hs4.size
 refine Nr Z fun Z=>?_
 have hb2:=hs4.le _ _ hb2
 refine Qc 2 rfl (BD hs4 hb2 rfl)<|Qq rfl (q_build (zs:=[(.int .i64 0),(.int .i64 0),(.pointer none),(.int .i64 0)]) (places:=[(0,2),(2,1),(3,1)]) (cs:=[_,_,_,_]) V V rfl rfl)<|Bm hs4.sat rfl fun b5 M5 w5 hs5 hb5 e5=>?_
 have:=hs5.size
 refine Qq rfl (q_build (zs:=[(.pointer none)]) (places:=[(0,1)]) (cs:=[_]) V V rfl rfl)<|Qm rfl ?_
 have hb1:=hs5.le _ _ (hs4.le _ _ (hs2.le _ _ hb1))
 refine Qc 1 rfl (BD hs5 hb1 rfl) ?_
 have h:=h.mono hs1.le |>.mono hs2.le |>.mono hs4.le |>.mono hs5.le
 refine Ca rfl ((p_meld (t:= .node x []) hs5.sat (prep_node.2 ⟨_,none,[],rfl,hb5,rfl,preps_nil.2 rfl⟩) h (by simp only [Pr.size,Pr.sizes]; omega)).mono ?_)
 rintro _ w6 ⟨qn,Mn,rfl,hs6,hn⟩
 have:=hs6.size
 have hor:=hor.t hs4 |>.t hs5 |>.t hs6
 refine St hs6.sat hor rfl fun w7 hs7 hor=>?_
 have:=hs7.size
 refine Nx Z<|cw_ret ?_
 have hT:=hT.t hs3 |>.t hs4 |>.t hs5 |>.t hs6 |>.o hs7
 exact ⟨_,(Rc 1 rfl (OD hor rfl) res_nil),_,_,rfl,hT.to (by unfold Pr.insertC; omega),hn⟩
end Go.Proofs.YtnnldppehojffaaGreat
/- Heaps of the kinds, as heaps of any kind, part 1. -/
namespace Go.Proofs.YtnnldppehojffaaGreat
open Go Go.Eng
variable {mb:Option Nat} {w:World} {M:Mem mb}
theorem wa_insert {x:El} {t:Lft} {q:Option Addr} (hs:Sat M w) (h:LRep 258 M t (.pointer q)) (hz:t.size<1000000000):
  Dz 145 #[.agg #[.pointer q],mval mb, .agg (elc x).toArray] w (fun v w'=>∃ q M',v = .iface 148 (.agg #[.pointer q])∧StepC Nope (t.insertC x) M w M' w'∧LRep 258 M' (Lft.insert x t) (.pointer q)):=by
 have hT:=hs.r
 refine Fe Tryz.func145 [.tmp 6] rfl<|Ri fun Z=>Bm hs rfl fun b1 M1 w1 hs1 hb1 e1=>Bm hs1.sat rfl fun b2 M2 w2 hs2 hb2 e2=>Nar rfl Z fun Z=>Qf 0 rfl ?_
 have hb1:=hs2.le _ _ hb1
 refine Qc 1 rfl (BD hs2 hb1 rfl)<|Qq rfl (qf rfl)<|Qm rfl<|Qc 2 rfl (BD hs2 hb2 rfl)<|as_h rfl (h_invoke (f:=306) (r:= .agg #[.pointer q]) V rfl rfl V ?_)
 have h:=h.mono hs1.le |>.mono hs2.le
 refine (l_insert (x:=x) hs2.sat h hz).mono ?_
 rintro _ w3 ⟨pn,Mn,rfl,hs3,hn⟩
 obtain ⟨qn,rfl⟩:=hn.ptr
 refine Qq rfl (q_build (zs:=[(.pointer none)]) (places:=[(0,1)]) (cs:=[_]) V V rfl rfl)<|Qq rfl (qf rfl)<|Na rfl Z<|cw_ret ?_
 have hT:=hT.t hs1 |>.t hs2 |>.t hs3
 exact ⟨_,Rt rfl,_,_,rfl,hT.to O,hn⟩
theorem wa_meld {t u:Lft} {q q2:Option Addr} (hs:Sat M w) (h:LRep 258 M t (.pointer q)) (h2:LRep 258 M u (.pointer q2)) (hz:t.size+u.size≤1000000000):
  Dz 146 #[.agg #[.pointer q],mval mb, .iface 148 (.agg #[.pointer q2])] w (fun v w'=>∃ q M',v = .iface 148 (.agg #[.pointer q])∧StepC Nope (t.meldC u) M w M' w'∧LRep 258 M' (t.meld u) (.pointer q)):=by
 have hT:=hs.r
 refine Fe Tryz.func146 [.tmp 6] rfl<|Ri fun Z=>Bm hs rfl fun b1 M1 w1 hs1 hb1 e1=>?_
 have:=hs1.size
 refine Nar rfl Z fun Z=>Qm rfl<|Qq rfl (q_isT V rfl)<|Qm rfl<|Qe rfl<|Qe rfl ?_
 have hT:=hT.t hs1
 have:=hT.size
 refine Al (.agg #[(.pointer none)]) hs1.sat rfl fun bo w2 hs2 hoo eo=>?_
 have:=hs2.size
 have:=hoo.1.lt
 refine St hs2.sat hoo rfl fun w3 hs3 hoo=>?_
 have:=hs3.size
 refine Na rfl Z<|cw_seq fun _ hK3=>Ri fun Z=>Qm rfl<|Qq rfl (q_not rfl)<|Nx Z<|cw_false rfl<|cw_skip<|hK3 _ _<|Ri fun Z=>Qf 0 rfl<|Qc 1 rfl (BD hs3 hb1 rfl)<|Qq rfl (qf rfl)<|Qm rfl<|Qf 0 rfl<|Qc 1 rfl (OD hoo rfl)<|as_h rfl (h_invoke (f:=307) (r:= .agg #[.pointer q]) V rfl rfl V ?_)
 have h:=h.mono hs1.le
 have h2:=h2.mono hs1.le
 refine (l_meld hs3.sat h h2 hz).mono ?_
 rintro _ w4 ⟨pn,Mn,rfl,hs4,hn⟩
 obtain ⟨qn,rfl⟩:=hn.ptr
 have:=hs4.size
 refine Qq rfl (q_build (zs:=[(.pointer none)]) (places:=[(0,1)]) (cs:=[_]) V V rfl rfl)<|Qq rfl (qf rfl)<|Na rfl Z<|cw_ret ?_
 have hT:=hT.t hs2 |>.o hs3 |>.t hs4
 exact ⟨_,Rt rfl,_,_,rfl,hT.to O,hn⟩
theorem wa_size {t:Lft} {q:Option Addr} (hs:Sat M w) (h:LRep 258 M t (.pointer q)):
  Dz 150 #[.agg #[.pointer q]] w (fun v w'=>v = .int .i64 (t.size:Nat)∧Step Nope M w M w'):=by
 have hT:=hs.r
 refine Fe Tryz.func150 [.tmp 2] rfl<|Ri fun Z=>Bm hs rfl fun b1 M1 w1 hs1 hb1 e1=>Nar rfl Z fun Z=>Qf 0 rfl<|Qc 1 rfl (BD hs1 hb1 rfl)<|Qq rfl (qf rfl)<|as_h rfl (h_invoke (f:=310) (r:= .agg #[.pointer q]) V rfl rfl V ?_)
 have h:=h.mono hs1.le
 refine (l_size hs1.sat h).mono ?_
 rintro _ w2 ⟨rfl,hs2⟩
 refine Na rfl Z<|cw_ret ?_
 have hT:=hT.t hs1 |>.t hs2
 exact ⟨_,Rt rfl,rfl,hT.forget⟩
theorem wa_min {x:El} {l r:Lft} {q:Option Addr} (hs:Sat M w) (h:LRep 258 M (Lft.node x l r) (.pointer q)):
  Dz 147 #[.agg #[.pointer q],mval mb] w (fun v w'=>v = .tuple #[.agg (elc x).toArray, .bool true]∧Step Nope M w M w'):=by
 have hT:=hs.r
 refine Fe Tryz.func147 [.cell 4 29, .tmp 5] rfl<|Ri fun Z=>Bm hs rfl fun b1 M1 w1 hs1 hb1 e1=>?_
 have:=hs1.size
 have hT:=hT.t hs1
 have:=hT.size
 refine Al (.agg #[(.int .i64 0),(.int .i64 0)]) hs1.sat rfl fun br w2 hs2 hor er=>?_
 have:=hs2.size
 have:=hor.1.lt
 refine Nar rfl Z fun Z=>Qf 0 rfl<|Qc 1 rfl (BD hs2 hb1 rfl)<|Qq rfl (qf rfl)<|Qm rfl<|as_h rfl (h_invoke (f:=308) (r:= .agg #[.pointer q]) V rfl rfl V ?_)
 have h:=h.mono hs1.le
 refine (l_min hs2.sat h).mono ?_
 rintro _ w3 ⟨rfl,hs3⟩
 have:=hs3.size
 refine Qe rfl<|Qe rfl ?_
 have hor:=hor.t hs3
 refine St hs3.sat hor rfl fun w4 hs4 hor=>?_
 have:=hs4.size
 refine Na rfl Z<|cw_ret ?_
 have hT:=hT.t hs2 |>.t hs3 |>.o hs4
 exact ⟨_,(Rc 2 rfl (OD hor rfl) (Rt rfl)),rfl,hT.forget⟩
theorem wb_insert {x:El} {t:List (RT El)} {q:Option Addr} (hs:Sat M w) (h:FRep 266 287 2 EncE M t q) (hz:RT.sizes t<1000000000):
  Dz 187 #[.agg #[.pointer q],mval mb, .agg (elc x).toArray] w (fun v w'=>∃ q M',v = .iface 155 (.agg #[.pointer q])∧StepC Nope (1+bputC ltE (RT.leaf x) t) M w M' w'∧FRep 266 287 2 EncE M' (bput ltE (RT.leaf x) t) q):=by
 have hT:=hs.r
 refine Fe Tryz.func187 [.tmp 6] rfl<|Ri fun Z=>Bm hs rfl fun b1 M1 w1 hs1 hb1 e1=>?_
 have h:=h.mono' EncE.mono hs1.le
 refine Bm hs1.sat rfl fun b2 M2 w2 hs2 hb2 e2=>?_
 have h:=h.mono' EncE.mono hs2.le
 refine Nar rfl Z fun Z=>Qf 0 rfl ?_
 have hb1:=hs2.le _ _ hb1
 refine Qc 1 rfl (BD hs2 hb1 rfl)<|Qq rfl (qf rfl)<|Qm rfl<|Qc 2 rfl (BD hs2 hb2 rfl)<|as_h rfl (h_invoke (f:=152) (r:= .agg #[.pointer q]) V rfl rfl V ?_)
 refine (b_insert (x:=x) hs2.sat h hz).mono ?_
 rintro _ w3 ⟨qn,Mn,rfl,hs3,hn⟩
 have h:=h.mono' EncE.mono hs3.le
 refine Qq rfl (q_build (zs:=[(.pointer none)]) (places:=[(0,1)]) (cs:=[_]) V V rfl rfl)<|Qq rfl (qf rfl)<|Na rfl Z<|cw_ret ?_
 have hT:=hT.t hs1 |>.t hs2 |>.t hs3
 exact ⟨_,Rt rfl,_,_,rfl,hT.to O,hn⟩
theorem wb_meld {t u:List (RT El)} {q q2:Option Addr} (hs:Sat M w) (h:FRep 266 287 2 EncE M t q) (h2:FRep 266 287 2 EncE M u q2) (hz:RT.sizes t+RT.sizes u≤1000000000):
  Dz 188 #[.agg #[.pointer q],mval mb, .iface 155 (.agg #[.pointer q2])] w (fun v w'=>∃ q M',v = .iface 155 (.agg #[.pointer q])∧StepC Nope (bmeldC ltE t u) M w M' w'∧FRep 266 287 2 EncE M' (bmeld ltE t u) q):=by
 have hT:=hs.r
 refine Fe Tryz.func188 [.tmp 6] rfl<|Ri fun Z=>Bm hs rfl fun b1 M1 w1 hs1 hb1 e1=>?_
 have h:=h.mono' EncE.mono hs1.le
 have h2:=h2.mono' EncE.mono hs1.le
 have:=hs1.size
 refine Nar rfl Z fun Z=>Qm rfl<|Qq rfl (q_isT V rfl)<|Qm rfl<|Qe rfl<|Qe rfl ?_
 have hT:=hT.t hs1
 have:=hT.size
 refine Al (.agg #[(.pointer none)]) hs1.sat rfl fun bo w2 hs2 hoo eo=>?_
 have:=hs2.size
 have:=hoo.1.lt
 refine St hs2.sat hoo rfl fun w3 hs3 hoo=>?_
 have:=hs3.size
 refine Na rfl Z<|cw_seq fun _ hK3=>Ri fun Z=>Qm rfl<|Qq rfl (q_not rfl)<|Nx Z<|cw_false rfl<|cw_skip<|hK3 _ _<|Ri fun Z=>Qf 0 rfl<|Qc 1 rfl (BD hs3 hb1 rfl)<|Qq rfl (qf rfl)<|Qm rfl<|Qf 0 rfl<|Qc 1 rfl (OD hoo rfl)<|as_h rfl (h_invoke (f:=153) (r:= .agg #[.pointer q]) V rfl rfl V ?_)
 refine (b_meld hs3.sat h h2 hz).mono ?_
 rintro _ w4 ⟨qn,Mn,rfl,hs4,hn⟩
 have h:=h.mono' EncE.mono hs4.le
 have:=hs4.size
 refine Qq rfl (q_build (zs:=[(.pointer none)]) (places:=[(0,1)]) (cs:=[_]) V V rfl rfl)<|Qq rfl (qf rfl)<|Na rfl Z<|cw_ret ?_
 have hT:=hT.t hs2 |>.o hs3 |>.t hs4
 exact ⟨_,Rt rfl,_,_,rfl,hT.to O,hn⟩
theorem wb_size {t:List (RT El)} {q:Option Addr} (hs:Sat M w) (h:FRep 266 287 2 EncE M t q) (hz:RT.sizes t≤1000000000):
  Dz 192 #[.agg #[.pointer q]] w (fun v w'=>v = .int .i64 (RT.sizes t:Nat)∧Step Nope M w M w'):=by
 have hT:=hs.r
 refine Fe Tryz.func192 [.tmp 2] rfl<|Ri fun Z=>Bm hs rfl fun b1 M1 w1 hs1 hb1 e1=>?_
 have h:=h.mono' EncE.mono hs1.le
 refine Nar rfl Z fun Z=>Qf 0 rfl<|Qc 1 rfl (BD hs1 hb1 rfl)<|Qq rfl (qf rfl)<|as_h rfl (h_invoke (f:=157) (r:= .agg #[.pointer q]) V rfl rfl V ?_)
 refine (b_size hs1.sat h hz).mono ?_
 rintro _ w2 ⟨rfl,hs2⟩
 refine Na rfl Z<|cw_ret ?_
 have hT:=hT.t hs1 |>.t hs2
 exact ⟨_,Rt rfl,rfl,hT.forget⟩
theorem wb_min {t:List (RT El)} {k:RT El} {q:Option Addr} (hs:Sat M w) (h:FRep 266 287 2 EncE M t q) (ht:t[leastN ltE (t.map RT.root) (t.length-1)]? = some k) (hz:RT.sizes t≤1000000000):
  Dz 189 #[.agg #[.pointer q],mval mb] w (fun v w'=>v = .tuple #[.agg (elc k.root).toArray, .bool true]∧StepC Nope (t.length-1) M w (M.tick (t.length-1)) w'):=by
 have hT:=hs.r
 refine Fe Tryz.func189 [.cell 4 29, .tmp 5] rfl<|Ri fun Z=>Bm hs rfl fun b1 M1 w1 hs1 hb1 e1=>?_
 have h:=h.mono' EncE.mono hs1.le
 have:=hs1.size
 have hT:=hT.t hs1
 have:=hT.size
 refine Al (.agg #[(.int .i64 0),(.int .i64 0)]) hs1.sat rfl fun br w2 hs2 hor er=>?_
 have:=hs2.size
 have:=hor.1.lt
 refine Nar rfl Z fun Z=>Qf 0 rfl<|Qc 1 rfl (BD hs2 hb1 rfl)<|Qq rfl (qf rfl)<|Qm rfl<|as_h rfl (h_invoke (f:=154) (r:= .agg #[.pointer q]) V rfl rfl V ?_)
 refine (b_min hs2.sat h ht hz).mono ?_
 rintro _ w3 ⟨rfl,hs3⟩
 have h:=h.mono' EncE.mono hs3.le
 have:=hs3.size
 refine Qe rfl<|Qe rfl ?_
 have hor:=hor.t hs3
 refine St hs3.sat hor rfl fun w4 hs4 hor=>?_
 have:=hs4.size
 refine Na rfl Z<|cw_ret ?_
 have hT:=hT.t hs2 |>.t hs3 |>.o hs4
 exact ⟨_,(Rc 2 rfl (OD hor rfl) (Rt rfl)),rfl,hT.tk O⟩
theorem wc_insert {x:El} {t:Pr} {q:Option Addr} (hs:Sat M w) (h:PRep 307 314 M t q) (hz:t.size<1000000000):
  Dz 205 #[.agg #[.pointer q],mval mb, .agg (elc x).toArray] w (fun v w'=>∃ q M',v = .iface 160 (.agg #[.pointer q])∧StepC Nope (t.insertC x) M w M' w'∧PRep 307 314 M' (Pr.insert x t) q):=by
 have hT:=hs.r
 refine Fe Tryz.func205 [.tmp 6] rfl<|Ri fun Z=>Bm hs rfl fun b1 M1 w1 hs1 hb1 e1=>Bm hs1.sat rfl fun b2 M2 w2 hs2 hb2 e2=>Nar rfl Z fun Z=>Qf 0 rfl ?_
 have hb1:=hs2.le _ _ hb1
 refine Qc 1 rfl (BD hs2 hb1 rfl)<|Qq rfl (qf rfl)<|Qm rfl<|Qc 2 rfl (BD hs2 hb2 rfl)<|as_h rfl (h_invoke (f:=193) (r:= .agg #[.pointer q]) V rfl rfl V ?_)
 have h:=h.mono hs1.le |>.mono hs2.le
 refine (p_insert (x:=x) hs2.sat h hz).mono ?_
 rintro _ w3 ⟨qn,Mn,rfl,hs3,hn⟩
 refine Qq rfl (q_build (zs:=[(.pointer none)]) (places:=[(0,1)]) (cs:=[_]) V V rfl rfl)<|Qq rfl (qf rfl)<|Na rfl Z<|cw_ret ?_
 have hT:=hT.t hs1 |>.t hs2 |>.t hs3
 exact ⟨_,Rt rfl,_,_,rfl,hT.to O,hn⟩
theorem wc_meld {t u:Pr} {q q2:Option Addr} (hs:Sat M w) (h:PRep 307 314 M t q) (h2:PRep 307 314 M u q2) (hz:t.size+u.size≤1000000000):
  Dz 206 #[.agg #[.pointer q],mval mb, .iface 160 (.agg #[.pointer q2])] w (fun v w'=>∃ q M',v = .iface 160 (.agg #[.pointer q])∧StepC Nope (t.meldC u) M w M' w'∧PRep 307 314 M' (t.meld u) q):=by
 have hT:=hs.r
 refine Fe Tryz.func206 [.tmp 6] rfl<|Ri fun Z=>Bm hs rfl fun b1 M1 w1 hs1 hb1 e1=>?_
 have:=hs1.size
 refine Nar rfl Z fun Z=>Qm rfl<|Qq rfl (q_isT V rfl)<|Qm rfl<|Qe rfl<|Qe rfl ?_
 have hT:=hT.t hs1
 have:=hT.size
 refine Al (.agg #[(.pointer none)]) hs1.sat rfl fun bo w2 hs2 hoo eo=>?_
 have:=hs2.size
 have:=hoo.1.lt
 refine St hs2.sat hoo rfl fun w3 hs3 hoo=>?_
 have:=hs3.size
 refine Na rfl Z<|cw_seq fun _ hK3=>Ri fun Z=>Qm rfl<|Qq rfl (q_not rfl)<|Nx Z<|cw_false rfl<|cw_skip<|hK3 _ _<|Ri fun Z=>Qf 0 rfl<|Qc 1 rfl (BD hs3 hb1 rfl)<|Qq rfl (qf rfl)<|Qm rfl<|Qf 0 rfl<|Qc 1 rfl (OD hoo rfl)<|as_h rfl (h_invoke (f:=194) (r:= .agg #[.pointer q]) V rfl rfl V ?_)
 have h:=h.mono hs1.le
 have h2:=h2.mono hs1.le
 refine (p_meld hs3.sat h h2 hz).mono ?_
 rintro _ w4 ⟨qn,Mn,rfl,hs4,hn⟩
 have:=hs4.size
 refine Qq rfl (q_build (zs:=[(.pointer none)]) (places:=[(0,1)]) (cs:=[_]) V V rfl rfl)<|Qq rfl (qf rfl)<|Na rfl Z<|cw_ret ?_
 have hT:=hT.t hs2 |>.o hs3 |>.t hs4
 exact ⟨_,Rt rfl,_,_,rfl,hT.to O,hn⟩
theorem wc_size {t:Pr} {q:Option Addr} (hs:Sat M w) (h:PRep 307 314 M t q):
  Dz 210 #[.agg #[.pointer q]] w (fun v w'=>v = .int .i64 (t.size:Nat)∧Step Nope M w M w'):=by
 have hT:=hs.r
 refine Fe Tryz.func210 [.tmp 2] rfl<|Ri fun Z=>Bm hs rfl fun b1 M1 w1 hs1 hb1 e1=>Nar rfl Z fun Z=>Qf 0 rfl<|Qc 1 rfl (BD hs1 hb1 rfl)<|Qq rfl (qf rfl)<|as_h rfl (h_invoke (f:=198) (r:= .agg #[.pointer q]) V rfl rfl V ?_)
 have h:=h.mono hs1.le
 refine (p_size hs1.sat h).mono ?_
 rintro _ w2 ⟨rfl,hs2⟩
 refine Na rfl Z<|cw_ret ?_
 have hT:=hT.t hs1 |>.t hs2
 exact ⟨_,Rt rfl,rfl,hT.forget⟩
theorem wc_min {x:El} {ks:List Pr} {q:Option Addr} (hs:Sat M w) (h:PRep 307 314 M (Pr.node x ks) q):
  Dz 207 #[.agg #[.pointer q],mval mb] w (fun v w'=>v = .tuple #[.agg (elc x).toArray, .bool true]∧Step Nope M w M w'):=by
 have hT:=hs.r
 refine Fe Tryz.func207 [.cell 4 29, .tmp 5] rfl<|Ri fun Z=>Bm hs rfl fun b1 M1 w1 hs1 hb1 e1=>?_
 have:=hs1.size
 have hT:=hT.t hs1
 have:=hT.size
 refine Al (.agg #[(.int .i64 0),(.int .i64 0)]) hs1.sat rfl fun br w2 hs2 hor er=>?_
 have:=hs2.size
 have:=hor.1.lt
 refine Nar rfl Z fun Z=>Qf 0 rfl<|Qc 1 rfl (BD hs2 hb1 rfl)<|Qq rfl (qf rfl)<|Qm rfl<|as_h rfl (h_invoke (f:=195) (r:= .agg #[.pointer q]) V rfl rfl V ?_)
 have h:=h.mono hs1.le
 refine (p_min hs2.sat h).mono ?_
 rintro _ w3 ⟨rfl,hs3⟩
 have:=hs3.size
 refine Qe rfl<|Qe rfl ?_
 have hor:=hor.t hs3
 refine St hs3.sat hor rfl fun w4 hs4 hor=>?_
 have:=hs4.size
 refine Na rfl Z<|cw_ret ?_
 have hT:=hT.t hs2 |>.t hs3 |>.o hs4
 exact ⟨_,(Rc 2 rfl (OD hor rfl) (Rt rfl)),rfl,hT.forget⟩
theorem wd_insert {x:El} {t:List (RT El)} {q:Option Addr} (hs:Sat M w) (h:FRep 266 287 2 EncE M t q) (hz:RT.sizes t<1000000000):
  Dz 226 #[.agg #[.pointer q],mval mb, .agg (elc x).toArray] w (fun v w'=>∃ q M',v = .iface 164 (.agg #[.pointer q])∧StepC Nope (sinsertC t) M w M' w'∧FRep 266 287 2 EncE M' (sinsert ltE x t) q):=by
 have hT:=hs.r
 refine Fe Tryz.func226 [.tmp 6] rfl<|Ri fun Z=>Bm hs rfl fun b1 M1 w1 hs1 hb1 e1=>?_
 have h:=h.mono' EncE.mono hs1.le
 refine Bm hs1.sat rfl fun b2 M2 w2 hs2 hb2 e2=>?_
 have h:=h.mono' EncE.mono hs2.le
 refine Nar rfl Z fun Z=>Qf 0 rfl ?_
 have hb1:=hs2.le _ _ hb1
 refine Qc 1 rfl (BD hs2 hb1 rfl)<|Qq rfl (qf rfl)<|Qm rfl<|Qc 2 rfl (BD hs2 hb2 rfl)<|as_h rfl (h_invoke (f:=211) (r:= .agg #[.pointer q]) V rfl rfl V ?_)
 refine (se_insert (x:=x) hs2.sat h hz).mono ?_
 rintro _ w3 ⟨qn,Mn,rfl,hs3,hn⟩
 have h:=h.mono' EncE.mono hs3.le
 refine Qq rfl (q_build (zs:=[(.pointer none)]) (places:=[(0,1)]) (cs:=[_]) V V rfl rfl)<|Qq rfl (qf rfl)<|Na rfl Z<|cw_ret ?_
 have hT:=hT.t hs1 |>.t hs2 |>.t hs3
 exact ⟨_,Rt rfl,_,_,rfl,hT.to O,hn⟩
theorem wd_meld {t u:List (RT El)} {q q2:Option Addr} (hs:Sat M w) (h:FRep 266 287 2 EncE M t q) (h2:FRep 266 287 2 EncE M u q2) (hz:RT.sizes t+RT.sizes u≤1000000000):
  Dz 227 #[.agg #[.pointer q],mval mb, .iface 164 (.agg #[.pointer q2])] w (fun v w'=>∃ q M',v = .iface 164 (.agg #[.pointer q])∧StepC Nope (smeldC ltE t u) M w M' w'∧FRep 266 287 2 EncE M' (smeld ltE t u) q):=by
 have hT:=hs.r
 refine Fe Tryz.func227 [.tmp 6] rfl<|Ri fun Z=>Bm hs rfl fun b1 M1 w1 hs1 hb1 e1=>?_
 have h:=h.mono' EncE.mono hs1.le
 have h2:=h2.mono' EncE.mono hs1.le
 have:=hs1.size
 refine Nar rfl Z fun Z=>Qm rfl<|Qq rfl (q_isT V rfl)<|Qm rfl<|Qe rfl<|Qe rfl ?_
 have hT:=hT.t hs1
 have:=hT.size
 refine Al (.agg #[(.pointer none)]) hs1.sat rfl fun bo w2 hs2 hoo eo=>?_
 have:=hs2.size
 have:=hoo.1.lt
 refine St hs2.sat hoo rfl fun w3 hs3 hoo=>?_
 have:=hs3.size
 refine Na rfl Z<|cw_seq fun _ hK3=>Ri fun Z=>Qm rfl<|Qq rfl (q_not rfl)<|Nx Z<|cw_false rfl<|cw_skip<|hK3 _ _<|Ri fun Z=>Qf 0 rfl<|Qc 1 rfl (BD hs3 hb1 rfl)<|Qq rfl (qf rfl)<|Qm rfl<|Qf 0 rfl<|Qc 1 rfl (OD hoo rfl)<|as_h rfl (h_invoke (f:=212) (r:= .agg #[.pointer q]) V rfl rfl V ?_)
 refine (se_meld hs3.sat h h2 hz).mono ?_
 rintro _ w4 ⟨qn,Mn,rfl,hs4,hn⟩
 have h:=h.mono' EncE.mono hs4.le
 have:=hs4.size
 refine Qq rfl (q_build (zs:=[(.pointer none)]) (places:=[(0,1)]) (cs:=[_]) V V rfl rfl)<|Qq rfl (qf rfl)<|Na rfl Z<|cw_ret ?_
 have hT:=hT.t hs2 |>.o hs3 |>.t hs4
 exact ⟨_,Rt rfl,_,_,rfl,hT.to O,hn⟩
theorem wd_size {t:List (RT El)} {q:Option Addr} (hs:Sat M w) (h:FRep 266 287 2 EncE M t q) (hz:RT.sizes t≤1000000000):
  Dz 231 #[.agg #[.pointer q]] w (fun v w'=>v = .int .i64 (RT.sizes t:Nat)∧Step Nope M w M w'):=by
 have hT:=hs.r
 refine Fe Tryz.func231 [.tmp 2] rfl<|Ri fun Z=>Bm hs rfl fun b1 M1 w1 hs1 hb1 e1=>?_
 have h:=h.mono' EncE.mono hs1.le
 refine Nar rfl Z fun Z=>Qf 0 rfl<|Qc 1 rfl (BD hs1 hb1 rfl)<|Qq rfl (qf rfl)<|as_h rfl (h_invoke (f:=216) (r:= .agg #[.pointer q]) V rfl rfl V ?_)
 refine (se_size hs1.sat h hz).mono ?_
 rintro _ w2 ⟨rfl,hs2⟩
 refine Na rfl Z<|cw_ret ?_
 have hT:=hT.t hs1 |>.t hs2
 exact ⟨_,Rt rfl,rfl,hT.forget⟩
theorem wd_min {t:List (RT El)} {k:RT El} {q:Option Addr} (hs:Sat M w) (h:FRep 266 287 2 EncE M t q) (ht:t[leastN ltE (t.map RT.root) (t.length-1)]? = some k) (hz:RT.sizes t≤1000000000):
  Dz 228 #[.agg #[.pointer q],mval mb] w (fun v w'=>v = .tuple #[.agg (elc k.root).toArray, .bool true]∧StepC Nope (t.length-1) M w (M.tick (t.length-1)) w'):=by
 have hT:=hs.r
 refine Fe Tryz.func228 [.cell 4 29, .tmp 5] rfl<|Ri fun Z=>Bm hs rfl fun b1 M1 w1 hs1 hb1 e1=>?_
 have h:=h.mono' EncE.mono hs1.le
 have:=hs1.size
 have hT:=hT.t hs1
 have:=hT.size
 refine Al (.agg #[(.int .i64 0),(.int .i64 0)]) hs1.sat rfl fun br w2 hs2 hor er=>?_
 have:=hs2.size
 have:=hor.1.lt
 refine Nar rfl Z fun Z=>Qf 0 rfl<|Qc 1 rfl (BD hs2 hb1 rfl)<|Qq rfl (qf rfl)<|Qm rfl<|as_h rfl (h_invoke (f:=213) (r:= .agg #[.pointer q]) V rfl rfl V ?_)
 refine (se_min hs2.sat h ht hz).mono ?_
 rintro _ w3 ⟨rfl,hs3⟩
 have h:=h.mono' EncE.mono hs3.le
 have:=hs3.size
 refine Qe rfl<|Qe rfl ?_
 have hor:=hor.t hs3
 refine St hs3.sat hor rfl fun w4 hs4 hor=>?_
 have:=hs4.size
 refine Na rfl Z<|cw_ret ?_
 have hT:=hT.t hs2 |>.t hs3 |>.o hs4
 exact ⟨_,(Rc 2 rfl (OD hor rfl) (Rt rfl)),rfl,hT.tk O⟩
theorem we_insert {x:El} {t:Ro} {q:Option Addr} (hs:Sat M w) (h:RoRep 334 266 287 M t q) (hz:t.size<1000000000):
  Dz 239 #[.agg #[.pointer q],mval mb, .agg (elc x).toArray] w (fun v w'=>∃ q M',v = .iface 169 (.agg #[.pointer q])∧StepC Nope (t.insertC) M w M' w'∧RoRep 334 266 287 M' (Ro.insert x t) q):=by
 have hT:=hs.r
 refine Fe Tryz.func239 [.tmp 6] rfl<|Ri fun Z=>Bm hs rfl fun b1 M1 w1 hs1 hb1 e1=>Bm hs1.sat rfl fun b2 M2 w2 hs2 hb2 e2=>Nar rfl Z fun Z=>Qf 0 rfl ?_
 have hb1:=hs2.le _ _ hb1
 refine Qc 1 rfl (BD hs2 hb1 rfl)<|Qq rfl (qf rfl)<|Qm rfl<|Qc 2 rfl (BD hs2 hb2 rfl)<|as_h rfl (h_invoke (f:=232) (r:= .agg #[.pointer q]) V rfl rfl V ?_)
 have h:=h.mono hs1.le |>.mono hs2.le
 refine (r_insert (x:=x) hs2.sat h hz).mono ?_
 rintro _ w3 ⟨qn,Mn,rfl,hs3,hn⟩
 refine Qq rfl (q_build (zs:=[(.pointer none)]) (places:=[(0,1)]) (cs:=[_]) V V rfl rfl)<|Qq rfl (qf rfl)<|Na rfl Z<|cw_ret ?_
 have hT:=hT.t hs1 |>.t hs2 |>.t hs3
 exact ⟨_,Rt rfl,_,_,rfl,hT.to O,hn⟩
theorem we_meld {t u:Ro} {q q2:Option Addr} (hs:Sat M w) (h:RoRep 334 266 287 M t q) (h2:RoRep 334 266 287 M u q2) (hz:t.size+u.size≤1000000000):
  Dz 240 #[.agg #[.pointer q],mval mb, .iface 169 (.agg #[.pointer q2])] w (fun v w'=>∃ q M',v = .iface 169 (.agg #[.pointer q])∧StepC Nope (t.meldC u) M w M' w'∧RoRep 334 266 287 M' (t.meld u) q):=by
 have hT:=hs.r
 refine Fe Tryz.func240 [.tmp 6] rfl<|Ri fun Z=>Bm hs rfl fun b1 M1 w1 hs1 hb1 e1=>?_
 have:=hs1.size
 refine Nar rfl Z fun Z=>Qm rfl<|Qq rfl (q_isT V rfl)<|Qm rfl<|Qe rfl<|Qe rfl ?_
 have hT:=hT.t hs1
 have:=hT.size
 refine Al (.agg #[(.pointer none)]) hs1.sat rfl fun bo w2 hs2 hoo eo=>?_
 have:=hs2.size
 have:=hoo.1.lt
 refine St hs2.sat hoo rfl fun w3 hs3 hoo=>?_
 have:=hs3.size
 refine Na rfl Z<|cw_seq fun _ hK3=>Ri fun Z=>Qm rfl<|Qq rfl (q_not rfl)<|Nx Z<|cw_false rfl<|cw_skip<|hK3 _ _<|Ri fun Z=>Qf 0 rfl<|Qc 1 rfl (BD hs3 hb1 rfl)<|Qq rfl (qf rfl)<|Qm rfl<|Qf 0 rfl<|Qc 1 rfl (OD hoo rfl)<|as_h rfl (h_invoke (f:=233) (r:= .agg #[.pointer q]) V rfl rfl V ?_)
 have h:=h.mono hs1.le
 have h2:=h2.mono hs1.le
 refine (r_meld hs3.sat h h2 hz).mono ?_
 rintro _ w4 ⟨qn,Mn,rfl,hs4,hn⟩
 have:=hs4.size
 refine Qq rfl (q_build (zs:=[(.pointer none)]) (places:=[(0,1)]) (cs:=[_]) V V rfl rfl)<|Qq rfl (qf rfl)<|Na rfl Z<|cw_ret ?_
 have hT:=hT.t hs2 |>.o hs3 |>.t hs4
 exact ⟨_,Rt rfl,_,_,rfl,hT.to O,hn⟩
theorem we_size {t:Ro} {q:Option Addr} (hs:Sat M w) (h:RoRep 334 266 287 M t q) (hz:t.size≤1000000000):
  Dz 244 #[.agg #[.pointer q]] w (fun v w'=>v = .int .i64 (t.size:Nat)∧Step Nope M w M w'):=by
 have hT:=hs.r
 refine Fe Tryz.func244 [.tmp 2] rfl<|Ri fun Z=>Bm hs rfl fun b1 M1 w1 hs1 hb1 e1=>Nar rfl Z fun Z=>Qf 0 rfl<|Qc 1 rfl (BD hs1 hb1 rfl)<|Qq rfl (qf rfl)<|as_h rfl (h_invoke (f:=237) (r:= .agg #[.pointer q]) V rfl rfl V ?_)
 have h:=h.mono hs1.le
 refine (r_size hs1.sat h hz).mono ?_
 rintro _ w2 ⟨rfl,hs2⟩
 refine Na rfl Z<|cw_ret ?_
 have hT:=hT.t hs1 |>.t hs2
 exact ⟨_,Rt rfl,rfl,hT.forget⟩
theorem we_min {x:El} {ts:List (RT El)} {q:Option Addr} (hs:Sat M w) (h:RoRep 334 266 287 M (Ro.node x ts) q):
  Dz 241 #[.agg #[.pointer q],mval mb] w (fun v w'=>v = .tuple #[.agg (elc x).toArray, .bool true]∧Step Nope M w M w'):=by
 have hT:=hs.r
 refine Fe Tryz.func241 [.cell 4 29, .tmp 5] rfl<|Ri fun Z=>Bm hs rfl fun b1 M1 w1 hs1 hb1 e1=>?_
 have:=hs1.size
 have hT:=hT.t hs1
 have:=hT.size
 refine Al (.agg #[(.int .i64 0),(.int .i64 0)]) hs1.sat rfl fun br w2 hs2 hor er=>?_
 have:=hs2.size
 have:=hor.1.lt
 refine Nar rfl Z fun Z=>Qf 0 rfl<|Qc 1 rfl (BD hs2 hb1 rfl)<|Qq rfl (qf rfl)<|Qm rfl<|as_h rfl (h_invoke (f:=234) (r:= .agg #[.pointer q]) V rfl rfl V ?_)
 have h:=h.mono hs1.le
 refine (r_min hs2.sat h).mono ?_
 rintro _ w3 ⟨rfl,hs3⟩
 have:=hs3.size
 refine Qe rfl<|Qe rfl ?_
 have hor:=hor.t hs3
 refine St hs3.sat hor rfl fun w4 hs4 hor=>?_
 have:=hs4.size
 refine Na rfl Z<|cw_ret ?_
 have hT:=hT.t hs2 |>.t hs3 |>.o hs4
 exact ⟨_,(Rc 2 rfl (OD hor rfl) (Rt rfl)),rfl,hT.forget⟩
theorem wf_insert {x:El} {t:Bt} {q:Option Addr} (hs:Sat M w) (h:BRep 347 381 383 M t q) (hz:RT.sizes t.queue<1000000000):
  Dz 290 #[.agg #[.pointer q],mval mb, .agg (elc x).toArray] w (fun v w'=>∃ q M',v = .iface 174 (.agg #[.pointer q])∧StepC Nope (t.insertC x) M w M' w'∧BRep 347 381 383 M' (Bt.insert x t) q):=by
 have hT:=hs.r
 refine Fe Tryz.func290 [.tmp 6] rfl<|Ri fun Z=>Bm hs rfl fun b1 M1 w1 hs1 hb1 e1=>Bm hs1.sat rfl fun b2 M2 w2 hs2 hb2 e2=>Nar rfl Z fun Z=>Qf 0 rfl ?_
 have hb1:=hs2.le _ _ hb1
 refine Qc 1 rfl (BD hs2 hb1 rfl)<|Qq rfl (qf rfl)<|Qm rfl<|Qc 2 rfl (BD hs2 hb2 rfl)<|as_h rfl (h_invoke (f:=245) (r:= .agg #[.pointer q]) V rfl rfl V ?_)
 have h:=h.mono hs1.le |>.mono hs2.le
 refine (bo_insert (x:=x) hs2.sat h hz).mono ?_
 rintro _ w3 ⟨qn,Mn,rfl,hs3,hn⟩
 refine Qq rfl (q_build (zs:=[(.pointer none)]) (places:=[(0,1)]) (cs:=[_]) V V rfl rfl)<|Qq rfl (qf rfl)<|Na rfl Z<|cw_ret ?_
 have hT:=hT.t hs1 |>.t hs2 |>.t hs3
 exact ⟨_,Rt rfl,_,_,rfl,hT.to O,hn⟩
theorem wf_meld {t u:Bt} {q q2:Option Addr} (hs:Sat M w) (h:BRep 347 381 383 M t q) (h2:BRep 347 381 383 M u q2) (hz:RT.sizes t.queue<1000000000) (hzu:RT.sizes u.queue<1000000000):
  Dz 291 #[.agg #[.pointer q],mval mb, .iface 174 (.agg #[.pointer q2])] w (fun v w'=>∃ q M',v = .iface 174 (.agg #[.pointer q])∧StepC Nope (t.meldC u) M w M' w'∧BRep 347 381 383 M' (t.meld u) q):=by
 have hT:=hs.r
 refine Fe Tryz.func291 [.tmp 6] rfl<|Ri fun Z=>Bm hs rfl fun b1 M1 w1 hs1 hb1 e1=>?_
 have:=hs1.size
 refine Nar rfl Z fun Z=>Qm rfl<|Qq rfl (q_isT V rfl)<|Qm rfl<|Qe rfl<|Qe rfl ?_
 have hT:=hT.t hs1
 have:=hT.size
 refine Al (.agg #[(.pointer none)]) hs1.sat rfl fun bo w2 hs2 hoo eo=>?_
 have:=hs2.size
 have:=hoo.1.lt
 refine St hs2.sat hoo rfl fun w3 hs3 hoo=>?_
 have:=hs3.size
 refine Na rfl Z<|cw_seq fun _ hK3=>Ri fun Z=>Qm rfl<|Qq rfl (q_not rfl)<|Nx Z<|cw_false rfl<|cw_skip<|hK3 _ _<|Ri fun Z=>Qf 0 rfl<|Qc 1 rfl (BD hs3 hb1 rfl)<|Qq rfl (qf rfl)<|Qm rfl<|Qf 0 rfl<|Qc 1 rfl (OD hoo rfl)<|as_h rfl (h_invoke (f:=247) (r:= .agg #[.pointer q]) V rfl rfl V ?_)
 have h:=h.mono hs1.le
 have h2:=h2.mono hs1.le
 refine (bo_meld hs3.sat h h2 hz hzu).mono ?_
 rintro _ w4 ⟨qn,Mn,rfl,hs4,hn⟩
 have:=hs4.size
 refine Qq rfl (q_build (zs:=[(.pointer none)]) (places:=[(0,1)]) (cs:=[_]) V V rfl rfl)<|Qq rfl (qf rfl)<|Na rfl Z<|cw_ret ?_
 have hT:=hT.t hs2 |>.o hs3 |>.t hs4
 exact ⟨_,Rt rfl,_,_,rfl,hT.to O,hn⟩
theorem wf_min {x:El} {ts:List (RT Bt)} {q:Option Addr} (hs:Sat M w) (h:BRep 347 381 383 M (Bt.node x ts) q):
  Dz 292 #[.agg #[.pointer q],mval mb] w (fun v w'=>v = .tuple #[.agg (elc x).toArray, .bool true]∧Step Nope M w M w'):=by
 have hT:=hs.r
 refine Fe Tryz.func292 [.cell 4 29, .tmp 5] rfl<|Ri fun Z=>Bm hs rfl fun b1 M1 w1 hs1 hb1 e1=>?_
 have:=hs1.size
 have hT:=hT.t hs1
 have:=hT.size
 refine Al (.agg #[(.int .i64 0),(.int .i64 0)]) hs1.sat rfl fun br w2 hs2 hor er=>?_
 have:=hs2.size
 have:=hor.1.lt
 refine Nar rfl Z fun Z=>Qf 0 rfl<|Qc 1 rfl (BD hs2 hb1 rfl)<|Qq rfl (qf rfl)<|Qm rfl<|as_h rfl (h_invoke (f:=248) (r:= .agg #[.pointer q]) V rfl rfl V ?_)
 have h:=h.mono hs1.le
 refine (bo_min hs2.sat h).mono ?_
 rintro _ w3 ⟨rfl,hs3⟩
 have:=hs3.size
 refine Qe rfl<|Qe rfl ?_
 have hor:=hor.t hs3
 refine St hs3.sat hor rfl fun w4 hs4 hor=>?_
 have:=hs4.size
 refine Na rfl Z<|cw_ret ?_
 have hT:=hT.t hs2 |>.t hs3 |>.o hs4
 exact ⟨_,(Rc 2 rfl (OD hor rfl) (Rt rfl)),rfl,hT.forget⟩
end Go.Proofs.YtnnldppehojffaaGreat
/- Pairing heaps without their least element, part 1. -/
namespace Go.Proofs.YtnnldppehojffaaGreat
open Go Go.Eng
variable {mb:Option Nat} {w:World} {M:Mem mb}
theorem pr_meld_ne {a b:Pr} (h:a≠ .nil):a.meld b≠ .nil:=by
 unfold Pr.meld
 split
 ·exact absurd rfl h
 ·simp
 ·split <;> simp
theorem preps_snoc {M:Raw} {k:Pr} {q:Option Addr}:∀ {l:List Pr} {al:List (Option Addr)},PReps 307 314 M l al→k≠ .nil→PRep 307 314 M k q→PReps 307 314 M (l++[k]) (al++[q])
 | [],_,h,hk,hq=>by rw [preps_nil.1 h]; exact preps_cons.2 ⟨hk,_,_,rfl,hq,preps_nil.2 rfl⟩
 | _::_,_,h,hk,hq=>by
  obtain ⟨h1,a,s,rfl,h2,h3⟩:=preps_cons.1 h
  exact preps_cons.2 ⟨h1,_,_,rfl,h2,preps_snoc h3 hk hq⟩
theorem preps_get {M:Raw}:∀ {l:List Pr} {al:List (Option Addr)} {i:Nat} {k:Pr},PReps 307 314 M l al→l[i]? = some k→∃ a,al[i]? = some a∧PRep 307 314 M k a
 | _::_,_,0,_,h,hi=>by cases hi; obtain ⟨_,a,s,rfl,h2,_⟩:=preps_cons.1 h; exact ⟨a,rfl,h2⟩
 | _::_,_,i+1,_,h,hi=>by
  obtain ⟨_,a,s,rfl,_,h3⟩:=preps_cons.1 h
  obtain ⟨c,h4,h5⟩:=preps_get (i:=i) h3 (by simpa using hi)
  exact ⟨c,by simpa using h4,h5⟩
theorem pr_sizes_append (l r:List Pr):Pr.sizes (l++r)=Pr.sizes l+Pr.sizes r:=by
 induction l with
 | nil=>simp [Pr.sizes]
 | cons k l ih=>simp only [List.cons_append,Pr.sizes,ih]; omega
theorem cells_one {b o:Nat} {v:Value} {w:World} (h:w.cell? ⟨b,o,none⟩=some v):cellsAre b o 1 [v] w:=⟨rfl,fun j u hj=>by
 cases j with
 | zero=>cases hj; exact h
 | succ j=>simp at hj⟩
theorem p_pair {ks:List Pr} {l:List (Option Addr)} {q:Option Addr} (hs:Sat M w) (hcl:CRep 314 M l (.pointer q)) (hk:PReps 307 314 M ks l) (hz:Pr.sizes ks≤1000000000):
  Dz 200 #[mval mb, .agg #[.pointer q]] w (fun v w'=>∃ q M',v = .agg #[.pointer q]∧StepC Nope (Pr.pairC ks) M w M' w'∧PRep 307 314 M' (Pr.pair ks) q):=by
 have hT:=hs.r
 refine Fe Tryz.func200 [.cell 4 158] rfl<|Ri fun Z=>?_
 have:=hT.size
 refine Bo hs rfl fun bl w1 hs1 hol el=>?_
 have hz1:=hs1.size
 have:=hol.1.lt
 have hT:=hT.t hs1
 have:=hT.size
 refine Al (.agg #[(.pointer none)]) hs1.sat rfl fun br w2 hs2 hor er=>?_
 have hz2:=hs2.size
 have:=hor.1.lt
 refine Nr Z fun Z=>Nar rfl Z fun Z=>Na rfl Z<|cw_seq fun _ hK4=>cw_block ?_
 have hol:=hol.t hs2
 have hT:=hT.t hs2
 refine cw_loop (fun mm l1 w1=>∃ (ms rest:List Pr) (al l:List (Option Addr)) (q sa:Option Addr) (sc n c:Nat) (M1:Mem mb),Pr.pairC ks=c+(Pr.pairC rest+Pr.foldC ms (Pr.pair rest))∧mm=rest.length∧n=ms.length∧Pr.pair ks=ms.foldr Pr.meld (Pr.pair rest)∧Pr.sizes ms+Pr.sizes rest≤1000000000∧l1=[(0,mval mb),(3, .pointer (some ⟨bl,0,none⟩)),(4, .pointer (some ⟨br,0,none⟩)),(5, .func (.func 194) #[] #[]),(6, .slice sa n sc)]∧StepC Nope c M w M1 w1∧w2.heap.size≤w1.heap.size∧Buf w1 M1 158 1 (.slice sa n sc) n (ptrs al)∧PReps 307 314 M1 ms al∧CRep 314 M1 l (.pointer q)∧PReps 307 314 M1 rest l∧Own w1 M1 bl [.pointer q] 305∧Own w1 M1 br [.pointer none] 158∧(∀ g,(Value.slice sa n sc).ownBlock=some g→w2.heap.size≤g)) (ks.length) [(0,mval mb),(3, .pointer (some ⟨bl,0,none⟩)),(4, .pointer (some ⟨br,0,none⟩)),(5, .func (.func 194) #[] #[]),(6, .slice none (0:Nat) 0)] (.cons rfl (.cons rfl (.cons rfl (.cons rfl (.cons rfl (.nil _)))))) ?_ ?_
 ·exact ⟨[],ks,[],l,q,none,0,0,0,M,by simp [Pr.foldC],rfl,rfl,rfl,by simpa [Pr.sizes] using hz,rfl,hT,Nat.le_refl _,Buf.nil _ _ _ _,preps_nil.2 rfl,hcl,hk,hol,hor,fun g hg=>by cases hg⟩
 have hblw:w.heap.size≤bl∧w.heap.size≤br∧br≠bl:=by omega
 clear hT hcl hk hol hor
 rintro mm l1 w1 ⟨ms,rest,al,l,q,sa,sc,n,c,M1,hcst,rfl,rfl,hmod,hzz,rfl,hT,hws,hbu,hmk,hcl,hk,hol,hor,hfr⟩
 have hmz:=hmk.small
 have hml:=hmk.length
 refine cw_seq fun _ hK5=>?_
 rcases rest with _ | ⟨a,_ | ⟨b,rest⟩⟩
 ·have hl0:=preps_nil.1 hk
  subst hl0
  have hq0:q=none:=by
   have h:Value.pointer q = .pointer none:=hcl
   cases h; rfl
  subst hq0
  refine Ri fun Z=>Qc 1 rfl (OD hol rfl)<|Ca rfl ((cp_len hT.sat hcl).mono ?_)
  rintro _ w3 ⟨rfl,hs3⟩
  have:=hs3.size
  refine Qq rfl (q_gt rfl rfl)<|Nx Z<|cw_false rfl<|cw_exit<|hK4 _ _<|Ri fun Z=>?_
  have hol:=hol.t hs3
  refine Qc 1 rfl (OD hol rfl)<|Ca rfl ((cp_first_n hs3.sat).mono ?_)
  rintro _ w4 ⟨rfl,hs4⟩
  have:=hs4.size
  refine Qm rfl<|Qe rfl<|Qe rfl ?_
  have hbu:=hbu.t hs3 |>.t hs4
  have hblt:=hbu.lt
  have hT:=hT.t hs3 |>.t hs4
  have hqaz:=hT.size
  refine Al (.agg #[(.pointer none)]) hs4.sat rfl fun bz w5 hs5 hoz ez=>?_
  have:=hs5.size
  have hlz:=hoz.1.lt
  refine St hs5.sat hoz rfl fun w6 hs6 hoz=>?_
  have:=hs6.size
  refine Na rfl Z<|cw_seq fun _ hK8=>Ri fun Z=>Qm rfl<|Qq rfl (ql rfl)<|Qq rfl (qS rfl)<|Na rfl Z<|cw_block ?_
  have hor:=hor.t hs3 |>.t hs4 |>.t hs5 |>.u hs6
  have hol:=hol.t hs4 |>.t hs5 |>.u hs6
  have hbu:=hbu.t hs5 |>.step hs6 (fun g hg h=>by have h:g=bz:=h; have:=hblt g hg; omega)
  have hT:=hT.t hs5 |>.o hs6
  refine cw_loop (fun mm l1 w1=>∃ (z:Int) (out:Pr) (oq:Option Addr) (c:Nat) (M2:Mem mb),Pr.pairC ks=c+Pr.foldC (ms.take (z+1).toNat) out∧mm=(z+1).toNat∧ -1≤z∧z<ms.length∧Pr.pair ks=(ms.take (z+1).toNat).foldr Pr.meld out∧Pr.sizes (ms.take (z+1).toNat)+out.size≤1000000000∧l1=[(0,mval mb),(4, .pointer (some ⟨br,0,none⟩)),(5, .func (.func 194) #[] #[]),(6, .slice sa ms.length sc),(11, .pointer (some ⟨bz,0,none⟩)),(13, .int .i64 z)]∧StepC Nope c M w M2 w1∧PRep 307 314 M2 out oq∧Own w1 M2 bz [.pointer oq] 158∧Own w1 M2 br [.pointer none] 158∧Buf w1 M2 158 1 (.slice sa ms.length sc) ms.length (ptrs al)∧PReps 307 314 M2 ms al) (ms.length) [(0,mval mb),(4, .pointer (some ⟨br,0,none⟩)),(5, .func (.func 194) #[] #[]),(6, .slice sa ms.length sc),(11, .pointer (some ⟨bz,0,none⟩)),(13, .int .i64 ((ms.length:Int)-1))] (.cons rfl (.cons rfl (.cons rfl (.cons rfl (.cons rfl (.cons rfl (.nil _))))))) ?_ ?_
  ·refine ⟨(ms.length:Int)-1,Pr.nil,none,_,_,?_,by omega,by omega,by omega,?_,?_,rfl,hT,prep_nil.2 rfl,hoz,hor,hbu,hmk⟩
   ·rw [List.take_of_length_le O,hcst]; simp only [Pr.pairC,Pr.pair]; omega
   ·rw [List.take_of_length_le O,hmod]; rfl
   ·rw [List.take_of_length_le O]; simp only [Pr.sizes,Pr.size] at hzz ⊢; omega
  have hbzw:w.heap.size≤bz∧bz≠br:=by omega
  have hwz:bz<w6.heap.size∧br<w6.heap.size:=⟨hoz.1.lt,hor.1.lt⟩
  have hbz2:∀ g,(Value.slice sa ms.length sc).ownBlock=some g→g≠bz∧g≠br:=fun g hg=>⟨fun h=>by have:=hbu.lt g hg; have:=hblt g hg; omega,fun h=>by have:=hfr g hg; omega⟩
  clear hT hoz hor hbu hmk
  rintro mm l1 w2 ⟨z,out,oq,c2,M2,hcst2,rfl,hz1,hz2,hmod2,hzz2,rfl,hT,hou,hoz,hor,hbu,hmk⟩
  refine cw_seq fun _ hK10=>Ri fun Z=>Qm rfl<|Qq rfl (q_ge rfl rfl)<|Nx Z<|cw_cond rfl (fun hc1=>?_) (fun hc1=>?_)
  ·have hc1:=of_decide_eq_true hc1
   obtain ⟨m,hm⟩:∃ m,ms[z.toNat]? = some m:=⟨ms[z.toNat]'O,by simp⟩
   have htk:ms.take (z+1).toNat=ms.take z.toNat++[m]:=by rw [show (z+1).toNat=z.toNat+1 by omega,List.take_add_one,hm]; rfl
   have hsz:=pr_sizes_append (ms.take z.toNat) [m]
   rw [← htk] at hsz
   have hsz1:Pr.sizes [m]=m.size+0:=rfl
   obtain ⟨mq,hmq,hmr⟩:=preps_get hmk hm
   obtain ⟨g,o,rfl⟩:=hbu.rd.there O
   refine cw_skip<|hK10 _ _<|cw_seq fun _ hK12=>cw_block<|cw_drawn V V V rfl rfl fun K13 hK13=>?_
   have hs7:=Step.drew hT.sat
   have:=hs7.size
   refine Gm 0 1 rfl<|Gm 1 3 rfl<|Gm 2 7 rfl<|Gq 3 15 rfl (fun _=>qi 158 1 rfl) ?_
   have hbu:=hbu.t hs7
   refine Gc 4 31 1 rfl (cells_one (Buf.cell hbu (u:= .pointer mq) (j:=z.toNat*1) (by simp [ptrs,hmq])))<|Gm 5 63 rfl ?_
   have hoz:=hoz.t hs7
   refine Gc 6 127 1 rfl (OD hoz rfl)<|Gh 7 255 rfl (Ks [T,T]) (h_callv (f:=194) (first:=[]) (cap:=[]) V rfl rfl rfl ?_)
   refine (p_meld (t:=m) (o:=out) hs7.sat hmr hou O).mono ?_
   rintro _ w8 ⟨nq,nM,rfl,hs8,hn⟩
   have:=hs8.size
   refine ⟨trivial,?_⟩
   have hoz:=hoz.t hs8
   refine G0 8 511 rfl rfl (h_store hs8.sat hoz rfl rfl rfl V rfl rfl rfl fun w9 hs9 hn9=>?_)
   clear hoz; have hoz:=hn9; clear hn9
   have:=hs9.size
   refine ⟨trivial,?_⟩
   refine Dd V (hK13 _ _ ?_)
   refine hK12 _ _<|cw_region fun _ Z=>Qm rfl<|Qq rfl (qS rfl)<|Qa rfl<|as_nil (Z _ _ ?_)
   have hor:=hor.t hs7 |>.t hs8 |>.u hs9
   have hT:=hT.t hs7 |>.t hs8 |>.o hs9
   have hbu:=hbu.t hs8 |>.step hs9 (fun g hg h=>(hbz2 g hg).1 h)
   have hmk:=hmk.mono hs8.le
   have hou:=hou.mono hs8.le
   refine ⟨_,_,?_,(.cons rfl (.cons rfl (.cons rfl (.cons rfl (.cons rfl (.cons rfl (.nil _))))))),_,m.meld out,_,_,_,?_,rfl,?_,?_,?_,?_,rfl,hT,hn,hoz,hor,hbu,hmk⟩
   ·omega
   ·rw [hcst2,htk,show (z-1+1).toNat=z.toNat by omega,Pr.foldC_snoc]; omega
   ·omega
   ·omega
   ·rw [hmod2,htk,show (z-1+1).toNat=z.toNat by omega,List.foldr_append]; rfl
   ·rw [show (z-1+1).toNat=z.toNat by omega,Pr.meld_size]; omega
  ·have hc1:=of_decide_eq_false hc1
   refine cw_exit<|hK8 _ _<|Ri fun Z=>Qc 1 rfl (OD hoz rfl)<|St hT.sat hor rfl fun w10 hs10 hor=>?_
   have:=hs10.size
   refine Nx Z<|cw_ret ?_
   rw [hmod2,show (z+1).toNat=0 by omega,List.take_zero]
   have hT:=hT.o hs10
   exact ⟨_,(Rc 1 rfl (OD hor rfl) res_nil),_,_,rfl,hT.to (by rw [hcst2,show (z+1).toNat=0 by omega,List.take_zero]; rfl),hou⟩
 ·have hsz1:Pr.sizes [a]=a.size+0:=rfl
  obtain ⟨hna,qa,l2,rfl,hka,hk2⟩:=preps_cons.1 hk
  have hl0:=preps_nil.1 hk2
  subst hl0
  clear hk2
  refine Ri fun Z=>Qc 1 rfl (OD hol rfl)<|Ca rfl ((cp_len hT.sat hcl).mono ?_)
  rintro _ w11 ⟨rfl,hs11⟩
  have:=hs11.size
  refine Qq rfl (q_gt rfl rfl)<|Nx Z<|cw_false rfl<|cw_exit<|hK4 _ _<|Ri fun Z=>?_
  have hol:=hol.t hs11
  refine Qc 1 rfl (OD hol rfl)<|Ca rfl ((cp_first hs11.sat hcl).mono ?_)
  rintro _ w12 ⟨rfl,hs12⟩
  have:=hs12.size
  refine Qm rfl<|Qe rfl<|Qe rfl ?_
  have hbu:=hbu.t hs11 |>.t hs12
  have hblt:=hbu.lt
  have hT:=hT.t hs11 |>.t hs12
  have hqaz:=hT.size
  refine Al (.agg #[(.pointer none)]) hs12.sat rfl fun bz w13 hs13 hoz ez=>?_
  have:=hs13.size
  have hlz:=hoz.1.lt
  refine St hs13.sat hoz rfl fun w14 hs14 hoz=>?_
  have:=hs14.size
  refine Na rfl Z<|cw_seq fun _ hK18=>Ri fun Z=>Qm rfl<|Qq rfl (ql rfl)<|Qq rfl (qS rfl)<|Na rfl Z<|cw_block ?_
  have hor:=hor.t hs11 |>.t hs12 |>.t hs13 |>.u hs14
  have hol:=hol.t hs12 |>.t hs13 |>.u hs14
  have hbu:=hbu.t hs13 |>.step hs14 (fun g hg h=>by have h:g=bz:=h; have:=hblt g hg; omega)
  have hT:=hT.t hs13 |>.o hs14
  refine cw_loop (fun mm l1 w1=>∃ (z:Int) (out:Pr) (oq:Option Addr) (c:Nat) (M2:Mem mb),Pr.pairC ks=c+Pr.foldC (ms.take (z+1).toNat) out∧mm=(z+1).toNat∧ -1≤z∧z<ms.length∧Pr.pair ks=(ms.take (z+1).toNat).foldr Pr.meld out∧Pr.sizes (ms.take (z+1).toNat)+out.size≤1000000000∧l1=[(0,mval mb),(4, .pointer (some ⟨br,0,none⟩)),(5, .func (.func 194) #[] #[]),(6, .slice sa ms.length sc),(11, .pointer (some ⟨bz,0,none⟩)),(13, .int .i64 z)]∧StepC Nope c M w M2 w1∧PRep 307 314 M2 out oq∧Own w1 M2 bz [.pointer oq] 158∧Own w1 M2 br [.pointer none] 158∧Buf w1 M2 158 1 (.slice sa ms.length sc) ms.length (ptrs al)∧PReps 307 314 M2 ms al) (ms.length) [(0,mval mb),(4, .pointer (some ⟨br,0,none⟩)),(5, .func (.func 194) #[] #[]),(6, .slice sa ms.length sc),(11, .pointer (some ⟨bz,0,none⟩)),(13, .int .i64 ((ms.length:Int)-1))] (.cons rfl (.cons rfl (.cons rfl (.cons rfl (.cons rfl (.cons rfl (.nil _))))))) ?_ ?_
  ·refine ⟨(ms.length:Int)-1,a,qa,_,_,?_,by omega,by omega,by omega,?_,?_,rfl,hT,hka,hoz,hor,hbu,hmk⟩
   ·rw [List.take_of_length_le O,hcst]; simp only [Pr.pairC,Pr.pair]; omega
   ·rw [List.take_of_length_le O,hmod]; rfl
   ·rw [List.take_of_length_le O]; simp only [Pr.sizes,Pr.size] at hzz ⊢; omega
  have hbzw:w.heap.size≤bz∧bz≠br:=by omega
  have hwz:bz<w14.heap.size∧br<w14.heap.size:=⟨hoz.1.lt,hor.1.lt⟩
  have hbz2:∀ g,(Value.slice sa ms.length sc).ownBlock=some g→g≠bz∧g≠br:=fun g hg=>⟨fun h=>by have:=hbu.lt g hg; have:=hblt g hg; omega,fun h=>by have:=hfr g hg; omega⟩
  clear hT hoz hor hbu hmk
  rintro mm l1 w2 ⟨z,out,oq,c2,M2,hcst2,rfl,hz1,hz2,hmod2,hzz2,rfl,hT,hou,hoz,hor,hbu,hmk⟩
  refine cw_seq fun _ hK20=>Ri fun Z=>Qm rfl<|Qq rfl (q_ge rfl rfl)<|Nx Z<|cw_cond rfl (fun hc1=>?_) (fun hc1=>?_)
  ·have hc1:=of_decide_eq_true hc1
   obtain ⟨m,hm⟩:∃ m,ms[z.toNat]? = some m:=⟨ms[z.toNat]'O,by simp⟩
   have htk:ms.take (z+1).toNat=ms.take z.toNat++[m]:=by rw [show (z+1).toNat=z.toNat+1 by omega,List.take_add_one,hm]; rfl
   have hsz:=pr_sizes_append (ms.take z.toNat) [m]
   rw [← htk] at hsz
   have hsz1:Pr.sizes [m]=m.size+0:=rfl
   obtain ⟨mq,hmq,hmr⟩:=preps_get hmk hm
   obtain ⟨g,o,rfl⟩:=hbu.rd.there O
   refine cw_skip<|hK20 _ _<|cw_seq fun _ hK22=>cw_block<|cw_drawn V V V rfl rfl fun K23 hK23=>?_
   have hs15:=Step.drew hT.sat
   have:=hs15.size
   refine Gm 0 1 rfl<|Gm 1 3 rfl<|Gm 2 7 rfl<|Gq 3 15 rfl (fun _=>qi 158 1 rfl) ?_
   have hbu:=hbu.t hs15
   refine Gc 4 31 1 rfl (cells_one (Buf.cell hbu (u:= .pointer mq) (j:=z.toNat*1) (by simp [ptrs,hmq])))<|Gm 5 63 rfl ?_
   have hoz:=hoz.t hs15
   refine Gc 6 127 1 rfl (OD hoz rfl)<|Gh 7 255 rfl (Ks [T,T]) (h_callv (f:=194) (first:=[]) (cap:=[]) V rfl rfl rfl ?_)
   refine (p_meld (t:=m) (o:=out) hs15.sat hmr hou O).mono ?_
   rintro _ w16 ⟨nq,nM,rfl,hs16,hn⟩
   have:=hs16.size
   refine ⟨trivial,?_⟩
   have hoz:=hoz.t hs16
   refine G0 8 511 rfl rfl (h_store hs16.sat hoz rfl rfl rfl V rfl rfl rfl fun w17 hs17 hn17=>?_)
   clear hoz; have hoz:=hn17; clear hn17
   have:=hs17.size
   refine ⟨trivial,?_⟩
   refine Dd V (hK23 _ _ ?_)
   refine hK22 _ _<|cw_region fun _ Z=>Qm rfl<|Qq rfl (qS rfl)<|Qa rfl<|as_nil (Z _ _ ?_)
   have hor:=hor.t hs15 |>.t hs16 |>.u hs17
   have hT:=hT.t hs15 |>.t hs16 |>.o hs17
   have hbu:=hbu.t hs16 |>.step hs17 (fun g hg h=>(hbz2 g hg).1 h)
   have hmk:=hmk.mono hs16.le
   have hou:=hou.mono hs16.le
   refine ⟨_,_,?_,(.cons rfl (.cons rfl (.cons rfl (.cons rfl (.cons rfl (.cons rfl (.nil _))))))),_,m.meld out,_,_,_,?_,rfl,?_,?_,?_,?_,rfl,hT,hn,hoz,hor,hbu,hmk⟩
   ·omega
   ·rw [hcst2,htk,show (z-1+1).toNat=z.toNat by omega,Pr.foldC_snoc]; omega
   ·omega
   ·omega
   ·rw [hmod2,htk,show (z-1+1).toNat=z.toNat by omega,List.foldr_append]; rfl
   ·rw [show (z-1+1).toNat=z.toNat by omega,Pr.meld_size]; omega
  ·have hc1:=of_decide_eq_false hc1
   refine cw_exit<|hK18 _ _<|Ri fun Z=>Qc 1 rfl (OD hoz rfl)<|St hT.sat hor rfl fun w18 hs18 hor=>?_
   have:=hs18.size
   refine Nx Z<|cw_ret ?_
   rw [hmod2,show (z+1).toNat=0 by omega,List.take_zero]
   have hT:=hT.o hs18
   exact ⟨_,(Rc 1 rfl (OD hor rfl) res_nil),_,_,rfl,hT.to (by rw [hcst2,show (z+1).toNat=0 by omega,List.take_zero]; rfl),hou⟩
 ·have hsz1:Pr.sizes (a::b::rest)=a.size+(b.size+Pr.sizes rest):=rfl
  obtain ⟨hna,qa,l2,rfl,hka,hk1⟩:=preps_cons.1 hk
  obtain ⟨hnb,qb,l3,rfl,hkb,hk2⟩:=preps_cons.1 hk1
  clear hk1
  have hlc:(qa::qb::l3).length=l3.length+2:=rfl
  refine Ri fun Z=>Qc 1 rfl (OD hol rfl)<|Ca rfl ((cp_len hT.sat hcl).mono ?_)
  rintro _ w19 ⟨rfl,hs19⟩
  have:=hs19.size
  refine Qq rfl (qGT rfl)<|Nx Z<|cw_true rfl<|cw_skip<|hK5 _ _<|cw_block<|Ri fun Z=>?_
  have hol:=hol.t hs19
  refine Qc 1 rfl (OD hol rfl)<|Ca rfl ((cp_first hs19.sat hcl).mono ?_)
  rintro _ w20 ⟨rfl,hs20⟩
  have:=hs20.size
  refine Qm rfl<|Qe rfl<|Qe rfl ?_
  have hbu:=hbu.t hs19 |>.t hs20
  have hblt:=hbu.lt
  have hT:=hT.t hs19 |>.t hs20
  have:=hT.size
  refine Al (.agg #[(.pointer none)]) hs20.sat rfl fun bx w21 hs21 hox ex=>?_
  have:=hs21.size
  have:=hox.1.lt
  refine St hs21.sat hox rfl fun w22 hs22 hox=>?_
  have:=hs22.size
  refine Nar rfl Z fun Z=>?_
  have hol:=hol.t hs20 |>.t hs21 |>.u hs22
  refine Qc 1 rfl (OD hol rfl)<|Ca rfl ((cp_rest hs22.sat hcl).mono ?_)
  rintro _ w23 ⟨qr,rfl,hs23,hcr⟩
  have:=hs23.size
  refine Ca rfl ((cp_first hs23.sat hcr).mono ?_)
  rintro _ w24 ⟨rfl,hs24⟩
  have:=hs24.size
  refine Qm rfl<|Qe rfl<|Qe rfl ?_
  have hbu:=hbu.t hs21 |>.step hs22 (fun g hg h=>by have h:g=bx:=h; have:=hblt g hg; omega) |>.t hs23 |>.t hs24
  have hblt:=hbu.lt
  have hT:=hT.t hs21 |>.o hs22 |>.t hs23 |>.t hs24
  have:=hT.size
  refine Al (.agg #[(.pointer none)]) hs24.sat rfl fun bv w25 hs25 hov ev=>?_
  have:=hs25.size
  have:=hov.1.lt
  refine St hs25.sat hov rfl fun w26 hs26 hov=>?_
  have:=hs26.size
  refine Nar rfl Z fun Z=>Qm rfl<|Qm rfl ?_
  have hox:=hox.t hs23 |>.t hs24 |>.t hs25 |>.u hs26
  refine Qc 1 rfl (OD hox rfl)<|Qm rfl<|Qc 1 rfl (OD hov rfl)<|as_h rfl (h_callv (f:=194) (first:=[]) (cap:=[]) V rfl rfl rfl ?_)
  refine (p_meld (t:=a) (o:=b) hs26.sat hka hkb O).mono ?_
  rintro _ w27 ⟨nq,nM,rfl,hs27,hn⟩
  have:=hs27.size
  refine as_h rfl (h_buildO (e:=158) (size:=1) (zs:=[.pointer none]) (cs:=[_]) V V V rfl hs27.sat rfl rfl fun bB w28 hs28 hoB eB=>?_)
  have:=hs28.size
  have hrx:=Buf.rd (Own.buf hoB (n:=1) (size:=1) rfl (by decide))
  have hT:=hT.t hs25 |>.o hs26 |>.t hs27 |>.t hs28
  have hTq:=hT.size
  have hbu:=hbu.t hs25 |>.step hs26 (fun g hg h=>by have h:g=bv:=h; have:=hblt g hg; omega) |>.t hs27 |>.t hs28
  refine as_h rfl (h_append (e:=158) (size:=1) (bytes:=8) V hs28.sat hbu hrx rfl rfl (fun y hy=>by obtain rfl:=List.mem_singleton.1 hy; rfl) O rfl fun sv w29 hs29 hbu2 hor2=>?_)
  have hox:=hox.t hs27 |>.t hs28
  clear hox
  have hov:=hov.t hs27 |>.t hs28
  clear hov
  have hk:=hk.mono hs27.le |>.mono hs29.le
  have hT:=hT.trans hs29 (fun k hk h=>by have:=hfr k h; omega)
  have:=hs29.size
  have hor:=hor.t hs19 |>.t hs20 |>.t hs21 |>.u hs22 |>.t hs23 |>.t hs24 |>.t hs25 |>.u hs26 |>.t hs27 |>.t hs28 |>.step hs29 (fun h=>by have:=hfr _ h; omega)
  have hol:=hol.t hs23 |>.t hs24 |>.t hs25 |>.u hs26 |>.t hs27 |>.t hs28 |>.step hs29 (fun h=>by have:=hfr _ h; omega)
  have hmk:=hmk.mono hs27.le |>.mono hs29.le
  have hcl:=hcl.mono hs27.le |>.mono hs29.le
  have hk2:=hk2.mono hs27.le |>.mono hs29.le
  have hn:=hn.mono hs29.le
  have hfr2:∀ g,sv.ownBlock=some g→w2.heap.size≤g:=fun g hg=>by
   rcases hor2 with h | h
   ·rw [h] at hg; exact hfr g hg
   ·rw [h] at hg; have h2:=Option.some.inj hg; omega
  clear hbu
  have hbu:=hbu2
  clear hfr
  have hfr:=hfr2
  obtain ⟨sva,svc,rfl,_,_⟩:=hbu.slice
  refine Na rfl Z<|cw_region fun _ Z=>Qc 1 rfl (OD hol rfl)<|Ca rfl ((cp_drop (n:=2) hs29.sat hcl (by decide)).mono ?_)
  rintro _ w30 ⟨qd,rfl,hs30,hcd⟩
  replace hcd:CRep 314 _ l3 (.pointer qd):=hcd
  have:=hs30.size
  have hol:=hol.t hs30
  refine St hs30.sat hol rfl fun w31 hs31 hol=>?_
  have:=hs31.size
  refine as_nil (Z _ _ ?_)
  have hor:=hor.t hs30 |>.u hs31
  have hbu:=hbu.t hs30 |>.step hs31 (fun g hg h=>by have h:g=bl:=h; have:=hfr g hg; omega)
  have hT:=hT.t hs30 |>.o hs31
  refine ⟨_,_,?_,(.cons rfl (.cons rfl (.cons rfl (.cons rfl (.cons rfl (.nil _)))))),ms++[a.meld b],rest,al++[nq],l3,_,_,_,_,_,_,?_,rfl,by simp,?_,?_,rfl,hT,by omega,?_,preps_snoc hmk (pr_meld_ne hna) hn,hcd,hk2,hol,hor,hfr⟩
  ·simp only [List.length_cons]; omega
  ·rw [hcst,Pr.foldC_snoc,Pr.pairC,Pr.pair]; omega
  ·rw [hmod,List.foldr_append]; rfl
  ·rw [pr_sizes_append]; simp only [Pr.sizes,Pr.meld_size] at hzz ⊢; omega
  ·simpa [ptrs] using hbu
theorem p_pop {x:El} {ks:List Pr} {q:Option Addr} (hs:Sat M w) (h:PRep 307 314 M (.node x ks) q) (hz:(Pr.node x ks).size≤1000000000):
  Dz 196 #[.agg #[.pointer q],mval mb] w (fun v w'=>∃ q M',v = .tuple #[.agg #[.pointer q], .bool true]∧StepC Nope (Pr.pairC ks) M w M' w'∧PRep 307 314 M' (Pr.pair ks) q):=by
 have hT:=hs.r
 obtain ⟨b,kq,al,rfl,hb,hc,hk⟩:=prep_node.1 h
 refine Fe Tryz.func196 [.cell 4 158, .tmp 5] rfl<|Ri fun Z=>Bm hs rfl fun b1 M1 w1 hs1 hb1 e1=>?_
 have:=hs1.size
 have hT:=hT.t hs1
 have:=hT.size
 refine Al (.agg #[(.pointer none)]) hs1.sat rfl fun br w2 hs2 hor er=>?_
 have:=hs2.size
 have:=hor.1.lt
 refine Na rfl Z<|cw_seq fun _ hK2=>Ri fun Z=>Qf 0 rfl<|Q1 rfl (BC hs2 hb1 rfl)<|Qq rfl (qn rfl)<|Nx Z<|cw_false rfl<|cw_skip<|hK2 _ _<|Ri fun Z=>Qm rfl<|Qf 0 rfl<|Q1 rfl (BC hs2 hb1 rfl)<|Qq rfl (q_nilp rfl)<|Qf 2 rfl ?_
 have hb:=hs1.le _ _ hb
 refine Qc 1 rfl (BD hs2 hb rfl) ?_
 have hc:=hc.mono hs1.le
 have hk:=hk.mono hs1.le
 refine Ca rfl ((p_pair hs2.sat hc hk (by simp only [Pr.size] at hz; omega)).mono ?_)
 rintro _ w3 ⟨qm,Mm,rfl,hs3,hm⟩
 have:=hs3.size
 have hor:=hor.t hs3
 refine St hs3.sat hor rfl fun w4 hs4 hor=>?_
 have:=hs4.size
 refine Na rfl Z<|cw_ret ?_
 have hT:=hT.t hs2 |>.t hs3 |>.o hs4
 exact ⟨_,(Rc 1 rfl (OD hor rfl) (Rt rfl)),_,_,rfl,hT.to O,hm⟩
end Go.Proofs.YtnnldppehojffaaGreat
/- Heaps of the kinds without their least element, as heaps of any kind, part 1. -/
namespace Go.Proofs.YtnnldppehojffaaGreat
open Go Go.Eng
variable {mb:Option Nat} {w:World} {M:Mem mb}
theorem wa_pop {x:El} {l r:Lft} {q:Option Addr} (hs:Sat M w) (h:LRep 258 M (.node x l r) (.pointer q)) (hz:(Lft.node x l r).size≤1000000000):
  Dz 148 #[.agg #[.pointer q],mval mb] w (fun v w'=>∃ q M',v = .iface 148 (.agg #[.pointer q])∧StepC Nope (l.meldC r) M w M' w'∧LRep 258 M' (l.meld r) (.pointer q)):=by
 have hT:=hs.r
 refine Fe Tryz.func148 [.tmp 4] rfl<|Ri fun Z=>Bm hs rfl fun b1 M1 w1 hs1 hb1 e1=>?_
 have:=hs1.size
 refine Nar rfl Z fun Z=>Qf 0 rfl<|Qc 1 rfl (BD hs1 hb1 rfl)<|Qq rfl (qf rfl)<|Qm rfl<|as_h rfl (h_invoke (f:=309) (r:= .agg #[.pointer q]) V rfl rfl V ?_)
 have h:=h.mono hs1.le
 refine (l_pop hs1.sat h hz).mono ?_
 rintro _ w2 ⟨pn,Mn,rfl,hs2,hn⟩
 obtain ⟨qn,rfl⟩:=hn.ptr
 have:=hs2.size
 refine Qm rfl<|Qe rfl<|Qe rfl ?_
 have hT:=hT.t hs1 |>.t hs2
 have:=hT.size
 refine Al (.agg #[(.pointer none)]) hs2.sat rfl fun bp w3 hs3 hop ep=>?_
 have:=hs3.size
 have:=hop.1.lt
 refine St hs3.sat hop rfl fun w4 hs4 hop=>?_
 have:=hs4.size
 refine Nar rfl Z fun Z=>Qc 1 rfl (OD hop rfl)<|Qq rfl (q_build (zs:=[(.pointer none)]) (places:=[(0,1)]) (cs:=[_]) V V rfl rfl)<|Qq rfl (qf rfl)<|Na rfl Z<|cw_ret ?_
 have hT:=hT.t hs3 |>.o hs4
 exact ⟨_,Rt rfl,_,_,rfl,hT.to O,hn⟩
theorem wc_pop {x:El} {ks:List Pr} {q:Option Addr} (hs:Sat M w) (h:PRep 307 314 M (.node x ks) q) (hz:(Pr.node x ks).size≤1000000000):
  Dz 208 #[.agg #[.pointer q],mval mb] w (fun v w'=>∃ q M',v = .iface 160 (.agg #[.pointer q])∧StepC Nope (Pr.pairC ks) M w M' w'∧PRep 307 314 M' (Pr.pair ks) q):=by
 have hT:=hs.r
 refine Fe Tryz.func208 [.tmp 4] rfl<|Ri fun Z=>Bm hs rfl fun b1 M1 w1 hs1 hb1 e1=>?_
 have:=hs1.size
 refine Nar rfl Z fun Z=>Qf 0 rfl<|Qc 1 rfl (BD hs1 hb1 rfl)<|Qq rfl (qf rfl)<|Qm rfl<|as_h rfl (h_invoke (f:=196) (r:= .agg #[.pointer q]) V rfl rfl V ?_)
 have h:=h.mono hs1.le
 refine (p_pop hs1.sat h hz).mono ?_
 rintro _ w2 ⟨qn,Mn,rfl,hs2,hn⟩
 have:=hs2.size
 refine Qm rfl<|Qe rfl<|Qe rfl ?_
 have hT:=hT.t hs1 |>.t hs2
 have:=hT.size
 refine Al (.agg #[(.pointer none)]) hs2.sat rfl fun bp w3 hs3 hop ep=>?_
 have:=hs3.size
 have:=hop.1.lt
 refine St hs3.sat hop rfl fun w4 hs4 hop=>?_
 have:=hs4.size
 refine Nar rfl Z fun Z=>Qc 1 rfl (OD hop rfl)<|Qq rfl (q_build (zs:=[(.pointer none)]) (places:=[(0,1)]) (cs:=[_]) V V rfl rfl)<|Qq rfl (qf rfl)<|Na rfl Z<|cw_ret ?_
 have hT:=hT.t hs3 |>.o hs4
 exact ⟨_,Rt rfl,_,_,rfl,hT.to O,hn⟩
end Go.Proofs.YtnnldppehojffaaGreat
/- Heaps of the kinds without their least element, as heaps of any kind, part 1. -/
namespace Go.Proofs.YtnnldppehojffaaGreat
open Go Go.Eng
variable {mb:Option Nat} {w:World} {M:Mem mb}
theorem wb_pop {t:List (RT El)} {y:El} {bs:List El} {ks:List (RT El)} {q:Option Addr} (hs:Sat M w) (h:FRep 266 287 2 EncE M t q) (ht:t[leastN ltE (t.map RT.root) (t.length-1)]? = some (.node y bs ks)) (hz:RT.sizes t≤1000000000):
  Dz 190 #[.agg #[.pointer q],mval mb] w (fun v w'=>∃ q M',v = .iface 155 (.agg #[.pointer q])∧StepC Nope (bpopC ltE t (.node y bs ks)) M w M' w'∧FRep 266 287 2 EncE M' (bpop ltE t (.node y bs ks)) q):=by
 have hT:=hs.r
 refine Fe Tryz.func190 [.tmp 4] rfl<|Ri fun Z=>Bm hs rfl fun b1 M1 w1 hs1 hb1 e1=>?_
 have h:=h.mono' EncE.mono hs1.le
 have:=hs1.size
 refine Nar rfl Z fun Z=>Qf 0 rfl<|Qc 1 rfl (BD hs1 hb1 rfl)<|Qq rfl (qf rfl)<|Qm rfl<|as_h rfl (h_invoke (f:=155) (r:= .agg #[.pointer q]) V rfl rfl V ?_)
 refine (b_pop hs1.sat h ht hz).mono ?_
 rintro _ w2 ⟨qn,Mn,rfl,hs2,hn⟩
 have h:=h.mono' EncE.mono hs2.le
 have:=hs2.size
 refine Qm rfl<|Qe rfl<|Qe rfl ?_
 have hT:=hT.t hs1 |>.t hs2
 have:=hT.size
 refine Al (.agg #[(.pointer none)]) hs2.sat rfl fun bp w3 hs3 hop ep=>?_
 have:=hs3.size
 have:=hop.1.lt
 refine St hs3.sat hop rfl fun w4 hs4 hop=>?_
 have:=hs4.size
 refine Nar rfl Z fun Z=>Qc 1 rfl (OD hop rfl)<|Qq rfl (q_build (zs:=[(.pointer none)]) (places:=[(0,1)]) (cs:=[_]) V V rfl rfl)<|Qq rfl (qf rfl)<|Na rfl Z<|cw_ret ?_
 have hT:=hT.t hs3 |>.o hs4
 exact ⟨_,Rt rfl,_,_,rfl,hT.to O,hn⟩
theorem wd_pop {t:List (RT El)} {y:El} {bs:List El} {ks:List (RT El)} {q:Option Addr} (hs:Sat M w) (h:FRep 266 287 2 EncE M t q) (ht:t[leastN ltE (t.map RT.root) (t.length-1)]? = some (.node y bs ks)) (hz:RT.sizes t≤1000000000):
  Dz 229 #[.agg #[.pointer q],mval mb] w (fun v w'=>∃ q M',v = .iface 164 (.agg #[.pointer q])∧StepC Nope (spopC ltE t (.node y bs ks)) M w M' w'∧FRep 266 287 2 EncE M' (spop ltE t (.node y bs ks)) q):=by
 have hT:=hs.r
 refine Fe Tryz.func229 [.tmp 4] rfl<|Ri fun Z=>Bm hs rfl fun b1 M1 w1 hs1 hb1 e1=>?_
 have h:=h.mono' EncE.mono hs1.le
 have:=hs1.size
 refine Nar rfl Z fun Z=>Qf 0 rfl<|Qc 1 rfl (BD hs1 hb1 rfl)<|Qq rfl (qf rfl)<|Qm rfl<|as_h rfl (h_invoke (f:=214) (r:= .agg #[.pointer q]) V rfl rfl V ?_)
 refine (se_pop hs1.sat h ht hz).mono ?_
 rintro _ w2 ⟨qn,Mn,rfl,hs2,hn⟩
 have h:=h.mono' EncE.mono hs2.le
 have:=hs2.size
 refine Qm rfl<|Qe rfl<|Qe rfl ?_
 have hT:=hT.t hs1 |>.t hs2
 have:=hT.size
 refine Al (.agg #[(.pointer none)]) hs2.sat rfl fun bp w3 hs3 hop ep=>?_
 have:=hs3.size
 have:=hop.1.lt
 refine St hs3.sat hop rfl fun w4 hs4 hop=>?_
 have:=hs4.size
 refine Nar rfl Z fun Z=>Qc 1 rfl (OD hop rfl)<|Qq rfl (q_build (zs:=[(.pointer none)]) (places:=[(0,1)]) (cs:=[_]) V V rfl rfl)<|Qq rfl (qf rfl)<|Na rfl Z<|cw_ret ?_
 have hT:=hT.t hs3 |>.o hs4
 exact ⟨_,Rt rfl,_,_,rfl,hT.to O,hn⟩
theorem we_pop1 {x:El} {q:Option Addr} (hs:Sat M w) (h:RoRep 334 266 287 M (.node x []) q):
  Dz 242 #[.agg #[.pointer q],mval mb] w (fun v w'=>∃ q M',v = .iface 169 (.agg #[.pointer q])∧StepC Nope (0) M w M' w'∧RoRep 334 266 287 M' .nil q):=by
 have hT:=hs.r
 refine Fe Tryz.func242 [.tmp 4] rfl<|Ri fun Z=>Bm hs rfl fun b1 M1 w1 hs1 hb1 e1=>?_
 have:=hs1.size
 refine Nar rfl Z fun Z=>Qf 0 rfl<|Qc 1 rfl (BD hs1 hb1 rfl)<|Qq rfl (qf rfl)<|Qm rfl<|as_h rfl (h_invoke (f:=235) (r:= .agg #[.pointer q]) V rfl rfl V ?_)
 have h:=h.mono hs1.le
 refine (r_pop_1 hs1.sat h).mono ?_
 rintro _ w2 ⟨qn,Mn,rfl,hs2,hn⟩
 have:=hs2.size
 refine Qm rfl<|Qe rfl<|Qe rfl ?_
 have hT:=hT.t hs1 |>.t hs2
 have:=hT.size
 refine Al (.agg #[(.pointer none)]) hs2.sat rfl fun bp w3 hs3 hop ep=>?_
 have:=hs3.size
 have:=hop.1.lt
 refine St hs3.sat hop rfl fun w4 hs4 hop=>?_
 have:=hs4.size
 refine Nar rfl Z fun Z=>Qc 1 rfl (OD hop rfl)<|Qq rfl (q_build (zs:=[(.pointer none)]) (places:=[(0,1)]) (cs:=[_]) V V rfl rfl)<|Qq rfl (qf rfl)<|Na rfl Z<|cw_ret ?_
 have hT:=hT.t hs3 |>.o hs4
 exact ⟨_,Rt rfl,_,_,rfl,hT.to O,hn⟩
theorem we_pop2 {x y:El} {bs:List El} {ks t:List (RT El)} {q:Option Addr} (hs:Sat M w) (h:RoRep 334 266 287 M (.node x t) q) (ht:t[leastN ltE (t.map RT.root) (t.length-1)]? = some (.node y bs ks)) (hz:RT.sizes t≤1000000000):
  Dz 242 #[.agg #[.pointer q],mval mb] w (fun v w'=>∃ q M',v = .iface 169 (.agg #[.pointer q])∧StepC Nope (t.length-1+spopC ltE t (.node y bs ks)+1) M w M' w'∧RoRep 334 266 287 M' (.node y (spop ltE t (.node y bs ks))) q):=by
 have hT:=hs.r
 refine Fe Tryz.func242 [.tmp 4] rfl<|Ri fun Z=>Bm hs rfl fun b1 M1 w1 hs1 hb1 e1=>?_
 have:=hs1.size
 refine Nar rfl Z fun Z=>Qf 0 rfl<|Qc 1 rfl (BD hs1 hb1 rfl)<|Qq rfl (qf rfl)<|Qm rfl<|as_h rfl (h_invoke (f:=235) (r:= .agg #[.pointer q]) V rfl rfl V ?_)
 have h:=h.mono hs1.le
 refine (r_pop_2 hs1.sat h ht hz).mono ?_
 rintro _ w2 ⟨qn,Mn,rfl,hs2,hn⟩
 have:=hs2.size
 refine Qm rfl<|Qe rfl<|Qe rfl ?_
 have hT:=hT.t hs1 |>.t hs2
 have:=hT.size
 refine Al (.agg #[(.pointer none)]) hs2.sat rfl fun bp w3 hs3 hop ep=>?_
 have:=hs3.size
 have:=hop.1.lt
 refine St hs3.sat hop rfl fun w4 hs4 hop=>?_
 have:=hs4.size
 refine Nar rfl Z fun Z=>Qc 1 rfl (OD hop rfl)<|Qq rfl (q_build (zs:=[(.pointer none)]) (places:=[(0,1)]) (cs:=[_]) V V rfl rfl)<|Qq rfl (qf rfl)<|Na rfl Z<|cw_ret ?_
 have hT:=hT.t hs3 |>.o hs4
 exact ⟨_,Rt rfl,_,_,rfl,hT.to O,hn⟩
theorem wf_pop1 {x:El} {q:Option Addr} (hs:Sat M w) (h:BRep 347 381 383 M (.node x []) q):
  Dz 293 #[.agg #[.pointer q],mval mb] w (fun v w'=>∃ q M',v = .iface 174 (.agg #[.pointer q])∧StepC Nope (0) M w M' w'∧BRep 347 381 383 M' .nil q):=by
 have hT:=hs.r
 refine Fe Tryz.func293 [.tmp 4] rfl<|Ri fun Z=>Bm hs rfl fun b1 M1 w1 hs1 hb1 e1=>?_
 have:=hs1.size
 refine Nar rfl Z fun Z=>Qf 0 rfl<|Qc 1 rfl (BD hs1 hb1 rfl)<|Qq rfl (qf rfl)<|Qm rfl<|as_h rfl (h_invoke (f:=249) (r:= .agg #[.pointer q]) V rfl rfl V ?_)
 have h:=h.mono hs1.le
 refine (bo_pop_1 hs1.sat h).mono ?_
 rintro _ w2 ⟨qn,Mn,rfl,hs2,hn⟩
 have:=hs2.size
 refine Qm rfl<|Qe rfl<|Qe rfl ?_
 have hT:=hT.t hs1 |>.t hs2
 have:=hT.size
 refine Al (.agg #[(.pointer none)]) hs2.sat rfl fun bp w3 hs3 hop ep=>?_
 have:=hs3.size
 have:=hop.1.lt
 refine St hs3.sat hop rfl fun w4 hs4 hop=>?_
 have:=hs4.size
 refine Nar rfl Z fun Z=>Qc 1 rfl (OD hop rfl)<|Qq rfl (q_build (zs:=[(.pointer none)]) (places:=[(0,1)]) (cs:=[_]) V V rfl rfl)<|Qq rfl (qf rfl)<|Na rfl Z<|cw_ret ?_
 have hT:=hT.t hs3 |>.o hs4
 exact ⟨_,Rt rfl,_,_,rfl,hT.to O,hn⟩
theorem wf_pop2 {x y:El} {bs:List Bt} {ks ts us:List (RT Bt)} {q:Option Addr} (hs:Sat M w) (h:BRep 347 381 383 M (.node x ts) q) (ht:ts[leastN ltB (ts.map RT.root) (ts.length-1)]? = some (.node (.node y us) bs ks)) (hz:RT.sizes ts≤1000000000) (hzm:RT.sizes us+RT.sizes (spop ltB ts (.node (.node y us) bs ks))≤1000000000):
  Dz 293 #[.agg #[.pointer q],mval mb] w (fun v w'=>∃ q M',v = .iface 174 (.agg #[.pointer q])∧StepC Nope (ts.length-1+spopC ltB ts (.node (.node y us) bs ks)+smeldC ltB us (spop ltB ts (.node (.node y us) bs ks))+1) M w M' w'∧BRep 347 381 383 M' (Bt.popped ts (.node (.node y us) bs ks) y us) q):=by
 have hT:=hs.r
 refine Fe Tryz.func293 [.tmp 4] rfl<|Ri fun Z=>Bm hs rfl fun b1 M1 w1 hs1 hb1 e1=>?_
 have:=hs1.size
 refine Nar rfl Z fun Z=>Qf 0 rfl<|Qc 1 rfl (BD hs1 hb1 rfl)<|Qq rfl (qf rfl)<|Qm rfl<|as_h rfl (h_invoke (f:=249) (r:= .agg #[.pointer q]) V rfl rfl V ?_)
 have h:=h.mono hs1.le
 refine (bo_pop_2 hs1.sat h ht hz hzm).mono ?_
 rintro _ w2 ⟨qn,Mn,rfl,hs2,hn⟩
 have:=hs2.size
 refine Qm rfl<|Qe rfl<|Qe rfl ?_
 have hT:=hT.t hs1 |>.t hs2
 have:=hT.size
 refine Al (.agg #[(.pointer none)]) hs2.sat rfl fun bp w3 hs3 hop ep=>?_
 have:=hs3.size
 have:=hop.1.lt
 refine St hs3.sat hop rfl fun w4 hs4 hop=>?_
 have:=hs4.size
 refine Nar rfl Z fun Z=>Qc 1 rfl (OD hop rfl)<|Qq rfl (q_build (zs:=[(.pointer none)]) (places:=[(0,1)]) (cs:=[_]) V V rfl rfl)<|Qq rfl (qf rfl)<|Na rfl Z<|cw_ret ?_
 have hT:=hT.t hs3 |>.o hs4
 exact ⟨_,Rt rfl,_,_,rfl,hT.to O,hn⟩
theorem wf_size {t:Bt} {q:Option Addr} (hs:Sat M w) (h:BRep 347 381 383 M t q) (hz:Bt.cnt 1 t≤1000000000):
  Dz 295 #[.agg #[.pointer q]] w (fun v w'=>v = .int .i64 (Bt.cnt 0 t:Nat)∧Step Nope M w M w'):=by
 have hT:=hs.r
 refine Fe Tryz.func295 [.tmp 2] rfl<|Ri fun Z=>Bm hs rfl fun b1 M1 w1 hs1 hb1 e1=>Nar rfl Z fun Z=>Qf 0 rfl<|Qc 1 rfl (BD hs1 hb1 rfl)<|Qq rfl (qf rfl)<|as_h rfl (h_invoke (f:=251) (r:= .agg #[.pointer q]) V rfl rfl V ?_)
 have h:=h.mono hs1.le
 refine (bo_size hs1.sat h hz).mono ?_
 rintro _ w2 ⟨rfl,hs2⟩
 refine Na rfl Z<|cw_ret ?_
 have hT:=hT.t hs1 |>.t hs2
 exact ⟨_,Rt rfl,rfl,hT.forget⟩
end Go.Proofs.YtnnldppehojffaaGreat
/- Heaps of any kind, by their elements in order, part 1. -/
namespace Go.Proofs.YtnnldppehojffaaGreat
open Go Go.Eng
variable {mb:Option Nat} {w:World} {M:Mem mb}
inductive HVx (M:Raw):HM→Value→Prop where
 | z:HVx M .z .nilIface
 | a {t:Lft} {q:Option Addr} (h:LRep 258 M t (.pointer q)):HVx M (.a t) (.iface 148 (.agg #[.pointer q]))
 | b {t:List (RT El)} {q:Option Addr} (h:FRep 266 287 2 EncE M t q):HVx M (.b t) (.iface 155 (.agg #[.pointer q]))
 | c {t:Pr} {q:Option Addr} (h:PRep 307 314 M t q):HVx M (.c t) (.iface 160 (.agg #[.pointer q]))
 | d {t:List (RT El)} {q:Option Addr} (h:FRep 266 287 2 EncE M t q):HVx M (.d t) (.iface 164 (.agg #[.pointer q]))
 | e {t:Ro} {q:Option Addr} (h:RoRep 334 266 287 M t q):HVx M (.e t) (.iface 169 (.agg #[.pointer q]))
 | f {t:Bt} {q:Option Addr} (h:BRep 347 381 383 M t q):HVx M (.f t) (.iface 174 (.agg #[.pointer q]))
structure HVal (M:Raw) (H:HM) (k:Nat) (l:List El) (v:Value):Prop where
 x:HVx M H v
 ok:H.ok
 kd:H.kind=k
 el:l=srtE H.els
theorem HVal.mono {M M':Raw} (k:Le M M') {H:HM} {n:Nat} {l:List El} {v:Value} (h:HVal M H n l v):HVal M' H n l v:=by
 obtain ⟨h,h1,h2,h3⟩:=h
 refine ⟨?_,h1,h2,h3⟩
 cases h with
 | z=>exact .z
 | a h=>exact .a (h.mono k)
 | b h=>exact .b (h.mono' EncE.mono k)
 | c h=>exact .c (h.mono k)
 | d h=>exact .d (h.mono' EncE.mono k)
 | e h=>exact .e (h.mono k)
 | f h=>exact .f (h.mono k)
theorem HVal.len {M:Raw} {H:HM} {n:Nat} {l:List El} {v:Value} (h:HVal M H n l v):H.els.length=l.length:=by rw [h.el,srtE_length]
theorem hv_insert {H:HM} {k:Nat} {l:List El} {v:Value} {x:El} (hs:Sat M w) (h:HVal M H k l v) (hk:k≠0) (hz:l.length<1000000000):
  ∃ (tid:TypeId) (u:Value) (f:FuncId) (r:Value),v = .iface tid u∧callable Tryz.prog f=true∧(∀ w,(method (Tryz.prog.types.size+Made.depth) tid u "slagheap/heap.insert").run Tryz.prog w = .ok (f,r) w)∧
   Dz f #[r,mval mb, .agg (elc x).toArray] w (fun v' w'=>∃ c M',StepC Nope c M w M' w'∧HVal M' (H.insert x) k (putE l x) v'):=by
 have hq:=HM.insert_p x h.ok
 have hf:∀ {M':Raw} {v':Value},HVx M' (H.insert x) v'→HVal M' (H.insert x) k (putE l x) v':=fun hx=>⟨hx,hq.1,by rw [hq.2.1,h.kd],by rw [h.el]; exact els_put (hq.2.2 (by rw [h.kd]; exact hk))⟩
 rw [← h.len] at hz
 obtain ⟨h,hok,hkd,hel⟩:=h
 cases h with
 | z=>exact absurd hkd (Ne.symm hk)
 | @a t q h=>exact ⟨148, .agg #[.pointer _],145, .agg #[.pointer _],rfl,by kernel_rfl,fun _=>by kernel_rfl,(wa_insert hs h (by rw [← t.els_size]; exact hz)).mono fun v' w' ⟨q',M',h1,h2,h3⟩=>⟨_,M',h2,by subst h1; exact hf (.a h3)⟩⟩
 | @b t q h=>exact ⟨155, .agg #[.pointer _],187, .agg #[.pointer _],rfl,by kernel_rfl,fun _=>by kernel_rfl,(wb_insert hs h (by rw [← RT.alls_length]; exact hz)).mono fun v' w' ⟨q',M',h1,h2,h3⟩=>⟨_,M',h2,by subst h1; exact hf (.b h3)⟩⟩
 | @c t q h=>exact ⟨160, .agg #[.pointer _],205, .agg #[.pointer _],rfl,by kernel_rfl,fun _=>by kernel_rfl,(wc_insert hs h (by rw [← t.els_size]; exact hz)).mono fun v' w' ⟨q',M',h1,h2,h3⟩=>⟨_,M',h2,by subst h1; exact hf (.c h3)⟩⟩
 | @d t q h=>exact ⟨164, .agg #[.pointer _],226, .agg #[.pointer _],rfl,by kernel_rfl,fun _=>by kernel_rfl,(wd_insert hs h (by rw [← RT.alls_length]; exact hz)).mono fun v' w' ⟨q',M',h1,h2,h3⟩=>⟨_,M',h2,by subst h1; exact hf (.d h3)⟩⟩
 | @e t q h=>exact ⟨169, .agg #[.pointer _],239, .agg #[.pointer _],rfl,by kernel_rfl,fun _=>by kernel_rfl,(we_insert hs h (by rw [← t.els_size]; exact hz)).mono fun v' w' ⟨q',M',h1,h2,h3⟩=>⟨_,M',h2,by subst h1; exact hf (.e h3)⟩⟩
 | @f t q h=>exact ⟨174, .agg #[.pointer _],290, .agg #[.pointer _],rfl,by kernel_rfl,fun _=>by kernel_rfl,(wf_insert hs h (Nat.lt_of_le_of_lt (Bt.queue_els hok) hz)).mono fun v' w' ⟨q',M',h1,h2,h3⟩=>⟨_,M',h2,by subst h1; exact hf (.f h3)⟩⟩
theorem hv_meld {H G:HM} {k:Nat} {l l2:List El} {v v2:Value} (hs:Sat M w) (h:HVal M H k l v) (h2:HVal M G k l2 v2) (hk:k≠0) (hz:l.length+l2.length<1000000000):
  ∃ (tid:TypeId) (u:Value) (f:FuncId) (r:Value),v = .iface tid u∧callable Tryz.prog f=true∧(∀ w,(method (Tryz.prog.types.size+Made.depth) tid u "slagheap/heap.meld").run Tryz.prog w = .ok (f,r) w)∧
   Dz f #[r,mval mb,v2] w (fun v' w'=>∃ c M',StepC Nope c M w M' w'∧HVal M' (H.meld G) k (srtE (l++l2)) v'):=by
 have hq:=HM.meld_p h.ok h2.ok (h.kd.trans h2.kd.symm)
 have hf:∀ {M':Raw} {v':Value},HVx M' (H.meld G) v'→HVal M' (H.meld G) k (srtE (l++l2)) v':=fun hx=>⟨hx,hq.1,by rw [hq.2.1,h.kd],by rw [h.el,h2.el]; exact els_join hq.2.2⟩
 rw [← h.len,← h2.len] at hz
 obtain ⟨h,hok,hkd,hel⟩:=h
 obtain ⟨h2,hok2,hkd2,hel2⟩:=h2
 subst hkd
 cases h with
 | z=>exact absurd rfl hk
 | @a t q h=>
  cases h2 <;> try (simp [HM.kind] at hkd2; done)
  rename_i u q2 h2
  simp only [HM.els] at hz
  exact ⟨148, .agg #[.pointer _],146, .agg #[.pointer _],rfl,by kernel_rfl,fun _=>by kernel_rfl,(wa_meld hs h h2 (by rw [← t.els_size,← u.els_size]; omega)).mono fun v' w' ⟨q',M',h1,h2,h3⟩=>⟨_,M',h2,by subst h1; exact hf (.a h3)⟩⟩
 | @b t q h=>
  cases h2 <;> try (simp [HM.kind] at hkd2; done)
  rename_i u q2 h2
  simp only [HM.els] at hz
  exact ⟨155, .agg #[.pointer _],188, .agg #[.pointer _],rfl,by kernel_rfl,fun _=>by kernel_rfl,(wb_meld hs h h2 (by rw [← RT.alls_length,← RT.alls_length]; omega)).mono fun v' w' ⟨q',M',h1,h2,h3⟩=>⟨_,M',h2,by subst h1; exact hf (.b h3)⟩⟩
 | @c t q h=>
  cases h2 <;> try (simp [HM.kind] at hkd2; done)
  rename_i u q2 h2
  simp only [HM.els] at hz
  exact ⟨160, .agg #[.pointer _],206, .agg #[.pointer _],rfl,by kernel_rfl,fun _=>by kernel_rfl,(wc_meld hs h h2 (by rw [← t.els_size,← u.els_size]; omega)).mono fun v' w' ⟨q',M',h1,h2,h3⟩=>⟨_,M',h2,by subst h1; exact hf (.c h3)⟩⟩
 | @d t q h=>
  cases h2 <;> try (simp [HM.kind] at hkd2; done)
  rename_i u q2 h2
  simp only [HM.els] at hz
  exact ⟨164, .agg #[.pointer _],227, .agg #[.pointer _],rfl,by kernel_rfl,fun _=>by kernel_rfl,(wd_meld hs h h2 (by rw [← RT.alls_length,← RT.alls_length]; omega)).mono fun v' w' ⟨q',M',h1,h2,h3⟩=>⟨_,M',h2,by subst h1; exact hf (.d h3)⟩⟩
 | @e t q h=>
  cases h2 <;> try (simp [HM.kind] at hkd2; done)
  rename_i u q2 h2
  simp only [HM.els] at hz
  exact ⟨169, .agg #[.pointer _],240, .agg #[.pointer _],rfl,by kernel_rfl,fun _=>by kernel_rfl,(we_meld hs h h2 (by rw [← t.els_size,← u.els_size]; omega)).mono fun v' w' ⟨q',M',h1,h2,h3⟩=>⟨_,M',h2,by subst h1; exact hf (.e h3)⟩⟩
 | @f t q h=>
  cases h2 <;> try (simp [HM.kind] at hkd2; done)
  rename_i u q2 h2
  simp only [HM.els] at hz
  exact ⟨174, .agg #[.pointer _],291, .agg #[.pointer _],rfl,by kernel_rfl,fun _=>by kernel_rfl,(wf_meld hs h h2 (by have:=Bt.queue_els hok; omega) (by have:=Bt.queue_els hok2; omega)).mono fun v' w' ⟨q',M',h1,h2,h3⟩=>⟨_,M',h2,by subst h1; exact hf (.f h3)⟩⟩
theorem cnt0_els {t:Bt} (h:t.ok):Bt.cnt 0 t=t.els.length:=by
 cases t with
 | nil=>rfl
 | node x ts=>exact Bt.cnt_els 0 _ (by simp) h
theorem cnt1_le {t:Bt} (h:t.ok) (hz:t.els.length<1000000000):Bt.cnt 1 t≤1000000000:=by
 cases t with
 | nil=>decide
 | node x ts=>rw [Bt.cnt_els 1 _ (by simp) h]; omega
theorem hv_size {H:HM} {k:Nat} {l:List El} {v:Value} (hs:Sat M w) (h:HVal M H k l v) (hk:k≠0) (hz:l.length<1000000000):
  ∃ (tid:TypeId) (u:Value) (f:FuncId) (r:Value),v = .iface tid u∧callable Tryz.prog f=true∧(∀ w,(method (Tryz.prog.types.size+Made.depth) tid u "slagheap/heap.size").run Tryz.prog w = .ok (f,r) w)∧
   Dz f #[r] w (fun v' w'=>v' = .int .i64 (l.length:Nat)∧Step Nope M w M w'):=by
 rw [← h.len] at hz ⊢
 obtain ⟨h,hok,hkd,hel⟩:=h
 cases h with
 | z=>exact absurd hkd (Ne.symm hk)
 | @a t q h=>
  simp only [HM.els] at hz ⊢
  exact ⟨148, .agg #[.pointer _],150, .agg #[.pointer _],rfl,by kernel_rfl,fun _=>by kernel_rfl,(wa_size hs h ).mono fun v' w' ⟨h1,h2⟩=>⟨by rw [h1,t.els_size],h2⟩⟩
 | @b t q h=>
  simp only [HM.els] at hz ⊢
  exact ⟨155, .agg #[.pointer _],192, .agg #[.pointer _],rfl,by kernel_rfl,fun _=>by kernel_rfl,(wb_size hs h (by rw [← RT.alls_length]; omega)).mono fun v' w' ⟨h1,h2⟩=>⟨by rw [h1,RT.alls_length t],h2⟩⟩
 | @c t q h=>
  simp only [HM.els] at hz ⊢
  exact ⟨160, .agg #[.pointer _],210, .agg #[.pointer _],rfl,by kernel_rfl,fun _=>by kernel_rfl,(wc_size hs h ).mono fun v' w' ⟨h1,h2⟩=>⟨by rw [h1,t.els_size],h2⟩⟩
 | @d t q h=>
  simp only [HM.els] at hz ⊢
  exact ⟨164, .agg #[.pointer _],231, .agg #[.pointer _],rfl,by kernel_rfl,fun _=>by kernel_rfl,(wd_size hs h (by rw [← RT.alls_length]; omega)).mono fun v' w' ⟨h1,h2⟩=>⟨by rw [h1,RT.alls_length t],h2⟩⟩
 | @e t q h=>
  simp only [HM.els] at hz ⊢
  exact ⟨169, .agg #[.pointer _],244, .agg #[.pointer _],rfl,by kernel_rfl,fun _=>by kernel_rfl,(we_size hs h (by rw [← t.els_size]; omega)).mono fun v' w' ⟨h1,h2⟩=>⟨by rw [h1,t.els_size],h2⟩⟩
 | @f t q h=>
  simp only [HM.els] at hz ⊢
  exact ⟨174, .agg #[.pointer _],295, .agg #[.pointer _],rfl,by kernel_rfl,fun _=>by kernel_rfl,(wf_size hs h (cnt1_le hok hz)).mono fun v' w' ⟨h1,h2⟩=>⟨by rw [h1,(cnt0_els hok).symm],h2⟩⟩
end Go.Proofs.YtnnldppehojffaaGreat
/- Heaps of any kind, by their elements in order, part 2. -/
namespace Go.Proofs.YtnnldppehojffaaGreat
open Go Go.Eng
variable {mb:Option Nat} {w:World} {M:Mem mb}
theorem hv_min {H:HM} {k:Nat} {x:El} {l:List El} {v:Value} (hs:Sat M w) (h:HVal M H k (x::l) v) (hz:(x::l).length<1000000000):
  ∃ (tid:TypeId) (u:Value) (f:FuncId) (r:Value),v = .iface tid u∧callable Tryz.prog f=true∧(∀ w,(method (Tryz.prog.types.size+Made.depth) tid u "slagheap/heap.min").run Tryz.prog w = .ok (f,r) w)∧
   Dz f #[r,mval mb] w (fun v' w'=>v' = .tuple #[.agg (elc x).toArray, .bool true]∧StepC Nope H.minC M w (M.tick H.minC) w'):=by
 have hq:=HM.pop_p h.ok h.el
 have hxl:=h.el
 rw [← h.len] at hz
 obtain ⟨h,hok,hkd,hel⟩:=h
 cases h with
 | z=>exact els_none hxl
 | @a t q h=>
  cases t with
  | nil=>exact els_none (by simpa [HM.els,Lft.els,Pr.els,Ro.els,Bt.els] using hxl)
  | node y tl tr=>exact ⟨148, .agg #[.pointer _],147, .agg #[.pointer _],rfl,by kernel_rfl,fun _=>by kernel_rfl,(wa_min hs h).mono fun v' w' ⟨h1,h2⟩=>⟨by rw [h1,← hq.1]; rfl,h2⟩⟩
 | @b t q h=>
  simp only [HM.els] at hz
  obtain ⟨k,hk⟩:=HM.lst_some hxl
  exact ⟨155, .agg #[.pointer _],189, .agg #[.pointer _],rfl,by kernel_rfl,fun _=>by kernel_rfl,(wb_min hs h hk (by rw [← RT.alls_length]; omega)).mono fun v' w' ⟨h1,h2⟩=>⟨by rw [h1,← hq.1]; simp only [HM.min,hk],h2⟩⟩
 | @c t q h=>
  cases t with
  | nil=>exact els_none (by simpa [HM.els,Lft.els,Pr.els,Ro.els,Bt.els] using hxl)
  | node y ks=>exact ⟨160, .agg #[.pointer _],207, .agg #[.pointer _],rfl,by kernel_rfl,fun _=>by kernel_rfl,(wc_min hs h).mono fun v' w' ⟨h1,h2⟩=>⟨by rw [h1,← hq.1]; rfl,h2⟩⟩
 | @d t q h=>
  simp only [HM.els] at hz
  obtain ⟨k,hk⟩:=HM.lst_some hxl
  exact ⟨164, .agg #[.pointer _],228, .agg #[.pointer _],rfl,by kernel_rfl,fun _=>by kernel_rfl,(wd_min hs h hk (by rw [← RT.alls_length]; omega)).mono fun v' w' ⟨h1,h2⟩=>⟨by rw [h1,← hq.1]; simp only [HM.min,hk],h2⟩⟩
 | @e t q h=>
  cases t with
  | nil=>exact els_none (by simpa [HM.els,Lft.els,Pr.els,Ro.els,Bt.els] using hxl)
  | node y ts=>exact ⟨169, .agg #[.pointer _],241, .agg #[.pointer _],rfl,by kernel_rfl,fun _=>by kernel_rfl,(we_min hs h).mono fun v' w' ⟨h1,h2⟩=>⟨by rw [h1,← hq.1]; rfl,h2⟩⟩
 | @f t q h=>
  cases t with
  | nil=>exact els_none (by simpa [HM.els,Lft.els,Pr.els,Ro.els,Bt.els] using hxl)
  | node y ts=>exact ⟨174, .agg #[.pointer _],292, .agg #[.pointer _],rfl,by kernel_rfl,fun _=>by kernel_rfl,(wf_min hs h).mono fun v' w' ⟨h1,h2⟩=>⟨by rw [h1,← hq.1]; rfl,h2⟩⟩
theorem lst_none {α:Type} {lt:α→α→Bool} {ts:List (RT α)} (hk:lst lt ts=none):ts=[]:=Classical.byContradiction fun hn=>by
 obtain ⟨k,hk2⟩:=least_is (lt:=lt) hn
 rw [show lst lt ts=some k from hk2] at hk; cases hk
theorem hv_pop {H:HM} {k:Nat} {x:El} {l:List El} {v:Value} (hs:Sat M w) (h:HVal M H k (x::l) v) (hz:(x::l).length<1000000000):
  ∃ (tid:TypeId) (u:Value) (f:FuncId) (r:Value),v = .iface tid u∧callable Tryz.prog f=true∧(∀ w,(method (Tryz.prog.types.size+Made.depth) tid u "slagheap/heap.pop").run Tryz.prog w = .ok (f,r) w)∧
   Dz f #[r,mval mb] w (fun v' w'=>∃ M',StepC Nope H.popC M w M' w'∧HVal M' H.pop k l v'):=by
 have hq:=HM.pop_p h.ok h.el
 have hxl:=h.el
 have hf:∀ {M':Raw} {v':Value},HVx M' H.pop v'→HVal M' H.pop k l v':=fun hx=>⟨hx,hq.2.1,by rw [hq.2.2.1,h.kd],hq.2.2.2.symm⟩
 rw [← h.len] at hz
 obtain ⟨h,hok,hkd,hel⟩:=h
 cases h with
 | z=>exact els_none hxl
 | @a t q h=>
  cases t with
  | nil=>exact els_none (by simpa [HM.els,Lft.els,Pr.els,Ro.els,Bt.els] using hxl)
  | node y tl tr=>
   exact ⟨148, .agg #[.pointer _],148, .agg #[.pointer _],rfl,by kernel_rfl,fun _=>by kernel_rfl,(wa_pop hs h (by rw [← Lft.els_size]; simp only [HM.els] at hz; omega)).mono fun v' w' ⟨q',M',h1,h2,h3⟩=>⟨M',h2,by subst h1; exact hf (.a h3)⟩⟩
 | @b t q h=>
  simp only [HM.els] at hz
  obtain ⟨⟨z,bs,ks⟩,hk⟩:=HM.lst_some hxl
  simp only [HM.pop,HM.popC,hk] at hf ⊢
  exact ⟨155, .agg #[.pointer _],190, .agg #[.pointer _],rfl,by kernel_rfl,fun _=>by kernel_rfl,(wb_pop hs h hk (by rw [← RT.alls_length]; omega)).mono fun v' w' ⟨q',M',h1,h2,h3⟩=>⟨M',h2,by subst h1; exact hf (.b h3)⟩⟩
 | @c t q h=>
  cases t with
  | nil=>exact els_none (by simpa [HM.els,Lft.els,Pr.els,Ro.els,Bt.els] using hxl)
  | node y ks=>
   exact ⟨160, .agg #[.pointer _],208, .agg #[.pointer _],rfl,by kernel_rfl,fun _=>by kernel_rfl,(wc_pop hs h (by rw [← Pr.els_size]; simp only [HM.els] at hz; omega)).mono fun v' w' ⟨q',M',h1,h2,h3⟩=>⟨M',h2,by subst h1; exact hf (.c h3)⟩⟩
 | @d t q h=>
  simp only [HM.els] at hz
  obtain ⟨⟨z,bs,ks⟩,hk⟩:=HM.lst_some hxl
  simp only [HM.pop,HM.popC,hk] at hf ⊢
  exact ⟨164, .agg #[.pointer _],229, .agg #[.pointer _],rfl,by kernel_rfl,fun _=>by kernel_rfl,(wd_pop hs h hk (by rw [← RT.alls_length]; omega)).mono fun v' w' ⟨q',M',h1,h2,h3⟩=>⟨M',h2,by subst h1; exact hf (.d h3)⟩⟩
 | @e t q h=>
  cases t with
  | nil=>exact els_none (by simpa [HM.els,Lft.els,Pr.els,Ro.els,Bt.els] using hxl)
  | node y ts=>
   cases hk:lst ltE ts with
   | none=>
    obtain rfl:=lst_none hk
    simp only [HM.pop,HM.popC,hk] at hf ⊢
    exact ⟨169, .agg #[.pointer _],242, .agg #[.pointer _],rfl,by kernel_rfl,fun _=>by kernel_rfl,(we_pop1 hs h).mono fun v' w' ⟨q',M',h1,h2,h3⟩=>⟨M',h2,by subst h1; exact hf (.e h3)⟩⟩
   | some k=>
    obtain ⟨z,bs,ks⟩:=k
    simp only [HM.pop,HM.popC,hk] at hf ⊢
    exact ⟨169, .agg #[.pointer _],242, .agg #[.pointer _],rfl,by kernel_rfl,fun _=>by kernel_rfl,(we_pop2 hs h hk (by simp only [HM.els,Ro.els,List.length_cons,RT.alls_length] at hz; omega)).mono fun v' w' ⟨q',M',h1,h2,h3⟩=>⟨M',h2,by subst h1; exact hf (.e h3)⟩⟩
 | @f t q h=>
  cases t with
  | nil=>exact els_none (by simpa [HM.els,Lft.els,Pr.els,Ro.els,Bt.els] using hxl)
  | node y ts=>
   cases hk:lst ltB ts with
   | none=>
    obtain rfl:=lst_none hk
    simp only [HM.pop,HM.popC,hk] at hf ⊢
    exact ⟨174, .agg #[.pointer _],293, .agg #[.pointer _],rfl,by kernel_rfl,fun _=>by kernel_rfl,(wf_pop1 hs h).mono fun v' w' ⟨q',M',h1,h2,h3⟩=>⟨M',h2,by subst h1; exact hf (.f h3)⟩⟩
   | some k=>
    obtain ⟨z,bs,ks⟩:=k
    have hok':AllGe y (Bt.elsQ ts)∧RT.oks ltB ts∧Bt.okQ ts:=by simpa only [HM.ok,Bt.ok] using hok
    have hqs:=Bt.queue_els (show (Bt.node y ts).ok from hok)
    have hp:=spop_alls hk
    have hzok:=(Bt.okL_iff _).1 ((Bt.okQ_alls ts).2 hok'.2.2) z (hp.mem_iff.2 (List.mem_cons_self ..))
    cases z with
    | nil=>exact absurd rfl hzok.1
    | node z us=>
     have hpo:=Bt.popped_ok (show (Bt.node y ts).ok from hok) hk rfl
     have hpl:=(Bt.popped_els (x:=y) hk rfl).length_eq
     have hpz:=Bt.queue_els hpo
     simp only [Bt.queue,HM.els] at hqs hz
     simp only [List.length_cons] at hpl
     simp only [Bt.popped,Bt.queue,smeld_size] at hpz
     simp only [HM.pop,HM.popC,hk] at hf ⊢
     exact ⟨174, .agg #[.pointer _],293, .agg #[.pointer _],rfl,by kernel_rfl,fun _=>by kernel_rfl,(wf_pop2 hs h hk O (by simp only [Bt.popped] at hpl; omega)).mono fun v' w' ⟨q',M',h1,h2,h3⟩=>⟨M',h2,by subst h1; exact hf (.f h3)⟩⟩
end Go.Proofs.YtnnldppehojffaaGreat
/- The calls of heap, part 1. -/
namespace Go.Proofs.YtnnldppehojffaaGreat
open Go Go.Eng
variable {mb:Option Nat} {w:World} {M:Mem mb}
theorem HVal.iface {M:Raw} {H:HM} {k:Nat} {l:List El} {v:Value} (h:HVal M H k l v) (hk:k≠0):∃ d u,v = .iface d u:=by
 obtain ⟨h,_,hkd,_⟩:=h
 cases h with
 | z=>exact absurd hkd (Ne.symm hk)
 | a h=>exact ⟨_,_,rfl⟩
 | b h=>exact ⟨_,_,rfl⟩
 | c h=>exact ⟨_,_,rfl⟩
 | d h=>exact ⟨_,_,rfl⟩
 | e h=>exact ⟨_,_,rfl⟩
 | f h=>exact ⟨_,_,rfl⟩
theorem HVal.zero {M:Raw} {H:HM} {l:List El} {v:Value} (h:HVal M H 0 l v):l=[]∧v = .nilIface:=by
 obtain ⟨h,_,hkd,hel⟩:=h
 cases h with
 | z=>exact ⟨hel,rfl⟩
 | a h=>cases hkd
 | b h=>cases hkd
 | c h=>cases hkd
 | d h=>cases hkd
 | e h=>cases hkd
 | f h=>cases hkd
theorem HVal.shape {M:Raw} {H:HM} {k:Nat} {l:List El} {v:Value} (h:HVal M H k l v):v = .nilIface∨∃ d u,v = .iface d u:=by
 obtain ⟨h,_,_,_⟩:=h
 cases h <;> simp
theorem HVal.none (M:Raw):HVal M .z 0 [] .nilIface:=⟨.z,trivial,rfl,rfl⟩
theorem HVal.ne {M:Raw} {H:HM} {k:Nat} {x:El} {l:List El} {v:Value} (h:HVal M H k (x::l) v):k≠0:=by rintro rfl; cases h.zero.1
theorem hp_kind_z (hs:Sat M w):
  Dz 31 #[.agg #[.nilIface]] w (fun r w'=>r = .int .i64 (0:Nat)∧Step Nope M w M w'):=by
 have hT:=hs.r
 refine Fe Tryz.func31 [.tmp 2] rfl<|Ri fun Z=>Bm hs rfl fun b1 M1 w1 hs1 hb1 e1=>Na rfl Z<|cw_seq fun _ hK2=>Ri fun Z=>Qf 0 rfl<|Q1 rfl (BC hs1 hb1 rfl)<|Nx Z<|cw_block<|Ri fun Z=>Qq rfl (q_isNil (r:= .agg #[.pointer none]) V V rfl)<|Qe rfl<|Qe rfl<|Nx Z<|cw_false rfl<|Ri fun Z=>Qq rfl (q_isNil (r:= .agg #[.pointer none]) V V rfl)<|Qe rfl<|Qe rfl<|Nx Z<|cw_false rfl<|Ri fun Z=>Qq rfl (q_isNil (r:= .agg #[.pointer none]) V V rfl)<|Qe rfl<|Qe rfl<|Nx Z<|cw_false rfl<|Ri fun Z=>Qq rfl (q_isNil (r:= .agg #[.pointer none]) V V rfl)<|Qe rfl<|Qe rfl<|Nx Z<|cw_false rfl<|Ri fun Z=>Qq rfl (q_isNil (r:= .agg #[.pointer none]) V V rfl)<|Qe rfl<|Qe rfl<|Nx Z<|cw_false rfl<|Ri fun Z=>Qq rfl (q_isNil (r:= .agg #[.pointer none]) V V rfl)<|Qe rfl<|Qe rfl<|Nx Z<|cw_false rfl<|cw_skip<|hK2 _ _<|Ri fun Z=>Na rfl Z<|cw_ret ?_
 have hT:=hT.t hs1
 exact ⟨_,Rt rfl,rfl,hT.forget⟩
theorem hp_kind_a {q:Option Addr} (hs:Sat M w):
  Dz 31 #[.agg #[.iface 148 (.agg #[.pointer q])]] w (fun r w'=>r = .int .i64 (1:Nat)∧Step Nope M w M w'):=by
 have hT:=hs.r
 refine Fe Tryz.func31 [.tmp 2] rfl<|Ri fun Z=>Bm hs rfl fun b1 M1 w1 hs1 hb1 e1=>Na rfl Z<|cw_seq fun _ hK2=>Ri fun Z=>Qf 0 rfl<|Q1 rfl (BC hs1 hb1 rfl)<|Nx Z<|cw_block<|Ri fun Z=>Qq rfl (q_isT V rfl)<|Qe rfl<|Qe rfl<|Nx Z<|cw_true rfl<|Ri fun Z=>Na rfl Z<|cw_ret ?_
 have hT:=hT.t hs1
 exact ⟨_,Rt rfl,rfl,hT.forget⟩
theorem hp_kind_b {q:Option Addr} (hs:Sat M w):
  Dz 31 #[.agg #[.iface 155 (.agg #[.pointer q])]] w (fun r w'=>r = .int .i64 (2:Nat)∧Step Nope M w M w'):=by
 have hT:=hs.r
 refine Fe Tryz.func31 [.tmp 2] rfl<|Ri fun Z=>Bm hs rfl fun b1 M1 w1 hs1 hb1 e1=>Na rfl Z<|cw_seq fun _ hK2=>Ri fun Z=>Qf 0 rfl<|Q1 rfl (BC hs1 hb1 rfl)<|Nx Z<|cw_block<|Ri fun Z=>Qq rfl (q_isF (r:= .agg #[.pointer none]) V V rfl rfl)<|Qe rfl<|Qe rfl<|Nx Z<|cw_false rfl<|Ri fun Z=>Qq rfl (q_isT V rfl)<|Qe rfl<|Qe rfl<|Nx Z<|cw_true rfl<|Ri fun Z=>Na rfl Z<|cw_ret ?_
 have hT:=hT.t hs1
 exact ⟨_,Rt rfl,rfl,hT.forget⟩
theorem hp_kind_c {q:Option Addr} (hs:Sat M w):
  Dz 31 #[.agg #[.iface 160 (.agg #[.pointer q])]] w (fun r w'=>r = .int .i64 (3:Nat)∧Step Nope M w M w'):=by
 have hT:=hs.r
 refine Fe Tryz.func31 [.tmp 2] rfl<|Ri fun Z=>Bm hs rfl fun b1 M1 w1 hs1 hb1 e1=>Na rfl Z<|cw_seq fun _ hK2=>Ri fun Z=>Qf 0 rfl<|Q1 rfl (BC hs1 hb1 rfl)<|Nx Z<|cw_block<|Ri fun Z=>Qq rfl (q_isF (r:= .agg #[.pointer none]) V V rfl rfl)<|Qe rfl<|Qe rfl<|Nx Z<|cw_false rfl<|Ri fun Z=>Qq rfl (q_isF (r:= .agg #[.pointer none]) V V rfl rfl)<|Qe rfl<|Qe rfl<|Nx Z<|cw_false rfl<|Ri fun Z=>Qq rfl (q_isT V rfl)<|Qe rfl<|Qe rfl<|Nx Z<|cw_true rfl<|Ri fun Z=>Na rfl Z<|cw_ret ?_
 have hT:=hT.t hs1
 exact ⟨_,Rt rfl,rfl,hT.forget⟩
theorem hp_kind_d {q:Option Addr} (hs:Sat M w):
  Dz 31 #[.agg #[.iface 164 (.agg #[.pointer q])]] w (fun r w'=>r = .int .i64 (4:Nat)∧Step Nope M w M w'):=by
 have hT:=hs.r
 refine Fe Tryz.func31 [.tmp 2] rfl<|Ri fun Z=>Bm hs rfl fun b1 M1 w1 hs1 hb1 e1=>Na rfl Z<|cw_seq fun _ hK2=>Ri fun Z=>Qf 0 rfl<|Q1 rfl (BC hs1 hb1 rfl)<|Nx Z<|cw_block<|Ri fun Z=>Qq rfl (q_isF (r:= .agg #[.pointer none]) V V rfl rfl)<|Qe rfl<|Qe rfl<|Nx Z<|cw_false rfl<|Ri fun Z=>Qq rfl (q_isF (r:= .agg #[.pointer none]) V V rfl rfl)<|Qe rfl<|Qe rfl<|Nx Z<|cw_false rfl<|Ri fun Z=>Qq rfl (q_isF (r:= .agg #[.pointer none]) V V rfl rfl)<|Qe rfl<|Qe rfl<|Nx Z<|cw_false rfl<|Ri fun Z=>Qq rfl (q_isT V rfl)<|Qe rfl<|Qe rfl<|Nx Z<|cw_true rfl<|Ri fun Z=>Na rfl Z<|cw_ret ?_
 have hT:=hT.t hs1
 exact ⟨_,Rt rfl,rfl,hT.forget⟩
theorem hp_kind_e {q:Option Addr} (hs:Sat M w):
  Dz 31 #[.agg #[.iface 169 (.agg #[.pointer q])]] w (fun r w'=>r = .int .i64 (5:Nat)∧Step Nope M w M w'):=by
 have hT:=hs.r
 refine Fe Tryz.func31 [.tmp 2] rfl<|Ri fun Z=>Bm hs rfl fun b1 M1 w1 hs1 hb1 e1=>Na rfl Z<|cw_seq fun _ hK2=>Ri fun Z=>Qf 0 rfl<|Q1 rfl (BC hs1 hb1 rfl)<|Nx Z<|cw_block<|Ri fun Z=>Qq rfl (q_isF (r:= .agg #[.pointer none]) V V rfl rfl)<|Qe rfl<|Qe rfl<|Nx Z<|cw_false rfl<|Ri fun Z=>Qq rfl (q_isF (r:= .agg #[.pointer none]) V V rfl rfl)<|Qe rfl<|Qe rfl<|Nx Z<|cw_false rfl<|Ri fun Z=>Qq rfl (q_isF (r:= .agg #[.pointer none]) V V rfl rfl)<|Qe rfl<|Qe rfl<|Nx Z<|cw_false rfl<|Ri fun Z=>Qq rfl (q_isF (r:= .agg #[.pointer none]) V V rfl rfl)<|Qe rfl<|Qe rfl<|Nx Z<|cw_false rfl<|Ri fun Z=>Qq rfl (q_isT V rfl)<|Qe rfl<|Qe rfl<|Nx Z<|cw_true rfl<|Ri fun Z=>Na rfl Z<|cw_ret ?_
 have hT:=hT.t hs1
 exact ⟨_,Rt rfl,rfl,hT.forget⟩
theorem hp_kind_f {q:Option Addr} (hs:Sat M w):
  Dz 31 #[.agg #[.iface 174 (.agg #[.pointer q])]] w (fun r w'=>r = .int .i64 (6:Nat)∧Step Nope M w M w'):=by
 have hT:=hs.r
 refine Fe Tryz.func31 [.tmp 2] rfl<|Ri fun Z=>Bm hs rfl fun b1 M1 w1 hs1 hb1 e1=>Na rfl Z<|cw_seq fun _ hK2=>Ri fun Z=>Qf 0 rfl<|Q1 rfl (BC hs1 hb1 rfl)<|Nx Z<|cw_block<|Ri fun Z=>Qq rfl (q_isF (r:= .agg #[.pointer none]) V V rfl rfl)<|Qe rfl<|Qe rfl<|Nx Z<|cw_false rfl<|Ri fun Z=>Qq rfl (q_isF (r:= .agg #[.pointer none]) V V rfl rfl)<|Qe rfl<|Qe rfl<|Nx Z<|cw_false rfl<|Ri fun Z=>Qq rfl (q_isF (r:= .agg #[.pointer none]) V V rfl rfl)<|Qe rfl<|Qe rfl<|Nx Z<|cw_false rfl<|Ri fun Z=>Qq rfl (q_isF (r:= .agg #[.pointer none]) V V rfl rfl)<|Qe rfl<|Qe rfl<|Nx Z<|cw_false rfl<|Ri fun Z=>Qq rfl (q_isF (r:= .agg #[.pointer none]) V V rfl rfl)<|Qe rfl<|Qe rfl<|Nx Z<|cw_false rfl<|Ri fun Z=>Qq rfl (q_isT V rfl)<|Qe rfl<|Qe rfl<|Nx Z<|cw_true rfl<|Ri fun Z=>Na rfl Z<|cw_ret ?_
 have hT:=hT.t hs1
 exact ⟨_,Rt rfl,rfl,hT.forget⟩
theorem hp_kind {H:HM} {k:Nat} {l:List El} {v:Value} (hs:Sat M w) (h:HVal M H k l v):Dz 31 #[.agg #[v]] w (fun r w'=>r = .int .i64 (k:Nat)∧Step Nope M w M w'):=by
 obtain ⟨h,_,hkd,_⟩:=h
 subst hkd
 cases h with
 | z=>exact hp_kind_z hs
 | a h=>exact hp_kind_a hs
 | b h=>exact hp_kind_b hs
 | c h=>exact hp_kind_c hs
 | d h=>exact hp_kind_d hs
 | e h=>exact hp_kind_e hs
 | f h=>exact hp_kind_f hs
theorem hp_size_0 (hs:Sat M w):
  Dz 29 #[.agg #[.nilIface]] w (fun r w'=>r = .int .i64 ((0:Nat):Int)∧Step Nope M w M w'):=by
 have hT:=hs.r
 refine Fe Tryz.func29 [.tmp 2] rfl<|Ri fun Z=>Bm hs rfl fun b1 M1 w1 hs1 hb1 e1=>Na rfl Z<|cw_seq fun _ hK2=>Ri fun Z=>Qf 0 rfl<|Q1 rfl (BC hs1 hb1 rfl)<|Qq rfl (q_ifNil V rfl)<|Nx Z<|cw_true rfl<|Ri fun Z=>Na rfl Z<|cw_ret ?_
 have hT:=hT.t hs1
 exact ⟨_,Rt rfl,rfl,hT.forget⟩
theorem hp_size_1 {H:HM} {k:Nat} {l:List El} {v:Value} (hs:Sat M w) (h:HVal M H k l v) (hk:k≠0) (hz:l.length<1000000000):
  Dz 29 #[.agg #[v]] w (fun r w'=>r = .int .i64 (l.length:Nat)∧Step Nope M w M w'):=by
 have hT:=hs.r
 obtain ⟨d,u,rfl⟩:=h.iface hk
 refine Fe Tryz.func29 [.tmp 2] rfl<|Ri fun Z=>Bm hs rfl fun b1 M1 w1 hs1 hb1 e1=>Na rfl Z<|cw_seq fun _ hK2=>Ri fun Z=>Qf 0 rfl<|Q1 rfl (BC hs1 hb1 rfl)<|Qq rfl (q_ifSome V rfl)<|Nx Z<|cw_false rfl<|cw_skip<|hK2 _ _<|Ri fun Z=>Qf 0 rfl<|Q1 rfl (BC hs1 hb1 rfl) ?_
 have h:=h.mono hs1.le
 obtain ⟨d0,u0,f0,r0,hv0,hc0_,hm0,hd0⟩:=hv_size hs1.sat h hk hz
 cases hv0
 refine as_h rfl (h_invokeP hc0_ rfl rfl (hm0 _) ?_)
 refine hd0.mono ?_
 rintro _ w2 ⟨rfl,hs2⟩
 refine Na rfl Z<|cw_ret ?_
 have hT:=hT.t hs1 |>.t hs2
 exact ⟨_,Rt rfl,rfl,hT.forget⟩
theorem hp_size {H:HM} {k:Nat} {l:List El} {v:Value} (hs:Sat M w) (h:HVal M H k l v) (hz:l.length<1000000000):Dz 29 #[.agg #[v]] w (fun r w'=>r = .int .i64 (l.length:Nat)∧Step Nope M w M w'):=by
 by_cases hk:k=0
 ·subst hk; obtain ⟨rfl,rfl⟩:=h.zero; exact hp_size_0 hs
 ·exact hp_size_1 hs h hk hz
theorem hp_full {H:HM} {k:Nat} {x:El} {l:List El} {v:Value} (hs:Sat M w) (h:HVal M H k (x::l) v) (hz:(x::l).length<1000000000):
  Dz 54 #[.agg #[v]] w (fun r w'=>r = .int .i64 0∧Step Nope M w M w'):=by
 have hT:=hs.r
 obtain ⟨d,u,rfl⟩:=h.iface h.ne
 refine Fe Tryz.func54 [.tmp 2] rfl<|Ri fun Z=>Bm hs rfl fun b1 M1 w1 hs1 hb1 e1=>Na rfl Z<|cw_seq fun _ hK2=>cw_block<|Ri fun Z=>Qf 0 rfl<|Q1 rfl (BC hs1 hb1 rfl)<|Qq rfl (q_ifSome V rfl)<|Na rfl Z<|cw_false rfl<|Ri fun Z=>Qc 1 rfl (BD hs1 hb1 rfl) ?_
 have h:=h.mono hs1.le
 refine Ca rfl ((hp_size hs1.sat h hz).mono ?_)
 rintro _ w2 ⟨rfl,hs2⟩
 refine Qq rfl (q_eqF rfl rfl (by simp only [List.length_cons]; omega))<|Na rfl Z<|cw_false rfl<|cw_skip<|hK2 _ _<|Ri fun Z=>Na rfl Z<|cw_ret ?_
 have hT:=hT.t hs1 |>.t hs2
 exact ⟨_,Rt rfl,rfl,hT.forget⟩
end Go.Proofs.YtnnldppehojffaaGreat
/- The calls of heap, part 2. -/
namespace Go.Proofs.YtnnldppehojffaaGreat
open Go Go.Eng
variable {mb:Option Nat} {w:World} {M:Mem mb}
theorem hp_min {H:HM} {k:Nat} {x:El} {l:List El} {v:Value} (hs:Sat M w) (h:HVal M H k (x::l) v) (hz:(x::l).length<1000000000):
  Dz 63 #[.agg #[v],mval mb] w (fun r w'=>r = .tuple #[.agg (elc x).toArray, .int .i64 0]∧StepC Nope H.minC M w (M.tick H.minC) w'):=by
 have hT:=hs.r
 obtain ⟨d,u,rfl⟩:=h.iface h.ne
 refine Fe Tryz.func63 [.cell 4 29, .tmp 5] rfl<|Ri fun Z=>Bm hs rfl fun b1 M1 w1 hs1 hb1 e1=>?_
 have:=hs1.size
 have hT:=hT.t hs1
 have:=hT.size
 refine Al (.agg #[(.int .i64 0),(.int .i64 0)]) hs1.sat rfl fun br w2 hs2 hor er=>?_
 have:=hs2.size
 have:=hor.1.lt
 refine Na rfl Z<|cw_seq fun _ hK2=>Ri fun Z=>Qc 1 rfl (BD hs2 hb1 rfl) ?_
 have h:=h.mono hs1.le
 refine Ca rfl ((hp_full hs2.sat h hz).mono ?_)
 rintro _ w3 ⟨rfl,hs3⟩
 have:=hs3.size
 refine Nar rfl Z fun Z=>Qm rfl<|Qq rfl (q_neF rfl rfl O)<|Nx Z<|cw_false rfl<|cw_skip<|hK2 _ _<|Ri fun Z=>Qf 0 rfl<|Q1 rfl (BC hs3 hb1 rfl)<|Qm rfl ?_
 obtain ⟨d0,u0,f0,r0,hv0,hc0_,hm0,hd0⟩:=hv_min hs3.sat h hz
 cases hv0
 refine as_h rfl (h_invokeP hc0_ rfl rfl (hm0 _) ?_)
 refine hd0.mono ?_
 rintro _ w4 ⟨rfl,hs4⟩
 have:=hs4.size
 refine Qm rfl<|Qe rfl<|Qe rfl ?_
 have hT:=hT.t hs2 |>.t hs3 |>.t hs4
 have:=hT.size
 refine Al (.agg #[(.int .i64 0),(.int .i64 0)]) hs4.sat rfl fun bx w5 hs5 hox ex=>?_
 have:=hs5.size
 have:=hox.1.lt
 refine St hs5.sat hox rfl fun w6 hs6 hox=>?_
 have h:=h.mono hs4.le
 have:=hs6.size
 refine Nar rfl Z fun Z=>Qc 2 rfl (OD hox rfl) ?_
 have hor:=hor.t hs3 |>.t hs4 |>.t hs5 |>.u hs6
 refine St hs6.sat hor rfl fun w7 hs7 hor=>?_
 have:=hs7.size
 refine Na rfl Z<|cw_ret ?_
 have hT:=hT.t hs5 |>.o hs6 |>.o hs7
 exact ⟨_,(Rc 2 rfl (OD hor rfl) (Rt rfl)),rfl,hT.tk O⟩
theorem hp_pop {H:HM} {k:Nat} {x:El} {l:List El} {v:Value} (hs:Sat M w) (h:HVal M H k (x::l) v) (hz:(x::l).length<1000000000):
  Dz 25 #[.agg #[v],mval mb] w (fun r w'=>∃ v' M',r = .tuple #[.agg #[v'], .int .i64 0]∧StepC Nope H.popC M w M' w'∧HVal M' H.pop k l v'):=by
 have hT:=hs.r
 have hk:=h.ne
 obtain ⟨d,u,rfl⟩:=h.iface hk
 refine Fe Tryz.func25 [.cell 4 27, .tmp 5] rfl<|Ri fun Z=>Bm hs rfl fun b1 M1 w1 hs1 hb1 e1=>?_
 have:=hs1.size
 have hT:=hT.t hs1
 have:=hT.size
 refine Al (.agg #[.nilIface]) hs1.sat rfl fun br w2 hs2 hor er=>?_
 have:=hs2.size
 have:=hor.1.lt
 refine Na rfl Z<|cw_seq fun _ hK2=>Ri fun Z=>Qc 1 rfl (BD hs2 hb1 rfl) ?_
 have h:=h.mono hs1.le
 refine Ca rfl ((hp_full hs2.sat h hz).mono ?_)
 rintro _ w3 ⟨rfl,hs3⟩
 have:=hs3.size
 refine Nar rfl Z fun Z=>Qm rfl<|Qq rfl (q_neF rfl rfl O)<|Nx Z<|cw_false rfl<|cw_skip<|hK2 _ _<|Ri fun Z=>Qf 0 rfl<|Q1 rfl (BC hs3 hb1 rfl)<|Qm rfl ?_
 obtain ⟨d0,u0,f0,r0,hv0,hc0_,hm0,hd0⟩:=hv_pop hs3.sat h hz
 cases hv0
 refine as_h rfl (h_invokeP hc0_ rfl rfl (hm0 _) ?_)
 refine hd0.mono ?_
 rintro v1 w4 ⟨Mn,hs4,hn⟩
 have:=hs4.size
 obtain ⟨d9,u9,rfl⟩:=hn.iface hk
 refine Qq rfl (q_build (zs:=[.nilIface]) (places:=[(0,1)]) (cs:=[_]) V V rfl rfl) ?_
 have hor:=hor.t hs3 |>.t hs4
 refine St hs4.sat hor rfl fun w5 hs5 hor=>?_
 have:=hs5.size
 refine Na rfl Z<|cw_ret ?_
 have hT:=hT.t hs2 |>.t hs3 |>.t hs4 |>.o hs5
 exact ⟨_,(Rc 1 rfl (OD hor rfl) (Rt rfl)),_,_,rfl,hT.to O,hn⟩
theorem hp_insert {H:HM} {k:Nat} {x:El} {l:List El} {v:Value} (hs:Sat M w) (h:HVal M H k l v) (hk:k≠0) (hz:l.length<1000000000):
  Dz 35 #[.agg #[v],mval mb, .agg (elc x).toArray] w (fun r w'=>∃ v' c M',r = .tuple #[.agg #[v'], .int .i64 0]∧StepC Nope c M w M' w'∧HVal M' (H.insert x) k (putE l x) v'):=by
 have hT:=hs.r
 obtain ⟨d,u,rfl⟩:=h.iface hk
 refine Fe Tryz.func35 [.cell 6 27, .tmp 7] rfl<|Ri fun Z=>Bm hs rfl fun b1 M1 w1 hs1 hb1 e1=>?_
 have:=hs1.size
 refine Bm hs1.sat rfl fun b2 M2 w2 hs2 hb2 e2=>?_
 have:=hs2.size
 have hT:=hT.t hs1 |>.t hs2
 have:=hT.size
 refine Al (.agg #[.nilIface]) hs2.sat rfl fun br w3 hs3 hor er=>?_
 have:=hs3.size
 have:=hor.1.lt
 refine Na rfl Z<|cw_seq fun _ hK2=>Ri fun Z=>Qf 0 rfl ?_
 have hb1:=hs2.le _ _ hb1
 refine Q1 rfl (BC hs3 hb1 rfl)<|Qq rfl (q_ifSome V rfl)<|Nx Z<|cw_false rfl<|cw_skip<|hK2 _ _<|Ri fun Z=>Qf 0 rfl<|Q1 rfl (BC hs3 hb1 rfl)<|Qm rfl<|Qc 2 rfl (BD hs3 hb2 rfl) ?_
 have h:=h.mono hs1.le |>.mono hs2.le
 obtain ⟨d0,u0,f0,r0,hv0,hc0_,hm0,hd0⟩:=hv_insert (x:=x) hs3.sat h hk hz
 cases hv0
 refine as_h rfl (h_invokeP hc0_ rfl rfl (hm0 _) ?_)
 refine hd0.mono ?_
 rintro v1 w4 ⟨cn,Mn,hs4,hn⟩
 have:=hs4.size
 obtain ⟨d9,u9,rfl⟩:=hn.iface hk
 refine Qq rfl (q_build (zs:=[.nilIface]) (places:=[(0,1)]) (cs:=[_]) V V rfl rfl) ?_
 have hor:=hor.t hs4
 refine St hs4.sat hor rfl fun w5 hs5 hor=>?_
 have:=hs5.size
 refine Na rfl Z<|cw_ret ?_
 have hT:=hT.t hs3 |>.t hs4 |>.o hs5
 exact ⟨_,(Rc 1 rfl (OD hor rfl) (Rt rfl)),_,_,_,rfl,hT,hn⟩
theorem hp_meld {H G:HM} {k:Nat} {l l2:List El} {v v2:Value} (hs:Sat M w) (h:HVal M H k l v) (h2:HVal M G k l2 v2) (hk:k≠0) (hz:l.length+l2.length<1000000000):
  Dz 20 #[.agg #[v],mval mb, .agg #[v2]] w (fun r w'=>∃ v' c M',r = .tuple #[.agg #[v'], .int .i64 0]∧StepC Nope c M w M' w'∧HVal M' (H.meld G) k (srtE (l++l2)) v'):=by
 have hT:=hs.r
 obtain ⟨d,u,rfl⟩:=h.iface hk
 obtain ⟨d2,u2,rfl⟩:=h2.iface hk
 refine Fe Tryz.func20 [.cell 6 27, .tmp 7] rfl<|Ri fun Z=>Bm hs rfl fun b1 M1 w1 hs1 hb1 e1=>?_
 have:=hs1.size
 refine Bm hs1.sat rfl fun b2 M2 w2 hs2 hb2 e2=>?_
 have:=hs2.size
 have hT:=hT.t hs1 |>.t hs2
 have:=hT.size
 refine Al (.agg #[.nilIface]) hs2.sat rfl fun br w3 hs3 hor er=>?_
 have:=hs3.size
 have:=hor.1.lt
 refine Na rfl Z<|cw_seq fun _ hK2=>Rv fun Z=>?_
 have hs4:=Step.drew hs3.sat
 have:=hs4.size
 refine Gf 0 1 0 rfl ?_
 have hb1:=hs2.le _ _ hb1
 refine G1 1 3 rfl (BC hs4 hb1 rfl)<|Gq 2 7 rfl (fun _=>q_ifSome V rfl)<|Gm 3 15 rfl<|Dgq 4 31 rfl V rfl rfl (fun _=>(q_fieldAddr (off:=0) V rfl)) ?_
 have h:=h.mono hs1.le |>.mono hs2.le
 refine at_gq (i:=5) (li:=lb 15 63) (cellIs _ _ _) rfl V rfl rfl rfl rfl (fun _ h=>q_load1 V rfl h) (BC hs4 hb2 rfl) V<|Dgq 6 127 rfl V rfl rfl (fun _=>q_ifSome V rfl)<|Gq 7 255 rfl (fun _=>q_pick_f rfl rfl)<|Gm 8 511 rfl<|at_gq (i:=9) (li:=lb 15 1023) (cellsAre _ _ 1 _) rfl V rfl rfl rfl rfl (fun _ h=>q_loadc (n:=1) V rfl h) (BD hs4 hb1 rfl) V<|at_gq (i:=11) (li:=lb 15 3071) (cellsAre _ _ 1 _) rfl V rfl rfl rfl rfl (fun _ h=>q_loadc (n:=1) V rfl h) (BD hs4 hb2 rfl) V<|Dgh 10 4095 rfl V rfl rfl (keep_sift (bs:=[F,T,F,F]) V) (h_call V rfl ?_)
 refine (hp_kind hs4.sat h).mono ?_
 rintro _ w5 ⟨rfl,hs5⟩
 have:=hs5.size
 have h2:=h2.mono hs1.le |>.mono hs2.le
 have hT:=hT.t hs3 |>.t hs4 |>.t hs5
 have hor:=hor.t hs4 |>.t hs5
 refine ⟨(by repeat' first | exact trivial | exact BC hs5 hb1 rfl | exact BC hs5 hb2 rfl | exact BD hs5 hb2 rfl | refine And.intro ?_ ?_),?_⟩
 refine Dgh 12 8191 rfl V rfl rfl (keep_sift (bs:=[T,F,F]) V) (h_call V rfl ?_)
 refine (hp_kind hs5.sat h2).mono ?_
 rintro _ w6 ⟨rfl,hs6⟩
 have:=hs6.size
 have hor:=hor.t hs6
 have hT:=hT.t hs6
 refine ⟨(by repeat' first | exact trivial | exact BC hs6 hb1 rfl | exact BC hs6 hb2 rfl | refine And.intro ?_ ?_),?_⟩
 refine Dgq 13 16383 rfl V rfl rfl (fun _=>q_neF rfl rfl O)<|Gq 14 32767 rfl (fun _=>q_pick_f rfl rfl)<|Dx Z<|cw_false rfl<|cw_skip<|hK2 _ _<|Ri fun Z=>Qf 0 rfl<|Q1 rfl (BC hs6 hb1 rfl)<|Qm rfl<|Qf 0 rfl<|Q1 rfl (BC hs6 hb2 rfl) ?_
 obtain ⟨d0,u0,f0,r0,hv0,hc0_,hm0,hd0⟩:=hv_meld hs6.sat h h2 hk hz
 cases hv0
 refine as_h rfl (h_invokeP hc0_ rfl rfl (hm0 _) ?_)
 refine hd0.mono ?_
 rintro v1 w7 ⟨cn,Mn,hs7,hn⟩
 have:=hs7.size
 obtain ⟨d9,u9,rfl⟩:=hn.iface hk
 refine Qq rfl (q_build (zs:=[.nilIface]) (places:=[(0,1)]) (cs:=[_]) V V rfl rfl) ?_
 have hor:=hor.t hs7
 refine St hs7.sat hor rfl fun w8 hs8 hor=>?_
 have:=hs8.size
 refine Na rfl Z<|cw_ret ?_
 have hT:=hT.t hs7 |>.o hs8
 exact ⟨_,(Rc 1 rfl (OD hor rfl) (Rt rfl)),_,_,_,rfl,hT,hn⟩
end Go.Proofs.YtnnldppehojffaaGreat
/- The calls of heap, part 3. -/
namespace Go.Proofs.YtnnldppehojffaaGreat
open Go Go.Eng
variable {mb:Option Nat} {w:World} {M:Mem mb}
theorem hp_empty_1 (hs:Sat M w):
  Dz 34 #[.int .i64 1] w (fun r w'=>∃ v' c M',r = .tuple #[.agg #[v'], .int .i64 0]∧StepC Nope c M w M' w'∧HVal M' (HM.empty 1) 1 [] v'):=by
 have hT:=hs.r
 refine Fe Tryz.func34 [.cell 2 27, .tmp 3] rfl<|Ri fun Z=>?_
 have:=hT.size
 refine Al (.agg #[.nilIface]) hs rfl fun br w1 hs1 hor er=>?_
 have:=hs1.size
 have:=hor.1.lt
 refine Na rfl Z<|cw_seq fun _ hK2=>Ri fun Z=>Qm rfl<|Nx Z<|cw_block<|Ri fun Z=>Qq rfl (qET rfl)<|Na rfl Z<|cw_true rfl<|Ri fun Z=>Qq rfl (q_build (zs:=[(.pointer none)]) (places:=[(0,1)]) (cs:=[_]) V V rfl rfl)<|Qq rfl (qf rfl)<|Qq rfl (q_build (zs:=[.nilIface]) (places:=[(0,1)]) (cs:=[_]) V V rfl rfl)<|St hs1.sat hor rfl fun w2 hs2 hor=>?_
 have:=hs2.size
 refine Na rfl Z<|cw_ret ?_
 have hT:=hT.t hs1 |>.o hs2
 exact ⟨_,(Rc 1 rfl (OD hor rfl) (Rt rfl)),_,_,_,rfl,hT, .a (t:= .nil) rfl,(HM.empty_p 1).1,rfl,by rw [(HM.empty_p 1).2]; rfl⟩
theorem hp_empty_2 (hs:Sat M w):
  Dz 34 #[.int .i64 2] w (fun r w'=>∃ v' c M',r = .tuple #[.agg #[v'], .int .i64 0]∧StepC Nope c M w M' w'∧HVal M' (HM.empty 2) 2 [] v'):=by
 have hT:=hs.r
 refine Fe Tryz.func34 [.cell 2 27, .tmp 3] rfl<|Ri fun Z=>?_
 have:=hT.size
 refine Al (.agg #[.nilIface]) hs rfl fun br w1 hs1 hor er=>?_
 have:=hs1.size
 have:=hor.1.lt
 refine Na rfl Z<|cw_seq fun _ hK2=>Ri fun Z=>Qm rfl<|Nx Z<|cw_block<|Ri fun Z=>Qq rfl (qEF rfl)<|Na rfl Z<|cw_false rfl<|Ri fun Z=>Qq rfl (qET rfl)<|Na rfl Z<|cw_true rfl<|Ri fun Z=>Qq rfl (q_build (zs:=[(.pointer none)]) (places:=[(0,1)]) (cs:=[_]) V V rfl rfl)<|Qq rfl (qf rfl)<|Qq rfl (q_build (zs:=[.nilIface]) (places:=[(0,1)]) (cs:=[_]) V V rfl rfl)<|St hs1.sat hor rfl fun w2 hs2 hor=>?_
 have:=hs2.size
 refine Na rfl Z<|cw_ret ?_
 have hT:=hT.t hs1 |>.o hs2
 exact ⟨_,(Rc 1 rfl (OD hor rfl) (Rt rfl)),_,_,_,rfl,hT, .b (t:=[]) (frep_nil.2 rfl),(HM.empty_p 2).1,rfl,by rw [(HM.empty_p 2).2]; rfl⟩
theorem hp_empty_3 (hs:Sat M w):
  Dz 34 #[.int .i64 3] w (fun r w'=>∃ v' c M',r = .tuple #[.agg #[v'], .int .i64 0]∧StepC Nope c M w M' w'∧HVal M' (HM.empty 3) 3 [] v'):=by
 have hT:=hs.r
 refine Fe Tryz.func34 [.cell 2 27, .tmp 3] rfl<|Ri fun Z=>?_
 have:=hT.size
 refine Al (.agg #[.nilIface]) hs rfl fun br w1 hs1 hor er=>?_
 have:=hs1.size
 have:=hor.1.lt
 refine Na rfl Z<|cw_seq fun _ hK2=>Ri fun Z=>Qm rfl<|Nx Z<|cw_block<|Ri fun Z=>Qq rfl (qEF rfl)<|Na rfl Z<|cw_false rfl<|Ri fun Z=>Qq rfl (qEF rfl)<|Na rfl Z<|cw_false rfl<|Ri fun Z=>Qq rfl (qET rfl)<|Na rfl Z<|cw_true rfl<|Ri fun Z=>Qq rfl (q_build (zs:=[(.pointer none)]) (places:=[(0,1)]) (cs:=[_]) V V rfl rfl)<|Qq rfl (qf rfl)<|Qq rfl (q_build (zs:=[.nilIface]) (places:=[(0,1)]) (cs:=[_]) V V rfl rfl)<|St hs1.sat hor rfl fun w2 hs2 hor=>?_
 have:=hs2.size
 refine Na rfl Z<|cw_ret ?_
 have hT:=hT.t hs1 |>.o hs2
 exact ⟨_,(Rc 1 rfl (OD hor rfl) (Rt rfl)),_,_,_,rfl,hT, .c (t:= .nil) (prep_nil.2 rfl),(HM.empty_p 3).1,rfl,by rw [(HM.empty_p 3).2]; rfl⟩
theorem hp_empty_4 (hs:Sat M w):
  Dz 34 #[.int .i64 4] w (fun r w'=>∃ v' c M',r = .tuple #[.agg #[v'], .int .i64 0]∧StepC Nope c M w M' w'∧HVal M' (HM.empty 4) 4 [] v'):=by
 have hT:=hs.r
 refine Fe Tryz.func34 [.cell 2 27, .tmp 3] rfl<|Ri fun Z=>?_
 have:=hT.size
 refine Al (.agg #[.nilIface]) hs rfl fun br w1 hs1 hor er=>?_
 have:=hs1.size
 have:=hor.1.lt
 refine Na rfl Z<|cw_seq fun _ hK2=>Ri fun Z=>Qm rfl<|Nx Z<|cw_block<|Ri fun Z=>Qq rfl (qEF rfl)<|Na rfl Z<|cw_false rfl<|Ri fun Z=>Qq rfl (qEF rfl)<|Na rfl Z<|cw_false rfl<|Ri fun Z=>Qq rfl (qEF rfl)<|Na rfl Z<|cw_false rfl<|Ri fun Z=>Qq rfl (qET rfl)<|Na rfl Z<|cw_true rfl<|Ri fun Z=>Qq rfl (q_build (zs:=[(.pointer none)]) (places:=[(0,1)]) (cs:=[_]) V V rfl rfl)<|Qq rfl (qf rfl)<|Qq rfl (q_build (zs:=[.nilIface]) (places:=[(0,1)]) (cs:=[_]) V V rfl rfl)<|St hs1.sat hor rfl fun w2 hs2 hor=>?_
 have:=hs2.size
 refine Na rfl Z<|cw_ret ?_
 have hT:=hT.t hs1 |>.o hs2
 exact ⟨_,(Rc 1 rfl (OD hor rfl) (Rt rfl)),_,_,_,rfl,hT, .d (t:=[]) (frep_nil.2 rfl),(HM.empty_p 4).1,rfl,by rw [(HM.empty_p 4).2]; rfl⟩
theorem hp_empty_5 (hs:Sat M w):
  Dz 34 #[.int .i64 5] w (fun r w'=>∃ v' c M',r = .tuple #[.agg #[v'], .int .i64 0]∧StepC Nope c M w M' w'∧HVal M' (HM.empty 5) 5 [] v'):=by
 have hT:=hs.r
 refine Fe Tryz.func34 [.cell 2 27, .tmp 3] rfl<|Ri fun Z=>?_
 have:=hT.size
 refine Al (.agg #[.nilIface]) hs rfl fun br w1 hs1 hor er=>?_
 have:=hs1.size
 have:=hor.1.lt
 refine Na rfl Z<|cw_seq fun _ hK2=>Ri fun Z=>Qm rfl<|Nx Z<|cw_block<|Ri fun Z=>Qq rfl (qEF rfl)<|Na rfl Z<|cw_false rfl<|Ri fun Z=>Qq rfl (qEF rfl)<|Na rfl Z<|cw_false rfl<|Ri fun Z=>Qq rfl (qEF rfl)<|Na rfl Z<|cw_false rfl<|Ri fun Z=>Qq rfl (qEF rfl)<|Na rfl Z<|cw_false rfl<|Ri fun Z=>Qq rfl (qET rfl)<|Na rfl Z<|cw_true rfl<|Ri fun Z=>Qq rfl (q_build (zs:=[(.pointer none)]) (places:=[(0,1)]) (cs:=[_]) V V rfl rfl)<|Qq rfl (qf rfl)<|Qq rfl (q_build (zs:=[.nilIface]) (places:=[(0,1)]) (cs:=[_]) V V rfl rfl)<|St hs1.sat hor rfl fun w2 hs2 hor=>?_
 have:=hs2.size
 refine Na rfl Z<|cw_ret ?_
 have hT:=hT.t hs1 |>.o hs2
 exact ⟨_,(Rc 1 rfl (OD hor rfl) (Rt rfl)),_,_,_,rfl,hT, .e (t:= .nil) rfl,(HM.empty_p 5).1,rfl,by rw [(HM.empty_p 5).2]; rfl⟩
theorem hp_empty_6 (hs:Sat M w):
  Dz 34 #[.int .i64 6] w (fun r w'=>∃ v' c M',r = .tuple #[.agg #[v'], .int .i64 0]∧StepC Nope c M w M' w'∧HVal M' (HM.empty 6) 6 [] v'):=by
 have hT:=hs.r
 refine Fe Tryz.func34 [.cell 2 27, .tmp 3] rfl<|Ri fun Z=>?_
 have:=hT.size
 refine Al (.agg #[.nilIface]) hs rfl fun br w1 hs1 hor er=>?_
 have:=hs1.size
 have:=hor.1.lt
 refine Na rfl Z<|cw_seq fun _ hK2=>Ri fun Z=>Qm rfl<|Nx Z<|cw_block<|Ri fun Z=>Qq rfl (qEF rfl)<|Na rfl Z<|cw_false rfl<|Ri fun Z=>Qq rfl (qEF rfl)<|Na rfl Z<|cw_false rfl<|Ri fun Z=>Qq rfl (qEF rfl)<|Na rfl Z<|cw_false rfl<|Ri fun Z=>Qq rfl (qEF rfl)<|Na rfl Z<|cw_false rfl<|Ri fun Z=>Qq rfl (qEF rfl)<|Na rfl Z<|cw_false rfl<|Ri fun Z=>Qq rfl (qET rfl)<|Na rfl Z<|cw_true rfl<|Ri fun Z=>Qq rfl (q_build (zs:=[(.pointer none)]) (places:=[(0,1)]) (cs:=[_]) V V rfl rfl)<|Qq rfl (qf rfl)<|Qq rfl (q_build (zs:=[.nilIface]) (places:=[(0,1)]) (cs:=[_]) V V rfl rfl)<|St hs1.sat hor rfl fun w2 hs2 hor=>?_
 have:=hs2.size
 refine Na rfl Z<|cw_ret ?_
 have hT:=hT.t hs1 |>.o hs2
 exact ⟨_,(Rc 1 rfl (OD hor rfl) (Rt rfl)),_,_,_,rfl,hT, .f (t:= .nil) (brep_nil.2 rfl),(HM.empty_p 6).1,rfl,by rw [(HM.empty_p 6).2]; rfl⟩
theorem hp_empty {k:Nat} (hs:Sat M w) (hk:k≠0) (hk6:k≤6):Dz 34 #[.int .i64 (k:Nat)] w (fun r w'=>∃ v' c M',r = .tuple #[.agg #[v'], .int .i64 0]∧StepC Nope c M w M' w'∧HVal M' (HM.empty k) k [] v'):=by
 have hc:k=1∨k=2∨k=3∨k=4∨k=5∨k=6:=by omega
 rcases hc with rfl | rfl | rfl | rfl | rfl | rfl
 ·exact hp_empty_1 hs
 ·exact hp_empty_2 hs
 ·exact hp_empty_3 hs
 ·exact hp_empty_4 hs
 ·exact hp_empty_5 hs
 ·exact hp_empty_6 hs
def insAll (l:List El) (H:HM):HM:=l.foldl (fun H x=>H.insert x) H
theorem insAll_snoc (l:List El) (x:El) (H:HM):insAll (l++[x]) H=(insAll l H).insert x:=by simp [insAll]
theorem hp_of {k:Nat} {u:Value} {n:Nat} {xs:List El} (hs:Sat M w) (hr:Rds M w 2 u n (els xs)) (hn:n≤1000000) (hk:k≠0) (hk6:k≤6):
  Dz 14 #[mval mb, .int .i64 (k:Nat),u] w (fun r w'=>∃ v' c M',r = .tuple #[.agg #[v'], .int .i64 0]∧StepC Nope c M w M' w'∧HVal M' (insAll xs (HM.empty k)) k (srtE xs) v'):=by
 have hT:=hs.r
 have hxl:=hr.els_len hs
 obtain ⟨sa,sc,rfl,_,_⟩:=hr.slice hs
 have hlen:∀ i,(srtE (xs.take i)).length≤n:=fun i=>by rw [srtE_length,List.length_take]; omega
 refine Fe Tryz.func14 [.cell 6 27, .tmp 7] rfl<|Ri fun Z=>?_
 have:=hT.size
 refine Al (.agg #[.nilIface]) hs rfl fun br w1 hs1 hor er=>?_
 have:=hs1.size
 have:=hor.1.lt
 refine Nar rfl Z fun Z=>Qm rfl<|Ca rfl ((hp_empty hs1.sat hk hk6).mono ?_)
 rintro _ w2 ⟨v0,c0,M0,rfl,hs2,hv⟩
 have:=hs2.size
 obtain ⟨d_hv,u_hv,rfl⟩:=hv.iface hk
 refine Qm rfl<|Qe rfl<|Qe rfl ?_
 have hT:=hT.t hs1 |>.t hs2
 have:=hT.size
 refine Al (.agg #[.nilIface]) hs2.sat rfl fun bo w3 hs3 hoo eo=>?_
 have:=hs3.size
 have:=hoo.1.lt
 refine St hs3.sat hoo rfl fun w4 hs4 hoo=>?_
 have:=hs4.size
 refine Na rfl Z<|cw_seq fun _ hK3=>Ri fun Z=>Qm rfl<|Qq rfl (ql rfl)<|Qm rfl<|Nx Z<|cw_block ?_
 have hor:=hor.t hs2 |>.t hs3 |>.u hs4
 have hT:=hT.t hs3 |>.o hs4
 refine cw_loop (fun mm l1 w1=>∃ (i:Nat) (v:Value) (c:Nat) (M1:Mem mb),mm=n-i∧i≤n∧l1=[(0,mval mb),(6, .pointer (some ⟨br,0,none⟩)),(8, .pointer (some ⟨bo,0,none⟩)),(9, .int .i64 0),(17, .slice sa n sc),(18, .int .i64 (n:Nat)),(19, .int .i64 i)]∧StepC Nope c M w M1 w1∧HVal M1 (insAll (xs.take i) (HM.empty k)) k (srtE (xs.take i)) v∧Own w1 M1 bo [v] 27∧Own w1 M1 br [.nilIface] 27) (n) [(0,mval mb),(6, .pointer (some ⟨br,0,none⟩)),(8, .pointer (some ⟨bo,0,none⟩)),(9, .int .i64 0),(17, .slice sa n sc),(18, .int .i64 (n:Nat)),(19, .int .i64 (0:Nat))] (.cons rfl (.cons rfl (.cons rfl (.cons rfl (.cons rfl (.cons rfl (.cons rfl (.nil _)))))))) ?_ ?_
 ·exact ⟨0,_,_,M0,rfl,Nat.zero_le _,rfl,hT,hv,hoo,hor⟩
 have hbw:w.heap.size≤bo∧w.heap.size≤br∧bo≠br:=by omega
 clear hT hv hoo hor
 rintro mm l1 w1 ⟨i,v,c,M1,rfl,hi,rfl,hT,hv,hoo,hor⟩
 obtain ⟨d_hv,u_hv,rfl⟩:=hv.iface hk
 have:=hoo.1.lt
 have:=hor.1.lt
 refine Ri fun Z=>Qq rfl (q_lt rfl rfl)<|Nx Z<|cw_seq fun _ hK6=>cw_cond rfl (fun hc0=>?_) (fun hc0=>?_)
 ·have hlt:i<n:=by have:=of_decide_eq_true hc0; omega
  obtain ⟨y,hy⟩:∃ y,xs[i]? = some y:=⟨xs[i]'O,by simp⟩
  obtain ⟨g,o,rfl⟩:=(hr _ _ _ hT).there O
  refine cw_skip<|hK6 _ _<|cw_seq fun _ hK7=>cw_block<|Ri fun Z=>Qq rfl (qi 29 2 rfl)<|Qc 2 rfl ((hr _ _ _ hT).el (j:=(i:Int).toNat) (by simpa using hy)) ?_
  have:=hT.size
  refine Al (.agg #[(.int .i64 0),(.int .i64 0)]) hT.sat rfl fun bxx w5 hs5 hoxx exx=>?_
  have:=hs5.size
  have:=hoxx.1.lt
  refine St hs5.sat hoxx rfl fun w6 hs6 hoxx=>?_
  have:=hs6.size
  refine Nr Z fun Z=>Qm rfl<|Qq rfl (qET rfl)<|Nx Z<|cw_true rfl<|cw_region fun _ Z=>?_
  have hoo:=hoo.t hs5 |>.u hs6
  refine Qc 1 rfl (OD hoo rfl)<|Qm rfl<|Qc 2 rfl (OD hoxx rfl)<|Ca rfl ((hp_insert (x:=y) hs6.sat hv hk (by have:=hlen i; omega)).mono ?_)
  rintro _ w7 ⟨v2,c2,M2,rfl,hs7,hv2⟩
  have:=hs7.size
  obtain ⟨d_hv2,u_hv2,rfl⟩:=hv2.iface hk
  refine Qm rfl<|Qe rfl<|Qe rfl ?_
  have hoo:=hoo.t hs7
  refine St hs7.sat hoo rfl fun w8 hs8 hoo=>?_
  have:=hs8.size
  refine Qa rfl<|as_nil (Z _ _ ?_)
  refine hK7 _ _<|cw_region fun _ Z=>Qq rfl (qA rfl)<|Qm rfl<|as_nil (Z _ _ ?_)
  have hor:=hor.t hs5 |>.u hs6 |>.t hs7 |>.step hs8 (fun h=>by have h:br=bo:=h; omega)
  have hT:=hT.t hs5 |>.o hs6 |>.t hs7 |>.o hs8
  have hv:=hv.mono hs7.le
  refine ⟨_,_,?_,(.cons rfl (.cons rfl (.cons rfl (.cons rfl (.cons rfl (.cons rfl (.cons rfl (.nil _)))))))),i+1,_,_,_,rfl,by omega,rfl,hT,?_,hoo,hor⟩
  ·omega
  ·rw [List.take_add_one,hy]; simp only [Option.toList]; rw [insAll_snoc,srtE_snoc]; exact hv2
 ·have hge:i=n:=by have:=of_decide_eq_false hc0; omega
  refine cw_exit<|hK3 _ _<|Ri fun Z=>Qc 1 rfl (OD hoo rfl)<|Qm rfl<|St hT.sat hor rfl fun w9 hs9 hor=>?_
  have:=hs9.size
  refine Na rfl Z<|cw_ret ?_
  subst hge
  rw [List.take_of_length_le O] at hv
  have hT:=hT.o hs9
  exact ⟨_,(Rc 1 rfl (OD hor rfl) (Rt rfl)),_,_,_,rfl,hT,hv⟩
end Go.Proofs.YtnnldppehojffaaGreat
/- The elements of a heap, told one by one, part 1. -/
namespace Go.Proofs.YtnnldppehojffaaGreat
open Go Go.Eng
variable {mb:Option Nat} {w:World} {M:Mem mb}
def elV (e:El):Value:= .agg (elc e).toArray
theorem drainC_step {n:Nat} {H:HM} (hn:0<n) (h:H.els≠[]):HM.drainC n H=H.minC+(if n-1=0 then 0 else H.popC+HM.drainC (n-1) H.pop):=by
 obtain ⟨m,rfl⟩:∃ m,n=m+1:=⟨n-1,by omega⟩
 rw [HM.drainC,if_neg h,Nat.add_sub_cancel]
theorem drainC_none {n:Nat} {H:HM} (h:H.els=[]):HM.drainC n H=0:=by
 cases n with
 | zero=>rfl
 | succ n=>rw [HM.drainC,if_pos h]
theorem dr_each {H:HM} {k:Nat} {l:List El} {v:Value} {z:Int} (hs:Sat M w) (h:HVal M H k l v):
  Dz 28 #[mval mb, .agg #[v], .int .i64 z] w (fun r w'=>∃ b1 b2 b3 M',r = .func (.func 62) #[] #[.pointer (some ⟨b1,0,none⟩), .pointer (some ⟨b2,0,none⟩), .pointer (some ⟨b3,0,none⟩)]∧Step Nope M w M' w'∧M' b1=some ([.int .i64 z],3)∧Own w' M' b2 [v] 27∧M' b3=some ([mval mb],49)∧w.heap.size≤b2):=by
 have hT:=hs.r
 obtain h0 | ⟨d0,u0,hv0⟩:=h.shape
 ·subst h0
  refine Fe Tryz.func28 [.tmp 6] rfl<|Ri fun Z=>Bm hs rfl fun b1 M1 w1 hs1 hb1 e1=>?_
  have hz1:=hs1.size
  have hT:=hT.t hs1
  have hqah:=hT.size
  refine Bo hs1.sat rfl fun bh w2 hs2 hoh eh=>?_
  have hz2:=hs2.size
  have hlh:=hoh.1.lt
  refine Bm hs2.sat rfl fun b3 M3 w3 hs3 hb3 e3=>?_
  have hz3:=hs3.size
  refine Nar rfl Z fun Z=>Qq rfl (q_func rfl rfl)<|Na rfl Z<|cw_ret ?_
  have hT:=hT.t hs2 |>.t hs3
  have hb1:=hs3.le _ _ hb1
  have hoh:=hoh.t hs3
  refine ⟨_,Rt rfl,_,_,_,_,rfl,hT,hb3,hoh,hb1,by omega⟩
 ·subst hv0
  refine Fe Tryz.func28 [.tmp 6] rfl<|Ri fun Z=>Bm hs rfl fun b1 M1 w1 hs1 hb1 e1=>?_
  have hz1:=hs1.size
  have hT:=hT.t hs1
  have hqah:=hT.size
  refine Bo hs1.sat rfl fun bh w2 hs2 hoh eh=>?_
  have hz2:=hs2.size
  have hlh:=hoh.1.lt
  refine Bm hs2.sat rfl fun b3 M3 w3 hs3 hb3 e3=>?_
  have hz3:=hs3.size
  refine Nar rfl Z fun Z=>Qq rfl (q_func rfl rfl)<|Na rfl Z<|cw_ret ?_
  have hT:=hT.t hs2 |>.t hs3
  have hb1:=hs3.le _ _ hb1
  have hoh:=hoh.t hs3
  refine ⟨_,Rt rfl,_,_,_,_,rfl,hT,hb3,hoh,hb1,by omega⟩
set_option maxRecDepth 2000 in
theorem dr_each1 {H:HM} {k b1 b2 b3:Nat} {l:List El} {v:Value} {z:Int} (hb1:M b1=some ([.int .i64 z],3)) (ho:Own w M b2 [v] 27) (hb3:M b3=some ([mval mb],49)) (hv:HVal M H k l v) (hz0:0≤z) (hlz:l.length<1000000000) (hz9:z≤9223372036854775807):
  IterG Tryz.prog 62 [.pointer (some ⟨b1,0,none⟩), .pointer (some ⟨b2,0,none⟩), .pointer (some ⟨b3,0,none⟩)] (Just b2) ((l.take z.toNat).map elV).length (fun i v=>((l.take z.toNat).map elV)[i]? = some v) (fun _=>True) (fun M0 M'=>M'.n=M0.n+HM.drainC z.toNat H) M w:=by
 intro r J M0 W0 h0 hW habide hround hJ
 have hb1:=h0.le _ _ hb1
 have hb3:=h0.le _ _ hb3
 refine Fe Tryz.func62 [] rfl<|Ri fun Z=>Na rfl Z<|cw_block ?_
 have hv:=hv.mono h0.le
 have ho:=ho.step h0 (fun h=>h rfl)
 refine cw_loop (fun mm l1 wL=>∃ (i:Nat) (q:List El) (v:Value) (H1:HM) (M1:Mem mb),M1.n+HM.drainC (z.toNat-i) H1=M0.n+HM.drainC z.toNat H∧mm=l.length-i∧i≤l.length∧(i:Int)≤z∧((i:Int)<z→q=l.drop i)∧q.length≤l.length∧l1=[(0, .func (.yield r) #[] #[]),(1, .pointer (some ⟨b1,0,none⟩)),(2, .pointer (some ⟨b2,0,none⟩)),(3, .pointer (some ⟨b3,0,none⟩)),(5, .int .i64 i)]∧Le M0 M1∧Sat M1 wL∧J i M1 wL∧HVal M1 H1 k q v∧Own wL M1 b2 [v] 27) (l.length) [(0, .func (.yield r) #[] #[]),(1, .pointer (some ⟨b1,0,none⟩)),(2, .pointer (some ⟨b2,0,none⟩)),(3, .pointer (some ⟨b3,0,none⟩)),(5, .int .i64 (0:Nat))] (.cons rfl (.cons rfl (.cons rfl (.cons rfl (.cons rfl (.nil _)))))) ?_ ?_
 ·exact ⟨0,l,v,H,M0,rfl,rfl,Nat.zero_le _,by omega,fun _=>rfl,Nat.le_refl _,rfl,Le.refl _,h0.sat,hJ,hv,ho⟩
 clear hJ hv ho
 rintro mm l1 wL ⟨i,q,v,H1,M1,hcn,rfl,hi,hiz,hq,hql,rfl,hle,hst,hJ,hv,ho⟩
 have hT:=Step.refl (Just b2) hst
 have hb1:=hle _ _ hb1
 have hb3:=hle _ _ hb3
 refine cw_seq fun _ hK2=>?_
 have hcs:z≤i∨((i:Int)<z∧q=[])∨((i:Int)<z∧∃ y q2,q=y::q2):=by
  rcases Int.lt_or_le i z with h | h
  ·cases q with
   | nil=>exact .inr (.inl ⟨h,rfl⟩)
   | cons y q2=>exact .inr (.inr ⟨h,y,q2,rfl⟩)
  ·exact .inl h
 rcases hcs with hA | ⟨hA,rfl⟩ | ⟨hA,y,q2,rfl⟩
 ·skip
  refine Ri fun Z=>Qm rfl<|Q1 rfl (BlkR.cell (hst _ _ _ hb1) rfl)<|Qq rfl (qLF rfl)<|Qm rfl<|as_gskip rfl rfl rfl rfl rfl<|as_gskip rfl rfl rfl rfl rfl<|as_gskip rfl rfl rfl rfl rfl<|Qq rfl (q_pick_f rfl rfl)<|Nx Z<|cw_false rfl<|cw_exit ?_
  have e:i=(((l.take z.toNat).map elV)).length:=by
   rw [List.length_map,List.length_take]
   omega
  exact ⟨_,res_nil,_,hT.sat,hle.trans hT.le,by have h9:=hT.cnt; rw [show z.toNat-i=0 by omega] at hcn; simp only [HM.drainC] at hcn ⊢; omega,by rw [← e]; exact habide _ _ _ _ _ _ trivial hJ hT⟩
 ·have hdn:=hq hA
  refine Ri fun Z=>Qm rfl<|Q1 rfl (BlkR.cell (hst _ _ _ hb1) rfl)<|Qq rfl (qLT rfl)<|Qm rfl<|as_gh rfl rfl rfl rfl (h_q rfl (q_loadc (n:=1) V rfl (OD ho rfl)) ?_)
  refine as_gh rfl rfl rfl rfl (h_call V rfl ?_)
  refine (hp_size hst hv O).mono ?_
  rintro _ w1 ⟨rfl,hs1⟩
  have:=hs1.size
  refine as_gh rfl rfl rfl rfl (h_q rfl (q_gtF rfl rfl (by simp)) ?_)
  refine Qq rfl (q_pick_t rfl rfl)<|Nx Z<|cw_false rfl<|cw_exit ?_
  have ho:=ho.t hs1
  have hT:=hT.t hs1
  have e:i=(((l.take z.toNat).map elV)).length:=by
   rw [List.length_map,List.length_take]
   have h1:=List.drop_eq_nil_iff.1 hdn.symm
   omega
  exact ⟨_,res_nil,_,hT.sat,hle.trans hT.le,by have h9:=hT.cnt; rw [drainC_none (by have:=hv.len; exact List.eq_nil_of_length_eq_zero this)] at hcn; omega,by rw [← e]; exact habide _ _ _ _ _ _ trivial hJ hT⟩
 ·have hdn:=hq hA
  have hil:i<l.length:=by
   rcases Nat.lt_or_ge i l.length with h | h
   ·exact h
   ·rw [List.drop_eq_nil_of_le h] at hdn; cases hdn
  have hdc:=List.drop_eq_getElem_cons hil
  rw [← hdn] at hdc
  obtain ⟨hy,hq2⟩:=List.cons.inj hdc
  subst hq2
  have hy1:l[i]? = some y:=by rw [hy]; exact List.getElem?_eq_getElem hil
  have hk0:k≠0:=hv.ne
  have hdC:HM.drainC (z.toNat-i) H1=H1.minC+(if z.toNat-i-1=0 then 0 else H1.popC+HM.drainC (z.toNat-i-1) H1.pop):=drainC_step O (fun e=>by have:=hv.len; rw [e] at this; cases this)
  refine Ri fun Z=>Qm rfl<|Q1 rfl (BlkR.cell (hst _ _ _ hb1) rfl)<|Qq rfl (qLT rfl)<|Qm rfl<|as_gh rfl rfl rfl rfl (h_q rfl (q_loadc (n:=1) V rfl (OD ho rfl)) ?_)
  refine as_gh rfl rfl rfl rfl (h_call V rfl ?_)
  refine (hp_size hst hv O).mono ?_
  rintro _ w2 ⟨rfl,hs2⟩
  have:=hs2.size
  refine as_gh rfl rfl rfl rfl (h_q rfl (q_gtT rfl rfl (by simp only [List.length_cons]; omega)) ?_)
  refine Qq rfl (q_pick_t rfl rfl)<|Nx Z<|cw_true rfl<|cw_skip<|hK2 _ _<|cw_seq fun _ hK6=>cw_block<|Ri fun Z=>?_
  have ho:=ho.t hs2
  refine Qc 1 rfl (OD ho rfl)<|Q1 rfl (BC hs2 hb3 rfl)<|Ca rfl ((hp_min hs2.sat hv O).mono ?_)
  rintro _ w3 ⟨rfl,hs3⟩
  have:=hs3.size
  refine Qm rfl<|Qe rfl<|Qe rfl ?_
  have ho:=ho.t hs3
  have:=ho.1.lt
  have hT:=hT.t hs2 |>.t hs3
  have:=hT.size
  refine Al (.agg #[(.int .i64 0),(.int .i64 0)]) hs3.sat rfl fun bx w4 hs4 hox ex=>?_
  have:=hs4.size
  have:=hox.1.lt
  have hwx:wL.heap.size≤bx:=by omega
  refine St hs4.sat hox rfl fun w5 hs5 hox=>?_
  have:=hs5.size
  refine Na rfl Z<|cw_seq fun _ hK8=>Ri fun Z=>Qm rfl<|Qq rfl (q_neF rfl rfl O)<|Qm rfl<|as_gh rfl rfl rfl rfl (h_q rfl (q_move rfl) ?_)
  refine as_gh rfl rfl rfl rfl (h_q rfl (q_loadc (n:=2) V rfl (OD hox rfl)) ?_)
  have hT:=hT.t hs4 |>.o hs5
  have hJ2:=habide _ _ _ _ _ _ trivial hJ hT
  have h7:=hT.cnt
  have hTz:=hT.size
  refine as_gh rfl rfl rfl rfl (h_yield rfl rfl ?_)
  have hv:=hv.mono hs3.le
  have hb1:=hs3.le _ _ hb1
  have hb3:=hs3.le _ _ hb3
  have ho:=ho.t hs4 |>.u hs5
  obtain ⟨fn_,tm_,as_,bo_,hy2,hy3⟩:=hround i (elV y) _ _ (show (List.map elV (List.take z.toNat l))[i]? = some (elV y) by rw [List.getElem?_map,List.getElem?_take,if_pos O,hy1]; rfl) hJ2 hT.sat (hle.trans hT.le)
  refine ⟨fn_,tm_,as_,bo_,hy2,RoundIn.mono hy3 fun e w6 he=>?_⟩
  cases e <;> try exact (he:False).elim
  obtain ⟨rfl,M2,hs6,hJ3⟩:=he
  clear hox
  have hle2:=(hle.trans hT.le).trans hs6.le
  have h8:=hs6.cnt
  have:=hs6.size
  clear hT
  have hT:=Step.refl (Just b2) hs6.sat
  refine as_gh rfl rfl rfl rfl (h_q rfl (q_not rfl) ?_)
  refine Qq rfl (q_pick_f rfl rfl)<|Nx Z<|cw_false rfl<|cw_skip<|hK8 _ _<|Ri fun Z=>Qm rfl<|Qq rfl (qA rfl) ?_
  have hb1:=hs6.le _ _ hb1
  refine Q1 rfl (BC hs6 hb1 rfl)<|Qq rfl (q_lt rfl rfl)<|Nx Z ?_
  have hv:=hv.mono hs6.le
  have ho:=ho.step hs6 (fun h=>h rfl)
  have hb3:=hs6.le _ _ hb3
  refine cw_cond rfl (fun hc2=>?_) (fun hc2=>?_)
  ·have hc2:=of_decide_eq_true hc2
   refine cw_region fun _ Z=>Qc 1 rfl (OD ho rfl)<|Q1 rfl (BC hs6 hb3 rfl)<|Ca rfl ((hp_pop hs6.sat hv O).mono ?_)
   rintro _ w7 ⟨vn,Mn,rfl,hs7,hn⟩
   obtain ⟨dn,un,rfl⟩:=hn.iface hk0
   have:=hs7.size
   refine Qm rfl<|Qe rfl<|Qe rfl ?_
   have ho:=ho.t hs7
   refine St hs7.sat ho rfl fun w8 hs8 ho=>?_
   have:=hs8.size
   refine as_nil (Z _ _ ?_)
   refine hK6 _ _<|cw_region fun _ Z=>Qm rfl<|Qq rfl (qA rfl)<|Qa rfl<|as_nil (Z _ _ ?_)
   have hv:=hv.mono hs7.le
   have hT:=hT.t hs7 |>.also hs8
   refine ⟨_,_,?_,(.cons rfl (.cons rfl (.cons rfl (.cons rfl (.cons rfl (.nil _)))))),i+1,l.drop (i+1),_,H1.pop,_,?_,rfl,by omega,by omega,fun _=>rfl,by rw [List.length_drop]; omega,rfl,hle2.trans hT.le,hT.sat,habide _ _ _ _ _ _ trivial hJ3 hT,hn,ho⟩
   ·omega
   ·have h9:=hT.cnt
    rw [hdC,if_neg O] at hcn
    rw [show z.toNat-(i+1)=z.toNat-i-1 by omega]
    omega
  ·have hc2:=of_decide_eq_false hc2
   refine cw_skip<|hK6 _ _<|cw_region fun _ Z=>Qm rfl<|Qq rfl (qA rfl)<|Qa rfl<|as_nil (Z _ _ ?_)
   refine ⟨_,_,?_,(.cons rfl (.cons rfl (.cons rfl (.cons rfl (.cons rfl (.nil _)))))),i+1,_,_,H1,_,?_,rfl,by omega,by omega,fun h=>absurd h O,hql,rfl,hle2.trans hT.le,hT.sat,habide _ _ _ _ _ _ trivial hJ3 hT,hv,ho⟩
   ·omega
   ·have h9:=hT.cnt
    rw [hdC,if_pos O] at hcn
    rw [show z.toNat-(i+1)=0 by omega]
    simp only [HM.drainC]
    omega
end Go.Proofs.YtnnldppehojffaaGreat
/- Rows of what is told, part 1. -/
namespace Go.Proofs.YtnnldppehojffaaGreat
open Go Go.Eng
variable {mb:Option Nat} {w:World} {M:Mem mb}
theorem col_seq {S:Nat→Prop} {C:Nat} {lb:List Value} {xs:List El} (hs:Sat M w) (hit:∀ M' w',Step Nope M w M' w'→IterG Tryz.prog 62 lb S (xs.map elV).length (fun i v=>(xs.map elV)[i]? = some v) (fun _=>True) (fun M0 M'=>M'.n=M0.n+C) M' w') (hS:∀ k,S k→k<w.heap.size) (hz:xs.length≤1000000000):
  Dz 61 #[.slice none 0 0, .func (.func 62) #[] lb.toArray] w (fun v w'=>∃ M',StepC S C M w M' w'∧Buf w' M' 29 2 v xs.length (els xs)∧∀ g,v.ownBlock=some g→w.heap.size≤g):=by
 have hT:=hs.r
 refine fn_enterM (K':=fun v w'=>∃ M',StepC S C M w M' w'∧Buf w' M' 29 2 v xs.length (els xs)∧∀ g,v.ownBlock=some g→w.heap.size≤g) Tryz.func61 rfl (rs:=[.tmp 4]) rfl rfl rfl rfl ?_ (fun _ _ _ _ _ _ h=>resT rfl h) ?_
 ·refine cm_seq fun K0a hK0a=>cw_region fun K0b hK0b=>?_
  have:=hT.size
  refine Bo hs rfl fun bb w1 hs1 hob eb=>?_
  have hz1:=hs1.size
  have:=hob.1.lt
  refine Qa rfl<|as_nil (hK0b _ _ (hK0a _ _ ?_))
  clear hK0b hK0a K0b K0a
  refine cm_seqM<|cm_seq fun K2a hK2a=>cw_region fun K2b hK2b=>Qm rfl<|as_nil (hK2b _ _ (hK2a _ _ ?_))
  clear hK2b hK2a K2b K2a
  have hT:=hT.t hs1
  have hTs:=hT.size
  have:=hob.1.lt
  have hbw:w.heap.size≤bb:=by omega
  have hfit:=hit _ _ hT
  refine cm_block<|cm_rangeG (M:=M) (S:=S) (N:=(xs.map elV).length) (ok:=fun i v=>(xs.map elV)[i]? = some v) (F:=fun M0 M'=>M'.n=M0.n+C) (Z:=fun _=>True) trivial (lb:=lb) (gf:=62) rfl rfl rfl V rfl hs1.sat hTs hfit (fun k hk=>by have:=hS k hk; constructor <;> omega) (fun i M' W'=>∃ sv c,Own W' M' bb [sv] 22∧Buf W' M' 29 2 sv i (els (xs.take i))∧StepC S c M w M' W'∧∀ g,sv.ownBlock=some g→w.heap.size≤g∧g≠bb∧g≠w1.heap.size∧g≠w1.heap.size+1) (fun i v la M' W'=>∃ bz e,v=elV e∧la=[(2, .pointer (some ⟨bb,0,none⟩)),(5, .pointer (some ⟨bz,0,none⟩))]∧Own W' M' bz (elc e) 29∧bz≠w1.heap.size∧bz≠w1.heap.size+1∧w.heap.size≤bz∧∃ sv c,Own W' M' bb [sv] 22∧Buf W' M' 29 2 sv i (els (xs.take i))∧StepC S c M w M' W'∧∀ g,sv.ownBlock=some g→w.heap.size≤g∧g≠bb∧g≠w1.heap.size∧g≠w1.heap.size+1) ?_ ?_ ?_ ?_ ?_ ?_
  ·rintro i c9 M' W' M'' W'' _ ⟨sv,c,h1,h2,h3,h4⟩ k
   refine ⟨sv,_,h1.step k (by rintro (h | h | h); exact absurd (hS _ h) O; all_goals omega),h2.step k (fun g hg=>by rintro (h | h | h); exact absurd (hS _ h) (by have:=(h4 g hg).1; omega); exact (h4 g hg).2.2.1 h; exact (h4 g hg).2.2.2 h),h3.trans k (fun b hb=>by rintro (h | h | h); exact h; all_goals omega),h4⟩
  ·exact ⟨_,_,hob,by rw [List.take_zero]; exact Buf.nil _ _ _ _,hT.any _,fun g hg=>by cases hg⟩
  ·rintro i v la M' W' M'' W'' ⟨bz,e,rfl,rfl,h0,hz1,hz2,hz3,sv,c,h1,h2,h3,h4⟩ k
   refine ⟨bz,e,rfl,rfl,h0.step k (by rintro (h | h | h); exact absurd (hS _ h) O; all_goals omega),hz1,hz2,hz3,?_⟩
   refine ⟨sv,_,h1.step k (by rintro (h | h | h); exact absurd (hS _ h) O; all_goals omega),h2.step k (fun g hg=>by rintro (h | h | h); exact absurd (hS _ h) (by have:=(h4 g hg).1; omega); exact (h4 g hg).2.2.1 h; exact (h4 g hg).2.2.2 h),h3.trans k (fun b hb=>by rintro (h | h | h); exact h; all_goals omega),h4⟩
  ·rintro i v r M' W' hv ⟨sv,c,h1,h2,h3,h4⟩ hs' hle hlt
   obtain ⟨e,_,rfl⟩:∃ e,_∧v=elV e:=by
    rw [List.getElem?_map] at hv
    obtain ⟨q,h5,h6⟩:=Option.map_eq_some_iff.1 hv
    exact ⟨q,h5,h6.symm⟩
   refine cw_region fun _ Z=>Al (.agg #[(.int .i64 0),(.int .i64 0)]) hs' rfl fun bz w2 hs2 hz ez=>?_
   have hz2:=hs2.size
   refine St hs2.sat hz rfl fun w3 hs3 hz3=>?_
   have hst:Step Nope M' W' M' w3:=hs2.trans hs3 (fun b hb h=>by have h:b=bz:=h; omega)
   have:=hs2.size
   have hwW:=h3.size
   refine as_nil (Z _ _ ⟨_,M', .cons rfl (.cons rfl (.nil _)),hst,bz,e,rfl,rfl,hz3,by omega,by omega,by omega,sv,_,h1.then hst,h2.then hst,h3.also (hst.any _),h4⟩)
  ·rintro i v la r M' W' hv ⟨bz,e,rfl,rfl,hz,hz1,hz2,hz3,sv,c,h1,h2,h3,h4⟩ hs' hle hlt
   obtain ⟨x,hx,hxv⟩:∃ x,xs[i]? = some x∧elV x=elV e:=by
    rw [List.getElem?_map] at hv
    exact Option.map_eq_some_iff.1 hv
   obtain rfl:x=e:=by
    obtain ⟨a,b⟩:=x
    obtain ⟨c,d⟩:=e
    simpa [elV,elc] using hxv
   have h1l:=h1.1.lt
   have h2l:=h2.lt
   have hin:i<xs.length:=(List.getElem?_eq_some_iff.1 hx).1
   refine cw_block (cw_region fun K4 hK4=>?_)
   refine Q1 rfl (OC h1 rfl)<|Qc 2 rfl (OD hz rfl)<|as_h rfl (h_buildO (e:=29) (size:=2) (zs:=[.int .i64 0, .int .i64 0]) (cs:=[_,_]) V V V rfl hs' rfl rfl fun b4 w4 hs4 ho4 e4=>?_)
   have hsB:=hs4
   have:=hs4.size
   have hrx:=Buf.rd (Own.buf ho4 (n:=1) (size:=2) rfl (by decide))
   have h2b:=h2.then hsB
   refine as_h rfl (h_append (e:=29) (size:=2) (bytes:=16) V hs4.sat h2b hrx rfl rfl (by simp [Value.oneCell']) O rfl fun sv2 w5 hs5 h2c hor=>?_)
   have hsv:∃ a k c,sv2 = .slice a k c:=by obtain ⟨a,c,h,_⟩:=h2c.slice; exact ⟨a,_,c,h⟩
   obtain ⟨sa,sk,sc,rfl⟩:=hsv
   have h1:=h1.t hs4 |>.step hs5 (fun h=>(h4 _ h).2.1 rfl)
   refine St hs5.sat h1 rfl fun w6 hs6 h1n=>?_
   have:=hs4.size
   have:=hs5.size
   have hwW:=h3.size
   have hownf:∀ g,(Value.slice sa sk sc).ownBlock=some g→w.heap.size≤g∧g≠bb∧g≠w1.heap.size∧g≠w1.heap.size+1:=fun g hg=>by
    rcases hor with h | h
    ·rw [h] at hg; exact h4 g hg
    ·rw [h] at hg; have hg:=Option.some.inj hg; omega
   have k1:Step (fun k=>¬ S k∧k≠w1.heap.size∧k≠w1.heap.size+1) M' w4 M' w5:=hs5.wide fun k _ h=>⟨fun hk=>by have:=hS k hk; have:=(h4 k h).1; omega,(h4 k h).2.2.1,(h4 k h).2.2.2⟩
   have k2:Step (fun k=>¬ S k∧k≠w1.heap.size∧k≠w1.heap.size+1) M' w5 M' w6:=hs6.wide fun k _ h=>by have h:k=bb:=h; exact ⟨fun hk=>by have:=hS k hk; omega,by omega,by omega⟩
   refine as_nil (hK4 _ _ ⟨M',((hs4.any _).also k1).also k2,_,c,h1n,?_,?_,hownf⟩)
   ·have h5:=h2c.step hs6 (fun g hg h=>(hownf g hg).2.1 h)
    have h6:els (xs.take (i+1))=els (xs.take i)++[.int .i64 x.1, .int .i64 x.2]:=by rw [List.take_add_one,hx,els_append]; rfl
    rw [h6]
    exact h5
   ·exact ((h3.also (hs4.any _)).trans hs5 (fun k hk h=>by have:=(h4 k h).1; omega)).trans hs6 (fun k hk h=>by have h:k=bb:=h; omega)
  ·rintro M' W' hs' hle hF ⟨sv,c,h1,h2,h3,h4⟩ D hD hDd
   refine Ri fun Z=>Q1 rfl (OC h1 rfl)<|Na rfl Z<|cw_ret ⟨hDd,_,res_tmp rfl res_nil,M',h3.to (by have h9:=h3.cnt; have hF:M'.n=M.n+C:=hF; omega),?_,fun g hg=>(h4 g hg).1⟩
   rw [List.length_map] at h2
   rw [List.take_length] at h2
   exact h2
 ·rintro v w' D hB hD ⟨M',h1,h2,h3⟩
  have k:=Step.putObj h1.sat hD (by simp) (.deferred none)
  refine ⟨M',h1.trans k (fun b hb h=>by have h:b=D:=h; omega),h2.step k (fun g hg h=>?_),h3⟩
  have h:g=D:=h
  subst h
  obtain ⟨⟨_,hh⟩,_⟩:=h2
  rcases hh with ⟨rfl,_⟩ | ⟨g2,cap,cur,rfl,_,hh,_⟩
  ·cases hg
  ·cases hg; rw [hD] at hh; cases hh
theorem col_all {S:Nat→Prop} {C:Nat} {lb:List Value} {xs:List El} (hs:Sat M w) (hit:∀ M' w',Step Nope M w M' w'→IterG Tryz.prog 62 lb S (xs.map elV).length (fun i v=>(xs.map elV)[i]? = some v) (fun _=>True) (fun M0 M'=>M'.n=M0.n+C) M' w') (hS:∀ k,S k→k<w.heap.size) (hz:xs.length≤1000000000):
  Dz 27 #[.func (.func 62) #[] lb.toArray] w (fun v w'=>∃ M',StepC S C M w M' w'∧Buf w' M' 29 2 v xs.length (els xs)∧∀ g,v.ownBlock=some g→w.heap.size≤g):=by
 have hT:=hs.r
 refine Fe Tryz.func27 [.tmp 2] rfl<|Ri fun Z=>Nar rfl Z fun Z=>Qm rfl<|Ca rfl ((col_seq hs (fun M' w' h=>hit M' w' (hT.then h)) hS hz).mono ?_)
 rintro cv w1 ⟨Mc,hs1,hcb,hcf⟩
 refine Na rfl Z<|cw_ret ?_
 exact ⟨_,Rt rfl,Mc,hs1,hcb,hcf⟩
theorem dr_sorted_n {H:HM} {k:Nat} {l:List El} (hs:Sat M w) (h:HVal M H k l .nilIface) (hz:l.length<100000000):
  Dz 7 #[mval mb, .agg #[.nilIface]] w (fun v w'=>∃ M',StepC Nope (HM.drainC (l.length+1) H) M w M' w'∧Buf w' M' 29 2 v l.length (els l)∧∀ g,v.ownBlock=some g→w.heap.size≤g):=by
 have hT:=hs.r
 refine Fe Tryz.func7 [.tmp 4] rfl<|Ri fun Z=>Bm hs rfl fun b1 M1 w1 hs1 hb1 e1=>?_
 have:=hs1.size
 refine Na rfl Z<|Rv fun Z=>?_
 have hs2:=Step.drew hs1.sat
 have:=hs2.size
 refine Gm 0 1 rfl<|Gc 1 3 1 rfl (BD hs2 hb1 rfl)<|Gc 2 7 1 rfl (BD hs2 hb1 rfl)<|Gh 3 15 rfl (Ks [T,F]) (h_call V rfl ?_)
 have h:=h.mono hs1.le
 refine (hp_size hs2.sat h O).mono ?_
 rintro _ w3 ⟨rfl,hs3⟩
 have:=hs3.size
 have hT:=hT.t hs1 |>.t hs2 |>.t hs3
 refine ⟨(by repeat' first | exact trivial | exact BD hs3 hb1 rfl | refine And.intro ?_ ?_),?_⟩
 refine Gq 4 31 rfl (fun _=>qA rfl)<|Gh 5 63 rfl (Ks [T]) (h_call V rfl ?_)
 refine (dr_each (z:=((l.length:Nat):Int)+1) hs3.sat h).mono ?_
 rintro _ w4 ⟨c1,c2,c3,Me,rfl,hs4,hc1,hc2,hc3,hcw⟩
 have:=hs4.size
 refine ⟨trivial,?_⟩
 refine Gh 6 127 rfl rfl (h_call V rfl ?_)
 have hT:=hT.t hs4
 have hsz_:=hT.size
 have hcl:=hc2.1.lt
 have h:=h.mono hs4.le
 refine (col_all (S:=Just c2) (xs:=l.take (((l.length:Nat):Int)+1).toNat) (lb:=[.pointer (some ⟨c1,0,none⟩), .pointer (some ⟨c2,0,none⟩), .pointer (some ⟨c3,0,none⟩)]) hs4.sat (fun M' w' hk=>dr_each1 (hk.le _ _ hc1) (hc2.then hk) (hk.le _ _ hc3) (h.mono hk.le) O O O) (fun k hk=>by have hk:k=c2:=hk; subst hk; exact hcl) (by rw [List.length_take]; omega)).mono ?_
 rintro cv w5 ⟨Mc,hs5,hcb,hcf⟩
 have hT:=hT.trans hs5 (fun b hb h=>by have h:b=c2:=h; omega)
 refine ⟨trivial,?_⟩
 refine Ga 7 255 rfl<|Dx Z<|cw_ret ?_
 have hte:l.take (((l.length:Nat):Int)+1).toNat=l:=List.take_of_length_le O
 rw [hte] at hcb
 exact ⟨_,Rt rfl,Mc,hT.to (by rw [show (((l.length:Nat):Int)+1).toNat=l.length+1 by omega]; omega),hcb,fun g hg=>by have:=hcf g hg; omega⟩
theorem dr_sorted_s {d:TypeId} {u:Value} {H:HM} {k:Nat} {l:List El} (hs:Sat M w) (h:HVal M H k l (.iface d u)) (hz:l.length<100000000):
  Dz 7 #[mval mb, .agg #[(.iface d u)]] w (fun v w'=>∃ M',StepC Nope (HM.drainC (l.length+1) H) M w M' w'∧Buf w' M' 29 2 v l.length (els l)∧∀ g,v.ownBlock=some g→w.heap.size≤g):=by
 have hT:=hs.r
 refine Fe Tryz.func7 [.tmp 4] rfl<|Ri fun Z=>Bm hs rfl fun b1 M1 w1 hs1 hb1 e1=>?_
 have:=hs1.size
 refine Na rfl Z<|Rv fun Z=>?_
 have hs2:=Step.drew hs1.sat
 have:=hs2.size
 refine Gm 0 1 rfl<|Gc 1 3 1 rfl (BD hs2 hb1 rfl)<|Gc 2 7 1 rfl (BD hs2 hb1 rfl)<|Gh 3 15 rfl (Ks [T,F]) (h_call V rfl ?_)
 have h:=h.mono hs1.le
 refine (hp_size hs2.sat h O).mono ?_
 rintro _ w3 ⟨rfl,hs3⟩
 have:=hs3.size
 have hT:=hT.t hs1 |>.t hs2 |>.t hs3
 refine ⟨(by repeat' first | exact trivial | exact BD hs3 hb1 rfl | refine And.intro ?_ ?_),?_⟩
 refine Gq 4 31 rfl (fun _=>qA rfl)<|Gh 5 63 rfl (Ks [T]) (h_call V rfl ?_)
 refine (dr_each (z:=((l.length:Nat):Int)+1) hs3.sat h).mono ?_
 rintro _ w4 ⟨c1,c2,c3,Me,rfl,hs4,hc1,hc2,hc3,hcw⟩
 have:=hs4.size
 refine ⟨trivial,?_⟩
 refine Gh 6 127 rfl rfl (h_call V rfl ?_)
 have hT:=hT.t hs4
 have hsz_:=hT.size
 have hcl:=hc2.1.lt
 have h:=h.mono hs4.le
 refine (col_all (S:=Just c2) (xs:=l.take (((l.length:Nat):Int)+1).toNat) (lb:=[.pointer (some ⟨c1,0,none⟩), .pointer (some ⟨c2,0,none⟩), .pointer (some ⟨c3,0,none⟩)]) hs4.sat (fun M' w' hk=>dr_each1 (hk.le _ _ hc1) (hc2.then hk) (hk.le _ _ hc3) (h.mono hk.le) O O O) (fun k hk=>by have hk:k=c2:=hk; subst hk; exact hcl) (by rw [List.length_take]; omega)).mono ?_
 rintro cv w5 ⟨Mc,hs5,hcb,hcf⟩
 have hT:=hT.trans hs5 (fun b hb h=>by have h:b=c2:=h; omega)
 refine ⟨trivial,?_⟩
 refine Ga 7 255 rfl<|Dx Z<|cw_ret ?_
 have hte:l.take (((l.length:Nat):Int)+1).toNat=l:=List.take_of_length_le O
 rw [hte] at hcb
 exact ⟨_,Rt rfl,Mc,hT.to (by rw [show (((l.length:Nat):Int)+1).toNat=l.length+1 by omega]; omega),hcb,fun g hg=>by have:=hcf g hg; omega⟩
theorem dr_sorted {H:HM} {k:Nat} {l:List El} {v0:Value} (hs:Sat M w) (h:HVal M H k l v0) (hz:l.length<100000000):
  Dz 7 #[mval mb, .agg #[v0]] w (fun v w'=>∃ M',StepC Nope (HM.drainC (l.length+1) H) M w M' w'∧Buf w' M' 29 2 v l.length (els l)∧∀ g,v.ownBlock=some g→w.heap.size≤g):=by
 rcases h.shape with rfl | ⟨d,u,rfl⟩
 ·exact dr_sorted_n hs h hz
 ·exact dr_sorted_s hs h hz
theorem dr_sorted0 {w:World} {M:Mem none} {H:HM} {k:Nat} {l:List El} {v0:Value} (hs:Sat M w) (h:HVal M H k l v0) (hz:l.length<100000000):
  Dz 7 #[.pointer none, .agg #[v0]] w (fun v w'=>∃ M',Step Nope M w M' w'∧Buf w' M' 29 2 v l.length (els l)∧∀ g,v.ownBlock=some g→w.heap.size≤g):=(dr_sorted hs h hz).mono fun v w' ⟨M',h1,h2,h3⟩=>⟨_,h1.free,h2,h3⟩
end Go.Proofs.YtnnldppehojffaaGreat
/- Rows of what is told, part 2. -/
namespace Go.Proofs.YtnnldppehojffaaGreat
open Go Go.Eng
variable {mb:Option Nat} {w:World} {M:Mem mb}
theorem dr_top_0 {H:HM} {l:List El} {z:Int} (hs:Sat M w) (h:HVal M H 0 l .nilIface):
  Dz 9 #[mval mb, .agg #[.nilIface], .int .i64 z] w (fun r w'=>∃ v M',r = .tuple #[v, .int .i64 22]∧StepC Nope (0) M w M' w'∧Buf w' M' 29 2 v 0 (els [])∧∀ g,v.ownBlock=some g→w.heap.size≤g):=by
 have hT:=hs.r
 refine Fe Tryz.func9 [.tmp 6, .tmp 7] rfl<|Ri fun Z=>Bm hs rfl fun b1 M1 w1 hs1 hb1 e1=>?_
 have:=hs1.size
 refine Qa rfl<|Na rfl Z<|cw_seq fun _ hK2=>cw_block<|Ri fun Z=>Qc 1 rfl (BD hs1 hb1 rfl) ?_
 have h:=h.mono hs1.le
 refine Ca rfl ((hp_kind hs1.sat h).mono ?_)
 rintro _ w2 ⟨rfl,hs2⟩
 have:=hs2.size
 refine Qq rfl (qET rfl)<|Na rfl Z<|cw_true rfl<|Ri fun Z=>Qa rfl<|Na rfl Z<|cw_ret ?_
 have hT:=hT.t hs1 |>.t hs2
 exact ⟨_,(res_tmp rfl (Rt rfl)),_,_,rfl,hT,Buf.nil _ _ _ _,fun g hg=>by cases hg⟩
theorem dr_top_1 {d:TypeId} {u:Value} {H:HM} {k:Nat} {l:List El} {z:Int} (hs:Sat M w) (h:HVal M H k l (.iface d u)) (hk:k≠0) (hz0:z<0):
  Dz 9 #[mval mb, .agg #[(.iface d u)], .int .i64 z] w (fun r w'=>∃ v M',r = .tuple #[v, .int .i64 24]∧StepC Nope (0) M w M' w'∧Buf w' M' 29 2 v 0 (els [])∧∀ g,v.ownBlock=some g→w.heap.size≤g):=by
 have hT:=hs.r
 refine Fe Tryz.func9 [.tmp 6, .tmp 7] rfl<|Ri fun Z=>Bm hs rfl fun b1 M1 w1 hs1 hb1 e1=>?_
 have:=hs1.size
 refine Qa rfl<|Na rfl Z<|cw_seq fun _ hK2=>cw_block<|Ri fun Z=>Qc 1 rfl (BD hs1 hb1 rfl) ?_
 have h:=h.mono hs1.le
 refine Ca rfl ((hp_kind hs1.sat h).mono ?_)
 rintro _ w2 ⟨rfl,hs2⟩
 have:=hs2.size
 refine Qq rfl (qEF rfl)<|Na rfl Z<|cw_false rfl<|Ri fun Z=>Qm rfl<|Qq rfl (qLT rfl)<|Na rfl Z<|cw_true rfl<|Ri fun Z=>Qa rfl<|Na rfl Z<|cw_ret ?_
 have hT:=hT.t hs1 |>.t hs2
 exact ⟨_,(res_tmp rfl (Rt rfl)),_,_,rfl,hT,Buf.nil _ _ _ _,fun g hg=>by cases hg⟩
theorem dr_top_2 {d:TypeId} {u:Value} {H:HM} {k:Nat} {l:List El} {z:Int} (hs:Sat M w) (h:HVal M H k l (.iface d u)) (hk:k≠0) (hz0:0≤z) (hz9:z≤9223372036854775807) (hz:l.length<100000000):
  Dz 9 #[mval mb, .agg #[(.iface d u)], .int .i64 z] w (fun r w'=>∃ v M',r = .tuple #[v, .int .i64 0]∧StepC Nope (HM.drainC z.toNat H) M w M' w'∧Buf w' M' 29 2 v (l.take z.toNat).length (els (l.take z.toNat))∧∀ g,v.ownBlock=some g→w.heap.size≤g):=by
 have hT:=hs.r
 refine Fe Tryz.func9 [.tmp 6, .tmp 7] rfl<|Ri fun Z=>Bm hs rfl fun b1 M1 w1 hs1 hb1 e1=>?_
 have:=hs1.size
 refine Qa rfl<|Na rfl Z<|cw_seq fun _ hK2=>cw_block<|Ri fun Z=>Qc 1 rfl (BD hs1 hb1 rfl) ?_
 have h:=h.mono hs1.le
 refine Ca rfl ((hp_kind hs1.sat h).mono ?_)
 rintro _ w2 ⟨rfl,hs2⟩
 have:=hs2.size
 refine Qq rfl (qEF rfl)<|Na rfl Z<|cw_false rfl<|Ri fun Z=>Qm rfl<|Qq rfl (qLF rfl)<|Na rfl Z<|cw_false rfl<|cw_skip<|hK2 _ _<|Ri fun Z=>Qm rfl<|Qc 1 rfl (BD hs2 hb1 rfl)<|Qm rfl<|Ca rfl ((dr_each (z:=z) hs2.sat h).mono ?_)
 rintro _ w3 ⟨c1,c2,c3,Me,rfl,hs3,hc1,hc2,hc3,hcw⟩
 have:=hs3.size
 refine Ca rfl ?_
 have hT:=hT.t hs1 |>.t hs2 |>.t hs3
 have hsz_:=hT.size
 have hcl:=hc2.1.lt
 have h:=h.mono hs3.le
 refine (col_all (S:=Just c2) (xs:=l.take (z).toNat) (lb:=[.pointer (some ⟨c1,0,none⟩), .pointer (some ⟨c2,0,none⟩), .pointer (some ⟨c3,0,none⟩)]) hs3.sat (fun M' w' hk=>dr_each1 (hk.le _ _ hc1) (hc2.then hk) (hk.le _ _ hc3) (h.mono hk.le) O O O) (fun k hk=>by have hk:k=c2:=hk; subst hk; exact hcl) (by rw [List.length_take]; omega)).mono ?_
 rintro cv w4 ⟨Mc,hs4,hcb,hcf⟩
 have hT:=hT.trans hs4 (fun b hb h=>by have h:b=c2:=h; omega)
 refine Qa rfl<|Na rfl Z<|cw_ret ?_
 exact ⟨_,(res_tmp rfl (Rt rfl)),cv,Mc,rfl,hT.to O,hcb,fun g hg=>by have:=hcf g hg; omega⟩
theorem dr_top2_0 {w:World} {M:Mem none} {d:TypeId} {u:Value} {H:HM} {k:Nat} {l:List El} {z:Int} (hs:Sat M w) (h:HVal M H k l (.iface d u)) (hk:k≠0) (hz0:0≤z) (hz9:z≤9223372036854775807) (hz:l.length<100000000):
  Dz 9 #[.pointer none, .agg #[(.iface d u)], .int .i64 z] w (fun r w'=>∃ v M',r = .tuple #[v, .int .i64 0]∧StepC Nope (0) M w M' w'∧Buf w' M' 29 2 v (l.take z.toNat).length (els (l.take z.toNat))∧∀ g,v.ownBlock=some g→w.heap.size≤g):=(dr_top_2 hs h hk hz0 hz9 hz).mono fun v w' ⟨v',M',h0,h1,h2,h3⟩=>⟨_,_,h0,h1.free,h2,h3⟩
theorem sl_equal {va vb:Value} {n m:Nat} {xs ys:List El} (hs:Sat M w) (hn:n≤1000000000) (hr:Rds M w 2 va n (els xs)) (hr2:Rds M w 2 vb m (els ys)):
  Dz 40 #[va,vb] w (fun v w'=>v = .bool (decide (xs=ys))∧Step Nope M w M w'):=by
 have hT:=hs.r
 have hl1:=hr.els_len hs
 have hl2:=hr2.els_len hs
 obtain ⟨a,c,rfl,hac,_⟩:=hr.slice hs
 obtain ⟨b,d,rfl,hbd,_⟩:=hr2.slice hs
 refine Fe Tryz.func40 [.tmp 4] rfl<|Ri fun Z=>Na rfl Z<|cw_seq fun _ hK2=>Ri fun Z=>Qm rfl<|Qq rfl (ql rfl)<|Qm rfl<|Qq rfl (ql rfl)<|Qq rfl (q_ne rfl rfl)<|Nx Z<|cw_cond rfl (fun hc0=>?_) (fun hc0=>?_)
 ·have hne:n≠m:=by simp at hc0; omega
  refine Ri fun Z=>Na rfl Z<|cw_ret ?_
  exact ⟨_,Rt rfl,by rw [decide_eq_false (fun h=>hne (by rw [← hl1,← hl2,h]))]; rfl,hT⟩
 ·have hne:n=m:=by simp at hc0; omega
  refine cw_skip<|hK2 _ _<|cw_seq fun _ hK5=>Ri fun Z=>Qm rfl<|Qq rfl (ql rfl)<|Qm rfl<|Nx Z<|cw_block<|cw_loop (fun mm l w'=>∃ i:Nat,mm=n-i∧i≤n∧(∀ j,j<i→xs[j]? = ys[j]?)∧l=[(0, .slice a n c),(1, .slice b m d),(12, .int .i64 (n:Nat)),(13, .int .i64 i)]∧Step Nope M w M w') (n) [(0, .slice a n c),(1, .slice b m d),(12, .int .i64 (n:Nat)),(13, .int .i64 (0:Nat))] (.cons rfl (.cons rfl (.cons rfl (.cons rfl (.nil _))))) ?_ ?_
  ·exact ⟨0,rfl,Nat.zero_le _,fun j hj=>by omega,rfl,hT⟩
  clear hT
  rintro mm l w1 ⟨i,rfl,hi,hpre,rfl,hT⟩
  refine Ri fun Z=>Qq rfl (q_lt rfl rfl)<|Nx Z<|cw_seq fun _ hK8=>cw_cond rfl (fun hc1=>?_) (fun hc1=>?_)
  ·have hlt:i<n:=by have:=of_decide_eq_true hc1; omega
   obtain ⟨g,o,rfl⟩:=(hr.now hs).there O
   obtain ⟨g2,o2,rfl⟩:=(hr2.now hs).there O
   obtain ⟨x,hx⟩:∃ z,xs[i]? = some z:=⟨xs[i],by simp⟩
   obtain ⟨y,hy⟩:∃ z,ys[i]? = some z:=⟨ys[i],by simp⟩
   refine cw_skip<|hK8 _ _<|cw_seq fun _ hK9=>cw_block<|Ri fun Z=>Qm rfl<|Na rfl Z<|Rv fun Z=>?_
   have hs1:=Step.drew hT.sat
   refine Gm 0 1 rfl<|Gm 1 3 rfl<|Gq 2 7 rfl (fun _=>qi 29 2 rfl) ?_
   have hT:=hT.t hs1
   refine Gc 3 15 2 rfl ((hr _ _ _ hT).el (j:=(i:Int).toNat) (by simpa using hx))<|Gm 4 31 rfl<|Gm 5 63 rfl<|Gq 6 127 rfl (fun _=>qi 29 2 rfl)<|Gc 7 255 2 rfl ((hr2 _ _ _ hT).el (j:=(i:Int).toNat) (by simpa using hy))<|Gq 8 511 rfl (fun _=>(q_neE (a:=x) (b:=y) (e:=2) V V V V V V rfl rfl))<|Dx Z<|cw_cond rfl (fun hc2=>?_) (fun hc2=>?_)
   ·replace hc2:x≠y:=by simpa using hc2
    refine Ri fun Z=>Na rfl Z<|cw_ret ?_
    exact ⟨_,Rt rfl,by rw [decide_eq_false (fun h=>by subst h; rw [hx] at hy; cases hy; exact hc2 rfl)]; rfl,hT⟩
   ·replace hc2:x=y:=by simpa using hc2
    refine cw_skip<|hK9 _ _<|cw_region fun _ Z=>Qq rfl (qA rfl)<|Qm rfl<|as_nil (Z _ _ ?_)
    exact ⟨_,_,by omega,(.cons rfl (.cons rfl (.cons rfl (.cons rfl (.nil _))))),i+1,rfl,by omega,fun j hj=>by
     rcases Nat.lt_or_ge j i with h | h
     ·exact hpre j h
     ·obtain rfl:j=i:=by omega
      rw [hx,hy,hc2],rfl,hT⟩
  ·have hge:i=n:=by have:=of_decide_eq_false hc1; omega
   refine cw_exit<|hK5 _ _<|Ri fun Z=>Na rfl Z<|cw_ret ?_
   have hall:∀ j,xs[j]? = ys[j]?:=fun j=>by
    rcases Nat.lt_or_ge j n with hj | hj
    ·exact hpre j O
    ·rw [List.getElem?_eq_none O,List.getElem?_eq_none O]
   exact ⟨_,Rt rfl,by rw [decide_eq_true (List.ext_getElem? fun j=>hall j)]; rfl,hT⟩
end Go.Proofs.YtnnldppehojffaaGreat
/- A drain that is made once, part 1. -/
namespace Go.Proofs.YtnnldppehojffaaGreat
open Go Go.Eng
variable {mb:Option Nat} {w:World} {M:Mem mb}
theorem dr_of_n {w:World} {M:Mem none} (hs:Sat M w):
  Dz 15 #[.agg #[.nilIface]] w (fun r w'=>∃ q M',r = .pointer (some ⟨q,0,none⟩)∧Step Nope M w M' w'∧Own w' M' q [.nilIface, .slice none 0 0, .int .u32 0, .int .i32 0, .int .u32 0, .int .i32 0] 108∧w.heap.size≤q):=by
 have hT:=hs.r
 refine Fe Tryz.func15 [.tmp 2] rfl<|Ri fun Z=>Bm hs rfl fun b1 M1 w1 hs1 hb1 e1=>?_
 have:=hs1.size
 refine Nar rfl Z fun Z=>Qc 1 rfl (BD hs1 hb1 rfl)<|Qq rfl (q_build (zs:=[.nilIface,(.slice none 0 0),(.int .u32 0),(.int .i32 0),(.int .u32 0),(.int .i32 0)]) (places:=[(0,1),(1,1),(2,3),(5,1)]) (cs:=[_,_,_,_,_,_]) V V rfl rfl) ?_
 have hT:=hT.t hs1
 have:=hT.size
 refine Bo hs1.sat rfl fun bq w2 hs2 hoq eq=>?_
 have:=hs2.size
 have:=hoq.1.lt
 refine Na rfl Z<|cw_ret ?_
 have hT:=hT.t hs2
 exact ⟨_,Rt rfl,bq,_,rfl,hT,hoq,by omega⟩
theorem dr_of_s {w:World} {M:Mem none} {d:TypeId} {u:Value} (hs:Sat M w):
  Dz 15 #[.agg #[(.iface d u)]] w (fun r w'=>∃ q M',r = .pointer (some ⟨q,0,none⟩)∧Step Nope M w M' w'∧Own w' M' q [(.iface d u), .slice none 0 0, .int .u32 0, .int .i32 0, .int .u32 0, .int .i32 0] 108∧w.heap.size≤q):=by
 have hT:=hs.r
 refine Fe Tryz.func15 [.tmp 2] rfl<|Ri fun Z=>Bm hs rfl fun b1 M1 w1 hs1 hb1 e1=>?_
 have:=hs1.size
 refine Nar rfl Z fun Z=>Qc 1 rfl (BD hs1 hb1 rfl)<|Qq rfl (q_build (zs:=[.nilIface,(.slice none 0 0),(.int .u32 0),(.int .i32 0),(.int .u32 0),(.int .i32 0)]) (places:=[(0,1),(1,1),(2,3),(5,1)]) (cs:=[_,_,_,_,_,_]) V V rfl rfl) ?_
 have hT:=hT.t hs1
 have:=hT.size
 refine Bo hs1.sat rfl fun bq w2 hs2 hoq eq=>?_
 have:=hs2.size
 have:=hoq.1.lt
 refine Na rfl Z<|cw_ret ?_
 have hT:=hT.t hs2
 exact ⟨_,Rt rfl,bq,_,rfl,hT,hoq,by omega⟩
theorem dr_of {w:World} {M:Mem none} {H:HM} {k:Nat} {l:List El} {hv:Value} (hs:Sat M w) (h:HVal M H k l hv):
  Dz 15 #[.agg #[hv]] w (fun r w'=>∃ q M',r = .pointer (some ⟨q,0,none⟩)∧Step Nope M w M' w'∧Own w' M' q [hv, .slice none 0 0, .int .u32 0, .int .i32 0, .int .u32 0, .int .i32 0] 108∧w.heap.size≤q):=by
 rcases h.shape with rfl | ⟨d,u,rfl⟩
 ·exact dr_of_n hs
 ·exact dr_of_s hs
theorem dr_done_0 {w:World} {M:Mem none} {q:Nat} {hv sv:Value} (hs:Sat M w) (ho:Own w M q [hv,sv, .int .u32 0, .int .i32 0, .int .u32 0, .int .i32 0] 108):
  Dz 16 #[.pointer (some ⟨q,0,none⟩)] w (fun v w'=>v = .int .i64 0∧Step Nope M w M w'):=by
 have hT:=hs.r
 refine Fe Tryz.func16 [.tmp 2] rfl<|Ri fun Z=>Na rfl Z<|cw_seq fun _ hK2=>Ri fun Z=>Qm rfl<|Qq rfl (qn rfl)<|Nx Z<|cw_false rfl<|cw_skip<|hK2 _ _<|Ri fun Z=>Qm rfl<|Qq rfl (q_nilp rfl)<|Qf 5 rfl<|Ca rfl ((int_load hs (ho.at rfl)).mono ?_)
 rintro _ w1 ⟨rfl,hs1⟩
 refine Qq rfl (q_convx V V rfl (wrap64_of O O))<|Na rfl Z<|cw_ret ?_
 have hT:=hT.t hs1
 exact ⟨_,Rt rfl,rfl,hT⟩
theorem dr_done_1 {w:World} {M:Mem none} {q:Nat} {hv sv:Value} (hs:Sat M w) (ho:Own w M q [hv,sv, .int .u32 1, .int .i32 0, .int .u32 0, .int .i32 1] 108):
  Dz 16 #[.pointer (some ⟨q,0,none⟩)] w (fun v w'=>v = .int .i64 1∧Step Nope M w M w'):=by
 have hT:=hs.r
 refine Fe Tryz.func16 [.tmp 2] rfl<|Ri fun Z=>Na rfl Z<|cw_seq fun _ hK2=>Ri fun Z=>Qm rfl<|Qq rfl (qn rfl)<|Nx Z<|cw_false rfl<|cw_skip<|hK2 _ _<|Ri fun Z=>Qm rfl<|Qq rfl (q_nilp rfl)<|Qf 5 rfl<|Ca rfl ((int_load hs (ho.at rfl)).mono ?_)
 rintro _ w1 ⟨rfl,hs1⟩
 refine Qq rfl (q_convx V V rfl (wrap64_of O O))<|Na rfl Z<|cw_ret ?_
 have hT:=hT.t hs1
 exact ⟨_,Rt rfl,rfl,hT⟩
theorem dr_take {w:World} {M:Mem none} {H:HM} {q k:Nat} {l:List El} {hv sv:Value} (hs:Sat M w) (hz:l.length<100000000) (ho:Own w M q [hv,sv, .int .u32 0, .int .i32 1, .int .u32 0, .int .i32 0] 108) (h:HVal M H k l hv):
  Dz 38 #[.pointer (some ⟨q,0,none⟩)] w (fun _ w'=>∃ M',Step (Just q) M w M' w'∧∃ sv2,Own w' M' q [hv,sv2, .int .u32 0, .int .i32 1, .int .u32 0, .int .i32 1] 108∧Buf w' M' 29 2 sv2 l.length (els l)∧HVal M' H k l hv∧∀ g,sv2.ownBlock=some g→w.heap.size≤g):=by
 have hT:=Step.refl (Just q) hs
 have:=ho.1.lt
 refine Fe Tryz.func38 [] rfl<|Ri fun Z=>Qm rfl<|Qm rfl<|Qq rfl (q_nilp rfl)<|Qf 0 rfl<|Qc 1 rfl (OD ho rfl)<|Ca rfl ?_
 have:=ho.1.lt
 refine (dr_sorted0 hs h hz).mono ?_
 rintro sv2 w1 ⟨Ms,hs1,hb2,hf2⟩
 have:=hs1.size
 obtain ⟨a2,c2,rfl,_,_⟩:=hb2.slice
 refine Qq rfl (q_nilp rfl)<|Qf 1 rfl ?_
 have ho:=ho.t hs1
 refine St hs1.sat ho rfl fun w2 hs2 ho=>?_
 have h:=h.mono hs1.le
 have:=hs2.size
 refine Nx Z<|cw_region fun _ Z=>Qm rfl<|Qq rfl (q_nilp rfl)<|Qf 5 rfl<|Ca rfl ((int_add hs2.sat ho rfl).mono ?_)
 rintro _ w3 ⟨hs3,ho3⟩
 clear ho; have ho:=ho3; clear ho3
 refine as_nil (Z _ _ ?_)
 have hT:=hT.t hs1 |>.also hs2 |>.also hs3
 have hb2:=hb2.step hs2 (fun g hg h=>by have h:g=q:=h; have:=hf2 g hg; omega) |>.step hs3 (fun g hg h=>by have h:g=q:=h; have:=hf2 g hg; omega)
 have h:=h.mono hs3.le
 exact ⟨_,res_nil,Ms,hT,_,ho,hb2,h,fun g hg=>by have:=hf2 g hg; omega⟩
theorem dr_slow {w:World} {M:Mem none} {H:HM} {q k:Nat} {l:List El} {hv sv:Value} (hs:Sat M w) (hz:l.length<100000000) (ho:Own w M q [hv,sv, .int .u32 0, .int .i32 0, .int .u32 0, .int .i32 0] 108) (h:HVal M H k l hv):
  Dz 79 #[.pointer (some ⟨q,2,none⟩), .func (.func 38) #[.pointer (some ⟨q,0,none⟩)] #[]] w (fun _ w'=>∃ M',Step (Just q) M w M' w'∧∃ sv2,Own w' M' q [hv,sv2, .int .u32 1, .int .i32 0, .int .u32 0, .int .i32 1] 108∧Buf w' M' 29 2 sv2 l.length (els l)∧HVal M' H k l hv∧∀ g,sv2.ownBlock=some g→w.heap.size≤g):=by
 have hT:=Step.refl (Just q) hs
 have:=ho.1.lt
 refine fn_enterD (J:=fun _ w1=>∃ M1,Step (Just q) M w M1 w1∧∃ sv2,Own w1 M1 q [hv,sv2, .int .u32 0, .int .i32 1, .int .u32 0, .int .i32 1] 108∧Buf w1 M1 29 2 sv2 l.length (els l)∧HVal M1 H k l hv∧∀ g,sv2.ownBlock=some g→w.heap.size≤g) [⟨.fn (.func 99) #[],[Value.pointer (some ⟨q,2,none⟩), .bool true].toArray⟩,⟨.fn (.func 98) #[],[Value.pointer (some ⟨q,3,none⟩)].toArray⟩] Tryz.func79 rfl rfl rfl rfl ?_ ?_
 ·refine cd_seqK (D:=[]) fun K1 hK1=>cd_cw (cw_region fun K2 hK2=>?_)
  refine Qm rfl<|Qq rfl (q_nilp rfl)<|Qf 1 rfl<|Ca rfl ((lock (o:=3) hs ho rfl).mono ?_)
  rintro _ w1 ⟨hs1,ho1⟩
  clear ho; have ho:Own w1 M q [hv,sv, .int .u32 0, .int .i32 1, .int .u32 0, .int .i32 0] 108:=ho1; clear ho1
  refine as_nil (hK2 _ _ (hK1 _ _ ?_))
  refine cd_seqK (D:=[⟨.fn (.func 98) #[],[Value.pointer (some ⟨q,3,none⟩)].toArray⟩]) fun K3 hK3=>cd_region<|asd_q rfl rfl (q_move rfl)<|asd_q rfl rfl (q_nilp rfl)<|asd_q rfl rfl (q_fieldAddr (off:=1) V rfl)<|asd_defer rfl rfl rfl (hK3 _ _ ?_)
  refine cd_seqK (D:=[⟨.fn (.func 98) #[],[Value.pointer (some ⟨q,3,none⟩)].toArray⟩]) fun K4 hK4=>cd_cw (cw_region fun K5 hK5=>?_)
  refine Qm rfl<|Qq rfl (q_nilp rfl)<|Qf 0 rfl<|Ca rfl ((bool_load0 hs1.sat (ho.at (o:=2) rfl)).mono ?_)
  rintro _ w2 ⟨rfl,hs2⟩
  refine Qq rfl (q_not rfl)<|as_nil (hK5 _ _ (hK4 _ _ ?_))
  refine cd_true rfl<|cd_seqK (D:=[⟨.fn (.func 99) #[],[Value.pointer (some ⟨q,2,none⟩), .bool true].toArray⟩,⟨.fn (.func 98) #[],[Value.pointer (some ⟨q,3,none⟩)].toArray⟩]) fun K6 hK6=>cd_region<|asd_q rfl rfl (q_move rfl)<|asd_q rfl rfl (q_nilp rfl)<|asd_q rfl rfl (q_fieldAddr (off:=0) V rfl)<|asd_defer rfl rfl rfl (hK6 _ _ ?_)
  refine cd_cw (cw_region fun K7 hK7=>?_)
  refine Qm rfl ?_
  have hT:=hT.also hs1 |>.t hs2
  have hsz:=hT.size
  refine as_h rfl (h_callv (f:=38) (first:=[.pointer (some ⟨q,0,none⟩)]) (cap:=[]) V rfl rfl rfl ?_)
  have h:=h.mono hs1.le
  have ho:=ho.t hs2
  refine (dr_take hs2.sat hz ho h).mono ?_
  rintro _ w3 ⟨M2,hs3,sv2,ho3,hb2,h2,hf2⟩
  clear ho; have ho:=ho3; clear ho3
  have hT:=hT.also hs3
  refine as_nil (hK7 _ _ ⟨M2,hT,sv2,ho,hb2,h2,fun g hg=>by have:=hf2 g hg; omega⟩)
 ·rintro l1 w1 tmps ⟨M1,hT,sv2,ho,hb2,h,hf2⟩
  refine leave_one V ((bool_store (o:=2) hT.sat ho rfl).mono ?_)
  rintro _ w2 ⟨hs2,ho2⟩
  have hT:=hT.also hs2
  refine leave_one V ((unlock (o:=3) hT.sat ho2 rfl).mono ?_)
  rintro _ w3 ⟨hs3,ho3⟩
  have hb2:=hb2.step hs2 (fun g hg h=>by have h:g=q:=h; have:=hf2 g hg; omega) |>.step hs3 (fun g hg h=>by have h:g=q:=h; have:=hf2 g hg; omega)
  have hT:=hT.also hs3
  exact ⟨_,results_none rfl _ _ _,M1,hT,sv2,ho3,hb2,h,hf2⟩
theorem dr_first {w:World} {M:Mem none} {H:HM} {q k:Nat} {l:List El} {hv sv:Value} (hs:Sat M w) (hz:l.length<100000000) (ho:Own w M q [hv,sv, .int .u32 0, .int .i32 0, .int .u32 0, .int .i32 0] 108) (h:HVal M H k l hv):
  Dz 37 #[.pointer (some ⟨q,2,none⟩), .func (.func 38) #[.pointer (some ⟨q,0,none⟩)] #[]] w (fun _ w'=>∃ M',Step (Just q) M w M' w'∧∃ sv2,Own w' M' q [hv,sv2, .int .u32 1, .int .i32 0, .int .u32 0, .int .i32 1] 108∧Buf w' M' 29 2 sv2 l.length (els l)∧HVal M' H k l hv∧∀ g,sv2.ownBlock=some g→w.heap.size≤g):=by
 have hT:=Step.refl (Just q) hs
 refine Fe Tryz.func37 [] rfl<|Ri fun Z=>Qm rfl<|Qq rfl (q_nilp rfl)<|Qf 0 rfl<|Ca rfl ((bool_load0 hs (ho.at (o:=2) rfl)).mono ?_)
 rintro _ w1 ⟨rfl,hs1⟩
 refine Qq rfl (q_not rfl)<|Nx Z<|cw_true rfl<|cw_region fun _ Z=>Qm rfl<|Qm rfl<|Ca rfl ?_
 have hT:=hT.t hs1
 have hsz:=hT.size
 have ho:=ho.t hs1
 refine (dr_slow hs1.sat hz ho h).mono ?_
 rintro _ w2 ⟨M2,hs2,sv2,ho2,hb2,h2,hf2⟩
 clear ho; have ho:=ho2; clear ho2
 refine as_nil (Z _ _ ?_)
 have hT:=hT.also hs2
 exact ⟨_,res_nil,M2,hT,sv2,ho,hb2,h2,fun g hg=>by have:=hf2 g hg; omega⟩
theorem dr_again {w:World} {M:Mem none} {q:Nat} {hv sv fv:Value} (hs:Sat M w) (ho:Own w M q [hv,sv, .int .u32 1, .int .i32 0, .int .u32 0, .int .i32 1] 108):
  Dz 37 #[.pointer (some ⟨q,2,none⟩),fv] w (fun _ w'=>Step Nope M w M w'):=by
 have hT:=hs.r
 refine Fe Tryz.func37 [] rfl<|Ri fun Z=>Qm rfl<|Qq rfl (q_nilp rfl)<|Qf 0 rfl<|Ca rfl ((bool_load1 hs (ho.at (o:=2) rfl)).mono ?_)
 rintro _ w1 ⟨rfl,hs1⟩
 refine Qq rfl (q_not rfl)<|Nx Z<|cw_false rfl<|cw_skip ?_
 have hT:=hT.t hs1
 exact ⟨_,res_nil,hT⟩
end Go.Proofs.YtnnldppehojffaaGreat
/- A drain that is made once, part 2. -/
namespace Go.Proofs.YtnnldppehojffaaGreat
open Go Go.Eng
variable {mb:Option Nat} {w:World} {M:Mem mb}
theorem dr_all_first {w:World} {M:Mem none} {H:HM} {q k:Nat} {l:List El} {hv sv:Value} (hs:Sat M w) (hz:l.length<100000000) (ho:Own w M q [hv,sv, .int .u32 0, .int .i32 0, .int .u32 0, .int .i32 0] 108) (h:HVal M H k l hv):
  Dz 17 #[.pointer (some ⟨q,0,none⟩)] w (fun v w'=>∃ sv2 M',Step (Just q) M w M' w'∧Own w' M' q [hv,sv2, .int .u32 1, .int .i32 0, .int .u32 0, .int .i32 1] 108∧Buf w' M' 29 2 sv2 l.length (els l)∧HVal M' H k l hv∧Buf w' M' 29 2 v l.length (els l)∧(∀ g,v.ownBlock=some g→w.heap.size≤g)∧(∀ g,v.ownBlock=some g→sv2.ownBlock≠some g)∧(sv2=sv∨∀ g,sv2.ownBlock=some g→w.heap.size≤g)):=by
 have hT:=Step.refl (Just q) hs
 have:=ho.1.lt
 refine Fe Tryz.func17 [.tmp 2] rfl<|Ri fun Z=>Na rfl Z<|cw_seq fun _ hK2=>Ri fun Z=>Qm rfl<|Qq rfl (qn rfl)<|Nx Z<|cw_false rfl<|cw_skip<|hK2 _ _<|Ri fun Z=>Qm rfl<|Qq rfl (q_nilp rfl)<|Qf 2 rfl<|Qm rfl<|Qq rfl (q_func rfl rfl)<|Ca rfl ?_
 have hsz:=hT.size
 refine (dr_first hs hz ho h).mono ?_
 rintro _ w1 ⟨M2,hs1,sv2,ho1,hb,h2,hf2⟩
 clear ho; have ho:=ho1; clear ho1
 clear h; have h:=h2; clear h2
 have hlt2:=hb.lt
 have:=ho.1.lt
 have hT:=hT.also hs1
 have hsz2:=hT.size
 refine Nr Z fun Z=>Qm rfl<|Qq rfl (q_nilp rfl)<|Qf 1 rfl<|Q1 rfl (OC ho rfl)<|Ca rfl ((clxe hs1.sat hb.rds (els_one _) O).mono ?_)
 rintro cv w2 ⟨hs2,hcv,hcf⟩
 obtain ⟨ca,cc,rfl,_,_⟩:=hcv.slice
 refine Na rfl Z<|cw_ret ?_
 have ho:=ho.t hs2
 have hb:=hb.t hs2
 have hT:=hT.t hs2
 exact ⟨_,Rt rfl,sv2,_,hT,ho,hb,h,hcv,fun g hg=>by have h1:=hcf g hg; omega,fun g hg h=>by have h1:=hcf g hg; have h2:=hlt2 g h; omega,Or.inr fun g hg=>by have:=hf2 g hg; omega⟩
theorem dr_all_again {w:World} {M:Mem none} {H:HM} {q k:Nat} {l:List El} {hv sv:Value} (hs:Sat M w) (hz:l.length<100000000) (ho:Own w M q [hv,sv, .int .u32 1, .int .i32 0, .int .u32 0, .int .i32 1] 108) (h:HVal M H k l hv) (hb:Buf w M 29 2 sv l.length (els l)):
  Dz 17 #[.pointer (some ⟨q,0,none⟩)] w (fun v w'=>∃ sv2 M',Step (Just q) M w M' w'∧Own w' M' q [hv,sv2, .int .u32 1, .int .i32 0, .int .u32 0, .int .i32 1] 108∧Buf w' M' 29 2 sv2 l.length (els l)∧HVal M' H k l hv∧Buf w' M' 29 2 v l.length (els l)∧(∀ g,v.ownBlock=some g→w.heap.size≤g)∧(∀ g,v.ownBlock=some g→sv2.ownBlock≠some g)∧(sv2=sv∨∀ g,sv2.ownBlock=some g→w.heap.size≤g)):=by
 have hT:=hs.r
 have:=ho.1.lt
 refine Fe Tryz.func17 [.tmp 2] rfl<|Ri fun Z=>Na rfl Z<|cw_seq fun _ hK2=>Ri fun Z=>Qm rfl<|Qq rfl (qn rfl)<|Nx Z<|cw_false rfl<|cw_skip<|hK2 _ _<|Ri fun Z=>Qm rfl<|Qq rfl (q_nilp rfl)<|Qf 2 rfl<|Qm rfl<|Qq rfl (q_func rfl rfl)<|Ca rfl ((dr_again hs ho).mono ?_)
 rintro _ w1 hs1
 have hb:=hb.t hs1
 have hlt2:=hb.lt
 have ho:=ho.t hs1
 have:=ho.1.lt
 have hT:=hT.t hs1
 have hsz2:=hT.size
 refine Nr Z fun Z=>Qm rfl<|Qq rfl (q_nilp rfl)<|Qf 1 rfl<|Q1 rfl (OC ho rfl)<|Ca rfl ((clxe hs1.sat hb.rds (els_one _) O).mono ?_)
 rintro cv w2 ⟨hs2,hcv,hcf⟩
 obtain ⟨ca,cc,rfl,_,_⟩:=hcv.slice
 refine Na rfl Z<|cw_ret ?_
 have ho:=ho.t hs2
 have hb:=hb.t hs2
 have hT:=hT.t hs2
 exact ⟨_,Rt rfl,sv,_,hT.any _,ho,hb,h,hcv,fun g hg=>by have h1:=hcf g hg; omega,fun g hg h=>by have h1:=hcf g hg; have h2:=hlt2 g h; omega,Or.inl rfl⟩
end Go.Proofs.YtnnldppehojffaaGreat
/- Drains compared and counted, part 1. -/
namespace Go.Proofs.YtnnldppehojffaaGreat
open Go Go.Eng
variable {mb:Option Nat} {w:World} {M:Mem mb}
theorem dr_same_1 {w:World} {M:Mem none} {H G:HM} {k k2:Nat} {l l2:List El} {v0 v2:Value} (hs:Sat M w) (h:HVal M H k l v0) (h2:HVal M G k2 l2 v2) (hz:l.length<100000000) (hz2:l2.length<100000000) (hne:l.length=l2.length):
  Dz 19 #[.agg #[v0], .agg #[v2]] w (fun v w'=>v = .bool (decide (l=l2))∧Step Nope M w M w'):=by
 have hT:=hs.r
 have hs1:=h.shape
 have hs2:=h2.shape
 refine Fe Tryz.func19 [.tmp 4] rfl<|Ri fun Z=>Bm hs rfl fun b1 M1 w1 hs1 hb1 e1=>?_
 have:=hs1.size
 refine Bm hs1.sat rfl fun b2 M2 w2 hs2 hb2 e2=>?_
 have hz2:=hs2.size
 refine Na rfl Z<|Rv fun Z=>?_
 have hs3:=Step.drew hs2.sat
 have:=hs3.size
 have hb1:=hs2.le _ _ hb1
 refine Gc 0 1 1 rfl (BD hs3 hb1 rfl)<|Gc 2 5 1 rfl (BD hs3 hb2 rfl)<|Gh 1 7 rfl (Ks [F,T]) (h_call V rfl ?_)
 have h:=h.mono hs1.le |>.mono hs2.le
 refine (hp_size hs3.sat h O).mono ?_
 rintro _ w4 ⟨rfl,hs4⟩
 have:=hs4.size
 have h2:=h2.mono hs1.le |>.mono hs2.le
 have hT:=hT.t hs1 |>.t hs2 |>.t hs3 |>.t hs4
 refine ⟨(by repeat' first | exact trivial | exact BD hs4 hb2 rfl | refine And.intro ?_ ?_),?_⟩
 refine Gh 3 15 rfl (Ks [T]) (h_call V rfl ?_)
 refine (hp_size hs4.sat h2 O).mono ?_
 rintro _ w5 ⟨rfl,hs5⟩
 have:=hs5.size
 refine ⟨trivial,?_⟩
 refine Gq 4 31 rfl (fun _=>qET rfl)<|Gm 5 63 rfl<|at_gq (i:=6) (li:=lb 13 127) (cellsAre _ _ 1 _) rfl V rfl rfl rfl rfl (fun _ h=>q_loadc (n:=1) V rfl h) (BD hs5 hb1 rfl) V<|at_gq (i:=8) (li:=lb 13 383) (cellsAre _ _ 1 _) rfl V rfl rfl rfl rfl (fun _ h=>q_loadc (n:=1) V rfl h) (BD hs5 hb2 rfl) V<|Dgh 7 511 rfl V rfl rfl rfl (h_call V rfl ?_)
 refine (dr_sorted0 hs5.sat h O).mono ?_
 rintro sp w6 ⟨Mp,hs6,hbp,hfp⟩
 have:=hs6.size
 obtain ⟨ap,cp,rfl,_,_⟩:=hbp.slice
 have hT:=hT.t hs5 |>.t hs6
 have h:=h.mono hs6.le
 have h2:=h2.mono hs6.le
 have hb1:=hs6.le _ _ hb1
 have hb2:=hs6.le _ _ hb2
 refine ⟨(by repeat' first | exact trivial | exact BD hs6 hb1 rfl | exact BD hs6 hb2 rfl | refine all_keep ?_ | refine And.intro ?_ ?_),?_⟩
 refine Dgh 9 1023 rfl V rfl rfl rfl (h_call V rfl ?_)
 refine (dr_sorted0 hs6.sat h2 O).mono ?_
 rintro sq w7 ⟨Mq,hs7,hbq,hfq⟩
 have:=hs7.size
 obtain ⟨aq,cq,rfl,_,_⟩:=hbq.slice
 have hb1:=hs7.le _ _ hb1
 have hb2:=hs7.le _ _ hb2
 have hbp:=hbp.t hs7
 have hT:=hT.t hs7
 refine ⟨(by repeat' first | exact trivial | exact BD hs7 hb1 rfl | exact BD hs7 hb2 rfl | refine all_keep ?_ | refine And.intro ?_ ?_),?_⟩
 refine Dgh 10 2047 rfl V rfl rfl rfl (h_call V rfl ?_)
 refine (sl_equal hs7.sat O hbp.rds hbq.rds).mono ?_
 rintro _ w8 ⟨rfl,hs8⟩
 have:=hs8.size
 have hT:=hT.t hs8
 refine ⟨(by repeat' first | exact trivial | exact BD hs8 hb1 rfl | exact BD hs8 hb2 rfl | refine all_keep ?_ | refine And.intro ?_ ?_),?_⟩
 refine Gq 11 4095 rfl (fun _=>q_pick_t rfl rfl)<|Ga 12 8191 rfl<|Dx Z<|cw_ret ?_
 exact ⟨_,Rt rfl,rfl,hT.forget⟩
theorem dr_same_0 {w:World} {M:Mem none} {H G:HM} {k k2:Nat} {l l2:List El} {v0 v2:Value} (hs:Sat M w) (h:HVal M H k l v0) (h2:HVal M G k2 l2 v2) (hz:l.length<100000000) (hz2:l2.length<100000000) (hne:l.length≠l2.length):
  Dz 19 #[.agg #[v0], .agg #[v2]] w (fun v w'=>v = .bool (decide (l=l2))∧Step Nope M w M w'):=by
 have hT:=hs.r
 have hs1:=h.shape
 have hs2:=h2.shape
 refine Fe Tryz.func19 [.tmp 4] rfl<|Ri fun Z=>Bm hs rfl fun b1 M1 w1 hs1 hb1 e1=>?_
 have:=hs1.size
 refine Bm hs1.sat rfl fun b2 M2 w2 hs2 hb2 e2=>?_
 have hz2:=hs2.size
 refine Na rfl Z<|Rv fun Z=>?_
 have hs3:=Step.drew hs2.sat
 have:=hs3.size
 have hb1:=hs2.le _ _ hb1
 refine Gc 0 1 1 rfl (BD hs3 hb1 rfl)<|Gc 2 5 1 rfl (BD hs3 hb2 rfl)<|Gh 1 7 rfl (Ks [F,T]) (h_call V rfl ?_)
 have h:=h.mono hs1.le |>.mono hs2.le
 refine (hp_size hs3.sat h O).mono ?_
 rintro _ w4 ⟨rfl,hs4⟩
 have:=hs4.size
 have h2:=h2.mono hs1.le |>.mono hs2.le
 have hT:=hT.t hs1 |>.t hs2 |>.t hs3 |>.t hs4
 refine ⟨(by repeat' first | exact trivial | exact BD hs4 hb2 rfl | refine And.intro ?_ ?_),?_⟩
 refine Gh 3 15 rfl (Ks [T]) (h_call V rfl ?_)
 refine (hp_size hs4.sat h2 O).mono ?_
 rintro _ w5 ⟨rfl,hs5⟩
 have:=hs5.size
 refine ⟨trivial,?_⟩
 refine Gq 4 31 rfl (fun _=>qEF rfl)<|Gm 5 63 rfl<|Dgs 6 127 rfl V rfl rfl<|Dgs 7 255 rfl V rfl rfl<|Dgs 8 511 rfl V rfl rfl<|Dgs 9 1023 rfl V rfl rfl<|Dgs 10 2047 rfl V rfl rfl<|Gq 11 4095 rfl (fun _=>q_pick_f rfl rfl)<|Ga 12 8191 rfl<|Dx Z<|cw_ret ?_
 have hT:=hT.t hs5
 exact ⟨_,Rt rfl,by rw [decide_eq_false (fun h=>hne (congrArg List.length h))]; rfl,hT.forget⟩
theorem dr_same {w:World} {M:Mem none} {H G:HM} {k k2:Nat} {l l2:List El} {v0 v2:Value} (hs:Sat M w) (h:HVal M H k l v0) (h2:HVal M G k2 l2 v2) (hz:l.length<100000000) (hz2:l2.length<100000000):
  Dz 19 #[.agg #[v0], .agg #[v2]] w (fun v w'=>v = .bool (decide (l=l2))∧Step Nope M w M w'):=by
 by_cases hne:l.length=l2.length
 ·exact dr_same_1 hs h h2 hz hz2 hne
 ·exact dr_same_0 hs h h2 hz hz2 hne
theorem dr_count_n {w:World} {M:Mem none} {H:HM} {k:Nat} {l:List El} {x:El} (hs:Sat M w) (h:HVal M H k l .nilIface) (hz:l.length<100000000):
  Dz 18 #[.agg #[.nilIface], .agg (elc x).toArray] w (fun v w'=>v = .int .i64 ((l.countP fun y=>decide (y=x):Nat):Int)∧Step Nope M w M w'):=by
 have hT:=hs.r
 have hte:l.take ((l.length:Nat):Int).toNat=l:=List.take_of_length_le O
 refine fn_enterM (K':=fun v w'=>v = .int .i64 ((l.countP fun y=>decide (y=x):Nat):Int)∧∃ c M',StepC Nope c M w M' w') Tryz.func18 rfl (rs:=[.tmp 4]) rfl rfl rfl rfl ?_ (fun _ _ _ _ _ _ h=>resT rfl h) ?_
 ·refine cm_seq fun K0a hK0a=>cw_region fun K0b hK0b=>Bm hs rfl fun b1 M1 w1 hs1 hb1 e1=>?_
  have hz1:=hs1.size
  refine Bm hs1.sat rfl fun b2 M2 w2 hs2 hb2 e2=>?_
  have hz2:=hs2.size
  refine Qa rfl<|as_nil (hK0b _ _ (hK0a _ _ ?_))
  clear hK0b hK0a K0b K0a
  refine cm_seq fun K1a hK1a=>cw_region fun K1b hK1b=>?_
  have hT:=hT.t hs1 |>.t hs2
  have:=hT.size
  refine Al (.int .i64 0) hs2.sat rfl fun bn w3 hs3 hon en=>?_
  have hz3:=hs3.size
  have hln:=hon.1.lt
  refine St hs3.sat hon rfl fun w4 hs4 hon=>?_
  have hz4:=hs4.size
  refine as_nil (hK1b _ _ (hK1a _ _ ?_))
  clear hK1b hK1a K1b K1a
  refine cm_seqM<|cm_seq fun K2a hK2a=>cw_drawn V V V rfl rfl fun K2b hK2b=>?_
  have hs5:=Step.drew hs4.sat
  have:=hs5.size
  have hb1:=hs2.le _ _ hb1
  refine Gc 0 1 1 rfl (BD hs5 hb1 rfl)<|Gc 1 3 1 rfl (BD hs5 hb1 rfl)<|Gh 2 7 rfl (Ks [T,F]) (h_call V rfl ?_)
  have h:=h.mono hs1.le |>.mono hs2.le
  refine (hp_size hs5.sat h O).mono ?_
  rintro _ w6 ⟨rfl,hs6⟩
  have:=hs6.size
  have hT:=hT.t hs3 |>.o hs4 |>.t hs5 |>.t hs6
  have hon:=hon.t hs5 |>.t hs6
  refine ⟨(by repeat' first | exact trivial | exact BD hs6 hb1 rfl | refine And.intro ?_ ?_),?_⟩
  refine Gh 3 15 rfl (Ks [T]) (h_call V rfl ?_)
  refine (dr_each (z:=((l.length:Nat):Int)) hs6.sat h).mono ?_
  rintro _ w7 ⟨c1,c2,c3,Mx,rfl,hs7,hc1,hc2,hc3,hcw⟩
  have:=hs7.size
  refine ⟨trivial,?_⟩
  refine Dd V (hK2b _ _ (hK2a _ _ ?_))
  clear hK2b hK2a K2b K2a
  have hT:=hT.t hs7
  have hTs:=hT.size
  have hon:=hon.t hs7
  have hln:=hon.1.lt
  have:=hc2.1.lt
  have hbw:w.heap.size≤bn∧bn≠c2∧w.heap.size≤c2:=by omega
  have hb2:=hs7.le _ _ hb2
  have hxb:=hb2
  refine cm_block ?_
  have h:=h.mono hs7.le
  refine cm_rangeG (M:=Mx) (S:=Just c2) (Z:=fun _=>True) trivial (lb:=[.pointer (some ⟨c1,0,none⟩), .pointer (some ⟨c2,0,none⟩), .pointer (some ⟨c3,0,none⟩)]) (gf:=62) rfl rfl rfl V rfl hs7.sat hTs (dr_each1 hc1 hc2 hc3 h O O O) (fun k hk=>by have hk:k=c2:=hk; constructor <;> omega) (fun i M' W'=>(Own W' M' bn [.int .i64 (((l.take i).countP fun y=>decide (y=x):Nat):Int)] 3∧∃ c,StepC Nope c M w M' W')) (fun i v la M' W'=>∃ bz e,v=elV e∧la=[(3, .pointer (some ⟨b2,0,none⟩)),(5, .pointer (some ⟨bn,0,none⟩)),(6, .pointer (some ⟨bz,0,none⟩))]∧Own W' M' bz (elc e) 29∧bz≠w7.heap.size∧bz≠w7.heap.size+1∧bz≠c2∧bz≠bn∧(Own W' M' bn [.int .i64 (((l.take i).countP fun y=>decide (y=x):Nat):Int)] 3∧∃ c,StepC Nope c M w M' W')) ?_ ?_ ?_ ?_ ?_ ?_
  ·rintro i c9 M' W' M'' W'' _ ⟨h1,c,h3⟩ k
   exact ⟨h1.step k (by rintro (h | h | h) <;> first | (have h:_=c2:=h; omega) | omega),_,h3.trans k (fun b hb h=>by rcases h with h | h | h <;> first | (have h:b=c2:=h; omega) | omega)⟩
  ·exact ⟨hon,_,hT⟩
  ·rintro i v la M' W' M'' W'' ⟨bz,e,rfl,rfl,h0,hz1,hz2,hz3,hz4,h1,c,h3⟩ k
   exact ⟨bz,e,rfl,rfl,h0.step k (by rintro (h | h | h) <;> first | (have h:_=c2:=h; omega) | omega),hz1,hz2,hz3,hz4,h1.step k (by rintro (h | h | h) <;> first | (have h:_=c2:=h; omega) | omega),_,h3.trans k (fun b hb h=>by rcases h with h | h | h <;> first | (have h:b=c2:=h; omega) | omega)⟩
  ·rintro i v r M' W' hv ⟨h1,c,h3⟩ hs' hle hlt
   rw [hte] at hv
   obtain ⟨e,_,rfl⟩:∃ e,_∧v=elV e:=by
    rw [List.getElem?_map] at hv
    obtain ⟨q,h5,h6⟩:=Option.map_eq_some_iff.1 hv
    exact ⟨q,h5,h6.symm⟩
   have hbl:=h1.1.lt
   refine cw_region fun _ Z=>Al (.agg #[(.int .i64 0),(.int .i64 0)]) hs' rfl fun bz w8 hs8 hz ez=>?_
   have:=hs8.size
   refine St hs8.sat hz rfl fun w9 hs9 hz9=>?_
   have hst:Step Nope M' W' M' w9:=hs8.trans hs9 (fun b hb h=>by have h:b=bz:=h; omega)
   have:=hs8.size
   refine as_nil (Z _ _ ⟨_,M', .cons rfl (.cons rfl (.cons rfl (.nil _))),hst,bz,e,rfl,rfl,hz9,by omega,by omega,by omega,by omega,h1.then hst,_,h3.also hst⟩)
  ·rintro i v la r M' W' hv ⟨bz,e,rfl,rfl,hz,hz1,hz2,hz3,hz4,h1,c,h3⟩ hs' hle hlt
   have hxb:=hle _ _ hxb
   have hxs:(l.take (i+1)).countP (fun y=>decide (y=x))=(l.take i).countP (fun y=>decide (y=x))+if e=x then 1 else 0:=by
    rw [hte,List.getElem?_map] at hv
    obtain ⟨y,hy,hye⟩:=Option.map_eq_some_iff.1 hv
    obtain rfl:y=e:=by
     obtain ⟨a,b⟩:=y
     obtain ⟨c,d⟩:=e
     simpa [elV,elc] using hye
    rw [List.take_add_one,hy,List.countP_append]
    simp [List.countP_cons]
   have hcl:(l.take i).countP (fun y=>decide (y=x))≤l.length:=Nat.le_trans List.countP_le_length (by rw [List.length_take]; omega)
   have hbl:=h1.1.lt
   refine cw_block<|Ri fun Z=>Qc 2 rfl (OD hz rfl)<|Qc 2 rfl (BlkR.cells (hs' _ _ _ hxb) rfl)<|Qq rfl (q_eqE (a:=e) (b:=x) (e:=2) V V V V V V rfl rfl)<|Nx Z<|cw_cond rfl (fun hc=>?_) (fun hc=>?_)
   ·have hc:=of_decide_eq_true hc
    rw [if_pos hc] at hxs
    refine cw_region fun _ Z=>Q1 rfl (OC h1 rfl)<|Qq rfl (qA rfl)<|St hs' h1 rfl fun w10 hs10 h1n=>as_nil (Z _ _ ⟨M',hs10.wide fun k _ h=>(by have h:k=bn:=h; exact ⟨fun h2=>by have h2:k=c2:=h2; omega,by omega,by omega⟩),by rw [hxs,Int.natCast_add]; exact h1n,_,h3.trans hs10 (fun k hk h=>by have h:k=bn:=h; omega)⟩)
   ·have hc:=of_decide_eq_false hc
    rw [if_neg hc,Nat.add_zero] at hxs
    exact cw_skip ⟨M',Step.refl _ hs',by rw [hxs]; exact h1,_,h3⟩
  ·rintro M' W' hs' hle _ ⟨h1,c,h3⟩ D hD hDd
   rw [List.length_map,hte,List.take_length] at h1
   refine Ri fun Z=>Q1 rfl (OC h1 rfl)<|Qa rfl ?_
   exact as_nil (Z _ _ (cw_ret ⟨hDd,_,res_tmp rfl res_nil,rfl,_,M',h3⟩))
 ·rintro v w' D hB hD ⟨h0,c,M',h1⟩
  have k:=Step.putObj h1.sat hD (by simp) (.deferred none)
  exact ⟨h0,(h1.trans k (fun b hb h=>by have h:b=D:=h; omega)).free.forget⟩
theorem dr_count_s {w:World} {M:Mem none} {d:TypeId} {u:Value} {H:HM} {k:Nat} {l:List El} {x:El} (hs:Sat M w) (h:HVal M H k l (.iface d u)) (hz:l.length<100000000):
  Dz 18 #[.agg #[(.iface d u)], .agg (elc x).toArray] w (fun v w'=>v = .int .i64 ((l.countP fun y=>decide (y=x):Nat):Int)∧Step Nope M w M w'):=by
 have hT:=hs.r
 have hte:l.take ((l.length:Nat):Int).toNat=l:=List.take_of_length_le O
 refine fn_enterM (K':=fun v w'=>v = .int .i64 ((l.countP fun y=>decide (y=x):Nat):Int)∧∃ c M',StepC Nope c M w M' w') Tryz.func18 rfl (rs:=[.tmp 4]) rfl rfl rfl rfl ?_ (fun _ _ _ _ _ _ h=>resT rfl h) ?_
 ·refine cm_seq fun K0a hK0a=>cw_region fun K0b hK0b=>Bm hs rfl fun b1 M1 w1 hs1 hb1 e1=>?_
  have hz1:=hs1.size
  refine Bm hs1.sat rfl fun b2 M2 w2 hs2 hb2 e2=>?_
  have hz2:=hs2.size
  refine Qa rfl<|as_nil (hK0b _ _ (hK0a _ _ ?_))
  clear hK0b hK0a K0b K0a
  refine cm_seq fun K1a hK1a=>cw_region fun K1b hK1b=>?_
  have hT:=hT.t hs1 |>.t hs2
  have:=hT.size
  refine Al (.int .i64 0) hs2.sat rfl fun bn w3 hs3 hon en=>?_
  have hz3:=hs3.size
  have hln:=hon.1.lt
  refine St hs3.sat hon rfl fun w4 hs4 hon=>?_
  have hz4:=hs4.size
  refine as_nil (hK1b _ _ (hK1a _ _ ?_))
  clear hK1b hK1a K1b K1a
  refine cm_seqM<|cm_seq fun K2a hK2a=>cw_drawn V V V rfl rfl fun K2b hK2b=>?_
  have hs5:=Step.drew hs4.sat
  have:=hs5.size
  have hb1:=hs2.le _ _ hb1
  refine Gc 0 1 1 rfl (BD hs5 hb1 rfl)<|Gc 1 3 1 rfl (BD hs5 hb1 rfl)<|Gh 2 7 rfl (Ks [T,F]) (h_call V rfl ?_)
  have h:=h.mono hs1.le |>.mono hs2.le
  refine (hp_size hs5.sat h O).mono ?_
  rintro _ w6 ⟨rfl,hs6⟩
  have:=hs6.size
  have hT:=hT.t hs3 |>.o hs4 |>.t hs5 |>.t hs6
  have hon:=hon.t hs5 |>.t hs6
  refine ⟨(by repeat' first | exact trivial | exact BD hs6 hb1 rfl | refine And.intro ?_ ?_),?_⟩
  refine Gh 3 15 rfl (Ks [T]) (h_call V rfl ?_)
  refine (dr_each (z:=((l.length:Nat):Int)) hs6.sat h).mono ?_
  rintro _ w7 ⟨c1,c2,c3,Mx,rfl,hs7,hc1,hc2,hc3,hcw⟩
  have:=hs7.size
  refine ⟨trivial,?_⟩
  refine Dd V (hK2b _ _ (hK2a _ _ ?_))
  clear hK2b hK2a K2b K2a
  have hT:=hT.t hs7
  have hTs:=hT.size
  have hon:=hon.t hs7
  have hln:=hon.1.lt
  have:=hc2.1.lt
  have hbw:w.heap.size≤bn∧bn≠c2∧w.heap.size≤c2:=by omega
  have hb2:=hs7.le _ _ hb2
  have hxb:=hb2
  refine cm_block ?_
  have h:=h.mono hs7.le
  refine cm_rangeG (M:=Mx) (S:=Just c2) (Z:=fun _=>True) trivial (lb:=[.pointer (some ⟨c1,0,none⟩), .pointer (some ⟨c2,0,none⟩), .pointer (some ⟨c3,0,none⟩)]) (gf:=62) rfl rfl rfl V rfl hs7.sat hTs (dr_each1 hc1 hc2 hc3 h O O O) (fun k hk=>by have hk:k=c2:=hk; constructor <;> omega) (fun i M' W'=>(Own W' M' bn [.int .i64 (((l.take i).countP fun y=>decide (y=x):Nat):Int)] 3∧∃ c,StepC Nope c M w M' W')) (fun i v la M' W'=>∃ bz e,v=elV e∧la=[(3, .pointer (some ⟨b2,0,none⟩)),(5, .pointer (some ⟨bn,0,none⟩)),(6, .pointer (some ⟨bz,0,none⟩))]∧Own W' M' bz (elc e) 29∧bz≠w7.heap.size∧bz≠w7.heap.size+1∧bz≠c2∧bz≠bn∧(Own W' M' bn [.int .i64 (((l.take i).countP fun y=>decide (y=x):Nat):Int)] 3∧∃ c,StepC Nope c M w M' W')) ?_ ?_ ?_ ?_ ?_ ?_
  ·rintro i c9 M' W' M'' W'' _ ⟨h1,c,h3⟩ k
   exact ⟨h1.step k (by rintro (h | h | h) <;> first | (have h:_=c2:=h; omega) | omega),_,h3.trans k (fun b hb h=>by rcases h with h | h | h <;> first | (have h:b=c2:=h; omega) | omega)⟩
  ·exact ⟨hon,_,hT⟩
  ·rintro i v la M' W' M'' W'' ⟨bz,e,rfl,rfl,h0,hz1,hz2,hz3,hz4,h1,c,h3⟩ k
   exact ⟨bz,e,rfl,rfl,h0.step k (by rintro (h | h | h) <;> first | (have h:_=c2:=h; omega) | omega),hz1,hz2,hz3,hz4,h1.step k (by rintro (h | h | h) <;> first | (have h:_=c2:=h; omega) | omega),_,h3.trans k (fun b hb h=>by rcases h with h | h | h <;> first | (have h:b=c2:=h; omega) | omega)⟩
  ·rintro i v r M' W' hv ⟨h1,c,h3⟩ hs' hle hlt
   rw [hte] at hv
   obtain ⟨e,_,rfl⟩:∃ e,_∧v=elV e:=by
    rw [List.getElem?_map] at hv
    obtain ⟨q,h5,h6⟩:=Option.map_eq_some_iff.1 hv
    exact ⟨q,h5,h6.symm⟩
   have hbl:=h1.1.lt
   refine cw_region fun _ Z=>Al (.agg #[(.int .i64 0),(.int .i64 0)]) hs' rfl fun bz w8 hs8 hz ez=>?_
   have:=hs8.size
   refine St hs8.sat hz rfl fun w9 hs9 hz9=>?_
   have hst:Step Nope M' W' M' w9:=hs8.trans hs9 (fun b hb h=>by have h:b=bz:=h; omega)
   have:=hs8.size
   refine as_nil (Z _ _ ⟨_,M', .cons rfl (.cons rfl (.cons rfl (.nil _))),hst,bz,e,rfl,rfl,hz9,by omega,by omega,by omega,by omega,h1.then hst,_,h3.also hst⟩)
  ·rintro i v la r M' W' hv ⟨bz,e,rfl,rfl,hz,hz1,hz2,hz3,hz4,h1,c,h3⟩ hs' hle hlt
   have hxb:=hle _ _ hxb
   have hxs:(l.take (i+1)).countP (fun y=>decide (y=x))=(l.take i).countP (fun y=>decide (y=x))+if e=x then 1 else 0:=by
    rw [hte,List.getElem?_map] at hv
    obtain ⟨y,hy,hye⟩:=Option.map_eq_some_iff.1 hv
    obtain rfl:y=e:=by
     obtain ⟨a,b⟩:=y
     obtain ⟨c,d⟩:=e
     simpa [elV,elc] using hye
    rw [List.take_add_one,hy,List.countP_append]
    simp [List.countP_cons]
   have hcl:(l.take i).countP (fun y=>decide (y=x))≤l.length:=Nat.le_trans List.countP_le_length (by rw [List.length_take]; omega)
   have hbl:=h1.1.lt
   refine cw_block<|Ri fun Z=>Qc 2 rfl (OD hz rfl)<|Qc 2 rfl (BlkR.cells (hs' _ _ _ hxb) rfl)<|Qq rfl (q_eqE (a:=e) (b:=x) (e:=2) V V V V V V rfl rfl)<|Nx Z<|cw_cond rfl (fun hc=>?_) (fun hc=>?_)
   ·have hc:=of_decide_eq_true hc
    rw [if_pos hc] at hxs
    refine cw_region fun _ Z=>Q1 rfl (OC h1 rfl)<|Qq rfl (qA rfl)<|St hs' h1 rfl fun w10 hs10 h1n=>as_nil (Z _ _ ⟨M',hs10.wide fun k _ h=>(by have h:k=bn:=h; exact ⟨fun h2=>by have h2:k=c2:=h2; omega,by omega,by omega⟩),by rw [hxs,Int.natCast_add]; exact h1n,_,h3.trans hs10 (fun k hk h=>by have h:k=bn:=h; omega)⟩)
   ·have hc:=of_decide_eq_false hc
    rw [if_neg hc,Nat.add_zero] at hxs
    exact cw_skip ⟨M',Step.refl _ hs',by rw [hxs]; exact h1,_,h3⟩
  ·rintro M' W' hs' hle _ ⟨h1,c,h3⟩ D hD hDd
   rw [List.length_map,hte,List.take_length] at h1
   refine Ri fun Z=>Q1 rfl (OC h1 rfl)<|Qa rfl ?_
   exact as_nil (Z _ _ (cw_ret ⟨hDd,_,res_tmp rfl res_nil,rfl,_,M',h3⟩))
 ·rintro v w' D hB hD ⟨h0,c,M',h1⟩
  have k:=Step.putObj h1.sat hD (by simp) (.deferred none)
  exact ⟨h0,(h1.trans k (fun b hb h=>by have h:b=D:=h; omega)).free.forget⟩
theorem dr_count {w:World} {M:Mem none} {H:HM} {k:Nat} {l:List El} {v0:Value} {x:El} (hs:Sat M w) (h:HVal M H k l v0) (hz:l.length<100000000):
  Dz 18 #[.agg #[v0], .agg (elc x).toArray] w (fun v w'=>v = .int .i64 ((l.countP fun y=>decide (y=x):Nat):Int)∧Step Nope M w M w'):=by
 rcases h.shape with rfl | ⟨d,u,rfl⟩
 ·exact dr_count_n hs h hz
 ·exact dr_count_s hs h hz
end Go.Proofs.YtnnldppehojffaaGreat
/- The document s example of layer 16, part 1. -/
namespace Go.Proofs.YtnnldppehojffaaGreat
open Go Go.Eng
variable {mb:Option Nat} {w:World} {M:Mem mb}
theorem of_three {w:World} {M:Mem none} {b:Nat} (hs:Sat M w) (ho:Own w M b [.int .i64 2, .int .i64 0, .int .i64 1, .int .i64 0, .int .i64 2, .int .i64 0] 29):
  Dz 14 #[.pointer none, .int .i64 4, .slice (some ⟨b,0,none⟩) 3 3] w (fun r w'=>∃ v' H M',r = .tuple #[.agg #[v'], .int .i64 0]∧Step Nope M w M' w'∧HVal M' H 4 [((1,0):El),(2,0),(2,0)] v'):=by
 have hb:Buf w M 29 2 (.slice (some ⟨b,0,none⟩) 3 3) 3 (els [((2,0):El),(1,0),(2,0)]):=Own.buf ho (n:=3) rfl (by decide)
 refine (hp_of (k:=4) hs hb.rds (by decide) (by decide) (by decide)).mono ?_
 rintro r w' ⟨v,c,M',h1,h2,h3⟩
 rw [show srtE [((2,0):El),(1,0),(2,0)]=[((1,0):El),(2,0),(2,0)] by decide] at h3
 exact ⟨v,_,_,h1,h2.free,h3⟩
set_option maxRecDepth 4000 in
theorem awake16 {w:World} {M:Mem none} (hs:Sat M w):
  Dz 4 #[] w (fun v w'=>v = .bool true∧Step Nope M w M w'):=by
 have hT:=hs.r
 refine Fe Tryz.func4 [.tmp 0] rfl<|Ri fun Z=>Nar rfl Z fun Z=>Qq rfl (q_build (zs:=[(.int .i64 0),(.int .i64 0)]) (places:=[(0,1),(1,1)]) (cs:=[_,_]) V V rfl rfl)<|Qq rfl (q_build (zs:=[(.int .i64 0),(.int .i64 0)]) (places:=[(0,1),(1,1)]) (cs:=[_,_]) V V rfl rfl)<|Qq rfl (q_build (zs:=[(.int .i64 0),(.int .i64 0)]) (places:=[(0,1),(1,1)]) (cs:=[_,_]) V V rfl rfl)<|as_h rfl (h_buildO (e:=29) (size:=2) (zs:=[.int .i64 0, .int .i64 0, .int .i64 0, .int .i64 0, .int .i64 0, .int .i64 0]) (cs:=[_,_,_,_,_,_]) V V V rfl hs rfl rfl fun bp w1 hs1 hop ep=>?_)
 have:=hs1.size
 refine Ca rfl ((of_three hs1.sat hop).mono ?_)
 rintro _ w2 ⟨vx,Hx,Mx,rfl,hs2,hx⟩
 have:=hs2.size
 obtain ⟨dx,ux,rfl⟩:=hx.iface (by decide)
 refine Qm rfl<|Qe rfl<|Qe rfl ?_
 have hT:=hT.t hs1 |>.t hs2
 have:=hT.size
 refine Al (.agg #[.nilIface]) hs2.sat rfl fun bx w3 hs3 hox ex=>?_
 have:=hs3.size
 have:=hox.1.lt
 refine St hs3.sat hox rfl fun w4 hs4 hox=>?_
 have:=hs4.size
 refine Nar rfl Z fun Z=>Qc 1 rfl (OD hox rfl)<|Ca rfl ((dr_sorted0 hs4.sat hx (by decide)).mono ?_)
 rintro vS w5 ⟨MS,hs5,hbS,hfS⟩
 have:=hs5.size
 replace hbS:Buf w5 MS 29 2 vS 3 (els [((1,0):El),(2,0),(2,0)]):=hbS
 obtain ⟨raS,rcS,rfl,_,_⟩:=hbS.slice
 have hlhbS:=hbS.lt
 refine Nar rfl Z fun Z=>?_
 have hox:=hox.t hs5
 refine Qc 1 rfl (OD hox rfl) ?_
 have hx:=hx.mono hs5.le
 refine Ca rfl ((dr_top2_0 hs5.sat hx (z:=2) (by decide) (by decide) (by decide) (by decide)).mono ?_)
 rintro _ w6 ⟨vt,Mt,rfl,hs6,hbt,hft⟩
 have:=hs6.size
 replace hbt:Buf w6 Mt 29 2 vt 2 (els [((1,0):El),(2,0)]):=hbt
 obtain ⟨rat,rct,rfl,_,_⟩:=hbt.slice
 have hlhbt:=hbt.lt
 refine Qm rfl<|Qe rfl<|Qe rfl<|Qa rfl<|Nar rfl Z fun Z=>?_
 have hox:=hox.t hs6
 refine Qc 1 rfl (OD hox rfl) ?_
 have hx:=hx.mono hs6.le
 refine Ca rfl ((dr_top_1 hs6.sat hx (z:= -1) (by decide) (by decide)).mono ?_)
 rintro _ w7 ⟨vu,Mu,rfl,hs7,hbu,hfu⟩
 have:=hs7.size
 obtain ⟨rau,rcu,rfl,_,_⟩:=hbu.slice
 have hlhbu:=hbu.lt
 refine Qm rfl<|Qe rfl<|Qe rfl<|Qa rfl<|Nar rfl Z fun Z=>Qq rfl (q_build (zs:=[.nilIface]) (places:=[(0,1)]) (cs:=[_]) V V rfl rfl)<|Ca rfl ((dr_top_0 hs7.sat (HVal.none _) (z:=1)).mono ?_)
 rintro _ w8 ⟨vn,Mn,rfl,hs8,hbn,hfn⟩
 have:=hs8.size
 obtain ⟨ran,rcn,rfl,_,_⟩:=hbn.slice
 have hlhbn:=hbn.lt
 refine Qm rfl<|Qe rfl<|Qe rfl<|Qa rfl<|Nar rfl Z fun Z=>?_
 have hox:=hox.t hs7 |>.t hs8
 refine Qc 1 rfl (OD hox rfl)<|Ca rfl ?_
 have hT:=hT.t hs3 |>.o hs4 |>.t hs5 |>.t hs6 |>.t hs7 |>.t hs8
 have:=hT.size
 have hx:=hx.mono hs7.le |>.mono hs8.le
 refine (dr_of hs8.sat hx).mono ?_
 rintro _ w9 ⟨q,M,rfl,hs9,hoq,hqw⟩
 have:=hs9.size
 have:=hoq.1.lt
 refine Nar rfl Z fun Z=>Qm rfl<|Ca rfl ((dr_done_0 hs9.sat hoq).mono ?_)
 rintro _ w10 ⟨rfl,hs10⟩
 have:=hs10.size
 refine Nar rfl Z fun Z=>Qm rfl<|Ca rfl ?_
 have hT:=hT.t hs9 |>.t hs10
 have:=hT.size
 have hx:=hx.mono hs9.le
 have hoq:=hoq.t hs10
 refine (dr_all_first hs10.sat (by decide) hoq hx).mono ?_
 rintro vf w11 ⟨svf,Mf,hs11,hqf,hb2f,_,hbf,hff,hdf,hfrf⟩
 have hT:=hT.trans hs11 (fun b hb h=>by have h:b=q:=h; omega)
 have:=hs11.size
 clear hoq; have hoq:=hqf; clear hqf
 have hbs:=hb2f; clear hb2f
 replace hbf:Buf w11 Mf 29 2 vf 3 (els [((1,0):El),(2,0),(2,0)]):=hbf
 obtain ⟨raf,rcf,rfl,_,_⟩:=hbf.slice
 have hlhbf:=hbf.lt
 have hlhbs:=hbs.lt
 refine Nar rfl Z fun Z=>Qm rfl<|Ca rfl ?_
 have:=hT.size
 have hx:=hx.mono hs11.le
 refine (dr_all_again hs11.sat (by decide) hoq hx hbs).mono ?_
 rintro vg w12 ⟨svg,Mg,hs12,hqg,hb2g,_,hbg,hfg,hdg,hfrg⟩
 have hT:=hT.trans hs12 (fun b hb h=>by have h:b=q:=h; omega)
 have:=hs12.size
 clear hoq; have hoq:=hqg; clear hqg
 clear hbs hlhbs
 have hbs:=hb2g; clear hb2g
 replace hbg:Buf w12 Mg 29 2 vg 3 (els [((1,0):El),(2,0),(2,0)]):=hbg
 obtain ⟨rag,rcg,rfl,_,_⟩:=hbg.slice
 have hlhbg:=hbg.lt
 have hlhbs:=hbs.lt
 refine Nar rfl Z fun Z=>?_
 have hbS:=hbS.t hs6 |>.t hs7 |>.t hs8 |>.t hs9 |>.t hs10 |>.step hs11 (fun g hg h=>by have h:g=q:=h; first | (have:=hlhbS g hg; omega) | (have:=hfS g hg; omega)) |>.step hs12 (fun g hg h=>by have h:g=q:=h; first | (have:=hlhbS g hg; omega) | (have:=hfS g hg; omega))
 have hox:=hox.t hs9 |>.t hs10 |>.step hs11 (fun h=>by have h:_=q:=h; omega) |>.step hs12 (fun h=>by have h:_=q:=h; omega)
 have hx:=hx.mono hs12.le
 obtain ⟨gs,rfl,hbs⟩:∃ g,raS=some ⟨g,0,none⟩∧ElRow 29 w12 Mg g 3 rcS #[(1,0),(2,0),(2,0)]:=by
  rcases hbS.cases with ⟨h,_⟩ | ⟨g,c,h,h2⟩
  ·cases h
  ·cases h
   exact ⟨_,rfl,h2⟩
 refine Qm rfl<|Qq rfl (qET rfl)<|Qm rfl<|as_gh rfl rfl rfl rfl (h_q rfl (q_move rfl) ?_)
 refine as_gh rfl rfl rfl rfl (h_q rfl (ql rfl) ?_)
 refine as_gh rfl rfl rfl rfl (h_q rfl (qET rfl) ?_)
 refine Qq rfl (q_pick_t rfl rfl)<|Qm rfl<|as_gh rfl rfl rfl rfl (h_q rfl (q_move rfl) ?_)
 refine as_gh rfl rfl rfl rfl (h_q rfl (qi 29 2 rfl) ?_)
 refine as_gh rfl rfl rfl rfl (h_q rfl (q_fieldAddr (off:=0) V rfl) ?_)
 refine as_gh rfl rfl rfl rfl (h_q rfl (q_load1 V rfl (show _=some (Value.int .i64 1) from ElRow.fst (d:=#[(1,0),(2,0),(2,0)]) hbs (i:=0) (by decide))) ?_)
 refine as_gh rfl rfl rfl rfl (h_q rfl (qET rfl) ?_)
 refine Qq rfl (q_pick_t rfl rfl)<|Qm rfl<|as_gh rfl rfl rfl rfl (h_q rfl (q_move rfl) ?_)
 refine as_gh rfl rfl rfl rfl (h_q rfl (qi 29 2 rfl) ?_)
 refine as_gh rfl rfl rfl rfl (h_q rfl (q_fieldAddr (off:=0) V rfl) ?_)
 refine as_gh rfl rfl rfl rfl (h_q rfl (q_load1 V rfl (show _=some (Value.int .i64 2) from ElRow.fst (d:=#[(1,0),(2,0),(2,0)]) hbs (i:=2) (by decide))) ?_)
 refine as_gh rfl rfl rfl rfl (h_q rfl (qET rfl) ?_)
 refine Qq rfl (q_pick_t rfl rfl)<|Qm rfl<|as_gh rfl rfl rfl rfl (h_q rfl (q_move rfl) ?_)
 refine as_gh rfl rfl rfl rfl (h_q rfl (qET rfl) ?_)
 refine Qq rfl (q_pick_t rfl rfl)<|Qm rfl<|as_gh rfl rfl rfl rfl (h_q rfl (q_move rfl) ?_)
 refine as_gh rfl rfl rfl rfl (h_q rfl (ql rfl) ?_)
 refine as_gh rfl rfl rfl rfl (h_q rfl (qET rfl) ?_)
 refine Qq rfl (q_pick_t rfl rfl)<|Qm rfl<|as_gh rfl rfl rfl rfl (h_q rfl (q_move rfl) ?_)
 refine as_gh rfl rfl rfl rfl (h_q rfl (qET rfl) ?_)
 refine Qq rfl (q_pick_t rfl rfl)<|Qm rfl<|as_gh rfl rfl rfl rfl (h_q rfl (q_move rfl) ?_)
 refine as_gh rfl rfl rfl rfl (h_q rfl (qET rfl) ?_)
 refine Qq rfl (q_pick_t rfl rfl)<|Qm rfl<|as_gh rfl rfl rfl rfl (h_q rfl (q_loadc (n:=1) V rfl (OD hox rfl)) ?_)
 refine as_gh rfl rfl rfl rfl (h_q rfl (q_build (zs:=[(.int .i64 0),(.int .i64 0)]) (places:=[(0,1),(1,1)]) (cs:=[_,_]) V V rfl rfl) ?_)
 refine as_gh rfl rfl rfl rfl (h_call V rfl ?_)
 refine (dr_count (x:=(2,0)) hs12.sat hx (by decide)).mono ?_
 rintro _ w13 ⟨hv13,hs13⟩
 rw [show (([((1,0):El),(2,0),(2,0)].countP fun y=>decide (y=(2,0)):Nat):Int)=2 by decide] at hv13
 subst hv13
 have:=hs13.size
 refine as_gh rfl rfl rfl rfl (h_q rfl (qET rfl) ?_)
 refine Qq rfl (q_pick_t rfl rfl)<|Qm rfl ?_
 have hox:=hox.t hs13
 refine as_gh rfl rfl rfl rfl (h_q rfl (q_loadc (n:=1) V rfl (OD hox rfl)) ?_)
 refine as_gh rfl rfl rfl rfl (h_q rfl (q_loadc (n:=1) V rfl (OD hox rfl)) ?_)
 refine as_gh rfl rfl rfl rfl (h_call V rfl ?_)
 refine (dr_same hs13.sat hx hx (by decide) (by decide)).mono ?_
 rintro _ w14 ⟨hv14,hs14⟩
 rw [decide_eq_true rfl] at hv14
 subst hv14
 have:=hs14.size
 refine Qq rfl (q_pick_t rfl rfl)<|Qm rfl<|as_gh rfl rfl rfl rfl (h_q rfl (q_move rfl) ?_)
 refine as_gh rfl rfl rfl rfl (h_q rfl (qET rfl) ?_)
 refine Qq rfl (q_pick_t rfl rfl)<|Qm rfl<|as_gh rfl rfl rfl rfl (h_q rfl (q_move rfl) ?_)
 refine as_gh rfl rfl rfl rfl (h_call V rfl ?_)
 have hoq:=hoq.t hs13 |>.t hs14
 refine (dr_done_1 hs14.sat hoq).mono ?_
 rintro _ w15 ⟨rfl,hs15⟩
 have:=hs15.size
 refine as_gh rfl rfl rfl rfl (h_q rfl (qET rfl) ?_)
 refine Qq rfl (q_pick_t rfl rfl)<|Qm rfl<|as_gh rfl rfl rfl rfl (h_q rfl (q_move rfl) ?_)
 refine as_gh rfl rfl rfl rfl (h_q rfl (ql rfl) ?_)
 refine as_gh rfl rfl rfl rfl (h_q rfl (qET rfl) ?_)
 refine Qq rfl (q_pick_t rfl rfl)<|Qm rfl<|as_gh rfl rfl rfl rfl (h_q rfl (q_move rfl) ?_)
 refine as_gh rfl rfl rfl rfl (h_q rfl (ql rfl) ?_)
 refine as_gh rfl rfl rfl rfl (h_q rfl (qET rfl) ?_)
 refine Qq rfl (q_pick_t rfl rfl)<|Na rfl Z<|cw_ret ?_
 have hT:=hT.t hs13 |>.t hs14 |>.t hs15
 exact ⟨_,Rt rfl,rfl,hT.forget⟩
end Go.Proofs.YtnnldppehojffaaGreat
/- The meter s own calls, part 1. -/
namespace Go.Proofs.YtnnldppehojffaaGreat
open Go Go.Eng
variable {mb:Option Nat} {w:World} {M:Mem mb}
end Go.Proofs.YtnnldppehojffaaGreat
namespace Go.Eng
open Go
variable {mb:Option Nat} {w:World} {M:Mem mb}
theorem Step.arm0 {b:Nat} {e:TypeId} {x y:Int} {M:Mem (some b)} {w w':World} (h:Step Nope M.dis w M.dis w') (ho:Own w' M.dis b [.int .i64 x, .int .i64 y] e) (hn:IntKind.wrap .i64 (x+y)=IntKind.wrap .i64 (M.n:Int)):Step Nope M w M w' where
 le:=h.le
 sat:=Sat.arm (n:=M.n) h.sat ho hn
 fresh:=fun c z h0 h1=>h.fresh c z h0 h1
 kept':=fun k hk hS _=>h.kept' k hk hS (fun e=>by cases e)
 size:=h.size
 os:=h.os
 output:=h.output
 tape:=h.tape
 cnt:=rfl
 still:=fun _=>h.still rfl
theorem Own.arm {b k n:Nat} {e:TypeId} {cs:List Value} {M:Mem none} {w:World} (h:Own w M k cs e) (hne:k≠b):Own w (M.arm b n) k cs e:=⟨h.1,h.2.1,fun q=>hne (Option.some.inj q).symm⟩
theorem Step.disarm {b i n:Nat} {M M1:Mem none} {w w1 w2:World} {M2:Mem (some b)} (h1:Step Nope M w M1 w1) (hb:w.heap.size≤b) (h2:StepC Nope i (M1.arm b n) w1 M2 w2):Step Nope M w ⟨M2.f,M.n⟩ w2 where
 le:=h1.le.trans h2.le
 sat:=⟨h2.sat.blk,fun _ h=>by cases h⟩
 fresh:=fun c z h0 h3=>by
  cases hc:M1.f c with
  | none=>exact Nat.le_trans h1.size (h2.fresh c z hc h3)
  | some q=>exact h1.fresh c q h0 hc
 kept':=fun k hk hS hn=>(h2.kept' k (Nat.lt_of_lt_of_le hk h1.size) hS (fun e=>by have:=Option.some.inj e; omega)).trans (h1.kept' k hk hS hn)
 size:=Nat.le_trans h1.size h2.size
 os:=h2.os.trans h1.os
 output:=h2.output.trans h1.output
 tape:=h2.tape.trans h1.tape
 cnt:=rfl
 still:=fun _ k hk hS=>(h2.kept' k (Nat.lt_of_lt_of_le hk h1.size) hS (fun e=>by have:=Option.some.inj e; omega)).trans (h1.still rfl k hk hS)
section
variable {P:Program} {l:Env} {x y:Operand} {ty t u:TypeId} {w:World}
theorem q_subw {a b:Nat} (hx:opv l x=some (wv a)) (hy:opv l y=some (wv b)) (hb:b≤a):Quiet P l (.binOp .sub t x y u) ty w (wv (a-b)):=by
 have h:=q_sub (P:=P) (ty:=ty) (t:=t) (u:=u) (w:=w) hx hy
 rw [show IntKind.wrap .i64 (IntKind.wrap .i64 (a:Int)-IntKind.wrap .i64 (b:Int))=IntKind.wrap .i64 ((a-b:Nat):Int) by simp only [IntKind.wrap_i64]; omega] at h
 exact h
end
theorem row_rd {M:Raw} {l:List El} {v:Value} (h:Row EncE 2 M l v):RdM M 2 v l.length (els l):=by
 obtain ⟨a,c,cs,rfl,h2,h3⟩:=h
 rw [encE_list.1 h3] at h2
 exact h2
theorem rd_row {M:Raw} {l:List El} {a:Option Addr} {n c:Nat} (h:RdM M 2 (.slice a n c) n (els l)) (hn:l.length=n):Row EncE 2 M l (.slice a n c):=by
 subst hn
 exact ⟨a,c,_,rfl,h,encE_list.2 rfl⟩
end Go.Eng
namespace Go.Proofs.YtnnldppehojffaaGreat
open Go Go.Eng
variable {mb:Option Nat} {w:World} {M:Mem mb}
theorem i64_load {b o:Nat} {x:Int} (hs:Sat M w) (hc:w.cell? ⟨b,o,none⟩=some (.int .i64 x)):
  Dz 64 #[.pointer (some ⟨b,o,none⟩)] w (fun v w'=>v = .int .i64 x∧Step Nope M w M w'):=by
 have hT:=hs.r
 refine Fe Tryz.func64 [.tmp 2] rfl<|Ri fun Z=>Nar rfl Z fun Z=>Qm rfl<|Qq rfl (q_nilp rfl)<|Qf 0 rfl<|as_h rfl (h_extern rfl (run_call_load Tryz.func94 V V V .i64 V hc) ?_)
 refine Na rfl Z<|cw_ret ?_
 exact ⟨_,Rt rfl,rfl,hT⟩
theorem m_split {w:World} {M:Mem none} {b T:Nat} {x y:Int} (hs:Sat M w) (ho:Own w M b [.int .i64 x, .int .i64 y] T):
  Dz 30 #[.pointer (some ⟨b,0,none⟩)] w (fun v w'=>v = .tuple #[.int .i64 x, .int .i64 y]∧Step Nope M w M w'∧Own w' M b [.int .i64 x, .int .i64 y] T):=by
 have hT:=hs.r
 refine Fe Tryz.func30 [.tmp 2, .tmp 3] rfl<|Ri fun Z=>Qa rfl<|Na rfl Z<|cw_seq fun _ hK2=>Ri fun Z=>Qm rfl<|Qq rfl (qn rfl)<|Nx Z<|cw_false rfl<|cw_skip<|hK2 _ _<|Rv fun Z=>?_
 have hs1:=Step.drew hs
 have:=hs1.size
 refine Gm 0 1 rfl<|Gq 1 3 rfl (fun _=>q_nilp rfl)<|Gf 2 7 0 rfl<|Gm 4 23 rfl<|Gq 5 55 rfl (fun _=>q_nilp rfl)<|Gf 6 119 1 rfl<|Gh 3 127 rfl rfl (h_call V rfl ?_)
 have ho:=ho.t hs1
 refine (i64_load hs1.sat (ho.at (o:=0) rfl)).mono ?_
 rintro _ w2 ⟨rfl,hs2⟩
 have:=hs2.size
 refine ⟨trivial,?_⟩
 refine Gh 7 255 rfl rfl (h_call V rfl ?_)
 have ho:=ho.t hs2
 refine (i64_load hs2.sat (ho.at (o:=1) rfl)).mono ?_
 rintro _ w3 ⟨rfl,hs3⟩
 have:=hs3.size
 refine ⟨trivial,?_⟩
 refine Ga 8 511 rfl<|Ga 9 1023 rfl<|Dx Z<|cw_ret ?_
 have hT:=hT.t hs1 |>.t hs2 |>.t hs3
 have ho:=ho.t hs3
 exact ⟨_,(res_tmp rfl (Rt rfl)),rfl,hT.forget,ho.back hT.le⟩
theorem m_steps0 {w:World} {M:Mem none} {b T:Nat} {x y:Int} (hs:Sat M w) (ho:Own w M b [.int .i64 x, .int .i64 y] T):
  Dz 8 #[.pointer (some ⟨b,0,none⟩)] w (fun v w'=>v = .int .i64 (IntKind.wrap .i64 (x+y))∧Step Nope M w M w'∧Own w' M b [.int .i64 x, .int .i64 y] T):=by
 have hT:=hs.r
 refine Fe Tryz.func8 [.tmp 2] rfl<|Ri fun Z=>Nar rfl Z fun Z=>Qm rfl<|Ca rfl ((m_split hs ho).mono ?_)
 rintro _ w1 ⟨rfl,hs1,ho1⟩
 clear ho; have ho:=ho1; clear ho1
 have:=hs1.size
 refine Qm rfl<|Qe rfl<|Qe rfl<|Qa rfl<|Nar rfl Z fun Z=>Qm rfl<|Qm rfl<|Qq rfl (q_add rfl rfl)<|Na rfl Z<|cw_ret ?_
 have hT:=hT.t hs1
 exact ⟨_,Rt rfl,rfl,hT.forget,ho⟩
theorem m_steps {w:World} {b:Nat} {M:Mem (some b)} (hs:Sat M w):Dz 8 #[.pointer (some ⟨b,0,none⟩)] w (fun v w'=>v=wv M.n∧Step Nope M w M w'):=by
 obtain ⟨x,y,e,ho,hn⟩:=hs.meter
 exact (m_steps0 hs.dis ho).mono fun v w' ⟨h1,h2,h3⟩=>⟨by rw [h1,hn],Step.arm0 h2 h3 hn⟩
theorem m_since {w:World} {b:Nat} {M:Mem (some b)} (hs:Sat M w) {c:Nat} (hc:c≤M.n):
  Dz 13 #[.pointer (some ⟨b,0,none⟩),wv c] w (fun v w'=>v=wv (M.n-c)∧Step Nope M w M w'):=by
 have hT:=hs.r
 refine Fe Tryz.func13 [.tmp 4] rfl<|Ri fun Z=>Na rfl Z<|cw_seq fun _ hK2=>Ri fun Z=>Qm rfl<|Qq rfl (qn rfl)<|Nx Z<|cw_false rfl<|cw_skip<|hK2 _ _<|Ri fun Z=>Qm rfl<|Ca rfl ((m_steps hs).mono ?_)
 rintro _ w1 ⟨rfl,hs1⟩
 refine Qm rfl<|Qq rfl (q_subw rfl rfl hc)<|Na rfl Z<|cw_ret ?_
 have hT:=hT.t hs1
 exact ⟨_,Rt rfl,rfl,hT⟩
theorem m_new {w:World} {M:Mem none} (hs:Sat M w):
  Dz 6 #[] w (fun v w'=>∃ b,v = .pointer (some ⟨b,0,none⟩)∧Step Nope M w M w'∧Own w' M b [.int .i64 0, .int .i64 0] 83∧w.heap.size≤b):=by
 have hT:=hs.r
 refine Fe Tryz.func6 [.tmp 0] rfl<|Ri fun Z=>Nar rfl Z fun Z=>Qq rfl (q_build (zs:=[(.int .i64 0),(.int .i64 0)]) (places:=[(0,1),(1,1)]) (cs:=[_,_]) V V rfl rfl) ?_
 have:=hT.size
 refine Bo hs rfl fun bm w1 hs1 hom em=>?_
 have:=hs1.size
 have:=hom.1.lt
 refine Na rfl Z<|cw_ret ?_
 have hT:=hT.t hs1
 exact ⟨_,Rt rfl,bm,rfl,hT,hom,by omega⟩
theorem hp_of0 {w:World} {M:Mem none} {k:Nat} {xs:List El} {u:Value} (hs:Sat M w) (hr:Row EncE 2 M xs u) (hn:xs.length≤1000000) (hk:k≠0) (hk6:k≤6):
  Dz 14 #[.pointer none, .int .i64 (k:Nat),u] w (fun r w'=>∃ d q M',r = .tuple #[.agg #[.iface d q], .int .i64 0]∧Step Nope M w M' w'∧HVal M' (insAll xs (HM.empty k)) k (srtE xs) (.iface d q)):=
 (hp_of hs ((row_rd hr).rds _) hn hk hk6).mono fun r w' ⟨v,c,M',h1,h2,h3⟩=>by obtain ⟨d,q,rfl⟩:=h3.iface hk; exact ⟨d,q,⟨M'.f,M.n⟩,h1,h2.free,h3⟩
theorem hp_meld0 {w:World} {M:Mem none} {H G:HM} {k:Nat} {l l2:List El} {v v2:Value} (hs:Sat M w) (h:HVal M H k l v) (h2:HVal M G k l2 v2) (hk:k≠0) (hz:l.length+l2.length<1000000000):
  Dz 20 #[.agg #[v], .pointer none, .agg #[v2]] w (fun r w'=>∃ d q M',r = .tuple #[.agg #[.iface d q], .int .i64 0]∧Step Nope M w M' w'∧HVal M' (H.meld G) k (srtE (l++l2)) (.iface d q)):=
 (hp_meld hs h h2 hk hz).mono fun r w' ⟨v,c,M',h1,h2,h3⟩=>by obtain ⟨d,q,rfl⟩:=h3.iface hk; exact ⟨d,q,⟨M'.f,M.n⟩,h1,h2.free,h3⟩
theorem hp_pop0 {w:World} {M:Mem none} {H:HM} {k:Nat} {x:El} {l:List El} {v:Value} (hs:Sat M w) (h:HVal M H k (x::l) v) (hz:(x::l).length<1000000000):
  Dz 25 #[.agg #[v], .pointer none] w (fun r w'=>∃ d q M',r = .tuple #[.agg #[.iface d q], .int .i64 0]∧Step Nope M w M' w'∧HVal M' H.pop k l (.iface d q)):=
 (hp_pop hs h hz).mono fun r w' ⟨v,M',h1,h2,h3⟩=>by obtain ⟨d,q,rfl⟩:=h3.iface h.ne; exact ⟨d,q,⟨M'.f,M.n⟩,h1,h2.free,h3⟩
theorem insAll_p:∀ (xs:List El) {H:HM},H.ok→H.kind≠0→(insAll xs H).ok∧(insAll xs H).kind=H.kind∧(insAll xs H).els.length=H.els.length+xs.length
 | [],_,h,_=>⟨h,rfl,rfl⟩
 | x::r,H,h,hk=>by
  have hp:=HM.insert_p x h
  have ih:=insAll_p r hp.1 (by rw [hp.2.1]; exact hk)
  have hl:=(hp.2.2 hk).length_eq
  rw [List.length_cons] at hl
  exact ⟨ih.1,ih.2.1.trans hp.2.1,by rw [show insAll (x::r) H=insAll r (H.insert x) from rfl,ih.2.2,hl,List.length_cons]; omega⟩
theorem insAll_e {k:Nat} (hk:k≠0) (hk6:k≤6) (xs:List El):(insAll xs (HM.empty k)).ok∧(insAll xs (HM.empty k)).kind=k∧(insAll xs (HM.empty k)).els.length=xs.length:=by
 have he:=HM.empty_p k
 have h:=insAll_p xs he.1 (by rw [HM.empty_kind hk6]; exact hk)
 rw [he.2,HM.empty_kind hk6] at h
 exact ⟨h.1,h.2.1,by simpa using h.2.2⟩
theorem h15_empty {M:Raw} {k:Nat} (h0:k≠0) (h6:k≤6):H15 M (HM.empty k) [.int .i64 (k:Nat), .int .i64 0, .int .i64 0, .slice none 0 0, .slice none 0 0, .int .i64 0, .int .i64 0, .slice none 0 0, .int .i64 0, .slice none 0 0, .bool false, .int .i64 0, .int .i64 0, .slice none 0 0, .bool false, .int .i64 0, .int .i64 0, .slice none 0 0]:=by
 match k,h0,h6 with
 | 1,_,_=>exact ⟨_,_,_,_,_,⟨_,_,_,_,rfl⟩,rfl⟩
 | 2,_,_=>exact ⟨_,_,_,Row.none,rfl⟩
 | 3,_,_=>exact ⟨_,_,_,_,_,_,h8_nil.2 ⟨_,_,_,_,rfl⟩,by simp only [Pr.nn],rfl⟩
 | 4,_,_=>exact ⟨_,_,_,Row.none,rfl⟩
 | 5,_,_=>exact ⟨_,_,_,_,_,_,⟨_,_,_,_,_,rfl⟩,rfl⟩
 | 6,_,_=>exact ⟨_,_,_,_,_,_,b11_nil.2 ⟨_,_,_,_,rfl⟩,rfl⟩
 | n+7,_,h=>omega
end Go.Proofs.YtnnldppehojffaaGreat
